/- Plain laws of fresh names, symbols of texts, texts of symbols. Its conditions: none. -/
import Derived.Test.YtdamklkdjknnpaaSymP
set_option linter.unusedVariables false
set_option linter.unusedSimpArgs false
namespace Go.Pk

theorem nodup_len {α : Type} [DecidableEq α] : ∀ {l m : List α}, l.Nodup → (∀ x ∈ l, x ∈ m) → l.length ≤ m.length
  | [], m, _, _ => Nat.zero_le _
  | x :: l, m, h, hs => by
    have hx := hs x List.mem_cons_self
    have h' := List.nodup_cons.1 h
    have := nodup_len (l := l) (m := m.erase x) h'.2 fun y hy => (List.mem_erase_of_ne (fun e => h'.1 (by rw [← e]; exact hy))).2 (hs y (List.mem_cons_of_mem _ hy))
    rw [List.length_erase_of_mem hx] at this
    have := List.length_pos_of_mem hx
    simp; omega
theorem nodup_len_eq {α : Type} [DecidableEq α] {l m : List α} (h : l.Nodup) (k : m.Nodup) (hs : ∀ x, x ∈ l ↔ x ∈ m) : l.length = m.length :=
  Nat.le_antisymm (nodup_len h fun x hx => (hs x).1 hx) (nodup_len k fun x hx => (hs x).2 hx)
theorem countP_eq {α : Type} [DecidableEq α] {l m : List α} (h : l.Nodup) (k : m.Nodup) (hs : ∀ x, x ∈ l ↔ x ∈ m) (p : α → Bool) : l.countP p = m.countP p := by
  rw [List.countP_eq_length_filter, List.countP_eq_length_filter]
  exact nodup_len_eq (h.filter _) (k.filter _) fun x => by simp [List.mem_filter, hs]

/-! ### Names -/
def lettersL : Txt := [97, 98, 99, 100, 101, 102, 103, 104, 105, 106, 107, 108, 109, 110, 111, 112, 113, 114, 115, 116, 117, 118, 119, 120, 121, 122, 48, 49, 50, 51, 52, 53, 54, 55, 56, 57, 45, 95]
def letter (i : Nat) : UInt8 := lettersL[i]?.getD 0
def digs (n : Nat) : Txt := if h : n = 0 then [] else letter ((n - 1) % 38) :: digs ((n - 1) / 38)
termination_by n
decreasing_by omega
theorem digs_zero : digs 0 = [] := by rw [digs]; rfl
theorem digs_pos {n : Nat} (h : n ≠ 0) : digs n = letter ((n - 1) % 38) :: digs ((n - 1) / 38) := by rw [digs, dif_neg h]
def nameL (n : Nat) : Txt := (digs n).reverse
def letterIx (c : UInt8) : Nat := lettersL.findIdx (· == c)
def valL : Txt → Nat
  | [] => 0
  | c :: t => letterIx c + 1 + 38 * valL t
theorem letterIx_letter : ∀ i, i < 38 → letterIx (letter i) = i := by decide
theorem valL_digs (n : Nat) : valL (digs n) = n := by
  induction n using Nat.strongRecOn with
  | _ n ih =>
    by_cases h : n = 0
    · subst h; rw [digs_zero]; rfl
    · rw [digs_pos h, valL, ih _ (by omega), letterIx_letter _ (by omega)]; omega
theorem nameL_inj {a b : Nat} (h : nameL a = nameL b) : a = b := by
  have := congrArg List.reverse h
  simp only [nameL, List.reverse_reverse] at this
  rw [← valL_digs a, this, valL_digs]
def afterN (c : UInt8) : UInt8 := if c = 122 then 48 else if c = 57 then 45 else if c = 45 then 95 else if c = 95 then 0 else c + 1
def incL : Txt → Txt
  | [] => [97]
  | c :: t => if 0 < afterN c then afterN c :: t else 97 :: incL t
theorem after_letter : ∀ i, i < 37 → afterN (letter i) = letter (i + 1) ∧ 0 < letter (i + 1) := by decide
theorem after_last : afterN (letter 37) = 0 := by decide
theorem digs_succ (n : Nat) : digs (n + 1) = incL (digs n) := by
  induction n using Nat.strongRecOn with
  | _ n ih =>
    rw [digs_pos (by omega), Nat.add_sub_cancel]
    by_cases h : n = 0
    · subst h; rw [digs_zero]; decide
    · rw [digs_pos h, incL]
      by_cases h37 : (n - 1) % 38 < 37
      · obtain ⟨e1, e2⟩ := after_letter _ h37
        rw [e1, if_pos e2]
        rw [show n % 38 = (n - 1) % 38 + 1 by omega, show n / 38 = (n - 1) / 38 by omega]
      · have h38 : (n - 1) % 38 = 37 := by omega
        rw [h38, after_last, if_neg (by decide), ← ih _ (by omega)]
        rw [show n % 38 = 0 by omega, show n / 38 = (n - 1) / 38 + 1 by omega]
        rfl
def nextL (s : Txt) : Txt := (incL s.reverse).reverse
theorem nameL_succ (n : Nat) : nameL (n + 1) = nextL (nameL n) := by
  unfold nameL nextL; rw [digs_succ, List.reverse_reverse]

/-- the first name that is none of the texts -/
def IsFresh (l : List Txt) (n : Nat) : Prop := 1 ≤ n ∧ nameL n ∉ l ∧ ∀ k, 1 ≤ k → k < n → nameL k ∈ l
theorem fresh_le {l : List Txt} {n : Nat} (h : ∀ k, 1 ≤ k → k < n → nameL k ∈ l) : n ≤ l.length + 1 := by
  have := nodup_len (l := (List.range' 1 (n - 1)).map nameL) (m := l) (by
    refine List.pairwise_map.2 ((List.nodup_range' (s := 1) (n := n - 1)).imp fun {a b} hab e => hab (nameL_inj e)) ) (by
    intro x hx
    obtain ⟨k, hk, rfl⟩ := List.mem_map.1 hx
    rw [List.mem_range'_1] at hk
    exact h k (by omega) (by omega))
  simp at this; omega
theorem fresh_ex (l : List Txt) : ∃ n, IsFresh l n := by
  have key : ∀ m, (∀ k, 1 ≤ k → k ≤ m → nameL k ∈ l) ∨ ∃ n, IsFresh l n := by
    intro m
    induction m with
    | zero => exact .inl fun k h1 h2 => by omega
    | succ m ih =>
      rcases ih with ih | ih
      · by_cases h : nameL (m + 1) ∈ l
        · refine .inl fun k h1 h2 => ?_
          by_cases hk : k = m + 1
          · rw [hk]; exact h
          · exact ih k h1 (by omega)
        · exact .inr ⟨m + 1, by omega, h, fun k h1 h2 => ih k h1 (by omega)⟩
      · exact .inr ih
  rcases key (l.length + 1) with h | h
  · have := fresh_le (n := l.length + 2) fun k h1 h2 => h k h1 (by omega)
    omega
  · exact h
noncomputable def freshIx (l : List Txt) : Nat := Classical.choose (fresh_ex l)
theorem freshIx_is (l : List Txt) : IsFresh l (freshIx l) := Classical.choose_spec (fresh_ex l)
theorem isFresh_uniq {l m : List Txt} (hs : ∀ x, x ∈ l ↔ x ∈ m) {a b : Nat} (h : IsFresh l a) (k : IsFresh m b) : a = b := by
  obtain ⟨h1, h2, h3⟩ := h
  obtain ⟨k1, k2, k3⟩ := k
  rcases Nat.lt_trichotomy a b with c | c | c
  · exact absurd ((hs _).2 (k3 a h1 c)) h2
  · exact c
  · exact absurd ((hs _).1 (h3 b k1 c)) k2
noncomputable def freshT (l : List Txt) : Txt := nameL (freshIx l)
theorem freshT_eq {l m : List Txt} (hs : ∀ x, x ∈ l ↔ x ∈ m) : freshT l = freshT m := by
  unfold freshT; rw [isFresh_uniq hs (freshIx_is l) (freshIx_is m)]
theorem freshT_of {l : List Txt} {n : Nat} (h : IsFresh l n) : freshT l = nameL n := by
  unfold freshT; rw [isFresh_uniq (fun _ => Iff.rfl) (freshIx_is l) h]
theorem freshIx_le (l : List Txt) : freshIx l ≤ l.length + 1 := fresh_le (freshIx_is l).2.2
theorem freshT_not (l : List Txt) : freshT l ∉ l := (freshIx_is l).2.1

/-! ### Texts, each once -/
def textsL (l : List Txt) : List Txt := l.foldl (fun out s => if s ∈ out then out else out ++ [s]) []
theorem textsL_snoc (l : List Txt) (s : Txt) : textsL (l ++ [s]) = if s ∈ textsL l then textsL l else textsL l ++ [s] := by
  unfold textsL; rw [List.foldl_append]; rfl
theorem snoc_ind {α : Type} {P : List α → Prop} (h0 : P []) (h1 : ∀ l x, P l → P (l ++ [x])) : ∀ l, P l := by
  have key : ∀ m : List α, P m.reverse := by
    intro m
    induction m with
    | nil => exact h0
    | cons x m ih => rw [List.reverse_cons]; exact h1 _ _ ih
  intro l
  have := key l.reverse
  rwa [List.reverse_reverse] at this
theorem textsL_law (l : List Txt) : (textsL l).Nodup ∧ (∀ x, x ∈ textsL l ↔ x ∈ l) ∧ (textsL l).length ≤ l.length := by
  refine snoc_ind (P := fun l => (textsL l).Nodup ∧ (∀ x, x ∈ textsL l ↔ x ∈ l) ∧ (textsL l).length ≤ l.length) ?_ ?_ l
  · exact ⟨List.nodup_nil, fun x => Iff.rfl, Nat.le_refl _⟩
  · intro l s ih
    obtain ⟨h1, h2, h3⟩ := ih
    rw [textsL_snoc]
    split
    · rename_i hm
      refine ⟨h1, fun x => ?_, by simp; omega⟩
      rw [h2, List.mem_append]
      refine ⟨.inl, fun h => h.elim id fun h => ?_⟩
      have : x = s := by simpa using h
      subst this; exact (h2 x).1 hm
    · rename_i hm
      refine ⟨List.nodup_append.2 ⟨h1, by simp, fun a ha b hb e => ?_⟩, fun x => by rw [List.mem_append, List.mem_append, h2], by simp; omega⟩
      have : b = s := by simpa using hb
      subst this; subst e; exact hm ha
theorem textsL_setL (l : List Txt) : ∀ x, x ∈ textsL l ↔ x ∈ setL l := fun x => by rw [(textsL_law l).2.1, mem_setL]
theorem textsL_len (l : List Txt) : (textsL l).length = (setL l).length := nodup_len_eq (textsL_law l).1 (setL_nodup l) (textsL_setL l)

def ofT (ts : List Txt) (s : Txt) : Int := if s ∈ ts then ((ts.countP fun x => decide (x < s) : Nat) : Int) else (ts.length : Int)
theorem ofT_eq {ts us : List Txt} (h : ts.Nodup) (k : us.Nodup) (hs : ∀ x, x ∈ ts ↔ x ∈ us) (s : Txt) : ofT ts s = ofT us s := by
  unfold ofT; rw [countP_eq h k hs, nodup_len_eq h k hs]; simp only [hs]
theorem countP_sorted : ∀ {ts : List Txt}, ts.Pairwise (· < ·) → ∀ (i : Nat) (h : i < ts.length), (ts.countP fun x => decide (x < ts[i])) = i
  | t :: ts, hp, i, h => by
    have hp' := List.pairwise_cons.1 hp
    cases i with
    | zero =>
      rw [List.countP_eq_zero]
      intro x hx
      simp only [decide_eq_true_eq, List.getElem_cons_zero]
      intro hlt
      rcases List.mem_cons.1 hx with rfl | hx
      · exact List.lt_irrefl _ hlt
      · exact List.lt_irrefl _ (List.lt_trans hlt (hp'.1 x hx))
    | succ i =>
      have hi : i < ts.length := by simpa using h
      simp only [List.getElem_cons_succ]
      rw [List.countP_cons, countP_sorted hp'.2 i hi, if_pos]
      simp only [decide_eq_true_eq]; exact hp'.1 _ (List.getElem_mem hi)
theorem ofT_get {ts : List Txt} (hp : ts.Pairwise (· < ·)) {i : Nat} (h : i < ts.length) : ofT ts ts[i] = (i : Int) := by
  unfold ofT; rw [if_pos (List.getElem_mem h), countP_sorted hp i h]
noncomputable def textT (ts : List Txt) (i : Int) : Txt := if i = (ts.length : Int) then freshT ts else if 0 ≤ i ∧ i < (ts.length : Int) then ts[i.toNat]?.getD [] else []
end Go.Pk
