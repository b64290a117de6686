/- Contracts of the document's answers of layer 14. Its conditions: none. -/
import Derived.Test.YtdamklkdjknnpaaSymG
set_option linter.unusedVariables false
set_option linter.unusedSimpArgs false
set_option maxRecDepth 20000
namespace Go.Proofs.Ytdamklkdjknnpaa
open Go.Pk
open Go.RowKit (Below)

theorem lt_app : ∀ (p a b : Txt), p ++ a < p ++ b ↔ a < b
  | [], a, b => Iff.rfl
  | x :: p, a, b => by
    rw [List.cons_append, List.cons_append, List.cons_lt_cons_iff, lt_app p a b]
    simp
theorem lt_diff {s t : Txt} {n : Nat} (hs : n < s.length) (ht : n < t.length) (e : s.take n = t.take n) (hne : s[n] ≠ t[n]) : (s < t ↔ s[n] < t[n]) := by
  have e1 : s = s.take n ++ s[n] :: s.drop (n + 1) := by rw [← List.drop_eq_getElem_cons hs, List.take_append_drop]
  have e2 : t = s.take n ++ t[n] :: t.drop (n + 1) := by rw [e, ← List.drop_eq_getElem_cons ht, List.take_append_drop]
  have e3 : (s < t) = (s.take n ++ s[n] :: s.drop (n + 1) < s.take n ++ t[n] :: t.drop (n + 1)) := by rw [← e1, ← e2]
  rw [e3, lt_app, List.cons_lt_cons_iff]
  simp [hne]
theorem lt_short {s t : Txt} {n : Nat} (hs : n ≤ s.length) (ht : n ≤ t.length) (he : n = s.length ∨ n = t.length) (e : s.take n = t.take n) : (s < t ↔ s.length < t.length) := by
  have e1 : s = s.take n ++ s.drop n := (List.take_append_drop n s).symm
  have e2 : t = s.take n ++ t.drop n := by rw [e, List.take_append_drop]
  have e3 : (s < t) = (s.take n ++ s.drop n < s.take n ++ t.drop n) := by rw [← e1, ← e2]
  rw [e3, lt_app]
  by_cases h1 : n = s.length
  · have : s.drop n = [] := List.drop_eq_nil_iff.2 (by omega)
    rw [this]
    cases hd : t.drop n with
    | nil =>
      have := List.drop_eq_nil_iff.1 hd
      constructor
      · intro h; exact absurd h (List.lt_irrefl _)
      · intro h; omega
    | cons y ys =>
      have h2 : ¬ t.length ≤ n := fun h => by rw [List.drop_eq_nil_iff.2 h] at hd; cases hd
      constructor
      · intro _; omega
      · intro _; exact List.nil_lt_cons _ _
  · have h2 : n = t.length := he.resolve_left h1
    have : t.drop n = [] := List.drop_eq_nil_iff.2 (by omega)
    rw [this]
    constructor
    · intro h; exact absurd h (List.not_lt_nil _)
    · intro h; omega

theorem ref14_less_ok (s t : Txt) (hs : s.length ≤ 1000000) (ht : t.length ≤ 1000000) (w : World) :
    Calls Try.prog f_ref14_less #[.string (mkS s), .string (mkS t)] w (Ret fun v w' => v = .bool (decide (s < t)) ∧ Below w.heap.size w w') := by
  apply run_ref14_less
  unfold vc_ref14_less
  refine ⟨fun m i w' => ∃ n : Nat, n ≤ s.length ∧ n ≤ t.length ∧ i = (n : Int) ∧ m = s.length - n ∧ s.take n = t.take n ∧ Below w.heap.size w w', ⟨_, 0, by omega, by omega, rfl, rfl, rfl, Below.refl _ _⟩, ?_⟩
  intro m i
  refine AllJ.of ?_ _
  rintro w' ⟨n, hn1, hn2, rfl, rfl, he, hb⟩
  refine ⟨fun w'' => w'' = w' ∧ n < s.length ∧ n < t.length, ?_, ?_⟩
  · refine BCase.of (fun h => ?_) (fun h => ?_) <;> simp at h
    · refine BCase.of (fun h2 => ?_) (fun h2 => ?_) <;> simp at h2
      · exact ⟨rfl, h, h2⟩
      · refine ⟨?_, hb⟩
        congr 1
        rw [Bool.eq_iff_iff, decide_eq_true_eq, decide_eq_true_eq, lt_short hn1 hn2 (.inr (by omega)) he]; omega
    · refine ⟨?_, hb⟩
      congr 1
      rw [Bool.eq_iff_iff, decide_eq_true_eq, decide_eq_true_eq, lt_short hn1 hn2 (.inl (by omega)) he]; omega
  · refine AllJ.of ?_ _
    rintro _ ⟨rfl, h1, h2⟩
    refine ⟨⟨by omega, by omega⟩, ⟨by omega, by omega⟩, ?_⟩
    intro wq hq
    rw [byteAt_get (by simpa using h1), byteAt_get (by simpa using h2)]
    simp only [Int.toNat_natCast]
    have hB := below_step hb hq hb.size
    refine BCase.of (fun h => ?_) (fun h => ?_) <;> simp at h
    · refine ⟨⟨by omega, by omega⟩, ⟨by omega, by omega⟩, ?_⟩
      intro wq2 hq2
      have hne : s[n] ≠ t[n] := fun e => h (by rw [e])
      refine ⟨?_, below_step hB hq2 hB.size⟩
      congr 1
      rw [Bool.eq_iff_iff, decide_eq_true_eq, decide_eq_true_eq, lt_diff h1 h2 he hne]
      rw [UInt8.lt_iff_toNat_lt]; omega
    · have heq : s[n] = t[n] := UInt8.toNat_inj.1 (by omega)
      refine ⟨s.length - (n + 1), by omega, n + 1, by omega, by omega, ?_, rfl, ?_, hB⟩
      · rw [wrap_i64 (by omega) (by omega)]; omega
      · rw [take_snoc h1, take_snoc h2, he, heq]

theorem ref14_has_ok (a : Option Addr) (n c : Nat) (l : List Txt) (s : Txt) (w : World) (hs : Sl tS w AllB a n c l) :
    Calls Try.prog f_ref14_has #[.slice a n c, .string (mkS s)] w (Ret fun v w' => v = .bool (decide (s ∈ l)) ∧ w' = w) := by
  apply run_ref14_has
  unfold vc_ref14_has
  have hn := hs.len
  have hle := hs.le
  subst hn
  refine ⟨fun m i w' => w' = w ∧ ∃ k : Nat, k ≤ l.length ∧ i = (k : Int) ∧ m = l.length - k ∧ s ∉ l.take k, ⟨_, rfl, 0, by omega, rfl, rfl, by simp⟩, ?_⟩
  intro m i
  refine AllJ.of ?_ _
  rintro _ ⟨rfl, k, hk, rfl, rfl, hno⟩
  refine BCase.of (fun h => ?_) (fun h => ?_) <;> simp at h
  · obtain ⟨v, hv, hrep⟩ := hs.load1 (i := (k : Int)) un_string rfl rfl (by simpa using h)
    obtain ⟨rfl, -⟩ := str_rep hrep
    simp only [Int.toNat_natCast] at hv
    refine ⟨⟨⟨by omega, by omega⟩, hs.isSome h⟩, _, hv, ?_⟩
    refine BCase.of (fun h2 => ?_) (fun h2 => ?_) <;> simp at h2
    · refine ⟨?_, rfl⟩
      rw [← h2]; simp
    · refine ⟨l.length - (k + 1), by omega, rfl, k + 1, by omega, ?_, rfl, ?_⟩
      · rw [wrap_i64 (by omega) (by omega)]; omega
      · rw [take_snoc h, List.mem_append]
        rintro (h3 | h3)
        · exact hno h3
        · simp at h3; exact h2 h3.symm
  · have : k = l.length := by omega
    subst this
    rw [List.take_length] at hno
    exact ⟨by simp [hno], rfl⟩

theorem ref14_Texts_ok (a : Option Addr) (n c : Nat) (l : List Txt) (hl : l.length ≤ 1000000) (w : World) (hs : Sl tS w AllB a n c l) :
    Calls Try.prog f_ref14_Texts #[.slice a n c] w (Ret fun v w' => ∃ a' n' c', v = .slice a' n' c' ∧ Ow tS T_string w' NoB a' n' c' (textsL l) ∧ Fresh w.heap.size a' ∧ Below w.heap.size w w') := by
  apply run_ref14_Texts
  unfold vc_ref14_Texts
  have hn := hs.len
  subst hn
  intro k0 w0 hk0 hw0
  have hB0 : Below w.heap.size w w0 := hw0 ▸ below_alloc _ _
  have ho0 : Ow tS T_string w0 NoB (some ⟨k0, 0, none⟩) 0 0 [] := Ow.newF (flat_str _) hk0 hw0 (RepL.nil _ _ _) (Nat.zero_le _)
  refine ⟨fun m a' n' c' i w' => ∃ k : Nat, k ≤ l.length ∧ i = (k : Int) ∧ m = l.length - k ∧ Ow tS T_string w' NoB a' n' c' (textsL (l.take k)) ∧ Fresh w.heap.size a' ∧ Below w.heap.size w w',
    ⟨_, 0, by omega, rfl, rfl, ho0, fresh_new hk0, hB0⟩, ?_⟩
  intro m a' n' c' i
  refine AllJ.of ?_ _
  rintro w' ⟨k, hk, rfl, rfl, ho, hf, hb⟩
  refine BCase.of (fun h => ?_) (fun h => ?_) <;> simp at h
  · have hs' := hs.below hb
    obtain ⟨v, hv, hrep⟩ := hs'.load1 (i := (k : Int)) un_string rfl rfl (by simpa using h)
    obtain ⟨rfl, -⟩ := str_rep hrep
    simp only [Int.toNat_natCast] at hv
    refine ⟨⟨⟨by omega, by omega⟩, hs.isSome h⟩, _, hv, ?_⟩
    refine callK (ref14_has_ok a' n' c' _ _ w' ho.all) ?_
    rintro _ w' ⟨rfl, rfl⟩
    refine ⟨_, rfl, ?_⟩
    have e1 : IntKind.i64.wrap ((k : Int) + 1) = ((k + 1 : Nat) : Int) := by rw [wrap_i64 (by omega) (by omega)]; omega
    rw [e1]
    have hlen := (textsL_law (l.take k)).2.2
    rw [List.length_take] at hlen
    refine BCase.of (fun h2 => ?_) (fun h2 => ?_) <;> simp at h2
    · intro k1 w3 hk1 hw3
      have ho3 := ho.below (hw3 ▸ below_alloc w' (.cells #[.string (mkS l[k])] T_string) : Below w'.heap.size w' w3)
      have hsrc : Src tS w3 NoB (some ⟨k1, 0, none⟩) 1 [l[k]] := Src.new1F (flat_str _) hk1 hw3 (rep_str trivial)
      obtain ⟨w4, a4, n4, c4, hr, ho4, hgr, hfr⟩ := append_own (ty := T_sl_string) un_sl_string tf_string (by decide) ho3 (fun _ _ h => h) (cm := 1) hsrc (by simp; omega)
      refine ⟨w4, a4, n4, c4, hr, l.length - (k + 1), by omega, k + 1, by omega, rfl, rfl, ?_, ?_, ?_⟩
      · rw [take_snoc h, textsL_snoc, if_neg h2]; exact ho4
      · subst hw3; exact hf.app (by have := hb.size; simp; omega) hfr
      · subst hw3; exact (below_step hb (below_alloc _ _) hb.size).grown hgr (by have := hb.size; simp; omega) hf
    · refine ⟨l.length - (k + 1), by omega, k + 1, by omega, rfl, rfl, ?_, hf, hb⟩
      rw [take_snoc h, textsL_snoc, if_pos h2]; exact ho
  · have : k = l.length := by omega
    subst this
    rw [List.take_length] at ho
    exact ⟨_, _, _, rfl, ho, hf, hb⟩

theorem ref14_Of_ok (a : Option Addr) (n c : Nat) (l : List Txt) (s : Txt) (hl : l.length ≤ 1000000) (hx : ∀ x ∈ l, x.length ≤ 1000000) (hs1 : s.length ≤ 1000000) (w : World) (hs : Sl tS w AllB a n c l) :
    Calls Try.prog f_ref14_Of #[.slice a n c, .string (mkS s)] w (Ret fun v w' => v = .int .i64 (ofT (textsL l) s) ∧ Below w.heap.size w w') := by
  apply run_ref14_Of
  unfold vc_ref14_Of
  refine callK (ref14_Texts_ok a n c l hl w hs) ?_
  rintro _ w1 ⟨a1, n1, c1, rfl, ho, hf, hb⟩
  refine ⟨_, _, _, rfl, ?_⟩
  refine callK (ref14_has_ok a1 n1 c1 _ s w1 ho.all) ?_
  rintro _ w1 ⟨rfl, rfl⟩
  have hn1 := ho.len
  obtain ⟨hT1, hT2, hT3⟩ := textsL_law l
  generalize textsL l = t at *
  subst hn1
  refine ⟨_, rfl, ?_⟩
  refine BCase.of (fun h => ?_) (fun h => ?_) <;> simp at h
  · refine ⟨?_, hb⟩
    unfold ofT; rw [if_neg h]
  · refine ⟨fun m q i w' => ∃ k : Nat, k ≤ t.length ∧ i = (k : Int) ∧ q = (((t.take k).countP fun x => decide (x < s) : Nat) : Int) ∧ m = t.length - k ∧ Below w1.heap.size w1 w',
      ⟨_, 0, by omega, rfl, rfl, rfl, Below.refl _ _⟩, ?_⟩
    intro m q i
    refine AllJ.of ?_ _
    rintro w' ⟨k, hk, rfl, rfl, rfl, hb'⟩
    have hsl := (ho.below hb').all
    refine BCase.of (fun h2 => ?_) (fun h2 => ?_) <;> simp at h2
    · obtain ⟨v, hv, hrep⟩ := hsl.load1 (i := (k : Int)) un_string rfl rfl (by simpa using h2)
      obtain ⟨rfl, -⟩ := str_rep hrep
      simp only [Int.toNat_natCast] at hv
      refine ⟨⟨⟨by omega, by omega⟩, hsl.isSome h2⟩, _, hv, ?_⟩
      refine callK (ref14_less_ok _ s (hx _ ((hT2 _).1 (List.getElem_mem h2))) hs1 w') ?_
      rintro _ w3 ⟨rfl, hb3⟩
      refine ⟨_, rfl, ?_⟩
      have hc := List.countP_le_length (p := fun x => decide (x < s)) (l := t.take k)
      rw [List.length_take] at hc
      have e1 : IntKind.i64.wrap ((k : Int) + 1) = ((k + 1 : Nat) : Int) := by rw [wrap_i64 (by omega) (by omega)]; omega
      rw [e1]
      refine BCase.of (fun h4 => ?_) (fun h4 => ?_) <;> simp only [decide_eq_true_eq, decide_eq_false_iff_not] at h4
      · refine ⟨t.length - (k + 1), by omega, k + 1, by omega, rfl, ?_, rfl, below_step hb' hb3 hb'.size⟩
        rw [wrap_i64 (by omega) (by omega), take_snoc h2, List.countP_append]
        simp [h4]
      · refine ⟨t.length - (k + 1), by omega, k + 1, by omega, rfl, ?_, rfl, below_step hb' hb3 hb'.size⟩
        rw [take_snoc h2, List.countP_append]
        simp [h4]
    · have : k = t.length := by omega
      subst this
      rw [List.take_length]
      refine ⟨?_, below_step hb hb' hb.size⟩
      unfold ofT; rw [if_pos h]
end Go.Proofs.Ytdamklkdjknnpaa
