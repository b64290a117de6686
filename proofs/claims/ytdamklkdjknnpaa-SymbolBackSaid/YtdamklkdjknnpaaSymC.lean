/- Contracts of FromBytes and Same of layer 14. Its conditions: none. -/
import Derived.Test.YtdamklkdjknnpaaSymB
set_option linter.unusedVariables false
set_option linter.unusedSimpArgs false
set_option maxRecDepth 20000
namespace Go.Proofs.Ytdamklkdjknnpaa
open Go.Pk
open Go.RowKit (Below)
def isSym (i : Int) : Bool := decide (0 ≤ i) && decide (i < 92)
def chr (i : Int) : UInt8 := allPath[i.toNat]?.getD 0
def okL (l : List Int) : Bool := l.all isSym
def textOf (l : List Int) : List UInt8 := if okL l then l.map chr else []
theorem allPath_len : allPath.length = 92 := by decide +kernel
theorem okL_bad {l : List Int} {k : Nat} (hk : k < l.length) (h : ¬ (0 ≤ l[k] ∧ l[k] < 92)) : okL l = false := by
  rw [Bool.eq_false_iff]
  intro hg
  unfold okL at hg
  rw [List.all_eq_true] at hg
  have := hg l[k] (List.getElem_mem hk)
  simp [isSym] at this; omega
theorem okL_step {l : List Int} {k : Nat} (hk : k < l.length) (hg : okL (l.take k) = true) (h0 : 0 ≤ l[k]) (h1 : l[k] < 92) : okL (l.take (k + 1)) = true := by
  unfold okL at *
  rw [take_succ' hk, List.all_append, hg]
  simp [isSym, h0, h1]
def FromPost (l : List Int) (w : World) (v : Value) (w' : World) : Prop := v = .tuple #[.string (mkS (textOf l)), .bool (okL l)] ∧ Below w.heap.size w w'
theorem from_bad {l : List Int} {w w' : World} (hg : okL l = false) (hb : Below w.heap.size w w') : FromPost l w (.tuple #[.string (mkS []), .bool false]) w' := by
  refine ⟨?_, hb⟩
  simp [textOf, hg]
theorem from_good {l : List Int} {w w' : World} (hg : okL l = true) (hb : Below w.heap.size w w') : FromPost l w (.tuple #[.string (mkS (l.map chr)), .bool true]) w' := by
  refine ⟨?_, hb⟩
  simp [textOf, hg]

theorem symbol_FromBytes_ok {l : List Int} (hl : l.length ≤ 1000000) {w : World} {A : Bl} {a : Option Addr} {n c : Nat} (hs : Sl tI64 w A a n c l) : Calls Try.prog f_symbol_FromBytes #[.slice a n c] w (Ret (FromPost l w)) := by
  have hn := hs.len
  subst hn
  apply run_symbol_FromBytes
  unfold vc_symbol_FromBytes
  refine callK (symbol_bytes_ok w) ?_
  rintro _ w1 ⟨rfl, hb1⟩
  refine ⟨_, rfl, ?_⟩
  refine ⟨fun m a l1 c k w' => ∃ n : Nat, n ≤ l.length ∧ k = (n : Int) ∧ m = l.length - n ∧ okL (l.take n) = true ∧ Ow tU8 T_uint8 w' NoB a l1 c ((l.take n).map chr) ∧ Fresh w1.heap.size a ∧ Below w1.heap.size w1 w',
    ⟨_, 0, by omega, rfl, rfl, rfl, Ow.nil _ _ _ _, Fresh.none _, Below.refl _ _⟩, ?_⟩
  intro m a1 l1 c1 k
  refine AllJ.of ?_ _
  rintro w' ⟨n, hn, rfl, rfl, hg, ho, hf, hb⟩
  have hB : Below w.heap.size w w' := below_step hb1 hb hb1.size
  refine BCase.of (fun h => ?_) (fun h => ?_) <;> simp at h
  · have hsl := hs.below hB
    refine ⟨⟨⟨by omega, by omega⟩, hsl.isSome h⟩, ?_⟩
    obtain ⟨v, hv, hrep⟩ := hsl.load1 (i := (n : Int)) un_int rfl rfl (by simpa using h)
    have := i64_rep hrep
    subst this
    simp only [Int.toNat_natCast] at hv
    refine ⟨_, hv, ?_⟩
    rw [allPath_len]
    refine ⟨fun w'' => w'' = w' ∧ 0 ≤ l[n] ∧ l[n] < 92, ?_, ?_⟩
    · refine BCase.of (fun h4 => ?_) (fun h4 => BCase.of (fun h5 => ?_) (fun h5 => ?_)) <;> simp at h4
      · exact from_bad (okL_bad h (by omega)) hB
      · simp at h5; exact from_bad (okL_bad h (by omega)) hB
      · simp at h5; exact ⟨rfl, h4, h5⟩
    · refine AllJ.of ?_ _
      rintro w2 ⟨rfl, h4, h5⟩
      refine ⟨⟨h4, by omega⟩, ?_⟩
      intro k1 w3 hk1 hw3
      have ho3 : Ow tU8 T_uint8 w3 NoB a1 l1 c1 ((l.take n).map chr) := ho.below (hw3 ▸ below_alloc _ _)
      have hsrc : Src tU8 w3 NoB (some ⟨k1, 0, none⟩) 1 [chr l[n]] := Src.new1F flat_u8 hk1 hw3 (rep_u8 rfl)
      obtain ⟨w4, a', n', c', hr, ho4, hgr, hfr⟩ := append_own (ty := T_sl_uint8) un_sl_uint8 tf_uint8 (by decide) ho3 (fun _ _ h => h) (cm := 1) hsrc (by simp; omega)
      have e1 : IntKind.i64.wrap ((n : Int) + 1) = ((n + 1 : Nat) : Int) := by rw [wrap_i64 (by omega) (by omega)]; omega
      rw [e1]
      refine ⟨w4, a', n', c', hr, _, ?_, n + 1, by omega, rfl, rfl, okL_step h hg h4 h5, ?_, ?_, ?_⟩
      · omega
      · rw [take_succ' h, List.map_append]; exact ho4
      · subst hw3; exact hf.app (by have := hb.size; simp; omega) hfr
      · subst hw3; exact (below_step hb (below_alloc _ _) hb.size).grown hgr (by have := hb.size; simp; omega) hf
  · have : n = l.length := by omega
    subst this
    rw [List.take_length] at hg ho
    exact ⟨_, text_of un_sl_uint8 un_string un_uint8 ho.all, from_good hg hB⟩

/-- the bytes from 33 to below 33 + j with the symbol n -/
def hits (n : Int) : Nat → List UInt8
  | 0 => []
  | j + 1 => if symOf (j + 33) = n ∧ 0 ≤ n then hits n j ++ [UInt8.ofNat (j + 33)] else hits n j
theorem hits_le (n : Int) : ∀ j, (hits n j).length ≤ j
  | 0 => by simp [hits]
  | j + 1 => by have := hits_le n j; unfold hits; split <;> simp <;> omega
theorem hits_all : ∀ k, k < 92 → hits (k : Nat) 94 = [chr (k : Nat)] := by decide +kernel
theorem hits_bad {n : Int} (h : ¬ (0 ≤ n ∧ n < 92)) : ∀ j, j ≤ 94 → hits n j = []
  | 0, _ => rfl
  | j + 1, hj => by
    unfold hits
    rw [if_neg, hits_bad h j (by omega)]
    rintro ⟨h1, h2⟩
    have : symOf ((j : Int) + 33) ≤ 91 := by
      unfold symOf cnt
      split <;> (try split) <;> (try split) <;> omega
    omega
def one (n : Int) : List UInt8 := if isSym n then [chr n] else []
theorem hits_one (n : Int) : hits n 94 = one n := by
  unfold one
  by_cases h : 0 ≤ n ∧ n < 92
  · have e : n = ((n.toNat : Nat) : Int) := by omega
    have := hits_all n.toNat (by omega)
    rw [← e] at this
    rw [this]; simp [isSym, h]
  · rw [hits_bad h 94 (by omega)]; simp [isSym, h]
theorem one_le (n : Int) : (one n).length ≤ 1 := by unfold one; split <;> simp
theorem flat_le : ∀ l : List Int, (l.flatMap one).length ≤ l.length
  | [] => by simp
  | x :: l => by have h1 := one_le x; have h2 := flat_le l; simp only [List.flatMap_cons, List.length_append, List.length_cons]; omega
theorem flat_ok : ∀ l : List Int, okL l = true → l.flatMap one = l.map chr
  | [], _ => rfl
  | x :: l, h => by
    simp only [okL, List.all_cons, Bool.and_eq_true] at h
    have := flat_ok l h.2
    simp only [List.flatMap_cons, List.map_cons, this, one, h.1, if_true]
    rfl
theorem flat_bad : ∀ l : List Int, okL l = false → (l.flatMap one).length < l.length
  | [], h => by simp [okL] at h
  | x :: l, h => by
    have h2 := flat_le l
    have h3 := one_le x
    simp only [okL, List.all_cons, Bool.and_eq_false_iff] at h
    simp only [List.flatMap_cons, List.length_append, List.length_cons]
    rcases h with h | h
    · have : (one x).length = 0 := by simp [one, h]
      omega
    · have := flat_bad l h
      omega

theorem ref14_FromBytes_ok {l : List Int} (hl : l.length ≤ 1000000) {w : World} {A : Bl} {a : Option Addr} {n c : Nat} (hs : Sl tI64 w A a n c l) : Calls Try.prog f_ref14_FromBytes #[.slice a n c] w (Ret (FromPost l w)) := by
  have hn := hs.len
  subst hn
  apply run_ref14_FromBytes
  unfold vc_ref14_FromBytes
  intro k0 w0 hk0 hw0
  have hB0 : Below w.heap.size w w0 := hw0 ▸ below_alloc _ _
  have ho0 : Ow tU8 T_uint8 w0 NoB (some ⟨k0, 0, none⟩) 0 0 [] := Ow.newF flat_u8 hk0 hw0 (RepL.nil _ _ _) (Nat.zero_le _)
  have hf0 := fresh_new hk0
  refine ⟨fun m a l1 c k w' => ∃ n : Nat, n ≤ l.length ∧ k = (n : Int) ∧ m = l.length - n ∧ Ow tU8 T_uint8 w' NoB a l1 c ((l.take n).flatMap one) ∧ Fresh w.heap.size a ∧ Below w.heap.size w w',
    ⟨_, 0, by omega, rfl, rfl, ho0, hf0, hB0⟩, ?_⟩
  intro m a1 l1 c1 k
  refine AllJ.of ?_ _
  rintro w' ⟨n, hn, rfl, rfl, ho, hf, hb⟩
  refine BCase.of (fun h => ?_) (fun h => ?_) <;> simp at h
  · have hsl := hs.below hb
    refine ⟨⟨⟨by omega, by omega⟩, hsl.isSome h⟩, ?_⟩
    obtain ⟨v, hv, hrep⟩ := hsl.load1 (i := (n : Int)) un_int rfl rfl (by simpa using h)
    have := i64_rep hrep
    subst this
    simp only [Int.toNat_natCast] at hv
    refine ⟨_, hv, ?_⟩
    have hlt : ((l.take n).flatMap one).length ≤ n := Nat.le_trans (flat_le _) (List.length_take_le _ _)
    refine ⟨fun m a l1 c k w' => ∃ j : Nat, j ≤ 94 ∧ k = (j : Int) + 33 ∧ m = 94 - j ∧ Ow tU8 T_uint8 w' NoB a l1 c ((l.take n).flatMap one ++ hits l[n] j) ∧ Fresh w.heap.size a ∧ Below w.heap.size w w',
      ⟨_, 0, by omega, by simp, rfl, by simpa [hits] using ho, hf, hb⟩, ?_⟩
    intro m2 a2 l2 c2 k2
    refine AllJ.of ?_ _
    rintro w2 ⟨j, hj, rfl, rfl, ho2, hf2, hb2⟩
    refine BCase.of (fun h4 => ?_) (fun h4 => ?_) <;> simp at h4
    · have e1 : IntKind.u8.wrap ((j : Int) + 33 + 1) = ((j + 1 : Nat) : Int) + 33 := by rw [wrap_u8 (by omega) (by omega)]; omega
      rw [e1]
      refine ⟨fun b w'' => w'' = w2 ∧ b = decide (symOf ((j : Int) + 33) = l[n] ∧ 0 ≤ l[n]), ?_, ?_⟩
      · refine callK (ref14_Byte_ok _ _) ?_
        rintro _ _ ⟨rfl, rfl⟩
        refine ⟨_, rfl, ?_⟩
        refine BCase.of (fun h5 => ?_) (fun h5 => ?_) <;> simp at h5
        · refine ⟨rfl, ?_⟩
          rw [Bool.eq_iff_iff]; simp [h5]
        · refine ⟨rfl, ?_⟩
          rw [Bool.eq_iff_iff]; simp [h5]
      · intro b
        refine AllJ.of ?_ _
        rintro w3 ⟨rfl, rfl⟩
        refine BCase.of (fun h5 => ?_) (fun h5 => ?_) <;> simp at h5
        · intro k1 w4 hk1 hw4
          have ho3 : Ow tU8 T_uint8 w4 NoB a2 l2 c2 ((l.take n).flatMap one ++ hits l[n] j) := ho2.below (hw4 ▸ below_alloc _ _)
          have hsrc : Src tU8 w4 NoB (some ⟨k1, 0, none⟩) 1 [UInt8.ofNat (j + 33)] := Src.new1F flat_u8 hk1 hw4 (rep_u8 (by rw [toNat_ofNat (by omega)]; omega))
          have hh := hits_le l[n] j
          obtain ⟨w5, a', n', c', hr, ho4, hgr, hfr⟩ := append_own (ty := T_sl_uint8) un_sl_uint8 tf_uint8 (by decide) ho3 (fun _ _ h => h) (cm := 1) hsrc (by simp only [List.length_append, List.length_cons, List.length_nil]; omega)
          refine ⟨w5, a', n', c', hr, _, ?_, j + 1, by omega, rfl, rfl, ?_, ?_, ?_⟩
          · omega
          · unfold hits; rw [if_pos h5, ← List.append_assoc]; exact ho4
          · subst hw4; exact hf2.app (by have := hb2.size; simp; omega) hfr
          · subst hw4; exact (below_step hb2 (below_alloc _ _) hb2.size).grown hgr (by have := hb2.size; simp; omega) hf2
        · refine ⟨_, ?_, j + 1, by omega, rfl, rfl, ?_, hf2, hb2⟩
          · omega
          · unfold hits; rw [if_neg (by omega)]; exact ho2
    · have : j = 94 := by omega
      subst this
      have e1 : IntKind.i64.wrap ((n : Int) + 1) = ((n + 1 : Nat) : Int) := by rw [wrap_i64 (by omega) (by omega)]; omega
      rw [e1]
      refine ⟨_, ?_, n + 1, by omega, rfl, rfl, ?_, hf2, hb2⟩
      · omega
      · have e2 : List.flatMap one [l[n]] = hits l[n] 94 := by rw [hits_one]; simp
        rw [take_succ' h, List.flatMap_append, e2]; exact ho2
  · have : n = l.length := by omega
    subst this
    rw [List.take_length] at ho
    have hlen := ho.len
    subst hlen
    refine BCase.of (fun h4 => ?_) (fun h4 => ?_)
    · refine from_bad ?_ hb
      cases hk : okL l with
      | false => rfl
      | true => rw [flat_ok l hk] at h4; simp at h4
    · have h4 : (l.flatMap one).length = l.length := by
        have := bne_eq_false_iff_eq.1 h4; omega
      have hk : okL l = true := by
        cases hk : okL l with
        | true => rfl
        | false => have := flat_bad l hk; omega
      refine ⟨_, text_of un_sl_uint8 un_string un_uint8 ho.all, ?_⟩
      rw [flat_ok l hk]
      exact from_good hk hb

theorem ref14_Same_ok {l k : List Int} {w : World} {A A' : Bl} {a b : Option Addr} {n m c d : Nat} (hs : Sl tI64 w A a n c l) (ht : Sl tI64 w A' b m d k) :
    Calls Try.prog f_ref14_Same #[.slice a n c, .slice b m d] w (Ret fun v w' => v = .bool (decide (l = k)) ∧ Below w.heap.size w w') := by
  have hn := hs.len
  have hm := ht.len
  subst hn hm
  have hle := hs.le
  apply run_ref14_Same
  unfold vc_ref14_Same
  refine BCase.of (fun h => ?_) (fun h => ?_) <;> simp at h
  · refine ⟨?_, Below.refl _ _⟩
    congr 1
    symm
    rw [decide_eq_false_iff_not]
    intro e; subst e; omega
  · refine ⟨fun m i w' => ∃ n : Nat, n ≤ l.length ∧ i = (n : Int) ∧ m = l.length - n ∧ l.take n = k.take n ∧ Below w.heap.size w w', ⟨_, 0, by omega, rfl, rfl, by simp, Below.refl _ _⟩, ?_⟩
    intro m i
    refine AllJ.of ?_ _
    rintro w' ⟨n, hn, rfl, rfl, he, hb⟩
    refine BCase.of (fun h4 => ?_) (fun h4 => ?_) <;> simp at h4
    · have h5 : n < k.length := by omega
      have hsl := hs.below hb
      have htl := ht.below hb
      refine ⟨⟨⟨by omega, by omega⟩, hsl.isSome h4⟩, l[n], ?_, ⟨⟨by omega, by omega⟩, htl.isSome h5⟩, k[n], ?_, ?_⟩
      · intro u hu
        obtain ⟨v, hv, hrep⟩ := (hsl.below hu).load1 (P := Try.prog) (i := (n : Int)) un_int rfl rfl (by simpa using h4)
        have := i64_rep hrep
        subst this
        simpa only [Int.toNat_natCast] using hv
      · intro u hu
        obtain ⟨v, hv, hrep⟩ := (htl.below hu).load1 (P := Try.prog) (i := (n : Int)) un_int rfl rfl (by simpa using h5)
        have := i64_rep hrep
        subst this
        simpa only [Int.toNat_natCast] using hv
      · intro wq hwq
        have hB := below_step hb hwq hb.size
        refine BCase.of (fun h6 => ?_) (fun h6 => ?_) <;> simp at h6
        · refine ⟨?_, hB⟩
          congr 1
          symm
          rw [decide_eq_false_iff_not]
          intro e; subst e; exact h6 rfl
        · have e1 : IntKind.i64.wrap ((n : Int) + 1) = ((n + 1 : Nat) : Int) := by rw [wrap_i64 (by omega) (by omega)]; omega
          rw [e1]
          refine ⟨_, ?_, n + 1, by omega, rfl, rfl, ?_, hB⟩
          · omega
          · rw [take_succ' h4, take_succ' h5, he, h6]
    · refine ⟨?_, hb⟩
      have : n = l.length := by omega
      subst this
      have h' : l.length = k.length := by omega
      rw [List.take_length, h', List.take_length] at he
      congr 1
      symm
      rw [decide_eq_true_eq]; exact he
end Go.Proofs.Ytdamklkdjknnpaa
