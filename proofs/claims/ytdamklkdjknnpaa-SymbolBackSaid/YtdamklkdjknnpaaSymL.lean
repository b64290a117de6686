/- The laws SymbolTells and SymbolBack hold of what the code computes. Its conditions: none. -/
import Derived.Test.YtdamklkdjknnpaaSymJ
set_option linter.unusedVariables false
set_option linter.unusedSimpArgs false
set_option maxRecDepth 20000
namespace Go.Proofs.Ytdamklkdjknnpaa
open Go.Pk
open Go.RowKit (Below)

theorem law14_SymbolTells_ok (a : Option Addr) (n c : Nat) (l : List Txt) (s : List UInt8) (i : Int) (w : World) (hs : Sl tS w AllB a n c l) :
    Calls Try.prog f_law14_SymbolTells #[.slice a n c, .string (mkS s), .int .i64 i] w (Ret (Says w)) := by
  apply run_law14_SymbolTells
  unfold vc_law14_SymbolTells
  have hn := hs.len
  subst hn
  refine callK (law14_alive_ok w) ?_
  rintro _ w0 ⟨rfl, hB0⟩
  refine ⟨_, rfl, BCase.no rfl ?_⟩
  refine ⟨fun w' => w' = w0 ∧ l.length ≤ 60 ∧ (∀ x ∈ l, x.length ≤ 100) ∧ s.length ≤ 200, ?_, ?_⟩
  · refine callK (law14_great_ok a _ c l w0 (hs.below hB0)) ?_
    rintro _ w0 ⟨b, rfl, hgr, rfl⟩
    refine ⟨_, rfl, ?_⟩
    refine BCase.of (fun h => ?_) (fun h => ?_)
    · exact ⟨rfl, hB0⟩
    · refine BCase.of (fun h2 => ?_) (fun h2 => ?_) <;> simp at h2
      · exact ⟨rfl, hB0⟩
      · exact ⟨rfl, (hgr h).1, (hgr h).2, by omega⟩
  · refine AllJ.of ?_ _
    rintro _ ⟨rfl, h1, h2, h3⟩
    have h2' : ∀ x ∈ l, x.length ≤ 1000000 := fun x hx => Nat.le_trans (h2 x hx) (by decide)
    refine callK (symbol_New_ok a _ c l (by omega) _ (hs.below hB0)) ?_
    rintro _ w1 ⟨p, rfl, hal, hb1⟩
    have hB1 := below_step hB0 hb1 hB0.size
    have hlen := setL_len l
    refine ⟨_, rfl, ?_⟩
    refine callK (symbol_Len_ok p _ (by omega) w1 hal) ?_
    rintro _ w1 ⟨rfl, rfl⟩
    refine ⟨_, rfl, ?_⟩
    refine callK (ref14_Texts_ok a _ c l (by omega) _ (hs.below hB1)) ?_
    rintro _ w2 ⟨a2, n2, c2, rfl, ho2, hf2, hb2⟩
    have hB2 := below_step hB1 hb2 hB1.size
    have hal2 := hal.below hb2
    have hn2 := ho2.len
    refine ⟨_, _, _, rfl, BCase.yes ?_ ?_⟩
    · rw [hn2, textsL_len, wrap_i64 (by omega) (by omega)]; simp
    refine callK (symbol_Of_ok p _ s w2 hal2) ?_
    rintro _ w2 ⟨rfl, rfl⟩
    refine ⟨_, rfl, ?_⟩
    refine callK (ref14_Of_ok a _ c l s (by omega) h2' (by omega) _ (hs.below hB2)) ?_
    rintro _ w3 ⟨rfl, hb3⟩
    have hB3 := below_step hB2 hb3 hB2.size
    have hal3 := hal2.below hb3
    refine ⟨_, rfl, BCase.yes ?_ ?_⟩
    · rw [ofT_eq (textsL_law l).1 (setL_nodup l) (textsL_setL l)]; simp
    refine callK (symbol_Text_ok p _ (by omega) i w3 hal3) ?_
    rintro _ w4 ⟨rfl, hb4⟩
    have hB4 := below_step hB3 hb4 hB3.size
    have hal4 := hal3.below hb4
    refine ⟨_, rfl, ?_⟩
    refine callK (ref14_Text_ok a _ c l i (by omega) h2' _ (hs.below hB4)) ?_
    rintro _ w5 ⟨rfl, hb5⟩
    have hB5 := below_step hB4 hb5 hB4.size
    have hal5 := hal4.below hb5
    refine ⟨_, rfl, BCase.yes (by simp) ?_⟩
    refine callK (symbol_Fresh_ok p _ (by omega) w5 hal5) ?_
    rintro _ w6 ⟨rfl, hb6⟩
    have hB6 := below_step hB5 hb6 hB5.size
    refine ⟨_, rfl, ?_⟩
    refine callK (ref14_Fresh_ok a _ c l (by omega) _ (hs.below hB6)) ?_
    rintro _ w7 ⟨rfl, hb7⟩
    refine ⟨_, rfl, ?_, below_step hB6 hb7 hB6.size⟩
    rw [freshT_eq (fun x => mem_setL (l := l))]; simp

/-- each text of the first k, from behind, twice -/
def turned (l : List Txt) (k : Nat) : List Txt := (l.drop k).reverse.flatMap fun x => [x, x]
theorem turned_end (l : List Txt) : turned l l.length = [] := by simp [turned]
theorem turned_step {l : List Txt} {k : Nat} (h : k < l.length) : turned l k = turned l (k + 1) ++ [l[k], l[k]] := by
  unfold turned
  rw [List.drop_eq_getElem_cons h, List.reverse_cons, List.flatMap_append]; rfl
theorem turned_mem (l : List Txt) (x : Txt) : x ∈ turned l 0 ↔ x ∈ l := by
  unfold turned
  simp [List.mem_flatMap]
theorem turned_len (l : List Txt) (k : Nat) : (turned l k).length = 2 * (l.length - k) := by
  unfold turned
  have : ∀ m : List Txt, (m.flatMap fun x => [x, x]).length = 2 * m.length := by
    intro m
    induction m with
    | nil => rfl
    | cons x m ih => simp [ih]; omega
  rw [this]; simp

theorem law14_SymbolBack_ok (a : Option Addr) (n c : Nat) (l : List Txt) (s : List UInt8) (w : World) (hs : Sl tS w AllB a n c l) :
    Calls Try.prog f_law14_SymbolBack #[.slice a n c, .string (mkS s)] w (Ret (Says w)) := by
  apply run_law14_SymbolBack
  unfold vc_law14_SymbolBack
  have hn := hs.len
  subst hn
  refine callK (law14_alive_ok w) ?_
  rintro _ w0 ⟨rfl, hB0⟩
  refine ⟨_, rfl, BCase.no rfl ?_⟩
  refine ⟨fun w' => w' = w0 ∧ l.length ≤ 60 ∧ (∀ x ∈ l, x.length ≤ 100) ∧ s.length ≤ 200, ?_, ?_⟩
  · refine callK (law14_great_ok a _ c l w0 (hs.below hB0)) ?_
    rintro _ w0 ⟨b, rfl, hgr, rfl⟩
    refine ⟨_, rfl, ?_⟩
    refine BCase.of (fun h => ?_) (fun h => ?_)
    · exact ⟨rfl, hB0⟩
    · refine BCase.of (fun h2 => ?_) (fun h2 => ?_) <;> simp at h2
      · exact ⟨rfl, hB0⟩
      · exact ⟨rfl, (hgr h).1, (hgr h).2, by omega⟩
  refine AllJ.of ?_ _
  rintro w0 ⟨rfl, h1, h2, h3⟩
  intro k1 w1 hk1 hw1
  have hB1 : Below w.heap.size w w1 := below_step hB0 (hw1 ▸ below_alloc _ _) hB0.size
  have ho1 : Ow tS T_string w1 NoB (some ⟨k1, 0, none⟩) 0 0 [] := Ow.newF (flat_str _) hk1 hw1 (RepL.nil _ _ _) (Nat.zero_le _)
  have hf1 : Fresh w.heap.size (some ⟨k1, 0, none⟩) := (fresh_new hk1).mono hB0.size
  refine ⟨fun m a' n' c' i w' => ∃ j : Nat, j ≤ l.length ∧ i = (j : Int) - 1 ∧ m = j + 1 ∧ Ow tS T_string w' NoB a' n' c' (turned l j) ∧ Fresh w.heap.size a' ∧ Below w.heap.size w w',
    ⟨_, l.length, Nat.le_refl _, by rw [wrap_i64 (by omega) (by omega)], rfl, by rw [turned_end]; exact ho1, hf1, hB1⟩, ?_⟩
  intro m a' n' c' i
  refine AllJ.of ?_ _
  rintro w' ⟨j, hj, rfl, rfl, ho, hf, hb⟩
  refine BCase.of (fun h => ?_) (fun h => ?_) <;> simp at h
  · obtain ⟨j, rfl⟩ : ∃ q, j = q + 1 := ⟨j - 1, by omega⟩
    have hjl : j < l.length := by omega
    have et : ((j + 1 : Nat) : Int) - 1 = (j : Int) := by omega
    rw [et] at *
    have hbd := below_step hb (below_drew w') hb.size
    have hsd := hs.below hbd
    have hin : (0 ≤ (j : Int) ∧ (j : Int) < ((l.length : Nat) : Int)) ∧ Option.isSome a = true := ⟨⟨by omega, by omega⟩, hs.isSome hjl⟩
    obtain ⟨v, hv, hrep⟩ := hsd.load1 (i := (j : Int)) un_string rfl rfl (by simpa using hjl)
    obtain ⟨rfl, -⟩ := str_rep hrep
    simp only [Int.toNat_natCast] at hv
    have hend : ∀ (k2 : Nat) (w2 : World), k2 = w'.drew.heap.size → w2 = w'.drew.alloc (.cells #[.string (mkS l[j]), .string (mkS l[j])] T_string) →
        ∃ (w4 : World) (a4 : Option Addr) (n4 c4 : Nat), (Builtin.append_ #[T_sl_string, T_sl_string] T_sl_string #[.slice a' n' c', .slice (some ⟨k2, 0, none⟩) 2 2]).run Try.prog w2 = .ok (.slice a4 n4 c4) w4 ∧
        ∃ m' : Nat, m' < j + 1 + 1 ∧ ∃ q : Nat, q ≤ l.length ∧ IntKind.i64.wrap ((j : Int) - 1) = (q : Int) - 1 ∧ m' = q + 1 ∧ Ow tS T_string w4 NoB a4 n4 c4 (turned l q) ∧ Fresh w.heap.size a4 ∧ Below w.heap.size w w4 := by
      intro k2 w2 hk2 hw2
      have hbd2 : Below w'.heap.size w' w2 := below_step (below_drew w') (hw2 ▸ below_alloc _ _) (below_drew w').size
      have ho2 := ho.below hbd2
      have hsrc : Src tS w2 NoB (some ⟨k2, 0, none⟩) 2 [l[j], l[j]] := by
        have := Ow.newF (A := NoB) (flat_str _) hk2 hw2 (RepL_enc (xs := [l[j], l[j]]) (h1 := fun _ => rfl) (e := fun s => Value.string (mkS s)) (p := fun _ => True) (A := NoB) (w := w'.drew) (fun _ _ => trivial)) (by simp [maxLen])
        exact Sl.flat (flat_str _) this.all
      have hlt := turned_len l (j + 1)
      obtain ⟨w4, a4, n4, c4, hr, ho4, hgr, hfr⟩ := append_own (ty := T_sl_string) un_sl_string tf_string (by decide) ho2 (fun _ _ h => h) (cm := 2) hsrc (by simp; omega)
      have hB2 := below_step hb hbd2 hb.size
      refine ⟨w4, a4, n4, c4, hr, j + 1, by omega, j, by omega, by rw [wrap_i64 (by omega) (by omega)], rfl, ?_, ?_, ?_⟩
      · rw [turned_step hjl]; exact ho4
      · exact hf.app hB2.size hfr
      · exact hB2.grown hgr hB2.size hf
    exact ⟨hin, hin, ⟨_, hv, _, hv, hend⟩, _, hv, _, hv, hend⟩
  · have : j = 0 := by omega
    subst this
    have htl := turned_len l 0
    refine callK (symbol_New_ok a _ c l (by omega) _ (hs.below hb)) ?_
    rintro _ w2 ⟨p, rfl, hal, hb2⟩
    have hB2 := below_step hb hb2 hb.size
    refine ⟨_, rfl, ?_⟩
    refine callK (symbol_New_ok a' _ c' _ (by omega) _ (ho.below hb2).all) ?_
    rintro _ w3 ⟨q, rfl, haq, hb3⟩
    have hB3 := below_step hB2 hb3 hB2.size
    have hal3 := hal.below hb3
    refine ⟨_, rfl, ?_⟩
    have hsame : ∀ x, x ∈ setL l ↔ x ∈ setL (turned l 0) := fun x => by rw [mem_setL, mem_setL, turned_mem]
    have hof := ofT_eq (setL_nodup l) (setL_nodup (turned l 0)) hsame
    have hll := nodup_len_eq (setL_nodup l) (setL_nodup (turned l 0)) hsame
    have hlen := setL_len l
    have hofl : ∀ x, x ∈ l → ofT (setL l) x < ((setL l).length : Int) ∧ textT (setL l) (ofT (setL l) x) = x := fun x hx => by
      obtain ⟨e, he, rfl⟩ := List.getElem_of_mem ((mem_setL (l := l)).2 hx)
      rw [ofT_get (setL_lt l) he]
      refine ⟨by omega, ?_⟩
      unfold textT
      rw [if_neg (by omega), if_pos ⟨by omega, by omega⟩]
      simp [he]
    have hfn : ∀ x, x ∈ l → freshT (setL l) ≠ x := fun x hx e => freshT_not (setL l) (by rw [e]; exact (mem_setL (l := l)).2 hx)
    have hofn : ∀ x, x ∉ l → ofT (setL l) x = ((setL l).length : Int) := fun x hx => by
      unfold ofT; rw [if_neg (fun h => hx ((mem_setL (l := l)).1 h))]
    have hw1 : IntKind.i64.wrap (((setL l).length : Int) + 1 - 1) = ((setL l).length : Int) := by rw [wrap_i64 (by omega) (by omega)]; omega
    refine ⟨fun m b i w' => ∃ j : Nat, j ≤ l.length ∧ i = (j : Int) ∧ m = l.length - j ∧ b = decide (s ∈ l.take j) ∧ Below w3.heap.size w3 w', ⟨_, 0, by omega, rfl, rfl, by simp, Below.refl _ _⟩, ?_⟩
    intro m b i
    refine AllJ.of ?_ _
    rintro w4 ⟨j, hj, rfl, rfl, rfl, hb4⟩
    have hB4 := below_step hB3 hb4 hB3.size
    have hal4 := hal3.below hb4
    have haq4 := haq.below hb4
    refine BCase.of (fun h => ?_) (fun h => ?_) <;> simp at h
    · obtain ⟨v, hv, hrep⟩ := (hs.below hB4).load1 (i := (j : Int)) un_string rfl rfl (by simpa using h)
      obtain ⟨rfl, -⟩ := str_rep hrep
      simp only [Int.toNat_natCast] at hv
      have hxl : l[j] ∈ l := List.getElem_mem h
      refine ⟨⟨⟨by omega, by omega⟩, hs.isSome h⟩, _, hv, ?_⟩
      refine ⟨fun b' w' => w' = w4 ∧ b' = decide (s ∈ l.take (j + 1)), ?_, ?_⟩
      · refine BCase.of (fun h5 => ?_) (fun h5 => ?_) <;> simp only [decide_eq_true_eq, decide_eq_false_iff_not] at h5
        · refine ⟨rfl, (decide_eq_true ?_).symm⟩
          rw [take_snoc h]; exact List.mem_append_left _ h5
        · refine ⟨rfl, ?_⟩
          rw [Bool.eq_iff_iff, beq_iff_eq, decide_eq_true_eq, take_snoc h, List.mem_append, List.mem_singleton]
          exact ⟨fun e => .inr e.symm, fun e => (e.resolve_left h5).symm⟩
      · intro b'
        refine AllJ.of ?_ _
        rintro w4 ⟨rfl, rfl⟩
        refine callK (symbol_Of_ok p _ _ w4 hal4) ?_
        rintro _ w4 ⟨rfl, rfl⟩
        refine ⟨_, rfl, ?_⟩
        refine callK (symbol_Text_ok p _ (by omega) _ w4 hal4) ?_
        rintro _ w5 ⟨rfl, hb5⟩
        have hB5 := below_step hb4 hb5 hb4.size
        have hal5 := hal4.below hb5
        have haq5 := haq4.below hb5
        rw [(hofl _ hxl).2]
        refine ⟨_, rfl, BCase.no (by simp) ?_⟩
        refine callK (symbol_Of_ok p _ _ w5 hal5) ?_
        rintro _ w5 ⟨rfl, rfl⟩
        refine ⟨_, rfl, ?_⟩
        refine callK (symbol_Of_ok q _ _ w5 haq5) ?_
        rintro _ w5 ⟨rfl, rfl⟩
        refine ⟨_, rfl, BCase.no (by rw [hof]; simp) ?_⟩
        refine callK (symbol_Of_ok p _ _ w5 hal5) ?_
        rintro _ w5 ⟨rfl, rfl⟩
        refine ⟨_, rfl, ?_⟩
        refine callK (symbol_Len_ok p _ (by omega) w5 hal5) ?_
        rintro _ w5 ⟨rfl, rfl⟩
        refine ⟨_, rfl, BCase.no (by rw [hw1]; have := (hofl _ hxl).1; simp; omega) ?_⟩
        refine callK (symbol_Fresh_ok p _ (by omega) w5 hal5) ?_
        rintro _ w6 ⟨rfl, hb6⟩
        refine ⟨_, rfl, BCase.no (by have := hfn _ hxl; simpa using this) ?_⟩
        refine ⟨l.length - (j + 1), by omega, j + 1, by omega, ?_, rfl, rfl, below_step hB5 hb6 hB5.size⟩
        rw [wrap_i64 (by omega) (by omega)]; omega
    · have : j = l.length := by omega
      subst this
      rw [List.take_length]
      refine callK (symbol_Of_ok p _ s w4 hal4) ?_
      rintro _ w4 ⟨rfl, rfl⟩
      refine ⟨_, rfl, ?_⟩
      refine callK (symbol_Len_ok p _ (by omega) w4 hal4) ?_
      rintro _ w4 ⟨rfl, rfl⟩
      refine ⟨_, rfl, BCase.yes ?_ ?_⟩
      · rw [hw1]
        by_cases hm : s ∈ l
        · have := (hofl s hm).1
          simp [hm, this]
        · rw [hofn s hm]; simp [hm]
      refine callK (symbol_Len_ok p _ (by omega) w4 hal4) ?_
      rintro _ w4 ⟨rfl, rfl⟩
      refine ⟨_, rfl, ?_⟩
      refine callK (symbol_Len_ok q _ (by omega) w4 haq4) ?_
      rintro _ w4 ⟨rfl, rfl⟩
      refine ⟨_, rfl, BCase.yes (by rw [hll]; simp) ?_⟩
      refine callK (symbol_Fresh_ok p _ (by omega) w4 hal4) ?_
      rintro _ w5 ⟨rfl, hb5⟩
      have hB5 := below_step hB4 hb5 hB4.size
      have hal5 := hal4.below hb5
      refine ⟨_, rfl, ?_⟩
      refine callK (symbol_Of_ok p _ _ w5 hal5) ?_
      rintro _ w5 ⟨rfl, rfl⟩
      refine ⟨_, rfl, ?_⟩
      refine callK (symbol_Len_ok p _ (by omega) w5 hal5) ?_
      rintro _ w5 ⟨rfl, rfl⟩
      refine ⟨_, rfl, BCase.yes ?_ ?_⟩
      · rw [hw1]
        have : freshT (setL l) ∉ l := fun hm => freshT_not (setL l) ((mem_setL (l := l)).2 hm)
        rw [hofn _ this]; simp
      refine callK (symbol_Text_ok p _ (by omega) _ w5 hal5) ?_
      rintro _ w6 ⟨rfl, hb6⟩
      have hB6 := below_step hB5 hb6 hB5.size
      have hal6 := hal5.below hb6
      refine ⟨_, rfl, BCase.yes ?_ ?_⟩
      · unfold textT; rw [if_neg (by omega), if_neg (by omega)]; rfl
      refine callK (symbol_Len_ok p _ (by omega) w6 hal6) ?_
      rintro _ w6 ⟨rfl, rfl⟩
      refine ⟨_, rfl, ?_⟩
      refine callK (symbol_Text_ok p _ (by omega) _ w6 hal6) ?_
      rintro _ w7 ⟨rfl, hb7⟩
      refine ⟨_, rfl, ?_, below_step hB6 hb7 hB6.size⟩
      unfold textT; rw [if_neg (by omega), if_neg (by omega)]; rfl
end Go.Proofs.Ytdamklkdjknnpaa
