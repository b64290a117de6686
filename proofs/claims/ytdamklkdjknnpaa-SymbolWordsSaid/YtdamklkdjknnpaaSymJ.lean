/- The laws of layer 14 hold of what the code computes. Its conditions: none. -/
import Derived.Test.YtdamklkdjknnpaaSymI
import Derived.Test.YtdamklkdjknnpaaSymC
set_option linter.unusedVariables false
set_option linter.unusedSimpArgs false
set_option maxRecDepth 20000
namespace Go.Proofs.Ytdamklkdjknnpaa
open Go.Pk
open Go.RowKit (Below)

/-- the law answers true, and nothing that lay has turned -/
abbrev Says (w : World) : Value → World → Prop := fun v w' => v = .bool true ∧ Below w.heap.size w w'

theorem aliveL : ∀ x, x ∈ setL [[98], [97], [98]] ↔ x ∈ ([[97], [98]] : List Txt) := fun x => by
  rw [mem_setL]
  simp only [List.mem_cons, List.not_mem_nil, or_false]
  constructor
  · rintro (h | h | h) <;> simp [h]
  · rintro (h | h) <;> simp [h]
theorem alive_nd : ([[97], [98]] : List Txt).Nodup := by decide
theorem law14_alive_ok (w : World) : Calls Try.prog f_law14_symbolAlive #[] w (Ret (Says w)) := by
  apply run_law14_symbolAlive
  unfold vc_law14_symbolAlive
  intro k0 w0 hk0 hw0
  have hB0 : Below w.heap.size w w0 := hw0 ▸ below_alloc _ _
  have ho : Ow tS T_string w0 NoB (some ⟨k0, 0, none⟩) 3 3 [[98], [97], [98]] := Ow.newF (flat_str _) hk0 hw0 (RepL_enc (xs := [[98], [97], [98]]) (fun _ _ => trivial)) (by decide)
  refine callK (symbol_New_ok _ _ _ _ (by decide) w0 ho.all) ?_
  rintro _ w1 ⟨p, rfl, hal, hb1⟩
  have hB1 := below_step hB0 hb1 hB0.size
  refine ⟨_, rfl, ?_⟩
  refine callK (symbol_Bytes_ok [47] (by decide) w1) ?_
  rintro _ w2 ⟨a2, n2, c2, rfl, ho2, hf2, hb2⟩
  have hB2 := below_step hB1 hb2 hB1.size
  have hal2 := hal.below hb2
  have hsy : symsOf [47] = [13] := by decide
  have hgo : good [47] = true := by decide
  rw [hsy] at ho2
  have hn2 := ho2.len
  subst hn2
  have hlen : (setL [[98], [97], [98]]).length = 2 := nodup_len_eq (setL_nodup _) alive_nd aliveL
  have hof : ∀ s, ofT (setL [[98], [97], [98]]) s = ofT [[97], [98]] s := ofT_eq (setL_nodup _) alive_nd aliveL
  refine ⟨_, _, _, _, rfl, BCase.yes (by have := hal.some; cases p <;> simp_all) ?_⟩
  refine callK (symbol_Of_ok p _ [97] w2 hal2) ?_
  rintro _ w2 ⟨rfl, rfl⟩
  refine ⟨_, rfl, BCase.yes (by rw [hof]; decide) ?_⟩
  refine callK (symbol_Of_ok p _ [98] w2 hal2) ?_
  rintro _ w2 ⟨rfl, rfl⟩
  refine ⟨_, rfl, BCase.yes (by rw [hof]; decide) ?_⟩
  refine callK (symbol_Of_ok p _ [120] w2 hal2) ?_
  rintro _ w2 ⟨rfl, rfl⟩
  refine ⟨_, rfl, BCase.yes (by rw [hof]; decide) ?_⟩
  refine callK (symbol_Len_ok p _ (by rw [hlen]; decide) w2 hal2) ?_
  rintro _ w2 ⟨rfl, rfl⟩
  refine ⟨_, rfl, BCase.yes (by rw [hlen]; decide) ?_⟩
  refine callK (symbol_Fresh_ok p _ (by rw [hlen]; decide) w2 hal2) ?_
  rintro _ w3 ⟨rfl, hb3⟩
  have h2 : nameL 2 = [98] := by rw [nameL_succ 1, nameL_one]; decide
  have h3 : nameL 3 = [99] := by rw [nameL_succ 2, h2]; decide
  have hfr : freshT (setL [[98], [97], [98]]) = [99] := by
    rw [freshT_eq aliveL, ← h3]
    refine freshT_of ⟨by omega, by rw [h3]; decide, fun k hk1 hk2 => ?_⟩
    have : k = 1 ∨ k = 2 := by omega
    rcases this with rfl | rfl
    · rw [nameL_one]; decide
    · rw [h2]; decide
  rw [hfr]
  refine ⟨_, rfl, BCase.yes (by decide) ?_⟩
  rw [hgo]
  refine BCase.yes rfl ?_
  refine BCase.yes (by decide) ?_
  have hsl := (ho2.below hb3).all
  obtain ⟨v, hv, hrep⟩ := hsl.load1 (i := (0 : Int)) un_int rfl rfl (by decide)
  have := i64_rep hrep
  subst this
  exact ⟨⟨⟨by decide, by decide⟩, hsl.isSome (i := 0) (by decide)⟩, _, hv, rfl, below_step hB2 hb3 hB2.size⟩

theorem law14_SymbolBytes_ok (s : List UInt8) (a : Option Addr) (n c : Nat) (l : List Int) (w : World) (hs : Sl tI64 w AllB a n c l) :
    Calls Try.prog f_law14_SymbolBytes #[.string (mkS s), .slice a n c] w (Ret (Says w)) := by
  apply run_law14_SymbolBytes
  unfold vc_law14_SymbolBytes
  have hn := hs.len
  subst hn
  refine callK (law14_alive_ok w) ?_
  rintro _ w0 ⟨rfl, hB0⟩
  refine ⟨_, rfl, BCase.no rfl ?_⟩
  refine ⟨fun w' => w' = w0 ∧ s.length ≤ 500 ∧ l.length ≤ 500, ?_, ?_⟩
  · refine BCase.of (fun h => ?_) (fun h => ?_) <;> simp at h
    · exact ⟨rfl, hB0⟩
    · refine BCase.of (fun h2 => ?_) (fun h2 => ?_) <;> simp at h2
      · exact ⟨rfl, hB0⟩
      · exact ⟨rfl, by omega, by omega⟩
  · refine AllJ.of ?_ _
    rintro _ ⟨rfl, h1, h2⟩
    refine callK (symbol_Bytes_ok s (by omega) _) ?_
    rintro _ w1 ⟨a1, n1, c1, rfl, ho1, hf1, hb1⟩
    have hB1 := below_step hB0 hb1 hB0.size
    refine ⟨_, _, _, _, rfl, ?_⟩
    refine callK (ref14_Bytes_ok s (by omega) _) ?_
    rintro _ w2 ⟨a2, n2, c2, rfl, ho2, hf2, hb2⟩
    have hB2 := below_step hB1 hb2 hB1.size
    refine ⟨_, _, _, _, rfl, ?_⟩
    refine callK (symbol_FromBytes_ok (l := l) (by omega) (hs.below hB2)) ?_
    rintro _ w3 ⟨rfl, hb3⟩
    have hB3 := below_step hB2 hb3 hB2.size
    refine ⟨_, _, rfl, ?_⟩
    refine callK (ref14_FromBytes_ok (l := l) (by omega) (hs.below hB3)) ?_
    rintro _ w4 ⟨rfl, hb4⟩
    have hB4 := below_step hB3 hb4 hB3.size
    refine ⟨_, _, rfl, ?_⟩
    have ho1' := ((ho1.below hb2).below hb3).below hb4
    have ho2' := (ho2.below hb3).below hb4
    refine callK (ref14_Same_ok ho1'.all ho2'.all) ?_
    rintro _ w5 ⟨rfl, hb5⟩
    refine ⟨_, rfl, BCase.yes (by simp) ?_⟩
    refine BCase.yes (by simp) ?_
    refine BCase.yes (by simp) ?_
    exact ⟨by simp, below_step hB4 hb5 hB4.size⟩
end Go.Proofs.Ytdamklkdjknnpaa
