/- Contracts of Right, Text. Its conditions: none. -/
import Derived.Test.YtmlcilfcaogdcaaGreatDoorHdrG
set_option linter.unusedVariables false
set_option linter.unusedSimpArgs false
set_option maxRecDepth 20000
namespace Go.Pk
open Go.RowKit (Below)
noncomputable def rightB (h : Hdr) : Bool := decide ((parseH (writtenV h)).2 = 0) && hdrEq (parseH (writtenV h)).1 h
noncomputable def htextV (h : Hdr) : List UInt8 := if rightB h = true then writtenV h else []
end Go.Pk
namespace Go.Proofs.YtmlcilfcaogdcaaGreatDoor
open Go.Pk
open Go.RowKit (Below)
/-- a header laid in memory anew -/
theorem hdr_new (h : Hdr) (w : World) {R : Nat → World → Prop} (H : ∀ k wx, k = w.heap.size → ArrAt wx k T_api_Header h.cells → Below w.heap.size w wx → R k wx) :
    ∀ (k : Nat) (w1 : World), k = w.heap.size → w1 = w.alloc (.cells #[.string (mkS []), .string (mkS []), .string (mkS []), .string (mkS []), .bool false, .int .i64 (0 : Int), .bool false, .int .i64 (0 : Int), .bool false, .bool false, .int .i64 (0 : Int)] T_api_Header) →
      ∃ (wx : World), (Instr.storeAt T_api_Header (.pointer (some ⟨k, 0, none⟩)) h.v).run Tryz.prog w1 = .ok () wx ∧ R k wx := by
  intro k w1 hk hw
  have hB := (hw ▸ below_alloc w _ : Below w.heap.size w w1)
  obtain ⟨wx, hs, h3, hg⟩ := hdr_store h (ArrAt.new hk hw : ArrAt w1 k T_api_Header hdr0.cells) rfl
  exact ⟨wx, hs, H k wx hk h3 (hB.grown hg hB.size fun x e => by cases e; omega)⟩
/-- a header given, laid in memory -/
theorem hdr_lay (h : Hdr) (w : World) {k : Nat} {w1 : World} (hk : k = w.heap.size) (hw : w1 = w.alloc (.cells h.cells.toArray T_api_Header)) : ArrAt w1 k T_api_Header h.cells ∧ Below w.heap.size w w1 :=
  ⟨ArrAt.new hk hw, hw ▸ below_alloc w _⟩
theorem eqV_hdr (h g : Hdr) : eqV Tryz.prog 10000 T_api_Header h.v g.v = some (hdrEq h g) := by kernel_rfl
theorem guard_hdr : Tryz.prog.eqGuardType Tryz.prog.depth T_api_Header = false := by kernel_rfl
theorem hdr_eq (h g : Hdr) {x y : Operand} (w : World) : ((do eqGuard .eql T_api_Header x y h.v g.v; binOp .eql T_api_Header h.v g.v : Sem Value)).run Tryz.prog w = .ok (.bool (hdrEq h g)) w :=
  run_eq guard_hdr (eqV_hdr h g) w
theorem hdr_ne (h g : Hdr) {x y : Operand} (w : World) : ((do eqGuard .neq T_api_Header x y h.v g.v; binOp .neq T_api_Header h.v g.v : Sem Value)).run Tryz.prog w = .ok (.bool (!hdrEq h g)) w :=
  run_ne guard_hdr (eqV_hdr h g) w
theorem header_Right_ok (h : Hdr) (ho : HdrOk h) (w : World) (he : Env w) : Calls Tryz.prog f_header_Right #[h.v] w (Ret fun v w' => v = .bool (rightB h) ∧ Below w.heap.size w w') := by
  refine run_header_Right h.name h.value h.domain h.path h.hasE h.exp h.hasA h.age h.sec h.http h.same ?_
  unfold vc_header_Right
  intro k1 w1 hk1 hw1
  obtain ⟨hh1, hB1⟩ := hdr_lay h w hk1 hw1
  refine ⟨h.name, h.value, h.domain, h.path, h.hasE, h.exp, h.hasA, h.age, h.sec, h.http, h.same, hdr_load h hh1, ?_⟩
  refine callK (header_written_ok h ho w1 (he.step hB1)) ?_
  rintro _ w2 ⟨rfl, hb2⟩
  have hB2 := below_step hB1 hb2 hB1.size
  have hh2 := hh1.below hb2
  refine ⟨_, rfl, ?_⟩
  refine callK (header_Parse_ok (writtenV h) (by have := wlen h ho; unfold writtenV; omega) w2 (he.step hB2)) ?_
  rintro _ w3 ⟨rfl, hb3⟩
  have hB3 := below_step hB2 hb3 hB2.size
  have hh3 := hh2.below hb3
  refine ⟨_, _, _, _, _, _, _, _, _, _, _, _, rfl, ?_⟩
  refine hdr_new (parseH (writtenV h)).1 w3 fun k3 w4 hk3 h4 hb4 => ?_
  have hB4 := below_step hB3 hb4 hB3.size
  have hh4 := hh3.below hb4
  refine BCase.of (fun hc => ?_) (fun hc => ?_)
  · rw [beq_iff_eq] at hc
    refine ⟨_, _, _, _, _, _, _, _, _, _, _, hdr_load _ h4, _, _, _, _, _, _, _, _, _, _, _, hdr_load _ hh4, _, hdr_eq _ _ _, ?_, hB4⟩
    rw [rightB, decide_eq_true hc]; rfl
  · rw [beq_eq_false_iff_ne] at hc
    refine ⟨?_, hB4⟩
    rw [rightB, decide_eq_false hc]; rfl
theorem header_Text_ok (h : Hdr) (ho : HdrOk h) (w : World) (he : Env w) : Calls Tryz.prog f_header_Text #[h.v] w (Ret fun v w' => v = .string (mkS (htextV h)) ∧ Below w.heap.size w w') := by
  refine run_header_Text h.name h.value h.domain h.path h.hasE h.exp h.hasA h.age h.sec h.http h.same ?_
  unfold vc_header_Text
  intro k1 w1 hk1 hw1
  obtain ⟨hh1, hB1⟩ := hdr_lay h w hk1 hw1
  refine ⟨h.name, h.value, h.domain, h.path, h.hasE, h.exp, h.hasA, h.age, h.sec, h.http, h.same, hdr_load h hh1, ?_⟩
  refine callK (header_Right_ok h ho w1 (he.step hB1)) ?_
  rintro _ w2 ⟨rfl, hb2⟩
  have hB2 := below_step hB1 hb2 hB1.size
  have hh2 := hh1.below hb2
  refine ⟨_, rfl, ?_⟩
  refine BCase.of (fun hc => ?_) (fun hc => ?_)
  · refine ⟨?_, hB2⟩
    have : rightB h = false := by simpa using hc
    rw [htextV, this]; rfl
  · have hr : rightB h = true := by simpa using hc
    refine ⟨_, _, _, _, _, _, _, _, _, _, _, hdr_load h hh2, ?_⟩
    refine callK (header_written_ok h ho w2 (he.step hB2)) ?_
    rintro _ w3 ⟨rfl, hb3⟩
    exact ⟨_, rfl, by rw [htextV, if_pos hr], below_step hB2 hb3 hB2.size⟩
end Go.Proofs.YtmlcilfcaogdcaaGreatDoor
