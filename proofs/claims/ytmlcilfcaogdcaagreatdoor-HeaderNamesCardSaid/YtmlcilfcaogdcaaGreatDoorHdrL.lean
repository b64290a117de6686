/- Contract of the law HeaderKeeps. Its conditions: none. -/
import Derived.Test.YtmlcilfcaogdcaaGreatDoorHdrK
set_option linter.unusedVariables false
set_option linter.unusedSimpArgs false
set_option maxRecDepth 20000
namespace Go.Proofs.YtmlcilfcaogdcaaGreatDoor
open Go.Pk
open Go.RowKit (Below)
theorem index4 (a b c d : List UInt8) (w : World) : ∀ (k : Nat) (hk : k < 4), (Instr.index T_arr4_string (.agg #[.string (mkS a), .string (mkS b), .string (mkS c), .string (mkS d)]) (.int .i64 (k : Int))).run Tryz.prog w = .ok (.string (mkS ([a, b, c, d][k]'hk))) w
  | 0, _ => by kernel_rfl
  | 1, _ => by kernel_rfl
  | 2, _ => by kernel_rfl
  | 3, _ => by kernel_rfl
  | n + 4, h => by omega
theorem law08_HeaderKeeps_ok (s : List UInt8) (w : World) (he : Env w) : Calls Tryz.prog f_law08_HeaderKeeps #[.string (mkS s)] w (Ret (Says w)) := by
  apply run_law08_HeaderKeeps
  unfold vc_law08_HeaderKeeps
  refine callK (headerAlive_ok w he) ?_
  rintro _ w1 ⟨rfl, hB1⟩
  refine ⟨_, rfl, BCase.no rfl ?_⟩
  refine BCase.of (fun h => ⟨rfl, hB1⟩) (fun h => ?_)
  have hl : s.length ≤ 6000 := by simp at h; omega
  refine callK (header_Parse_ok s (by omega) w1 (he.step hB1)) ?_
  rintro _ w2 ⟨rfl, hb2⟩
  have hB2 := below_step hB1 hb2 hB1.size
  refine ⟨_, _, _, _, _, _, _, _, _, _, _, _, rfl, ?_⟩
  refine hdr_new (parseH s).1 w2 fun k3 w3 hk3 h3 hb3 => ?_
  have hB3 := below_step hB2 hb3 hB2.size
  refine BCase.of (fun hc => ⟨rfl, hB3⟩) (fun hc => ?_)
  have he0 : (parseH s).2 = 0 := by simpa using hc
  obtain ⟨h, hh⟩ : ∃ h, h = (parseH s).1 := ⟨_, rfl⟩
  have g : Pk.Good h := parse_good (s := s) (by rw [hh, ← he0])
  rw [← hh] at h3
  have ga : ∀ {u : World} {i : Nat} {t : List UInt8}, ArrAt u k3 T_api_Header h.cells → h.cells[i]? = some (.string (mkS t)) → (Instr.loadAt T_string (.pointer (some ⟨k3, i, none⟩))).run Tryz.prog u = .ok (.string (mkS t)) u := fun ha hv => ha.load1 un_string rfl hv
  refine ⟨rfl, _, ga h3 rfl, rfl, _, ga h3 rfl, rfl, _, ga h3 rfl, rfl, _, ga h3 rfl, ?_⟩
  have gnl := g.nl
  have gdl : h.domain.length ≤ (dotV h.domain).length := by unfold dotV; split <;> simp
  have gdn := g.dn
  have gpl := g.pl
  have hcl : ∀ (k : Nat) (hk : k < 4), Pk.Clean ([h.name, h.value, h.domain, h.path][k]'hk) ∧ ([h.name, h.value, h.domain, h.path][k]'hk).length ≤ 5000
    | 0, _ => ⟨g.nc, by show h.name.length ≤ _; omega⟩
    | 1, _ => ⟨g.vc, by show h.value.length ≤ _; omega⟩
    | 2, _ => ⟨g.dc, by show h.domain.length ≤ _; omega⟩
    | 3, _ => ⟨g.pc, by show h.path.length ≤ _; omega⟩
    | n + 4, hk => by omega
  refine ⟨fun m n w' => w' = w3 ∧ ∃ j : Nat, j ≤ 4 ∧ n = (j : Int) ∧ m = 4 - j, ⟨_, rfl, 0, by decide, rfl, rfl⟩, ?_⟩
  intro m n
  refine AllJ.of ?_ _
  rintro u ⟨hu, j, hj, rfl, rfl⟩
  rw [hu]
  refine BCase.of (fun h5 => ?_) (fun h5 => ?_) <;> simp only [decide_eq_true_eq, decide_eq_false_iff_not] at h5
  · have hj4 : j < 4 := by omega
    obtain ⟨c1, c2⟩ := hcl j hj4
    refine ⟨_, index4 _ _ _ _ _ j hj4, ?_⟩
    generalize [h.name, h.value, h.domain, h.path][j]'hj4 = x at *
    refine ⟨fun q n w' => w' = w3 ∧ ∃ i : Nat, i ≤ x.length ∧ n = (i : Int) ∧ q = x.length - i, ⟨_, rfl, 0, by omega, rfl, rfl⟩, ?_⟩
    intro q n
    refine AllJ.of ?_ _
    rintro u2 ⟨hu2, i, hi, rfl, rfl⟩
    rw [hu2]
    refine BCase.of (fun h6 => ?_) (fun h6 => ?_) <;> simp only [decide_eq_true_eq, decide_eq_false_iff_not] at h6
    · have hi' : i < x.length := by omega
      have hcb := c1 x[i] (List.getElem_mem hi')
      rw [byte_at hi']
      have hin : (0 : Int) ≤ (i : Int) ∧ (i : Int) < ((x.length : Nat) : Int) := ⟨by omega, h6⟩
      have hnext : ∃ m' : Nat, m' < x.length - i ∧ (w3 = w3 ∧ ∃ i' : Nat, i' ≤ x.length ∧ IntKind.i64.wrap ((i : Int) + 1) = (i' : Int) ∧ m' = x.length - i') :=
        ⟨x.length - (i + 1), by omega, rfl, i + 1, by omega, by rw [wrap_i64 (by omega) (by omega)]; omega, rfl⟩
      have n59 : ¬ (((x[i].toNat : Nat) : Int) == (59 : Int)) = true := by
        have := u8_eq x[i] 59
        rw [show (((59 : UInt8).toNat : Nat) : Int) = 59 from rfl] at this
        rw [this]; simpa using hcb.2
      have n127 : ¬ (((x[i].toNat : Nat) : Int) == (127 : Int)) = true := by
        have := u8_eq x[i] 127
        rw [show (((127 : UInt8).toNat : Nat) : Int) = 127 from rfl] at this
        rw [this]
        intro e
        have := hcb.1
        unfold isCtl at this
        rw [e] at this; simp at this
      refine ⟨hin, BCase.no (by simpa using n59) ⟨hin, ?_⟩⟩
      refine BCase.of (fun h7 => ?_) (fun h7 => ?_) <;> simp only [decide_eq_true_eq, decide_eq_false_iff_not] at h7
      · refine ⟨hin, BCase.no ?_ ⟨hin, BCase.no (by simpa using n127) hnext⟩⟩
        have h9 : x[i] = 9 := by
          have := hcb.1
          unfold isCtl at this
          simp only [Bool.or_eq_false_iff, Bool.and_eq_false_iff, decide_eq_false_iff_not, Bool.not_eq_false', beq_iff_eq] at this
          exact this.1.resolve_left (fun hn => hn (by omega))
        rw [h9]; rfl
      · exact ⟨hin, BCase.no (by simpa using n127) hnext⟩
    · exact ⟨_, by omega, rfl, j + 1, by omega, by rw [wrap_i64 (by omega) (by omega)]; omega, rfl⟩
  · refine ⟨rfl, _, ga h3 rfl, rfl, _, ga h3 rfl, ?_⟩
    have hz : 0 < h.name.length + h.value.length := by
      have := g.nz
      rcases Nat.eq_zero_or_pos (h.name.length + h.value.length) with e | e
      · exact absurd (List.append_eq_nil_iff.2 ⟨List.length_eq_zero_iff.1 (by omega), List.length_eq_zero_iff.1 (by omega)⟩) this
      · exact e
    rw [wrap_i64 (by omega) (by omega)]
    refine BCase.yes (by simp; omega) ⟨rfl, _, ga h3 rfl, rfl, _, ga h3 rfl, ?_⟩
    rw [wrap_i64 (by omega) (by omega)]
    have gag := g.ag
    have gsm := g.sm
    refine BCase.yes (by simp; omega) ⟨rfl, _, h3.load1 un_int64 rfl rfl, ?_⟩
    refine BCase.yes (by simp; omega) ⟨rfl, _, h3.load1 un_int64 rfl rfl, ?_⟩
    refine BCase.yes (by simp; omega) ⟨rfl, _, ga h3 rfl, ?_⟩
    refine BCase.yes (by simp; omega) ⟨rfl, _, ga h3 rfl, ?_⟩
    refine BCase.yes (by simp; omega) ⟨rfl, _, ga h3 rfl, ?_⟩
    refine BCase.of (fun hp => ?_) (fun hp => ?_)
    · refine ⟨rfl, _, h3.load1 un_int rfl rfl, ?_⟩
      refine BCase.yes (by simp; omega) ⟨rfl, _, h3.load1 un_int rfl rfl, ?_, hB3⟩
      simp; omega
    · have hne : h.path ≠ [] := by simpa using hp
      have h47 := g.ph.resolve_left hne
      have hpos : 0 < h.path.length := List.length_pos_iff.2 hne
      refine ⟨rfl, _, ga h3 rfl, ⟨by omega, by omega⟩, ?_⟩
      have e47 : byteAt h.path 0 = 47 := by
        have := byte_at (s := h.path) (k := 0) hpos
        rw [show ((0 : Nat) : Int) = 0 from rfl] at this
        rw [this]
        have : h.path[0] = 47 := by
          rw [List.head?_eq_getElem?, List.getElem?_eq_getElem hpos] at h47
          exact Option.some.inj h47
        rw [this]; rfl
      rw [e47]
      refine BCase.yes rfl ⟨rfl, _, h3.load1 un_int rfl rfl, ?_⟩
      refine BCase.yes (by simp; omega) ⟨rfl, _, h3.load1 un_int rfl rfl, ?_, hB3⟩
      simp; omega
end Go.Proofs.YtmlcilfcaogdcaaGreatDoor
