/- Contract of the document's text of a moment. Its conditions: none. -/
import Derived.Test.YtmlcilfcaogdcaaDoorDateT
set_option linter.unusedVariables false
set_option linter.unusedSimpArgs false
set_option maxRecDepth 20000
namespace Go.Proofs.YtmlcilfcaogdcaaDoor
open Go.Pk
open Go.RowKit (Below)
theorem weekL_get {k : Int} (h0 : 0 ≤ k) (h1 : k < 7) : weekL[k.toNat]'(by show k.toNat < 7; omega) = weekN k := by
  unfold weekN; rw [List.getElem?_eq_getElem (by show k.toNat < 7; omega)]; rfl
theorem monL3_get {k : Int} (h0 : 1 ≤ k) (h1 : k ≤ 12) : monL3[(k - 1).toNat]'(by show (k - 1).toNat < 12; omega) = monN k := by
  unfold monN; rw [List.getElem?_eq_getElem (by show (k - 1).toNat < 12; omega)]; rfl
set_option maxHeartbeats 2000000 in
theorem ref07_Text_ok (t : Int) (h0 : -9223372036854775808 ≤ t) (h1 : t ≤ 9223372036854775807) (w : World) : Calls Tryd.prog f_ref07_Text #[.int .i64 t] w (Ret fun v w' => v = .string (mkS (textV t)) ∧ Below w.heap.size w w') := by
  apply run_ref07_Text
  unfold vc_ref07_Text
  obtain ⟨e1, e2⟩ := trunc_div (t := t) (b := 86400) (by decide)
  refine ⟨by decide, ?_⟩
  rintro _ rfl
  refine intJ (w := w) (t % 86400) ?_ ?_
  · refine BCase.of (fun h => ?_) (fun h => ?_) <;> simp only [decide_eq_true_eq, decide_eq_false_iff_not] at h
    · have hneg : t < 0 := by
        by_cases c : 0 ≤ t
        · have := (e1 c).2; omega
        · omega
      obtain ⟨e3, e4⟩ := e2 hneg
      rw [e4] at h
      rw [e4, wrap_i64 (by omega) (by omega)]
      exact ⟨rfl, by omega⟩
    · by_cases c : 0 ≤ t
      · rw [(e1 c).2]; exact ⟨rfl, rfl⟩
      · obtain ⟨e3, e4⟩ := e2 (by omega)
        rw [e4] at h ⊢; exact ⟨rfl, by omega⟩
  refine ⟨by decide, ?_⟩
  rintro _ rfl
  refine intJ (w := w) (t / 86400) ?_ ?_
  · refine BCase.of (fun h => ?_) (fun h => ?_) <;> simp only [decide_eq_true_eq, decide_eq_false_iff_not] at h
    · obtain ⟨e3, e4⟩ := e2 h
      refine ⟨by decide, ?_⟩
      rintro _ rfl
      rw [e3, e4, wrap_i64 (n := -(-t / 86400)) (by omega) (by omega)]
      refine BCase.of (fun h2 => ?_) (fun h2 => ?_)
      · rw [bne_iff_ne] at h2
        rw [wrap_i64 (by omega) (by omega)]; exact ⟨rfl, by omega⟩
      · have h2' : -(-t % 86400) = 0 := by simpa using h2
        exact ⟨rfl, by omega⟩
    · rw [(e1 (by omega)).1, wrap_i64 (by omega) (by omega)]; exact ⟨rfl, rfl⟩
  clear e1 e2
  refine callK (ref07_Civil_ok _ w (by omega)) ?_
  rintro _ w ⟨rfl, rfl⟩
  by_cases hr : t / 86400 < -134774 ∨ 2932896 < t / 86400
  · rw [civV_none hr]
    refine ⟨_, _, _, _, rfl, BCase.yes rfl ⟨by rw [textV_none hr], Below.refl _ _⟩⟩
  obtain ⟨y, m, d, hd, he⟩ := civ_ex (n := t / 86400) (by omega) (by omega)
  rw [textV_of hd he, ← he, civV_of hd, he]
  refine ⟨y, m, d, true, rfl, BCase.no rfl ?_⟩
  have hdd := hd
  obtain ⟨hy1, hy2, hm1, hm2, hd1, hd2⟩ := hdd
  have hd3 := lenM_le y m
  generalize hn : t / 86400 = n at *
  generalize hs : t % 86400 = s at *
  have hs0 : 0 ≤ s ∧ s < 86400 := by omega
  have hn0 : -134774 ≤ n ∧ n ≤ 2932896 := by omega
  clear h0 h1 hn hs he hr
  obtain ⟨e1, e2⟩ := trunc_div (t := n) (b := 7) (by decide)
  refine ⟨by decide, ?_⟩
  rintro _ rfl
  refine intJ (w := w) (n % 7) ?_ ?_
  · refine BCase.of (fun h => ?_) (fun h => ?_) <;> simp only [decide_eq_true_eq, decide_eq_false_iff_not] at h
    · by_cases c : 0 ≤ n
      · rw [(e1 c).2] at h; omega
      · rw [(e2 (by omega)).2] at h ⊢
        rw [wrap_i64 (by omega) (by omega)]; exact ⟨rfl, by omega⟩
    · by_cases c : 0 ≤ n
      · rw [(e1 c).2]; exact ⟨rfl, rfl⟩
      · rw [(e2 (by omega)).2] at h ⊢
        exact ⟨rfl, by omega⟩
  clear e1 e2
  have hk0 : 0 ≤ n % 7 ∧ n % 7 < 7 := by omega
  have hwl := weekN_len hk0.1 hk0.2
  have hml := monN_len hm1 hm2
  have lweek : ∀ {k : Nat} {w1 w2 w3 : World}, k = w1.heap.size → w2 = w1.alloc (.cells #[.string (mkS [84, 104, 117]), .string (mkS [70, 114, 105]), .string (mkS [83, 97, 116]), .string (mkS [83, 117, 110]), .string (mkS [77, 111, 110]), .string (mkS [84, 117, 101]), .string (mkS [87, 101, 100])] T_string) →
      Below w2.heap.size w2 w3 → (Instr.loadAt T_string (.pointer (elemAddr (some ⟨k, 0, none⟩) (n % 7) 1))).run Tryd.prog w3 = .ok (.string (mkS (weekN (n % 7)))) w3 := by
    intro k w1 w2 w3 hk hw hb
    have ho : Ow tS T_string w2 NoB (some ⟨k, 0, none⟩) 7 7 weekL := Ow.newF (l := weekL.map fun s => Value.string (mkS s)) (flat_str _) hk hw (RepL_enc fun _ _ => trivial) (by decide)
    obtain ⟨v, hv, hrep⟩ := (ho.below hb).all.load1 (i := n % 7) un_string rfl rfl (by show _ < 7; omega)
    obtain ⟨rfl, -⟩ := str_rep hrep
    rw [weekL_get hk0.1 hk0.2] at hv; exact hv
  have lmon : ∀ {k : Nat} {w1 w2 : World}, k = w1.heap.size → w2 = w1.alloc (.cells #[.string (mkS [74, 97, 110]), .string (mkS [70, 101, 98]), .string (mkS [77, 97, 114]), .string (mkS [65, 112, 114]), .string (mkS [77, 97, 121]), .string (mkS [74, 117, 110]), .string (mkS [74, 117, 108]), .string (mkS [65, 117, 103]), .string (mkS [83, 101, 112]), .string (mkS [79, 99, 116]), .string (mkS [78, 111, 118]), .string (mkS [68, 101, 99])] T_string) →
      (Instr.loadAt T_string (.pointer (elemAddr (some ⟨k, 0, none⟩) (m - 1) 1))).run Tryd.prog w2 = .ok (.string (mkS (monN m))) w2 := by
    intro k w1 w2 hk hw
    have ho : Ow tS T_string w2 NoB (some ⟨k, 0, none⟩) 12 12 monL3 := Ow.newF (l := monL3.map fun s => Value.string (mkS s)) (flat_str _) hk hw (RepL_enc fun _ _ => trivial) (by decide)
    obtain ⟨v, hv, hrep⟩ := ho.all.load1 (i := m - 1) un_string rfl rfl (by show _ < 12; omega)
    obtain ⟨rfl, -⟩ := str_rep hrep
    rw [monL3_get hm1 hm2] at hv; exact hv
  have hB := below_drew w
  refine ⟨?_, ?_⟩
  · intro k4 w4 hk4 hw4
    replace hB := below_step hB (hw4 ▸ below_alloc _ _) hB.size
    refine ⟨⟨⟨by omega, by omega⟩, rfl⟩, ?_, ?_⟩
    ·
      refine ⟨weekN (n % 7), lweek hk4 hw4 (Below.refl _ _), ?_⟩
      refine ⟨fits (by simp only [List.length_append, two_len, hwl, hml, List.length_cons, List.length_nil]; omega), ?_⟩
      rintro _ rfl
      refine callK (ref07_two_ok d (by omega) (by omega) _) ?_
      rintro _ w3 ⟨rfl, hb3⟩
      replace hB := below_step hB hb3 hB.size
      refine ⟨twoL d, rfl, ?_⟩
      refine ⟨fits (by simp only [List.length_append, two_len, hwl, hml, List.length_cons, List.length_nil]; omega), ?_⟩
      rintro _ rfl
      refine ⟨fits (by simp only [List.length_append, two_len, hwl, hml, List.length_cons, List.length_nil]; omega), ?_⟩
      rintro _ rfl
      intro k5 w5 hk5 hw5
      replace hB := below_step hB (hw5 ▸ below_alloc _ _) hB.size
      rw [wrap_i64 (n := m - 1) (by omega) (by omega)]
      refine ⟨⟨⟨by omega, by omega⟩, rfl⟩, monN m, lmon hk5 hw5, ?_⟩
      refine ⟨fits (by simp only [List.length_append, two_len, hwl, hml, List.length_cons, List.length_nil]; omega), ?_⟩
      rintro _ rfl
      refine ⟨fits (by simp only [List.length_append, two_len, hwl, hml, List.length_cons, List.length_nil]; omega), ?_⟩
      rintro _ rfl
      refine ⟨by decide, ?_⟩
      rintro _ rfl
      rw [tdiv_pos (by omega), wrap_i64 (n := y / 100) (by omega) (by omega)]
      refine callK (ref07_two_ok (y / 100) (by omega) (by omega) _) ?_
      rintro _ w3 ⟨rfl, hb3⟩
      replace hB := below_step hB hb3 hB.size
      refine ⟨twoL (y / 100), rfl, ?_⟩
      refine ⟨fits (by simp only [List.length_append, two_len, hwl, hml, List.length_cons, List.length_nil]; omega), ?_⟩
      rintro _ rfl
      refine ⟨by decide, ?_⟩
      rintro _ rfl
      rw [tmod_pos (a := y) (by omega)]
      refine callK (ref07_two_ok (y % 100) (by omega) (by omega) _) ?_
      rintro _ w3 ⟨rfl, hb3⟩
      replace hB := below_step hB hb3 hB.size
      refine ⟨twoL (y % 100), rfl, ?_⟩
      refine ⟨fits (by simp only [List.length_append, two_len, hwl, hml, List.length_cons, List.length_nil]; omega), ?_⟩
      rintro _ rfl
      refine ⟨fits (by simp only [List.length_append, two_len, hwl, hml, List.length_cons, List.length_nil]; omega), ?_⟩
      rintro _ rfl
      refine ⟨by decide, ?_⟩
      rintro _ rfl
      rw [tdiv_pos hs0.1, wrap_i64 (n := s / 3600) (by omega) (by omega)]
      refine callK (ref07_two_ok (s / 3600) (by omega) (by omega) _) ?_
      rintro _ w3 ⟨rfl, hb3⟩
      replace hB := below_step hB hb3 hB.size
      refine ⟨twoL (s / 3600), rfl, ?_⟩
      refine ⟨fits (by simp only [List.length_append, two_len, hwl, hml, List.length_cons, List.length_nil]; omega), ?_⟩
      rintro _ rfl
      refine ⟨fits (by simp only [List.length_append, two_len, hwl, hml, List.length_cons, List.length_nil]; omega), ?_⟩
      rintro _ rfl
      refine ⟨by decide, ?_⟩
      rintro _ rfl
      refine ⟨by decide, ?_⟩
      rintro _ rfl
      rw [tdiv_pos hs0.1, wrap_i64 (n := s / 60) (by omega) (by omega), tmod_pos (a := s / 60) (by omega)]
      refine callK (ref07_two_ok (s / 60 % 60) (by omega) (by omega) _) ?_
      rintro _ w3 ⟨rfl, hb3⟩
      replace hB := below_step hB hb3 hB.size
      refine ⟨twoL (s / 60 % 60), rfl, ?_⟩
      refine ⟨fits (by simp only [List.length_append, two_len, hwl, hml, List.length_cons, List.length_nil]; omega), ?_⟩
      rintro _ rfl
      refine ⟨fits (by simp only [List.length_append, two_len, hwl, hml, List.length_cons, List.length_nil]; omega), ?_⟩
      rintro _ rfl
      refine ⟨by decide, ?_⟩
      rintro _ rfl
      rw [tmod_pos (a := s) hs0.1]
      refine callK (ref07_two_ok (s % 60) (by omega) (by omega) _) ?_
      rintro _ w3 ⟨rfl, hb3⟩
      replace hB := below_step hB hb3 hB.size
      refine ⟨twoL (s % 60), rfl, ?_⟩
      refine ⟨fits (by simp only [List.length_append, two_len, hwl, hml, List.length_cons, List.length_nil]; omega), ?_⟩
      rintro _ rfl
      refine ⟨fits (by simp only [List.length_append, two_len, hwl, hml, List.length_cons, List.length_nil]; omega), ?_⟩
      rintro _ rfl
      refine ⟨?_, hB⟩
      congr 2
      simp [textD, clockL, List.append_assoc]
    ·
      refine callK (ref07_two_ok d (by omega) (by omega) _) ?_
      rintro _ w3 ⟨rfl, hb3⟩
      replace hB := below_step hB hb3 hB.size
      refine ⟨twoL d, rfl, ?_⟩
      refine ⟨weekN (n % 7), lweek hk4 hw4 hb3, ?_⟩
      refine ⟨fits (by simp only [List.length_append, two_len, hwl, hml, List.length_cons, List.length_nil]; omega), ?_⟩
      rintro _ rfl
      refine ⟨fits (by simp only [List.length_append, two_len, hwl, hml, List.length_cons, List.length_nil]; omega), ?_⟩
      rintro _ rfl
      refine ⟨fits (by simp only [List.length_append, two_len, hwl, hml, List.length_cons, List.length_nil]; omega), ?_⟩
      rintro _ rfl
      intro k5 w5 hk5 hw5
      replace hB := below_step hB (hw5 ▸ below_alloc _ _) hB.size
      rw [wrap_i64 (n := m - 1) (by omega) (by omega)]
      refine ⟨⟨⟨by omega, by omega⟩, rfl⟩, monN m, lmon hk5 hw5, ?_⟩
      refine ⟨fits (by simp only [List.length_append, two_len, hwl, hml, List.length_cons, List.length_nil]; omega), ?_⟩
      rintro _ rfl
      refine ⟨fits (by simp only [List.length_append, two_len, hwl, hml, List.length_cons, List.length_nil]; omega), ?_⟩
      rintro _ rfl
      refine ⟨by decide, ?_⟩
      rintro _ rfl
      rw [tdiv_pos (by omega), wrap_i64 (n := y / 100) (by omega) (by omega)]
      refine callK (ref07_two_ok (y / 100) (by omega) (by omega) _) ?_
      rintro _ w3 ⟨rfl, hb3⟩
      replace hB := below_step hB hb3 hB.size
      refine ⟨twoL (y / 100), rfl, ?_⟩
      refine ⟨fits (by simp only [List.length_append, two_len, hwl, hml, List.length_cons, List.length_nil]; omega), ?_⟩
      rintro _ rfl
      refine ⟨by decide, ?_⟩
      rintro _ rfl
      rw [tmod_pos (a := y) (by omega)]
      refine callK (ref07_two_ok (y % 100) (by omega) (by omega) _) ?_
      rintro _ w3 ⟨rfl, hb3⟩
      replace hB := below_step hB hb3 hB.size
      refine ⟨twoL (y % 100), rfl, ?_⟩
      refine ⟨fits (by simp only [List.length_append, two_len, hwl, hml, List.length_cons, List.length_nil]; omega), ?_⟩
      rintro _ rfl
      refine ⟨fits (by simp only [List.length_append, two_len, hwl, hml, List.length_cons, List.length_nil]; omega), ?_⟩
      rintro _ rfl
      refine ⟨by decide, ?_⟩
      rintro _ rfl
      rw [tdiv_pos hs0.1, wrap_i64 (n := s / 3600) (by omega) (by omega)]
      refine callK (ref07_two_ok (s / 3600) (by omega) (by omega) _) ?_
      rintro _ w3 ⟨rfl, hb3⟩
      replace hB := below_step hB hb3 hB.size
      refine ⟨twoL (s / 3600), rfl, ?_⟩
      refine ⟨fits (by simp only [List.length_append, two_len, hwl, hml, List.length_cons, List.length_nil]; omega), ?_⟩
      rintro _ rfl
      refine ⟨fits (by simp only [List.length_append, two_len, hwl, hml, List.length_cons, List.length_nil]; omega), ?_⟩
      rintro _ rfl
      refine ⟨by decide, ?_⟩
      rintro _ rfl
      refine ⟨by decide, ?_⟩
      rintro _ rfl
      rw [tdiv_pos hs0.1, wrap_i64 (n := s / 60) (by omega) (by omega), tmod_pos (a := s / 60) (by omega)]
      refine callK (ref07_two_ok (s / 60 % 60) (by omega) (by omega) _) ?_
      rintro _ w3 ⟨rfl, hb3⟩
      replace hB := below_step hB hb3 hB.size
      refine ⟨twoL (s / 60 % 60), rfl, ?_⟩
      refine ⟨fits (by simp only [List.length_append, two_len, hwl, hml, List.length_cons, List.length_nil]; omega), ?_⟩
      rintro _ rfl
      refine ⟨fits (by simp only [List.length_append, two_len, hwl, hml, List.length_cons, List.length_nil]; omega), ?_⟩
      rintro _ rfl
      refine ⟨by decide, ?_⟩
      rintro _ rfl
      rw [tmod_pos (a := s) hs0.1]
      refine callK (ref07_two_ok (s % 60) (by omega) (by omega) _) ?_
      rintro _ w3 ⟨rfl, hb3⟩
      replace hB := below_step hB hb3 hB.size
      refine ⟨twoL (s % 60), rfl, ?_⟩
      refine ⟨fits (by simp only [List.length_append, two_len, hwl, hml, List.length_cons, List.length_nil]; omega), ?_⟩
      rintro _ rfl
      refine ⟨fits (by simp only [List.length_append, two_len, hwl, hml, List.length_cons, List.length_nil]; omega), ?_⟩
      rintro _ rfl
      refine ⟨?_, hB⟩
      congr 2
      simp [textD, clockL, List.append_assoc]
  ·
      refine callK (ref07_two_ok d (by omega) (by omega) _) ?_
      rintro _ w3 ⟨rfl, hb3⟩
      replace hB := below_step hB hb3 hB.size
      refine ⟨twoL d, rfl, ?_⟩
      intro k4 w4 hk4 hw4
      replace hB := below_step hB (hw4 ▸ below_alloc _ _) hB.size
      refine ⟨⟨⟨by omega, by omega⟩, rfl⟩, ?_⟩
      refine ⟨weekN (n % 7), lweek hk4 hw4 (Below.refl _ _), ?_⟩
      refine ⟨fits (by simp only [List.length_append, two_len, hwl, hml, List.length_cons, List.length_nil]; omega), ?_⟩
      rintro _ rfl
      refine ⟨fits (by simp only [List.length_append, two_len, hwl, hml, List.length_cons, List.length_nil]; omega), ?_⟩
      rintro _ rfl
      refine ⟨fits (by simp only [List.length_append, two_len, hwl, hml, List.length_cons, List.length_nil]; omega), ?_⟩
      rintro _ rfl
      intro k5 w5 hk5 hw5
      replace hB := below_step hB (hw5 ▸ below_alloc _ _) hB.size
      rw [wrap_i64 (n := m - 1) (by omega) (by omega)]
      refine ⟨⟨⟨by omega, by omega⟩, rfl⟩, monN m, lmon hk5 hw5, ?_⟩
      refine ⟨fits (by simp only [List.length_append, two_len, hwl, hml, List.length_cons, List.length_nil]; omega), ?_⟩
      rintro _ rfl
      refine ⟨fits (by simp only [List.length_append, two_len, hwl, hml, List.length_cons, List.length_nil]; omega), ?_⟩
      rintro _ rfl
      refine ⟨by decide, ?_⟩
      rintro _ rfl
      rw [tdiv_pos (by omega), wrap_i64 (n := y / 100) (by omega) (by omega)]
      refine callK (ref07_two_ok (y / 100) (by omega) (by omega) _) ?_
      rintro _ w3 ⟨rfl, hb3⟩
      replace hB := below_step hB hb3 hB.size
      refine ⟨twoL (y / 100), rfl, ?_⟩
      refine ⟨fits (by simp only [List.length_append, two_len, hwl, hml, List.length_cons, List.length_nil]; omega), ?_⟩
      rintro _ rfl
      refine ⟨by decide, ?_⟩
      rintro _ rfl
      rw [tmod_pos (a := y) (by omega)]
      refine callK (ref07_two_ok (y % 100) (by omega) (by omega) _) ?_
      rintro _ w3 ⟨rfl, hb3⟩
      replace hB := below_step hB hb3 hB.size
      refine ⟨twoL (y % 100), rfl, ?_⟩
      refine ⟨fits (by simp only [List.length_append, two_len, hwl, hml, List.length_cons, List.length_nil]; omega), ?_⟩
      rintro _ rfl
      refine ⟨fits (by simp only [List.length_append, two_len, hwl, hml, List.length_cons, List.length_nil]; omega), ?_⟩
      rintro _ rfl
      refine ⟨by decide, ?_⟩
      rintro _ rfl
      rw [tdiv_pos hs0.1, wrap_i64 (n := s / 3600) (by omega) (by omega)]
      refine callK (ref07_two_ok (s / 3600) (by omega) (by omega) _) ?_
      rintro _ w3 ⟨rfl, hb3⟩
      replace hB := below_step hB hb3 hB.size
      refine ⟨twoL (s / 3600), rfl, ?_⟩
      refine ⟨fits (by simp only [List.length_append, two_len, hwl, hml, List.length_cons, List.length_nil]; omega), ?_⟩
      rintro _ rfl
      refine ⟨fits (by simp only [List.length_append, two_len, hwl, hml, List.length_cons, List.length_nil]; omega), ?_⟩
      rintro _ rfl
      refine ⟨by decide, ?_⟩
      rintro _ rfl
      refine ⟨by decide, ?_⟩
      rintro _ rfl
      rw [tdiv_pos hs0.1, wrap_i64 (n := s / 60) (by omega) (by omega), tmod_pos (a := s / 60) (by omega)]
      refine callK (ref07_two_ok (s / 60 % 60) (by omega) (by omega) _) ?_
      rintro _ w3 ⟨rfl, hb3⟩
      replace hB := below_step hB hb3 hB.size
      refine ⟨twoL (s / 60 % 60), rfl, ?_⟩
      refine ⟨fits (by simp only [List.length_append, two_len, hwl, hml, List.length_cons, List.length_nil]; omega), ?_⟩
      rintro _ rfl
      refine ⟨fits (by simp only [List.length_append, two_len, hwl, hml, List.length_cons, List.length_nil]; omega), ?_⟩
      rintro _ rfl
      refine ⟨by decide, ?_⟩
      rintro _ rfl
      rw [tmod_pos (a := s) hs0.1]
      refine callK (ref07_two_ok (s % 60) (by omega) (by omega) _) ?_
      rintro _ w3 ⟨rfl, hb3⟩
      replace hB := below_step hB hb3 hB.size
      refine ⟨twoL (s % 60), rfl, ?_⟩
      refine ⟨fits (by simp only [List.length_append, two_len, hwl, hml, List.length_cons, List.length_nil]; omega), ?_⟩
      rintro _ rfl
      refine ⟨fits (by simp only [List.length_append, two_len, hwl, hml, List.length_cons, List.length_nil]; omega), ?_⟩
      rintro _ rfl
      refine ⟨?_, hB⟩
      congr 2
      simp [textD, clockL, List.append_assoc]
end Go.Proofs.YtmlcilfcaogdcaaDoor
