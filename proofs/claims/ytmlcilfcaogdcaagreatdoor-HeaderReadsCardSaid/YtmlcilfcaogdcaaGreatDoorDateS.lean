/- Contract of date.Cookie. Its conditions: none. -/
import Derived.Test.YtmlcilfcaogdcaaGreatDoorDateR
set_option linter.unusedVariables false
set_option linter.unusedSimpArgs false
set_option maxRecDepth 20000
namespace Go.Proofs.YtmlcilfcaogdcaaGreatDoor
open Go.Pk
open Go.RowKit (Below)
theorem fnd_get7 (f : Fnd) : f.cells[7]? = some (.int .i64 f.y) := rfl
theorem date_Cookie_ok (s : List UInt8) (hs : s.length ≤ 100000) (w : World) : Calls Tryz.prog f_date_Cookie #[.string (mkS s)] w (Ret fun v w' => v = cookV (toldV s) ∧ Below w.heap.size w w') := by
  apply run_date_Cookie
  unfold vc_date_Cookie
  intro k4 w4 hk4 hw4
  have hB4 : Below w.heap.size w w4 := hw4 ▸ below_alloc _ _
  have hf4 : ArrAt w4 k4 T_date_found fnd0.cells := ArrAt.new hk4 hw4
  have htr : true = true := rfl
  have hk4w : ∀ x, some k4 = some x → w.heap.size ≤ x := fun x e => by cases e; omega
  refine ⟨fun m fr i w' => ∃ (k j : Nat) (f : Fnd), k ≤ s.length + 1 ∧ i = (k : Int) ∧ fr = (j : Int) ∧ j ≤ k ∧ m = s.length + 1 - k ∧ FndOk f ∧
      toldV s = (if k ≤ s.length then (cutP ((s.take k).drop j) (s.drop k)).foldl tokV f else f) ∧ ArrAt w' k4 T_date_found f.cells ∧ Below w.heap.size w w',
    ⟨_, 0, 0, fnd0, by omega, rfl, rfl, Nat.le_refl _, rfl, fnd0_ok, by rw [if_pos (Nat.zero_le _)]; rfl, hf4, hB4⟩, ?_⟩
  intro m fr i
  refine AllJ.of ?_ _
  rintro w1 ⟨k, j, f, hk, rfl, rfl, hj, rfl, hok, htold, hf1, hb1⟩
  have ew : k ≤ s.length → IntKind.i64.wrap ((k : Int) + 1) = ((k + 1 : Nat) : Int) := fun hle => by rw [wrap_i64 (by omega) (by omega)]; omega
  refine BCase.of (fun h => ?_) (fun h => ?_) <;> simp only [decide_eq_true_eq, decide_eq_false_iff_not] at h
  · have hle : k ≤ s.length := by omega
    rw [if_pos hle] at htold
    rw [ew hle]
    refine boolJ (w := w1) (decide (k = s.length ∨ ∃ h : k < s.length, isPart s[k] = true)) ?_ ?_
    · refine BCase.of (fun h2 => ?_) (fun h2 => ?_)
      · rw [beq_iff_eq] at h2
        exact ⟨rfl, (decide_eq_true (.inl (by omega))).symm⟩
      · rw [beq_eq_false_iff_ne] at h2
        have hlt : k < s.length := by omega
        refine ⟨⟨by omega, by omega⟩, ?_⟩
        refine callK (date_parts_ok _ w1) ?_
        rintro _ w1 ⟨rfl, rfl⟩
        refine ⟨_, rfl, rfl, ?_⟩
        rw [part_int hlt]
        cases hp : isPart s[k]
        · exact (decide_eq_false (by rintro (e | ⟨_, e⟩); · omega
                                     · rw [hp] at e; cases e)).symm
        · exact (decide_eq_true (.inr ⟨hlt, hp⟩)).symm
    · have hcut : (cutP ((s.take k).drop j) (s.drop k)) = if (k = s.length ∨ ∃ h : k < s.length, isPart s[k] = true) then (s.take k).drop j :: (if k < s.length then cutP [] (s.drop (k + 1)) else []) else cutP ((s.take (k + 1)).drop j) (s.drop (k + 1)) := by
        by_cases hlt : k < s.length
        · rw [cutP_split s _ k hlt]
          cases hp : isPart s[k]
          · rw [if_neg (by decide), if_neg (by rintro (e | ⟨_, e⟩); · omega
                                               · rw [hp] at e; cases e)]
            rw [List.take_succ_eq_append_getElem hlt, List.drop_append_of_le_length (by rw [List.length_take]; omega)]
          · rw [if_pos rfl, if_pos (.inr ⟨hlt, hp⟩), if_pos hlt]
        · have : k = s.length := by omega
          subst this
          rw [if_pos (.inl rfl), if_neg hlt]
          simp [cutP]
      refine BCase.of (fun h2 => ?_) (fun h2 => ?_) <;> simp only [decide_eq_true_eq, decide_eq_false_iff_not] at h2
      · rw [if_pos h2] at hcut
        rw [hcut, List.foldl_cons] at htold
        have fin : ∀ {f' : Fnd} {w' : World}, f' = tokV f ((s.take k).drop j) → ArrAt w' k4 T_date_found f'.cells → Below w.heap.size w w' →
            ∃ q : Nat, q < s.length + 1 - k ∧ ∃ (k2 j : Nat) (f : Fnd), k2 ≤ s.length + 1 ∧ ((k + 1 : Nat) : Int) = (k2 : Int) ∧ ((k + 1 : Nat) : Int) = (j : Int) ∧ j ≤ k2 ∧ q = s.length + 1 - k2 ∧ FndOk f ∧
              toldV s = (if k2 ≤ s.length then (cutP ((s.take k2).drop j) (s.drop k2)).foldl tokV f else f) ∧ ArrAt w' k4 T_date_found f.cells ∧ Below w.heap.size w w' := by
          rintro f' w' rfl ha hb'
          refine ⟨s.length + 1 - (k + 1), by omega, k + 1, k + 1, _, by omega, rfl, rfl, Nat.le_refl _, rfl, tokV_ok hok _, ?_, ha, hb'⟩
          rw [htold]
          by_cases hlt : k < s.length
          · rw [if_pos hlt, if_pos (show k + 1 ≤ s.length from hlt)]
            congr 2
            rw [List.drop_eq_nil_of_le (by rw [List.length_take]; omega)]
          · rw [if_neg hlt, if_neg (by omega)]; rfl
        refine BCase.of (fun h3 => ?_) (fun h3 => ?_) <;> simp only [gt_iff_lt, decide_eq_true_eq, decide_eq_false_iff_not] at h3
        · refine ⟨⟨⟨by omega, by omega⟩, by omega, by omega⟩, ?_⟩
          rintro _ rfl
          simp only [Int.toNat_natCast]
          refine callK (date_token_ok k4 f _ (by simp; omega) w1 hf1) ?_
          rintro _ w5 ⟨rfl, hf5, hg5⟩
          exact ⟨rfl, fin rfl hf5 (hb1.grown hg5 hb1.size hk4w)⟩
        · refine fin ?_ hf1 hb1
          have : (s.take k).drop j = [] := List.drop_eq_nil_of_le (by rw [List.length_take]; omega)
          rw [this, tokV_nil]
      · rw [if_neg h2] at hcut
        have hlt : k < s.length := by
          by_cases e : k = s.length
          · exact absurd (.inl e) h2
          · omega
        refine ⟨s.length + 1 - (k + 1), by omega, k + 1, j, f, by omega, rfl, rfl, by omega, rfl, hok, ?_, hf1, hb1⟩
        rw [if_pos (show k + 1 ≤ s.length from hlt), htold, hcut]
  · rw [if_neg (by omega)] at htold
    subst htold
    generalize toldV s = f at *
    have hy := hok.y
    have l7 := hf1.load1 (P := Tryz.prog) (i := 7) un_int rfl (fnd_get7 f)
    have bad : ∀ {w' : World}, ¬ cookP f → Below w.heap.size w w' → (.tuple #[.int .i64 (0 : Int), .bool false] : Value) = cookV f ∧ Below w.heap.size w w' := fun hn hb' => ⟨by unfold cookV; rw [if_neg hn], hb'⟩
    refine worldJ (fun w' => ArrAt w' k4 T_date_found ({ f with y := fullY f.y } : Fnd).cells ∧ Below w.heap.size w w') ?_ ?_
    · refine boolJ (w := w1) (decide (70 ≤ f.y ∧ f.y ≤ 99)) ?_ ?_
      · refine ⟨htr, _, l7, ?_⟩
        refine BCase.of (fun h2 => ?_) (fun h2 => ?_) <;> simp only [ge_iff_le, decide_eq_true_eq, decide_eq_false_iff_not] at h2
        · refine ⟨htr, _, l7, rfl, ?_⟩
          simp [h2]
        · refine ⟨rfl, ?_⟩
          simp [h2]
      · have st : ∀ n : Int, n = fullY f.y → ∃ wx : World, (Instr.storeAt T_int (.pointer (some ⟨k4, 7, none⟩)) (.int .i64 n)).run Tryz.prog w1 = .ok () wx ∧ ArrAt wx k4 T_date_found ({ f with y := fullY f.y } : Fnd).cells ∧ Below w.heap.size w wx := by
          rintro _ rfl
          obtain ⟨w7, hs7, h7, hg7⟩ := hf1.store (P := Tryz.prog) tf_int (i := 7) (v := .int .i64 (fullY f.y)) rfl (by simp [Fnd.cells]) (one_int _)
          exact ⟨w7, hs7, by simpa [Fnd.cells, Value.cells] using h7, hb1.grown hg7 hb1.size hk4w⟩
        refine BCase.of (fun h2 => ?_) (fun h2 => ?_) <;> simp only [decide_eq_true_eq, decide_eq_false_iff_not] at h2
        · exact ⟨htr, _, l7, htr, st _ (by unfold fullY; rw [if_pos h2, wrap_i64 (by omega) (by omega)])⟩
        · refine ⟨htr, _, l7, ?_⟩
          refine BCase.of (fun h3 => ?_) (fun h3 => ?_) <;> simp only [decide_eq_true_eq, decide_eq_false_iff_not] at h3
          · exact ⟨htr, _, l7, htr, st _ (by unfold fullY; rw [if_neg h2, if_pos h3, wrap_i64 (by omega) (by omega)])⟩
          · have : fullY f.y = f.y := by unfold fullY; rw [if_neg h2, if_neg h3]
            rw [this]; exact ⟨hf1, hb1⟩
    · rintro w2 ⟨hf2, hb2⟩
      refine ⟨htr, _, hf2.load1 un_int rfl rfl, htr, _, hf2.load1 un_int rfl rfl, htr, _, hf2.load1 un_int rfl rfl, ?_⟩
      have hd9 := hok.d
      refine callK (date_Days_ok _ _ _ (by simp only; omega) w2) ?_
      rintro _ w3 ⟨rfl, hb3⟩
      refine ⟨_, _, rfl, ?_⟩
      have hf3 := hf2.below hb3
      have hb23 := below_step hb2 hb3 hb2.size
      have tr3 : ∀ i : Int, 0 ≤ i → i < 3 → ((0 ≤ i ∧ i < ((3 : Nat) : Int)) ∧ true = true) := fun i h1 h2 => ⟨⟨h1, h2⟩, rfl⟩
      have l4 : (Instr.loadAt T_int (.pointer (elemAddr (some ⟨k4, 4, none⟩) (0 : Int) 1))).run Tryz.prog w3 = .ok (.int .i64 f.s0) w3 := by rw [elem_eq]; exact hf3.load1 un_int rfl rfl
      have l5 : (Instr.loadAt T_int (.pointer (elemAddr (some ⟨k4, 4, none⟩) (1 : Int) 1))).run Tryz.prog w3 = .ok (.int .i64 f.s1) w3 := by rw [elem_eq]; exact hf3.load1 un_int rfl rfl
      have l6 : (Instr.loadAt T_int (.pointer (elemAddr (some ⟨k4, 4, none⟩) (2 : Int) 1))).run Tryz.prog w3 = .ok (.int .i64 f.s2) w3 := by rw [elem_eq]; exact hf3.load1 un_int rfl rfl
      refine factJ (w := w3) (cookP f) ?_ ?_
      · refine BCase.of (fun h3 => ?_) (fun h3 => ?_) <;> simp only [Bool.not_eq_true', Bool.not_eq_false', decide_eq_true_eq, decide_eq_false_iff_not] at h3
        · exact bad (fun hc => h3 hc.1) hb23
        refine ⟨htr, _, hf3.load1 un_bool rfl rfl, ?_⟩
        refine BCase.of (fun h4 => ?_) (fun h4 => ?_) <;> simp only [Bool.not_eq_true', Bool.not_eq_false'] at h4
        · exact bad (fun hc => by rw [hc.2.1] at h4; cases h4) hb23
        refine ⟨htr, _, hf3.load1 un_bool rfl rfl, ?_⟩
        refine BCase.of (fun h5 => ?_) (fun h5 => ?_) <;> simp only [Bool.not_eq_true', Bool.not_eq_false'] at h5
        · exact bad (fun hc => by rw [hc.2.2.1] at h5; cases h5) hb23
        refine ⟨htr, tr3 0 (by decide) (by decide), _, l4, ?_⟩
        refine BCase.of (fun h6 => ?_) (fun h6 => ?_) <;> simp only [gt_iff_lt, decide_eq_true_eq, decide_eq_false_iff_not] at h6
        · exact bad (fun hc => by have := hc.2.2.2.1; omega) hb23
        refine ⟨htr, tr3 1 (by decide) (by decide), _, l5, ?_⟩
        refine BCase.of (fun h7 => ?_) (fun h7 => ?_) <;> simp only [gt_iff_lt, decide_eq_true_eq, decide_eq_false_iff_not] at h7
        · exact bad (fun hc => by have := hc.2.2.2.2.1; omega) hb23
        refine ⟨htr, tr3 2 (by decide) (by decide), _, l6, ?_⟩
        refine BCase.of (fun h8 => ?_) (fun h8 => ?_) <;> simp only [gt_iff_lt, decide_eq_true_eq, decide_eq_false_iff_not] at h8
        · exact bad (fun hc => by have := hc.2.2.2.2.2; omega) hb23
        exact ⟨rfl, h3, h4, h5, by omega, by omega, by omega⟩
      · intro hc
        refine ⟨htr, tr3 0 (by decide) (by decide), _, l4, htr, tr3 1 (by decide) (by decide), _, l5, htr, tr3 2 (by decide) (by decide), _, l6, ?_, hb23⟩
        have hr := cook_days hc.1
        have h0 := hok.s0; have h1 := hok.s1; have h2 := hok.s2
        unfold cookV
        rw [if_pos hc, if_pos hc.1]
        unfold cookN
        rw [wrap_i64 (n := daysOf (fullY f.y) f.m f.d * 86400) (by omega) (by omega), wrap_i64 (n := f.s0 * 3600) (by omega) (by omega), wrap_i64 (n := f.s1 * 60) (by omega) (by omega), wrap_i64 (n := daysOf (fullY f.y) f.m f.d * 86400 + f.s0 * 3600) (by omega) (by omega),
          wrap_i64 (n := daysOf (fullY f.y) f.m f.d * 86400 + f.s0 * 3600 + f.s1 * 60) (by omega) (by omega), wrap_i64 (by omega) (by omega)]
end Go.Proofs.YtmlcilfcaogdcaaGreatDoor
