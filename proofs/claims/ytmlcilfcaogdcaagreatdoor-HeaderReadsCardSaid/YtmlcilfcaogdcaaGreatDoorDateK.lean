/- Contract of token, the walk. Its conditions: none. -/
import Derived.Test.YtmlcilfcaogdcaaGreatDoorDateJ
set_option linter.unusedVariables false
set_option linter.unusedSimpArgs false
set_option maxRecDepth 20000
namespace Go.Proofs.YtmlcilfcaogdcaaGreatDoor
open Go.Pk
open Go.RowKit (Below)

theorem tokV_time {f : Fnd} {s : List UInt8} {a b c : Int} (h : clockV s = some [a, b, c]) (ht : f.time = false) : tokV f s = { f with s0 := a, s1 := b, s2 := c, time := true } := by
  unfold tokV; rw [h, ht]
theorem tokV_rest {f : Fnd} {s : List UInt8} (h : clockV s = none ∨ f.time = true) : tokV f s = if numOk s 1 2 = true ∧ f.day = false then { f with d := decV (digP s), day := true }
    else if 0 < monthV s ∧ f.month = false then { f with m := monthV s, month := true }
    else if numOk s 2 4 = true ∧ f.year = false then { f with y := decV (digP s), year := true } else f := by
  unfold tokV
  rcases h with h | h
  · rw [h]
  · rw [h]
    split
    · rename_i h1 h2; cases h2
    · rfl
theorem date_token_ok (k : Nat) (f : Fnd) (s : List UInt8) (hs : s.length ≤ 9223372036854775000) (w : World) (hf : ArrAt w k T_date_found f.cells) :
    Calls Tryz.prog f_date_found_token #[.pointer (some ⟨k, 0, none⟩), .string (mkS s)] w (Ret (TokPost k f s w)) := by
  apply run_date_found_token
  unfold vc_date_found_token
  simp only [addr_at]
  have h0 : Option.isSome (some (⟨k, 0, none⟩ : Addr)) = true := rfl
  obtain ⟨ti, hti, hsz, _, _⟩ := tf_arr3_int.info
  refine ⟨fun w' => w.grownBy w' (some k) ∧ ArrAt w' k T_date_found f.cells ∧ (clockV s = none ∨ f.time = true), ?_, ?_⟩
  · refine callK (date_clock_ok s hs w) ?_
    rintro _ w1 ⟨⟨a, b, c, bo, rfl, hcl⟩, hb1⟩
    refine ⟨a, b, c, bo, rfl, ?_⟩
    intro k4 w4 hk4 hw4
    have hB4 : Below w.heap.size w w4 := below_step hb1 (hw4 ▸ below_alloc _ _) hb1.size
    have h4 : ArrAt w4 k4 T_arr3_int (arrV [0, 0, 0]) := ArrAt.new hk4 hw4
    have hlt := hf.lt
    have hne : k4 ≠ k := by have := hb1.size; omega
    obtain ⟨w5, hs5, h5, hg5⟩ := h4.store (P := Tryz.prog) tf_arr3_int (i := 0) (v := .agg #[.int .i64 a, .int .i64 b, .int .i64 c]) rfl (by simp [arrV]) (arr3_one [a, b, c])
    have hB5 : Below w.heap.size w w5 := hB4.grown hg5 hB4.size (fun x e => by cases e; have := hb1.size; omega)
    have hf5 := hf.below hB5
    have h5' : ArrAt w5 k4 T_arr3_int (arrV [a, b, c]) := by simpa [arrV, Value.cells] using h5
    refine ⟨w5, hs5, fun b' w' => w' = w5 ∧ b' = (bo && !f.time), ?_, ?_⟩
    · refine BCase.of (fun h => ?_) (fun h => ?_)
      · refine ⟨h0, h0, f.time, hf5.load1 un_bool rfl rfl, rfl, by rw [h]; rfl⟩
      · exact ⟨rfl, by rw [h]; rfl⟩
    · intro b'
      refine AllJ.of ?_ _
      rintro w5 ⟨rfl, rfl⟩
      refine BCase.of (fun h => ?_) (fun h => ?_)
      · rw [Bool.and_eq_true, Bool.not_eq_true'] at h
        have hcl' : clockV s = some [a, b, c] := by
          rcases hcl with ⟨_, e⟩ | ⟨e, _⟩
          · rw [e] at h; cases h.1
          · exact e
        refine ⟨a, b, c, h5'.loadA un_arr3_int rfl hti (us := arrV [a, b, c]) (i := 0) (by rw [hsz]; rfl) (fun j hj => by rw [Nat.zero_add]), h0, h0, ?_⟩
        obtain ⟨w6, hs6, h6, hg6⟩ := hf5.store (P := Tryz.prog) tf_arr3_int (i := 4) (v := .agg #[.int .i64 a, .int .i64 b, .int .i64 c]) rfl (by simp [Fnd.cells]) (arr3_one [a, b, c])
        refine ⟨w6, hs6, h0, h0, ?_⟩
        obtain ⟨w7, hs7, h7, hg7⟩ := h6.store (P := Tryz.prog) tf_bool (i := 0) (v := .bool true) rfl (by simp [Fnd.cells, Value.cells]) (bool_one true)
        refine ⟨w7, hs7, rfl, ?_, grown_trans (grown_trans (below_grownBy hB5 _) hg6) hg7⟩
        rw [tokV_time hcl' h.2]
        simpa [Fnd.cells, Value.cells] using h7
      · refine ⟨below_grownBy hB5 _, hf5, ?_⟩
        rcases hcl with ⟨e, _⟩ | ⟨_, e⟩
        · exact .inl e
        · rw [e] at h; right; simpa using h
  · refine AllJ.of ?_ _
    rintro w1 ⟨hg1, hf1, hr1⟩
    have htok := tokV_rest hr1
    refine ⟨fun w' => w.grownBy w' (some k) ∧ ArrAt w' k T_date_found f.cells ∧ ¬ (numOk s 1 2 = true ∧ f.day = false), ?_, ?_⟩
    · refine callK (date_number_ok s 1 2 (by omega) (by omega) (by omega) w1) ?_
      rintro _ w2 ⟨rfl, hb2⟩
      have hf2 := hf1.below hb2
      have hg2 := grown_trans hg1 (below_grownBy hb2 (some k))
      have hnum : ∃ (n : Int) (r : List UInt8), numV s 1 2 = .tuple #[.int .i64 n, .string (mkS r), .bool (numOk s 1 2)] ∧ (numOk s 1 2 = true → n = decV (digP s)) := by
        cases hn : numOk s 1 2
        · exact ⟨_, _, numV_bad hn, fun e => by cases e⟩
        · exact ⟨_, _, numV_ok hn, fun _ => rfl⟩
      obtain ⟨n, r, hne, hnv⟩ := hnum
      refine ⟨n, r, numOk s 1 2, by rw [hne], fun b' w' => w' = w2 ∧ b' = (numOk s 1 2 && !f.day), ?_, ?_⟩
      · refine BCase.of (fun h => ?_) (fun h => ?_)
        · exact ⟨h0, h0, f.day, hf2.load1 un_bool rfl rfl, rfl, by rw [h]; rfl⟩
        · exact ⟨rfl, by rw [h]; rfl⟩
      · intro b'
        refine AllJ.of ?_ _
        rintro w2 ⟨rfl, rfl⟩
        refine BCase.of (fun h => ?_) (fun h => ?_)
        · rw [Bool.and_eq_true, Bool.not_eq_true'] at h
          refine ⟨h0, h0, ?_⟩
          obtain ⟨w6, hs6, h6, hg6⟩ := hf2.store (P := Tryz.prog) tf_int (i := 9) (v := .int .i64 n) rfl (by simp [Fnd.cells]) (one_int n)
          refine ⟨w6, hs6, h0, h0, ?_⟩
          obtain ⟨w7, hs7, h7, hg7⟩ := h6.store (P := Tryz.prog) tf_bool (i := 1) (v := .bool true) rfl (by simp [Fnd.cells, Value.cells]) (bool_one true)
          refine ⟨w7, hs7, rfl, ?_, grown_trans (grown_trans hg2 hg6) hg7⟩
          rw [htok, if_pos h, ← hnv h.1]
          simpa [Fnd.cells, Value.cells] using h7
        · refine ⟨hg2, hf2, fun hc => ?_⟩
          rw [hc.1, hc.2] at h; cases h
    · refine AllJ.of ?_ _
      rintro w2 ⟨hg2, hf2, hr2⟩
      rw [if_neg hr2] at htok
      refine ⟨fun w' => w.grownBy w' (some k) ∧ ArrAt w' k T_date_found f.cells ∧ ¬ (0 < monthV s ∧ f.month = false), ?_, ?_⟩
      · refine callK (date_month_ok s (by omega) w2) ?_
        rintro _ w3 ⟨rfl, hb3⟩
        have hf3 := hf2.below hb3
        have hg3 := grown_trans hg2 (below_grownBy hb3 (some k))
        refine ⟨_, rfl, fun b' w' => w' = w3 ∧ b' = (decide (0 < monthV s) && !f.month), ?_, ?_⟩
        · refine BCase.of (fun h => ?_) (fun h => ?_)
          · exact ⟨h0, h0, f.month, hf3.load1 un_bool rfl rfl, rfl, by rw [show decide (0 < monthV s) = true from h]; rfl⟩
          · exact ⟨rfl, by rw [show decide (0 < monthV s) = false from h]; rfl⟩
        · intro b'
          refine AllJ.of ?_ _
          rintro w3 ⟨rfl, rfl⟩
          refine BCase.of (fun h => ?_) (fun h => ?_)
          · rw [Bool.and_eq_true, Bool.not_eq_true', decide_eq_true_eq] at h
            refine ⟨h0, h0, ?_⟩
            obtain ⟨w6, hs6, h6, hg6⟩ := hf3.store (P := Tryz.prog) tf_int (i := 8) (v := .int .i64 (monthV s)) rfl (by simp [Fnd.cells]) (one_int _)
            refine ⟨w6, hs6, h0, h0, ?_⟩
            obtain ⟨w7, hs7, h7, hg7⟩ := h6.store (P := Tryz.prog) tf_bool (i := 2) (v := .bool true) rfl (by simp [Fnd.cells, Value.cells]) (bool_one true)
            refine ⟨w7, hs7, rfl, ?_, grown_trans (grown_trans hg3 hg6) hg7⟩
            rw [htok, if_pos h]
            simpa [Fnd.cells, Value.cells] using h7
          · refine ⟨hg3, hf3, fun hc => ?_⟩
            rw [decide_eq_true hc.1, hc.2] at h; cases h
      · refine AllJ.of ?_ _
        rintro w3 ⟨hg3, hf3, hr3⟩
        rw [if_neg hr3] at htok
        refine callK (date_number_ok s 2 4 (by omega) (by omega) (by omega) w3) ?_
        rintro _ w4 ⟨rfl, hb4⟩
        have hf4 := hf3.below hb4
        have hg4 := grown_trans hg3 (below_grownBy hb4 (some k))
        have hnum : ∃ (n : Int) (r : List UInt8), numV s 2 4 = .tuple #[.int .i64 n, .string (mkS r), .bool (numOk s 2 4)] ∧ (numOk s 2 4 = true → n = decV (digP s)) := by
          cases hn : numOk s 2 4
          · exact ⟨_, _, numV_bad hn, fun e => by cases e⟩
          · exact ⟨_, _, numV_ok hn, fun _ => rfl⟩
        obtain ⟨n, r, hne, hnv⟩ := hnum
        refine ⟨n, r, numOk s 2 4, by rw [hne], fun b' w' => w' = w4 ∧ b' = (numOk s 2 4 && !f.year), ?_, ?_⟩
        · refine BCase.of (fun h => ?_) (fun h => ?_)
          · exact ⟨h0, h0, f.year, hf4.load1 un_bool rfl rfl, rfl, by rw [h]; rfl⟩
          · exact ⟨rfl, by rw [h]; rfl⟩
        · intro b'
          refine AllJ.of ?_ _
          rintro w4 ⟨rfl, rfl⟩
          refine BCase.of (fun h => ?_) (fun h => ?_)
          · rw [Bool.and_eq_true, Bool.not_eq_true'] at h
            refine ⟨h0, h0, ?_⟩
            obtain ⟨w6, hs6, h6, hg6⟩ := hf4.store (P := Tryz.prog) tf_int (i := 7) (v := .int .i64 n) rfl (by simp [Fnd.cells]) (one_int n)
            refine ⟨w6, hs6, h0, h0, ?_⟩
            obtain ⟨w7, hs7, h7, hg7⟩ := h6.store (P := Tryz.prog) tf_bool (i := 3) (v := .bool true) rfl (by simp [Fnd.cells, Value.cells]) (bool_one true)
            refine ⟨w7, hs7, rfl, ?_, grown_trans (grown_trans hg4 hg6) hg7⟩
            rw [htok, if_pos h, ← hnv h.1]
            simpa [Fnd.cells, Value.cells] using h7
          · refine ⟨rfl, ?_, hg4⟩
            rw [htok, if_neg (fun hc => by rw [hc.1, hc.2] at h; cases h)]
            exact hf4
end Go.Proofs.YtmlcilfcaogdcaaGreatDoor
