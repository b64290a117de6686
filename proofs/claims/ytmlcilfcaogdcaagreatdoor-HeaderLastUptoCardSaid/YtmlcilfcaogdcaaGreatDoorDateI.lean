/- Contract of clock. Its conditions: none. -/
import Derived.Test.YtmlcilfcaogdcaaGreatDoorDateH
set_option linter.unusedVariables false
set_option linter.unusedSimpArgs false
set_option maxRecDepth 20000
namespace Go.Proofs.YtmlcilfcaogdcaaGreatDoor
open Go.Pk
open Go.RowKit (Below)

theorem three {α : Type} {l : List α} (h : l.length = 3) : ∃ a b c, l = [a, b, c] := by
  match l, h with
  | [a, b, c], _ => exact ⟨a, b, c, rfl⟩
theorem clock_end {w w' : World} {k2 k4 : Nat} {out us : List Int} {K : Value → World → Prop} {bo : Bool} (h2 : ArrAt w' k2 T_arr3_int (arrV us)) (h4 : ArrAt w' k4 T_arr3_int (arrV out)) (hl : out.length = 3) (hu : us.length = 3)
    (hb : Below w.heap.size w w') (hk2 : w.heap.size ≤ k2)
    (hK : ∀ a b c wx, out = [a, b, c] → Below w.heap.size w wx → K (.tuple #[.agg #[.int .i64 a, .int .i64 b, .int .i64 c], .bool bo]) wx) :
    ∃ (n0 : Int) (n1 : Int) (n2 : Int), (Instr.loadAt T_arr3_int (.pointer (some ⟨k4, 0, none⟩))).run Tryz.prog w' = .ok (.agg #[.int .i64 n0, .int .i64 n1, .int .i64 n2]) w' ∧
      ∃ (wx : World), (Instr.storeAt T_arr3_int (.pointer (some ⟨k2, 0, none⟩)) (.agg #[.int .i64 n0, .int .i64 n1, .int .i64 n2])).run Tryz.prog w' = .ok () wx ∧
      ∃ (r0 : Int) (r1 : Int) (r2 : Int), (resAt T_arr3_int (.pointer (some ⟨k2, 0, none⟩))).run Tryz.prog wx = .ok (.agg #[.int .i64 r0, .int .i64 r1, .int .i64 r2]) wx ∧
      K (.tuple #[.agg #[.int .i64 r0, .int .i64 r1, .int .i64 r2], .bool bo]) wx := by
  obtain ⟨a, b, c, rfl⟩ := three hl
  obtain ⟨d, e, f, rfl⟩ := three hu
  obtain ⟨ti, hti, hsz, _, _⟩ := tf_arr3_int.info
  refine ⟨a, b, c, h4.loadA un_arr3_int rfl hti (us := arrV [a, b, c]) (i := 0) (by rw [hsz]; rfl) (fun j hj => by rw [Nat.zero_add]), ?_⟩
  obtain ⟨wx, hs, h2', hg⟩ := h2.store (P := Tryz.prog) tf_arr3_int (i := 0) (v := .agg #[.int .i64 a, .int .i64 b, .int .i64 c]) rfl (by simp [arrV]) (arr3_one [a, b, c])
  refine ⟨wx, hs, a, b, c, ?_, hK a b c wx rfl (hb.grown hg hb.size (fun x e => by cases e; exact hk2))⟩
  exact ArrAt.res (ArrAt.loadA un_arr3_int rfl hti h2' (us := arrV [a, b, c]) (i := 0) (by rw [hsz]; rfl) (fun j hj => by simp [arrV, Value.cells]))

theorem one_int (n : Int) : ∀ c ∈ (Value.int .i64 n).cells.toList, c.oneCell' = true := by
  intro c hc
  have : c = .int .i64 n := by simpa [Value.cells] using hc
  subst this; rfl
theorem date_clock_ok (s : List UInt8) (hs : s.length ≤ 9223372036854775000) (w : World) : Calls Tryz.prog f_date_clock #[.string (mkS s)] w (Ret (ClockPost s w)) := by
  apply run_date_clock
  unfold vc_date_clock
  intro k2 w2 hk2 hw2 k4 w4 hk4 hw4
  have hB2 : Below w.heap.size w w2 := hw2 ▸ below_alloc _ _
  have hB4 : Below w2.heap.size w2 w4 := hw4 ▸ below_alloc _ _
  have hBB : Below w.heap.size w w4 := below_step hB2 hB4 hB2.size
  have ha2 : ArrAt w4 k2 T_arr3_int (arrV [0, 0, 0]) := (ArrAt.new (vs := arrV [0, 0, 0]) hk2 hw2).below hB4
  have ha4 : ArrAt w4 k4 T_arr3_int (arrV [0, 0, 0]) := ArrAt.new hk4 hw4
  have hs2 : w2.heap.size = w.heap.size + 1 := by rw [hw2]; simp
  have hne : k2 ≠ k4 := by omega
  have hge2 : w.heap.size ≤ k2 := by omega
  have hge4 : w.heap.size ≤ k4 := by omega
  refine ⟨fun m t i w' => ∃ (k : Nat) (out : List Int), k ≤ 3 ∧ i = (k : Int) ∧ m = 3 - k ∧ out.length = 3 ∧ t.length ≤ s.length ∧ clockV s = (clockFrom (3 - k) k t).map (out.take k ++ ·) ∧
      ArrAt w' k2 T_arr3_int (arrV [0, 0, 0]) ∧ ArrAt w' k4 T_arr3_int (arrV out) ∧ Below w.heap.size w w',
    ⟨_, 0, [0, 0, 0], by omega, rfl, rfl, rfl, Nat.le_refl _, by unfold clockV; cases clockFrom 3 0 s <;> rfl, ha2, ha4, hBB⟩, ?_⟩
  intro m t i
  refine AllJ.of ?_ _
  rintro w1 ⟨k, out, hk, rfl, rfl, hlen, htl, hv, h2, h4, hb⟩
  refine BCase.of (fun h => ?_) (fun h => ?_) <;> simp only [decide_eq_true_eq, decide_eq_false_iff_not] at h
  · have ef : 3 - k = (3 - (k + 1)) + 1 := by omega
    rw [ef] at hv
    unfold clockFrom at hv
    have bad : ∀ {w' : World}, stepC k t = none → ArrAt w' k2 T_arr3_int (arrV [0, 0, 0]) → ArrAt w' k4 T_arr3_int (arrV out) → Below w.heap.size w w' → _ := fun {w'} he h2 h4 hb =>
      clock_end (K := ClockPost s w) (bo := false) h2 h4 hlen rfl hb hge2 (fun a b c wx _ hbx => ⟨⟨a, b, c, false, rfl, .inl ⟨by rw [hv, he]; rfl, rfl⟩⟩, hbx⟩)
    refine ⟨fun u w' => w' = w1 ∧ colon k t = some u ∧ u.length ≤ s.length, ?_, ?_⟩
    · refine BCase.of (fun h5 => ?_) (fun h5 => ?_) <;> simp only [gt_iff_lt, decide_eq_true_eq, decide_eq_false_iff_not] at h5
      · refine callK (cutPrefix_ok t w1) ?_
        rintro _ w1 ⟨rfl, rfl⟩
        refine ⟨_, _, rfl, ?_⟩
        refine BCase.of (fun h6 => ?_) (fun h6 => ?_) <;> simp only [Bool.not_eq_true', Bool.not_eq_false', decide_eq_true_eq, decide_eq_false_iff_not] at h6
        · exact bad (by unfold stepC colon; rw [if_neg (by omega), if_neg h6]; rfl) h2 h4 hb
        · exact ⟨rfl, by unfold colon; rw [if_neg (by omega), if_pos h6, if_pos h6], by rw [if_pos h6]; simp; omega⟩
      · exact ⟨rfl, by unfold colon; rw [if_pos (by omega)], htl⟩
    · intro u
      refine AllJ.of ?_ _
      rintro w1 ⟨rfl, hc, hul⟩
      have hst : stepC k t = if 1 ≤ (digP u).length ∧ (digP u).length ≤ 2 then some (decV (digP u), u.drop (digP u).length) else none := by unfold stepC; rw [hc]; rfl
      refine callK (date_number_ok u 1 2 (by omega) (by omega) (by omega) w1) ?_
      rintro _ w5 ⟨rfl, hb5⟩
      have h2' := h2.below hb5
      have h4' := h4.below hb5
      have hb' := below_step hb hb5 hb.size
      unfold numV
      by_cases hd : 1 ≤ (digP u).length ∧ (digP u).length ≤ 2
      · rw [if_pos (by omega)]
        rw [if_pos hd] at hst
        refine ⟨_, _, _, rfl, BCase.no rfl ?_⟩
        refine ⟨⟨⟨by omega, by omega⟩, rfl⟩, ?_⟩
        rw [elem_eq, Nat.zero_add, Nat.mul_one, Int.toNat_natCast]
        obtain ⟨w6, hs6, h6, hg6⟩ := h4'.store (P := Tryz.prog) (n := 1) (bytes := 8) (z := .int .i64 0) tf_int (i := k) (v := .int .i64 (decV (digP u))) rfl (by simp [arrV, hlen]; omega) (one_int _)
        refine ⟨w6, hs6, 3 - (k + 1), by omega, k + 1, out.set k (decV (digP u)), by omega, ?_, rfl, by simpa using hlen, by simp; omega, ?_, h2'.grown hg6 (fun e => hne (Option.some.inj e)), ?_, hb'.grown hg6 hb'.size (fun x e => by cases e; exact hge4)⟩
        · rw [wrap_i64 (by omega) (by omega)]; omega
        · rw [hv, hst]
          have e1 : (out.set k (decV (digP u))).take (k + 1) = out.take k ++ [decV (digP u)] := by
            rw [List.take_succ_eq_append_getElem (by simp; omega), List.getElem_set_self, List.take_set_of_le (Nat.le_refl _)]
          rw [e1]
          show ((clockFrom (3 - (k + 1)) (k + 1) (u.drop (digP u).length)).map _).map _ = _
          rw [Option.map_map]
          congr 1
          funext x
          simp
        · have e2 : arrV (out.set k (decV (digP u))) = (arrV out).take k ++ [Value.int .i64 (decV (digP u))] ++ (arrV out).drop (k + 1) := by
            unfold arrV
            rw [List.map_set, List.set_eq_take_append_cons_drop, if_pos (by simp; omega)]
            simp
          rw [e2]; exact h6
      · rw [if_neg (by omega)]
        rw [if_neg hd] at hst
        refine ⟨_, _, _, rfl, BCase.yes rfl ?_⟩
        exact bad hst h2' h4' hb'
  · have : k = 3 := by omega
    subst this
    exact clock_end (K := ClockPost s w) (bo := true) h2 h4 hlen rfl hb hge2 (fun a b c wx e hbx => ⟨⟨a, b, c, true, rfl, .inr ⟨by rw [hv, e]; rfl, rfl⟩⟩, hbx⟩)
end Go.Proofs.YtmlcilfcaogdcaaGreatDoor
