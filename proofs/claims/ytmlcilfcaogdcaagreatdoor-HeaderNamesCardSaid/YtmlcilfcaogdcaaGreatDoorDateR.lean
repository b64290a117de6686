/- Contract of the document's Cookie. Its conditions: none. -/
import Derived.Test.YtmlcilfcaogdcaaGreatDoorDateO
set_option linter.unusedVariables false
set_option linter.unusedSimpArgs false
set_option maxRecDepth 20000
namespace Go.Pk
/-- what the document's loop holds: the times, year, month, day -/
structure Held (f : Fnd) (t : List Int) (y m d : Int) : Prop where
  t : t = if f.time then [f.s0, f.s1, f.s2] else []
  y : y = if f.year then f.y else -1
  m : m = if f.month then f.m else -1
  d : d = if f.day then f.d else -1
theorem cutP_split : ∀ (s cur : List UInt8) (k : Nat) (h : k < s.length), cutP cur (s.drop k) = if isPart s[k] then cur :: cutP [] (s.drop (k + 1)) else cutP (cur ++ [s[k]]) (s.drop (k + 1)) := fun s cur k h => by
  rw [List.drop_eq_getElem_cons h]; rfl
theorem part_int {s : List UInt8} {k : Nat} (h : k < s.length) : decide (partsP (byteAt s (k : Int))) = isPart s[k] := by
  unfold isPart; rw [byteAt_get (i := (k : Int)) (by simpa using h)]; simp only [Int.toNat_natCast]
end Go.Pk
namespace Go.Proofs.YtmlcilfcaogdcaaGreatDoor
open Go.Pk
open Go.RowKit (Below)
theorem numOk_iff {s : List UInt8} {a b : Int} : numOk s a b = true ↔ a ≤ ((digP s).length : Int) ∧ ((digP s).length : Int) ≤ b := by unfold numOk; rw [decide_eq_true_eq]
theorem ref07_Cookie_ok (s : List UInt8) (hs : s.length ≤ 100000) (w : World) : Calls Tryz.prog f_ref07_Cookie #[.string (mkS s)] w (Ret fun v w' => v = cookV (toldV s) ∧ Below w.heap.size w w') := by
  apply run_ref07_Cookie
  unfold vc_ref07_Cookie
  intro k17 w17 hk17 hw17
  have hB17 : Below w.heap.size w w17 := hw17 ▸ below_alloc _ _
  have ho17 : Ow tS T_string w17 NoB (some ⟨k17, 0, none⟩) 1 1 [[]] := Ow.newF (l := [_]) (flat_str _) hk17 hw17 (RepL.one (rep_str trivial)) (by decide)
  refine ⟨fun m a n c i w' => ∃ (k : Nat) (done : List (List UInt8)) (cur : List UInt8), k ≤ s.length ∧ i = (k : Int) ∧ m = s.length - k ∧ done.length ≤ k ∧ cur.length ≤ k ∧ cutP [] s = done ++ cutP cur (s.drop k) ∧
      Ow tS T_string w' NoB a n c (done ++ [cur]) ∧ Fresh w.heap.size a ∧ Below w.heap.size w w',
    ⟨_, 0, [], [], by omega, rfl, rfl, Nat.le_refl _, Nat.le_refl _, rfl, ho17, fresh_new hk17, hB17⟩, ?_⟩
  intro m a n c i
  refine AllJ.of ?_ _
  rintro w1 ⟨k, done, cur, hk, rfl, rfl, hdl, hcl, hcut, ho, hf, hb⟩
  have hn := ho.len
  simp only [List.length_append, List.length_cons, List.length_nil] at hn
  subst hn
  refine BCase.of (fun h => ?_) (fun h => ?_) <;> simp only [decide_eq_true_eq, decide_eq_false_iff_not] at h
  · have hlt : k < s.length := by omega
    have ew : IntKind.i64.wrap ((k : Int) + 1) = ((k + 1 : Nat) : Int) := by rw [wrap_i64 (by omega) (by omega)]; omega
    rw [ew]
    refine ⟨⟨by omega, h⟩, ?_⟩
    refine callK (ref07_parts_ok _ w1) ?_
    rintro _ w1 ⟨rfl, rfl⟩
    refine ⟨_, rfl, ?_⟩
    rw [part_int hlt]
    rw [cutP_split s cur k hlt] at hcut
    refine BCase.of (fun h2 => ?_) (fun h2 => ?_)
    · rw [if_pos h2] at hcut
      intro k3 w3 hk3 hw3
      obtain ⟨w4, a4, n4, c4, hr, ho4, hf4, hb4⟩ := pushF (ty := T_sl_string) (w0 := w) (cm := 1) (vs := [_]) (x := []) (flat_str _) un_sl_string tf_string (by decide) ho hf hb hk3 hw3 (rep_str trivial) (by simp; omega)
      exact ⟨w4, a4, n4, c4, hr, s.length - (k + 1), by omega, k + 1, done ++ [cur], [], by omega, rfl, rfl, by simp; omega, by simp, by rw [hcut]; simp, ho4, hf4, hb4⟩
    · rw [if_neg (by rw [h2]; decide)] at hcut
      have el : IntKind.i64.wrap ((((done.length + 1 : Nat) : Nat) : Int) - 1) = (done.length : Int) := by rw [wrap_i64 (by omega) (by omega)]; omega
      have hd := ho.below (below_drew w1)
      have hsome : Option.isSome a = true := ho.all.isSome (i := done.length) (by simp)
      rw [el]
      refine ⟨⟨⟨by omega, by omega⟩, hsome⟩, ⟨⟨by omega, by omega⟩, by omega, by omega⟩, ?_⟩
      rintro _ rfl
      obtain ⟨v, hv, hrep⟩ := hd.all.load1 (i := (done.length : Int)) un_string rfl rfl (by simp)
      obtain ⟨rfl, -⟩ := str_rep hrep
      simp only [Int.toNat_natCast, List.getElem_concat_length] at hv
      have es : (s.take (k + 1)).drop k = [s[k]] := by
        rw [List.take_succ_eq_append_getElem hlt, List.drop_append_of_le_length (by simp; omega)]
        simp [List.drop_take]
      simp only [Int.toNat_natCast]
      rw [es]
      refine ⟨cur, hv, by simp [IntKind.max, IntKind.bits]; omega, ?_⟩
      rintro _ rfl
      obtain ⟨w4, hs4, ho4, hg4⟩ := hd.store (P := Tryz.prog) (bytes := 16) (z := .string (mkS [])) tf_string (fun _ _ h => h) (i := (done.length : Int)) (by simp) (k := 1) rfl (v := .string (mkS (cur ++ [s[k]]))) (x := cur ++ [s[k]]) (rep_str trivial)
      have hbd := below_step hb (below_drew w1) hb.size
      refine ⟨⟨⟨by omega, by omega⟩, hsome⟩, w4, hs4, s.length - (k + 1), by omega, k + 1, done, cur ++ [s[k]], by omega, rfl, rfl, by omega, by simp; omega, hcut, ?_, hf, hbd.grown hg4 hbd.size hf⟩
      simpa using ho4
  · have : k = s.length := by omega
    subst this
    have hcut : cutP [] s = done ++ [cur] := by rw [hcut]; simp [cutP]
    have htold : toldV s = (done ++ [cur]).foldl tokV fnd0 := by unfold toldV; rw [hcut]
    rw [htold]
    have htoks : ∀ x ∈ done ++ [cur], x.length ≤ s.length := fun x hx => by
      rw [← hcut] at hx; simpa using cutP_len s [] x hx
    generalize hL : done ++ [cur] = L at *
    have hLl : L.length = done.length + 1 := by rw [← hL]; simp
    rw [← hLl]
    intro k44 w44 hk44 hw44
    have hB44 : Below w1.heap.size w1 w44 := hw44 ▸ below_alloc _ _
    have hb44 := below_step hb hB44 hb.size
    have ho44 : Ow tI64 T_int w44 NoB (some ⟨k44, 0, none⟩) 0 0 [] := Ow.newF flat_i64 hk44 hw44 (RepL.nil _ _ _) (Nat.zero_le _)
    refine ⟨fun m at_ nt ct y mo d i w' => ∃ (k : Nat) (f : Fnd) (t : List Int), k ≤ L.length ∧ i = (k : Int) ∧ m = L.length - k ∧ f = (L.take k).foldl tokV fnd0 ∧ Held f t y mo d ∧ Ow tI64 T_int w' NoB at_ nt ct t ∧ Below w44.heap.size w44 w',
      ⟨_, 0, fnd0, [], by omega, rfl, rfl, rfl, ⟨rfl, rfl, rfl, rfl⟩, ho44, Below.refl _ _⟩, ?_⟩
    intro m at_ nt ct y mo d i
    refine AllJ.of ?_ _
    rintro w2 ⟨k, f, t, hk, rfl, rfl, hfe, ⟨rfl, rfl, rfl, rfl⟩, hot, hb2⟩
    have hfok : FndOk f := hfe ▸ told_ok _ fnd0_ok
    have hoL := ((ho.below hB44).below hb2)
    have hbw := below_step hb44 hb2 hb44.size
    have hnt := hot.len
    have htime : (nt : Int) = 0 ↔ f.time = false := by
      rw [hnt]; cases f.time <;> simp
    refine BCase.of (fun h => ?_) (fun h => ?_) <;> simp only [decide_eq_true_eq, decide_eq_false_iff_not] at h
    · have hlt : k < L.length := by omega
      have ew : IntKind.i64.wrap ((k : Int) + 1) = ((k + 1 : Nat) : Int) := by rw [wrap_i64 (by omega) (by omega)]; omega
      rw [ew]
      obtain ⟨v, hv, hrep⟩ := hoL.all.load1 (i := (k : Int)) un_string rfl rfl (by simpa using hlt)
      obtain ⟨rfl, -⟩ := str_rep hrep
      simp only [Int.toNat_natCast] at hv
      refine ⟨⟨⟨by omega, h⟩, hoL.all.isSome hlt⟩, _, hv, ?_⟩
      have hxl := htoks L[k] (List.getElem_mem hlt)
      have hnext : (L.take (k + 1)).foldl tokV fnd0 = tokV f L[k] := by rw [List.take_succ_eq_append_getElem hlt, List.foldl_append, hfe]; rfl
      generalize L[k] = x at *
      have hdx : (digP x).length ≤ x.length := takeWhile_le isDig x
      have done : ∀ {w' : World} {a' : Option Addr} {n' c' : Nat} {t' : List Int} {y' m' d' : Int}, Held (tokV f x) t' y' m' d' → Ow tI64 T_int w' NoB a' n' c' t' → Below w44.heap.size w44 w' →
          ∃ q : Nat, q < L.length - k ∧ ∃ (k2 : Nat) (f : Fnd) (t : List Int), k2 ≤ L.length ∧ ((k + 1 : Nat) : Int) = (k2 : Int) ∧ q = L.length - k2 ∧ f = (L.take k2).foldl tokV fnd0 ∧ Held f t y' m' d' ∧ Ow tI64 T_int w' NoB a' n' c' t ∧ Below w44.heap.size w44 w' :=
        fun hh ho' hb' => ⟨L.length - (k + 1), by omega, k + 1, _, _, by omega, rfl, rfl, hnext.symm, hh, ho', hb'⟩
      refine callK (ref07_digits_ok x (by omega) w2) ?_
      rintro _ w2 ⟨rfl, rfl⟩
      refine ⟨_, rfl, ?_⟩
      refine callK (ref07_time_ok x (by omega) w2) ?_
      rintro _ w3 ⟨a3, n3, c3, b3, rfl, hb3, hcl⟩
      have hot3 := hot.below hb3
      have hb23 := below_step hb2 hb3 hb2.size
      refine ⟨_, _, _, _, rfl, andJ ?_⟩
      refine BCase.of (fun h2 => ?_) (fun h2 => ?_)
      · rw [Bool.and_eq_true, beq_iff_eq, htime] at h2
        rcases hcl with ⟨_, e⟩ | ⟨l, hl, _, hol, hfl⟩
        · rw [e] at h2; cases h2.1
        · obtain ⟨hll, _⟩ := clockFrom_ok 3 0 x l hl
          match l, hll with
          | [p, q, r], _ =>
            have et := tokV_time hl h2.2
            exact done (t' := [p, q, r]) (by rw [et]; exact ⟨rfl, rfl, rfl, rfl⟩) hol hb23
      · have hno : clockV x = none ∨ f.time = true := by
          rcases hcl with ⟨e, _⟩ | ⟨l, _, e, _⟩
          · exact .inl e
          · right
            rw [e, Bool.true_and, beq_eq_false_iff_ne, ne_eq, htime] at h2
            simpa using h2
        have et := tokV_rest hno
        rw [et] at done
        clear hcl h2
        have hday : (if f.day then f.d else -1) < 0 ↔ f.day = false := by
          have := hfok.d; cases f.day <;> simp; omega
        have hmon : (if f.month then f.m else -1) < 0 ↔ f.month = false := by
          have := hfok.m; cases f.month <;> simp; omega
        have hyr : (if f.year then f.y else -1) < 0 ↔ f.year = false := by
          have := hfok.y; cases f.year <;> simp; omega
        refine and3J ?_
        refine BCase.of (fun h3 => ?_) (fun h3 => ?_)
        · simp only [Bool.and_eq_true, decide_eq_true_eq, hday, ge_iff_le] at h3
          refine ⟨⟨by omega, by omega⟩, ?_⟩
          rintro _ rfl
          simp only [Int.toNat_natCast]
          rw [dig_take]
          refine callK (ref07_value_ok (digP x) (by omega) digP_all w3) ?_
          rintro _ w3 ⟨rfl, rfl⟩
          refine ⟨_, rfl, done (t' := _) ?_ hot3 hb23⟩
          rw [if_pos ⟨numOk_iff.2 (by omega), h3.1⟩]
          exact ⟨rfl, rfl, rfl, rfl⟩
        · have h3' : ¬ (numOk x 1 2 = true ∧ f.day = false) := by
            rw [numOk_iff]
            rintro ⟨⟨h4, h5⟩, h6⟩
            rw [decide_eq_true (hday.2 h6), Bool.true_and, decide_eq_true (show ((digP x).length : Int) ≥ 1 from h4), decide_eq_true h5] at h3
            cases h3
          rw [if_neg h3'] at done
          refine boolWJ (fun b w' => b = (decide ((if f.month then f.m else -1) < 0) && decide (0 < monthV x)) ∧ Below w3.heap.size w3 w') ?_ ?_
          · refine BCase.of (fun h4 => ?_) (fun h4 => ?_)
            · refine callK (ref07_month_ok x (by omega) w3) ?_
              rintro _ w4 ⟨rfl, hb4⟩
              exact ⟨_, rfl, by rw [h4]; rfl, hb4⟩
            · exact ⟨by rw [h4]; rfl, Below.refl _ _⟩
          · rintro _ w4 ⟨rfl, hb4⟩
            have hot4 := hot3.below hb4
            have hb24 := below_step hb23 hb4 hb23.size
            refine BCase.of (fun h4 => ?_) (fun h4 => ?_)
            · simp only [Bool.and_eq_true, decide_eq_true_eq, hmon] at h4
              refine callK (ref07_month_ok x (by omega) w4) ?_
              rintro _ w5 ⟨rfl, hb5⟩
              refine ⟨_, rfl, done (t' := _) ?_ (hot4.below hb5) (below_step hb24 hb5 hb24.size)⟩
              rw [if_pos ⟨h4.2, h4.1⟩]
              exact ⟨rfl, rfl, rfl, rfl⟩
            · have h4' : ¬ (0 < monthV x ∧ f.month = false) := by
                rintro ⟨h5, h6⟩
                rw [decide_eq_true (hmon.2 h6), decide_eq_true h5] at h4
                cases h4
              rw [if_neg h4'] at done
              refine and3J ?_
              refine BCase.of (fun h5 => ?_) (fun h5 => ?_)
              · simp only [Bool.and_eq_true, decide_eq_true_eq, hyr, ge_iff_le] at h5
                refine ⟨⟨by omega, by omega⟩, ?_⟩
                rintro _ rfl
                simp only [Int.toNat_natCast]
                rw [dig_take]
                refine callK (ref07_value_ok (digP x) (by omega) digP_all w4) ?_
                rintro _ w4 ⟨rfl, rfl⟩
                refine ⟨_, rfl, done (t' := _) ?_ hot4 hb24⟩
                rw [if_pos ⟨numOk_iff.2 (by omega), h5.1⟩]
                exact ⟨rfl, rfl, rfl, rfl⟩
              · have h5' : ¬ (numOk x 2 4 = true ∧ f.year = false) := by
                  rw [numOk_iff]
                  rintro ⟨⟨h6, h7⟩, h8⟩
                  rw [decide_eq_true (hyr.2 h8), Bool.true_and, decide_eq_true (show ((digP x).length : Int) ≥ 2 from h6), decide_eq_true h7] at h5
                  cases h5
                rw [if_neg h5'] at done
                exact done (t' := _) ⟨rfl, rfl, rfl, rfl⟩ hot4 hb24
    · have : k = L.length := by omega
      subst this
      rw [List.take_length] at hfe
      rw [← hfe]
      have hfy := hfok.y
      refine intJ (w := w2) (if f.year then fullY f.y else -1) ?_ ?_
      · refine andJ ?_
        cases f.year
        · refine BCase.of (fun h2 => ?_) (fun h2 => ?_)
          · cases h2
          · refine BCase.of (fun h3 => ?_) (fun h3 => ?_)
            · cases h3
            · exact ⟨rfl, rfl⟩
        · simp only [if_true]
          unfold fullY
          refine BCase.of (fun h2 => ?_) (fun h2 => ?_)
          · simp only [Bool.and_eq_true, decide_eq_true_eq, ge_iff_le] at h2
            exact ⟨trivial, by rw [if_pos h2, wrap_i64 (by omega) (by omega)]⟩
          · have h2' : ¬ (70 ≤ f.y ∧ f.y ≤ 99) := fun ⟨e1, e2⟩ => by
              rw [decide_eq_true (show f.y ≥ 70 from e1), decide_eq_true e2] at h2; cases h2
            rw [if_neg h2']
            refine BCase.of (fun h3 => ?_) (fun h3 => ?_) <;> simp only [ge_iff_le, decide_eq_true_eq, decide_eq_false_iff_not] at h3
            · refine BCase.of (fun h4 => ?_) (fun h4 => ?_) <;> simp only [ge_iff_le, decide_eq_true_eq, decide_eq_false_iff_not] at h4
              · exact ⟨trivial, by rw [if_pos (by omega), wrap_i64 (by omega) (by omega)]⟩
              · exact ⟨trivial, by rw [if_neg (by omega)]⟩
            · omega
      · have bad : ∀ {w' : World}, ¬ cookP f → Below w.heap.size w w' → (.tuple #[.int .i64 (0 : Int), .bool false] : Value) = cookV f ∧ Below w.heap.size w w' := fun hn hb' => ⟨by unfold cookV; rw [if_neg hn], hb'⟩
        have hdate : isDate (if f.year then fullY f.y else -1) (if f.month then f.m else -1) (if f.day then f.d else -1) ↔ isDate (fullY f.y) f.m f.d ∧ f.year = true := by
          have hm0 := hfok.m0; have hd0 := hfok.d0
          unfold isDate
          cases hy : f.year
          · simp
          · cases hmm : f.month
            · rw [hmm] at hm0; have := hm0.1 rfl; simp [this]
            · cases hdd : f.day
              · have := hd0 hdd; simp [this]
              · simp
        generalize hY : (if f.year then fullY f.y else -1) = Y at *
        generalize hM : (if f.month then f.m else -1) = M at *
        generalize hD : (if f.day then f.d else -1) = D at *
        clear hfe htold hcut
        refine factJ (w := w2) (cookP f ∧ isDate Y M D) ?_ ?_
        · refine BCase.of (fun h2 => ?_) (fun h2 => ?_)
          · rw [beq_iff_eq, htime] at h2
            exact bad (fun hc => by rw [hc.2.1] at h2; cases h2) hbw
          · have ht : f.time = true := by
              rw [beq_eq_false_iff_ne, ne_eq, htime] at h2; simpa using h2
            rw [if_pos ht] at hot hnt
            simp only [List.length_cons, List.length_nil] at hnt
            refine callK (ref07_Is_ok Y M D w2) ?_
            rintro _ w2 ⟨rfl, rfl⟩
            refine ⟨_, rfl, ?_⟩
            refine BCase.of (fun h3 => ?_) (fun h3 => ?_) <;> simp only [Bool.not_eq_true', Bool.not_eq_false', decide_eq_true_eq, decide_eq_false_iff_not] at h3
            · exact bad (fun hc => h3 (hdate.2 ⟨hc.1, hc.2.2.1⟩)) hbw
            · obtain ⟨hd1, hd2⟩ := hdate.1 h3
              have ld : ∀ i : Nat, (hi : i < 3) → (Instr.loadAt T_int (.pointer (elemAddr at_ (i : Int) 1))).run Tryz.prog w2 = .ok (.int .i64 ([f.s0, f.s1, f.s2][i])) w2 := fun i hi => by
                obtain ⟨v, hv, hrep⟩ := hot.all.load1 (i := (i : Int)) un_int rfl rfl (by simpa using hi)
                obtain rfl := i64_rep hrep
                simpa using hv
              have hs0 : ∀ i : Nat, i < 3 → ((0 ≤ (i : Int) ∧ (i : Int) < ((nt : Nat) : Int)) ∧ Option.isSome at_ = true) := fun i hi => ⟨⟨by omega, by omega⟩, hot.all.isSome (i := i) (by simpa using hi)⟩
              refine ⟨hs0 0 (by decide), _, ld 0 (by decide), ?_⟩
              refine BCase.of (fun h4 => ?_) (fun h4 => ?_) <;> simp only [gt_iff_lt, decide_eq_true_eq, decide_eq_false_iff_not] at h4
              · exact bad (fun hc => by have := hc.2.2.2.1; simp at h4; omega) hbw
              refine ⟨hs0 1 (by decide), _, ld 1 (by decide), ?_⟩
              refine BCase.of (fun h5 => ?_) (fun h5 => ?_) <;> simp only [gt_iff_lt, decide_eq_true_eq, decide_eq_false_iff_not] at h5
              · exact bad (fun hc => by have := hc.2.2.2.2.1; simp at h5; omega) hbw
              refine ⟨hs0 2 (by decide), _, ld 2 (by decide), ?_⟩
              refine BCase.of (fun h6 => ?_) (fun h6 => ?_) <;> simp only [gt_iff_lt, decide_eq_true_eq, decide_eq_false_iff_not] at h6
              · exact bad (fun hc => by have := hc.2.2.2.2.2; simp at h6; omega) hbw
              simp at h4 h5 h6
              exact ⟨rfl, ⟨hd1, ht, hd2, by omega, by omega, by omega⟩, h3⟩
        · rintro ⟨hc, hdd⟩
          have ht := hc.2.1
          rw [if_pos ht] at hot hnt
          simp only [List.length_cons, List.length_nil] at hnt
          refine callK (ref07_Days_ok Y M D w2) ?_
          rintro _ w2 ⟨rfl, rfl⟩
          have ld : ∀ i : Nat, (hi : i < 3) → ∀ u : World, Below w2.heap.size w2 u → (Instr.loadAt T_int (.pointer (elemAddr at_ (i : Int) 1))).run Tryz.prog u = .ok (.int .i64 ([f.s0, f.s1, f.s2][i])) u := fun i hi u hu => by
            obtain ⟨v, hv, hrep⟩ := (hot.below hu).all.load1 (i := (i : Int)) un_int rfl rfl (by simpa using hi)
            obtain rfl := i64_rep hrep
            simpa using hv
          have hs0 : ∀ i : Nat, i < 3 → ((0 ≤ (i : Int) ∧ (i : Int) < ((nt : Nat) : Int)) ∧ Option.isSome at_ = true) := fun i hi => ⟨⟨by omega, by omega⟩, hot.all.isSome (i := i) (by simpa using hi)⟩
          refine ⟨_, _, rfl, hs0 0 (by decide), _, ld 0 (by decide), hs0 1 (by decide), _, ld 1 (by decide), hs0 2 (by decide), _, ld 2 (by decide), ?_⟩
          intro wq hq
          refine ⟨?_, below_step hbw hq hbw.size⟩
          have hyt : f.year = true := hc.2.2.1
          have hmt : f.month = true := by
            cases hmm : f.month
            · have := hdd.2.2.1; rw [hmm] at hM; simp at hM; omega
            · rfl
          have hdt : f.day = true := by
            cases hmm : f.day
            · have := hdd.2.2.2.2.1; rw [hmm] at hD; simp at hD; omega
            · rfl
          rw [if_pos hyt] at hY
          rw [if_pos hmt] at hM
          rw [if_pos hdt] at hD
          subst hY hM hD
          have hr := cook_days hdd
          have h0 := hfok.s0; have h1 := hfok.s1; have h2 := hfok.s2
          unfold cookV
          rw [if_pos hc, if_pos hdd]
          simp only [List.getElem_cons_zero, List.getElem_cons_succ]
          unfold cookN
          rw [wrap_i64 (n := daysOf (fullY f.y) f.m f.d * 86400) (by omega) (by omega), wrap_i64 (n := f.s0 * 3600) (by omega) (by omega), wrap_i64 (n := f.s1 * 60) (by omega) (by omega), wrap_i64 (n := f.s0 * 3600 + f.s1 * 60) (by omega) (by omega),
            wrap_i64 (n := f.s0 * 3600 + f.s1 * 60 + f.s2) (by omega) (by omega), wrap_i64 (by omega) (by omega)]
          congr 4
          omega
end Go.Proofs.YtmlcilfcaogdcaaGreatDoor
