/- What the laws lean on: DateR, DateS, DateT, HdrA, HdrB, HdrC, Big, AddrA, AddrP, AddrB, AddrC, AddrD, AddrE; what is used. Its conditions: none. -/
import Derived.Test.YtndbpedpdbjkpaaGreatDoorKD
import Derived.Laws.CopyRow
open Go.IntKind (i64)
open Go.Proofs.Tryz (prog)
set_option linter.unusedVariables false
set_option linter.unusedSimpArgs false
set_option maxRecDepth 20000
namespace Go.Pk
structure Held (f : Fnd) (t : List Int) (y m d : Int) : Prop where
 t : t = if f.time then [f.s0, f.s1, f.s2] else []
 y : y = if f.year then f.y else -1
 m : m = if f.month then f.m else -1
 d : d = if f.day then f.d else -1
theorem qnj : ∀ (s cur : List UInt8) (k : Nat) (h : k < s.length), cutP cur (s.drop k) = if qcC s[k] then cur :: cutP [] (s.drop (k + 1)) else cutP (cur ++ [s[k]]) (s.drop (k + 1)) := fun s cur k h => by
 rw [List.drop_eq_getElem_cons h]; rfl
theorem qqQ {s : List UInt8} {k : Nat} (h : k < s.length) : decide (qkj (qA s (k : Int))) = qcC s[k] := by
 unfold qcC; rw [qe7 (i := (k : Int)) (by simpa using h)]; simp only [Int.toNat_natCast]
end Go.Pk
namespace Go.Proofs.YtndbpedpdbjkpaaGreatDoor
open Go.Pk
open Go.RowKit (Below)
theorem qjx {s : List UInt8} {a b : Int} : qbG s a b = true ↔ a <= ((digP s).length : Int) /\ ((digP s).length : Int) <= b := by unfold qbG; rw [dTx]
theorem qk8 (s : List UInt8) (hs : s.length <= 10000000) (w : World) : Calls prog qeC #[.string (mkS s)] w (Ret fun v w' => v = qjP (qdo s) /\ Below w.heap.size w w') := by
 apply qks
 unfold qf7
 intro k17 w17 hk17 hw17
 have hB17 : Below w.heap.size w w17 := hw17 ▸ qf _ _
 have ho17 : Ow tS qe w17 NoB (some ⟨k17, 0, none⟩) 1 1 [[]] := Ow.newF (l := [_]) (jY _) hk17 hw17 (RepL.one (qfI trivial)) (by decide)
 refine ⟨fun m a n c i w' => ∃ (k : Nat) (done : List (List UInt8)) (cur : List UInt8), k <= s.length /\ i = (k : Int) /\ m = s.length - k /\ done.length <= k /\ cur.length <= k /\ cutP [] s = done ++ cutP cur (s.drop k) /\
     Ow tS qe w' NoB a n c (done ++ [cur]) /\ qb9 w.heap.size a /\ Below w.heap.size w w',
   ⟨_, 0, [], [], by omega, rfl, rfl, Nat.le_refl _, Nat.le_refl _, rfl, ho17, fresh_new hk17, hB17⟩, ?_⟩
 intro m a n c i
 refine AllJ.of ?_ _
 rintro w1 ⟨k, done, cur, hk, rfl, rfl, hdl, hcl, hcut, ho, hf, hb⟩
 have hn := ho.len
 simp only [List.length_append, List.length_cons, List.length_nil] at hn
 subst hn
 refine BCase.of (fun h => ?_) (fun h => ?_) <;> simp only [dTx, dFx] at h
 · have hlt : k < s.length := by omega
   have ew : i64.wrap ((k : Int) + 1) = ((k + 1 : Nat) : Int) := by rw [wrap_i64 (by omega) (by omega)]; omega
   rw [ew]
   refine ⟨⟨by omega, h⟩, ?_⟩
   refine callK (qmA _ w1) ?_
   rintro _ w1 ⟨rfl, rfl⟩
   refine ⟨_, rfl, ?_⟩
   rw [qqQ hlt]
   rw [qnj s cur k hlt] at hcut
   refine BCase.of (fun h2 => ?_) (fun h2 => ?_)
   · rw [if_pos h2] at hcut
     intro k3 w3 hk3 hw3
     obtain ⟨w4, a4, n4, c4, hr, ho4, hf4, hb4⟩ := qp8 (ty := qD) (w0 := w) (cm := 1) (vs := [_]) (x := []) (jY _) qa2 zl (by decide) ho hf hb hk3 hw3 (qfI trivial) (by simp; omega)
     exact ⟨w4, a4, n4, c4, hr, s.length - (k + 1), by omega, k + 1, done ++ [cur], [], by omega, rfl, rfl, by simp; omega, by simp, by rw [hcut]; simp, ho4, hf4, hb4⟩
   · rw [if_neg (by rw [h2]; decide)] at hcut
     have el : i64.wrap ((((done.length + 1 : Nat) : Nat) : Int) - 1) = (done.length : Int) := by rw [wrap_i64 (by omega) (by omega)]; omega
     have hd := ho.below (zV w1)
     have hsome : Option.isSome a = true := ho.all.isSome (i := done.length) (by simp)
     rw [el]
     refine ⟨⟨⟨by omega, by omega⟩, hsome⟩, ⟨⟨by omega, by omega⟩, by omega, by omega⟩, ?_⟩
     rintro _ rfl
     obtain ⟨v, hv, hrep⟩ := hd.all.load1 (i := (done.length : Int)) un_string rfl rfl (by simp)
     obtain ⟨rfl, -⟩ := qfw hrep
     simp only [Int.toNat_natCast, List.getElem_concat_length] at hv
     have es : (s.take (k + 1)).drop k = [s[k]] := by
       rw [List.take_succ_eq_append_getElem hlt, List.drop_append_of_le_length (by simp; omega)]
       simp [List.drop_take]
     simp only [Int.toNat_natCast]
     rw [es]
     refine ⟨cur, hv, by simp [IntKind.max, IntKind.bits]; omega, ?_⟩
     rintro _ rfl
     obtain ⟨w4, hs4, ho4, hg4⟩ := hd.store (P := prog) (bytes := 16) (z := .string (mkS [])) zl (fun _ _ h => h) (i := (done.length : Int)) (by simp) (k := 1) rfl (v := .string (mkS (cur ++ [s[k]]))) (x := cur ++ [s[k]]) (qfI trivial)
     have hbd := qb hb (zV w1) hb.size
     refine ⟨⟨⟨by omega, by omega⟩, hsome⟩, w4, hs4, s.length - (k + 1), by omega, k + 1, done, cur ++ [s[k]], by omega, rfl, rfl, by omega, by simp; omega, hcut, ?_, hf, hbd.grown hg4 hbd.size hf⟩
     simpa using ho4
 · have : k = s.length := by omega
   subst this
   have hcut : cutP [] s = done ++ [cur] := by rw [hcut]; simp [cutP]
   have htold : qdo s = (done ++ [cur]).foldl tokV fnd0 := by unfold qdo; rw [hcut]
   rw [htold]
   have htoks : ∀ x ∈ done ++ [cur], x.length <= s.length := fun x hx => by
     rw [<- hcut] at hx; simpa using qom s [] x hx
   generalize hL : done ++ [cur] = L at *
   have hLl : L.length = done.length + 1 := by rw [<- hL]; simp
   rw [<- hLl]
   intro k44 w44 hk44 hw44
   have hB44 : Below w1.heap.size w1 w44 := hw44 ▸ qf _ _
   have hb44 := qb hb hB44 hb.size
   have ho44 : Ow tI64 qx w44 NoB (some ⟨k44, 0, none⟩) 0 0 [] := Ow.newF qoi hk44 hw44 (RepL.nil _ _ _) (Nat.zero_le _)
   refine ⟨fun m at_ nt ct y mo d i w' => ∃ (k : Nat) (f : Fnd) (t : List Int), k <= L.length /\ i = (k : Int) /\ m = L.length - k /\ f = (L.take k).foldl tokV fnd0 /\ Held f t y mo d /\ Ow tI64 qx w' NoB at_ nt ct t /\ Below w44.heap.size w44 w',
     ⟨_, 0, fnd0, [], by omega, rfl, rfl, rfl, ⟨rfl, rfl, rfl, rfl⟩, ho44, Below.refl _ _⟩, ?_⟩
   intro m at_ nt ct y mo d i
   refine AllJ.of ?_ _
   rintro w2 ⟨k, f, t, hk, rfl, rfl, hfe, ⟨rfl, rfl, rfl, rfl⟩, hot, hb2⟩
   have hfok : qmw f := hfe ▸ qpP _ qpG
   have hoL := ((ho.below hB44).below hb2)
   have hbw := qb hb44 hb2 hb44.size
   have hnt := hot.len
   have htime : (nt : Int) = 0 ↔ f.time = false := by
     rw [hnt]; cases f.time <;> simp
   refine BCase.of (fun h => ?_) (fun h => ?_) <;> simp only [dTx, dFx] at h
   · have hlt : k < L.length := by omega
     have ew : i64.wrap ((k : Int) + 1) = ((k + 1 : Nat) : Int) := by rw [wrap_i64 (by omega) (by omega)]; omega
     rw [ew]
     obtain ⟨v, hv, hrep⟩ := hoL.all.load1 (i := (k : Int)) un_string rfl rfl (by simpa using hlt)
     obtain ⟨rfl, -⟩ := qfw hrep
     simp only [Int.toNat_natCast] at hv
     refine ⟨⟨⟨by omega, h⟩, hoL.all.isSome hlt⟩, _, hv, ?_⟩
     have hxl := htoks L[k] (List.getElem_mem hlt)
     have hnext : (L.take (k + 1)).foldl tokV fnd0 = tokV f L[k] := by rw [List.take_succ_eq_append_getElem hlt, List.foldl_append, hfe]; rfl
     generalize L[k] = x at *
     have hdx : (digP x).length <= x.length := jz j9 x
     have done : ∀ {w' : World} {a' : Option Addr} {n' c' : Nat} {t' : List Int} {y' m' d' : Int}, Held (tokV f x) t' y' m' d' -> Ow tI64 qx w' NoB a' n' c' t' -> Below w44.heap.size w44 w' ->
         ∃ q : Nat, q < L.length - k /\ ∃ (k2 : Nat) (f : Fnd) (t : List Int), k2 <= L.length /\ ((k + 1 : Nat) : Int) = (k2 : Int) /\ q = L.length - k2 /\ f = (L.take k2).foldl tokV fnd0 /\ Held f t y' m' d' /\ Ow tI64 qx w' NoB a' n' c' t /\ Below w44.heap.size w44 w' :=
       fun hh ho' hb' => ⟨L.length - (k + 1), by omega, k + 1, _, _, by omega, rfl, rfl, hnext.symm, hh, ho', hb'⟩
     refine callK (qgQ x (by omega) w2) ?_
     rintro _ w2 ⟨rfl, rfl⟩
     refine ⟨_, rfl, ?_⟩
     refine callK (qnM x (by omega) w2) ?_
     rintro _ w3 ⟨a3, n3, c3, b3, rfl, hb3, hcl⟩
     have hot3 := hot.below hb3
     have hb23 := qb hb2 hb3 hb2.size
     refine ⟨_, _, _, _, rfl, andJ ?_⟩
     refine BCase.of (fun h2 => ?_) (fun h2 => ?_)
     · rw [Bool.and_eq_true, beq_iff_eq, htime] at h2
       rcases hcl with ⟨_, e⟩ | ⟨l, hl, _, hol, hfl⟩
       · rw [e] at h2; cases h2.1
       · obtain ⟨hll, _⟩ := qex 3 0 x l hl
         match l, hll with
         | [p, q, r], _ =>
           have et := qoQ hl h2.2
           exact done (t' := [p, q, r]) (by rw [et]; exact ⟨rfl, rfl, rfl, rfl⟩) hol hb23
     · have hno : qa7 x = none \/ f.time = true := by
         rcases hcl with ⟨e, _⟩ | ⟨l, _, e, _⟩
         · exact .inl e
         · right
           rw [e, Bool.true_and, beq_eq_false_iff_ne, ne_eq, htime] at h2
           simpa using h2
       have et := qo2 hno
       rw [et] at done
       clear hcl h2
       have hday : (if f.day then f.d else -1) < 0 ↔ f.day = false := by
         have := hfok.d; cases f.day <;> simp; omega
       have hmon : (if f.month then f.m else -1) < 0 ↔ f.month = false := by
         have := hfok.m; cases f.month <;> simp; omega
       have hyr : (if f.year then f.y else -1) < 0 ↔ f.year = false := by
         have := hfok.y; cases f.year <;> simp; omega
       refine quB ?_
       refine BCase.of (fun h3 => ?_) (fun h3 => ?_)
       · simp only [Bool.and_eq_true, dTx, hday, ge_iff_le] at h3
         refine ⟨⟨by omega, by omega⟩, ?_⟩
         rintro _ rfl
         simp only [Int.toNat_natCast]
         rw [dig_take]
         refine callK (ref07_value_ok (digP x) (by omega) digP_all w3) ?_
         rintro _ w3 ⟨rfl, rfl⟩
         refine ⟨_, rfl, done (t' := _) ?_ hot3 hb23⟩
         rw [if_pos ⟨qjx.2 (by omega), h3.1⟩]
         exact ⟨rfl, rfl, rfl, rfl⟩
       · have h3' : ¬ (qbG x 1 2 = true /\ f.day = false) := by
           rw [qjx]
           rintro ⟨⟨h4, h5⟩, h6⟩
           rw [decide_eq_true (hday.2 h6), Bool.true_and, decide_eq_true (show ((digP x).length : Int) >= 1 from h4), decide_eq_true h5] at h3
           cases h3
         rw [if_neg h3'] at done
         refine qhz (fun b w' => b = (decide ((if f.month then f.m else -1) < 0) && decide (0 < qcv x)) /\ Below w3.heap.size w3 w') ?_ ?_
         · refine BCase.of (fun h4 => ?_) (fun h4 => ?_)
           · refine callK (qho x (by omega) w3) ?_
             rintro _ w4 ⟨rfl, hb4⟩
             exact ⟨_, rfl, by rw [h4]; rfl, hb4⟩
           · exact ⟨by rw [h4]; rfl, Below.refl _ _⟩
         · rintro _ w4 ⟨rfl, hb4⟩
           have hot4 := hot3.below hb4
           have hb24 := qb hb23 hb4 hb23.size
           refine BCase.of (fun h4 => ?_) (fun h4 => ?_)
           · simp only [Bool.and_eq_true, dTx, hmon] at h4
             refine callK (qho x (by omega) w4) ?_
             rintro _ w5 ⟨rfl, hb5⟩
             refine ⟨_, rfl, done (t' := _) ?_ (hot4.below hb5) (qb hb24 hb5 hb24.size)⟩
             rw [if_pos ⟨h4.2, h4.1⟩]
             exact ⟨rfl, rfl, rfl, rfl⟩
           · have h4' : ¬ (0 < qcv x /\ f.month = false) := by
               rintro ⟨h5, h6⟩
               rw [decide_eq_true (hmon.2 h6), decide_eq_true h5] at h4
               cases h4
             rw [if_neg h4'] at done
             refine quB ?_
             refine BCase.of (fun h5 => ?_) (fun h5 => ?_)
             · simp only [Bool.and_eq_true, dTx, hyr, ge_iff_le] at h5
               refine ⟨⟨by omega, by omega⟩, ?_⟩
               rintro _ rfl
               simp only [Int.toNat_natCast]
               rw [dig_take]
               refine callK (ref07_value_ok (digP x) (by omega) digP_all w4) ?_
               rintro _ w4 ⟨rfl, rfl⟩
               refine ⟨_, rfl, done (t' := _) ?_ hot4 hb24⟩
               rw [if_pos ⟨qjx.2 (by omega), h5.1⟩]
               exact ⟨rfl, rfl, rfl, rfl⟩
             · have h5' : ¬ (qbG x 2 4 = true /\ f.year = false) := by
                 rw [qjx]
                 rintro ⟨⟨h6, h7⟩, h8⟩
                 rw [decide_eq_true (hyr.2 h8), Bool.true_and, decide_eq_true (show ((digP x).length : Int) >= 2 from h6), decide_eq_true h7] at h5
                 cases h5
               rw [if_neg h5'] at done
               exact done (t' := _) ⟨rfl, rfl, rfl, rfl⟩ hot4 hb24
   · have : k = L.length := by omega
     subst this
     rw [List.take_length] at hfe
     rw [<- hfe]
     have hfy := hfok.y
     refine intJ (w := w2) (if f.year then qcJ f.y else -1) ?_ ?_
     · refine andJ ?_
       cases f.year
       · refine BCase.of (fun h2 => ?_) (fun h2 => ?_)
         · cases h2
         · refine BCase.of (fun h3 => ?_) (fun h3 => ?_)
           · cases h3
           · exact ⟨rfl, rfl⟩
       · simp only [if_true]
         unfold qcJ
         refine BCase.of (fun h2 => ?_) (fun h2 => ?_)
         · simp only [Bool.and_eq_true, dTx, ge_iff_le] at h2
           exact ⟨trivial, by rw [if_pos h2, wrap_i64 (by omega) (by omega)]⟩
         · have h2' : ¬ (70 <= f.y /\ f.y <= 99) := fun ⟨e1, e2⟩ => by
             rw [decide_eq_true (show f.y >= 70 from e1), decide_eq_true e2] at h2; cases h2
           rw [if_neg h2']
           refine BCase.of (fun h3 => ?_) (fun h3 => ?_) <;> simp only [ge_iff_le, dTx, dFx] at h3
           · refine BCase.of (fun h4 => ?_) (fun h4 => ?_) <;> simp only [ge_iff_le, dTx, dFx] at h4
             · exact ⟨trivial, by rw [if_pos (by omega), wrap_i64 (by omega) (by omega)]⟩
             · exact ⟨trivial, by rw [if_neg (by omega)]⟩
           · omega
     · have bad : ∀ {w' : World}, ¬ qhi f -> Below w.heap.size w w' -> (.tuple #[.int .i64 (0 : Int), .bool false] : Value) = qjP f /\ Below w.heap.size w w' := fun hn hb' => ⟨by unfold qjP; rw [if_neg hn], hb'⟩
       have hdate : zK (if f.year then qcJ f.y else -1) (if f.month then f.m else -1) (if f.day then f.d else -1) ↔ zK (qcJ f.y) f.m f.d /\ f.year = true := by
         have hm0 := hfok.m0; have hd0 := hfok.d0
         unfold zK
         cases hy : f.year
         · simp
         · cases hmm : f.month
           · rw [hmm] at hm0; have := hm0.1 rfl; simp [this]
           · cases hdd : f.day
             · have := hd0 hdd; simp [this]
             · simp
       generalize hY : (if f.year then qcJ f.y else -1) = Y at *
       generalize hM : (if f.month then f.m else -1) = M at *
       generalize hD : (if f.day then f.d else -1) = D at *
       clear hfe htold hcut
       refine factJ (w := w2) (qhi f /\ zK Y M D) ?_ ?_
       · refine BCase.of (fun h2 => ?_) (fun h2 => ?_)
         · rw [beq_iff_eq, htime] at h2
           exact bad (fun hc => by rw [hc.2.1] at h2; cases h2) hbw
         · have ht : f.time = true := by
             rw [beq_eq_false_iff_ne, ne_eq, htime] at h2; simpa using h2
           rw [if_pos ht] at hot hnt
           simp only [List.length_cons, List.length_nil] at hnt
           refine callK (ql7 Y M D w2) ?_
           rintro _ w2 ⟨rfl, rfl⟩
           refine ⟨_, rfl, ?_⟩
           refine BCase.of (fun h3 => ?_) (fun h3 => ?_) <;> simp only [Bool.not_eq_true', Bool.not_eq_false', dTx, dFx] at h3
           · exact bad (fun hc => h3 (hdate.2 ⟨hc.1, hc.2.2.1⟩)) hbw
           · obtain ⟨hd1, hd2⟩ := hdate.1 h3
             have ld : ∀ i : Nat, (hi : i < 3) -> (Instr.loadAt qx (.pointer (qn at_ (i : Int) 1))).run prog w2 = .ok (.int .i64 ([f.s0, f.s1, f.s2][i])) w2 := fun i hi => by
               obtain ⟨v, hv, hrep⟩ := hot.all.load1 (i := (i : Int)) qN rfl rfl (by simpa using hi)
               obtain rfl := qsu hrep
               simpa using hv
             have hs0 : ∀ i : Nat, i < 3 -> ((0 <= (i : Int) /\ (i : Int) < ((nt : Nat) : Int)) /\ Option.isSome at_ = true) := fun i hi => ⟨⟨by omega, by omega⟩, hot.all.isSome (i := i) (by simpa using hi)⟩
             refine ⟨hs0 0 (by decide), _, ld 0 (by decide), ?_⟩
             refine BCase.of (fun h4 => ?_) (fun h4 => ?_) <;> simp only [gt_iff_lt, dTx, dFx] at h4
             · exact bad (fun hc => by have := hc.2.2.2.1; simp at h4; omega) hbw
             refine ⟨hs0 1 (by decide), _, ld 1 (by decide), ?_⟩
             refine BCase.of (fun h5 => ?_) (fun h5 => ?_) <;> simp only [gt_iff_lt, dTx, dFx] at h5
             · exact bad (fun hc => by have := hc.2.2.2.2.1; simp at h5; omega) hbw
             refine ⟨hs0 2 (by decide), _, ld 2 (by decide), ?_⟩
             refine BCase.of (fun h6 => ?_) (fun h6 => ?_) <;> simp only [gt_iff_lt, dTx, dFx] at h6
             · exact bad (fun hc => by have := hc.2.2.2.2.2; simp at h6; omega) hbw
             simp at h4 h5 h6
             exact ⟨rfl, ⟨hd1, ht, hd2, by omega, by omega, by omega⟩, h3⟩
       · rintro ⟨hc, hdd⟩
         have ht := hc.2.1
         rw [if_pos ht] at hot hnt
         simp only [List.length_cons, List.length_nil] at hnt
         refine callK (qcL Y M D w2) ?_
         rintro _ w2 ⟨rfl, rfl⟩
         have ld : ∀ i : Nat, (hi : i < 3) -> ∀ u : World, Below w2.heap.size w2 u -> (Instr.loadAt qx (.pointer (qn at_ (i : Int) 1))).run prog u = .ok (.int .i64 ([f.s0, f.s1, f.s2][i])) u := fun i hi u hu => by
           obtain ⟨v, hv, hrep⟩ := (hot.below hu).all.load1 (i := (i : Int)) qN rfl rfl (by simpa using hi)
           obtain rfl := qsu hrep
           simpa using hv
         have hs0 : ∀ i : Nat, i < 3 -> ((0 <= (i : Int) /\ (i : Int) < ((nt : Nat) : Int)) /\ Option.isSome at_ = true) := fun i hi => ⟨⟨by omega, by omega⟩, hot.all.isSome (i := i) (by simpa using hi)⟩
         refine ⟨_, _, rfl, hs0 0 (by decide), _, ld 0 (by decide), hs0 1 (by decide), _, ld 1 (by decide), hs0 2 (by decide), _, ld 2 (by decide), ?_⟩
         intro wq hq
         refine ⟨?_, qb hbw hq hbw.size⟩
         have hyt : f.year = true := hc.2.2.1
         have hmt : f.month = true := by
           cases hmm : f.month
           · have := hdd.2.2.1; rw [hmm] at hM; simp at hM; omega
           · rfl
         have hdt : f.day = true := by
           cases hmm : f.day
           · have := hdd.2.2.2.2.1; rw [hmm] at hD; simp at hD; omega
           · rfl
         rw [if_pos hyt] at hY
         rw [if_pos hmt] at hM
         rw [if_pos hdt] at hD
         subst hY hM hD
         have hr := qoI hdd
         have h0 := hfok.s0; have h1 := hfok.s1; have h2 := hfok.s2
         unfold qjP
         rw [if_pos hc, if_pos hdd]
         simp only [List.getElem_cons_zero, List.getElem_cons_succ]
         unfold qcb
         rw [wrap_i64 (n := zR (qcJ f.y) f.m f.d * 86400) (by omega) (by omega), wrap_i64 (n := f.s0 * 3600) (by omega) (by omega), wrap_i64 (n := f.s1 * 60) (by omega) (by omega), wrap_i64 (n := f.s0 * 3600 + f.s1 * 60) (by omega) (by omega),
           wrap_i64 (n := f.s0 * 3600 + f.s1 * 60 + f.s2) (by omega) (by omega), wrap_i64 (by omega) (by omega)]
         congr 4
         omega
end Go.Proofs.YtndbpedpdbjkpaaGreatDoor
namespace Go.Proofs.YtndbpedpdbjkpaaGreatDoor
open Go.Pk
open Go.RowKit (Below)
theorem qs4 (f : Fnd) : f.cells[7]? = some (.int .i64 f.y) := rfl
theorem qmu (s : List UInt8) (hs : s.length <= 10000000) (w : World) : Calls prog qfy #[.string (mkS s)] w (Ret fun v w' => v = qjP (qdo s) /\ Below w.heap.size w w') := by
 apply qlT
 unfold qhL
 intro k4 w4 hk4 hw4
 have hB4 : Below w.heap.size w w4 := hw4 ▸ qf _ _
 have hf4 : qm w4 k4 jx fnd0.cells := qm.new hk4 hw4
 have htr : true = true := rfl
 have hk4w : ∀ x, some k4 = some x -> w.heap.size <= x := fun x e => by cases e; omega
 refine ⟨fun m fr i w' => ∃ (k j : Nat) (f : Fnd), k <= s.length + 1 /\ i = (k : Int) /\ fr = (j : Int) /\ j <= k /\ m = s.length + 1 - k /\ qmw f /\
     qdo s = (if k <= s.length then (cutP ((s.take k).drop j) (s.drop k)).foldl tokV f else f) /\ qm w' k4 jx f.cells /\ Below w.heap.size w w',
   ⟨_, 0, 0, fnd0, by omega, rfl, rfl, Nat.le_refl _, rfl, qpG, by rw [if_pos (Nat.zero_le _)]; rfl, hf4, hB4⟩, ?_⟩
 intro m fr i
 refine AllJ.of ?_ _
 rintro w1 ⟨k, j, f, hk, rfl, rfl, hj, rfl, hok, htold, hf1, hb1⟩
 have ew : k <= s.length -> i64.wrap ((k : Int) + 1) = ((k + 1 : Nat) : Int) := fun hle => by rw [wrap_i64 (by omega) (by omega)]; omega
 refine BCase.of (fun h => ?_) (fun h => ?_) <;> simp only [dTx, dFx] at h
 · have hle : k <= s.length := by omega
   rw [if_pos hle] at htold
   rw [ew hle]
   refine qav (w := w1) (decide (k = s.length \/ ∃ h : k < s.length, qcC s[k] = true)) ?_ ?_
   · refine BCase.of (fun h2 => ?_) (fun h2 => ?_)
     · rw [beq_iff_eq] at h2
       exact ⟨rfl, (decide_eq_true (.inl (by omega))).symm⟩
     · rw [beq_eq_false_iff_ne] at h2
       have hlt : k < s.length := by omega
       refine ⟨⟨by omega, by omega⟩, ?_⟩
       refine callK (qnD _ w1) ?_
       rintro _ w1 ⟨rfl, rfl⟩
       refine ⟨_, rfl, rfl, ?_⟩
       rw [qqQ hlt]
       cases hp : qcC s[k]
       · exact (decide_eq_false (by rintro (e | ⟨_, e⟩); · omega
                                    · rw [hp] at e; cases e)).symm
       · exact (decide_eq_true (.inr ⟨hlt, hp⟩)).symm
   · have hcut : (cutP ((s.take k).drop j) (s.drop k)) = if (k = s.length \/ ∃ h : k < s.length, qcC s[k] = true) then (s.take k).drop j :: (if k < s.length then cutP [] (s.drop (k + 1)) else []) else cutP ((s.take (k + 1)).drop j) (s.drop (k + 1)) := by
       by_cases hlt : k < s.length
       · rw [qnj s _ k hlt]
         cases hp : qcC s[k]
         · rw [if_neg (by decide), if_neg (by rintro (e | ⟨_, e⟩); · omega
                                              · rw [hp] at e; cases e)]
           rw [List.take_succ_eq_append_getElem hlt, List.drop_append_of_le_length (by rw [List.length_take]; omega)]
         · rw [if_pos rfl, if_pos (.inr ⟨hlt, hp⟩), if_pos hlt]
       · have : k = s.length := by omega
         subst this
         rw [if_pos (.inl rfl), if_neg hlt]
         simp [cutP]
     refine BCase.of (fun h2 => ?_) (fun h2 => ?_) <;> simp only [dTx, dFx] at h2
     · rw [if_pos h2] at hcut
       rw [hcut, List.foldl_cons] at htold
       have fin : ∀ {f' : Fnd} {w' : World}, f' = tokV f ((s.take k).drop j) -> qm w' k4 jx f'.cells -> Below w.heap.size w w' ->
           ∃ q : Nat, q < s.length + 1 - k /\ ∃ (k2 j : Nat) (f : Fnd), k2 <= s.length + 1 /\ ((k + 1 : Nat) : Int) = (k2 : Int) /\ ((k + 1 : Nat) : Int) = (j : Int) /\ j <= k2 /\ q = s.length + 1 - k2 /\ qmw f /\
             qdo s = (if k2 <= s.length then (cutP ((s.take k2).drop j) (s.drop k2)).foldl tokV f else f) /\ qm w' k4 jx f.cells /\ Below w.heap.size w w' := by
         rintro f' w' rfl ha hb'
         refine ⟨s.length + 1 - (k + 1), by omega, k + 1, k + 1, _, by omega, rfl, rfl, Nat.le_refl _, rfl, qsH hok _, ?_, ha, hb'⟩
         rw [htold]
         by_cases hlt : k < s.length
         · rw [if_pos hlt, if_pos (show k + 1 <= s.length from hlt)]
           congr 2
           rw [List.drop_eq_nil_of_le (by rw [List.length_take]; omega)]
         · rw [if_neg hlt, if_neg (by omega)]; rfl
       refine BCase.of (fun h3 => ?_) (fun h3 => ?_) <;> simp only [gt_iff_lt, dTx, dFx] at h3
       · refine ⟨⟨⟨by omega, by omega⟩, by omega, by omega⟩, ?_⟩
         rintro _ rfl
         simp only [Int.toNat_natCast]
         refine callK (date_token_ok k4 f _ (by simp; omega) w1 hf1) ?_
         rintro _ w5 ⟨rfl, hf5, hg5⟩
         exact ⟨rfl, fin rfl hf5 (hb1.grown hg5 hb1.size hk4w)⟩
       · refine fin ?_ hf1 hb1
         have : (s.take k).drop j = [] := List.drop_eq_nil_of_le (by rw [List.length_take]; omega)
         rw [this, qqo]
     · rw [if_neg h2] at hcut
       have hlt : k < s.length := by
         by_cases e : k = s.length
         · exact absurd (.inl e) h2
         · omega
       refine ⟨s.length + 1 - (k + 1), by omega, k + 1, j, f, by omega, rfl, rfl, by omega, rfl, hok, ?_, hf1, hb1⟩
       rw [if_pos (show k + 1 <= s.length from hlt), htold, hcut]
 · rw [if_neg (by omega)] at htold
   subst htold
   generalize qdo s = f at *
   have hy := hok.y
   have l7 := hf1.load1 (P := prog) (i := 7) qN rfl (qs4 f)
   have bad : ∀ {w' : World}, ¬ qhi f -> Below w.heap.size w w' -> (.tuple #[.int .i64 (0 : Int), .bool false] : Value) = qjP f /\ Below w.heap.size w w' := fun hn hb' => ⟨by unfold qjP; rw [if_neg hn], hb'⟩
   refine worldJ (fun w' => qm w' k4 jx ({ f with y := qcJ f.y } : Fnd).cells /\ Below w.heap.size w w') ?_ ?_
   · refine qav (w := w1) (decide (70 <= f.y /\ f.y <= 99)) ?_ ?_
     · refine ⟨htr, _, l7, ?_⟩
       refine BCase.of (fun h2 => ?_) (fun h2 => ?_) <;> simp only [ge_iff_le, dTx, dFx] at h2
       · refine ⟨htr, _, l7, rfl, ?_⟩
         simp [h2]
       · refine ⟨rfl, ?_⟩
         simp [h2]
     · have st : ∀ n : Int, n = qcJ f.y -> ∃ wx : World, (Instr.storeAt qx (.pointer (some ⟨k4, 7, none⟩)) (.int .i64 n)).run prog w1 = .ok () wx /\ qm wx k4 jx ({ f with y := qcJ f.y } : Fnd).cells /\ Below w.heap.size w wx := by
         rintro _ rfl
         obtain ⟨w7, hs7, h7, hg7⟩ := hf1.store (P := prog) qbr (i := 7) (v := .int .i64 (qcJ f.y)) rfl (by simp [Fnd.cells]) (qkS _)
         exact ⟨w7, hs7, by simpa [Fnd.cells, Value.cells] using h7, hb1.grown hg7 hb1.size hk4w⟩
       refine BCase.of (fun h2 => ?_) (fun h2 => ?_) <;> simp only [dTx, dFx] at h2
       · exact ⟨htr, _, l7, htr, st _ (by unfold qcJ; rw [if_pos h2, wrap_i64 (by omega) (by omega)])⟩
       · refine ⟨htr, _, l7, ?_⟩
         refine BCase.of (fun h3 => ?_) (fun h3 => ?_) <;> simp only [dTx, dFx] at h3
         · exact ⟨htr, _, l7, htr, st _ (by unfold qcJ; rw [if_neg h2, if_pos h3, wrap_i64 (by omega) (by omega)])⟩
         · have : qcJ f.y = f.y := by unfold qcJ; rw [if_neg h2, if_neg h3]
           rw [this]; exact ⟨hf1, hb1⟩
   · rintro w2 ⟨hf2, hb2⟩
     refine ⟨htr, _, hf2.load1 qN rfl rfl, htr, _, hf2.load1 qN rfl rfl, htr, _, hf2.load1 qN rfl rfl, ?_⟩
     have hd9 := hok.d
     refine callK (qgm _ _ _ (by simp only; omega) w2) ?_
     rintro _ w3 ⟨rfl, hb3⟩
     refine ⟨_, _, rfl, ?_⟩
     have hf3 := hf2.below hb3
     have hb23 := qb hb2 hb3 hb2.size
     have tr3 : ∀ i : Int, 0 <= i -> i < 3 -> ((0 <= i /\ i < ((3 : Nat) : Int)) /\ true = true) := fun i h1 h2 => ⟨⟨h1, h2⟩, rfl⟩
     have l4 : (Instr.loadAt qx (.pointer (qn (some ⟨k4, 4, none⟩) (0 : Int) 1))).run prog w3 = .ok (.int .i64 f.s0) w3 := by rw [qdA]; exact hf3.load1 qN rfl rfl
     have l5 : (Instr.loadAt qx (.pointer (qn (some ⟨k4, 4, none⟩) (1 : Int) 1))).run prog w3 = .ok (.int .i64 f.s1) w3 := by rw [qdA]; exact hf3.load1 qN rfl rfl
     have l6 : (Instr.loadAt qx (.pointer (qn (some ⟨k4, 4, none⟩) (2 : Int) 1))).run prog w3 = .ok (.int .i64 f.s2) w3 := by rw [qdA]; exact hf3.load1 qN rfl rfl
     refine factJ (w := w3) (qhi f) ?_ ?_
     · refine BCase.of (fun h3 => ?_) (fun h3 => ?_) <;> simp only [Bool.not_eq_true', Bool.not_eq_false', dTx, dFx] at h3
       · exact bad (fun hc => h3 hc.1) hb23
       refine ⟨htr, _, hf3.load1 un_bool rfl rfl, ?_⟩
       refine BCase.of (fun h4 => ?_) (fun h4 => ?_) <;> simp only [Bool.not_eq_true', Bool.not_eq_false'] at h4
       · exact bad (fun hc => by rw [hc.2.1] at h4; cases h4) hb23
       refine ⟨htr, _, hf3.load1 un_bool rfl rfl, ?_⟩
       refine BCase.of (fun h5 => ?_) (fun h5 => ?_) <;> simp only [Bool.not_eq_true', Bool.not_eq_false'] at h5
       · exact bad (fun hc => by rw [hc.2.2.1] at h5; cases h5) hb23
       refine ⟨htr, tr3 0 (by decide) (by decide), _, l4, ?_⟩
       refine BCase.of (fun h6 => ?_) (fun h6 => ?_) <;> simp only [gt_iff_lt, dTx, dFx] at h6
       · exact bad (fun hc => by have := hc.2.2.2.1; omega) hb23
       refine ⟨htr, tr3 1 (by decide) (by decide), _, l5, ?_⟩
       refine BCase.of (fun h7 => ?_) (fun h7 => ?_) <;> simp only [gt_iff_lt, dTx, dFx] at h7
       · exact bad (fun hc => by have := hc.2.2.2.2.1; omega) hb23
       refine ⟨htr, tr3 2 (by decide) (by decide), _, l6, ?_⟩
       refine BCase.of (fun h8 => ?_) (fun h8 => ?_) <;> simp only [gt_iff_lt, dTx, dFx] at h8
       · exact bad (fun hc => by have := hc.2.2.2.2.2; omega) hb23
       exact ⟨rfl, h3, h4, h5, by omega, by omega, by omega⟩
     · intro hc
       refine ⟨htr, tr3 0 (by decide) (by decide), _, l4, htr, tr3 1 (by decide) (by decide), _, l5, htr, tr3 2 (by decide) (by decide), _, l6, ?_, hb23⟩
       have hr := qoI hc.1
       have h0 := hok.s0; have h1 := hok.s1; have h2 := hok.s2
       unfold qjP
       rw [if_pos hc, if_pos hc.1]
       unfold qcb
       rw [wrap_i64 (n := zR (qcJ f.y) f.m f.d * 86400) (by omega) (by omega), wrap_i64 (n := f.s0 * 3600) (by omega) (by omega), wrap_i64 (n := f.s1 * 60) (by omega) (by omega), wrap_i64 (n := zR (qcJ f.y) f.m f.d * 86400 + f.s0 * 3600) (by omega) (by omega),
         wrap_i64 (n := zR (qcJ f.y) f.m f.d * 86400 + f.s0 * 3600 + f.s1 * 60) (by omega) (by omega), wrap_i64 (by omega) (by omega)]
end Go.Proofs.YtndbpedpdbjkpaaGreatDoor
namespace Go.Pk
open Go.RowKit (Below)
theorem qh8 (w : World) (k : Nat) (os : Array Obj) : Below w.heap.size w (Go.Sort.grow (w.drewN k) os) := by
 refine qcT rfl rfl rfl (by simp [Go.Sort.grow, World.drewN]) fun j hj => ?_
 show (w.heap ++ os)[j]? = _
 rw [Array.getElem?_append_left hj]
abbrev qg9 (P : Program) (w : World) : Prop := Lib.TabIs P w "internal/strconv.uint64pow10" .u64 Lib.pow10Tab
end Go.Pk
namespace Go.Proofs.YtndbpedpdbjkpaaGreatDoor
open Go.Pk
open Go.RowKit (Below)
theorem qcw (n : Int) (h0 : 0 <= n) (h1 : n < 100) (w : World) : Calls prog qaA #[.int .i64 n, .int .i64 2] w (Ret fun v w' => v = .string (mkS (twoL n)) /\ Below w.heap.size w w') := by
 obtain ⟨k, rfl⟩ : ∃ k : Nat, n = (k : Int) := ⟨n.toNat, by omega⟩
 apply qgJ
 unfold qeV
 refine (Tryz.strconv_Itoa_small k (by omega) w).mono ?_
 rintro _ _ ⟨rfl, rfl⟩
 refine ⟨Lib.decDigits k, rfl, ?_⟩
 by_cases h : k < 10
 · have hl := qtd k h
   have e1 : i64.wrap ((2 : Int) - (((Lib.decDigits k).length : Nat) : Int)) = ((1 : Nat) : Int) := by rw [hl, wrap_i64 (by omega) (by omega)]; omega
   rw [e1]
   refine (Tryz.strings_Repeat (mkS [48]) 1 _ (by decide) (by decide)).mono ?_
   rintro _ w1 ⟨rfl, hb⟩
   refine ⟨[48], rfl, by rw [hl]; decide, ?_⟩
   rintro _ rfl
   exact ⟨by rw [<- itoa1_all k h]; rfl, hb⟩
 · have e2 := qpw k (by omega) (by omega)
   have hl : (Lib.decDigits k).length = 2 := by rw [e2]; rfl
   have e1 : i64.wrap ((2 : Int) - (((Lib.decDigits k).length : Nat) : Int)) = ((0 : Nat) : Int) := by rw [hl, wrap_i64 (by omega) (by omega)]; omega
   rw [e1]
   refine (Tryz.strings_Repeat (mkS [48]) 0 _ (by decide) (by decide)).mono ?_
   rintro _ w1 ⟨rfl, hb⟩
   refine ⟨[], rfl, by rw [hl]; decide, ?_⟩
   rintro _ rfl
   exact ⟨by rw [<- e2]; rfl, hb⟩
theorem qme (n : Int) (h0 : 1000 <= n) (h1 : n <= 9999) (w : World) (ht : qg9 prog w) : Calls prog qaA #[.int .i64 n, .int .i64 4] w (Ret fun v w' => v = .string (mkS (twoL (n / 100) ++ twoL (n % 100))) /\ Below w.heap.size w w') := by
 apply qgJ
 unfold qeV
 refine (Tryz.strconv_Itoa n (by omega) (by omega) w ht).mono ?_
 rintro _ _ ⟨rfl, k, os, rfl⟩
 have e2 := qvc h0 h1
 refine ⟨Lib.itoa n, rfl, ?_⟩
 have hl : (Lib.itoa n).length = 4 := by rw [e2]; rfl
 have e1 : i64.wrap ((4 : Int) - (((Lib.itoa n).length : Nat) : Int)) = ((0 : Nat) : Int) := by rw [hl, wrap_i64 (by omega) (by omega)]; omega
 rw [e1]
 refine (Tryz.strings_Repeat (mkS [48]) 0 _ (by decide) (by decide)).mono ?_
 rintro _ w1 ⟨rfl, hb⟩
 refine ⟨[], rfl, by rw [hl]; decide, ?_⟩
 rintro _ rfl
 have hb0 := qh8 w k os
 exact ⟨by rw [<- e2]; rfl, qb hb0 hb hb0.size⟩
theorem qsU : ∀ k, k < 7 -> (([84, 104, 117, 70, 114, 105, 83, 97, 116, 83, 117, 110, 77, 111, 110, 84, 117, 101, 87, 101, 100] : List UInt8).take (3 * k + 3)).drop (3 * k) = qem (k : Int) := by decide
theorem quv : ∀ k, k < 12 -> (([74, 97, 110, 70, 101, 98, 77, 97, 114, 65, 112, 114, 77, 97, 121, 74, 117, 110, 74, 117, 108, 65, 117, 103, 83, 101, 112, 79, 99, 116, 78, 111, 118, 68, 101, 99] : List UInt8).take (3 * k + 3)).drop (3 * k) = monN ((k : Int) + 1) := by decide
theorem qtr : ∀ k : Nat, k < 7 -> (qem (k : Int)).length = 3 := by decide
theorem qtR : ∀ k : Nat, k < 12 -> (monN ((k : Int) + 1)).length = 3 := by decide
theorem qlZ {k : Int} (h0 : 0 <= k) (h1 : k < 7) : (qem k).length = 3 := by
 have := qtr k.toNat (by omega)
 rwa [show ((k.toNat : Nat) : Int) = k by omega] at this
theorem qn6 {k : Int} (h0 : 1 <= k) (h1 : k <= 12) : (monN k).length = 3 := by
 have := qtR (k - 1).toNat (by omega)
 rwa [show (((k - 1).toNat : Nat) : Int) + 1 = k by omega] at this
theorem date_Text_ok (t : Int) (h0 : -9223372036854775808 <= t) (h1 : t <= 9223372036854775807) (w : World) (ht : qg9 prog w) : Calls prog qec #[.int .i64 t] w (Ret fun v w' => v = .string (mkS (qb6 t)) /\ Below w.heap.size w w') := by
 apply qnS
 unfold qj3
 obtain ⟨e1, e2⟩ := qe3 (t := t) (b := 86400) (by decide)
 refine ⟨by decide, ?_⟩
 rintro _ rfl
 refine ⟨by decide, ?_⟩
 rintro _ rfl
 refine ⟨fun n s w' => w' = w /\ n = t / 86400 /\ s = t % 86400, ?_, ?_⟩
 · refine BCase.of (fun h => ?_) (fun h => ?_) <;> simp only [dTx, dFx] at h
   · have hneg : t < 0 := by
       by_cases c : 0 <= t
       · have := (e1 c).2; omega
       · omega
     obtain ⟨e3, e4⟩ := e2 hneg
     rw [e4] at h
     rw [e3, e4, wrap_i64 (n := -(-t / 86400)) (by omega) (by omega), wrap_i64 (by omega) (by omega), wrap_i64 (by omega) (by omega)]
     exact ⟨rfl, by omega, by omega⟩
   · by_cases c : 0 <= t
     · rw [(e1 c).1, (e1 c).2, wrap_i64 (by omega) (by omega)]; exact ⟨rfl, rfl, rfl⟩
     · obtain ⟨e3, e4⟩ := e2 (by omega)
       rw [e4] at h
       rw [e3, e4, wrap_i64 (by omega) (by omega)]; exact ⟨rfl, by omega, by omega⟩
 · clear e1 e2
   intro n s
   refine AllJ.of ?_ _
   rintro w ⟨rfl, rfl, rfl⟩
   refine callK (qnF _ w (by omega)) ?_
   rintro _ w1 ⟨rfl, hb1⟩
   by_cases hr : t / 86400 < -134774 \/ 2932896 < t / 86400
   · rw [qcB hr]
     refine ⟨_, _, _, _, rfl, BCase.yes rfl ⟨by rw [qg4 hr], hb1⟩⟩
   obtain ⟨y, m, d, hd, he⟩ := qqL (n := t / 86400) (by omega) (by omega)
   rw [qi2 hd he, <- he, qim hd, he]
   refine ⟨y, m, d, true, rfl, BCase.no rfl ?_⟩
   have hdd := hd
   obtain ⟨hy1, hy2, hm1, hm2, hd1, hd2⟩ := hdd
   have hd3 := qeL y m
   generalize hn : t / 86400 = n at *
   generalize hs : t % 86400 = s at *
   have hs0 : 0 <= s /\ s < 86400 := by omega
   clear h0 h1 hn hs he
   obtain ⟨e1, e2⟩ := qe3 (t := n) (b := 7) (by decide)
   have e7 : -7 < Int.tmod n 7 /\ Int.tmod n 7 < 7 /\ (Int.tmod n 7 + 7) % 7 = n % 7 := by
     by_cases c : 0 <= n
     · rw [(e1 c).2]; omega
     · rw [(e2 (by omega)).2]; omega
   clear e1 e2
   refine ⟨by decide, ?_⟩
   rintro _ rfl
   refine ⟨by decide, ?_⟩
   rintro _ rfl
   have e8 : Int.tmod (i64.wrap (Int.tmod n 7 + 7)) 7 = n % 7 := by rw [wrap_i64 (by omega) (by omega), tmod_pos (by omega), e7.2.2]
   rw [e8]
   clear e7 e8
   have hk0 : 0 <= n % 7 /\ n % 7 < 7 := by omega
   have hwl := qlZ hk0.1 hk0.2
   have hml := qn6 hm1 hm2
   obtain ⟨k, hk⟩ : ∃ k : Nat, n % 7 = (k : Int) := ⟨(n % 7).toNat, by omega⟩
   obtain ⟨j, hj⟩ : ∃ j : Nat, m = (j : Int) + 1 := ⟨(m - 1).toNat, by omega⟩
   have hwk := qsU k (by omega)
   have hmk := quv j (by omega)
   rw [<- hk] at hwk
   rw [<- hj] at hmk
   rw [wrap_i64 (n := 3 * (n % 7)) (by omega) (by omega), wrap_i64 (n := 3 * (n % 7) + 3) (by omega) (by omega), show (3 * (n % 7) + 3).toNat = 3 * k + 3 by omega, show (3 * (n % 7)).toNat = 3 * k by omega, hwk]
   refine ⟨⟨⟨by omega, by simp only [List.length_cons, List.length_nil]; omega⟩, by omega, by omega⟩, ?_⟩
   rintro _ rfl
   refine ⟨fits (by simp only [List.length_append, qv, hwl, hml, List.length_cons, List.length_nil]; omega), ?_⟩
   rintro _ rfl
   refine ⟨twoL d, fun u hu => zj (qcw d (by omega) (by omega) u) hu, ?_⟩
   refine ⟨fits (by simp only [List.length_append, qv, hwl, hml, List.length_cons, List.length_nil]; omega), ?_⟩
   rintro _ rfl
   refine ⟨fits (by simp only [List.length_append, qv, hwl, hml, List.length_cons, List.length_nil]; omega), ?_⟩
   rintro _ rfl
   rw [wrap_i64 (n := 3 * m) (by omega) (by omega), wrap_i64 (n := 3 * m - 3) (by omega) (by omega), show (3 * m).toNat = 3 * j + 3 by omega, show (3 * m - 3).toNat = 3 * j by omega, hmk]
   refine ⟨⟨⟨by omega, by simp only [List.length_cons, List.length_nil]; omega⟩, by omega, by omega⟩, ?_⟩
   rintro _ rfl
   refine ⟨fits (by simp only [List.length_append, qv, hwl, hml, List.length_cons, List.length_nil]; omega), ?_⟩
   rintro _ rfl
   refine ⟨fits (by simp only [List.length_append, qv, hwl, hml, List.length_cons, List.length_nil]; omega), ?_⟩
   rintro _ rfl
   refine ⟨twoL (y / 100) ++ twoL (y % 100), fun u hu => zj (qme y (by omega) (by omega) u (qqU (qqU ht hb1) hu)) hu, ?_⟩
   refine ⟨fits (by simp only [List.length_append, qv, hwl, hml, List.length_cons, List.length_nil]; omega), ?_⟩
   rintro _ rfl
   refine ⟨fits (by simp only [List.length_append, qv, hwl, hml, List.length_cons, List.length_nil]; omega), ?_⟩
   rintro _ rfl
   refine ⟨by decide, ?_⟩
   rintro _ rfl
   rw [tdiv_pos hs0.1, wrap_i64 (n := s / 3600) (by omega) (by omega)]
   refine ⟨twoL (s / 3600), fun u hu => zj (qcw _ (by omega) (by omega) u) hu, ?_⟩
   refine ⟨fits (by simp only [List.length_append, qv, hwl, hml, List.length_cons, List.length_nil]; omega), ?_⟩
   rintro _ rfl
   refine ⟨fits (by simp only [List.length_append, qv, hwl, hml, List.length_cons, List.length_nil]; omega), ?_⟩
   rintro _ rfl
   refine ⟨by decide, ?_⟩
   rintro _ rfl
   refine ⟨by decide, ?_⟩
   rintro _ rfl
   rw [tdiv_pos hs0.1, wrap_i64 (n := s / 60) (by omega) (by omega), tmod_pos (a := s / 60) (by omega)]
   refine ⟨twoL (s / 60 % 60), fun u hu => zj (qcw _ (by omega) (by omega) u) hu, ?_⟩
   refine ⟨fits (by simp only [List.length_append, qv, hwl, hml, List.length_cons, List.length_nil]; omega), ?_⟩
   rintro _ rfl
   refine ⟨fits (by simp only [List.length_append, qv, hwl, hml, List.length_cons, List.length_nil]; omega), ?_⟩
   rintro _ rfl
   refine ⟨by decide, ?_⟩
   rintro _ rfl
   rw [tmod_pos (a := s) hs0.1]
   refine ⟨twoL (s % 60), fun u hu => zj (qcw _ (by omega) (by omega) u) hu, ?_⟩
   refine ⟨fits (by simp only [List.length_append, qv, hwl, hml, List.length_cons, List.length_nil]; omega), ?_⟩
   rintro _ rfl
   refine ⟨fits (by simp only [List.length_append, qv, hwl, hml, List.length_cons, List.length_nil]; omega), ?_⟩
   rintro _ rfl
   intro wq hq
   refine ⟨?_, qb hb1 hq hb1.size⟩
   congr 2
   simp [qhf, qcX, List.append_assoc]
end Go.Proofs.YtndbpedpdbjkpaaGreatDoor
namespace Go.Pk
open Go.RowKit (Below)
def stripR (p : UInt8 -> Bool) (s : List UInt8) : List UInt8 := (s.reverse.dropWhile p).reverse
def stripB (p : UInt8 -> Bool) (s : List UInt8) : List UInt8 := stripR p (s.dropWhile p)
theorem qly (p : UInt8 -> Bool) (s : List UInt8) (x : UInt8) : stripR p (s ++ [x]) = if p x then stripR p s else s ++ [x] := by
 unfold stripR
 rw [List.reverse_append]
 show (List.dropWhile p (x :: s.reverse)).reverse = _
 rw [List.dropWhile_cons]
 split <;> simp
theorem qej (p : UInt8 -> Bool) (x : UInt8) (s : List UInt8) : stripR p (x :: s) = if stripR p s = [] then (if p x then [] else [x]) else x :: stripR p s := by
 unfold stripR
 rw [List.reverse_cons]
 have key : ∀ t : List UInt8, List.dropWhile p (t ++ [x]) = if List.dropWhile p t = [] then (if p x then [] else [x]) else List.dropWhile p t ++ [x] := by
   intro t
   induction t with
   | nil => simp [List.dropWhile_cons]
   | cons y t ih =>
     rw [List.cons_append, List.dropWhile_cons, List.dropWhile_cons]
     split
     · exact ih
     · rw [if_neg (by simp)]; rfl
 rw [key]
 by_cases h : List.dropWhile p s.reverse = []
 · have h' : (List.dropWhile p s.reverse).reverse = [] := by rw [h]; rfl
   rw [if_pos h, if_pos h']
   split <;> rfl
 · have h' : ¬ (List.dropWhile p s.reverse).reverse = [] := by simpa using h
   rw [if_neg h, if_neg h']
   simp
theorem qg7 (p : UInt8 -> Bool) : ∀ s : List UInt8, (stripR p s).dropWhile p = stripB p s
 | [] => rfl
 | x :: s => by
   have ih := qg7 p s
   unfold stripB at ih ⊢
   cases hx : p x with
   | true =>
     have e1 : List.dropWhile p (x :: s) = List.dropWhile p s := by rw [List.dropWhile_cons, if_pos hx]
     rw [e1, <- ih, qej]
     by_cases h : stripR p s = []
     · rw [if_pos h, if_pos hx, h]
     · rw [if_neg h, List.dropWhile_cons, if_pos hx]
   | false =>
     have hx' : ¬ p x = true := by rw [hx]; decide
     have e1 : List.dropWhile p (x :: s) = x :: s := by rw [List.dropWhile_cons, if_neg hx']
     rw [e1, qej]
     by_cases h : stripR p s = []
     · rw [if_pos h, if_neg hx', List.dropWhile_cons, if_neg hx']
     · rw [if_neg h, List.dropWhile_cons, if_neg hx']
theorem qhR (p : UInt8 -> Bool) : ∀ s : List UInt8, stripR p s = [] ↔ s.all p = true
 | [] => by simp [stripR]
 | x :: s => by
   have ih := qhR p s
   rw [qej, List.all_cons, Bool.and_eq_true, <- ih]
   by_cases h : stripR p s = []
   · rw [if_pos h]
     cases p x <;> simp [h]
   · rw [if_neg h]; simp [h]
theorem qde (p : UInt8 -> Bool) : ∀ s : List UInt8, stripB p s = [] ↔ s.all p = true
 | [] => by simp [stripB, stripR]
 | x :: s => by
   unfold stripB
   rw [List.dropWhile_cons]
   cases hx : p x with
   | true => rw [if_pos rfl, List.all_cons, hx, Bool.true_and]; exact qde p s
   | false => rw [if_neg (by decide), qhR]
theorem qrl (p : UInt8 -> Bool) (s : List UInt8) : ∀ x ∈ stripR p s, x ∈ s := fun x hx => by
 unfold stripR at hx
 rw [List.mem_reverse] at hx
 exact List.mem_reverse.1 ((List.dropWhile_sublist p).subset hx)
theorem qnh (p : UInt8 -> Bool) (s : List UInt8) : ∀ x ∈ stripB p s, x ∈ s := fun x hx => (List.dropWhile_sublist p).subset (qrl p _ x hx)
theorem qjV (p : UInt8 -> Bool) (s : List UInt8) : (stripB p s).length <= s.length := by
 unfold stripB stripR
 rw [List.length_reverse]
 have h1 := (List.dropWhile_sublist p (l := (s.dropWhile p).reverse)).length_le
 have h2 := (List.dropWhile_sublist p (l := s)).length_le
 rw [List.length_reverse] at h1; omega
theorem ql5 (s cs : List UInt8) : Lib.trimS s cs = stripB (cs.contains ·) s := qg7 _ s
def isBl (c : UInt8) : Bool := c == 32 || c == 9
def zt (s : List UInt8) : List UInt8 := stripB isBl s
theorem qq4 : ∀ n, n < 256 -> ([32, 9] : List UInt8).contains (UInt8.ofNat n) = isBl (UInt8.ofNat n) := by decide +kernel
theorem quJ (c : UInt8) : ([32, 9] : List UInt8).contains c = isBl c := by
 have := qq4 c.toNat (by have := c.toNat_lt; omega)
 rwa [UInt8.ofNat_toNat] at this
theorem qun (s : List UInt8) : Lib.trimS s [32, 9] = zt s := by
 rw [ql5]; unfold zt; congr 1; exact funext quJ
def zy (s : List UInt8) : Bool := !(s == []) && s.all j9
theorem qpE (s : List UInt8) : (Lib.trimS s [48, 49, 50, 51, 52, 53, 54, 55, 56, 57] == []) = s.all j9 := by
 rw [ql5]
 have e : (fun x => ([48, 49, 50, 51, 52, 53, 54, 55, 56, 57] : List UInt8).contains x) = j9 := funext qsg
 rw [e, Bool.eq_iff_iff, beq_iff_eq, qde]
def numP (s : List UInt8) : Prop := zy s = true /\ s.length <= 18 /\ ¬ (s.head? = some 48 /\ 1 < s.length)
instance (s : List UInt8) : Decidable (numP s) := by unfold numP; infer_instance
end Go.Pk
namespace Go.Proofs.YtndbpedpdbjkpaaGreatDoor
open Go.Pk
open Go.RowKit (Below)
theorem qdG (s : List UInt8) (hs : s.length <= 9223372036854775807) (w : World) : Calls prog qcs #[.string (mkS s)] w (Ret fun v w' => v = .string (mkS (zt s)) /\ Below w.heap.size w w') := by
 apply qmm
 unfold qiX
 refine (Tryz.strings_Trim_laid (mkS s) (mkS [32, 9]) w hs (by decide) (ascii_of_all (by decide))).mono ?_
 rintro _ w1 ⟨rfl, hb⟩
 have e : Lib.trimS (mkS s).data.toList (mkS [32, 9]).data.toList = zt s := qun s
 rw [e]
 exact ⟨_, rfl, rfl, hb⟩
theorem qeb (s : List UInt8) (hs : s.length <= 9223372036854775807) (w : World) : Calls prog qck #[.string (mkS s)] w (Ret fun v w' => v = .bool (zy s) /\ Below w.heap.size w w') := by
 apply qkp
 unfold qgb
 unfold zy
 refine BCase.of (fun h => ?_) (fun h => ?_)
 · refine ⟨⟨by decide, by decide⟩, ?_⟩
   rintro _ rfl
   refine (Tryz.strings_Trim_laid (mkS s) (mkS [48, 49, 50, 51, 52, 53, 54, 55, 56, 57]) w hs (by decide) (ascii_of_all (by decide))).mono ?_
   rintro _ w1 ⟨rfl, hb⟩
   refine ⟨_, rfl, ?_, hb⟩
   have e := qpE s
   rw [h, Bool.true_and, <- e]; rfl
 · rw [h]; exact ⟨rfl, Below.refl _ _⟩
theorem qf9 (s : List UInt8) (hs : s.length <= 9223372036854775000) (w : World) :
   Calls prog qdh #[.string (mkS s)] w (Ret fun v w' => v = (if numP s then .tuple #[.int .i64 (decV s), .bool true] else .tuple #[.int .i64 0, .bool false]) /\ Below w.heap.size w w') := by
 apply qky
 unfold qf2
 have bad : ∀ {w' : World}, ¬ numP s -> Below w.heap.size w w' -> (.tuple #[.int .i64 (0 : Int), .bool false] : Value) = (if numP s then .tuple #[.int .i64 (decV s), .bool true] else .tuple #[.int .i64 0, .bool false]) /\ Below w.heap.size w w' := fun hn hb => ⟨by rw [if_neg hn], hb⟩
 refine worldJ (fun w' => numP s /\ Below w.heap.size w w') ?_ ?_
 · refine callK (qeb s (by omega) w) ?_
   rintro _ w1 ⟨rfl, hb⟩
   refine ⟨_, rfl, ?_⟩
   refine BCase.of (fun h => ?_) (fun h => ?_) <;> simp only [Bool.not_eq_true', Bool.not_eq_false'] at h
   · exact bad (fun hc => by rw [hc.1] at h; cases h) hb
   refine BCase.of (fun h2 => ?_) (fun h2 => ?_) <;> simp only [gt_iff_lt, dTx, dFx] at h2
   · exact bad (fun hc => by have := hc.2.1; omega) hb
   have hne : s ≠ [] := fun e => by rw [e] at h; cases h
   match s, hne with
   | c :: r, _ =>
     have hx : qA (c :: r) 0 = ((c.toNat : Nat) : Int) := rfl
     rw [hx]
     refine ⟨⟨by decide, by simp only [List.length_cons]; omega⟩, ?_⟩
     refine BCase.of (fun h3 => ?_) (fun h3 => ?_)
     · have hc : c = 48 := qo4 (by simpa using h3)
       refine BCase.of (fun h4 => ?_) (fun h4 => ?_) <;> simp only [gt_iff_lt, dTx, dFx] at h4
       · exact bad (fun hcn => hcn.2.2 ⟨by rw [hc]; rfl, by omega⟩) hb
       · exact ⟨⟨h, by omega, fun hcn => by omega⟩, hb⟩
     · have hc : c ≠ 48 := fun e => by subst e; cases h3
       exact ⟨⟨h, by omega, fun hcn => hc (by simpa using hcn.1)⟩, hb⟩
 · rintro w1 ⟨hn, hb⟩
   rw [if_pos hn]
   obtain ⟨hd, hl, _⟩ := hn
   have hall : ∀ c ∈ s, j9 c = true := fun c hc => by
     unfold zy at hd
     rw [Bool.and_eq_true] at hd
     exact List.all_eq_true.1 hd.2 c hc
   obtain ⟨w2, a, n, c, hr, ho, hb2, hf⟩ := qgX un_string zQ un_uint8 w1 s (by omega) NoB
   have hnn := ho.len
   subst hnn
   have hb12 := qb hb hb2 hb.size
   refine ⟨w2, a, _, c, hr, ?_⟩
   refine ⟨fun m n i w' => ∃ k : Nat, k <= s.length /\ i = (k : Int) /\ n = decV (s.take k) /\ m = s.length - k /\ w' = w2, ⟨_, 0, by omega, rfl, rfl, rfl, rfl⟩, ?_⟩
   intro m n i
   refine AllJ.of ?_ _
   rintro w' ⟨k, hk, rfl, rfl, rfl, rfl⟩
   refine BCase.of (fun h => ?_) (fun h => ?_) <;> simp only [dTx, dFx] at h
   · have hlt : k < s.length := by omega
     have hc := qcf.1 (hall s[k] (List.getElem_mem hlt))
     have hbd := qb1 (s.take k) 0 (by decide) fun c hc => hall c (List.mem_of_mem_take hc)
     have hp : (10 : Int) ^ (s.take k).length <= 10 ^ 17 := qkJ (by rw [List.length_take]; omega)
     have e17 : (10 : Int) ^ 17 = 100000000000000000 := by decide
     have hV : (s.take k).foldl (fun n c => n * 10 + ((c.toNat : Int) - 48)) 0 = decV (s.take k) := rfl
     rw [hV] at hbd
     have hbb := hbd.2
     rw [Int.zero_add, Int.one_mul] at hbb
     obtain ⟨v, hv, hrep⟩ := ho.all.load1 (i := (k : Int)) un_uint8 rfl rfl (by simpa using hlt)
     have := qnk hrep
     subst this
     simp only [Int.toNat_natCast] at hv
     refine ⟨⟨⟨by omega, h⟩, ho.all.isSome hlt⟩, _, hv, s.length - (k + 1), by omega, k + 1, by omega, by rw [wrap_i64 (by omega) (by omega)]; omega, ?_, rfl, rfl⟩
     rw [List.take_succ_eq_append_getElem hlt, qlV, wrap_i64 (n := 10 * decV (s.take k)) (by omega) (by omega), qcc (n := ((s[k].toNat : Nat) : Int) - 48) (by omega) (by omega), wrap_i64 (n := ((s[k].toNat : Nat) : Int) - 48) (by omega) (by omega), wrap_i64 (by omega) (by omega)]
     omega
   · have : k = s.length := by omega
     subst this
     rw [List.take_length]; exact ⟨rfl, hb12⟩
theorem qbx (s : List UInt8) (c : UInt8) (hs : s.length < 4294967281) (w : World) (he : Env w) :
   Calls prog qay #[.string (mkS s), .int .u8 ((c.toNat : Nat) : Int)] w (Ret fun v w' => ∃ a n cp, v = .slice a n cp /\ Ow tS qe w' NoB a n cp (cutC c [] s) /\ qb9 w.heap.size a /\ Below w.heap.size w w') := by
 apply qlo
 unfold qhO
 intro k w1 hk hw
 have hB := (hw ▸ qf w _ : Below w.heap.size w w1)
 have ho : Ow tU8 qw w1 NoB (some ⟨k, 0, none⟩) 1 1 [c] := Ow.newF (l := [_]) qgA hk hw (RepL.one (qgz rfl)) (show 1 <= maxLen by decide)
 refine ⟨_, qeX zQ un_string un_uint8 ho.all, ?_⟩
 obtain ⟨m, hm⟩ := (he.step hB).max
 refine (Tryz.strings_Split (mkS s) (mkS [c]) m w1 hs hm (Nat.le_refl 1)).mono ?_
 rintro _ w2 ⟨rfl, hw2⟩
 have hcnt := j0 c s []
 rw [qkQ, qpY] at *
 refine ⟨_, _, _, rfl, _, _, _, rfl, Ow.newF (jY _) rfl hw2 (qbD fun _ _ => trivial) (by show _ <= 2 ^ 63 - 1; omega), fresh_new rfl |>.mono hB.size, qb hB (hw2 ▸ qf _ _) hB.size⟩
theorem qhB (c : UInt8) (w : World) : Calls prog qb2 #[.int .u8 ((c.toNat : Nat) : Int)] w (Ret fun v w' => v = .bool (isBl c) /\ w' = w) := by
 apply qkP
 unfold qhW
 have e : ∀ n : UInt8, ((((c.toNat : Nat) : Int)) == ((n.toNat : Nat) : Int)) = (c == n) := fun n => by
   rw [Bool.eq_iff_iff, beq_iff_eq, beq_iff_eq]
   exact ⟨fun h => qo4 h, fun h => by rw [h]⟩
 have e32 := e 32
 have e9 := e 9
 refine BCase.of (fun h => ?_) (fun h => ?_)
 · exact ⟨by unfold isBl; rw [<- e32, show ((((c.toNat : Nat) : Int)) == ((UInt8.toNat 32 : Nat) : Int)) = true from h]; rfl, rfl⟩
 · exact ⟨by unfold isBl; rw [<- e32, show ((((c.toNat : Nat) : Int)) == ((UInt8.toNat 32 : Nat) : Int)) = false from h, Bool.false_or, <- e9]; rfl, rfl⟩
end Go.Proofs.YtndbpedpdbjkpaaGreatDoor
namespace Go.Pk
open Go.RowKit (Below)
theorem qlk {s : List UInt8} (h : 0 < s.length) : s = s.take (s.length - 1) ++ [s[s.length - 1]] := by
 conv => lhs; rw [<- List.take_length (l := s)]
 have : s.length = (s.length - 1) + 1 := by omega
 conv => lhs; rw [this, List.take_succ_eq_append_getElem (by omega)]
def qcg (s : List UInt8) : List UInt8 := zt (s.takeWhile (· != 61))
def qbW (s : List UInt8) : List UInt8 := zt ((s.dropWhile (· != 61)).drop 1)
def qnR (s : List UInt8) : Bool := decide ((61 : UInt8) ∈ s)
theorem ne61 (c : UInt8) : ((c != 61) = true) ↔ c ≠ 61 := by simp
theorem tw_take (p : UInt8 -> Bool) (s : List UInt8) : s.take (s.takeWhile p).length = s.takeWhile p := by
 have h : (s.takeWhile p ++ s.dropWhile p).take (s.takeWhile p).length = s.takeWhile p := List.take_left' rfl
 rwa [List.takeWhile_append_dropWhile] at h
theorem qt7 (p : UInt8 -> Bool) (s : List UInt8) : s.drop (s.takeWhile p).length = s.dropWhile p := by
 have h : (s.takeWhile p ++ s.dropWhile p).drop (s.takeWhile p).length = s.dropWhile p := List.drop_left' rfl
 rwa [List.takeWhile_append_dropWhile] at h
theorem qrm {s : List UInt8} (h : (61 : UInt8) ∉ s) : s.takeWhile (· != 61) = s /\ s.dropWhile (· != 61) = [] := by
 have hp : ∀ x ∈ s, (x != 61) = true := fun x hx => (ne61 x).2 fun e => h (e ▸ hx)
 have h1 : s.takeWhile (· != 61) = s := by
   have := List.takeWhile_append_of_pos (p := (· != 61)) (l₁ := s) (l₂ := []) hp
   simpa using this
 have h2 := List.takeWhile_append_dropWhile (p := (· != (61 : UInt8))) (l := s)
 refine ⟨h1, ?_⟩
 rw [h1] at h2
 exact List.append_cancel_left (h2.trans (List.append_nil s).symm)
theorem qph {s : List UInt8} (h : (61 : UInt8) ∈ s) : (s.takeWhile (· != 61)).length < s.length := by
 have h1 := jz (· != (61 : UInt8)) s
 by_cases c : (s.takeWhile (· != 61)).length = s.length
 · have e : s.takeWhile (· != 61) = s := (List.takeWhile_sublist _).eq_of_length c
   have := List.all_takeWhile (p := (· != (61 : UInt8))) (l := s)
   rw [e] at this
   have := List.all_eq_true.1 this 61 h
   simp at this
 · omega
def qcM (c : UInt8) : Bool := (decide (c.toNat < 32) && !(c == 9)) || c == 127
end Go.Pk
namespace Go.Proofs.YtndbpedpdbjkpaaGreatDoor
open Go.Pk
open Go.RowKit (Below)
theorem qau (c n : UInt8) : ((((c.toNat : Nat) : Int)) == ((n.toNat : Nat) : Int)) = (c == n) := by
 rw [Bool.eq_iff_iff, beq_iff_eq, beq_iff_eq]
 exact ⟨fun h => qo4 h, fun h => by rw [h]⟩
theorem zJ {s : List UInt8} {k : Nat} (h : k < s.length) : qA s (k : Int) = ((s[k].toNat : Nat) : Int) := by
 rw [qe7 (i := (k : Int)) (by simpa using h)]; simp only [Int.toNat_natCast]
theorem qqI (K : Value -> World -> Prop) (s : List UInt8) (hs : s.length <= 9223372036854775807) (w : World) (hK : K (.string (mkS (stripR isBl s))) w) {a b : Nat} :
   ∃ I : Nat -> FP [.one (.str)], (∃ m : Nat, I m s w) /\ ∀ (m : Nat) (t : List UInt8), AllJ a (∀ (wl : World), I m t wl ->
     ∃ J : FP [],
     (BCase (decide (((List.length t : Nat) : Int) > (0 : Int)))
     (((0 <= (i64.wrap (((List.length t : Nat) : Int) - (1 : Int))) /\ (i64.wrap (((List.length t : Nat) : Int) - (1 : Int))) < ((List.length t : Nat) : Int))) /\
     Calls prog qb2 #[.int .u8 (qA t (i64.wrap (((List.length t : Nat) : Int) - (1 : Int))))] wl fun e22 w22 => ∃ (b22 : Bool), e22 = .returned (.bool b22) /\
     BCase b22
     (J w22)
     (K (.string (mkS t)) w22))
     (K (.string (mkS t)) wl)) /\
     AllJ b (∀ (wj : World), J wj ->
     ((0 <= (i64.wrap (((List.length t : Nat) : Int) - (1 : Int))) /\ (i64.wrap (((List.length t : Nat) : Int) - (1 : Int))) <= (((List.length t) : Nat) : Int))) /\
     ∀ (s28 : List UInt8), s28 = (List.take (Int.toNat (i64.wrap (((List.length t : Nat) : Int) - (1 : Int)))) t) ->
     ∃ m' : Nat, m' < m /\ I m' s28 wj)) := by
 refine ⟨fun m t w' => m = t.length /\ stripR isBl s = stripR isBl t /\ t.length <= s.length /\ w' = w, ⟨_, rfl, rfl, Nat.le_refl _, rfl⟩, ?_⟩
 intro m t
 refine AllJ.of ?_ _
 rintro w' ⟨rfl, ht, htl, rfl⟩
 refine factJ (w := w') (∃ h : 0 < t.length, isBl t[t.length - 1] = true) ?_ ?_
 · refine BCase.of (fun h => ?_) (fun h => ?_) <;> simp only [gt_iff_lt, dTx, dFx] at h
   · have h0 : 0 < t.length := by omega
     have e1 : i64.wrap (((t.length : Nat) : Int) - 1) = ((t.length - 1 : Nat) : Int) := by rw [wrap_i64 (by omega) (by omega)]; omega
     rw [e1, zJ (by omega)]
     refine ⟨⟨by omega, by omega⟩, ?_⟩
     refine callK (qhB _ w') ?_
     rintro _ w' ⟨rfl, rfl⟩
     refine ⟨_, rfl, ?_⟩
     refine BCase.of (fun h2 => ?_) (fun h2 => ?_)
     · exact ⟨rfl, h0, h2⟩
     · have e2 : stripR isBl t = t := by
         conv => lhs; rw [qlk h0]
         rw [qly, if_neg (by rw [h2]; decide), <- qlk h0]
       rw [ht, e2] at hK; exact hK
   · have : t = [] := List.eq_nil_of_length_eq_zero (by omega)
     subst this
     rw [ht] at hK; exact hK
 · rintro ⟨h0, hb⟩
   have e1 : i64.wrap (((t.length : Nat) : Int) - 1) = ((t.length - 1 : Nat) : Int) := by rw [wrap_i64 (by omega) (by omega)]; omega
   rw [e1]
   refine ⟨⟨by omega, by omega⟩, ?_⟩
   rintro _ rfl
   simp only [Int.toNat_natCast]
   refine ⟨t.length - 1, by omega, by rw [List.length_take]; omega, ?_, by rw [List.length_take]; omega, trivial⟩
   rw [ht]
   conv => lhs; rw [qlk h0]
   rw [qly, if_pos hb]
theorem ref01_Trim_ok (s : List UInt8) (hs : s.length <= 9223372036854775807) (w : World) : Calls prog qa6 #[.string (mkS s)] w (Ret fun v w' => v = .string (mkS (zt s)) /\ w' = w) := by
 apply qmj
 unfold qiR
 refine ⟨fun m t w' => m = t.length /\ s.dropWhile isBl = t.dropWhile isBl /\ t.length <= s.length /\ w' = w, ⟨_, rfl, rfl, Nat.le_refl _, rfl⟩, ?_⟩
 intro m t
 refine AllJ.of ?_ _
 rintro w' ⟨rfl, ht, htl, rfl⟩
 refine BCase.of (fun h => ?_) (fun h => ?_) <;> simp only [gt_iff_lt, dTx, dFx] at h
 · match t, h with
   | c :: r, h =>
     have hx : qA (c :: r) 0 = ((c.toNat : Nat) : Int) := rfl
     rw [hx]
     refine ⟨⟨by decide, h⟩, ?_⟩
     refine callK (qhB c w') ?_
     rintro _ w' ⟨rfl, rfl⟩
     refine ⟨_, rfl, ?_⟩
     refine BCase.of (fun h2 => ?_) (fun h2 => ?_)
     · refine ⟨⟨by decide, by simp only [List.length_cons]; omega⟩, ?_⟩
       rintro r' hr'
       obtain rfl : r' = r := hr'
       refine ⟨_, Nat.lt_succ_self _, rfl, ?_, ?_, rfl⟩
       · rw [ht, List.dropWhile_cons, if_pos h2]
       · simp only [List.length_cons] at htl; omega
     · refine qqI (fun v w'' => v = .string (mkS (zt s)) /\ w'' = w') (c :: r) (by omega) w' ?_
       refine ⟨?_, rfl⟩
       unfold zt stripB
       rw [ht, List.dropWhile_cons, if_neg (by rw [h2]; decide)]
 · have : t = [] := List.eq_nil_of_length_eq_zero (by omega)
   subst this
   refine qqI (fun v w'' => v = .string (mkS (zt s)) /\ w'' = w') [] (by simp) w' ?_
   refine ⟨?_, rfl⟩
   unfold zt stripB
   rw [ht]; rfl
theorem ref01_Digits_ok (s : List UInt8) (hs : s.length <= 9223372036854775807) (w : World) : Calls prog qbw #[.string (mkS s)] w (Ret fun v w' => v = .bool (zy s) /\ w' = w) := by
 apply qkv
 unfold qgv
 refine ⟨fun m i w' => ∃ k : Nat, k <= s.length /\ i = (k : Int) /\ m = s.length - k /\ (s.take k).all j9 = true /\ w' = w, ⟨_, 0, by omega, rfl, rfl, rfl, rfl⟩, ?_⟩
 intro m i
 refine AllJ.of ?_ _
 rintro w' ⟨k, hk, rfl, rfl, hall, rfl⟩
 refine BCase.of (fun h => ?_) (fun h => ?_) <;> simp only [dTx, dFx] at h
 · have hlt : k < s.length := by omega
   have hd := qsD hlt
   have bad : ¬ j9 s[k] = true -> (.bool false : Value) = .bool (zy s) /\ w' = w' := fun hn => ⟨by
     congr 1
     symm
     unfold zy
     rw [Bool.and_eq_false_iff]
     right
     rw [Bool.eq_false_iff]
     intro hc
     exact hn (List.all_eq_true.1 hc _ (List.getElem_mem hlt)), rfl⟩
   refine ⟨⟨by omega, h⟩, ?_⟩
   refine BCase.of (fun h2 => ?_) (fun h2 => ?_) <;> simp only [dTx, dFx] at h2
   · exact bad fun hc => by have := (hd.1 hc).1; omega
   refine ⟨⟨by omega, h⟩, ?_⟩
   refine BCase.of (fun h3 => ?_) (fun h3 => ?_) <;> simp only [gt_iff_lt, dTx, dFx] at h3
   · exact bad fun hc => by have := (hd.1 hc).2; omega
   · refine ⟨s.length - (k + 1), by omega, k + 1, by omega, by rw [wrap_i64 (by omega) (by omega)]; omega, rfl, ?_, rfl⟩
     rw [List.take_succ_eq_append_getElem hlt, List.all_append, hall]
     simp [hd.2 ⟨by omega, by omega⟩]
 · have : k = s.length := by omega
   subst this
   rw [List.take_length] at hall
   refine ⟨?_, rfl⟩
   congr 1
   unfold zy
   rw [hall, Bool.and_true]
   cases s <;> simp
theorem ja (s : List UInt8) (c : UInt8) (hs : s.length <= 100000000) (w : World) :
   Calls prog zO #[.string (mkS s), .int .u8 ((c.toNat : Nat) : Int)] w (Ret fun v w' => ∃ a n cp, v = .slice a n cp /\ Ow tS qe w' NoB a n cp (cutC c [] s) /\ qb9 w.heap.size a /\ Below w.heap.size w w') := by
 apply qkT
 unfold qhE
 intro k8 w8 hk8 hw8
 have hB := (hw8 ▸ qf w _ : Below w.heap.size w w8)
 have ho8 : Ow tS qe w8 NoB (some ⟨k8, 0, none⟩) 0 0 [] := Ow.newF (jY _) hk8 hw8 (RepL.nil _ _ _) (Nat.zero_le _)
 refine ⟨fun m a n cp fr i w' => ∃ (k j : Nat) (done : List (List UInt8)), k <= s.length /\ j <= k /\ i = (k : Int) /\ fr = (j : Int) /\ m = s.length - k /\ done.length <= k /\ cutC c [] s = done ++ cutC c ((s.take k).drop j) (s.drop k) /\
     Ow tS qe w' NoB a n cp done /\ qb9 w.heap.size a /\ Below w.heap.size w w',
   ⟨_, 0, 0, [], by omega, by omega, rfl, rfl, rfl, Nat.le_refl _, rfl, ho8, fresh_new hk8, hB⟩, ?_⟩
 intro m a n cp fr i
 refine AllJ.of ?_ _
 rintro w1 ⟨k, j, done, hk, hj, rfl, rfl, rfl, hdl, hcut, ho, hf, hb⟩
 refine BCase.of (fun h => ?_) (fun h => ?_) <;> simp only [dTx, dFx] at h
 · have hlt : k < s.length := by omega
   have ew : i64.wrap ((k : Int) + 1) = ((k + 1 : Nat) : Int) := by rw [wrap_i64 (by omega) (by omega)]; omega
   rw [ew, zJ hlt, qau]
   rw [qt3 c s _ k hlt] at hcut
   refine ⟨⟨by omega, h⟩, ?_⟩
   refine BCase.of (fun h2 => ?_) (fun h2 => ?_)
   · rw [beq_iff_eq] at h2
     rw [if_pos h2] at hcut
     refine ⟨⟨⟨by omega, by omega⟩, by omega, by omega⟩, ?_⟩
     rintro _ rfl k3 w3 hk3 hw3
     simp only [Int.toNat_natCast] at hw3 ⊢
     obtain ⟨w4, a4, n4, c4, hr, ho4, hf4, hb4⟩ := qp8 (ty := qD) (w0 := w) (cm := 1) (vs := [_]) (jY _) qa2 zl (by decide) ho hf hb hk3 hw3 (qfI trivial) (by omega)
     refine ⟨w4, a4, n4, c4, hr, s.length - (k + 1), by omega, k + 1, k + 1, _, by omega, Nat.le_refl _, rfl, rfl, rfl, ?_, ?_, ho4, hf4, hb4⟩
     · simp; omega
     · have hnil : (s.take (k + 1)).drop (k + 1) = [] := List.drop_eq_nil_of_le (by rw [List.length_take]; omega)
       rw [hcut, hnil]
       simp
   · rw [beq_eq_false_iff_ne] at h2
     rw [if_neg h2] at hcut
     refine ⟨s.length - (k + 1), by omega, k + 1, j, done, by omega, by omega, rfl, rfl, rfl, by omega, ?_, ho, hf, hb⟩
     rw [hcut, List.take_succ_eq_append_getElem hlt, List.drop_append_of_le_length (by rw [List.length_take]; omega)]
 · have : k = s.length := by omega
   subst this
   refine ⟨⟨by omega, by omega⟩, ?_⟩
   rintro _ rfl k3 w3 hk3 hw3
   simp only [Int.toNat_natCast] at hw3 ⊢
   obtain ⟨w4, a4, n4, c4, hr, ho4, hf4, hb4⟩ := qp8 (ty := qD) (w0 := w) (cm := 1) (vs := [_]) (jY _) qa2 zl (by decide) ho hf hb hk3 hw3 (qfI trivial) (by omega)
   refine ⟨w4, a4, n4, c4, hr, _, _, _, rfl, ?_, hf4, hb4⟩
   rw [hcut]
   simpa [cutC] using ho4
theorem qgw (s : List UInt8) (hs : s.length <= 9223372036854775807) (w : World) : Calls prog qd7 #[.string (mkS s)] w (Ret fun v w' => v = .int .i64 ((s.takeWhile (· != 61)).length : Nat) /\ w' = w) := by
 apply qn3
 unfold qj4
 have hle := jz (· != (61 : UInt8)) s
 refine ⟨fun m i w' => ∃ k : Nat, k <= (s.takeWhile (· != 61)).length /\ i = (k : Int) /\ m = s.length - k /\ w' = w, ⟨_, 0, by omega, rfl, rfl, rfl⟩, ?_⟩
 intro m i
 refine AllJ.of ?_ _
 rintro w' ⟨k, hk, rfl, rfl, rfl⟩
 refine BCase.of (fun h => ?_) (fun h => ?_) <;> simp only [dTx, dFx] at h
 · have hlt : k < s.length := by omega
   have hat := qes (· != (61 : UInt8)) s k hlt hk
   rw [ne61] at hat
   rw [zJ hlt]
   refine ⟨⟨by omega, h⟩, ?_⟩
   have e61 := qau s[k] 61
   refine BCase.of (fun h2 => ?_) (fun h2 => ?_)
   · rw [show ((((s[k].toNat : Nat) : Int)) == ((UInt8.toNat 61 : Nat) : Int)) = true from h2] at e61
     have hc : s[k] = 61 := by simpa using e61.symm
     exact ⟨by congr 1; have : ¬ k < (s.takeWhile (· != 61)).length := fun e => hat.2 e hc; omega, rfl⟩
   · rw [show ((((s[k].toNat : Nat) : Int)) == ((UInt8.toNat 61 : Nat) : Int)) = false from h2] at e61
     have hc : s[k] ≠ 61 := by simpa using e61.symm
     have := hat.1 hc
     exact ⟨s.length - (k + 1), by omega, k + 1, this, by rw [wrap_i64 (by omega) (by omega)]; omega, rfl, rfl⟩
 · exact ⟨by congr 1; omega, rfl⟩
theorem ref08_ahead_ok (s : List UInt8) (hs : s.length <= 9223372036854775807) (w : World) : Calls prog zB #[.string (mkS s)] w (Ret fun v w' => v = .string (mkS (qcg s)) /\ w' = w) := by
 apply qkU
 unfold qhQ
 have hle := jz (· != (61 : UInt8)) s
 refine callK (qgw s hs w) ?_
 rintro _ w ⟨rfl, rfl⟩
 refine ⟨_, rfl, ⟨by omega, by omega⟩, ?_⟩
 rintro _ rfl
 simp only [Int.toNat_natCast]
 rw [tw_take]
 refine callK (ref01_Trim_ok _ (by omega) w) ?_
 rintro _ w ⟨rfl, rfl⟩
 exact ⟨_, rfl, rfl, rfl⟩
theorem ref08_after_ok (s : List UInt8) (hs : s.length <= 9223372036854775800) (w : World) : Calls prog zb #[.string (mkS s)] w (Ret fun v w' => v = .string (mkS (qbW s)) /\ w' = w) := by
 apply qlY
 unfold qhA
 have hle := jz (· != (61 : UInt8)) s
 refine callK (qgw s (by omega) w) ?_
 rintro _ w ⟨rfl, rfl⟩
 refine ⟨_, rfl, ?_⟩
 refine BCase.of (fun h => ?_) (fun h => ?_)
 · rw [beq_iff_eq] at h
   refine ⟨?_, rfl⟩
   unfold qbW
   by_cases hm : (61 : UInt8) ∈ s
   · have := qph hm; omega
   · rw [(qrm hm).2]; rfl
 · rw [beq_eq_false_iff_ne] at h
   have hlt : (s.takeWhile (· != 61)).length < s.length := by omega
   rw [wrap_i64 (by omega) (by omega)]
   refine ⟨⟨by omega, by omega⟩, ?_⟩
   rintro _ rfl
   have e1 : Int.toNat (((s.takeWhile (· != 61)).length : Nat) + 1 : Int) = (s.takeWhile (· != 61)).length + 1 := by omega
   rw [e1, <- List.drop_drop, qt7]
   refine callK (ref01_Trim_ok _ (by simp; have := (List.dropWhile_sublist (· != (61 : UInt8)) (l := s)).length_le; omega) w) ?_
   rintro _ w ⟨rfl, rfl⟩
   exact ⟨_, rfl, rfl, rfl⟩
theorem qhF (s : List UInt8) (hs : s.length < 4294967281) (w : World) (he : Env w) :
   Calls prog qdJ #[.string (mkS s)] w (Ret fun v w' => v = .tuple #[.string (mkS (qcg s)), .string (mkS (qbW s)), .bool (qnR s)] /\ Below w.heap.size w w') := by
 apply qk2
 unfold qhq
 obtain ⟨m, hm⟩ := he.max
 refine (Tryz.strings_Cut (mkS s) (mkS [61]) m w hs hm).mono ?_
 rintro _ w1 ⟨rfl, n, rfl⟩
 have e : Lib.cut (mkS s).data.toList (mkS [61]).data.toList = (s.takeWhile (· != 61), (s.dropWhile (· != 61)).drop 1, qnR s) := by
   show Lib.cut s [61] = _
   rw [qtu]
   unfold qnR
   by_cases hm : (61 : UInt8) ∈ s
   · rw [if_pos hm, decide_eq_true hm]
   · rw [if_neg hm, decide_eq_false hm, (qrm hm).1, (qrm hm).2]; rfl
 rw [e]
 refine ⟨s.takeWhile (· != 61), (s.dropWhile (· != 61)).drop 1, _, rfl, ?_⟩
 have h1 := jz (· != (61 : UInt8)) s
 have h2 := (List.dropWhile_sublist (· != (61 : UInt8)) (l := s)).length_le
 refine callK (qdG _ (by omega) _) ?_
 rintro _ w2 ⟨rfl, hb2⟩
 refine ⟨_, rfl, ?_⟩
 refine callK (qdG _ (by rw [List.length_drop]; omega) w2) ?_
 rintro _ w3 ⟨rfl, hb3⟩
 have hb0 : Below w.heap.size w (w.drewN n) := qcT rfl rfl rfl (Nat.le_refl _) (fun _ _ => rfl)
 have hb02 := qb hb0 hb2 hb0.size
 exact ⟨_, rfl, rfl, qb hb02 hb3 hb02.size⟩
theorem qjZ (s : List UInt8) (hs : s.length <= 9223372036854775807) (w : World) : Calls prog qdv #[.string (mkS s)] w (Ret fun v w' => v = .bool (s.any qcM) /\ Below w.heap.size w w') := by
 apply qjw
 unfold qff
 obtain ⟨w2, a, n, c, hr, ho, hb2, hf⟩ := qgX un_string zQ un_uint8 w s hs NoB
 have hnn := ho.len
 subst hnn
 refine ⟨w2, a, _, c, hr, ?_⟩
 refine ⟨fun m i w' => ∃ k : Nat, k <= s.length /\ i = (k : Int) /\ m = s.length - k /\ (s.take k).any qcM = false /\ w' = w2, ⟨_, 0, by omega, rfl, rfl, rfl, rfl⟩, ?_⟩
 intro m i
 refine AllJ.of ?_ _
 rintro w' ⟨k, hk, rfl, rfl, hno, rfl⟩
 refine BCase.of (fun h => ?_) (fun h => ?_) <;> simp only [dTx, dFx] at h
 · have hlt : k < s.length := by omega
   obtain ⟨v, hv, hrep⟩ := ho.all.load1 (i := (k : Int)) un_uint8 rfl rfl (by simpa using hlt)
   have := qnk hrep
   subst this
   simp only [Int.toNat_natCast] at hv
   have bad : qcM s[k] = true -> (.bool true : Value) = .bool (s.any qcM) /\ Below w.heap.size w w' := fun hc => ⟨by
     congr 1; symm
     exact List.any_eq_true.2 ⟨_, List.getElem_mem hlt, hc⟩, hb2⟩
   have good : qcM s[k] = false -> ∃ m' : Nat, m' < s.length - k /\ ∃ k2 : Nat, k2 <= s.length /\ i64.wrap ((k : Int) + 1) = (k2 : Int) /\ m' = s.length - k2 /\ (s.take k2).any qcM = false /\ w' = w' := fun hc =>
     ⟨s.length - (k + 1), by omega, k + 1, by omega, by rw [wrap_i64 (by omega) (by omega)]; omega, rfl, by rw [List.take_succ_eq_append_getElem hlt, List.any_append, hno]; simp [hc], rfl⟩
   have e9 := qau s[k] 9
   have e127 := qau s[k] 127
   refine ⟨⟨⟨by omega, h⟩, ho.all.isSome hlt⟩, _, hv, ?_⟩
   refine BCase.of (fun h2 => ?_) (fun h2 => ?_)
   · simp only [dTx] at h2
     refine BCase.of (fun h3 => ?_) (fun h3 => ?_)
     · refine bad ?_
       have h9 : (s[k] == 9) = false := by rw [<- e9]; simpa using h3
       unfold qcM
       rw [h9, decide_eq_true (show s[k].toNat < 32 by omega)]; rfl
     · have h9 : (s[k] == 9) = true := by rw [<- e9]; simpa using h3
       refine BCase.of (fun h4 => ?_) (fun h4 => ?_)
       · refine bad ?_
         unfold qcM
         rw [<- e127, show ((((s[k].toNat : Nat) : Int)) == ((UInt8.toNat 127 : Nat) : Int)) = true from h4, Bool.or_true]
       · refine good ?_
         unfold qcM
         rw [<- e127, show ((((s[k].toNat : Nat) : Int)) == ((UInt8.toNat 127 : Nat) : Int)) = false from h4, h9]
         simp
   · simp only [dFx] at h2
     refine BCase.of (fun h4 => ?_) (fun h4 => ?_)
     · refine bad ?_
       unfold qcM
       rw [<- e127, show ((((s[k].toNat : Nat) : Int)) == ((UInt8.toNat 127 : Nat) : Int)) = true from h4, Bool.or_true]
     · refine good ?_
       unfold qcM
       rw [<- e127, show ((((s[k].toNat : Nat) : Int)) == ((UInt8.toNat 127 : Nat) : Int)) = false from h4, decide_eq_false (show ¬ s[k].toNat < 32 by omega)]
       rfl
 · have : k = s.length := by omega
   subst this
   rw [List.take_length] at hno
   exact ⟨by rw [hno], hb2⟩
end Go.Proofs.YtndbpedpdbjkpaaGreatDoor
namespace Go.Pk
open Go.RowKit (Below)
def ageV (s : List UInt8) : Option Int := if s.head? = some 45 then (if zy (s.drop 1) then some 0 else none) else if zy s then some (min (decV s) 34560000) else none
theorem qfq (s : List UInt8) (c : UInt8) : Lib.hasPrefix s [c] = decide (s.head? = some c) /\ Lib.trimPrefix s [c] = if s.head? = some c then s.drop 1 else s := by
 cases s with
 | nil => exact ⟨by simp [Lib.hasPrefix], rfl⟩
 | cons x s =>
   by_cases h : x = c
   · subst h
     have ht : Lib.hasPrefix (x :: s) [x] = true := by simp [Lib.hasPrefix, List.isPrefixOf]
     refine ⟨by rw [ht]; simp, ?_⟩
     unfold Lib.trimPrefix; rw [ht]; simp
   · have hf : Lib.hasPrefix (x :: s) [c] = false := by simp [Lib.hasPrefix, List.isPrefixOf, Ne.symm h]
     refine ⟨by rw [hf]; simp [h], ?_⟩
     unfold Lib.trimPrefix; rw [hf]; simp [h]
theorem qtI (p : UInt8 -> Bool) : ∀ s : List UInt8, s.dropWhile p = [] ↔ s.all p = true
 | [] => by simp
 | x :: s => by
   rw [List.dropWhile_cons, List.all_cons]
   cases h : p x with
   | true => rw [if_pos rfl, Bool.true_and]; exact qtI p s
   | false => simp
theorem qpb : ∀ (l : List UInt8) (acc : Int), l.foldl (fun n c => n * 10 + ((c.toNat : Int) - 48)) acc = (l.dropWhile (· == 48)).foldl (fun n c => n * 10 + ((c.toNat : Int) - 48)) acc \/ acc ≠ 0
 | [], acc => .inl rfl
 | c :: l, acc => by
   by_cases ha : acc = 0
   · subst ha
     left
     rw [List.dropWhile_cons]
     split
     · rename_i h
       have : c = 48 := by simpa using h
       subst this
       rw [List.foldl_cons]
       have e : (0 : Int) * 10 + (((48 : UInt8).toNat : Int) - 48) = 0 := by decide
       rw [e]
       rcases qpb l 0 with h | h
       · exact h
       · exact absurd rfl h
     · rfl
   · exact .inr ha
theorem qrh (l : List UInt8) : decV l = decV (l.dropWhile (· == 48)) := by
 rcases qpb l 0 with h | h
 · exact h
 · exact absurd rfl h
theorem qst : ∀ (l : List UInt8) (acc : Int), 0 <= acc -> (∀ c ∈ l, j9 c = true) -> acc * 10 ^ l.length <= l.foldl (fun n c => n * 10 + ((c.toNat : Int) - 48)) acc
 | [], acc, h, _ => by simp
 | c :: l, acc, h, hd => by
   have hc := qcf.1 (hd c List.mem_cons_self)
   have h1 := qst l (acc * 10 + ((c.toNat : Int) - 48)) (by omega) fun x hx => hd x (List.mem_cons_of_mem _ hx)
   rw [List.foldl_cons]
   refine Int.le_trans ?_ h1
   rw [List.length_cons, Int.pow_succ, Int.mul_comm (10 ^ l.length) 10, <- Int.mul_assoc]
   exact Int.mul_le_mul_of_nonneg_right (by omega) (Int.pow_nonneg (by decide))
theorem qsL {l : List UInt8} (hd : ∀ c ∈ l, j9 c = true) (h0 : l.head? ≠ some 48) (hl : 19 <= l.length) : 34560000 < decV l := by
 match l, hl with
 | c :: r, hl =>
   have hc := qcf.1 (hd c List.mem_cons_self)
   have hne : c.toNat ≠ 48 := fun e => h0 (by have : c = 48 := UInt8.toNat_inj.1 e; rw [this]; rfl)
   have h1 := qst r (0 * 10 + ((c.toNat : Int) - 48)) (by omega) fun x hx => hd x (List.mem_cons_of_mem _ hx)
   have h2 : decV (c :: r) = r.foldl (fun n c => n * 10 + ((c.toNat : Int) - 48)) (0 * 10 + ((c.toNat : Int) - 48)) := rfl
   rw [h2]
   have h3 : (10 : Int) ^ 18 <= 10 ^ r.length := qkJ (by simp at hl; omega)
   have e18 : (10 : Int) ^ 18 = 1000000000000000000 := by decide
   have h4 : (1 : Int) * 10 ^ r.length <= (0 * 10 + ((c.toNat : Int) - 48)) * 10 ^ r.length := Int.mul_le_mul_of_nonneg_right (by omega) (Int.pow_nonneg (by decide))
   omega
structure Hdr where
 name : List UInt8
 value : List UInt8
 domain : List UInt8
 path : List UInt8
 hasE : Bool
 exp : Int
 hasA : Bool
 age : Int
 sec : Bool
 http : Bool
 same : Int
def Hdr.cells (h : Hdr) : List Value := [.string (mkS h.name), .string (mkS h.value), .string (mkS h.domain), .string (mkS h.path), .bool h.hasE, .int .i64 h.exp, .bool h.hasA, .int .i64 h.age, .bool h.sec, .bool h.http, .int .i64 h.same]
def Hdr.v (h : Hdr) : Value := .agg h.cells.toArray
def hdr0 : Hdr := ⟨[], [], [], [], false, 0, false, 0, false, false, 0⟩
def qoh (v : List UInt8) : Int := if lowL v = [110, 111, 110, 101] then 1 else if lowL v = [108, 97, 120] then 2 else if lowL v = [115, 116, 114, 105, 99, 116] then 3 else 0
def qdZ (h : Hdr) (key value : List UInt8) : Hdr :=
 if key = [101, 120, 112, 105, 114, 101, 115] then (if qhi (qdo value) then { h with hasE := true, exp := qcb (qdo value) } else h)
 else if key = [109, 97, 120, 45, 97, 103, 101] then (match ageV value with | some n => { h with hasA := true, age := n } | none => h)
 else if key = [100, 111, 109, 97, 105, 110] then { h with domain := lowL (if value.head? = some 46 then value.drop 1 else value) }
 else if key = [112, 97, 116, 104] then { h with path := if value.head? = some 47 then value else [] }
 else if key = [115, 101, 99, 117, 114, 101] then { h with sec := true }
 else if key = [104, 116, 116, 112, 111, 110, 108, 121] then { h with http := true }
 else if key = [115, 97, 109, 101, 115, 105, 116, 101] then { h with same := qoh value }
 else h
theorem qm.put {P : Program} {u : TypeId} {bytes : Nat} {z : Value} (tf : TF P u 1 bytes z) {w : World} {k : Nat} {t : TypeId} {vs : List Value} (h : qm w k t vs) {i : Nat} {v : Value} (hi : i < vs.length) (h1 : v.oneCell' = true) (hc : v.cells = #[v]) :
   ∃ w', (Instr.storeAt u (.pointer (some ⟨k, i, none⟩)) v).run P w = .ok () w' /\ qm w' k t (vs.set i v) /\ w.grownBy w' (some k) := by
 obtain ⟨w', hs, ha, hg⟩ := h.store tf (i := i) (v := v) (by rw [hc]; rfl) (by omega) (by rw [hc]; intro c hcc; simp at hcc; subst hcc; exact h1)
 refine ⟨w', hs, ?_, hg⟩
 rw [hc] at ha
 have : vs.set i v = vs.take i ++ [v] ++ vs.drop (i + 1) := by
   rw [List.set_eq_take_append_cons_drop, if_pos hi]; simp
 rw [this]; exact ha
end Go.Pk
namespace Go.Proofs.YtndbpedpdbjkpaaGreatDoor
open Go.Pk
open Go.RowKit (Below)
theorem qoL (s : List UInt8) (c : UInt8) (w : World) : Calls prog jj #[.string (mkS s), .string (mkS [c])] w (Ret fun v w' => v = .tuple #[.string (mkS (if s.head? = some c then s.drop 1 else s)), .bool (decide (s.head? = some c))] /\ w' = w) := by
 refine (Tryz.strings_CutPrefix (mkS s) (mkS [c]) w).mono ?_
 rintro _ _ ⟨rfl, rfl⟩
 refine ⟨_, rfl, ?_, rfl⟩
 have h := qfq s c
 have e : (mkS s).data.toList = s := rfl
 have e2 : (mkS [c]).data.toList = [c] := rfl
 rw [e, e2, h.1]
 by_cases hc : s.head? = some c
 · rw [if_pos hc]
   have h2 := h.2
   rw [if_pos hc] at h2
   rw [h2]; rfl
 · rw [if_neg hc]
   have h2 := h.2
   rw [if_neg hc] at h2
   rw [h2]; rfl
def ageT (s : List UInt8) : Value := match ageV s with | some n => .tuple #[.int .i64 n, .bool true] | none => .tuple #[.int .i64 0, .bool false]
theorem qot (s : List UInt8) (hs : s.length <= 10000000) (w : World) : Calls prog qgh #[.string (mkS s)] w (Ret fun v w' => v = ageT s /\ Below w.heap.size w w') := by
 apply qmN
 unfold qiQ
 refine callK (qoL s 45 w) ?_
 rintro _ w ⟨rfl, rfl⟩
 refine ⟨_, _, rfl, ?_⟩
 have hl : (if s.head? = some 45 then s.drop 1 else s).length <= s.length := by split <;> simp
 refine callK (qeb _ (by omega) w) ?_
 rintro _ w1 ⟨rfl, hb1⟩
 refine ⟨_, rfl, ?_⟩
 by_cases h45 : s.head? = some 45
 · rw [if_pos h45, decide_eq_true h45]
   unfold ageT ageV
   rw [if_pos h45]
   cases hd : zy (s.drop 1)
   · exact BCase.yes rfl ⟨rfl, hb1⟩
   · exact BCase.no rfl (BCase.yes rfl ⟨rfl, hb1⟩)
 · rw [if_neg h45, decide_eq_false h45]
   unfold ageT ageV
   rw [if_neg h45]
   cases hd : zy s
   · exact BCase.yes rfl ⟨rfl, hb1⟩
   · refine BCase.no rfl (BCase.no rfl ?_)
     refine (Tryz.strings_TrimLeft_one (mkS s) 48 (by decide) w1).mono ?_
     rintro _ _ ⟨rfl, rfl⟩
     have e : Lib.trimLeftB (mkS s).data.toList 48 = s.dropWhile (· == 48) := rfl
     rw [e]
     refine ⟨s.dropWhile (· == 48), rfl, ?_⟩
     have hall : ∀ c ∈ s, j9 c = true := fun c hc => by
       unfold zy at hd
       rw [Bool.and_eq_true] at hd
       exact List.all_eq_true.1 hd.2 c hc
     have hsub := List.dropWhile_sublist (fun c : UInt8 => c == 48) (l := s)
     have hall2 : ∀ c ∈ s.dropWhile (· == 48), j9 c = true := fun c hc => hall c (hsub.subset hc)
     have hhead : (s.dropWhile (· == 48)).head? ≠ some 48 := fun e => by
       have := List.head?_dropWhile_not (fun c : UInt8 => c == 48) s
       rw [e] at this
       simp at this
     have hlen := hsub.length_le
     have hz := qrh s
     refine callK (qf9 _ (by omega) _) ?_
     rintro _ w3 ⟨rfl, hb3⟩
     have hb13 := qb hb1 hb3 hb1.size
     rw [hz]
     have htrim : (s.dropWhile (· == 48) = []) ↔ s.all (· == 48) = true := by
       exact qtI _ s
     generalize s.dropWhile (· == 48) = t at *
     have hbd := qb1 t 0 (by decide) hall2
     have hge : 0 <= decV t := hbd.1
     by_cases hn : numP t
     · rw [if_pos hn]
       refine ⟨_, _, rfl, BCase.no rfl ?_⟩
       refine BCase.of (fun h => ?_) (fun h => ?_) <;> simp only [gt_iff_lt, dTx, dFx] at h
       · exact ⟨by rw [if_pos rfl]; simp only []; rw [Int.min_eq_right (by omega)], hb13⟩
       · exact ⟨by rw [if_pos rfl]; simp only []; rw [Int.min_eq_left (by omega)], hb13⟩
     · rw [if_neg hn]
       refine ⟨_, _, rfl, BCase.yes rfl ?_⟩
       refine (Tryz.strings_Trim_one (mkS s) 48 (by decide) w3 (by show s.length <= _; omega)).mono ?_
       rintro _ w4 ⟨rfl, hw4⟩
       have hb4 : Below w3.heap.size w3 w4 := by
         rcases hw4 with rfl | rfl
         · exact Below.refl _ _
         · exact zV _
       have hb14 := qb hb13 hb4 hb13.size
       have e2 : Lib.trimB (mkS s).data.toList 48 = stripB (· == 48) s := qg7 _ s
       rw [e2]
       refine ⟨stripB (· == 48) s, rfl, ?_⟩
       by_cases ht : t = []
       · have hst : stripB (· == 48) s = [] := (qde _ s).2 (htrim.1 ht)
         rw [hst]
         refine BCase.no rfl (BCase.no rfl ⟨?_, hb14⟩)
         rw [ht, if_pos rfl]; rfl
       · have hst : stripB (· == 48) s ≠ [] := fun e => ht (htrim.2 ((qde _ s).1 e))
         have hdt : zy t = true := by
           unfold zy
           rw [Bool.and_eq_true]
           exact ⟨by simpa using ht, List.all_eq_true.2 hall2⟩
         have hbig : 34560000 < decV t := qsL hall2 hhead (by
           by_cases c : t.length <= 18
           · exact absurd ⟨hdt, c, fun h => hhead h.1⟩ hn
           · omega)
         refine BCase.yes (by simpa using hst) ⟨?_, hb14⟩
         rw [if_pos rfl]; simp only []; rw [Int.min_eq_right (by omega)]
theorem qoZ (s : List UInt8) (hs : s.length <= 10000000) (w : World) : Calls prog qhZ #[.string (mkS s)] w (Ret fun v w' => v = ageT s /\ w' = w) := by
 apply qnN
 unfold qkk
 refine factJ (w := w) (¬ s.head? = some 45) ?_ ?_
 · refine qav (w := w) (decide (s.head? = some 45)) ?_ ?_
   · refine BCase.of (fun h => ?_) (fun h => ?_) <;> simp only [gt_iff_lt, dTx, dFx] at h
     · match s, h with
       | c :: r, h =>
         refine ⟨⟨by decide, h⟩, rfl, ?_⟩
         have hx : qA (c :: r) 0 = ((c.toNat : Nat) : Int) := rfl
         rw [hx]
         have e45 := qau c 45
         rw [show ((((c.toNat : Nat) : Int)) == (45 : Int)) = (c == 45) from e45]
         simp
         rw [Bool.eq_iff_iff]; simp
     · have : s = [] := List.eq_nil_of_length_eq_zero (by omega)
       subst this
       exact ⟨rfl, rfl⟩
   · refine BCase.of (fun h => ?_) (fun h => ?_) <;> simp only [dTx, dFx] at h
     · have hl : 1 <= s.length := by
         cases s with
         | nil => cases h
         | cons c r => simp
       refine ⟨⟨by decide, by omega⟩, ?_⟩
       rintro _ rfl
       have e1 : Int.toNat (1 : Int) = 1 := rfl
       rw [e1]
       refine callK (ref01_Digits_ok (s.drop 1) (by simp; omega) w) ?_
       rintro _ w ⟨rfl, rfl⟩
       refine ⟨_, rfl, ?_, rfl⟩
       unfold ageT ageV
       rw [if_pos h]
       cases zy (s.drop 1) <;> rfl
     · exact ⟨rfl, h⟩
 · intro h45
   refine callK (ref01_Digits_ok s (by omega) w) ?_
   rintro _ w ⟨rfl, rfl⟩
   refine ⟨_, rfl, ?_⟩
   unfold ageT ageV
   rw [if_neg h45]
   cases hd : zy s
   · exact BCase.yes rfl ⟨rfl, rfl⟩
   · refine BCase.no rfl ?_
     have hall : ∀ c ∈ s, j9 c = true := fun c hc => by
       unfold zy at hd
       rw [Bool.and_eq_true] at hd
       exact List.all_eq_true.1 hd.2 c hc
     refine ⟨fun m n i w' => ∃ k : Nat, k <= s.length /\ i = (k : Int) /\ m = s.length - k /\ n = min (decV (s.take k)) 34560000 /\ w' = w, ⟨_, 0, by omega, rfl, rfl, rfl, rfl⟩, ?_⟩
     intro m n i
     refine AllJ.of ?_ _
     rintro w' ⟨k, hk, rfl, rfl, rfl, rfl⟩
     refine BCase.of (fun h => ?_) (fun h => ?_) <;> simp only [dTx, dFx] at h
     · have hlt : k < s.length := by omega
       have hc := qcf.1 (hall s[k] (List.getElem_mem hlt))
       have hge := (qb1 (s.take k) 0 (by decide) fun c hc => hall c (List.mem_of_mem_take hc)).1
       have hge' : 0 <= decV (s.take k) := hge
       have hsn : decV (s.take (k + 1)) = decV (s.take k) * 10 + ((s[k].toNat : Int) - 48) := by rw [List.take_succ_eq_append_getElem hlt, qlV]
       rw [zJ hlt]
       generalize hD : decV (s.take k) = D at *
       have hm1 : min D 34560000 <= 34560000 := Int.min_le_right _ _
       have hm2 : 0 <= min D 34560000 := by rw [Int.min_def]; split <;> omega
       rw [wrap_i64 (n := min D 34560000 * 10) (by omega) (by omega), wrap_i64 (n := ((s[k].toNat : Nat) : Int)) (by omega) (by omega), wrap_i64 (n := min D 34560000 * 10 + ((s[k].toNat : Nat) : Int)) (by omega) (by omega), wrap_i64 (n := min D 34560000 * 10 + ((s[k].toNat : Nat) : Int) - 48) (by omega) (by omega), wrap_i64 (n := (k : Int) + 1) (by omega) (by omega)]
       refine ⟨⟨by omega, h⟩, ?_⟩
       refine BCase.of (fun h2 => ?_) (fun h2 => ?_) <;> simp only [gt_iff_lt, dTx, dFx] at h2
       · refine ⟨s.length - (k + 1), by omega, k + 1, by omega, by omega, rfl, ?_, rfl⟩
         rw [hsn]
         rw [Int.min_def] at h2
         rw [Int.min_def]
         split at h2 <;> split <;> omega
       · refine ⟨s.length - (k + 1), by omega, k + 1, by omega, by omega, rfl, ?_, rfl⟩
         rw [hsn]
         rw [Int.min_def] at h2
         rw [Int.min_def, Int.min_def]
         split at h2 <;> split <;> omega
     · have : k = s.length := by omega
       subst this
       rw [List.take_length]
       exact ⟨rfl, rfl⟩
end Go.Proofs.YtndbpedpdbjkpaaGreatDoor
namespace Go.Pk
open Go.RowKit (Below)
structure Whl (P : Program) (t : TypeId) (n : Nat) : Prop where
 tf : ∃ bytes z, TF P t n bytes z
 ag : (P.underlying t).map aggD = some true
def One1 (cs : List Value) : Prop := ∀ c ∈ cs, c.oneCell' = true
theorem qpC {a b : List Value} (h : One1 a) (k : One1 b) : One1 (a ++ b) := fun c hc => (List.mem_append.1 hc).elim (h c) (k c)
theorem jf {x : Value} {b : List Value} (h : x.oneCell' = true) (k : One1 b) : One1 (x :: b) := fun c hc => (List.mem_cons.1 hc).elim (fun e => e ▸ h) (k c)
theorem qjT : One1 [] := fun _ h => by cases h
theorem quL (a : List UInt8) : One1 (a.map fun c => Value.int .u8 ((c.toNat : Nat) : Int)) := fun c hc => by
 obtain ⟨x, _, rfl⟩ := List.mem_map.1 hc; rfl
theorem Whl.store {P : Program} {t : TypeId} {n : Nat} (h : Whl P t n) {cs : List Value} (hl : cs.length = n) (h1 : One1 cs) {w : World} {k : Nat} {T : TypeId} {vs : List Value} (ha : qm w k T vs) {i : Nat} (hfit : i + n <= vs.length) :
   ∃ wx, (Instr.storeAt t (.pointer (some ⟨k, i, none⟩)) (.agg cs.toArray)).run P w = .ok () wx /\ qm wx k T (vs.take i ++ cs ++ vs.drop (i + n)) /\ w.grownBy wx (some k) := by
 obtain ⟨bytes, z, tf⟩ := h.tf
 exact ha.store tf (i := i) (v := .agg cs.toArray) (by simpa [Value.cells] using hl) hfit (fun c hc => h1 c (by simpa [Value.cells] using hc))
theorem Whl.store0 {P : Program} {t : TypeId} {n : Nat} (h : Whl P t n) {cs : List Value} (hl : cs.length = n) (h1 : One1 cs) {w : World} {k : Nat} {T : TypeId} {vs : List Value} (ha : qm w k T vs) (hv : vs.length = n) :
   ∃ wx, (Instr.storeAt t (.pointer (some ⟨k, 0, none⟩)) (.agg cs.toArray)).run P w = .ok () wx /\ qm wx k T cs /\ w.grownBy wx (some k) := by
 obtain ⟨wx, hs, h2, hg⟩ := h.store hl h1 ha (i := 0) (by omega)
 refine ⟨wx, hs, ?_, hg⟩
 rw [List.take_zero, List.nil_append, List.drop_eq_nil_of_le (by omega), List.append_nil] at h2
 exact h2
theorem Whl.load {P : Program} {t : TypeId} {n : Nat} (h : Whl P t n) {w : World} {k : Nat} {T : TypeId} {vs us : List Value} (ha : qm w k T vs) {i : Nat} (hl : us.length = n) (hv : ∀ j, j < n -> vs[i + j]? = us[j]?) :
   (Instr.loadAt t (.pointer (some ⟨k, i, none⟩))).run P w = .ok (.agg us.toArray) w := by
 obtain ⟨bytes, z, tf⟩ := h.tf
 obtain ⟨ti, hti, hsz, _, _⟩ := tf.info
 have hag := h.ag
 cases hu : P.underlying t with
 | none => rw [hu] at hag; cases hag
 | some d =>
   rw [hu] at hag
   simp only [Option.map_some, Option.some.injEq] at hag
   exact ha.loadA hu hag hti (us := us) (i := i) (by rw [hsz]; exact hl) (fun j hj => hv j (by omega))
theorem Whl.load0 {P : Program} {t : TypeId} {n : Nat} (h : Whl P t n) {w : World} {k : Nat} {T : TypeId} {cs : List Value} (ha : qm w k T cs) (hl : cs.length = n) :
   (Instr.loadAt t (.pointer (some ⟨k, 0, none⟩))).run P w = .ok (.agg cs.toArray) w := h.load ha hl fun j _ => by rw [Nat.zero_add]
theorem Whl.new {P : Program} {t : TypeId} {n : Nat} (h : Whl P t n) {zs cs : List Value} (hz : zs.length = n) (hl : cs.length = n) (h1 : One1 cs) (w : World) {R : Nat -> World -> Prop}
   (H : ∀ k wx, k = w.heap.size -> qm wx k t cs -> Below w.heap.size w wx -> R k wx) :
   ∀ (k : Nat) (w1 : World), k = w.heap.size -> w1 = w.alloc (.cells zs.toArray t) -> ∃ (wx : World), (Instr.storeAt t (.pointer (some ⟨k, 0, none⟩)) (.agg cs.toArray)).run P w1 = .ok () wx /\ R k wx := by
 intro k w1 hk hw
 have hB := (hw ▸ qf w _ : Below w.heap.size w w1)
 obtain ⟨wx, hs, h3, hg⟩ := h.store0 hl h1 (qm.new hk hw : qm w1 k t zs) hz
 exact ⟨wx, hs, H k wx hk h3 (hB.grown hg hB.size fun x e => by cases e; omega)⟩
theorem Whl.fin {P : Program} {t : TypeId} {n : Nat} (h : Whl P t n) {cs : List Value} (hl : cs.length = n) (h1 : One1 cs) {w w' : World} {k2 : Nat} {vs : List Value} (h2 : qm w' k2 t vs) (hv : vs.length = n) (hb : Below w.heap.size w w') (hk : w.heap.size <= k2)
   {K : Value -> World -> Prop} (hK : ∀ wx, Below w.heap.size w wx -> K (.agg cs.toArray) wx) :
   ∃ (wx : World), (Instr.storeAt t (.pointer (some ⟨k2, 0, none⟩)) (.agg cs.toArray)).run P w' = .ok () wx /\ ∃ vr : Value, (qC t (.pointer (some ⟨k2, 0, none⟩))).run P wx = .ok vr wx /\ K vr wx := by
 obtain ⟨wx, hs, h3, hg⟩ := h.store0 hl h1 h2 hv
 exact ⟨wx, hs, _, qm.res (h.load0 h3 hl), hK wx (hb.grown hg hb.size fun x e => by cases e; exact hk)⟩
theorem Below.put {w0 w w' : World} {k : Nat} (h : Below w0.heap.size w0 w) (hg : w.grownBy w' (some k)) (hk : w0.heap.size <= k) : Below w0.heap.size w0 w' := h.grown hg h.size fun x e => by cases e; exact hk
theorem qP {x y : Nat} (h : x ≠ y) : some x ≠ some y := fun e => h (Option.some.inj e)
theorem z8 (k o i : Nat) : qn (some ⟨k, o, none⟩) (i : Int) 1 = some ⟨k, o + i, none⟩ := by
 unfold qn
 simp only [Option.map_some, Int.toNat_natCast, Nat.mul_one, Option.some.injEq]
 unfold Addr.add; split <;> simp_all
theorem Ow.put {α : Type} {T : Ty α} {t : TypeId} {w w' : World} {a : Option Addr} {n c k : Nat} {xs : List α} (h : Ow T t w NoB a n c xs) (hog : ∀ g, ownB a = some g -> g ≠ k) (hg : w.grownBy w' (some k)) : Ow T t w' NoB a n c xs :=
 h.keep (qby hg fun b hb e => by
   rcases hb with hb | hb
   · exact hb
   · exact hog b hb.symm (Option.some.inj e))
theorem Sl.text {P : Program} {u : TypeId} (hu : P.underlying u = some .string) {w : World} {A : Bl} {a : Option Addr} {n c : Nat} {xs : List (List UInt8)} (h : Sl tS w A a n c xs) {i : Nat} (hi : i < xs.length) : (Instr.loadAt u (.pointer (qn a (i : Int) 1))).run P w = .ok (.string (mkS xs[i])) w := by
 obtain ⟨v, hv, hrep⟩ := h.load1 (i := (i : Int)) hu rfl rfl (by simpa using hi)
 obtain ⟨rfl, -⟩ := qfw hrep
 simpa using hv
end Go.Pk
namespace Go.Pk
def adC (a : List UInt8) : List Value := a.map fun c => Value.int .u8 ((c.toNat : Nat) : Int)
def adV (a : List UInt8) : Value := .agg (adC a).toArray
def ad0 : List UInt8 := List.replicate 16 0
theorem zF (a : List UInt8) : (adC a).length = a.length := by simp [adC]
theorem qaZ (a : List UInt8) : One1 (adC a) := quL a
theorem qig (a : List UInt8) (i : Nat) (c : UInt8) : (adC a).set i (.int .u8 ((c.toNat : Nat) : Int)) = adC (a.set i c) := by unfold adC; rw [List.map_set]
theorem qcO {a : List UInt8} {i : Nat} (h : i < a.length) : (adC a)[i]? = some (.int .u8 ((a[i].toNat : Nat) : Int)) := by unfold adC; rw [List.getElem?_map, List.getElem?_eq_getElem h]; rfl
def adT : Option (List UInt8) -> Value
 | some a => .tuple #[adV a, .bool true]
 | none => .tuple #[adV ad0, .bool false]
def ipOk (x : List UInt8) : Prop := numP x /\ decV x <= 255
instance (x : List UInt8) : Decidable (ipOk x) := by unfold ipOk; infer_instance
def ipB (x : List UInt8) : UInt8 := UInt8.ofNat (decV x).toNat
def v4V (s : List UInt8) : Option (List UInt8) := if (cutC 46 [] s).length = 4 /\ ∀ x ∈ cutC 46 [] s, ipOk x then some (List.replicate 12 0 ++ (cutC 46 [] s).map ipB) else none
theorem qty {x : List UInt8} (h : ipOk x) : IntKind.u8.wrap (decV x) = (((ipB x).toNat : Nat) : Int) := by
 have hd : 0 <= decV x := by
   have := h.1.1
   unfold zy at this
   rw [Bool.and_eq_true] at this
   exact (qb1 x 0 (by decide) (fun c hc => List.all_eq_true.1 this.2 c hc)).1
 have h2 := h.2
 rw [qcc hd h2]
 unfold ipB
 rw [UInt8.toNat_ofNat']
 omega
def v4S (L : List (List UInt8)) (k : Nat) : List UInt8 := List.replicate 12 0 ++ (L.take k).map ipB ++ List.replicate (4 - k) 0
theorem qoE {L : List (List UInt8)} (h : L.length = 4) {k : Nat} (hk : k <= 4) : (v4S L k).length = 16 := by simp [v4S]; omega
theorem qrV {L : List (List UInt8)} (h : L.length = 4) {k : Nat} (hk : k < 4) : (v4S L k).set (12 + k) (ipB (L[k]'(by omega))) = v4S L (k + 1) := by
 unfold v4S
 have hl : (List.replicate 12 (0 : UInt8) ++ (L.take k).map ipB).length = 12 + k := by simp; omega
 rw [List.set_append_right _ _ (by omega), hl, Nat.sub_self, List.take_succ_eq_append_getElem (by omega), List.map_append]
 rw [show 4 - k = (4 - (k + 1)) + 1 by omega, List.replicate_succ (n := 4 - (k + 1)), List.set_cons_zero]
 simp
theorem quE {L : List (List UInt8)} (h : L.length = 4) : v4S L 4 = List.replicate 12 0 ++ L.map ipB := by unfold v4S; rw [List.take_of_length_le (by omega)]; simp
theorem qtF {s : List UInt8} (h : ¬ ((cutC 46 [] s).length = 4 /\ ∀ x ∈ cutC 46 [] s, ipOk x)) : v4V s = none := if_neg h
end Go.Pk
namespace Go.Proofs.YtndbpedpdbjkpaaGreatDoor
open Go.Pk
open Go.RowKit (Below)
theorem qR : Whl prog qk 16 := ⟨⟨_, _, qpQ⟩, by kernel_rfl⟩
theorem qgK (s : List UInt8) (hs : s.length <= 9223372036854775000) (w : World) :
   Calls prog qdd #[.string (mkS s)] w (Ret fun v w' => v = (if numP s then .tuple #[.int .i64 (decV s), .bool true] else .tuple #[.int .i64 0, .bool false]) /\ w' = w) := by
 apply qkB
 unfold qf4
 refine worldJ (fun w' => numP s /\ w' = w) ?_ ?_
 · refine callK (ref01_Digits_ok s (by omega) w) ?_
   rintro _ w' ⟨rfl, hw⟩
   rw [hw]
   refine ⟨_, rfl, ?_⟩
   have bad : ¬ numP s -> (.tuple #[.int .i64 (0 : Int), .bool false] : Value) = (if numP s then .tuple #[.int .i64 (decV s), .bool true] else .tuple #[.int .i64 0, .bool false]) /\ w = w := fun hn => ⟨by rw [if_neg hn], rfl⟩
   refine BCase.of (fun h => bad fun hn => by rw [hn.1] at h; cases h) (fun h => ?_)
   have hd : zy s = true := by simpa using h
   refine BCase.of (fun h2 => bad fun hn => by have := hn.2.1; simp at h2; omega) (fun h2 => ?_)
   have hl : s.length <= 18 := by simp at h2; omega
   refine BCase.of (fun h3 => ?_) (fun h3 => ?_) <;> simp only [dTx, dFx] at h3
   · have hl1 : 1 < s.length := by omega
     refine ⟨⟨by decide, by omega⟩, ?_⟩
     have hb := zJ (s := s) (k := 0) (by omega)
     rw [show ((0 : Nat) : Int) = 0 from rfl] at hb
     have hu := qau s[0] 48
     rw [show (((48 : UInt8).toNat : Nat) : Int) = 48 from rfl] at hu
     rw [hb, hu]
     have hhd : s.head? = some s[0] := by rw [List.head?_eq_getElem?, List.getElem?_eq_getElem]
     refine BCase.of (fun h4 => bad fun hn => hn.2.2 ⟨?_, hl1⟩) (fun h4 => ⟨⟨hd, hl, fun hn => ?_⟩, rfl⟩)
     · rw [beq_iff_eq] at h4; rw [hhd, h4]
     · rw [hhd] at hn
       rw [Option.some.inj hn.1] at h4; simp at h4
   · exact ⟨⟨hd, hl, fun hn => h3 (by omega)⟩, rfl⟩
 · rintro w' ⟨hn, hw⟩
   rw [hw]
   have hdg : ∀ c ∈ s, j9 c = true := by
     have := hn.1
     unfold zy at this
     rw [Bool.and_eq_true] at this
     exact fun c hc => List.all_eq_true.1 this.2 c hc
   have hl := hn.2.1
   refine ⟨fun m v i w' => ∃ k : Nat, k <= s.length /\ i = (k : Int) /\ m = s.length - k /\ v = decV (s.take k) /\ w' = w, ⟨_, 0, by omega, rfl, rfl, rfl, rfl⟩, ?_⟩
   intro m v i
   refine AllJ.of ?_ _
   rintro w' ⟨k, hk, rfl, rfl, rfl, hw'⟩
   rw [hw']
   refine BCase.of (fun h => ?_) (fun h => ?_) <;> simp only [dTx, dFx] at h
   · have hlt : k < s.length := by omega
     rw [zJ hlt]
     have hc := hdg s[k] (List.getElem_mem hlt)
     have hu := qbc s[k]
     have hb := qb1 (s.take k) 0 (by decide) (fun c hc => hdg c (List.mem_of_mem_take hc))
     have hpow : (10 : Int) ^ (s.take k).length <= 10 ^ 17 := by
       have : (s.take k).length <= 17 := by rw [List.length_take]; omega
       exact_mod_cast Nat.pow_le_pow_right (by decide : 0 < 10) this
     have hb2 : 0 <= decV (s.take k) /\ decV (s.take k) < 10 ^ 17 := ⟨hb.1, by
       have h2 := hb.2
       have : decV (s.take k) < (0 + 1) * 10 ^ (s.take k).length := h2
       omega⟩
     refine ⟨⟨by omega, h⟩, s.length - (k + 1), by omega, k + 1, by omega, by rw [wrap_i64 (by omega) (by omega)]; omega, rfl, ?_, rfl⟩
     rw [wrap_i64 (n := decV (s.take k) * 10) (by omega) (by omega), wrap_i64 (n := ((s[k].toNat : Nat) : Int)) (by omega) (by omega), wrap_i64 (n := _ + _) (by omega) (by omega), wrap_i64 (by omega) (by omega), List.take_succ_eq_append_getElem hlt]
     unfold decV
     rw [List.foldl_append]
     show _ = _ * 10 + (((s[k].toNat : Nat) : Int) - 48)
     omega
   · have : k = s.length := by omega
     subst this
     rw [List.take_length, if_pos hn]; exact ⟨rfl, rfl⟩
theorem qrg (s : List UInt8) (hs : s.length < 4294967281) (w : World) (he : Env w) : Calls prog qkW #[.string (mkS s)] w (Ret fun v w' => v = adT (v4V s) /\ Below w.heap.size w w') := by
 apply qpL
 unfold qm8
 intro k2 w2 hk2 hw2
 have hB2 := (hw2 ▸ qf w _ : Below w.heap.size w w2)
 have h2 : qm w2 k2 qk (adC ad0) := qm.new hk2 hw2
 refine callK (qbx s 46 hs w2 (he.step hB2)) ?_
 rintro _ w3 ⟨a, n, c, rfl, ho, hf, hb3⟩
 have hB3 := qb hB2 hb3 hB2.size
 have h23 := h2.below hb3
 have hn := ho.len
 have hlens : ∀ x ∈ cutC 46 [] s, x.length <= s.length := fun x hx => by simpa using qdf 46 s [] x hx
 have none_end : ∀ {wx : World}, v4V s = none -> qm wx k2 qk (adC ad0) -> Below w.heap.size w wx -> _ := fun {wx} hv h2x hBx => qR.fin (K := fun vr wy => (.tuple #[vr, .bool false] : Value) = adT (v4V s) /\ Below w.heap.size w wy) (cs := adC ad0) rfl (qaZ _) h2x rfl hBx (by omega) fun wy hb => ⟨by rw [hv]; rfl, hb⟩
 refine ⟨_, _, _, rfl, BCase.of (fun h4 => ?_) (fun h4 => ?_)⟩
 · refine none_end (qtF fun hc => ?_) h23 hB3
   rw [bne_iff_ne] at h4; omega
 have hl4 : (cutC 46 [] s).length = 4 := by simp at h4; omega
 intro k5 w5 hk5 hw5
 have hb5 := (hw5 ▸ qf w3 _ : Below w3.heap.size w3 w5)
 have hB5 := qb hB3 hb5 hB3.size
 have h25 := h23.below hb5
 have h55 : qm w5 k5 qk (adC ad0) := qm.new hk5 hw5
 have ho5 := ho.below hb5
 have hlt2 := h23.lt
 have hog : ∀ g, ownB a = some g -> g ≠ k5 := fun g hg e => by have := ho.lt g hg; omega
 have hk5w : w.heap.size <= k5 := by have := hB3.size; omega
 obtain ⟨L, hL⟩ : ∃ L, L = cutC 46 [] s := ⟨_, rfl⟩
 rw [<- hL] at ho5 hl4 hlens hn
 have hv4 : v4V s = if L.length = 4 /\ ∀ x ∈ L, ipOk x then some (List.replicate 12 0 ++ L.map ipB) else none := by rw [hL]; rfl
 refine ⟨fun m i w' => ∃ k : Nat, k <= 4 /\ i = (k : Int) /\ m = 4 - k /\ (∀ j (hj : j < k) (h : j < L.length), ipOk L[j]) /\ qm w' k5 qk (adC (v4S L k)) /\ qm w' k2 qk (adC ad0) /\ Ow tS qe w' NoB a n c L /\ Below w.heap.size w w',
   ⟨_, 0, by omega, rfl, rfl, fun j hj => by omega, h55, h25, ho5, hB5⟩, ?_⟩
 intro m i
 refine AllJ.of ?_ _
 rintro w6 ⟨k, hk, rfl, rfl, hok, h56, h26, ho6, hB6⟩
 refine BCase.of (fun h => ?_) (fun h => ?_) <;> simp only [dTx, dFx] at h
 · have hk4 : k < 4 := by omega
   have hkL : k < L.length := by omega
   refine ⟨⟨⟨by omega, h⟩, ho6.all.isSome (by omega)⟩, _, ho6.all.text un_string hkL, ?_⟩
   have hlk := hlens L[k] (List.getElem_mem hkL)
   refine callK (qf9 L[k] (by omega) w6) ?_
   rintro _ w7 ⟨rfl, hb7⟩
   have hB7 := qb hB6 hb7 hB6.size
   have hnone : ¬ ipOk L[k] -> v4V s = none := fun hx => by
     rw [hv4, if_neg fun hc => hx (hc.2 _ (List.getElem_mem hkL))]
   refine ⟨if numP L[k] then decV L[k] else 0, if numP L[k] then true else false, by split <;> rfl, ?_⟩
   refine ⟨fun w' => w' = w7 /\ ipOk L[k], ?_, ?_⟩
   · refine qav (B := fun J => BCase _ (J true w7) (J _ w7)) (!decide (ipOk L[k])) (BCase.of (fun h1 => ⟨rfl, ?_⟩) (fun h1 => ⟨rfl, ?_⟩)) ?_
     · have : ¬ numP L[k] := fun hc => by rw [if_pos hc] at h1; cases h1
       have h2 : ¬ ipOk L[k] := fun hc => this hc.1
       simp [h2]
     · have hnp : numP L[k] := Decidable.byContradiction fun hc => by rw [if_neg hc] at h1; cases h1
       rw [if_pos hnp, Bool.eq_iff_iff]
       simp [ipOk, hnp]
     · refine BCase.of (fun h1 => none_end (hnone (by simpa using h1)) (h26.below hb7) hB7) (fun h1 => ⟨rfl, by simpa using h1⟩)
   · refine AllJ.of ?_ _
     rintro wj ⟨hwj, hip⟩
     rw [hwj]; clear hwj
     have e12 : i64.wrap (12 + (k : Int)) = ((12 + k : Nat) : Int) := by rw [wrap_i64 (by omega) (by omega)]; omega
     rw [e12, z8, if_pos hip.1, qty hip, Nat.zero_add]
     refine ⟨⟨⟨by omega, by omega⟩, rfl⟩, ?_⟩
     have h57 := h56.below hb7
     obtain ⟨w8, hs8, h58, hg8⟩ := h57.put (P := prog) qeu (i := 12 + k) (v := .int .u8 (((ipB L[k]).toNat : Nat) : Int)) (by rw [zF, qoE hl4 (by omega)]; omega) rfl rfl
     rw [qig, qrV hl4 hk4] at h58
     refine ⟨w8, hs8, 4 - (k + 1), by omega, k + 1, by omega, by rw [wrap_i64 (by omega) (by omega)]; omega, rfl, ?_, h58, (h26.below hb7).grown hg8 (qP (by omega)), (ho6.below hb7).put hog hg8, Below.put hB7 hg8 hk5w⟩
     intro j hj hjl
     by_cases e : j = k
     · subst e; exact hip
     · exact hok j (by omega) hjl
 · have : k = 4 := by omega
   subst this
   have hall : ∀ x ∈ L, ipOk x := fun x hx => by
     obtain ⟨j, hj, rfl⟩ := List.mem_iff_getElem.1 hx
     exact hok j (by omega) hj
   have hv : v4V s = some (v4S L 4) := by rw [hv4, if_pos ⟨hl4, hall⟩, quE hl4]
   have hlen : (adC (v4S L 4)).length = 16 := by rw [zF, qoE hl4 (by omega)]
   refine ⟨_, qR.load0 h56 hlen, ?_⟩
   exact qR.fin (K := fun vr wy => (.tuple #[vr, .bool true] : Value) = adT (v4V s) /\ Below w.heap.size w wy) hlen (qaZ _) h26 rfl hB6 (by omega) fun wy hb => ⟨by rw [hv]; rfl, hb⟩
theorem qp7 (s : List UInt8) (hs : s.length <= 100000000) (w : World) : Calls prog qjH #[.string (mkS s)] w (Ret fun v w' => v = adT (v4V s) /\ Below w.heap.size w w') := by
 apply qpl
 unfold ql8
 intro k2 w2 hk2 hw2
 have hB2 := (hw2 ▸ qf w _ : Below w.heap.size w w2)
 have h2 : qm w2 k2 qk (adC ad0) := qm.new hk2 hw2
 intro k5 w4 hk5 hw4
 have hb4 := (hw4 ▸ qf w2 _ : Below w2.heap.size w2 w4)
 have hB4 := qb hB2 hb4 hB2.size
 have h54 : qm w4 k5 qk (adC ad0) := qm.new hk5 hw4
 obtain ⟨w5, hs5, h55, hg5⟩ := qR.store0 (cs := adC ad0) rfl (qaZ _) h54 rfl
 refine ⟨w5, hs5, ?_⟩
 have hk5w : w.heap.size <= k5 := by have := hB2.size; omega
 have hlt2 := h2.lt
 have h25 := (h2.below hb4).grown hg5 (qP (by omega))
 have hB5 := Below.put hB4 hg5 hk5w
 refine callK (ja s 46 hs w5) ?_
 rintro _ w3 ⟨a, n, c, rfl, ho, hf, hb3⟩
 have hB3 := qb hB5 hb3 hB5.size
 have h23 := h25.below hb3
 have h53 := h55.below hb3
 have hn := ho.len
 have hlens : ∀ x ∈ cutC 46 [] s, x.length <= s.length := fun x hx => by simpa using qdf 46 s [] x hx
 have none_end : ∀ {wx : World}, v4V s = none -> qm wx k2 qk (adC ad0) -> Below w.heap.size w wx -> _ := fun {wx} hv h2x hBx => qR.fin (K := fun vr wy => (.tuple #[vr, .bool false] : Value) = adT (v4V s) /\ Below w.heap.size w wy) (cs := adC ad0) rfl (qaZ _) h2x rfl hBx (by omega) fun wy hb => ⟨by rw [hv]; rfl, hb⟩
 refine ⟨_, _, _, rfl, BCase.of (fun h4 => ?_) (fun h4 => ?_)⟩
 · refine none_end (qtF fun hc => ?_) h23 hB3
   rw [bne_iff_ne] at h4; omega
 have hl4 : (cutC 46 [] s).length = 4 := by simp at h4; omega
 have hlt5 := h55.lt
 have hog : ∀ g, ownB a = some g -> g ≠ k5 := fun g hg e => by have := hf g hg; omega
 obtain ⟨L, hL⟩ : ∃ L, L = cutC 46 [] s := ⟨_, rfl⟩
 rw [<- hL] at ho hl4 hlens hn
 have hv4 : v4V s = if L.length = 4 /\ ∀ x ∈ L, ipOk x then some (List.replicate 12 0 ++ L.map ipB) else none := by rw [hL]; rfl
 refine ⟨fun m i w' => ∃ k : Nat, k <= 4 /\ i = (k : Int) /\ m = 4 - k /\ (∀ j (hj : j < k) (h : j < L.length), ipOk L[j]) /\ qm w' k5 qk (adC (v4S L k)) /\ qm w' k2 qk (adC ad0) /\ Ow tS qe w' NoB a n c L /\ Below w.heap.size w w',
   ⟨_, 0, by omega, rfl, rfl, fun j hj => by omega, h53, h23, ho, hB3⟩, ?_⟩
 intro m i
 refine AllJ.of ?_ _
 rintro w6 ⟨k, hk, rfl, rfl, hok, h56, h26, ho6, hB6⟩
 refine BCase.of (fun h => ?_) (fun h => ?_) <;> simp only [dTx, dFx] at h
 · have hk4 : k < 4 := by omega
   have hkL : k < L.length := by omega
   refine ⟨⟨⟨by omega, by omega⟩, ho6.all.isSome (by omega)⟩, _, ho6.all.text un_string hkL, ?_⟩
   have hlk := hlens L[k] (List.getElem_mem hkL)
   refine callK (qgK L[k] (by omega) w6) ?_
   rintro _ w7 ⟨rfl, hw7⟩
   have hb7 : Below w6.heap.size w6 w7 := hw7 ▸ Below.refl _ _
   have hB7 := qb hB6 hb7 hB6.size
   have hnone : ¬ ipOk L[k] -> v4V s = none := fun hx => by
     rw [hv4, if_neg fun hc => hx (hc.2 _ (List.getElem_mem hkL))]
   refine ⟨if numP L[k] then decV L[k] else 0, if numP L[k] then true else false, by split <;> rfl, ?_⟩
   refine ⟨fun w' => w' = w7 /\ ipOk L[k], ?_, ?_⟩
   · refine qav (B := fun J => BCase _ (J true w7) (J _ w7)) (!decide (ipOk L[k])) (BCase.of (fun h1 => ⟨rfl, ?_⟩) (fun h1 => ⟨rfl, ?_⟩)) ?_
     · have : ¬ numP L[k] := fun hc => by rw [if_pos hc] at h1; cases h1
       have h2 : ¬ ipOk L[k] := fun hc => this hc.1
       simp [h2]
     · have hnp : numP L[k] := Decidable.byContradiction fun hc => by rw [if_neg hc] at h1; cases h1
       rw [if_pos hnp, Bool.eq_iff_iff]
       simp [ipOk, hnp]
     · refine BCase.of (fun h1 => none_end (hnone (by simpa using h1)) (h26.below hb7) hB7) (fun h1 => ⟨rfl, by simpa using h1⟩)
   · refine AllJ.of ?_ _
     rintro wj ⟨hwj, hip⟩
     rw [hwj]; clear hwj
     have e12 : i64.wrap (12 + (k : Int)) = ((12 + k : Nat) : Int) := by rw [wrap_i64 (by omega) (by omega)]; omega
     rw [e12, z8, if_pos hip.1, qty hip, Nat.zero_add]
     refine ⟨⟨⟨by omega, by omega⟩, rfl⟩, ?_⟩
     have h57 := h56.below hb7
     obtain ⟨w8, hs8, h58, hg8⟩ := h57.put (P := prog) qeu (i := 12 + k) (v := .int .u8 (((ipB L[k]).toNat : Nat) : Int)) (by rw [zF, qoE hl4 (by omega)]; omega) rfl rfl
     rw [qig, qrV hl4 hk4] at h58
     refine ⟨w8, hs8, 4 - (k + 1), by omega, k + 1, by omega, by rw [wrap_i64 (by omega) (by omega)]; omega, rfl, ?_, h58, (h26.below hb7).grown hg8 (qP (by omega)), (ho6.below hb7).put hog hg8, Below.put hB7 hg8 hk5w⟩
     intro j hj hjl
     by_cases e : j = k
     · subst e; exact hip
     · exact hok j (by omega) hjl
 · have : k = 4 := by omega
   subst this
   have hall : ∀ x ∈ L, ipOk x := fun x hx => by
     obtain ⟨j, hj, rfl⟩ := List.mem_iff_getElem.1 hx
     exact hok j (by omega) hj
   have hv : v4V s = some (v4S L 4) := by rw [hv4, if_pos ⟨hl4, hall⟩, quE hl4]
   have hlen : (adC (v4S L 4)).length = 16 := by rw [zF, qoE hl4 (by omega)]
   refine ⟨_, qR.load0 h56 hlen, ?_⟩
   exact qR.fin (K := fun vr wy => (.tuple #[vr, .bool true] : Value) = adT (v4V s) /\ Below w.heap.size w wy) hlen (qaZ _) h26 rfl hB6 (by omega) fun wy hb => ⟨by rw [hv]; rfl, hb⟩
end Go.Proofs.YtndbpedpdbjkpaaGreatDoor
namespace Go.Pk
def hexN (c : UInt8) : Nat := if 48 <= c.toNat /\ c.toNat <= 57 then c.toNat - 48 else if 97 <= c.toNat /\ c.toNat <= 102 then c.toNat - 87 else if 65 <= c.toNat /\ c.toNat <= 70 then c.toNat - 55 else 16
def qeP (c : UInt8) : Bool := decide (hexN c < 16)
def grpN (s : List UInt8) : Nat := s.foldl (fun n c => n * 16 + hexN c) 0
def jL (s : List UInt8) : Bool := decide (1 <= s.length) && decide (s.length <= 4) && s.all qeP
def rowP (s : List UInt8) : List (List UInt8) := if s = [] then [] else cutC 58 [] s
def at2 (s : List UInt8) (i : Nat) : Prop := s[i]? = some 58 /\ s[i + 1]? = some 58
def e8 (s : List UInt8) : Bool := decide ((cutC 58 [] s).length = 8) && (cutC 58 [] s).all jL
def v6L (A B : List (List UInt8)) : List Nat := A.map grpN ++ List.replicate (8 - A.length - B.length) 0 ++ B.map grpN
def fit6 (gap : Bool) (A B : List (List UInt8)) : Bool := A.all jL && B.all jL && (if gap then decide (A.length + B.length < 8) else decide (A.length + B.length = 8))
def v6V (s : List UInt8) : Option (List Nat) :=
 if fit6 (Lib.cut s [58, 58]).2.2 (rowP (Lib.cut s [58, 58]).1) (rowP (Lib.cut s [58, 58]).2.1) = true then some (v6L (rowP (Lib.cut s [58, 58]).1) (rowP (Lib.cut s [58, 58]).2.1)) else none
theorem occ2 (s : List UInt8) (i : Nat) : Lib.occAt s [58, 58] i = true ↔ at2 s i := by
 unfold Lib.occAt at2
 have e0 : s[i]? = (s.drop i)[0]? := by rw [List.getElem?_drop]; rfl
 have e1 : s[i + 1]? = (s.drop i)[1]? := by rw [List.getElem?_drop]
 rw [e0, e1]
 generalize s.drop i = d
 match d with
 | [] => simp
 | [a] => simp
 | a :: b :: r =>
   simp only [List.isPrefixOf, Bool.and_true, Bool.and_eq_true, beq_iff_eq, List.getElem?_cons_zero, List.getElem?_cons_succ, Option.some.injEq]
   exact ⟨fun h => ⟨h.1.symm, h.2.symm⟩, fun h => ⟨h.1.symm, h.2.symm⟩⟩
theorem qi1 (s : List UInt8) : (Lib.cut s [58, 58] = (s, [], false) /\ ∀ i, ¬ at2 s i) \/ ∃ p, Lib.cut s [58, 58] = (s.take p, s.drop (p + 2), true) /\ at2 s p /\ (∀ j, j < p -> ¬ at2 s j) /\ p + 2 <= s.length := by
 rcases Lib.index_spec s [58, 58] with ⟨h1, h2⟩ | ⟨p, h1, h2, h3, h4⟩
 · refine .inl ⟨?_, fun i hi => ?_⟩
   · unfold Lib.cut; rw [if_neg (by omega)]
   · by_cases hl : i <= s.length
     · have := h2 i hl
       rw [(occ2 s i).2 hi] at this; cases this
     · have := hi.1
       rw [List.getElem?_eq_none (by omega)] at this; cases this
 · refine .inr ⟨p, ?_, (occ2 s p).1 h3, fun j hj hc => ?_, ?_⟩
   · unfold Lib.cut; rw [if_pos (by omega), h1]; rfl
   · have := h4 j hj
     rw [(occ2 s j).2 hc] at this; cases this
   · have := ((occ2 s p).1 h3).2
     have h5 := (List.getElem?_eq_some_iff.1 this).1
     omega
theorem qpx {s : List UInt8} {p : Nat} (h : at2 s p) : s = s.take p ++ 58 :: 58 :: s.drop (p + 2) := by
 obtain ⟨h1, h2⟩ := h
 obtain ⟨l1, e1⟩ := List.getElem?_eq_some_iff.1 h1
 obtain ⟨l2, e2⟩ := List.getElem?_eq_some_iff.1 h2
 conv => lhs; rw [<- List.take_append_drop p s, List.drop_eq_getElem_cons l1, List.drop_eq_getElem_cons l2, e1, e2]
theorem qm9 (c : UInt8) (r : List UInt8) (h : r = [] \/ ∃ t, r = c :: t) : ([] : List UInt8) ∈ cutC c [] r := by
 rcases h with rfl | ⟨t, rfl⟩
 · simp [cutC]
 · show _ ∈ (if c = c then _ else _)
   rw [if_pos rfl]; simp
theorem nogrp {l : List (List UInt8)} (h : ([] : List UInt8) ∈ l) : l.all jL = false := by
 rw [Bool.eq_false_iff]
 intro hc
 have := List.all_eq_true.1 hc [] h
 revert this; decide
theorem qtQ {s : List UInt8} (h : e8 s = true) (i : Nat) : ¬ at2 s i := by
 intro hi
 unfold e8 at h
 rw [Bool.and_eq_true] at h
 have hm : ([] : List UInt8) ∈ cutC 58 [] s := by
   rw [qpx hi, zw]
   exact List.mem_append_right _ (qm9 58 _ (.inr ⟨_, rfl⟩))
 rw [nogrp hm] at h
 exact absurd h.2 (by decide)
theorem late {s : List UInt8} {p q : Nat} (h : at2 s p) (hq : p < q) (hq2 : at2 s q) : (rowP (s.take q)).all jL = false := by
 have hl := (List.getElem?_eq_some_iff.1 hq2.1).1
 have hs := qpx h
 have hp : p < s.length := by omega
 have hne : s.take q ≠ [] := by
   intro e
   have := congrArg List.length e
   rw [List.length_take, List.length_nil] at this
   omega
 unfold rowP
 rw [if_neg hne]
 have e : s.take q = s.take p ++ 58 :: (58 :: s.drop (p + 2)).take (q - p - 1) := by
   conv => lhs; rw [hs]
   rw [List.take_append, List.length_take, Nat.min_eq_left (by omega), List.take_of_length_le (by rw [List.length_take]; omega)]
   rw [show q - p = (q - p - 1) + 1 by omega, List.take_succ_cons]; rfl
 rw [e, zw]
 refine nogrp (List.mem_append_right _ (qm9 58 _ ?_))
 cases hk : q - p - 1 with
 | zero => exact .inl rfl
 | succ k => exact .inr ⟨_, rfl⟩
def zsK : Nat -> List UInt8
 | 0 => [48]
 | k + 1 => zsK k ++ [58, 48]
theorem qtE : ∀ k, (zsK k).length = 2 * k + 1
 | 0 => rfl
 | k + 1 => by rw [zsK, List.length_append, qtE k]; simp; omega
theorem qsd : ∀ k, cutC 58 [] (zsK k) = List.replicate (k + 1) [48]
 | 0 => rfl
 | k + 1 => by
   rw [zsK, zw, qsd k, List.replicate_succ' (n := k + 1)]; rfl
def qkl (f : List UInt8) : List UInt8 := if f = [] then [] else f ++ [58]
def qpZ (b : List UInt8) : List UInt8 := if b = [] then [] else 58 :: b
def tryT (f b : List UInt8) (k : Nat) : List UInt8 := qkl f ++ zsK k ++ qpZ b
theorem qsz (f b : List UInt8) (k : Nat) : cutC 58 [] (tryT f b k) = rowP f ++ List.replicate (k + 1) [48] ++ rowP b := by
 unfold tryT qkl qpZ rowP
 have e : ∀ b : List UInt8, cutC 58 [] (zsK k ++ if b = [] then [] else 58 :: b) = List.replicate (k + 1) [48] ++ (if b = [] then [] else cutC 58 [] b) := by
   intro b
   split
   · rw [List.append_nil, List.append_nil, qsd]
   · rw [zw, qsd]
 by_cases hf : f = []
 · rw [if_pos hf, if_pos hf, List.nil_append, e, List.nil_append]
 · rw [if_neg hf, if_neg hf, List.append_assoc, List.append_assoc, List.singleton_append, zw, e, List.append_assoc]
theorem qss (f b : List UInt8) (k : Nat) : e8 (tryT f b k) = true ↔ ((rowP f).all jL = true /\ (rowP b).all jL = true) /\ (rowP f).length + (k + 1) + (rowP b).length = 8 := by
 unfold e8
 rw [qsz]
 have h0 : jL [48] = true := by decide
 have hz : (List.replicate (k + 1) ([48] : List UInt8)).all jL = true := List.all_eq_true.2 fun x hx => by rw [(List.mem_replicate.1 hx).2]; exact h0
 rw [List.all_append, List.all_append, hz, Bool.and_true, Bool.and_eq_true, Bool.and_eq_true, dTx, List.length_append, List.length_append, List.length_replicate]
 exact And.comm
theorem qt8 {f b : List UInt8} {k : Nat} (h : e8 (tryT f b k) = true) : (cutC 58 [] (tryT f b k)).map grpN = v6L (rowP f) (rowP b) := by
 have hk := ((qss f b k).1 h).2
 rw [qsz, List.map_append, List.map_append, List.map_replicate, show grpN [48] = 0 by decide]
 unfold v6L
 rw [show 8 - (rowP f).length - (rowP b).length = k + 1 by omega]
theorem qur {s : List UInt8} (h : e8 s = true) : v6V s = some ((cutC 58 [] s).map grpN) := by
 rcases qi1 s with ⟨h1, h2⟩ | ⟨p, h1, h2, h3⟩
 · unfold v6V
   have hc := h
   unfold e8 at hc
   rw [Bool.and_eq_true, dTx] at hc
   have hn : s ≠ [] := by rintro rfl; exact absurd hc.1 (by decide)
   have hr : rowP s = cutC 58 [] s := by unfold rowP; rw [if_neg hn]
   have hr0 : rowP [] = [] := rfl
   rw [h1]
   simp only [hr, hr0]
   rw [if_pos]
   · unfold v6L
     rw [hc.1]
     simp
   · unfold fit6
     rw [hc.2]
     simp [hc.1]
 · exact absurd h2 (qtQ h p)
theorem qvb {s : List UInt8} (h : e8 s = false) (hn : ∀ i, ¬ at2 s i) : v6V s = none := by
 rcases qi1 s with ⟨h1, h2⟩ | ⟨p, h1, h2, h3⟩
 · unfold v6V
   rw [h1]
   rw [if_neg]
   intro hc
   have hr0 : rowP [] = [] := rfl
   unfold fit6 at hc
   simp only [hr0, List.all_nil, Bool.and_true, Bool.and_eq_true, List.length_nil, Nat.add_zero] at hc
   have hc2 : (rowP s).all jL = true /\ (rowP s).length = 8 := by simpa using hc
   unfold rowP at hc2
   split at hc2
   · exact absurd hc2.2 (by decide)
   · rw [<- Bool.not_eq_true] at h
     refine h ?_
     unfold e8
     rw [hc2.1, hc2.2]; rfl
 · exact absurd h2 (hn p)
theorem qtg {s : List UInt8} {p : Nat} (h : at2 s p) (h2 : ∀ j, j < p -> ¬ at2 s j) :
   v6V s = if ((rowP (s.take p)).all jL = true /\ (rowP (s.drop (p + 2))).all jL = true) /\ (rowP (s.take p)).length + (rowP (s.drop (p + 2))).length < 8 then some (v6L (rowP (s.take p)) (rowP (s.drop (p + 2)))) else none := by
 rcases qi1 s with ⟨h1, h3⟩ | ⟨q, h1, h3, h4, h5⟩
 · exact absurd h (h3 p)
 · have e : q = p := by
     rcases Nat.lt_trichotomy q p with hl | hl | hl
     · exact absurd h3 (h2 q hl)
     · exact hl
     · exact absurd h (h4 p hl)
   subst e
   unfold v6V fit6
   rw [h1]
   simp only [if_true, Bool.and_eq_true, dTx]
theorem quM {s : List UInt8} {g : List Nat} (h : v6V s = some g) : g.length = 8 := by
 unfold v6V at h
 split at h
 · rename_i hf
   rw [<- Option.some.inj h]
   unfold v6L
   unfold fit6 at hf
   rw [Bool.and_eq_true] at hf
   have : (rowP (Lib.cut s [58, 58]).1).length + (rowP (Lib.cut s [58, 58]).2.1).length <= 8 := by
     have := hf.2
     split at this
     · have := of_decide_eq_true this; omega
     · have := of_decide_eq_true this; omega
   simp; omega
 · cases h
theorem qiA : ∀ (s : List UInt8) (n : Nat), s.all qeP = true -> s.foldl (fun n c => n * 16 + hexN c) n < (n + 1) * 16 ^ s.length
 | [], n, _ => by simp
 | c :: s, n, h => by
   rw [List.all_cons, Bool.and_eq_true] at h
   have hc : hexN c < 16 := by simpa [qeP] using h.1
   have := qiA s (n * 16 + hexN c) h.2
   rw [List.foldl_cons, List.length_cons, Nat.pow_succ]
   refine Nat.lt_of_lt_of_le this ?_
   rw [Nat.mul_comm (16 ^ s.length) 16, <- Nat.mul_assoc]
   exact Nat.mul_le_mul_right _ (by omega)
theorem qtw {s : List UInt8} (h : jL s = true) : grpN s < 65536 := by
 unfold jL at h
 simp only [Bool.and_eq_true, dTx] at h
 have := qiA s 0 h.2
 have h2 : 16 ^ s.length <= 16 ^ 4 := Nat.pow_le_pow_right (by decide) h.1.2
 unfold grpN
 have h3 : (16 : Nat) ^ 4 = 65536 := rfl
 omega
end Go.Pk
namespace Go.Pk
def qdH (l : List Nat) : List UInt8 := l.flatMap fun n => [UInt8.ofNat (n / 256), UInt8.ofNat (n % 256)]
theorem qgD : ∀ l : List Nat, (qdH l).length = 2 * l.length
 | [] => rfl
 | n :: l => by
   have := qgD l
   unfold qdH at this ⊢
   rw [List.flatMap_cons, List.length_append, this]; simp; omega
theorem qsc (a b : List Nat) : qdH (a ++ b) = qdH a ++ qdH b := by unfold qdH; rw [List.flatMap_append]
def grpS (gs : List Nat) (k : Nat) : List UInt8 := qdH (gs.take k) ++ List.replicate (16 - 2 * k) 0
theorem qkI {gs : List Nat} (h : gs.length = 8) {k : Nat} (hk : k <= 8) : (grpS gs k).length = 16 := by
 unfold grpS; rw [List.length_append, qgD, List.length_take, List.length_replicate]; omega
theorem qqi {gs : List Nat} (h : gs.length = 8) {k : Nat} (hk : k < 8) : ((grpS gs k).set (2 * k) (UInt8.ofNat ((gs[k]'(by omega)) / 256))).set (2 * k + 1) (UInt8.ofNat ((gs[k]'(by omega)) % 256)) = grpS gs (k + 1) := by
 unfold grpS
 have hl : (qdH (gs.take k)).length = 2 * k := by rw [qgD, List.length_take]; omega
 rw [show 16 - 2 * k = (16 - 2 * (k + 1)) + 1 + 1 by omega, List.replicate_succ (n := 16 - 2 * (k + 1) + 1), List.replicate_succ (n := 16 - 2 * (k + 1))]
 rw [List.set_append_right _ _ (by omega), hl, Nat.sub_self, List.set_cons_zero, List.set_append_right _ _ (by omega), hl, show 2 * k + 1 - 2 * k = 0 + 1 by omega, List.set_cons_succ, List.set_cons_zero,
   List.take_succ_eq_append_getElem (by omega), qsc]
 simp [qdH]
theorem qtC {gs : List Nat} (h : gs.length = 8) : grpS gs 8 = qdH gs := by unfold grpS; rw [List.take_of_length_le (by omega)]; simp
def e8V (s : List UInt8) : Option (List UInt8) := if e8 s = true then some (qdH ((cutC 58 [] s).map grpN)) else none
theorem qqs (x : List UInt8) {j : Nat} (h : j < x.length) : grpN (x.take (j + 1)) = grpN (x.take j) * 16 + hexN x[j] := by
 unfold grpN; rw [List.take_succ_eq_append_getElem h, List.foldl_append]; rfl
theorem qlh {x : List UInt8} {j : Nat} (h : ∀ i (hi : i < j) (h : i < x.length), qeP x[i] = true) (hj : j <= 4) : grpN (x.take j) < 65536 := by
 have ha : (x.take j).all qeP = true := List.all_eq_true.2 fun c hc => by
   obtain ⟨i, hi, rfl⟩ := List.mem_iff_getElem.1 hc
   rw [List.length_take] at hi
   rw [List.getElem_take]
   exact h i (by omega) (by omega)
 have h1 := qiA (x.take j) 0 ha
 have h2 : 16 ^ (x.take j).length <= 16 ^ 4 := Nat.pow_le_pow_right (by decide) (by rw [List.length_take]; omega)
 have h3 : (16 : Nat) ^ 4 = 65536 := rfl
 unfold grpN; omega
theorem qkg {n : Nat} (h : n < 256) : ((UInt8.ofNat n).toNat : Int) = (n : Int) := by rw [UInt8.toNat_ofNat']; omega
end Go.Pk
namespace Go.Proofs.YtndbpedpdbjkpaaGreatDoor
open Go.Pk
open Go.RowKit (Below)
theorem qmi (c : UInt8) (w : World) : Calls prog qfm #[.int .u8 ((c.toNat : Nat) : Int)] w (Ret fun v w' => v = .int .i64 (if qeP c = true then (hexN c : Int) else -1) /\ w' = w) := by
 apply qlt
 unfold qht
 have hu := qbc c
 have h16 : qeP c = decide (hexN c < 16) := rfl
 refine factJ (w := w) (¬ (48 <= c.toNat /\ c.toNat <= 57)) (andJ (BCase.of (fun h => ?_) (fun h => ⟨rfl, by simp at h; omega⟩))) (fun h1 => ?_)
 · have : 48 <= c.toNat /\ c.toNat <= 57 := by simp at h; omega
   have e : hexN c = c.toNat - 48 := by unfold hexN; rw [if_pos this]
   rw [h16, e, if_pos (by simp; omega), wrap_i64 (n := ((c.toNat : Nat) : Int)) (by omega) (by omega), wrap_i64 (by omega) (by omega)]
   exact ⟨by congr 1; omega, rfl⟩
 refine factJ (w := w) (¬ (97 <= c.toNat /\ c.toNat <= 102)) (andJ (BCase.of (fun h => ?_) (fun h => ⟨rfl, by simp at h; omega⟩))) (fun h2 => ?_)
 · have : 97 <= c.toNat /\ c.toNat <= 102 := by simp at h; omega
   have e : hexN c = c.toNat - 87 := by unfold hexN; rw [if_neg h1, if_pos this]
   rw [h16, e, if_pos (by simp; omega), wrap_i64 (n := ((c.toNat : Nat) : Int)) (by omega) (by omega), wrap_i64 (by omega) (by omega)]
   exact ⟨by congr 1; omega, rfl⟩
 refine andJ (BCase.of (fun h => ?_) (fun h => ?_))
 · have : 65 <= c.toNat /\ c.toNat <= 70 := by simp at h; omega
   have e : hexN c = c.toNat - 55 := by unfold hexN; rw [if_neg h1, if_neg h2, if_pos this]
   rw [h16, e, if_pos (by simp; omega), wrap_i64 (n := ((c.toNat : Nat) : Int)) (by omega) (by omega), wrap_i64 (by omega) (by omega)]
   exact ⟨by congr 1; omega, rfl⟩
 · have : ¬ (65 <= c.toNat /\ c.toNat <= 70) := by simp at h; omega
   have e : hexN c = 16 := by unfold hexN; rw [if_neg h1, if_neg h2, if_neg this]
   rw [h16, e, if_neg (by decide)]
   exact ⟨rfl, rfl⟩
theorem qhM (s : List UInt8) (hs : s.length <= 100000000) (w : World) : Calls prog qdL #[.string (mkS s)] w (Ret fun v w' => v = adT (e8V s) /\ Below w.heap.size w w') := by
 apply qlQ
 unfold qhN
 intro k2 w2 hk2 hw2
 have hB2 := (hw2 ▸ qf w _ : Below w.heap.size w w2)
 have h2 : qm w2 k2 qk (adC ad0) := qm.new hk2 hw2
 intro k5 w4 hk5 hw4
 have hb4 := (hw4 ▸ qf w2 _ : Below w2.heap.size w2 w4)
 have hB4 := qb hB2 hb4 hB2.size
 have h54 : qm w4 k5 qk (adC ad0) := qm.new hk5 hw4
 obtain ⟨w5, hs5, h55, hg5⟩ := qR.store0 (cs := adC ad0) rfl (qaZ _) h54 rfl
 refine ⟨w5, hs5, ?_⟩
 have hk5w : w.heap.size <= k5 := by have := hB2.size; omega
 have hlt2 := h2.lt
 have h25 := (h2.below hb4).grown hg5 (qP (by omega))
 have hB5 := Below.put hB4 hg5 hk5w
 refine callK (ja s 58 hs w5) ?_
 rintro _ w3 ⟨a, n, c, rfl, ho, hf, hb3⟩
 have hB3 := qb hB5 hb3 hB5.size
 have h23 := h25.below hb3
 have h53 := h55.below hb3
 have hn := ho.len
 have hlens : ∀ x ∈ cutC 58 [] s, x.length <= s.length := fun x hx => by simpa using qdf 58 s [] x hx
 have none_end : ∀ {wx : World}, e8 s = false -> qm wx k2 qk (adC ad0) -> Below w.heap.size w wx -> _ := fun {wx} hv h2x hBx => qR.fin (K := fun vr wy => (.tuple #[vr, .bool false] : Value) = adT (e8V s) /\ Below w.heap.size w wy) (cs := adC ad0) rfl (qaZ _) h2x rfl hBx (by omega) fun wy hb => ⟨by unfold e8V; rw [hv]; rfl, hb⟩
 refine ⟨_, _, _, rfl, BCase.of (fun h4 => ?_) (fun h4 => ?_)⟩
 · refine none_end ?_ h23 hB3
   rw [bne_iff_ne] at h4
   unfold e8
   rw [decide_eq_false (by omega), Bool.false_and]
 have hl8 : (cutC 58 [] s).length = 8 := by simp at h4; omega
 have hlt5 := h55.lt
 have hog : ∀ g, ownB a = some g -> g ≠ k5 := fun g hg e => by have := hf g hg; omega
 have he8 : e8 s = (cutC 58 [] s).all jL := by unfold e8; rw [decide_eq_true hl8, Bool.true_and]
 have he8V : e8 s = true -> e8V s = some (qdH ((cutC 58 [] s).map grpN)) := fun h => if_pos h
 obtain ⟨L, hL⟩ : ∃ L, L = cutC 58 [] s := ⟨_, rfl⟩
 rw [<- hL] at ho hl8 hlens hn he8 he8V
 have hbad : ∀ {x}, x ∈ L -> jL x = false -> e8 s = false := fun {x} hx hg => by
   rw [he8, Bool.eq_false_iff]
   intro hc
   rw [List.all_eq_true.1 hc x hx] at hg; cases hg
 have hG : (L.map grpN).length = 8 := by simp [hl8]
 refine ⟨fun m i w' => ∃ k : Nat, k <= 8 /\ i = (k : Int) /\ m = 8 - k /\ (∀ j (hj : j < k) (h : j < L.length), jL L[j] = true) /\ qm w' k5 qk (adC (grpS (L.map grpN) k)) /\ qm w' k2 qk (adC ad0) /\ Ow tS qe w' NoB a n c L /\ Below w.heap.size w w',
   ⟨_, 0, by omega, rfl, rfl, fun j hj => by omega, h53, h23, ho, hB3⟩, ?_⟩
 intro m i
 refine AllJ.of ?_ _
 rintro w6 ⟨k, hk, rfl, rfl, hok, h56, h26, ho6, hB6⟩
 refine BCase.of (fun h => ?_) (fun h => ?_) <;> simp only [dTx, dFx] at h
 · have hk8 : k < 8 := by omega
   have hkL : k < L.length := by omega
   have hld := ho6.all.text (P := prog) un_string hkL
   have hlk := hlens L[k] (List.getElem_mem hkL)
   have hin : (0 <= (k : Int) /\ (k : Int) < ((n : Nat) : Int)) /\ Option.isSome a = true := ⟨⟨by omega, by omega⟩, ho6.all.isSome (by omega)⟩
   have hmem : L[k] ∈ L := List.getElem_mem hkL
   refine factJ (w := w6) (1 <= L[k].length /\ L[k].length <= 4) ?_ (fun hl4 => ?_)
   · refine ⟨fun b w' => w' = w6 /\ b = (!(decide (1 <= L[k].length) && decide (L[k].length <= 4))), ⟨hin, _, hld, BCase.of (fun h1 => ⟨rfl, ?_⟩) (fun h1 => ⟨hin, _, hld, rfl, ?_⟩)⟩, ?_⟩
     · have : ¬ 1 <= L[k].length := by simp at h1; omega
       simp [this]
     · have : 1 <= L[k].length := by simp at h1; omega
       rw [decide_eq_true this, Bool.true_and, Bool.eq_iff_iff]; simp; omega
     · intro b
       refine AllJ.of ?_ _
       rintro wj ⟨hwj, hb⟩
       rw [hwj, hb]; clear hwj hb
       refine BCase.of (fun h1 => none_end (hbad hmem ?_) h26 hB6) (fun h1 => ⟨rfl, by simpa using h1⟩)
       unfold jL
       have h1' : (decide (1 <= L[k].length) && decide (L[k].length <= 4)) = false := by simpa only [Bool.not_eq_true'] using h1
       rw [h1', Bool.false_and]
   · refine ⟨fun m v i w' => w' = w6 /\ ∃ j : Nat, j <= L[k].length /\ i = (j : Int) /\ m = L[k].length - j /\ v = ((grpN (L[k].take j) : Nat) : Int) /\ ∀ q (hq : q < j) (h : q < L[k].length), qeP (L[k][q]) = true,
       ⟨_, rfl, 0, by omega, rfl, rfl, rfl, fun q hq => by omega⟩, ?_⟩
     intro m v i
     refine AllJ.of ?_ _
     rintro wj ⟨hwj, j, hj, rfl, rfl, rfl, hx⟩
     rw [hwj]; clear hwj
     refine ⟨hin, _, hld, ?_⟩
     have hgl := qlh hx (by omega)
     refine BCase.of (fun h5 => ?_) (fun h5 => ?_) <;> simp only [dTx, dFx] at h5
     · have hjl : j < L[k].length := by omega
       refine ⟨hin, _, hld, ⟨by omega, h5⟩, ?_⟩
       rw [zJ hjl]
       refine callK (qmi (L[k][j]) w6) ?_
       rintro _ w7 ⟨rfl, hw7⟩
       rw [hw7]
       refine ⟨_, rfl, ?_⟩
       by_cases hh : qeP (L[k][j]) = true
       · rw [if_pos hh]
         have h16 : hexN (L[k][j]) < 16 := by simpa [qeP] using hh
         refine BCase.no (by simp) ⟨L[k].length - (j + 1), by omega, rfl, j + 1, by omega, by rw [wrap_i64 (by omega) (by omega)]; omega, rfl, ?_, fun q hq hql => ?_⟩
         · rw [wrap_i64 (n := _ * _) (by omega) (by omega), wrap_i64 (by omega) (by omega), qqs _ hjl]; omega
         · by_cases e : q = j
           · subst e; exact hh
           · exact hx q (by omega) hql
       · rw [if_neg hh]
         refine BCase.yes (by decide) (none_end (hbad hmem ?_) h26 hB6)
         unfold jL
         have : (L[k]).all qeP = false := by
           rw [Bool.eq_false_iff]
           intro hc
           exact hh (List.all_eq_true.1 hc _ (List.getElem_mem hjl))
         rw [this, Bool.and_false]
     · have : j = L[k].length := by omega
       subst this
       rw [List.take_length] at hgl ⊢
       have hg : jL L[k] = true := by
         unfold jL
         rw [decide_eq_true hl4.1, decide_eq_true hl4.2, Bool.true_and, Bool.true_and]
         exact List.all_eq_true.2 fun c hc => by
           obtain ⟨q, hq, rfl⟩ := List.mem_iff_getElem.1 hc
           exact hx q hq hq
       have hGk : (L.map grpN)[k]'(by omega) = grpN L[k] := by simp
       refine ⟨by decide, ?_⟩
       rintro _ rfl
       have e1 : i64.wrap (2 * (k : Int)) = ((2 * k : Nat) : Int) := by rw [wrap_i64 (by omega) (by omega)]; omega
       have e2 : i64.wrap (((2 * k : Nat) : Int) + 1) = ((2 * k + 1 : Nat) : Int) := by rw [wrap_i64 (by omega) (by omega)]; omega
       have e3 : IntKind.u8.wrap (i64.wrap (Int.tdiv ((grpN L[k] : Nat) : Int) 256)) = (((UInt8.ofNat (grpN L[k] / 256)).toNat : Nat) : Int) := by
         rw [tdiv_pos (by omega), wrap_i64 (by omega) (by omega), qcc (by omega) (by omega), qkg (by omega)]; omega
       have e4 : IntKind.u8.wrap (Int.tmod ((grpN L[k] : Nat) : Int) 256) = (((UInt8.ofNat (grpN L[k] % 256)).toNat : Nat) : Int) := by
         rw [tmod_pos (by omega), qcc (by omega) (by omega), qkg (by omega)]; omega
       rw [e1, e2, z8, z8, e3]
       simp only [Nat.zero_add]
       have hlen := qkI hG hk
       obtain ⟨w8, hs8, h58, hg8⟩ := h56.put (P := prog) qeu (i := 2 * k) (v := .int .u8 (((UInt8.ofNat (grpN L[k] / 256)).toNat : Nat) : Int)) (by rw [zF, hlen]; omega) rfl rfl
       rw [qig] at h58
       refine ⟨⟨⟨by omega, by omega⟩, trivial⟩, w8, hs8, by decide, ?_⟩
       rintro _ rfl
       rw [e4]
       obtain ⟨w9, hs9, h59, hg9⟩ := h58.put (P := prog) qeu (i := 2 * k + 1) (v := .int .u8 (((UInt8.ofNat (grpN L[k] % 256)).toNat : Nat) : Int)) (by rw [zF, List.length_set, hlen]; omega) rfl rfl
       rw [qig, <- hGk, qqi hG hk8] at h59
       refine ⟨⟨⟨by omega, by omega⟩, trivial⟩, w9, hs9, 8 - (k + 1), by omega, k + 1, by omega, by rw [wrap_i64 (by omega) (by omega)]; omega, rfl, ?_, h59, (h26.grown hg8 (qP (by omega))).grown hg9 (qP (by omega)), (ho6.put hog hg8).put hog hg9, Below.put (Below.put hB6 hg8 hk5w) hg9 hk5w⟩
       intro q hq hql
       by_cases e : q = k
       · subst e; exact hg
       · exact hok q (by omega) hql
 · have : k = 8 := by omega
   subst this
   have hv : e8 s = true := by
     rw [he8]
     exact List.all_eq_true.2 fun x hx => by
       obtain ⟨j, hj, rfl⟩ := List.mem_iff_getElem.1 hx
       exact hok j (by omega) hj
   have hlen : (adC (grpS (L.map grpN) 8)).length = 16 := by rw [zF, qkI hG (by omega)]
   refine ⟨_, qR.load0 h56 hlen, ?_⟩
   exact qR.fin (K := fun vr wy => (.tuple #[vr, .bool true] : Value) = adT (e8V s) /\ Below w.heap.size w wy) hlen (qaZ _) h26 rfl hB6 (by omega) fun wy hb => ⟨by rw [he8V hv, <- qtC hG]; rfl, hb⟩
end Go.Proofs.YtndbpedpdbjkpaaGreatDoor
namespace Go.Pk
def v6A (s : List UInt8) : Option (List UInt8) := (v6V s).map qdH
def ad16 (o : Option (List UInt8)) : Prop := ∀ a, o = some a -> a.length = 16
theorem qnm (o : Option (List UInt8)) : adT o = .tuple #[adV (o.getD ad0), .bool o.isSome] := by cases o <;> rfl
theorem qkd {o : Option (List UInt8)} (h : ad16 o) : (adC (o.getD ad0)).length = 16 := by
 rw [zF]
 cases o with
 | none => rfl
 | some a => exact h a rfl
theorem qtm (s : List UInt8) : ad16 (e8V s) := fun a h => by
 unfold e8V at h
 split at h
 · rename_i h8
   unfold e8 at h8
   rw [Bool.and_eq_true, dTx] at h8
   rw [<- Option.some.inj h, qgD, List.length_map, h8.1]
 · cases h
theorem qsB (s : List UInt8) : ad16 (v6A s) := fun a h => by
 unfold v6A at h
 cases hv : v6V s with
 | none => rw [hv] at h; cases h
 | some g =>
   rw [hv] at h
   rw [<- Option.some.inj h, qgD, quM hv]
theorem qui (s : List UInt8) : ad16 (v4V s) := fun a h => by
 unfold v4V at h
 split at h
 · rename_i h4
   rw [<- Option.some.inj h]; simp; omega
 · cases h
end Go.Pk
namespace Go.Proofs.YtndbpedpdbjkpaaGreatDoor
open Go.Pk
open Go.RowKit (Below)
theorem ref02_V6_ok (s : List UInt8) (hs : s.length <= 99999000) (w : World) : Calls prog qjM #[.string (mkS s)] w (Ret fun v w' => v = adT (v6A s) /\ Below w.heap.size w w') := by
 apply qoV
 unfold qkV
 intro k2 w2 hk2 hw2
 have hB2 := (hw2 ▸ qf w _ : Below w.heap.size w w2)
 have h2 : qm w2 k2 qk (adC ad0) := qm.new hk2 hw2
 refine callK (qhM s (by omega) w2) ?_
 rintro _ w3 ⟨rfl, hb3⟩
 have hB3 := qb hB2 hb3 hB2.size
 have h23 := h2.below hb3
 refine ⟨_, _, by rw [qnm], ?_⟩
 refine qR.new (zs := adC ad0) (cs := adC ((e8V s).getD ad0)) rfl (qkd (qtm s)) (qaZ _) w3 fun k4 w4 hk4 h44 hb4 => ?_
 have hB4 := qb hB3 hb4 hB3.size
 have h24 := h23.below hb4
 have good : ∀ {x : List UInt8} {wx : World}, v6A s = some x -> qm wx k2 qk (adC ad0) -> Below w.heap.size w wx -> _ := fun {x wx} hv h2x hBx => qR.fin (K := fun vr wy => (.tuple #[vr, .bool true] : Value) = adT (v6A s) /\ Below w.heap.size w wy) (cs := adC x) (by rw [zF]; exact qsB s _ hv) (qaZ _) h2x rfl hBx (by omega) fun wy hb => ⟨by rw [hv]; rfl, hb⟩
 refine BCase.of (fun h => ?_) (fun h => ?_)
 · have h8 : e8 s = true := by
     unfold e8V at h
     split at h
     · assumption
     · cases h
   refine ⟨_, qR.load0 h44 (qkd (qtm s)), ?_⟩
   have he : e8V s = some (qdH ((cutC 58 [] s).map grpN)) := if_pos h8
   rw [he]
   exact good (x := qdH ((cutC 58 [] s).map grpN)) (by unfold v6A; rw [qur h8]; rfl) h24 hB4
 have h8 : e8 s = false := by
   unfold e8V at h
   split at h
   · cases h
   · rename_i hne; simpa using hne
 refine ⟨fun m i w' => ∃ k : Nat, k <= s.length /\ i = (k : Int) /\ m = s.length - k /\
     (∀ j, j < k -> at2 s j -> (∀ i, i < j -> ¬ at2 s i) -> ¬ (((rowP (s.take j)).all jL = true /\ (rowP (s.drop (j + 2))).all jL = true) /\ (rowP (s.take j)).length + (rowP (s.drop (j + 2))).length < 8)) /\
     qm w' k2 qk (adC ad0) /\ Below w.heap.size w w', ⟨_, 0, by omega, rfl, rfl, fun j hj => by omega, h24, hB4⟩, ?_⟩
 intro m i
 refine AllJ.of ?_ _
 rintro w5 ⟨k, hk, rfl, rfl, hno, h25, hB5⟩
 have e2 : i64.wrap ((k : Int) + 2) = ((k + 2 : Nat) : Int) := by rw [wrap_i64 (by omega) (by omega)]; omega
 have e1 : i64.wrap ((k : Int) + 1) = ((k + 1 : Nat) : Int) := by rw [wrap_i64 (by omega) (by omega)]; omega
 rw [e2, e1]
 refine BCase.of (fun h => ?_) (fun h => ?_) <;> simp only [dTx, dFx] at h
 · have hk2' : k + 2 <= s.length := by omega
   have hk0 : k < s.length := by omega
   have hk1 : k + 1 < s.length := by omega
   have hstep : ∀ {wx : World}, (at2 s k -> (∀ i, i < k -> ¬ at2 s i) -> ¬ (((rowP (s.take k)).all jL = true /\ (rowP (s.drop (k + 2))).all jL = true) /\ (rowP (s.take k)).length + (rowP (s.drop (k + 2))).length < 8)) ->
       qm wx k2 qk (adC ad0) -> Below w.heap.size w wx -> ∃ m' : Nat, m' < s.length - k /\ ∃ k' : Nat, k' <= s.length /\ ((k + 1 : Nat) : Int) = (k' : Int) /\ m' = s.length - k' /\
     (∀ j, j < k' -> at2 s j -> (∀ i, i < j -> ¬ at2 s i) -> ¬ (((rowP (s.take j)).all jL = true /\ (rowP (s.drop (j + 2))).all jL = true) /\ (rowP (s.take j)).length + (rowP (s.drop (j + 2))).length < 8)) /\
     qm wx k2 qk (adC ad0) /\ Below w.heap.size w wx := fun {wx} hc h2x hBx => ⟨s.length - (k + 1), by omega, k + 1, by omega, rfl, rfl, fun j hj => by
       by_cases e : j = k
       · subst e; exact hc
       · exact hno j (by omega), h2x, hBx⟩
   have u0 := qau s[k] 58
   have u1 := qau s[k + 1] 58
   rw [show (((58 : UInt8).toNat : Nat) : Int) = 58 from rfl] at u0 u1
   refine factJ (w := w5) (at2 s k) ⟨⟨by omega, by omega⟩, ?_⟩ (fun hat => ?_)
   · rw [zJ hk0, bne, u0]
     refine BCase.of (fun hx => hstep (fun hat => ?_) h25 hB5) (fun hx => ⟨⟨by omega, by omega⟩, ?_⟩)
     · have := hat.1
       rw [List.getElem?_eq_getElem hk0] at this
       rw [Option.some.inj this] at hx; simp at hx
     · rw [zJ hk1, bne, u1]
       refine BCase.of (fun hy => hstep (fun hat => ?_) h25 hB5) (fun hy => ⟨rfl, ?_⟩)
       · have := hat.2
         rw [List.getElem?_eq_getElem hk1] at this
         rw [Option.some.inj this] at hy; simp at hy
       · exact ⟨by rw [List.getElem?_eq_getElem hk0]; simp at hx; rw [hx], by rw [List.getElem?_eq_getElem hk1]; simp at hy; rw [hy]⟩
   · refine ⟨⟨by omega, by omega⟩, ?_⟩
     intro s40 e40
     refine ⟨⟨by omega, by omega⟩, ?_⟩
     intro s44 e44
     simp only [Int.toNat_natCast] at e40 e44
     have l40 : s40.length <= s.length := by rw [e40, List.length_take]; omega
     have l44 : s44.length <= s.length := by rw [e44, List.length_drop]; omega
     have l4 : s40.length + s44.length + 2 = s.length := by rw [e40, e44, List.length_take, List.length_drop]; omega
     refine strJ (B := fun J => BCase _ (_ /\ ∀ s48, s48 = (s40 ++ [58]) -> J s48 w5) (J s40 w5)) (qkl s40) (BCase.of (fun hx => ⟨fits (by simp; omega), ?_⟩) (fun hx => ⟨rfl, ?_⟩)) ?_
     · rintro _ rfl
       exact ⟨rfl, by unfold qkl; rw [if_neg (by simpa using hx)]⟩
     · unfold qkl; rw [if_pos (by simpa using hx)]; simpa using hx
     refine strJ (B := fun J => BCase _ (_ /\ ∀ s48, s48 = ([58] ++ s44) -> J s48 w5) (J s44 w5)) (qpZ s44) (BCase.of (fun hx => ⟨fits (by simp; omega), ?_⟩) (fun hx => ⟨rfl, ?_⟩)) ?_
     · rintro _ rfl
       exact ⟨rfl, by unfold qpZ; rw [if_neg (by simpa using hx)]; rfl⟩
     · unfold qpZ; rw [if_pos (by simpa using hx)]; simpa using hx
     have lf : (qkl s40).length <= s40.length + 1 := by unfold qkl; split <;> simp
     have lb : (qpZ s44).length <= s44.length + 1 := by unfold qpZ; split <;> simp
     refine ⟨fun m z i w' => ∃ q : Nat, q <= 8 /\ i = (q : Int) /\ m = 8 - q /\ z = zsK q /\ (∀ j, j < q -> e8 (tryT s40 s44 j) = false) /\ qm w' k2 qk (adC ad0) /\ Below w.heap.size w w', ⟨_, 0, by omega, rfl, rfl, rfl, fun j hj => by omega, h25, hB5⟩, ?_⟩
     intro m z i
     refine AllJ.of ?_ _
     rintro w6 ⟨q, hq, rfl, rfl, rfl, hq8, h26, hB6⟩
     have hzl := qtE q
     refine BCase.of (fun h5 => ?_) (fun h5 => ?_) <;> simp only [dTx, dFx] at h5
     · refine ⟨fits (by omega), ?_⟩
       intro s60 e60
       have l60 : s60.length = (qkl s40).length + (zsK q).length := by rw [e60, List.length_append]
       refine ⟨fits (by omega), ?_⟩
       intro s62 e62
       have f62 : s62 = tryT s40 s44 q := by rw [e62, e60]; rfl
       have l62 : s62.length <= 100000000 := by rw [e62, List.length_append]; omega
       refine callK (qhM s62 l62 w6) ?_
       rintro _ w7 ⟨rfl, hb7⟩
       have hB7 := qb hB6 hb7 hB6.size
       rw [f62]
       refine ⟨_, _, by rw [qnm], ?_⟩
       refine qR.new (zs := adC ad0) (cs := adC ((e8V (tryT s40 s44 q)).getD ad0)) rfl (qkd (qtm _)) (qaZ _) w7 fun k11 w8 hk11 h118 hb8 => ?_
       have hB8 := qb hB7 hb8 hB7.size
       have h28 := (h26.below hb7).below hb8
       by_cases ht : e8 (tryT s40 s44 q) = true
       · have he : e8V (tryT s40 s44 q) = some (qdH ((cutC 58 [] (tryT s40 s44 q)).map grpN)) := if_pos ht
         have hl := qkd (qtm (tryT s40 s44 q))
         rw [he] at h118 hl ⊢
         refine BCase.yes rfl ⟨_, qR.load0 h118 hl, ?_⟩
         refine good (x := qdH ((cutC 58 [] (tryT s40 s44 q)).map grpN)) ?_ h28 hB8
         have ht2 := (qss s40 s44 q).1 ht
         rw [qt8 ht]
         have hfirst : ∀ j, j < k -> ¬ at2 s j := fun j hj hc => by
           have := late hc hj hat
           rw [<- e40, ht2.1.1] at this; cases this
         unfold v6A
         rw [qtg hat hfirst, <- e40, <- e44, if_pos ⟨ht2.1, by omega⟩]; rfl
       · have he : e8V (tryT s40 s44 q) = none := if_neg ht
         rw [he] at h118 ⊢
         refine BCase.no rfl ⟨fits (by simp; omega), ?_⟩
         rintro _ rfl
         refine ⟨8 - (q + 1), by omega, q + 1, by omega, by rw [wrap_i64 (by omega) (by omega)]; omega, rfl, rfl, fun j hj => ?_, h28, hB8⟩
         by_cases e : j = q
         · subst e; simpa using ht
         · exact hq8 j (by omega)
     · have : q = 8 := by omega
       subst this
       refine hstep (fun _ hfirst hc => ?_) h26 hB6
       rw [<- e40, <- e44] at hc
       have := (qss s40 s44 (7 - (rowP s40).length - (rowP s44).length)).2 ⟨hc.1, by omega⟩
       rw [hq8 _ (by omega)] at this; cases this
 · have hv : v6A s = none := by
     unfold v6A
     rcases qi1 s with ⟨h1, h2⟩ | ⟨p, h1, h2, h3, h4⟩
     · rw [qvb h8 h2]; rfl
     · rw [qtg h2 h3, if_neg (hno p (by omega) h2 h3)]; rfl
   exact qR.fin (K := fun vr wy => (.tuple #[vr, .bool false] : Value) = adT (v6A s) /\ Below w.heap.size w wy) (cs := adC ad0) rfl (qaZ _) h25 rfl hB5 (by omega) fun wy hb => ⟨by rw [hv]; rfl, hb⟩
end Go.Proofs.YtndbpedpdbjkpaaGreatDoor
namespace Go.Pk
def tU16 : Ty Int := tInt .u16 fun _ => True
theorem qs9 : Flat tU16 := fun _ _ _ _ _ _ h => h
def i16 (l : List Int) : List Value := l.map fun n => Value.int .u16 n
theorem qt1 {w : World} {A : Bl} {n : Int} : tU16.rep w A [.int .u16 n] n := ⟨rfl, trivial⟩
theorem qr0 : ∀ n, n < 256 -> Lib.indexByte [48, 49, 50, 51, 52, 53, 54, 55, 56, 57, 97, 98, 99, 100, 101, 102] (lowC (UInt8.ofNat n)) = if hexN (UInt8.ofNat n) < 16 then (hexN (UInt8.ofNat n) : Int) else -1 := by decide +kernel
theorem qrP (c : UInt8) : Lib.indexByte [48, 49, 50, 51, 52, 53, 54, 55, 56, 57, 97, 98, 99, 100, 101, 102] (lowC c) = if hexN c < 16 then (hexN c : Int) else -1 := by
 have := qr0 c.toNat (by have := c.toNat_lt; omega)
 rwa [UInt8.ofNat_toNat] at this
theorem or16 {a d : Nat} (ha : a < 4096) (hd : d < 16) : IntKind.u16.wrap (((BitVec.ofInt (IntKind.bits .u16) (IntKind.u16.wrap ((a : Int) * 2 ^ (min (Int.toNat (4 : Int)) (IntKind.bits .u16))))) ||| (BitVec.ofInt (IntKind.bits .u16) (IntKind.u16.wrap (d : Int)))).toNat : Nat) = ((a * 16 + d : Nat) : Int) := by
 have e1 : (2 : Int) ^ (min (Int.toNat (4 : Int)) (IntKind.bits .u16)) = 16 := by decide
 have w16 : ∀ n : Nat, n < 65536 -> IntKind.u16.wrap (n : Int) = (n : Int) := fun n hn => by
   have : IntKind.u16.wrap (n : Int) = (n : Int) % 65536 := rfl
   rw [this]; omega
 have e2 : (a : Int) * 16 = ((a * 16 : Nat) : Int) := by omega
 have b16 : ∀ n : Nat, n < 65536 -> (BitVec.ofInt (IntKind.bits .u16) (n : Int)).toNat = n := fun n hn => by
   show (BitVec.ofInt 16 (n : Int)).toNat = n
   rw [BitVec.toNat_ofInt]
   have : ((n : Int) % ((2 ^ 16 : Nat) : Int)).toNat = n := by
     have h : ((2 ^ 16 : Nat) : Int) = 65536 := by decide
     rw [h]; omega
   exact this
 rw [e1, e2, w16 (a * 16) (by omega), w16 d (by omega), BitVec.toNat_or, b16 (a * 16) (by omega), b16 d (by omega)]
 have h3 : a * 16 ||| d = a * 16 + d := by
   have := Nat.two_pow_add_eq_or_of_lt (i := 4) hd a
   rw [Nat.mul_comm a 16]; exact this.symm
 rw [h3, w16 _ (by omega)]
def rowI (s : List UInt8) : List Int := (rowP s).map fun x => (grpN x : Int)
end Go.Pk
namespace Go.Proofs.YtndbpedpdbjkpaaGreatDoor
open Go.Pk
open Go.RowKit (Below)
theorem qnH (s : List UInt8) (hs : s.length <= 9223372036854775800) (w : World) : Calls prog qgt #[.string (mkS s)] w
   (Ret fun v w' => v = (if jL s = true then .tuple #[.int .u16 (grpN s : Int), .bool true] else .tuple #[.int .u16 0, .bool false]) /\ Below w.heap.size w w') := by
 apply qmY
 unfold qiG
 have bad : ∀ {wx : World}, jL s = false -> Below w.heap.size w wx -> (.tuple #[.int .u16 (0 : Int), .bool false] : Value) = (if jL s = true then .tuple #[.int .u16 (grpN s : Int), .bool true] else .tuple #[.int .u16 0, .bool false]) /\ Below w.heap.size w wx := fun hg hb => ⟨by rw [hg]; rfl, hb⟩
 refine factJ (w := w) (1 <= s.length /\ s.length <= 4) ?_ (fun hl => ?_)
 · refine BCase.of (fun h => bad ?_ (Below.refl _ _)) (fun h => BCase.of (fun h2 => bad ?_ (Below.refl _ _)) (fun h2 => ⟨rfl, ?_⟩))
   · unfold jL; rw [decide_eq_false (by simp only [dTx] at h; omega), Bool.false_and, Bool.false_and]
   · unfold jL; rw [decide_eq_false (p := s.length <= 4) (by simp only [dTx] at h2; omega), Bool.and_false, Bool.false_and]
   · simp only [dFx] at h h2
     exact ⟨by omega, by omega⟩
 refine callK (octet_Lower_ok s hs w) ?_
 rintro _ w1 ⟨rfl, hb1⟩
 refine ⟨_, rfl, ?_⟩
 have ll : (lowL s).length = s.length := by simp [lowL]
 obtain ⟨w2, a, n, c, hr, ho, hb2, hf⟩ := qgX (P := prog) un_string zQ un_uint8 w1 (lowL s) (by omega) NoB
 have hB2 := qb hb1 hb2 hb1.size
 have hnn := ho.len
 subst hnn
 refine ⟨w2, a, _, c, hr, ?_⟩
 refine ⟨fun m v i w' => ∃ j : Nat, j <= s.length /\ i = (j : Int) /\ m = s.length - j /\ v = ((grpN (s.take j) : Nat) : Int) /\ (∀ q (hq : q < j) (h : q < s.length), qeP s[q] = true) /\ w' = w2, ⟨_, 0, by omega, rfl, rfl, rfl, fun q hq => by omega, rfl⟩, ?_⟩
 intro m v i
 refine AllJ.of ?_ _
 rintro w' ⟨j, hj, rfl, rfl, rfl, hx, hw'⟩
 rw [hw']; clear hw'
 rw [ll]
 refine BCase.of (fun h => ?_) (fun h => ?_) <;> simp only [dTx, dFx] at h
 · have hlt : j < s.length := by omega
   have hgl := qlh hx (by omega)
   have hlt' : j < (lowL s).length := by omega
   obtain ⟨v, hv, hrep⟩ := ho.all.load1 (i := (j : Int)) un_uint8 rfl rfl (by simpa using hlt')
   have := qnk hrep
   subst this
   simp only [Int.toNat_natCast] at hv
   have elow : (lowL s)[j] = lowC s[j] := by simp [lowL]
   rw [elow] at hv
   refine ⟨⟨⟨by omega, h⟩, ho.all.isSome hlt'⟩, _, hv, ?_⟩
   refine (Tryz.strings_IndexByte (mkS [48, 49, 50, 51, 52, 53, 54, 55, 56, 57, 97, 98, 99, 100, 101, 102]) _ w2).mono ?_
   rintro _ w3 ⟨rfl, hw3⟩
   rw [hw3]; clear hw3
   have e5 : Lib.indexByte (mkS [48, 49, 50, 51, 52, 53, 54, 55, 56, 57, 97, 98, 99, 100, 101, 102]).data.toList (Int.toNat (((lowC s[j]).toNat : Nat) : Int)).toUInt8 = if hexN s[j] < 16 then (hexN s[j] : Int) else -1 := by
     rw [Int.toNat_natCast, show (lowC s[j]).toNat.toUInt8 = lowC s[j] from UInt8.ofNat_toNat]
     exact qrP s[j]
   rw [e5]
   refine ⟨_, rfl, ?_⟩
   by_cases hh : hexN s[j] < 16
   · rw [if_pos hh]
     have hhx : qeP s[j] = true := by simpa [qeP] using hh
     have h4096 : grpN (s.take j) < 4096 := by
       have ha : (s.take j).all qeP = true := List.all_eq_true.2 fun c hc => by
         obtain ⟨i, hi, rfl⟩ := List.mem_iff_getElem.1 hc
         rw [List.length_take] at hi
         rw [List.getElem_take]
         exact hx i (by omega) (by omega)
       have h1 := qiA (s.take j) 0 ha
       have h2 : 16 ^ (s.take j).length <= 16 ^ 3 := Nat.pow_le_pow_right (by decide) (by rw [List.length_take]; omega)
       have h3 : (16 : Nat) ^ 3 = 4096 := rfl
       unfold grpN; omega
     refine BCase.no (by simp) ⟨by decide, s.length - (j + 1), by omega, j + 1, by omega, by rw [wrap_i64 (by omega) (by omega)]; omega, rfl, ?_, fun q hq hql => ?_, rfl⟩
     · rw [or16 h4096 hh, qqs _ hlt]
     · by_cases e : q = j
       · subst e; exact hhx
       · exact hx q (by omega) hql
   · rw [if_neg hh]
     refine BCase.yes (by decide) (bad ?_ hB2)
     unfold jL
     have : s.all qeP = false := by
       rw [Bool.eq_false_iff]
       intro hc
       have := List.all_eq_true.1 hc _ (List.getElem_mem hlt)
       exact hh (by simpa [qeP] using this)
     rw [this, Bool.and_false]
 · have : j = s.length := by omega
   subst this
   have hg : jL s = true := by
     unfold jL
     rw [decide_eq_true hl.1, decide_eq_true hl.2, Bool.true_and, Bool.true_and]
     exact List.all_eq_true.2 fun c hc => by
       obtain ⟨q, hq, rfl⟩ := List.mem_iff_getElem.1 hc
       exact hx q hq hq
   rw [List.take_length, if_pos hg]
   exact ⟨rfl, hB2⟩
def qr4 (s : List UInt8) (w : World) (v : Value) (w' : World) : Prop :=
 ∃ (a : Option Addr) (n c : Nat), v = .tuple #[.slice a n c, .bool ((rowP s).all jL)] /\ ((rowP s).all jL = true -> Ow tU16 qa9 w' NoB a n c (rowI s) /\ qb9 w.heap.size a /\ (rowI s = [] -> a = none /\ n = 0 /\ c = 0)) /\ ((rowP s).all jL = false -> n = 0) /\ Below w.heap.size w w'
theorem qlu (s : List UInt8) (hs : s.length < 4294967281) (w : World) (he : Env w) : Calls prog qg8 #[.string (mkS s)] w (Ret (qr4 s w)) := by
 apply qpy
 unfold qlO
 refine BCase.of (fun h => ?_) (fun h => ?_)
 · have h0 : s = [] := by simpa using h
   subst h0
   exact ⟨none, 0, 0, rfl, fun _ => ⟨Ow.nil _ _ _ _, qb9.none _, fun _ => ⟨rfl, rfl, rfl⟩⟩, fun _ => rfl, Below.refl _ _⟩
 have hne : s ≠ [] := by simpa using h
 have hrow : rowP s = cutC 58 [] s := by unfold rowP; rw [if_neg hne]
 have hI : rowI s = (cutC 58 [] s).map fun x => (grpN x : Int) := by unfold rowI; rw [hrow]
 unfold qr4
 rw [hrow, hI]
 refine callK (qbx s 58 hs w he) ?_
 rintro _ w3 ⟨a, n, c, rfl, ho, hf, hb3⟩
 have hn := ho.len
 have hlens : ∀ x ∈ cutC 58 [] s, x.length <= s.length := fun x hx => by simpa using qdf 58 s [] x hx
 have hcn := j0 58 s []
 have hnz := jD 58 s []
 refine ⟨_, _, _, rfl, ?_⟩
 generalize cutC 58 [] s = L at *
 refine ⟨fun m a4 l4 c4 i w' => ∃ k : Nat, k <= L.length /\ i = (k : Int) /\ m = L.length - k /\ (∀ j (hj : j < k) (h : j < L.length), jL L[j] = true) /\ Ow tU16 qa9 w' NoB a4 l4 c4 ((L.take k).map fun x => (grpN x : Int)) /\ qb9 w3.heap.size a4 /\ Below w3.heap.size w3 w',
   ⟨_, 0, by omega, rfl, rfl, fun j hj => by omega, Ow.nil _ _ _ _, qb9.none _, Below.refl _ _⟩, ?_⟩
 intro m a4 l4 c4 i
 refine AllJ.of ?_ _
 rintro w6 ⟨k, hk, rfl, rfl, hok, ho4, hf4, hB6⟩
 have ho6 := ho.below hB6
 refine BCase.of (fun h => ?_) (fun h => ?_) <;> simp only [dTx, dFx] at h
 · have hkL : k < L.length := by omega
   have hlk := hlens L[k] (List.getElem_mem hkL)
   refine ⟨⟨⟨by omega, h⟩, ho6.all.isSome (by omega)⟩, _, ho6.all.text un_string hkL, ?_⟩
   refine callK (qnH L[k] (by omega) w6) ?_
   rintro _ w7 ⟨rfl, hb7⟩
   have hB7 := qb hB6 hb7 hB6.size
   by_cases hg : jL L[k] = true
   · rw [if_pos hg]
     refine ⟨_, _, rfl, BCase.no rfl ?_⟩
     intro k1 w8 hk1 hw8
     have ho47 := ho4.below hb7
     obtain ⟨w9, a9, n9, c9, hr, ho9, hf9, hb9⟩ := qp8 (ty := qao) (w0 := w3) (cm := 1) (vs := [_]) qs9 qgq qpj (by decide) ho47 hf4 hB7 hk1 hw8 (qt1) (by simp; omega)
     refine ⟨w9, a9, n9, c9, hr, L.length - (k + 1), by omega, k + 1, by omega, by rw [wrap_i64 (by omega) (by omega)]; omega, rfl, fun j hj hjl => ?_, ?_, hf9, hb9⟩
     · by_cases e : j = k
       · subst e; exact hg
       · exact hok j (by omega) hjl
     · rw [List.take_succ_eq_append_getElem hkL, List.map_append]; exact ho9
   · rw [if_neg hg]
     refine ⟨_, _, rfl, BCase.yes rfl ?_⟩
     have hall : L.all jL = false := by
       rw [Bool.eq_false_iff]
       intro hc
       exact hg (List.all_eq_true.1 hc _ (List.getElem_mem hkL))
     rw [hall]
     exact ⟨none, 0, 0, rfl, (fun h => by cases h), (fun _ => rfl), qb hb3 hB7 hb3.size⟩
 · have : k = L.length := by omega
   subst this
   have hall : L.all jL = true := List.all_eq_true.2 fun x hx => by
     obtain ⟨j, hj, rfl⟩ := List.mem_iff_getElem.1 hx
     exact hok j (by omega) hj
   rw [List.take_length] at ho4
   rw [hall]
   refine ⟨a4, l4, c4, rfl, (fun _ => ⟨ho4, hf4.mono hb3.size, fun h0 => ?_⟩), (fun h => by cases h), qb hb3 hB6 hb3.size⟩
   exact absurd (List.map_eq_nil_iff.1 h0) hnz
end Go.Proofs.YtndbpedpdbjkpaaGreatDoor
namespace Go.Pk
theorem qrR (l : List Int) : One1 (i16 l) := fun c hc => by
 obtain ⟨x, _, rfl⟩ := List.mem_map.1 hc; rfl
theorem qra (w : World) (k : Nat) : w.grownBy w (some k) := ⟨rfl, rfl, rfl, Nat.le_refl _, fun _ _ _ => rfl⟩
theorem qqR {P : Program} {dT sT ty elem : TypeId} (hu : P.underlying dT = some (.slice elem)) (hs : (P.info? elem).map (·.size) = some 1) {w : World} {k : Nat} {T : TypeId} {vs : List Value} (h : qm w k T vs)
   {a : Option Addr} {n c : Nat} {xs : List Int} (ho : Ow tU16 elem w NoB a n c xs) (hnil : xs = [] -> a = none /\ n = 0 /\ c = 0) {o dLen dCap : Nat} {A : Addr} (hA : xs ≠ [] -> A = ⟨k, o, none⟩) (hd : xs.length <= dLen) (hfit : o + xs.length <= vs.length) :
   ∃ w', (Builtin.copy_ #[dT, sT] ty #[.slice (some A) dLen dCap, .slice a n c]).run P w = .ok (.int .i64 ((xs.length : Nat) : Int)) w' /\ qm w' k T (vs.take o ++ i16 xs ++ vs.drop (o + xs.length)) /\ w.grownBy w' (some k) := by
 by_cases hx : xs = []
 · obtain ⟨rfl, rfl, rfl⟩ := hnil hx
   subst hx
   refine ⟨w, run_copy_nil P w dT sT ty elem A dLen dCap hu (by rw [hs]; rfl), ?_, qra w k⟩
   simpa [i16] using h
 · have hn := ho.len
   obtain ⟨h1, h2, h3, h4⟩ := ho.all
   obtain ⟨b, off, rfl, hb, -, l, hr, hcells⟩ := h4.resolve_left hx
   have hl : l = i16 xs := qd0 (h1 := fun _ => rfl) hr
   subst hl
   rw [hA hx]
   have hln : (i16 xs).length = xs.length := by simp [i16]
   have hsrc : ∀ (j : Nat) (v : Value), (i16 xs)[j]? = some v -> w.cell? ((⟨b, off, none⟩ : Addr).add j) = some v := by
     intro j v hj
     have hjl : j < (i16 xs).length := (List.getElem?_eq_some_iff.1 hj).1
     have e : (⟨b, off, none⟩ : Addr).add j = ⟨b, off + j, none⟩ := by unfold Addr.add; split <;> simp_all
     rw [e, hcells j hjl, hj]
   have hmin : (i16 xs).length = Nat.min n dLen := by rw [hln, hn]; exact (Nat.min_eq_left (by omega)).symm
   have hrun := run_copy_row P w dT sT ty elem k o dLen dCap ⟨b, off, none⟩ n c vs.toArray T (i16 xs) hu hs h hmin hsrc (by rw [hln]; simpa using hfit) (qrR xs)
   rw [hln] at hrun
   have hh := setRow_heap w k vs.toArray (vs.take o ++ i16 xs ++ vs.drop (o + xs.length)).toArray T (0, 0) h
   exact ⟨_, hrun, hh, qa4 w k _⟩
theorem qpS {n : Nat} : IntKind.u8.wrap (n : Int) = (((UInt8.ofNat (n % 256)).toNat : Nat) : Int) := by
 have e : IntKind.u8.wrap (n : Int) = (n : Int) % 256 := rfl
 rw [e, qkg (by omega)]; omega
theorem qu1 {n : Nat} (h : n < 65536) : IntKind.u8.wrap (Int.fdiv (n : Int) (2 ^ (min (Int.toNat (8 : Int)) (IntKind.bits .u16)))) = (((UInt8.ofNat (n / 256)).toNat : Nat) : Int) := by
 have e1 : (2 : Int) ^ (min (Int.toNat (8 : Int)) (IntKind.bits .u16)) = 256 := by decide
 have e2 : Int.fdiv (n : Int) 256 = ((n / 256 : Nat) : Int) := by rw [Int.fdiv_eq_ediv_of_nonneg _ (by decide)]; omega
 rw [e1, e2, qcc (by omega) (by omega), qkg (by omega)]
end Go.Pk
namespace Go.Proofs.YtndbpedpdbjkpaaGreatDoor
open Go.Pk
open Go.RowKit (Below)
theorem qpn (g0 g1 g2 g3 g4 g5 g6 g7 : Nat) (hb : ∀ g ∈ [g0, g1, g2, g3, g4, g5, g6, g7], g < 65536) (w : World) :
   Calls prog qh6 #[.agg #[.int .u16 (g0 : Int), .int .u16 (g1 : Int), .int .u16 (g2 : Int), .int .u16 (g3 : Int), .int .u16 (g4 : Int), .int .u16 (g5 : Int), .int .u16 (g6 : Int), .int .u16 (g7 : Int)]] w
     (Ret fun v w' => v = adV (qdH [g0, g1, g2, g3, g4, g5, g6, g7]) /\ Below w.heap.size w w') := by
 apply qop
 unfold qj8
 intro k1 w1 hk1 hw1
 have hB1 := (hw1 ▸ qf w _ : Below w.heap.size w w1)
 have h11 : qm w1 k1 qG (i16 ([g0, g1, g2, g3, g4, g5, g6, g7].map fun g : Nat => (g : Int))) := qm.new hk1 hw1
 obtain ⟨G, hG⟩ : ∃ G, G = [g0, g1, g2, g3, g4, g5, g6, g7] := ⟨_, rfl⟩
 have hl8 : G.length = 8 := by rw [hG]; rfl
 rw [<- hG] at h11 hb ⊢
 clear hG
 intro k2 w2 hk2 hw2
 have hb2 := (hw2 ▸ qf w1 _ : Below w1.heap.size w1 w2)
 have hB2 := qb hB1 hb2 hB1.size
 have h22 : qm w2 k2 qk (adC ad0) := qm.new hk2 hw2
 intro k3 w3 hk3 hw3
 have hb3 := (hw3 ▸ qf w2 _ : Below w2.heap.size w2 w3)
 have hB3 := qb hB2 hb3 hB2.size
 have h33 : qm w3 k3 qk (adC ad0) := qm.new hk3 hw3
 have h23 := h22.below hb3
 have h13 := (h11.below hb2).below hb3
 have l1 := h11.lt
 have l2 := h22.lt
 have hk3w : w.heap.size <= k3 := by have := hB2.size; omega
 refine ⟨fun m i w' => ∃ k : Nat, k <= 8 /\ i = (k : Int) /\ m = 8 - k /\ qm w' k3 qk (adC (grpS G k)) /\ qm w' k2 qk (adC ad0) /\ qm w' k1 qG (i16 (G.map fun g : Nat => (g : Int))) /\ Below w.heap.size w w',
   ⟨_, 0, by omega, rfl, rfl, h33, h23, h13, hB3⟩, ?_⟩
 intro m i
 refine AllJ.of ?_ _
 rintro w6 ⟨k, hk, rfl, rfl, h36, h26, h16, hB6⟩
 refine BCase.of (fun h => ?_) (fun h => ?_) <;> simp only [dTx, dFx] at h
 · have hk8 : k < 8 := by omega
   have hgk := hb G[k] (List.getElem_mem (by omega))
   have e1 : i64.wrap (2 * (k : Int)) = ((2 * k : Nat) : Int) := by rw [wrap_i64 (by omega) (by omega)]; omega
   have e2 : i64.wrap (((2 * k : Nat) : Int) + 1) = ((2 * k + 1 : Nat) : Int) := by rw [wrap_i64 (by omega) (by omega)]; omega
   rw [e1, e2, z8, z8, z8]
   simp only [Nat.zero_add]
   have hin : (0 <= (k : Int) /\ (k : Int) < ((8 : Nat) : Int)) /\ True := ⟨⟨by omega, by omega⟩, trivial⟩
   have hin1 : (0 <= ((2 * k : Nat) : Int) /\ ((2 * k : Nat) : Int) < ((16 : Nat) : Int)) /\ True := ⟨⟨by omega, by omega⟩, trivial⟩
   have hin2 : (0 <= ((2 * k + 1 : Nat) : Int) /\ ((2 * k + 1 : Nat) : Int) < ((16 : Nat) : Int)) /\ True := ⟨⟨by omega, by omega⟩, trivial⟩
   have hd : Below w.heap.size w (World.drew w6) := qb hB6 (qcT rfl rfl rfl (Nat.le_refl _) (fun _ _ => rfl)) hB6.size
   have d3 : qm (World.drew w6) k3 qk (adC (grpS G k)) := h36
   have d2 : qm (World.drew w6) k2 qk (adC ad0) := h26
   have d1 : qm (World.drew w6) k1 qG (i16 (G.map fun g : Nat => (g : Int))) := h16
   have hget : (i16 (G.map fun g : Nat => (g : Int)))[k]? = some (.int .u16 ((G[k]'(by omega) : Nat) : Int)) := by
     unfold i16
     rw [List.getElem?_map, List.getElem?_map, List.getElem?_eq_getElem (by omega)]; rfl
   have ld : ∀ {wx : World}, qm wx k1 qG (i16 (G.map fun g : Nat => (g : Int))) -> (Instr.loadAt qa9 (.pointer (some ⟨k1, k, none⟩))).run prog wx = .ok (.int .u16 ((G[k]'(by omega) : Nat) : Int)) wx := fun hx => hx.load1 qk4 rfl hget
   have hlen := qkI hl8 hk
   obtain ⟨w8, hs8, h58, hg8⟩ := d3.put (P := prog) qeu (i := 2 * k) (v := .int .u8 (((UInt8.ofNat (G[k] / 256)).toNat : Nat) : Int)) (by rw [zF, hlen]; omega) rfl rfl
   rw [qig] at h58
   have d18 := d1.grown hg8 (qP (by omega))
   obtain ⟨w9, hs9, h59, hg9⟩ := h58.put (P := prog) qeu (i := 2 * k + 1) (v := .int .u8 (((UInt8.ofNat (G[k] % 256)).toNat : Nat) : Int)) (by rw [zF, List.length_set, hlen]; omega) rfl rfl
   rw [qig, qqi hl8 hk8] at h59
   have hfin : ∃ m' : Nat, m' < 8 - k /\ ∃ k' : Nat, k' <= 8 /\ i64.wrap ((k : Int) + 1) = (k' : Int) /\ m' = 8 - k' /\ qm w9 k3 qk (adC (grpS G k')) /\ qm w9 k2 qk (adC ad0) /\ qm w9 k1 qG (i16 (G.map fun g : Nat => (g : Int))) /\ Below w.heap.size w w9 :=
     ⟨8 - (k + 1), by omega, k + 1, by omega, by rw [wrap_i64 (by omega) (by omega)]; omega, rfl, h59, (d2.grown hg8 (qP (by omega))).grown hg9 (qP (by omega)), d18.grown hg9 (qP (by omega)), Below.put (Below.put hd hg8 hk3w) hg9 hk3w⟩
   rw [<- qu1 hgk] at hs8
   rw [<- qpS] at hs9
   refine ⟨hin, hin, ⟨_, ld d1, by decide, hin1, ⟨_, ld d1, w8, hs8, hin2, w9, hs9, hfin⟩, w8, hs8, _, ld d18, hin2, w9, hs9, hfin⟩, _, ld d1, _, ld d1, by decide, hin1, w8, hs8, hin2, w9, hs9, hfin⟩
 · have : k = 8 := by omega
   subst this
   have hlen : (adC (grpS G 8)).length = 16 := by rw [zF, qkI hl8 (by omega)]
   refine ⟨_, qR.load0 h36 hlen, ?_⟩
   exact qR.fin (K := fun vr wy => vr = adV (qdH G) /\ Below w.heap.size w wy) hlen (qaZ _) h26 rfl hB6 (by omega) fun wy hb => ⟨by rw [qtC hl8]; rfl, hb⟩
theorem qjS : Whl prog qG 8 := ⟨⟨_, _, qmV⟩, by kernel_rfl⟩
theorem qrk (s : List UInt8) (hs : s.length < 4294967281) (w : World) (he : Env w) : Calls prog qk5 #[.string (mkS s)] w (Ret fun v w' => v = adT (v6A s) /\ Below w.heap.size w w') := by
 apply qpF
 unfold qnp
 intro k2 w2 hk2 hw2
 have hB2 := (hw2 ▸ qf w _ : Below w.heap.size w w2)
 have h2 : qm w2 k2 qk (adC ad0) := qm.new hk2 hw2
 obtain ⟨m, hm⟩ := (he.step hB2).max
 refine (Tryz.strings_Cut (mkS s) (mkS [58, 58]) m w2 hs hm).mono ?_
 rintro _ w3 ⟨rfl, q, rfl⟩
 have hb3 : Below w2.heap.size w2 (w2.drewN q) := qcT rfl rfl rfl (Nat.le_refl _) (fun _ _ => rfl)
 have hB3 := qb hB2 hb3 hB2.size
 have h23 := h2.below hb3
 have hlen : (Lib.cut s [58, 58]).1.length <= s.length /\ (Lib.cut s [58, 58]).2.1.length <= s.length := by
   rcases qi1 s with ⟨h1, -⟩ | ⟨p, h1, -⟩ <;> rw [h1]
   · exact ⟨Nat.le_refl _, Nat.zero_le _⟩
   · exact ⟨by rw [List.length_take]; omega, by rw [List.length_drop]; omega⟩
 have hv6 : v6A s = (if fit6 (Lib.cut s [58, 58]).2.2 (rowP (Lib.cut s [58, 58]).1) (rowP (Lib.cut s [58, 58]).2.1) = true then some (v6L (rowP (Lib.cut s [58, 58]).1) (rowP (Lib.cut s [58, 58]).2.1)) else none).map qdH := rfl
 show ∃ (s15_0 : List UInt8) (s15_1 : List UInt8) (b15_2 : Bool), (Ending.returned (.tuple #[.string (mkS (Lib.cut s [58, 58]).1), .string (mkS (Lib.cut s [58, 58]).2.1), .bool (Lib.cut s [58, 58]).2.2]) : Ending) = .returned (.tuple #[.string (mkS s15_0), .string (mkS s15_1), .bool b15_2]) /\ _
 generalize Lib.cut s [58, 58] = C at *
 obtain ⟨f, b, g⟩ := C
 refine ⟨f, b, g, rfl, ?_⟩
 have hlf : f.length <= s.length := hlen.1
 have hlb : b.length <= s.length := hlen.2
 have hv : v6A s = (if fit6 g (rowP f) (rowP b) = true then some (v6L (rowP f) (rowP b)) else none).map qdH := hv6
 clear hv6 hlen
 refine callK (qlu f (by omega) _ (he.step hB3)) ?_
 rintro _ w4 ⟨a4, n4, c4, rfl, hok4, hno4, hb4⟩
 have hB4 := qb hB3 hb4 hB3.size
 refine ⟨_, _, _, _, rfl, ?_⟩
 refine callK (qlu b (by omega) w4 (he.step hB4)) ?_
 rintro _ w5 ⟨a5, n5, c5, rfl, hok5, hno5, hb5⟩
 have hB5 := qb hB4 hb5 hB4.size
 have h25 := (h23.below hb4).below hb5
 refine ⟨_, _, _, _, rfl, ?_⟩
 have hrl : ∀ t : List UInt8, (rowP t).length <= t.length + 1 := fun t => by
   unfold rowP
   split
   · simp
   · exact j0 58 t []
 have hIl : ∀ t : List UInt8, (rowI t).length = (rowP t).length := fun t => by simp [rowI]
 have hrf := hrl f
 have hrb := hrl b
 have hn4 : (rowP f).all jL = true -> n4 = (rowP f).length := fun h => by rw [<- hIl]; exact (hok4 h).1.len
 have hn5 : (rowP b).all jL = true -> n5 = (rowP b).length := fun h => by rw [<- hIl]; exact (hok5 h).1.len
 have none_end : ∀ {wx : World}, fit6 g (rowP f) (rowP b) = false -> qm wx k2 qk (adC ad0) -> Below w.heap.size w wx -> _ := fun {wx} hf h2x hBx => qR.fin (K := fun vr wy => (.tuple #[vr, .bool false] : Value) = adT (v6A s) /\ Below w.heap.size w wy) (cs := adC ad0) rfl (qaZ _) h2x rfl hBx (by omega) fun wy hb => ⟨by rw [hv, hf]; rfl, hb⟩
 refine factJ (w := w5) (fit6 g (rowP f) (rowP b) = true) ?_ (fun hfit => ?_)
 · refine ⟨fun x w' => w' = w5 /\ x = !(fit6 g (rowP f) (rowP b)), ?_, ?_⟩
   · refine BCase.of (fun h1 => ⟨rfl, ?_⟩) (fun h1 => ?_)
     · have h1' : (rowP f).all jL = false := by simpa only [Bool.not_eq_true'] using h1
       unfold fit6; rw [h1', Bool.false_and, Bool.false_and]; rfl
     have h1' : (rowP f).all jL = true := by simpa only [Bool.not_eq_false'] using h1
     refine BCase.of (fun h2 => ⟨rfl, ?_⟩) (fun h2 => ?_)
     · have h2' : (rowP b).all jL = false := by simpa only [Bool.not_eq_true'] using h2
       unfold fit6; rw [h2', Bool.and_false, Bool.false_and]; rfl
     have h2' : (rowP b).all jL = true := by simpa only [Bool.not_eq_false'] using h2
     have ef : fit6 g (rowP f) (rowP b) = if g then decide ((rowP f).length + (rowP b).length < 8) else decide ((rowP f).length + (rowP b).length = 8) := by unfold fit6; rw [h1', h2', Bool.and_self, Bool.true_and]
     rw [ef, hn4 h1', hn5 h2', wrap_i64 (by omega) (by omega)]
     cases g with
     | true =>
       refine BCase.yes rfl (BCase.of (fun h3 => ⟨rfl, ?_⟩) (fun h3 => BCase.no rfl ⟨rfl, ?_⟩)) <;> simp at h3 ⊢ <;> omega
     | false =>
       refine BCase.no rfl (BCase.yes rfl ⟨rfl, ?_⟩)
       rw [Bool.eq_iff_iff]; simp; omega
   · intro x
     refine AllJ.of ?_ _
     rintro wj ⟨hwj, hx⟩
     rw [hwj, hx]; clear hwj hx
     exact BCase.of (fun h1 => none_end (by simpa only [Bool.not_eq_true'] using h1) h25 hB5) (fun h1 => ⟨rfl, by simpa only [Bool.not_eq_false'] using h1⟩)
 · have hf2 := hfit
   unfold fit6 at hf2
   rw [Bool.and_eq_true, Bool.and_eq_true] at hf2
   obtain ⟨⟨ga, gb⟩, gl⟩ := hf2
   have hl8 : (rowP f).length + (rowP b).length <= 8 := by
     split at gl
     · have := of_decide_eq_true gl; omega
     · have := of_decide_eq_true gl; omega
   obtain ⟨ho4, hf4, hz4⟩ := hok4 ga
   obtain ⟨ho5, hf5, hz5⟩ := hok5 gb
   rw [hn5 gb]
   intro k12 w12 hk12 hw12
   have hb12 := (hw12 ▸ qf w5 _ : Below w5.heap.size w5 w12)
   have hB12 := qb hB5 hb12 hB5.size
   have h12 : qm w12 k12 qG (i16 [0, 0, 0, 0, 0, 0, 0, 0]) := qm.new hk12 hw12
   have ho42 := (ho4.below hb5).below hb12
   have ho52 := ho5.below hb12
   have og4 : ∀ g, ownB a4 = some g -> g ≠ k12 := fun g hg e => by have := ho4.lt g hg; have := hb5.size; omega
   have og5 : ∀ g, ownB a5 = some g -> g ≠ k12 := fun g hg e => by have := ho5.lt g hg; omega
   have hk12w : w.heap.size <= k12 := by have := hB5.size; omega
   have l2 := h25.lt
   obtain ⟨w6, hr6, h16, hg6⟩ := qqR (P := prog) (sT := qao) (ty := qx) (dLen := 8) (dCap := 8) (o := 0) (A := ⟨k12, 0, none⟩) qgq (by kernel_rfl) h12 ho42 hz4 (fun _ => rfl) (by rw [hIl]; omega) (by rw [hIl]; simp [i16]; omega)
   have e5 : Int.toNat (i64.wrap ((8 : Int) - (((rowP b).length : Nat) : Int))) = 8 - (rowP b).length := by rw [wrap_i64 (by omega) (by omega)]; omega
   have e5' : i64.wrap ((8 : Int) - (((rowP b).length : Nat) : Int)) = ((8 - (rowP b).length : Nat) : Int) := by rw [wrap_i64 (by omega) (by omega)]; omega
   refine ⟨trivial, w6, _, hr6, ⟨by rw [e5']; omega, by rw [e5']; omega⟩, ?_⟩
   rw [e5]
   have ho56 := ho52.put og5 hg6
   have hlen16 : (List.take 0 (i16 [0, 0, 0, 0, 0, 0, 0, 0]) ++ i16 (rowI f) ++ List.drop (0 + (rowI f).length) (i16 [0, 0, 0, 0, 0, 0, 0, 0])).length = 8 := by
     have := hIl f
     simp [i16]; omega
   obtain ⟨w7, hr7, h17, hg7⟩ := qqR (P := prog) (sT := qao) (ty := qx) (dLen := 8 - (8 - (rowP b).length)) (dCap := 8 - (8 - (rowP b).length)) (o := 8 - (rowP b).length) (A := if 8 = 8 - (rowP b).length then ⟨k12, 0, none⟩ else Addr.add ⟨k12, 0, none⟩ ((8 - (rowP b).length) * 1)) qgq (by kernel_rfl) h16 ho56 hz5
     (fun hne => by
       have : (rowP b).length ≠ 0 := fun e => hne (List.length_eq_zero_iff.1 (by rw [hIl]; exact e))
       rw [if_neg (by omega)]
       unfold Addr.add; split <;> simp_all) (by rw [hIl]; omega) (by rw [hIl, hlen16]; omega)
   rw [hn5 gb] at hr7
   refine ⟨w7, _, hr7, ?_⟩
   obtain ⟨G, hG⟩ : ∃ G, G = v6L (rowP f) (rowP b) := ⟨_, rfl⟩
   have hGl : G.length = 8 := by rw [hG]; simp [v6L]; omega
   have hGb : ∀ x ∈ G, x < 65536 := fun x hx => by
     rw [hG] at hx
     unfold v6L at hx
     rcases List.mem_append.1 hx with hx | hx
     · rcases List.mem_append.1 hx with hx | hx
       · obtain ⟨y, hy, rfl⟩ := List.mem_map.1 hx; exact qtw (List.all_eq_true.1 ga y hy)
       · rw [(List.mem_replicate.1 hx).2]; decide
     · obtain ⟨y, hy, rfl⟩ := List.mem_map.1 hx; exact qtw (List.all_eq_true.1 gb y hy)
   have hcells : (List.take 0 (i16 [0, 0, 0, 0, 0, 0, 0, 0]) ++ i16 (rowI f) ++ List.drop (0 + (rowI f).length) (i16 [0, 0, 0, 0, 0, 0, 0, 0])).take (8 - (rowP b).length) ++ i16 (rowI b) ++ (List.take 0 (i16 [0, 0, 0, 0, 0, 0, 0, 0]) ++ i16 (rowI f) ++ List.drop (0 + (rowI f).length) (i16 [0, 0, 0, 0, 0, 0, 0, 0])).drop (8 - (rowP b).length + (rowI b).length) = i16 (G.map fun x : Nat => (x : Int)) := by
     have hz : i16 [0, 0, 0, 0, 0, 0, 0, 0] = List.replicate 8 (Value.int .u16 0) := rfl
     rw [hz, List.take_zero, List.nil_append, List.drop_replicate, hIl, hIl, Nat.zero_add, hG]
     rw [show 8 - (rowP b).length + (rowP b).length = 8 by omega, List.drop_eq_nil_of_le (by simp [i16, rowI]; omega), List.append_nil]
     rw [List.take_append, List.take_of_length_le (by simp [i16, rowI]; omega), List.take_replicate]
     have e1 : min (8 - (rowP b).length - (i16 (rowI f)).length) (8 - (rowP f).length) = 8 - (rowP f).length - (rowP b).length := by
       have : (i16 (rowI f)).length = (rowP f).length := by simp [i16, rowI]
       omega
     rw [e1]
     unfold v6L i16 rowI
     simp
     rfl
   rw [hcells] at h17
   have hB7 := Below.put (Below.put hB12 hg6 hk12w) hg7 hk12w
   have h27 := ((h25.below hb12).grown hg6 (qP (by omega))).grown hg7 (qP (by omega))
   have hvG : v6A s = some (qdH G) := by rw [hv, hfit, hG]; rfl
   clear hG hcells hlen16
   match G, hGl, hGb, h17, hvG with
   | [g0, g1, g2, g3, g4, g5, g6, g7], _, hGb, h17, hvG =>
     refine ⟨_, _, _, _, _, _, _, _, qjS.load0 h17 rfl, ?_⟩
     refine callK (qpn g0 g1 g2 g3 g4 g5 g6 g7 hGb w7) ?_
     rintro _ w8 ⟨rfl, hb8⟩
     have hB8 := qb hB7 hb8 hB7.size
     refine ⟨_, rfl, ?_⟩
     exact qR.fin (K := fun vr wy => (.tuple #[vr, .bool true] : Value) = adT (v6A s) /\ Below w.heap.size w wy) (by rw [zF]; exact qsB s _ hvG) (qaZ _) (h27.below hb8) rfl hB8 (by omega) fun wy hb => ⟨by rw [hvG]; rfl, hb⟩
end Go.Proofs.YtndbpedpdbjkpaaGreatDoor
