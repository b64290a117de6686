/- What the laws lean on: HostC, Sub, HostD, V4, UrlA, UrlB, MatA, MapG; what is used. Its conditions: none. -/
import Derived.Test.YtlfolncaghkmcaaGreatDoorKE
import Derived.Lib.LastIndexByte
open Go.IntKind (i64)
open Go.Proofs.Tryz (prog)
set_option linter.unusedVariables false
set_option linter.unusedSimpArgs false
set_option maxRecDepth 20000
namespace Go.Pk
def qfV (h : Hst) : List UInt8 := if h.kind = 1 then h.name else if h.kind = 2 then qjB h.ad else if h.kind = 3 then [91] ++ qlF h.ad ++ [93] else []
def jh (h : Hst) : Bool := match jl (qfV h) with | some g => qbA g h | none => false
def labelsV (h : Hst) : List (List UInt8) := if h.kind = 1 /\ jh h = true then cutC 46 [] h.name else []
theorem qA2 {a : List UInt8} (h : a.length = 16) : (qjB a).length <= 88 := by
 have := qs3 ((a.drop 12).map fun c => decL c.toNat) 46 21 (fun x hx => by
   obtain ⟨c, _, rfl⟩ := List.mem_map.1 hx
   have := qgK c
   exact qbE (by omega))
 rw [List.length_map, List.length_drop, h] at this
 exact this
theorem qlG (a : List UInt8) : (qlF a).length <= 90 := by
 have hgl := qjo a
 unfold qlF
 split
 · have := qgY (qmT a); omega
 · have l1 := qgY (l := (gL a).take (jI (zsA a)).1) fun x hx => qmT a x (List.mem_of_mem_take hx)
   have l2 := qgY (l := (gL a).drop ((jI (zsA a)).1 + (jI (zsA a)).2)) fun x hx => qmT a x (List.mem_of_mem_drop hx)
   rw [List.length_take] at l1
   rw [List.length_drop] at l2
   simp; omega
theorem qnu {h : Hst} (o : h.ok) : (qfV h).length <= h.name.length + 100 := by
 have h4 := qA2 o
 have h6 := qlG h.ad
 unfold qfV
 split
 · omega
 split
 · omega
 split
 · simp; omega
 · simp
theorem qBg {h : Hst} (j : Nat) : h.cells[2 + j]? = (adC h.ad)[j]? := by rw [Nat.add_comm]; rfl
end Go.Pk
namespace Go.Proofs.YtlfolncaghkmcaaGreatDoor
open Go.Pk
open Go.RowKit (Below)
theorem qoP {h : Hst} (o : h.ok) {w : World} {k : Nat} {T : TypeId} (ha : qk w k T h.cells) : (Instr.loadAt qr (.pointer (some ⟨k, 2, none⟩))).run prog w = .ok (adV h.ad) w :=
 z6.load ha (i := 2) (us := adC h.ad) (by rw [qaT, o]) fun j _ => qBg j
theorem ref03_Parse_ok (s : List UInt8) (hs : s.length <= 90000000) (w : World) : Calls prog qan #[.string (mkS s)] w (Ret (qok s w)) := by
 apply qtE
 unfold qpe
 intro k2 w2 hk2 hw2
 have hB2 := (hw2 ▸ qj w _ : Below w.heap.size w w2)
 have h2 : qk w2 k2 qf hst0.cells := qk.new hk2 hw2
 have hk2w : w.heap.size <= k2 := by omega
 have fin : ∀ {wx : World} (o : Option Hst), (∀ x, o = some x -> x.ok) -> jl s = o -> qk wx k2 qf hst0.cells -> Below w.heap.size w wx ->
     ∃ wy, (Instr.storeAt qf (.pointer (some ⟨k2, 0, none⟩)) (o.getD hst0).v).run prog wx = .ok () wy /\ ∃ vr : Value, (qs qf (.pointer (some ⟨k2, 0, none⟩))).run prog wy = .ok vr wy /\ qok s w (.tuple #[vr, .int .i64 (if o.isSome then 0 else 31)]) wy := fun {wx} o ho hv h2x hBx =>
   qv.fin (K := fun vr wy => qok s w (.tuple #[vr, .int .i64 (if o.isSome then 0 else 31)]) wy) (cs := (o.getD hst0).cells) (Hst.len (qgX ho)) (Hst.one _) h2x rfl hBx hk2w fun wy hb => ⟨by rw [hv, qdq]; rfl, hb⟩
 have bad := fun {wx : World} (hv : jl s = none) (h2x : qk wx k2 qf hst0.cells) (hBx : Below w.heap.size w wx) => fin none (fun x hx => by cases hx) hv h2x hBx
 refine factJ (w := w2) (¬ s.head? = some 91) ?_ (fun h91 => ?_)
 · refine ⟨fun b w' => w' = w2 /\ b = decide (s.head? = some 91), BCase.of (fun h => ⟨⟨by decide, by simpa using h⟩, rfl, ?_⟩) (fun h => ⟨rfl, ?_⟩), fun b => AllJ.of ?_ _⟩
   · have hl : 0 < s.length := by simpa using h
     have hb := zG (s := s) (k := 0) hl
     rw [show ((0 : Nat) : Int) = 0 from rfl] at hb
     have hu := qaf s[0] 91
     rw [show (((91 : UInt8).toNat : Nat) : Int) = 91 from rfl] at hu
     rw [hb, hu, List.head?_eq_getElem?, List.getElem?_eq_getElem hl, Bool.eq_iff_iff]
     simp
   · have hl : s = [] := by
       simp only [gt_iff_lt, dFx] at h
       exact List.length_eq_zero_iff.1 (by omega)
     subst hl; rfl
   · rintro wj ⟨hwj, hb⟩
     rw [hwj, hb]; clear hwj hb
     refine BCase.of (fun h => ?_) (fun h => ⟨rfl, of_decide_eq_false h⟩)
     have h91 : s.head? = some 91 := of_decide_eq_true h
     have hne : s ≠ [] := by rintro rfl; cases h91
     have hl : 0 < s.length := List.length_pos_iff.2 hne
     have hv : jl s = if s.getLast? = some 93 then (v6A ((s.drop 1).take (s.length - 2))).map fun a => ⟨3, [], a⟩ else none := by unfold jl; rw [if_pos h91]
     have ei : i64.wrap (((s.length : Nat) : Int) - 1) = ((s.length - 1 : Nat) : Int) := by rw [wrap_i64 (by omega) (by omega)]; omega
     rw [ei, zG (show s.length - 1 < s.length by omega)]
     have hgl : s.getLast? = some (s[s.length - 1]'(by omega)) := by rw [List.getLast?_eq_getElem?, List.getElem?_eq_getElem (by omega)]
     have hu := qaf (s[s.length - 1]'(by omega)) 93
     rw [show (((93 : UInt8).toNat : Nat) : Int) = 93 from rfl] at hu
     refine ⟨⟨by omega, by omega⟩, ?_⟩
     simp only [bne, hu]
     refine BCase.of (fun hc => bad ?_ h2 hB2) (fun hc => ?_)
     · rw [hv, if_neg]
       rw [hgl]
       intro e
       rw [Option.some.inj e] at hc; simp at hc
     · have hlast : s.getLast? = some 93 := by rw [hgl]; simpa using hc
       have hl2 : 2 <= s.length := by
         refine Decidable.byContradiction fun hc2 => ?_
         have e1 : s.length = 1 := by omega
         obtain ⟨x, rfl⟩ := List.length_eq_one_iff.1 e1
         rw [Option.some.inj (show some x = some 91 from h91)] at hlast
         cases hlast
       rw [if_pos hlast] at hv
       simp only [Int.toNat_natCast]
       refine ⟨⟨⟨by omega, by omega⟩, by decide, by omega⟩, ?_⟩
       intro s32 e32
       have e33 : s32 = (s.drop 1).take (s.length - 2) := by
         rw [e32, show (Int.toNat 1) = 1 from rfl, List.drop_take, show s.length - 1 - 1 = s.length - 2 by omega]
       rw [<- e33] at hv
       have l32 : s32.length <= s.length := by rw [e33]; simp; omega
       refine callK (ref02_V6_ok s32 (by omega) w2) ?_
       rintro _ w4 ⟨rfl, hb4⟩
       have hB4 := qd hB2 hb4 hB2.size
       refine ⟨_, _, by rw [quW], ?_⟩
       have hal := qrv (qA8 s32)
       refine z6.new (zs := adC ad0) (cs := adC ((v6A s32).getD ad0)) rfl hal (qfP _) w4 fun k8 w8 hk8 h8 hb8 => ?_
       have hB8 := qd hB4 hb8 hB4.size
       have h28 := (h2.below hb4).below hb8
       cases ho : v6A s32 with
       | none => 
         exact BCase.yes rfl (bad (by rw [hv, ho]; rfl) h28 hB8)
       | some x =>
         rw [ho] at h8 hal
         refine BCase.no rfl ⟨_, z6.load0 h8 hal, _, qqY 3 (by rw [<- qaT]; exact hal) w8, ?_⟩
         exact fin (some ⟨3, [], x⟩) (fun y hy => by cases hy; show x.length = 16; rw [<- qaT]; exact hal) (by rw [hv, ho]; rfl) h28 hB8
 · have hv : jl s = if jS (qui (cutC 46 [] (lowL s))) = true then (v4V s).map fun a => ⟨2, [], a⟩ else if s.length <= 253 /\ (cutC 46 [] (lowL s)).all labelB = true then some ⟨1, lowL s, ad0⟩ else none := by unfold jl; rw [if_neg h91]
   refine callK (ref01_Lower_ok s (by omega) w2) ?_
   rintro _ w3 ⟨rfl, hb3⟩
   have hB3 := qd hB2 hb3 hB2.size
   refine ⟨_, rfl, ?_⟩
   have ll : (lowL s).length = s.length := by simp [lowL]
   refine callK (jX (lowL s) 46 (by omega) w3) ?_
   rintro _ w4 ⟨a, n, c, rfl, ho, hf, hb4⟩
   have hB4 := qd hB3 hb4 hB3.size
   have h24 := (h2.below hb3).below hb4
   have hn := ho.len
   subst hn
   have hlens : ∀ x ∈ cutC 46 [] (lowL s), x.length <= s.length := fun x hx => by have := qhE 46 (lowL s) [] x hx; simp [ll] at this; omega
   have hcn := qbH 46 (lowL s) []
   have hnz : 0 < (cutC 46 [] (lowL s)).length := List.length_pos_iff.2 (qcw 46 (lowL s) [])
   refine ⟨_, _, _, rfl, ?_⟩
   generalize cutC 46 [] (lowL s) = L at *
   have ei : i64.wrap (((L.length : Nat) : Int) - 1) = ((L.length - 1 : Nat) : Int) := by rw [wrap_i64 (by omega) (by omega)]; omega
   rw [ei]
   refine ⟨⟨⟨by omega, by omega⟩, ho.all.isSome hnz⟩, _, ho.all.text un_string (by omega), ?_⟩
   rw [<- qqb hnz]
   have hll : (qui L).length <= s.length := by rw [qqb hnz]; exact hlens _ (List.getElem_mem _)
   refine callK (ref01_Digits_ok (qui L) (by omega) w4) ?_
   rintro _ w5 ⟨rfl, hw5⟩
   rw [hw5]; clear hw5
   refine ⟨_, rfl, BCase.of (fun hd => ?_) (fun hd => ?_)⟩
   · rw [if_pos hd] at hv
     refine callK (qxW s (by omega) w4) ?_
     rintro _ w6 ⟨rfl, hb6⟩
     have hB6 := qd hB4 hb6 hB4.size
     refine ⟨_, _, by rw [quW], ?_⟩
     have hal := qrv (qDd s)
     refine z6.new (zs := adC ad0) (cs := adC ((v4V s).getD ad0)) rfl hal (qfP _) w6 fun k8 w8 hk8 h8 hb8 => ?_
     have hB8 := qd hB6 hb8 hB6.size
     have h28 := (h24.below hb6).below hb8
     cases ho : v4V s with
     | none =>
       rw [ho] at hv
       exact BCase.yes rfl (bad hv h28 hB8)
     | some x =>
       rw [ho] at hv h8 hal
       refine BCase.no rfl ⟨_, z6.load0 h8 hal, _, qqY 2 (by rw [<- qaT]; exact hal) w8, ?_⟩
       exact fin (some ⟨2, [], x⟩) (fun y hy => by cases hy; show x.length = 16; rw [<- qaT]; exact hal) hv h28 hB8
   · rw [if_neg (by rw [hd]; decide)] at hv
     have hbad : ¬ (s.length <= 253 /\ L.all labelB = true) -> jl s = none := fun h => by rw [hv, if_neg h]
     refine ⟨fun m i w' => ∃ k : Nat, k <= L.length /\ i = (k : Int) /\ m = L.length - k /\ (L.take k).all labelB = true /\ w' = w4, ⟨_, 0, by omega, rfl, rfl, rfl, rfl⟩, ?_⟩
     intro m i
     refine AllJ.of ?_ _
     rintro w5 ⟨k, hk, rfl, rfl, hno, hw5⟩
     rw [hw5]; clear hw5
     refine BCase.of (fun h => ?_) (fun h => ?_) <;> simp only [dTx, dFx] at h
     · have hlt : k < L.length := by omega
       refine ⟨⟨⟨by omega, h⟩, ho.all.isSome (by omega)⟩, _, ho.all.text un_string hlt, ?_⟩
       refine callK (qun L[k] (by have := hlens _ (List.getElem_mem hlt); omega) w4) ?_
       rintro _ w6 ⟨rfl, hw6⟩
       rw [hw6]; clear hw6
       refine ⟨_, rfl, BCase.of (fun h3 => bad (hbad fun hc => ?_) h24 hB4) (fun h3 => ?_)⟩
       · rw [List.all_eq_true.1 hc.2 _ (List.getElem_mem hlt)] at h3; cases h3
       · refine ⟨L.length - (k + 1), by omega, k + 1, by omega, by rw [wrap_i64 (by omega) (by omega)]; omega, rfl, ?_, rfl⟩
         rw [List.take_succ_eq_append_getElem hlt, List.all_append, hno]
         simpa using h3
     · have : k = L.length := by omega
       subst this
       rw [List.take_length] at hno
       refine BCase.of (fun h3 => bad (hbad fun hc => ?_) h24 hB4) (fun h3 => ?_) <;> simp only [gt_iff_lt, dTx, dFx] at h3
       · have := hc.1; omega
       · exact fin (some ⟨1, lowL s, ad0⟩) (fun x hx => by cases hx; rfl) (by rw [hv, if_pos ⟨by omega, hno⟩]) h24 hB4
theorem qnv {h : Hst} (o : h.ok) (w : World) (he : Env w) : Calls prog qj7 #[h.v] w (Ret fun v w' => v = .string (mkS (qfV h)) /\ Below w.heap.size w w') := by
 apply qwa
 unfold qrO
 intro k1 w1 hk1 hw1
 have hB1 := (hw1 ▸ qj w _ : Below w.heap.size w w1)
 have h1 : qk w1 k1 qf h.cells := qk.new hk1 hw1
 refine ⟨rfl, _, h1.load1 qK rfl rfl, ?_⟩
 unfold qfV
 refine BCase.of (fun c1 => ?_) (fun c1 => ?_) <;> simp only [beq_iff_eq, beq_eq_false_iff_ne, ne_eq] at c1
 · rw [if_pos c1]
   exact ⟨rfl, _, h1.load1 un_string rfl rfl, rfl, hB1⟩
 rw [if_neg c1]
 refine BCase.of (fun c2 => ?_) (fun c2 => ?_) <;> simp only [beq_iff_eq, beq_eq_false_iff_ne, ne_eq] at c2
 · rw [if_pos c2]
   refine ⟨rfl, _, qoP o h1, ?_⟩
   refine callK (qvr h.ad o w1 (he.step hB1)) ?_
   rintro _ w2 ⟨rfl, hb2⟩
   exact ⟨_, rfl, rfl, qd hB1 hb2 hB1.size⟩
 rw [if_neg c2]
 refine BCase.of (fun c3 => ?_) (fun c3 => ?_) <;> simp only [beq_iff_eq, beq_eq_false_iff_ne, ne_eq] at c3
 · rw [if_pos c3]
   refine ⟨rfl, _, qoP o h1, ?_⟩
   refine callK (qvs h.ad o w1 (he.step hB1)) ?_
   rintro _ w2 ⟨rfl, hb2⟩
   have h6 := qlG h.ad
   refine ⟨_, rfl, fits (by simp; omega), ?_⟩
   rintro _ rfl
   refine ⟨fits (by simp; omega), ?_⟩
   rintro _ rfl
   exact ⟨rfl, qd hB1 hb2 hB1.size⟩
 · rw [if_neg c3]
   exact ⟨rfl, hB1⟩
theorem qiG {h : Hst} (o : h.ok) (hn : h.name.length <= 1000000000) (w : World) (he : Env w) : Calls prog qhd #[h.v] w (Ret fun v w' => v = .bool (jh h) /\ Below w.heap.size w w') := by
 apply quD
 unfold qqN
 have hxl := qnu o
 intro k1 w1 hk1 hw1
 have hB1 := (hw1 ▸ qj w _ : Below w.heap.size w w1)
 have h1 : qk w1 k1 qf h.cells := qk.new hk1 hw1
 refine ⟨_, qv.load0 h1 (Hst.len o), ?_⟩
 refine callK (qnv o w1 (he.step hB1)) ?_
 rintro _ w2 ⟨rfl, hb2⟩
 have hB2 := qd hB1 hb2 hB1.size
 refine ⟨_, rfl, ?_⟩
 refine callK (qmh (qfV h) (by omega) w2 (he.step hB2)) ?_
 rintro _ w3 ⟨rfl, hb3⟩
 have hB3 := qd hB2 hb3 hB2.size
 refine ⟨_, _, by rw [qdq], ?_⟩
 have hok : ((jl (qfV h)).getD hst0).ok := qgX fun x hx => qdN hx
 refine qv.new (zs := hst0.cells) (cs := ((jl (qfV h)).getD hst0).cells) rfl (Hst.len hok) (Hst.one _) w3 fun k4 w4 hk4 h4 hb4 => ?_
 have hB4 := qd hB3 hb4 hB3.size
 have h14 := ((h1.below hb2).below hb3).below hb4
 unfold jh
 cases hv : jl (qfV h) with
 | none => exact BCase.no rfl ⟨rfl, hB4⟩
 | some g =>
   rw [hv] at h4 hok
   exact BCase.yes rfl ⟨_, qv.load0 h4 (Hst.len hok), _, qv.load0 h14 (Hst.len o), _, qg3 hok o w4, rfl, hB4⟩
def qk4 (h : Hst) (w : World) (v : Value) (w' : World) : Prop := ∃ (a : Option Addr) (n c : Nat), v = .slice a n c /\ Ow tS qh w' NoB a n c (labelsV h) /\ zq w.heap.size a /\ Below w.heap.size w w'
theorem qgU {h : Hst} (o : h.ok) (hn : h.name.length <= 1000000000) (w : World) (he : Env w) : Calls prog qaR #[h.v] w (Ret (qk4 h w)) := by
 apply qtq
 unfold qo1
 intro k1 w1 hk1 hw1
 have hB1 := (hw1 ▸ qj w _ : Below w.heap.size w w1)
 have h1 : qk w1 k1 qf h.cells := qk.new hk1 hw1
 have none_end : ∀ {wx : World}, ¬ (h.kind = 1 /\ jh h = true) -> Below w.heap.size w wx -> qk4 h w (.slice none 0 0) wx := fun hc hb => ⟨none, 0, 0, rfl, by unfold labelsV; rw [if_neg hc]; exact Ow.nil _ _ _ _, zq.none _, hb⟩
 refine worldJ (fun w' => (h.kind = 1 /\ jh h = true) /\ Below w1.heap.size w1 w') ⟨rfl, _, h1.load1 qK rfl rfl, ?_⟩ ?_
 · refine BCase.of (fun c => none_end (fun hc => ?_) hB1) (fun c => ?_)
   · rw [hc.1] at c; simp at c
   · have hk : h.kind = 1 := by simpa using c
     refine ⟨_, qv.load0 h1 (Hst.len o), ?_⟩
     refine callK (qiG o hn w1 (he.step hB1)) ?_
     rintro _ w2 ⟨rfl, hb2⟩
     refine ⟨_, rfl, BCase.of (fun c2 => none_end (fun hc => ?_) (qd hB1 hb2 hB1.size)) (fun c2 => ⟨⟨hk, by simpa using c2⟩, hb2⟩)⟩
     rw [hc.2] at c2; cases c2
 · rintro w2 ⟨hc, hb2⟩
   have hB2 := qd hB1 hb2 hB1.size
   refine ⟨rfl, _, (h1.below hb2).load1 un_string rfl rfl, ?_⟩
   refine callK (qgV h.name 46 (by omega) w2 (he.step hB2)) ?_
   rintro _ w3 ⟨a, n, c, rfl, ho, hf, hb3⟩
   exact ⟨_, _, _, rfl, _, _, _, rfl, by unfold labelsV; rw [if_pos hc]; exact ho, hf.mono hB2.size, qd hB2 hb3 hB2.size⟩
end Go.Proofs.YtlfolncaghkmcaaGreatDoor
namespace Go.Pk
theorem RepL.drop {α : Type} {T : Ty α} {w : World} {A : Bl} {l : List Value} {xs : List α} (h : RepL T w A l xs) (j : Nat) : RepL T w A (l.drop (j * T.k)) (xs.drop j) := by
 refine ⟨by rw [List.length_drop, List.length_drop, h.len, Nat.sub_mul], fun i hi => ?_⟩
 have hi' : j + i < xs.length := by rw [List.length_drop] at hi; omega
 have := h.rep (j + i) hi'
 rw [List.drop_drop, List.getElem_drop]
 rw [Nat.add_mul] at this
 exact this
theorem Sl.from {α : Type} {T : Ty α} {w : World} {A : Bl} {a : Option Addr} {n c : Nat} {xs : List α} (h : Sl T w A a n c xs) (j : Nat) (hj : j <= xs.length) {k : Nat} (hk : T.k = k) : Sl T w A (qy a c j k) (n - j) (c - j) (xs.drop j) := by
 subst hk
 obtain ⟨h1, h2, h3, h4⟩ := h
 refine ⟨by rw [List.length_drop, h1], by omega, by omega, ?_⟩
 rcases h4 with h4 | ⟨b, off, e, hb, hab, l, h5, h6⟩
 · left; rw [h4]; simp
 · by_cases hc : c = j
   · left
     exact List.drop_eq_nil_of_le (by omega)
   · right
     refine ⟨b, off + j * T.k, ?_, hb, hab, l.drop (j * T.k), h5.drop j, fun i hi => ?_⟩
     · unfold qy; rw [if_neg hc, e, Option.map_some, jj]
     · rw [List.length_drop] at hi
       rw [Nat.add_assoc, h6 _ (by omega), List.getElem?_drop]
end Go.Pk
namespace Go.Pk
def qjT (L : List (List UInt8)) (n : Nat) : List UInt8 := Lib.join (L.drop (L.length - n)) [46]
def qrp (L : List (List UInt8)) (n : Nat) : Value := if 1 <= n /\ n <= L.length then .tuple #[(⟨1, qjT L n, ad0⟩ : Hst).v, .bool true] else .tuple #[hst0.v, .bool false]
def qdA (h d : Hst) : Bool := if (labelsV d).length = 0 \/ (labelsV h).length <= (labelsV d).length then false else qbA ⟨1, qjT (labelsV h) (labelsV d).length, ad0⟩ d
theorem qxh {o : Option (List UInt8)} {h : Hst} (e : (o.map fun a => (⟨3, [], a⟩ : Hst)) = some h) : h.kind = 3 := by
 cases o with
 | none => cases e
 | some a => cases e; rfl
theorem jK {d : Hst} (o : d.ok) (hk : d.kind = 1) (hr : jh d = true) : d = ⟨1, d.name, ad0⟩ /\ lowL d.name = d.name /\ (cutC 46 [] d.name).all labelB = true /\ d.name.length <= 253 /\ jS (qui (cutC 46 [] d.name)) = false /\ jl d.name = some d := by
 have hx : qfV d = d.name := by unfold qfV; rw [if_pos hk]
 unfold jh at hr
 rw [hx] at hr
 cases hv : jl d.name with
 | none => rw [hv] at hr; cases hr
 | some g =>
   rw [hv] at hr
   obtain rfl := (qaD (qdN hv) o).1 hr
   have hv' := hv
   unfold jl at hv'
   split at hv'
   · split at hv'
     · have := qxh hv'; omega
     · cases hv'
   split at hv'
   · cases h4 : v4V g.name with
     | none => rw [h4] at hv'; cases hv'
     | some a =>
       rw [h4] at hv'
       have : g.kind = 2 := by rw [<- Option.some.inj hv']
       omega
   rename_i hd
   split at hv'
   · rename_i hc
     have e := Option.some.inj hv'
     have e2 : lowL g.name = g.name := congrArg Hst.name e
     rw [e2] at hc e hd
     exact ⟨e.symm, e2, hc.2, hc.1, by simpa using hd, rfl⟩
   · cases hv'
theorem qlw (c : UInt8) : ∀ (L : List (List UInt8)) (k : Nat), (Lib.join (L.drop k) [c]).length <= (Lib.join L [c]).length
 | L, 0 => by simp
 | [], k + 1 => by simp
 | x :: r, k + 1 => by
   rw [List.drop_succ_cons]
   refine Nat.le_trans (qlw c r k) ?_
   cases r with
   | nil => simp [Lib.join_nil]
   | cons y l =>
     rw [Lib.join_cons, Lib.join_cons]
     unfold Lib.joinTail
     simp; omega
end Go.Pk
namespace Go.Proofs.YtlfolncaghkmcaaGreatDoor
open Go.Pk
open Go.RowKit (Below)
theorem qdf (h : Hst) : (labelsV h).length <= h.name.length + 1 := by
 unfold labelsV
 split
 · exact qbH 46 _ _
 · simp
theorem qrA {h : Hst} (o : h.ok) (hn : h.name.length <= 1000000000) (n : Nat) (hn2 : n <= 4000000000) (w : World) (he : Env w) : Calls prog qh4 #[h.v, .int .i64 (n : Int)] w (Ret fun v w' => v = qrp (labelsV h) n /\ Below w.heap.size w w') := by
 apply qv9
 unfold qrN
 intro k2 w2 hk2 hw2
 have hB2 := (hw2 ▸ qj w _ : Below w.heap.size w w2)
 have h2 : qk w2 k2 qf h.cells := qk.new hk2 hw2
 intro k4 w4 hk4 hw4
 have hb4 := (hw4 ▸ qj w2 _ : Below w2.heap.size w2 w4)
 have hB4 := qd hB2 hb4 hB2.size
 have h4 : qk w4 k4 qf hst0.cells := qk.new hk4 hw4
 have hk : w.heap.size <= k4 := by have := hB2.size; omega
 refine ⟨_, qv.load0 (h2.below hb4) (Hst.len o), ?_⟩
 refine callK (qgU o hn w4 (he.step hB4)) ?_
 rintro _ w5 ⟨a, l, c, rfl, ho, hf, hb5⟩
 have hB5 := qd hB4 hb5 hB4.size
 have h45 := h4.below hb5
 have hll := qdf h
 have hjl : ∀ n, (qjT (labelsV h) n).length <= 140737488355328 := fun n => by
   unfold qjT
   refine Nat.le_trans (qlw 46 (labelsV h) _) ?_
   unfold labelsV
   split
   · rw [qae, List.nil_append]; omega
   · simp [Lib.join_nil]
 have hl := ho.len
 subst hl
 generalize labelsV h = L at *
 refine ⟨_, _, _, rfl, ?_⟩
 unfold qrp
 refine factJ (w := w5) (1 <= n /\ n <= L.length) ?_ (fun hc => ?_)
 · refine orJ (BCase.of (fun h => ?_) (fun h => ⟨rfl, ?_⟩))
   · rw [if_neg (fun hc => by simp at h; omega)]
     exact qv.fin (K := fun vr wy => (.tuple #[vr, .bool false] : Value) = .tuple #[hst0.v, .bool false] /\ Below w.heap.size w wy) (cs := hst0.cells) rfl (Hst.one _) h45 rfl hB5 hk fun wy hb => ⟨rfl, hb⟩
   · simp at h; omega
 · rw [if_pos hc]
   have e : i64.wrap (((L.length : Nat) : Int) - (n : Int)) = ((L.length - n : Nat) : Int) := by rw [wrap_i64 (by omega) (by omega)]; omega
   rw [e]
   simp only [Int.toNat_natCast]
   refine ⟨⟨by omega, by omega⟩, ?_⟩
   refine callK (qs1 ((ho.all).from (L.length - n) (by omega) rfl) [46] (by simp; omega) (hjl n)) ?_
   rintro _ w6 ⟨rfl, hb6⟩
   have hB6 := qd hB5 hb6 hB5.size
   refine ⟨_, rfl, ?_⟩
   exact qv.fin (K := fun vr wy => (.tuple #[vr, .bool true] : Value) = .tuple #[(⟨1, qjT L n, ad0⟩ : Hst).v, .bool true] /\ Below w.heap.size w wy) (cs := (⟨1, qjT L n, ad0⟩ : Hst).cells) rfl (Hst.one _) (h45.below hb6) rfl hB6 hk fun wy hb => ⟨rfl, hb⟩
theorem qvN {h d : Hst} (oh : h.ok) (od : d.ok) (hn : h.name.length <= 1000000000) (dn : d.name.length <= 1000000000) (w : World) (he : Env w) : Calls prog qjn #[h.v, d.v] w (Ret fun v w' => v = .bool (qdA h d) /\ Below w.heap.size w w') := by
 apply quE
 unfold qqO
 intro k2 w2 hk2 hw2
 have hB2 := (hw2 ▸ qj w _ : Below w.heap.size w w2)
 have h2 : qk w2 k2 qf h.cells := qk.new hk2 hw2
 intro k3 w3 hk3 hw3
 have hb3 := (hw3 ▸ qj w2 _ : Below w2.heap.size w2 w3)
 have hB3 := qd hB2 hb3 hB2.size
 have h3 : qk w3 k3 qf d.cells := qk.new hk3 hw3
 have h23 := h2.below hb3
 have hd : Below w.heap.size w (World.drew w3) := qd hB3 (qiF rfl rfl rfl (Nat.le_refl _) (fun _ _ => rfl)) hB3.size
 have d2 : qk (World.drew w3) k2 qf h.cells := h23
 have d3 : qk (World.drew w3) k3 qf d.cells := h3
 have ld2 := qv.load0 (P := prog) d2 (Hst.len oh)
 have ld3 := qv.load0 (P := prog) d3 (Hst.len od)
 have hll := qdf h
 have hld := qdf d
 -- the labels of both
 have lab1 : ∀ {Q : Nat -> World -> Prop}, (∀ wx, Below (World.drew w3).heap.size (World.drew w3) wx -> Q (labelsV h).length wx) ->
     Calls prog qaR #[h.v] (World.drew w3) fun e w' => ∃ (a : Option Addr) (l c : Nat), e = .returned (.slice a l c) /\ Q l w' := fun hQ => by
   refine callK (qgU oh hn _ (he.step hd)) ?_
   rintro _ w4 ⟨a, l, c, rfl, ho, -, hb4⟩
   refine ⟨_, _, _, rfl, ?_⟩
   rw [ho.len]
   exact hQ w4 hb4
 have lab2 : ∀ {Q : Nat -> World -> Prop} (wy : World), Below (World.drew w3).heap.size (World.drew w3) wy -> (∀ wx, Below (World.drew w3).heap.size (World.drew w3) wx -> Q (labelsV d).length wx) ->
     Calls prog qaR #[d.v] wy fun e w' => ∃ (a : Option Addr) (l c : Nat), e = .returned (.slice a l c) /\ Q l w' := fun wy hwy hQ => by
   refine callK (qgU od dn wy (he.step (qd hd hwy hd.size))) ?_
   rintro _ w4 ⟨a, l, c, rfl, ho, -, hb4⟩
   refine ⟨_, _, _, rfl, ?_⟩
   rw [ho.len]
   exact hQ w4 (qd hwy hb4 hwy.size)
 -- what follows
 have rest : ∀ wx, Below (World.drew w3).heap.size (World.drew w3) wx -> ∃ J : FP [],
     (BCase ((((labelsV d).length : Nat) : Int) == (0 : Int)) ((.bool false : Value) = .bool (qdA h d) /\ Below w.heap.size w wx)
       (BCase (decide ((((labelsV d).length : Nat) : Int) >= (((labelsV h).length : Nat) : Int))) ((.bool false : Value) = .bool (qdA h d) /\ Below w.heap.size w wx) (J wx))) /\
     AllJ 11 (∀ (wj : World), J wj -> ∃ (v24 : Value), (Instr.loadAt qf (.pointer (some ⟨k2, 0, none⟩))).run prog wj = .ok v24 wj /\
       Calls prog qh4 #[v24, .int .i64 (((labelsV d).length : Nat) : Int)] wj fun e27 w27 => ∃ (v27_0 : Value) (b27_1 : Bool), e27 = .returned (.tuple #[v27_0, .bool b27_1]) /\
       ∀ (k7 : Nat) (w7 : World), k7 = w27.heap.size -> w7 = w27.alloc (.cells qZ qf) ->
       ∃ (wx : World), (Instr.storeAt qf (.pointer (some ⟨k7, 0, none⟩)) v27_0).run prog w7 = .ok () wx /\
       ∃ (v30 : Value), (Instr.loadAt qf (.pointer (some ⟨k7, 0, none⟩))).run prog wx = .ok v30 wx /\
       ∃ (v31 : Value), (Instr.loadAt qf (.pointer (some ⟨k3, 0, none⟩))).run prog wx = .ok v31 wx /\
       ∃ (b32 : Bool), ((do eqGuard .eql qf (.tmp 30) (.tmp 31) v30 v31; binOp .eql qf v30 v31 : Sem Value)).run prog wx = .ok (.bool b32) wx /\
       ((.bool b32 : Value) = .bool (qdA h d) /\ Below w.heap.size w wx)) := fun wx hbx => by
   have hBx := qd hd hbx hd.size
   have u : qdA h d = if (labelsV d).length = 0 \/ (labelsV h).length <= (labelsV d).length then false else qbA ⟨1, qjT (labelsV h) (labelsV d).length, ad0⟩ d := rfl
   refine factJ (w := wx) (¬ ((labelsV d).length = 0 \/ (labelsV h).length <= (labelsV d).length)) ?_ (fun hc => ?_)
   · refine BCase.of (fun c1 => ⟨?_, hBx⟩) (fun c1 => BCase.of (fun c2 => ⟨?_, hBx⟩) (fun c2 => ⟨rfl, ?_⟩))
     · rw [u, if_pos (.inl (by simp at c1; simp [c1]))]
     · rw [u, if_pos (.inr (by simp at c2; omega))]
     · simp at c1 c2
       rintro (hx | hx)
       · exact c1 (List.length_eq_zero_iff.1 hx)
       · omega
   · refine ⟨_, qv.load0 (d2.below hbx) (Hst.len oh), ?_⟩
     refine callK (qrA oh hn (labelsV d).length (by omega) wx (he.step hBx)) ?_
     rintro _ w6 ⟨rfl, hb6⟩
     have hB6 := qd hBx hb6 hBx.size
     have et : qrp (labelsV h) (labelsV d).length = .tuple #[(⟨1, qjT (labelsV h) (labelsV d).length, ad0⟩ : Hst).v, .bool true] := if_pos ⟨by omega, by omega⟩
     rw [et, u, if_neg hc]
     refine ⟨_, _, rfl, ?_⟩
     refine qv.new (zs := hst0.cells) (cs := (⟨1, qjT (labelsV h) (labelsV d).length, ad0⟩ : Hst).cells) rfl rfl (Hst.one _) w6 fun k7 w7 hk7 h7 hb7 => ?_
     have hB7 := qd hB6 hb7 hB6.size
     exact ⟨_, qv.load0 h7 rfl, _, qv.load0 (((d3.below hbx).below hb6).below hb7) (Hst.len od), _, qg3 (show (⟨1, qjT (labelsV h) (labelsV d).length, ad0⟩ : Hst).ok from rfl) od w7, rfl, hB7⟩
 refine ⟨⟨_, ld2, ?_, _, ld3, ?_⟩, _, ld3, _, ld2, ?_⟩
 · exact lab1 fun wx hbx => ⟨_, qv.load0 (d3.below hbx) (Hst.len od), lab2 wx hbx rest⟩
 · exact lab1 fun wx hbx => lab2 wx hbx rest
 · exact lab1 fun wx hbx => lab2 wx hbx rest
end Go.Proofs.YtlfolncaghkmcaaGreatDoor
set_option maxRecDepth 100000
namespace Go.Proofs.YtlfolncaghkmcaaGreatDoor
open Go.Pk
open Go.RowKit (Below)
--  cracknel/suffix.New
def qqV (a0 : Option Addr) (l0 c0 : Nat) (w : World) (K : Value -> World -> Prop) : Prop :=
 ∀ k9 w9, k9 = w.heap.size -> w9 = w.alloc (.map #[] 0) ->
 ∃ w10 a10 l10 c10, (Instr.makeSlice jR (.int .i64 (1 : Int)) (.int .i64 (1 : Int))).run prog w9 = .ok (.slice a10 l10 c10) w10 /\
 ∀ k12 w12, k12 = w10.heap.size -> w12 = w10.alloc (.cells #[.map (some k9), .slice a10 l10 c10] zj) ->
 ∃ I : Nat -> FP [.one (.int .i64)],
 (∃ m, I m (0 : Int) w12) /\
 ∀ m n15, AllJ 28 (∀ wl, I m n15 wl ->
 BCase (decide (n15 < ((l0 : Nat) : Int)))
 (((0 <= n15 /\ n15 < ((l0 : Nat) : Int)) /\ Option.isSome a0 = true) /\
 ∃ n18_0 s18_1, Ld qp (ql a0 n15 2) wl (.agg #[.int .i64 n18_0, .string (mkS s18_1)]) /\
 ∀ k5 w5, k5 = wl.heap.size -> w5 = wl.alloc (.cells #[.int .i64 (0 : Int), .string (mkS [])] qp) ->
 ∃ wx, Sv qp (some ⟨k5, 0, none⟩) (.agg #[.int .i64 n18_0, .string (mkS s18_1)]) w5 wx /\
 ∃ n20_0 s20_1, Ld qp (some ⟨k5, 0, none⟩) wx (.agg #[.int .i64 n20_0, .string (mkS s20_1)]) /\
 Calls prog qpu #[.agg #[.int .i64 n20_0, .string (mkS s20_1)]] wx fun e21 w21 => ∃ s21, e21 = .returned (.string (mkS s21)) /\
 Calls prog qpt #[.string (mkS s21)] w21 fun e22 w22 => ∃ n22_0_0 s22_0_1 b22_1 n22_2, e22 = .returned (.tuple #[.agg #[.int .i64 n22_0_0, .string (mkS s22_0_1)], .bool b22_1, .int .i64 n22_2]) /\
 ∀ k6 w6, k6 = w22.heap.size -> w6 = w22.alloc (.cells #[.int .i64 (0 : Int), .string (mkS [])] qp) ->
 ∃ wx_1, Sv qp (some ⟨k6, 0, none⟩) (.agg #[.int .i64 n22_0_0, .string (mkS s22_0_1)]) w6 wx_1 /\
 ∃ J : FP [.one (.bool)],
 (BCase (n22_2 == (0 : Int))
 (BCase b22_1
 (∃ n32_0 s32_1, Ld qp (some ⟨k6, 0, none⟩) wx_1 (.agg #[.int .i64 n32_0, .string (mkS s32_1)]) /\
 ∃ n33_0 s33_1, Ld qp (some ⟨k5, 0, none⟩) wx_1 (.agg #[.int .i64 n33_0, .string (mkS s33_1)]) /\
 ∃ b34, ((do eqGuard .eql qp (.tmp 32) (.tmp 33) (.agg #[.int .i64 n32_0, .string (mkS s32_1)]) (.agg #[.int .i64 n33_0, .string (mkS s33_1)]); binOp .eql qp (.agg #[.int .i64 n32_0, .string (mkS s32_1)]) (.agg #[.int .i64 n33_0, .string (mkS s33_1)]) : Sem Value)).run prog wx_1 = .ok (.bool b34) wx_1 /\
 J b34 wx_1)
 (J false wx_1))
 (J false wx_1)) /\
 ∀ b35, AllJ 9 (∀ wj, J b35 wj ->
 BCase b35
 (∃ n37_0 s37_1, Ld qp (some ⟨k5, 0, none⟩) wj (.agg #[.int .i64 n37_0, .string (mkS s37_1)]) /\
 Calls prog qiE #[.pointer (some ⟨k12, 0, none⟩), .agg #[.int .i64 n37_0, .string (mkS s37_1)]] wj fun e38 w38 => e38 = .returned (.tuple #[]) /\
 ∃ m' : Nat, m' < m /\ I m' (i64.wrap (n15 + (1 : Int))) w38)
 (∃ m' : Nat, m' < m /\ I m' (i64.wrap (n15 + (1 : Int))) wj)))
 (K (.pointer (some ⟨k12, 0, none⟩)) wl))
theorem quL (a0 : Option Addr) (l0 c0 : Nat) {w : World} {K : Value -> World -> Prop} (h : qqV a0 l0 c0 w K) : Calls prog qe3 #[.slice a0 l0 c0] w (Ret K) :=
 qm (c := qq Tryz.f10) (by kernel_rfl) Tryz.func10 (by kernel_rfl) [(8, [(15, .one (.int .i64))]), (21, [(35, .one (.bool))])] [.slice a0 l0 c0] (of_decide_eq_true (by kernel_rfl)) _ (by kernel_rfl) h

--  cracknel/cracknelref09.Sends
def qrP (s0 : List UInt8) (w : World) (K : Value -> World -> Prop) : Prop :=
 ∀ k2 w2, k2 = w.heap.size -> w2 = w.alloc (.cells #[.int .i64 (0 : Int), .string (mkS [])] qp) ->
 Calls prog qih #[.string (mkS s0)] w2 fun e11 w11 => ∃ s11, e11 = .returned (.string (mkS s11)) /\
 ∃ J : FP [],
 (∃ J_1 : FP [.one (.bool)],
 (BCase (s11 == [])
 (J_1 true w11)
 (Calls prog qgj #[.string (mkS s11), .string (mkS [47, 47])] w11 fun e16 w16 => ∃ b16, e16 = .returned (.bool b16) /\
 J_1 b16 w16)) /\
 ∀ b17, AllJ 5 (∀ wj, J_1 b17 wj ->
 BCase b17
 (∃ wx, Sv qp (some ⟨k2, 0, none⟩) (.agg #[.int .i64 (0 : Int), .string (mkS [])]) wj wx /\
 ∃ nr0_0 sr0_1, (qs qp (.pointer (some ⟨k2, 0, none⟩))).run prog wx = .ok (.agg #[.int .i64 nr0_0, .string (mkS sr0_1)]) wx /\
 K (.tuple #[.agg #[.int .i64 nr0_0, .string (mkS sr0_1)], .bool false, .int .i64 (0 : Int)]) wx)
 (J wj))) /\
 AllJ 9 (∀ wj_1, J wj_1 ->
 ∃ J_2 : FP [.one (.str)],
 (Calls prog qkR #[.string (mkS s11), .string (mkS [32, 9])] wj_1 fun e20 w20 => ∃ n20, e20 = .returned (.int .i64 n20) /\
 BCase (decide (n20 >= (0 : Int)))
 (((0 <= n20 /\ n20 <= (((List.length s11) : Nat) : Int))) /\
 ∀ s25, s25 = (List.take (Int.toNat n20) s11) ->
 J_2 s25 w20)
 (J_2 s11 w20)) /\
 ∀ s0_1, AllJ 8 (∀ wj_2, J_2 s0_1 wj_2 ->
 Calls prog ql9 #[.string (mkS s0_1)] wj_2 fun e28 w28 => ∃ n28_0 s28_1, e28 = .returned (.tuple #[.int .i64 n28_0, .string (mkS s28_1)]) /\
 Calls prog qjm #[.string (mkS s28_1)] w28 fun e33 w33 => ∃ v33_0 n33_1, e33 = .returned (.tuple #[v33_0, .int .i64 n33_1]) /\
 ∀ k8 w8, k8 = w33.heap.size -> w8 = w33.alloc (.cells qZ qf) ->
 ∃ wx_1, Sv qf (some ⟨k8, 0, none⟩) v33_0 w8 wx_1 /\
 ∃ J_3 : FP [],
 (∃ J_4 : FP [.one (.bool)],
 (BCase (n33_1 != (0 : Int))
 (J_4 true wx_1)
 ((true = true) /\
 ∃ n40, Ld qt (some ⟨k8, 0, none⟩) wx_1 (.int .i64 n40) /\
 BCase (n40 != (1 : Int))
 (J_4 true wx_1)
 (BCase (n28_0 == (3 : Int))
 (∃ v47, Ld qf (some ⟨k8, 0, none⟩) wx_1 v47 /\
 Calls prog qaR #[v47] wx_1 fun e48 w48 => ∃ a48 l48 c48, e48 = .returned (.slice a48 l48 c48) /\
 J_4 (decide (((l48 : Nat) : Int) < (2 : Int))) w48)
 (J_4 false wx_1)))) /\
 ∀ b52, AllJ 16 (∀ wj_3, J_4 b52 wj_3 ->
 BCase b52
 (∃ wx_2, Sv qp (some ⟨k2, 0, none⟩) (.agg #[.int .i64 (0 : Int), .string (mkS [])]) wj_3 wx_2 /\
 ∃ nr0_0_1 sr0_1_1, (qs qp (.pointer (some ⟨k2, 0, none⟩))).run prog wx_2 = .ok (.agg #[.int .i64 nr0_0_1, .string (mkS sr0_1_1)]) wx_2 /\
 K (.tuple #[.agg #[.int .i64 nr0_0_1, .string (mkS sr0_1_1)], .bool false, .int .i64 (51 : Int)]) wx_2)
 (J_3 wj_3))) /\
 AllJ 20 (∀ wj_4, J_3 wj_4 ->
 (true = true) /\
 ∃ s56, Ld qh (some ⟨k8, 1, none⟩) wj_4 (.string (mkS s56)) /\
 ∃ wx_3, Sv qp (some ⟨k2, 0, none⟩) (.agg #[.int .i64 n28_0, .string (mkS s56)]) wj_4 wx_3 /\
 ∃ nr0_0_2 sr0_1_2, (qs qp (.pointer (some ⟨k2, 0, none⟩))).run prog wx_3 = .ok (.agg #[.int .i64 nr0_0_2, .string (mkS sr0_1_2)]) wx_3 /\
 K (.tuple #[.agg #[.int .i64 nr0_0_2, .string (mkS sr0_1_2)], .bool true, .int .i64 (0 : Int)]) wx_3)))
theorem qwb (s0 : List UInt8) {w : World} {K : Value -> World -> Prop} (h : qrP s0 w K) : Calls prog qpt #[.string (mkS s0)] w (Ret K) :=
 qm (c := qq Tryz.f27) (by kernel_rfl) Tryz.func27 (by kernel_rfl) [(4, []), (5, [(17, .one (.bool))]), (12, [(0, .one (.str))]), (24, []), (25, [(52, .one (.bool))])] [.string (mkS s0)] (of_decide_eq_true (by kernel_rfl)) _ (by kernel_rfl) h

--  cracknel/rule.Text
def qrQ (n0_0 : Int) (s0_1 : List UInt8) (w : World) (K : Value -> World -> Prop) : Prop :=
 ∀ k1 w1, k1 = w.heap.size -> w1 = w.alloc (.cells #[.int .i64 n0_0, .string (mkS s0_1)] qp) ->
 (true = true) /\
 ∃ n4, (∀ u4, Below w1.heap.size w1 u4 -> Ld qt (some ⟨k1, 0, none⟩) u4 (.int .i64 n4)) /\
 ∃ s5, (∀ u5, Below w1.heap.size w1 u5 -> Calls prog qma #[.int .i64 n4] u5 fun e5 w5 => e5 = .returned (.string (mkS s5)) /\ Below w1.heap.size u5 w5) /\
 (true = true) /\
 ∃ s7, (∀ u7, Below w1.heap.size w1 u7 -> Ld qh (some ⟨k1, 1, none⟩) u7 (.string (mkS s7))) /\
 ((((List.length s5 + List.length s7 : Nat) : Int) <= i64.max)) /\
 ∀ s8, s8 = (s5 ++ s7) ->
 ∀ wq, Below w1.heap.size w1 wq ->
 K (.string (mkS s8)) wq
theorem qwc (n0_0 : Int) (s0_1 : List UInt8) {w : World} {K : Value -> World -> Prop} (h : qrQ n0_0 s0_1 w K) : Calls prog qpu #[.agg #[.int .i64 n0_0, .string (mkS s0_1)]] w (Ret K) :=
 qm (c := qq Tryz.f28) (by kernel_rfl) Tryz.func28 (by kernel_rfl) [] [.agg #[.int .i64 n0_0, .string (mkS s0_1)]] (of_decide_eq_true (by kernel_rfl)) _ (by kernel_rfl) h

--  (*cracknel/suffix.Table).put
def qkG (p0 : Option Addr) (n1_0 : Int) (s1_1 : List UInt8) (w : World) (K : Value -> World -> Prop) : Prop :=
 ∀ k3 w3, k3 = w.heap.size -> w3 = w.alloc (.cells #[.int .i64 n1_0, .string (mkS s1_1)] qp) ->
 (true = true) /\
 ∃ s11, Ld qh (some ⟨k3, 1, none⟩) w3 (.string (mkS s11)) /\
 Calls prog qe1 #[.string (mkS s11), .int .u8 (46 : Int)] w3 fun e12 w12 => ∃ a12 l12 c12, e12 = .returned (.slice a12 l12 c12) /\
 ∃ I : Nat -> FP [.one (.int .i64), .one (.int .i64)],
 (∃ m, I m (0 : Int) (i64.wrap (((l12 : Nat) : Int) - (1 : Int))) w12) /\
 ∀ m n4 n6, AllJ 50 (∀ wl, I m n4 n6 wl ->
 BCase (decide (n6 >= (0 : Int)))
 (((0 <= n6 /\ n6 < ((l12 : Nat) : Int)) /\ Option.isSome a12 = true) /\
 ∃ s24, Ld qh (ql a12 n6 1) wl (.string (mkS s24)) /\
 ∀ k7 w7, k7 = wl.heap.size -> w7 = wl.alloc (.cells #[.int .i64 (0 : Int), .string (mkS [])] qbu) ->
 ∃ wx, Sv qbu (some ⟨k7, 0, none⟩) (.agg #[.int .i64 n4, .string (mkS s24)]) w7 wx /\
 ∃ J : FP [],
 ((Option.isSome p0 = true) /\
 (Option.isSome p0 = true) /\
 ∃ (m30 : Option Nat), (∀ u30, Below wx.heap.size wx u30 -> Ld jw (Option.map (fun x => x.add 0) p0) u30 (.map m30)) /\
 ∃ n31_0 s31_1, (∀ u31, Below wx.heap.size wx u31 -> Ld qbu (some ⟨k7, 0, none⟩) u31 (.agg #[.int .i64 n31_0, .string (mkS s31_1)])) /\
 ∃ n32_0 b32_1, (∀ u32, Below wx.heap.size wx u32 -> (Instr.lookup jw (.map m30) (.agg #[.int .i64 n31_0, .string (mkS s31_1)]) true).run prog u32 = .ok (.tuple #[.int .i64 n32_0, .bool b32_1]) u32) /\
 ∀ wq, Below wx.heap.size wx wq ->
 BCase (!b32_1)
 ((Option.isSome p0 = true) /\
 (Option.isSome p0 = true) /\
 ∃ (m40 : Option Nat), (∀ u40, Below wq.heap.size wq u40 -> Ld jw (Option.map (fun x => x.add 0) p0) u40 (.map m40)) /\
 ∃ n41_0 s41_1, (∀ u41, Below wq.heap.size wq u41 -> Ld qbu (some ⟨k7, 0, none⟩) u41 (.agg #[.int .i64 n41_0, .string (mkS s41_1)])) /\
 (Option.isSome p0 = true) /\
 (Option.isSome p0 = true) /\
 ∃ a45 l45 c45, (∀ u45, Below wq.heap.size wq u45 -> Ld jR (Option.map (fun x => x.add 1) p0) u45 (.slice a45 l45 c45)) /\
 ∀ wq_1, Below wq.heap.size wq wq_1 ->
 ∃ wx_1, (Instr.mapUpdate jw (.map m40) (.agg #[.int .i64 n41_0, .string (mkS s41_1)]) (.int .i64 ((l45 : Nat) : Int))).run prog wq_1 = .ok () wx_1 /\
 (Option.isSome p0 = true) /\
 (Option.isSome p0 = true) /\
 ∃ a51 l51 c51, Ld jR (Option.map (fun x => x.add 1) p0) wx_1 (.slice a51 l51 c51) /\
 ∀ k53 w53, k53 = wx_1.heap.size -> w53 = wx_1.alloc (.cells #[.bool false, .bool false, .bool false, .bool false] zF) ->
 ∃ w54 a54 l54 c54, (Builtin.append_ #[jR, jR] jR #[.slice a51 l51 c51, .slice (some ⟨k53, 0, none⟩) 1 1]).run prog w53 = .ok (.slice a54 l54 c54) w54 /\
 (Option.isSome p0 = true) /\
 (Option.isSome p0 = true) /\
 ∃ wx_2, Sv jR (Option.map (fun x => x.add 1) p0) (.slice a54 l54 c54) w54 wx_2 /\
 J wx_2)
 (J wq)) /\
 AllJ 33 (∀ wj, J wj ->
 (Option.isSome p0 = true) /\
 (Option.isSome p0 = true) /\
 ∃ (m60 : Option Nat), (∀ u60, Below wj.heap.size wj u60 -> Ld jw (Option.map (fun x => x.add 0) p0) u60 (.map m60)) /\
 ∃ n61_0 s61_1, (∀ u61, Below wj.heap.size wj u61 -> Ld qbu (some ⟨k7, 0, none⟩) u61 (.agg #[.int .i64 n61_0, .string (mkS s61_1)])) /\
 ∃ n62, (∀ u62, Below wj.heap.size wj u62 -> (Instr.lookup jw (.map m60) (.agg #[.int .i64 n61_0, .string (mkS s61_1)]) false).run prog u62 = .ok (.int .i64 n62) u62) /\
 ∀ wq_2, Below wj.heap.size wj wq_2 ->
 ∃ m' : Nat, m' < m /\ I m' n62 (i64.wrap (n6 - (1 : Int))) wq_2))
 ((Option.isSome p0 = true) /\
 (Option.isSome p0 = true) /\
 ∃ a66 l66 c66, (∀ u66, Below wl.heap.size wl u66 -> Ld jR (Option.map (fun x => x.add 1) p0) u66 (.slice a66 l66 c66)) /\
 (true = true) /\
 ∃ n69, (∀ u69, Below wl.heap.size wl u69 -> Ld qt (some ⟨k3, 0, none⟩) u69 (.int .i64 n69)) /\
 ((0 <= n4 /\ n4 < ((l66 : Nat) : Int)) /\ Option.isSome a66 = true) /\
 ((0 <= n69 /\ n69 < ((4 : Nat) : Int)) /\ Option.isSome (ql a66 n4 4) = true) /\
 ∀ wq_3, Below wl.heap.size wl wq_3 ->
 ∃ wx_3, Sv qN (ql (ql a66 n4 4) n69 1) (.bool true) wq_3 wx_3 /\
 K (.tuple #[]) wx_3))
theorem qoJ (p0 : Option Addr) (n1_0 : Int) (s1_1 : List UInt8) {w : World} {K : Value -> World -> Prop} (h : qkG p0 n1_0 s1_1 w K) : Calls prog qiE #[.pointer p0, .agg #[.int .i64 n1_0, .string (mkS s1_1)]] w (Ret K) :=
 qm (c := qq Tryz.f29) (by kernel_rfl) Tryz.func29 (by kernel_rfl) [(10, [(4, .one (.int .i64)), (6, .one (.int .i64))]), (21, []), (2000028, [(10, .one (.bool))]), (2000033, [(9, .one (.bool))])] [.pointer p0, .agg #[.int .i64 n1_0, .string (mkS s1_1)]] (of_decide_eq_true (by kernel_rfl)) _ (by kernel_rfl) h

--  cracknel/url.Right
def qrT (v0 : Value) (w : World) (K : Value -> World -> Prop) : Prop :=
 ∀ k1 w1, k1 = w.heap.size -> w1 = w.alloc (.cells (Value.cells v0) qw) ->
 (true = true) /\
 ∃ v4, Ld qf (some ⟨k1, 1, none⟩) w1 v4 /\
 Calls prog qhd #[v4] w1 fun e5 w5 => ∃ b5, e5 = .returned (.bool b5) /\
 BCase b5
 ((true = true) /\
 ∃ n8, Ld qt (some ⟨k1, 19, none⟩) w5 (.int .i64 n8) /\
 BCase (decide (n8 >= (1 : Int)))
 ((true = true) /\
 ∃ n13, Ld qt (some ⟨k1, 19, none⟩) w5 (.int .i64 n13) /\
 BCase (decide (n13 <= (65535 : Int)))
 ((true = true) /\
 ∃ s18, Ld qh (some ⟨k1, 20, none⟩) w5 (.string (mkS s18)) /\
 Calls prog qq4 #[.string (mkS s18)] w5 fun e19 w19 => ∃ b19, e19 = .returned (.bool b19) /\
 K (.bool b19) w19)
 (K (.bool false) w5))
 (K (.bool false) w5))
 (K (.bool false) w5)
theorem qwg (v0 : Value) {w : World} {K : Value -> World -> Prop} (h : qrT v0 w K) : Calls prog qmc #[v0] w (Ret K) :=
 qm (c := qq Tryz.f30) (by kernel_rfl) Tryz.func30 (by kernel_rfl) [] [v0] (of_decide_eq_true (by kernel_rfl)) _ (by kernel_rfl) h

--  cracknel/admit.Take
def qqG (p0 : Option Addr) (v1 : Value) (s2_0 : List UInt8) (s2_1 : List UInt8) (s2_2 : List UInt8) (s2_3 : List UInt8) (b2_4 : Bool) (n2_5 : Int) (b2_6 : Bool) (n2_7 : Int) (b2_8 : Bool) (b2_9 : Bool) (n2_10 : Int) (n3 : Int) (w : World) (K : Value -> World -> Prop) : Prop :=
 ∀ k5 w5, k5 = w.heap.size -> w5 = w.alloc (.cells (Value.cells v1) qw) ->
 ∀ k6 w6, k6 = w5.heap.size -> w6 = w5.alloc (.cells #[.string (mkS s2_0), .string (mkS s2_1), .string (mkS s2_2), .string (mkS s2_3), .bool b2_4, .int .i64 n2_5, .bool b2_6, .int .i64 n2_7, .bool b2_8, .bool b2_9, .int .i64 n2_10] qi) ->
 ∀ k8 w8, k8 = w6.heap.size -> w8 = w6.alloc (.cells qG qe) ->
 ∃ v15, Ld qw (some ⟨k5, 0, none⟩) w8 v15 /\
 ∃ s16_0 s16_1 s16_2 s16_3 b16_4 n16_5 b16_6 n16_7 b16_8 b16_9 n16_10, Ld qi (some ⟨k6, 0, none⟩) w8 (hV s16_0 s16_1 s16_2 s16_3 b16_4 n16_5 b16_6 n16_7 b16_8 b16_9 n16_10) /\
 Calls prog qlZ #[v15, (hV s16_0 s16_1 s16_2 s16_3 b16_4 n16_5 b16_6 n16_7 b16_8 b16_9 n16_10), .int .i64 n3] w8 fun e18 w18 => ∃ n18, e18 = .returned (.int .i64 n18) /\
 BCase (n18 != (0 : Int))
 (∃ wx, Sv qe (some ⟨k8, 0, none⟩) (.agg qG) w18 wx /\
 ∃ vr0, (qs qe (.pointer (some ⟨k8, 0, none⟩))).run prog wx = .ok vr0 wx /\
 K (.tuple #[vr0, .int .i64 n18]) wx)
 ((true = true) /\
 ∃ v26, Ld qf (some ⟨k5, 1, none⟩) w18 v26 /\
 (true = true) /\
 ∃ s28, Ld qh (some ⟨k6, 2, none⟩) w18 (.string (mkS s28)) /\
 Calls prog qk8 #[.pointer p0, v26, .string (mkS s28)] w18 fun e29 w29 => ∃ v29_0 b29_1 n29_2, e29 = .returned (.tuple #[v29_0, .bool b29_1, .int .i64 n29_2]) /\
 ∀ k11 w11, k11 = w29.heap.size -> w11 = w29.alloc (.cells qZ qf) ->
 ∃ wx_1, Sv qf (some ⟨k11, 0, none⟩) v29_0 w11 wx_1 /\
 ∃ J : FP [.one (.int .i64)],
 (BCase (n29_2 != (0 : Int))
 (J n29_2 wx_1)
 (∃ J_1 : FP [.one (.bool)],
 ((true = true) /\
 ∃ b38, Ld qN (some ⟨k6, 8, none⟩) wx_1 (.bool b38) /\
 BCase b38
 ((true = true) /\
 ∃ b41, Ld qN (some ⟨k5, 0, none⟩) wx_1 (.bool b41) /\
 J_1 (!b41) wx_1)
 (J_1 false wx_1)) /\
 ∀ b36, AllJ 7 (∀ wj, J_1 b36 wj ->
 BCase b36
 (J (104 : Int) wj)
 (∃ J_2 : FP [.one (.bool)],
 ((true = true) /\
 ∃ n46, Ld qt (some ⟨k6, 10, none⟩) wj (.int .i64 n46) /\
 BCase (n46 == (1 : Int))
 ((true = true) /\
 ∃ b50, Ld qN (some ⟨k6, 8, none⟩) wj (.bool b50) /\
 J_2 (!b50) wj)
 (J_2 false wj)) /\
 ∀ b44, AllJ 8 (∀ wj_1, J_2 b44 wj_1 ->
 BCase b44
 (J (105 : Int) wj_1)
 (∃ s54_0 s54_1 s54_2 s54_3 b54_4 n54_5 b54_6 n54_7 b54_8 b54_9 n54_10, Ld qi (some ⟨k6, 0, none⟩) wj_1 (hV s54_0 s54_1 s54_2 s54_3 b54_4 n54_5 b54_6 n54_7 b54_8 b54_9 n54_10) /\
 Calls prog qk7 #[(hV s54_0 s54_1 s54_2 s54_3 b54_4 n54_5 b54_6 n54_7 b54_8 b54_9 n54_10), .bool b29_1] wj_1 fun e56 w56 => ∃ b56, e56 = .returned (.bool b56) /\
 BCase b56
 (J (106 : Int) w56)
 (J n29_2 w56))))))) /\
 ∀ n13, AllJ 24 (∀ wj_2, J n13 wj_2 ->
 BCase (n13 != (0 : Int))
 (∃ wx_2, Sv qe (some ⟨k8, 0, none⟩) (.agg qG) wj_2 wx_2 /\
 ∃ vr0_1, (qs qe (.pointer (some ⟨k8, 0, none⟩))).run prog wx_2 = .ok vr0_1 wx_2 /\
 K (.tuple #[vr0_1, .int .i64 n13]) wx_2)
 ((true = true) /\
 ∃ s62, Ld qh (some ⟨k6, 3, none⟩) wj_2 (.string (mkS s62)) /\
 ∃ J_3 : FP [.one (.str)],
 (BCase (s62 == [])
 ((true = true) /\
 ∃ s66, Ld qh (some ⟨k5, 20, none⟩) wj_2 (.string (mkS s66)) /\
 Calls prog qj9 #[.string (mkS s66)] wj_2 fun e67 w67 => ∃ s67, e67 = .returned (.string (mkS s67)) /\
 J_3 s67 w67)
 (J_3 s62 wj_2)) /\
 ∀ s14, AllJ 5 (∀ wj_3, J_3 s14 wj_3 ->
 (true = true) /\
 ∃ s69, (∀ u69, Below wj_3.heap.size wj_3 u69 -> Ld qh (some ⟨k6, 0, none⟩) u69 (.string (mkS s69))) /\
 (true = true) /\
 ∃ s71, (∀ u71, Below wj_3.heap.size wj_3 u71 -> Ld qh (some ⟨k6, 1, none⟩) u71 (.string (mkS s71))) /\
 ∃ v72, (∀ u72, Below wj_3.heap.size wj_3 u72 -> Ld qf (some ⟨k11, 0, none⟩) u72 v72) /\
 (true = true) /\
 ∃ b76, (∀ u76, Below wj_3.heap.size wj_3 u76 -> Ld qN (some ⟨k6, 8, none⟩) u76 (.bool b76)) /\
 (true = true) /\
 ∃ b78, (∀ u78, Below wj_3.heap.size wj_3 u78 -> Ld qN (some ⟨k6, 9, none⟩) u78 (.bool b78)) /\
 (true = true) /\
 ∃ n80, (∀ u80, Below wj_3.heap.size wj_3 u80 -> Ld qt (some ⟨k6, 10, none⟩) u80 (.int .i64 n80)) /\
 ∃ s81_0 s81_1 s81_2 s81_3 b81_4 n81_5 b81_6 n81_7 b81_8 b81_9 n81_10, (∀ u81, Below wj_3.heap.size wj_3 u81 -> Ld qi (some ⟨k6, 0, none⟩) u81 (hV s81_0 s81_1 s81_2 s81_3 b81_4 n81_5 b81_6 n81_7 b81_8 b81_9 n81_10)) /\
 ∃ n83, (∀ u83, Below wj_3.heap.size wj_3 u83 -> Calls prog qj4 #[(hV s81_0 s81_1 s81_2 s81_3 b81_4 n81_5 b81_6 n81_7 b81_8 b81_9 n81_10), .int .i64 n3] u83 fun e83 w83 => e83 = .returned (.int .i64 n83) /\ Below wj_3.heap.size u83 w83) /\
 ∃ v86, (∀ u86, Below wj_3.heap.size wj_3 u86 -> (Instr.build qe #[(0, .string (mkS s69)), (1, .string (mkS s71)), (2, v72), (3, .bool b29_1), (4, .string (mkS s14)), (5, .bool b76), (6, .bool b78), (7, .int .i64 n80), (8, .int .i64 n83), (9, .int .i64 n3), (10, .int .i64 n3)]).run prog u86 = .ok v86 u86) /\
 ∀ wq, Below wj_3.heap.size wj_3 wq ->
 ∃ wx_3, Sv qe (some ⟨k8, 0, none⟩) v86 wq wx_3 /\
 ∃ vr0_2, (qs qe (.pointer (some ⟨k8, 0, none⟩))).run prog wx_3 = .ok vr0_2 wx_3 /\
 K (.tuple #[vr0_2, .int .i64 (0 : Int)]) wx_3))))
theorem quw (p0 : Option Addr) (v1 : Value) (s2_0 : List UInt8) (s2_1 : List UInt8) (s2_2 : List UInt8) (s2_3 : List UInt8) (b2_4 : Bool) (n2_5 : Int) (b2_6 : Bool) (n2_7 : Int) (b2_8 : Bool) (b2_9 : Bool) (n2_10 : Int) (n3 : Int) {w : World} {K : Value -> World -> Prop} (h : qqG p0 v1 s2_0 s2_1 s2_2 s2_3 b2_4 n2_5 b2_6 n2_7 b2_8 b2_9 n2_10 n3 w K) : Calls prog qkP #[.pointer p0, v1, .agg #[.string (mkS s2_0), .string (mkS s2_1), .string (mkS s2_2), .string (mkS s2_3), .bool b2_4, .int .i64 n2_5, .bool b2_6, .int .i64 n2_7, .bool b2_8, .bool b2_9, .int .i64 n2_10], .int .i64 n3] w (Ret K) :=
 qm (c := qq Tryz.f32) (by kernel_rfl) Tryz.func32 (by kernel_rfl) [(14, [(13, .one (.int .i64))]), (20, [(36, .one (.bool))]), (24, [(44, .one (.bool))]), (43, [(14, .one (.str))]), (2000050, [(19, .one (.bool))])] [.pointer p0, v1, .agg #[.string (mkS s2_0), .string (mkS s2_1), .string (mkS s2_2), .string (mkS s2_3), .bool b2_4, .int .i64 n2_5, .bool b2_6, .int .i64 n2_7, .bool b2_8, .bool b2_9, .int .i64 n2_10], .int .i64 n3] (of_decide_eq_true (by kernel_rfl)) _ (by kernel_rfl) h

--  cracknel/cracknelref04.Parse
def qpg (s0 : List UInt8) (w : World) (K : Value -> World -> Prop) : Prop :=
 ∀ k2 w2, k2 = w.heap.size -> w2 = w.alloc (.cells qgM qw) ->
 ∀ k4 w4, k4 = w2.heap.size -> w4 = w2.alloc (.cells qgM qw) ->
 ∃ wx, Sv qw (some ⟨k4, 0, none⟩) (.agg #[.bool false, .int .i64 (0 : Int), .string (mkS []), .int .u8 (0 : Int), .int .u8 (0 : Int), .int .u8 (0 : Int), .int .u8 (0 : Int), .int .u8 (0 : Int), .int .u8 (0 : Int), .int .u8 (0 : Int), .int .u8 (0 : Int), .int .u8 (0 : Int), .int .u8 (0 : Int), .int .u8 (0 : Int), .int .u8 (0 : Int), .int .u8 (0 : Int), .int .u8 (0 : Int), .int .u8 (0 : Int), .int .u8 (0 : Int), .int .i64 (80 : Int), .string (mkS [])]) w4 wx /\
 ∃ J : FP [.one (.str)],
 (∃ J_1 : FP [.one (.bool)],
 (BCase (decide (((List.length s0 : Nat) : Int) >= (7 : Int)))
 (((0 <= (7 : Int) /\ (7 : Int) <= (((List.length s0) : Nat) : Int))) /\
 ∀ s20, s20 = (List.take (Int.toNat (7 : Int)) s0) ->
 Calls prog zN #[.string (mkS s20)] wx fun e21 w21 => ∃ s21, e21 = .returned (.string (mkS s21)) /\
 J_1 (s21 == [104, 116, 116, 112, 58, 47, 47]) w21)
 (J_1 false wx)) /\
 ∀ b23, AllJ 8 (∀ wj, J_1 b23 wj ->
 BCase b23
 (((0 <= (7 : Int) /\ (7 : Int) <= (((List.length s0) : Nat) : Int))) /\
 ∀ s25, s25 = (List.drop (Int.toNat (7 : Int)) s0) ->
 J s25 wj)
 (∃ J_2 : FP [.one (.bool)],
 (BCase (decide (((List.length s0 : Nat) : Int) >= (8 : Int)))
 (((0 <= (8 : Int) /\ (8 : Int) <= (((List.length s0) : Nat) : Int))) /\
 ∀ s31, s31 = (List.take (Int.toNat (8 : Int)) s0) ->
 Calls prog zN #[.string (mkS s31)] wj fun e32 w32 => ∃ s32, e32 = .returned (.string (mkS s32)) /\
 J_2 (s32 == [104, 116, 116, 112, 115, 58, 47, 47]) w32)
 (J_2 false wj)) /\
 ∀ b34, AllJ 8 (∀ wj_1, J_2 b34 wj_1 ->
 BCase b34
 (((0 <= (8 : Int) /\ (8 : Int) <= (((List.length s0) : Nat) : Int))) /\
 ∀ s36, s36 = (List.drop (Int.toNat (8 : Int)) s0) ->
 (true = true) /\
 ∃ wx_1, Sv qN (some ⟨k4, 0, none⟩) (.bool true) wj_1 wx_1 /\
 (true = true) /\
 ∃ wx_2, Sv qt (some ⟨k4, 19, none⟩) (.int .i64 (443 : Int)) wx_1 wx_2 /\
 J s36 wx_2)
 (∃ wx_3, Sv qw (some ⟨k2, 0, none⟩) (.agg qgM) wj_1 wx_3 /\
 ∃ vr0, (qs qw (.pointer (some ⟨k2, 0, none⟩))).run prog wx_3 = .ok vr0 wx_3 /\
 K (.tuple #[vr0, .int .i64 (41 : Int)]) wx_3))))) /\
 ∀ s5, AllJ 26 (∀ wj_2, J s5 wj_2 ->
 Calls prog qf8 #[.string (mkS s5), .string (mkS [47, 63, 35])] wj_2 fun e41 w41 => ∃ n41, e41 = .returned (.int .i64 n41) /\
 ((0 <= n41 /\ n41 <= (((List.length s5) : Nat) : Int))) /\
 ∀ s44, s44 = (List.take (Int.toNat n41) s5) ->
 Calls prog qf8 #[.string (mkS s44), .string (mkS [58])] w41 fun e46 w46 => ∃ n46, e46 = .returned (.int .i64 n46) /\
 ∃ J_3 : FP [.one (.int .i64)],
 (∃ J_4 : FP [.one (.bool)],
 (BCase (decide (((List.length s44 : Nat) : Int) > (0 : Int)))
 (((0 <= (0 : Int) /\ (0 : Int) < ((List.length s44 : Nat) : Int))) /\
 J_4 ((qH s44 (0 : Int)) == (91 : Int)) w46)
 (J_4 false w46)) /\
 ∀ b54, AllJ 7 (∀ wj_3, J_4 b54 wj_3 ->
 BCase b54
 (Calls prog qf8 #[.string (mkS s44), .string (mkS [93])] wj_3 fun e56 w56 => ∃ n56, e56 = .returned (.int .i64 n56) /\
 ∃ n60, (Builtin.min_ #[qt, qt] qt #[.int .i64 (i64.wrap (n56 + (1 : Int))), .int .i64 ((List.length s44 : Nat) : Int)]).run prog w56 = .ok (.int .i64 n60) w56 /\
 J_3 n60 w56)
 (J_3 n46 wj_3))) /\
 ∀ n8, AllJ 14 (∀ wj_4, J_3 n8 wj_4 ->
 ((0 <= n8 /\ n8 <= (((List.length s44) : Nat) : Int))) /\
 ∀ s64, s64 = (List.take (Int.toNat n8) s44) ->
 Calls prog qan #[.string (mkS s64)] wj_4 fun e65 w65 => ∃ v65_0 n65_1, e65 = .returned (.tuple #[v65_0, .int .i64 n65_1]) /\
 ∀ k9 w9, k9 = w65.heap.size -> w9 = w65.alloc (.cells qZ qf) ->
 ∃ wx_4, Sv qf (some ⟨k9, 0, none⟩) v65_0 w9 wx_4 /\
 ((0 <= n8 /\ n8 <= (((List.length s44) : Nat) : Int))) /\
 ∀ s70, s70 = (List.drop (Int.toNat n8) s44) ->
 ∃ J_5 : FP [],
 (∃ J_6 : FP [.one (.bool)],
 (BCase (n65_1 != (0 : Int))
 (J_6 true wx_4)
 (BCase (decide (((List.length s70 : Nat) : Int) > (0 : Int)))
 (((0 <= (0 : Int) /\ (0 : Int) < ((List.length s70 : Nat) : Int))) /\
 J_6 ((qH s70 (0 : Int)) != (58 : Int)) wx_4)
 (J_6 false wx_4))) /\
 ∀ b82, AllJ 11 (∀ wj_5, J_6 b82 wj_5 ->
 BCase b82
 (∃ wx_5, Sv qw (some ⟨k2, 0, none⟩) (.agg qgM) wj_5 wx_5 /\
 ∃ vr0_1, (qs qw (.pointer (some ⟨k2, 0, none⟩))).run prog wx_5 = .ok vr0_1 wx_5 /\
 K (.tuple #[vr0_1, .int .i64 (31 : Int)]) wx_5)
 (J_5 wj_5))) /\
 AllJ 14 (∀ wj_6, J_5 wj_6 ->
 ∃ v84, Ld qf (some ⟨k9, 0, none⟩) wj_6 v84 /\
 (true = true) /\
 ∃ wx_6, Sv qf (some ⟨k4, 1, none⟩) v84 wj_6 wx_6 /\
 ∃ J_7 : FP [],
 (BCase (decide (((List.length s70 : Nat) : Int) > (0 : Int)))
 (((0 <= (1 : Int) /\ (1 : Int) <= (((List.length s70) : Nat) : Int))) /\
 ∀ s91, s91 = (List.drop (Int.toNat (1 : Int)) s70) ->
 Calls prog qjd #[.string (mkS s91)] wx_6 fun e92 w92 => ∃ n92_0 b92_1, e92 = .returned (.tuple #[.int .i64 n92_0, .bool b92_1]) /\
 ∃ J_8 : FP [.one (.bool)],
 (BCase (!b92_1)
 (J_8 true w92)
 (BCase (decide (n92_0 < (1 : Int)))
 (J_8 true w92)
 (J_8 (decide (n92_0 > (65535 : Int))) w92))) /\
 ∀ b104, AllJ 9 (∀ wj_7, J_8 b104 wj_7 ->
 BCase b104
 (∃ wx_7, Sv qw (some ⟨k2, 0, none⟩) (.agg qgM) wj_7 wx_7 /\
 ∃ vr0_2, (qs qw (.pointer (some ⟨k2, 0, none⟩))).run prog wx_7 = .ok vr0_2 wx_7 /\
 K (.tuple #[vr0_2, .int .i64 (42 : Int)]) wx_7)
 ((true = true) /\
 ∃ wx_8, Sv qt (some ⟨k4, 19, none⟩) (.int .i64 n92_0) wj_7 wx_8 /\
 J_7 wx_8)))
 (J_7 wx_6)) /\
 AllJ 25 (∀ wj_8, J_7 wj_8 ->
 ((0 <= n41 /\ n41 <= (((List.length s5) : Nat) : Int))) /\
 ∀ s110, s110 = (List.drop (Int.toNat n41) s5) ->
 (true = true) /\
 ∃ wx_9, Sv qh (some ⟨k4, 20, none⟩) (.string (mkS s110)) wj_8 wx_9 /\
 (true = true) /\
 (true = true) /\
 (∃ s113, Ld qh (some ⟨k4, 20, none⟩) (World.drew wx_9) (.string (mkS s113)) /\
 ∃ s115, Ld qh (some ⟨k4, 20, none⟩) (World.drew wx_9) (.string (mkS s115)) /\
 Calls prog qf8 #[.string (mkS s115), .string (mkS [63, 35])] (World.drew wx_9) fun e116 w116 => ∃ n116, e116 = .returned (.int .i64 n116) /\
 ((0 <= n116 /\ n116 <= (((List.length s113) : Nat) : Int))) /\
 ∀ s117, s117 = (List.take (Int.toNat n116) s113) ->
 (true = true) /\
 ∃ wx_10, Sv qh (some ⟨k4, 20, none⟩) (.string (mkS s117)) w116 wx_10 /\
 ∃ J_9 : FP [],
 ((true = true) /\
 ∃ s120, Ld qh (some ⟨k4, 20, none⟩) wx_10 (.string (mkS s120)) /\
 BCase (s120 == [])
 ((true = true) /\
 ∃ wx_11, Sv qh (some ⟨k4, 20, none⟩) (.string (mkS [47])) wx_10 wx_11 /\
 J_9 wx_11)
 (J_9 wx_10)) /\
 AllJ 4 (∀ wj_9, J_9 wj_9 ->
 (true = true) /\
 ∃ s124, Ld qh (some ⟨k4, 20, none⟩) wj_9 (.string (mkS s124)) /\
 Calls prog qe2 #[.string (mkS s124)] wj_9 fun e125 w125 => ∃ b125, e125 = .returned (.bool b125) /\
 BCase (!b125)
 (∃ wx_12, Sv qw (some ⟨k2, 0, none⟩) (.agg qgM) w125 wx_12 /\
 ∃ vr0_3, (qs qw (.pointer (some ⟨k2, 0, none⟩))).run prog wx_12 = .ok vr0_3 wx_12 /\
 K (.tuple #[vr0_3, .int .i64 (43 : Int)]) wx_12)
 (∃ v128, Ld qw (some ⟨k4, 0, none⟩) w125 v128 /\
 ∃ wx_13, Sv qw (some ⟨k2, 0, none⟩) v128 w125 wx_13 /\
 ∃ vr0_4, (qs qw (.pointer (some ⟨k2, 0, none⟩))).run prog wx_13 = .ok vr0_4 wx_13 /\
 K (.tuple #[vr0_4, .int .i64 (0 : Int)]) wx_13))) /\
 ∃ s115_1, Ld qh (some ⟨k4, 20, none⟩) (World.drew wx_9) (.string (mkS s115_1)) /\
 (∃ s113_1, Ld qh (some ⟨k4, 20, none⟩) (World.drew wx_9) (.string (mkS s113_1)) /\
 Calls prog qf8 #[.string (mkS s115_1), .string (mkS [63, 35])] (World.drew wx_9) fun e116_1 w116_1 => ∃ n116_1, e116_1 = .returned (.int .i64 n116_1) /\
 ((0 <= n116_1 /\ n116_1 <= (((List.length s113_1) : Nat) : Int))) /\
 ∀ s117_1, s117_1 = (List.take (Int.toNat n116_1) s113_1) ->
 (true = true) /\
 ∃ wx_14, Sv qh (some ⟨k4, 20, none⟩) (.string (mkS s117_1)) w116_1 wx_14 /\
 ∃ J_10 : FP [],
 ((true = true) /\
 ∃ s120_1, Ld qh (some ⟨k4, 20, none⟩) wx_14 (.string (mkS s120_1)) /\
 BCase (s120_1 == [])
 ((true = true) /\
 ∃ wx_15, Sv qh (some ⟨k4, 20, none⟩) (.string (mkS [47])) wx_14 wx_15 /\
 J_10 wx_15)
 (J_10 wx_14)) /\
 AllJ 4 (∀ wj_10, J_10 wj_10 ->
 (true = true) /\
 ∃ s124_1, Ld qh (some ⟨k4, 20, none⟩) wj_10 (.string (mkS s124_1)) /\
 Calls prog qe2 #[.string (mkS s124_1)] wj_10 fun e125_1 w125_1 => ∃ b125_1, e125_1 = .returned (.bool b125_1) /\
 BCase (!b125_1)
 (∃ wx_16, Sv qw (some ⟨k2, 0, none⟩) (.agg qgM) w125_1 wx_16 /\
 ∃ vr0_5, (qs qw (.pointer (some ⟨k2, 0, none⟩))).run prog wx_16 = .ok vr0_5 wx_16 /\
 K (.tuple #[vr0_5, .int .i64 (43 : Int)]) wx_16)
 (∃ v128_1, Ld qw (some ⟨k4, 0, none⟩) w125_1 v128_1 /\
 ∃ wx_17, Sv qw (some ⟨k2, 0, none⟩) v128_1 w125_1 wx_17 /\
 ∃ vr0_6, (qs qw (.pointer (some ⟨k2, 0, none⟩))).run prog wx_17 = .ok vr0_6 wx_17 /\
 K (.tuple #[vr0_6, .int .i64 (0 : Int)]) wx_17))) /\
 Calls prog qf8 #[.string (mkS s115_1), .string (mkS [63, 35])] (World.drew wx_9) fun e116_2 w116_2 => ∃ n116_2, e116_2 = .returned (.int .i64 n116_2) /\
 ∃ s113_2, Ld qh (some ⟨k4, 20, none⟩) w116_2 (.string (mkS s113_2)) /\
 ((0 <= n116_2 /\ n116_2 <= (((List.length s113_2) : Nat) : Int))) /\
 ∀ s117_2, s117_2 = (List.take (Int.toNat n116_2) s113_2) ->
 (true = true) /\
 ∃ wx_18, Sv qh (some ⟨k4, 20, none⟩) (.string (mkS s117_2)) w116_2 wx_18 /\
 ∃ J_11 : FP [],
 ((true = true) /\
 ∃ s120_2, Ld qh (some ⟨k4, 20, none⟩) wx_18 (.string (mkS s120_2)) /\
 BCase (s120_2 == [])
 ((true = true) /\
 ∃ wx_19, Sv qh (some ⟨k4, 20, none⟩) (.string (mkS [47])) wx_18 wx_19 /\
 J_11 wx_19)
 (J_11 wx_18)) /\
 AllJ 4 (∀ wj_11, J_11 wj_11 ->
 (true = true) /\
 ∃ s124_2, Ld qh (some ⟨k4, 20, none⟩) wj_11 (.string (mkS s124_2)) /\
 Calls prog qe2 #[.string (mkS s124_2)] wj_11 fun e125_2 w125_2 => ∃ b125_2, e125_2 = .returned (.bool b125_2) /\
 BCase (!b125_2)
 (∃ wx_20, Sv qw (some ⟨k2, 0, none⟩) (.agg qgM) w125_2 wx_20 /\
 ∃ vr0_7, (qs qw (.pointer (some ⟨k2, 0, none⟩))).run prog wx_20 = .ok vr0_7 wx_20 /\
 K (.tuple #[vr0_7, .int .i64 (43 : Int)]) wx_20)
 (∃ v128_2, Ld qw (some ⟨k4, 0, none⟩) w125_2 v128_2 /\
 ∃ wx_21, Sv qw (some ⟨k2, 0, none⟩) v128_2 w125_2 wx_21 /\
 ∃ vr0_8, (qs qw (.pointer (some ⟨k2, 0, none⟩))).run prog wx_21 = .ok vr0_8 wx_21 /\
 K (.tuple #[vr0_8, .int .i64 (0 : Int)]) wx_21))))))
theorem qtG (s0 : List UInt8) {w : World} {K : Value -> World -> Prop} (h : qpg s0 w K) : Calls prog ql8 #[.string (mkS s0)] w (Ret K) :=
 qm (c := qq Tryz.f38) (by kernel_rfl) Tryz.func38 (by kernel_rfl) [(6, [(5, .one (.str))]), (7, [(23, .one (.bool))]), (11, [(34, .one (.bool))]), (28, [(8, .one (.int .i64))]), (29, [(54, .one (.bool))]), (38, []), (39, [(82, .one (.bool))]), (48, []), (55, [(104, .one (.bool))]), (68, []), (68, []), (68, [])] [.string (mkS s0)] (of_decide_eq_true (by kernel_rfl)) _ (by kernel_rfl) h

--  cracknel/match.Sends
def qo7 (v0 : Value) (v1 : Value) (n2 : Int) (w : World) (K : Value -> World -> Prop) : Prop :=
 ∀ k3 w3, k3 = w.heap.size -> w3 = w.alloc (.cells (Value.cells v0) qe) ->
 ∀ k4 w4, k4 = w3.heap.size -> w4 = w3.alloc (.cells (Value.cells v1) qD) ->
 (true = true) /\
 ∃ n9, Ld qA (some ⟨k3, 25, none⟩) w4 (.int .i64 n9) /\
 BCase (decide (n2 < n9))
 ((true = true) /\
 ∃ b13, Ld qN (some ⟨k4, 0, none⟩) w4 (.bool b13) /\
 BCase b13
 ((true = true) /\
 ∃ n22, Ld qt (some ⟨k3, 24, none⟩) w4 (.int .i64 n22) /\
 (true = true) /\
 ∃ n24, Ld qt (some ⟨k4, 20, none⟩) w4 (.int .i64 n24) /\
 Calls prog qhe #[.int .i64 n22, .int .i64 n24] w4 fun e25 w25 => ∃ b25, e25 = .returned (.bool b25) /\
 BCase b25
 ((true = true) /\
 ∃ s29, Ld qh (some ⟨k4, 19, none⟩) w25 (.string (mkS s29)) /\
 (true = true) /\
 ∃ s31, Ld qh (some ⟨k3, 21, none⟩) w25 (.string (mkS s31)) /\
 Calls prog qig #[.string (mkS s29), .string (mkS s31)] w25 fun e32 w32 => ∃ b32, e32 = .returned (.bool b32) /\
 BCase b32
 (∃ v35, Ld qe (some ⟨k3, 0, none⟩) w32 v35 /\
 (true = true) /\
 ∃ v37, Ld qf (some ⟨k4, 1, none⟩) w32 v37 /\
 Calls prog qlr #[v35, v37] w32 fun e38 w38 => ∃ b38, e38 = .returned (.bool b38) /\
 K (.bool b38) w38)
 (K (.bool false) w32))
 (K (.bool false) w25))
 ((true = true) /\
 ∃ b16, Ld qN (some ⟨k3, 22, none⟩) w4 (.bool b16) /\
 BCase (!b16)
 ((true = true) /\
 ∃ n22_1, Ld qt (some ⟨k3, 24, none⟩) w4 (.int .i64 n22_1) /\
 (true = true) /\
 ∃ n24_1, Ld qt (some ⟨k4, 20, none⟩) w4 (.int .i64 n24_1) /\
 Calls prog qhe #[.int .i64 n22_1, .int .i64 n24_1] w4 fun e25_1 w25_1 => ∃ b25_1, e25_1 = .returned (.bool b25_1) /\
 BCase b25_1
 ((true = true) /\
 ∃ s29_1, Ld qh (some ⟨k4, 19, none⟩) w25_1 (.string (mkS s29_1)) /\
 (true = true) /\
 ∃ s31_1, Ld qh (some ⟨k3, 21, none⟩) w25_1 (.string (mkS s31_1)) /\
 Calls prog qig #[.string (mkS s29_1), .string (mkS s31_1)] w25_1 fun e32_1 w32_1 => ∃ b32_1, e32_1 = .returned (.bool b32_1) /\
 BCase b32_1
 (∃ v35_1, Ld qe (some ⟨k3, 0, none⟩) w32_1 v35_1 /\
 (true = true) /\
 ∃ v37_1, Ld qf (some ⟨k4, 1, none⟩) w32_1 v37_1 /\
 Calls prog qlr #[v35_1, v37_1] w32_1 fun e38_1 w38_1 => ∃ b38_1, e38_1 = .returned (.bool b38_1) /\
 K (.bool b38_1) w38_1)
 (K (.bool false) w32_1))
 (K (.bool false) w25_1))
 (K (.bool false) w4)))
 (K (.bool false) w4)
theorem qtw (v0 : Value) (v1 : Value) (n2 : Int) {w : World} {K : Value -> World -> Prop} (h : qo7 v0 v1 n2 w K) : Calls prog ql5 #[v0, v1, .int .i64 n2] w (Ret K) :=
 qm (c := qq Tryz.f43) (by kernel_rfl) Tryz.func43 (by kernel_rfl) [] [v0, v1, .int .i64 n2] (of_decide_eq_true (by kernel_rfl)) _ (by kernel_rfl) h

--  cracknel/match.Ahead
def qo6 (v0 : Value) (v1 : Value) (w : World) (K : Value -> World -> Prop) : Prop :=
 ∀ k2 w2, k2 = w.heap.size -> w2 = w.alloc (.cells (Value.cells v0) qe) ->
 ∀ k3 w3, k3 = w2.heap.size -> w3 = w2.alloc (.cells (Value.cells v1) qe) ->
 (true = true) /\
 ∃ s6, Ld qh (some ⟨k2, 21, none⟩) w3 (.string (mkS s6)) /\
 (true = true) /\
 ∃ s9, Ld qh (some ⟨k3, 21, none⟩) w3 (.string (mkS s9)) /\
 BCase (((List.length s6 : Nat) : Int) != ((List.length s9 : Nat) : Int))
 ((true = true) /\
 ∃ s13, Ld qh (some ⟨k2, 21, none⟩) w3 (.string (mkS s13)) /\
 (true = true) /\
 ∃ s16, Ld qh (some ⟨k3, 21, none⟩) w3 (.string (mkS s16)) /\
 K (.bool (decide (((List.length s13 : Nat) : Int) > ((List.length s16 : Nat) : Int)))) w3)
 ((true = true) /\
 ∃ n20, Ld qt (some ⟨k2, 28, none⟩) w3 (.int .i64 n20) /\
 (true = true) /\
 ∃ n22, Ld qt (some ⟨k3, 28, none⟩) w3 (.int .i64 n22) /\
 K (.bool (decide (n20 < n22))) w3)
theorem qtv (v0 : Value) (v1 : Value) {w : World} {K : Value -> World -> Prop} (h : qo6 v0 v1 w K) : Calls prog ql4 #[v0, v1] w (Ret K) :=
 qm (c := qq Tryz.f46) (by kernel_rfl) Tryz.func46 (by kernel_rfl) [] [v0, v1] (of_decide_eq_true (by kernel_rfl)) _ (by kernel_rfl) h

--  cracknel/cracknelref09.Domain
def qph (s0 : List UInt8) (w : World) (K : Value -> World -> Prop) : Prop :=
 ∃ I : Nat -> FP [.one (.int .i64)],
 (∃ m, I m (0 : Int) w) /\
 ∀ m n9, AllJ 18 (∀ wl, I m n9 wl ->
 BCase (decide (n9 < (2 : Int)))
 (∃ n11, (Instr.index qyU (.agg #[.int .i64 (2 : Int), .int .i64 (3 : Int)]) (.int .i64 n9)).run prog wl = .ok (.int .i64 n11) wl /\
 Calls prog qma #[.int .i64 n11] wl fun e15 w15 => ∃ s15, e15 = .returned (.string (mkS s15)) /\
 Calls prog qa6 #[.string (mkS s0), .string (mkS s15)] w15 fun e16 w16 => ∃ s16_0 b16_1, e16 = .returned (.tuple #[.string (mkS s16_0), .bool b16_1]) /\
 BCase b16_1
 (K (.tuple #[.int .i64 n11, .string (mkS s16_0)]) w16)
 (∃ m' : Nat, m' < m /\ I m' (i64.wrap (n9 + (1 : Int))) w16))
 (K (.tuple #[.int .i64 (1 : Int), .string (mkS s0)]) wl))
theorem qtH (s0 : List UInt8) {w : World} {K : Value -> World -> Prop} (h : qph s0 w K) : Calls prog ql9 #[.string (mkS s0)] w (Ret K) :=
 qm (c := qq Tryz.f55) (by kernel_rfl) Tryz.func55 (by kernel_rfl) [(6, [(9, .one (.int .i64))])] [.string (mkS s0)] (of_decide_eq_true (by kernel_rfl)) _ (by kernel_rfl) h

--  cracknel/rule.mark
def qrR (n0 : Int) (w : World) (K : Value -> World -> Prop) : Prop :=
 BCase (n0 == (2 : Int))
 (K (.string (mkS [42, 46])) w)
 (BCase (n0 == (3 : Int))
 (K (.string (mkS [33])) w)
 (K (.string (mkS [])) w))
theorem qwd (n0 : Int) {w : World} {K : Value -> World -> Prop} (h : qrR n0 w K) : Calls prog qma #[.int .i64 n0] w (Ret K) :=
 qm (c := qq Tryz.f58) (by kernel_rfl) Tryz.func58 (by kernel_rfl) [] [.int .i64 n0] (of_decide_eq_true (by kernel_rfl)) _ (by kernel_rfl) h

--  cracknel/url.Path
def qt3 (s0 : List UInt8) (w : World) (K : Value -> World -> Prop) : Prop :=
 ∃ J : FP [],
 (BCase (s0 == [])
 (K (.bool false) w)
 (BCase (decide (((List.length s0 : Nat) : Int) > (2048 : Int)))
 (K (.bool false) w)
 (((0 <= (0 : Int) /\ (0 : Int) < ((List.length s0 : Nat) : Int))) /\
 BCase ((qH s0 (0 : Int)) != (47 : Int))
 (K (.bool false) w)
 (J w)))) /\
 AllJ 13 (∀ wj, J wj ->
 ∃ w18 a18 l18 c18, (convert qh za (.string (mkS s0))).run prog wj = .ok (.slice a18 l18 c18) w18 /\
 ∃ I : Nat -> FP [.one (.int .i64)],
 (∃ m, I m (0 : Int) w18) /\
 ∀ m n20, AllJ 20 (∀ wl, I m n20 wl ->
 BCase (decide (n20 < ((l18 : Nat) : Int)))
 (((0 <= n20 /\ n20 < ((l18 : Nat) : Int)) /\ Option.isSome a18 = true) /\
 ∃ n23, Ld qU (ql a18 n20 1) wl (.int .u8 n23) /\
 BCase (decide (n23 < (33 : Int)))
 (K (.bool false) wl)
 (BCase (decide (n23 > (126 : Int)))
 (K (.bool false) wl)
 (BCase (n23 == (63 : Int))
 (K (.bool false) wl)
 (BCase (n23 == (35 : Int))
 (K (.bool false) wl)
 (∃ m' : Nat, m' < m /\ I m' (i64.wrap (n20 + (1 : Int))) wl)))))
 (K (.bool true) wl)))
theorem qw5 (s0 : List UInt8) {w : World} {K : Value -> World -> Prop} (h : qt3 s0 w K) : Calls prog qq4 #[.string (mkS s0)] w (Ret K) :=
 qm (c := qq Tryz.f61) (by kernel_rfl) Tryz.func61 (by kernel_rfl) [(2, []), (14, [(20, .one (.int .i64))])] [.string (mkS s0)] (of_decide_eq_true (by kernel_rfl)) _ (by kernel_rfl) h

--  cracknel/admit.given
def qoW (v0 : Value) (s1_0 : List UInt8) (s1_1 : List UInt8) (s1_2 : List UInt8) (s1_3 : List UInt8) (b1_4 : Bool) (n1_5 : Int) (b1_6 : Bool) (n1_7 : Int) (b1_8 : Bool) (b1_9 : Bool) (n1_10 : Int) (n2 : Int) (w : World) (K : Value -> World -> Prop) : Prop :=
 ∀ k3 w3, k3 = w.heap.size -> w3 = w.alloc (.cells (Value.cells v0) qw) ->
 ∀ k4 w4, k4 = w3.heap.size -> w4 = w3.alloc (.cells #[.string (mkS s1_0), .string (mkS s1_1), .string (mkS s1_2), .string (mkS s1_3), .bool b1_4, .int .i64 n1_5, .bool b1_6, .int .i64 n1_7, .bool b1_8, .bool b1_9, .int .i64 n1_10] qi) ->
 ∃ v8, Ld qw (some ⟨k3, 0, none⟩) w4 v8 /\
 Calls prog qmc #[v8] w4 fun e9 w9 => ∃ b9, e9 = .returned (.bool b9) /\
 BCase (!b9)
 (K (.int .i64 (41 : Int)) w9)
 (∃ s12_0 s12_1 s12_2 s12_3 b12_4 n12_5 b12_6 n12_7 b12_8 b12_9 n12_10, Ld qi (some ⟨k4, 0, none⟩) w9 (hV s12_0 s12_1 s12_2 s12_3 b12_4 n12_5 b12_6 n12_7 b12_8 b12_9 n12_10) /\
 Calls prog qk9 #[(hV s12_0 s12_1 s12_2 s12_3 b12_4 n12_5 b12_6 n12_7 b12_8 b12_9 n12_10)] w9 fun e13 w13 => ∃ b13, e13 = .returned (.bool b13) /\
 BCase (!b13)
 (K (.int .i64 (82 : Int)) w13)
 (BCase (decide (n2 < (0 : Int)))
 (K (.int .i64 (122 : Int)) w13)
 (BCase (decide (n2 > (1099511627776 : Int)))
 (K (.int .i64 (122 : Int)) w13)
 (K (.int .i64 (0 : Int)) w13))))
theorem qtl (v0 : Value) (s1_0 : List UInt8) (s1_1 : List UInt8) (s1_2 : List UInt8) (s1_3 : List UInt8) (b1_4 : Bool) (n1_5 : Int) (b1_6 : Bool) (n1_7 : Int) (b1_8 : Bool) (b1_9 : Bool) (n1_10 : Int) (n2 : Int) {w : World} {K : Value -> World -> Prop} (h : qoW v0 s1_0 s1_1 s1_2 s1_3 b1_4 n1_5 b1_6 n1_7 b1_8 b1_9 n1_10 n2 w K) : Calls prog qlZ #[v0, .agg #[.string (mkS s1_0), .string (mkS s1_1), .string (mkS s1_2), .string (mkS s1_3), .bool b1_4, .int .i64 n1_5, .bool b1_6, .int .i64 n1_7, .bool b1_8, .bool b1_9, .int .i64 n1_10], .int .i64 n2] w (Ret K) :=
 qm (c := qq Tryz.f66) (by kernel_rfl) Tryz.func66 (by kernel_rfl) [] [v0, .agg #[.string (mkS s1_0), .string (mkS s1_1), .string (mkS s1_2), .string (mkS s1_3), .bool b1_4, .int .i64 n1_5, .bool b1_6, .int .i64 n1_7, .bool b1_8, .bool b1_9, .int .i64 n1_10], .int .i64 n2] (of_decide_eq_true (by kernel_rfl)) _ (by kernel_rfl) h

--  cracknel/admit.domain
def qn6 (p0 : Option Addr) (v1 : Value) (s2 : List UInt8) (w : World) (K : Value -> World -> Prop) : Prop :=
 ∀ k4 w4, k4 = w.heap.size -> w4 = w.alloc (.cells (Value.cells v1) qf) ->
 ∀ k6 w6, k6 = w4.heap.size -> w6 = w4.alloc (.cells qZ qf) ->
 BCase (s2 == [])
 (∃ v13, Ld qf (some ⟨k4, 0, none⟩) w6 v13 /\
 ∃ wx, Sv qf (some ⟨k6, 0, none⟩) v13 w6 wx /\
 ∃ vr0, (qs qf (.pointer (some ⟨k6, 0, none⟩))).run prog wx = .ok vr0 wx /\
 K (.tuple #[vr0, .bool true, .int .i64 (0 : Int)]) wx)
 (Calls prog qjm #[.string (mkS s2)] w6 fun e16 w16 => ∃ v16_0 n16_1, e16 = .returned (.tuple #[v16_0, .int .i64 n16_1]) /\
 ∀ k9 w9, k9 = w16.heap.size -> w9 = w16.alloc (.cells qZ qf) ->
 ∃ wx_1, Sv qf (some ⟨k9, 0, none⟩) v16_0 w9 wx_1 /\
 ∃ J : FP [],
 (BCase (n16_1 != (0 : Int))
 (∃ v22, Ld qf (some ⟨k9, 0, none⟩) wx_1 v22 /\
 ∃ wx_2, Sv qf (some ⟨k6, 0, none⟩) v22 wx_1 wx_2 /\
 ∃ vr0_1, (qs qf (.pointer (some ⟨k6, 0, none⟩))).run prog wx_2 = .ok vr0_1 wx_2 /\
 K (.tuple #[vr0_1, .bool false, .int .i64 (101 : Int)]) wx_2)
 (∃ J_1 : FP [.one (.bool)],
 (∃ v25, Ld qf (some ⟨k9, 0, none⟩) wx_1 v25 /\
 Calls prog qcm #[.pointer p0, v25] wx_1 fun e26 w26 => ∃ b26, e26 = .returned (.bool b26) /\
 BCase b26
 (∃ v28, Ld qf (some ⟨k9, 0, none⟩) w26 v28 /\
 ∃ v29, Ld qf (some ⟨k4, 0, none⟩) w26 v29 /\
 ∃ b30, ((do eqGuard .neq qf (.tmp 28) (.tmp 29) v28 v29; binOp .neq qf v28 v29 : Sem Value)).run prog w26 = .ok (.bool b30) w26 /\
 J_1 b30 w26)
 (J_1 false w26)) /\
 ∀ b23, AllJ 8 (∀ wj, J_1 b23 wj ->
 BCase b23
 (∃ v32, Ld qf (some ⟨k9, 0, none⟩) wj v32 /\
 ∃ wx_3, Sv qf (some ⟨k6, 0, none⟩) v32 wj wx_3 /\
 ∃ vr0_2, (qs qf (.pointer (some ⟨k6, 0, none⟩))).run prog wx_3 = .ok vr0_2 wx_3 /\
 K (.tuple #[vr0_2, .bool false, .int .i64 (102 : Int)]) wx_3)
 (∃ v34, Ld qf (some ⟨k4, 0, none⟩) wj v34 /\
 ∃ v35, Ld qf (some ⟨k9, 0, none⟩) wj v35 /\
 Calls prog qgR #[v34, v35] wj fun e36 w36 => ∃ b36, e36 = .returned (.bool b36) /\
 BCase (!b36)
 (∃ v38, Ld qf (some ⟨k9, 0, none⟩) w36 v38 /\
 ∃ wx_4, Sv qf (some ⟨k6, 0, none⟩) v38 w36 wx_4 /\
 ∃ vr0_3, (qs qf (.pointer (some ⟨k6, 0, none⟩))).run prog wx_4 = .ok vr0_3 wx_4 /\
 K (.tuple #[vr0_3, .bool false, .int .i64 (103 : Int)]) wx_4)
 (J w36))))) /\
 AllJ 22 (∀ wj_1, J wj_1 ->
 (∃ v39, Ld qf (some ⟨k9, 0, none⟩) (World.drew wj_1) v39 /\
 ∃ v41, Ld qf (some ⟨k9, 0, none⟩) (World.drew wj_1) v41 /\
 Calls prog qcm #[.pointer p0, v41] (World.drew wj_1) fun e42 w42 => ∃ b42, e42 = .returned (.bool b42) /\
 ∃ wx_5, Sv qf (some ⟨k6, 0, none⟩) v39 w42 wx_5 /\
 ∃ vr0_4, (qs qf (.pointer (some ⟨k6, 0, none⟩))).run prog wx_5 = .ok vr0_4 wx_5 /\
 K (.tuple #[vr0_4, .bool b42, .int .i64 (0 : Int)]) wx_5) /\
 ∃ v41_1, Ld qf (some ⟨k9, 0, none⟩) (World.drew wj_1) v41_1 /\
 (∃ v39_1, Ld qf (some ⟨k9, 0, none⟩) (World.drew wj_1) v39_1 /\
 Calls prog qcm #[.pointer p0, v41_1] (World.drew wj_1) fun e42_1 w42_1 => ∃ b42_1, e42_1 = .returned (.bool b42_1) /\
 ∃ wx_6, Sv qf (some ⟨k6, 0, none⟩) v39_1 w42_1 wx_6 /\
 ∃ vr0_5, (qs qf (.pointer (some ⟨k6, 0, none⟩))).run prog wx_6 = .ok vr0_5 wx_6 /\
 K (.tuple #[vr0_5, .bool b42_1, .int .i64 (0 : Int)]) wx_6) /\
 Calls prog qcm #[.pointer p0, v41_1] (World.drew wj_1) fun e42_2 w42_2 => ∃ b42_2, e42_2 = .returned (.bool b42_2) /\
 ∃ v39_2, Ld qf (some ⟨k9, 0, none⟩) w42_2 v39_2 /\
 ∃ wx_7, Sv qf (some ⟨k6, 0, none⟩) v39_2 w42_2 wx_7 /\
 ∃ vr0_6, (qs qf (.pointer (some ⟨k6, 0, none⟩))).run prog wx_7 = .ok vr0_6 wx_7 /\
 K (.tuple #[vr0_6, .bool b42_2, .int .i64 (0 : Int)]) wx_7))
theorem qr6 (p0 : Option Addr) (v1 : Value) (s2 : List UInt8) {w : World} {K : Value -> World -> Prop} (h : qn6 p0 v1 s2 w K) : Calls prog qk8 #[.pointer p0, v1, .string (mkS s2)] w (Ret K) :=
 qm (c := qq Tryz.f67) (by kernel_rfl) Tryz.func67 (by kernel_rfl) [(12, []), (20, [(23, .one (.bool))])] [.pointer p0, v1, .string (mkS s2)] (of_decide_eq_true (by kernel_rfl)) _ (by kernel_rfl) h

--  cracknel/admit.broken
def qn5 (s0_0 : List UInt8) (s0_1 : List UInt8) (s0_2 : List UInt8) (s0_3 : List UInt8) (b0_4 : Bool) (n0_5 : Int) (b0_6 : Bool) (n0_7 : Int) (b0_8 : Bool) (b0_9 : Bool) (n0_10 : Int) (b1 : Bool) (w : World) (K : Value -> World -> Prop) : Prop :=
 ∀ k2 w2, k2 = w.heap.size -> w2 = w.alloc (.cells #[.string (mkS s0_0), .string (mkS s0_1), .string (mkS s0_2), .string (mkS s0_3), .bool b0_4, .int .i64 n0_5, .bool b0_6, .int .i64 n0_7, .bool b0_8, .bool b0_9, .int .i64 n0_10] qi) ->
 (true = true) /\
 ∃ s7, Ld qh (some ⟨k2, 0, none⟩) w2 (.string (mkS s7)) /\
 ∃ J : FP [.one (.str)],
 (BCase (s7 == [])
 ((true = true) /\
 ∃ s11, Ld qh (some ⟨k2, 1, none⟩) w2 (.string (mkS s11)) /\
 J s11 w2)
 (J s7 w2)) /\
 ∀ s5, AllJ 4 (∀ wj, J s5 wj ->
 Calls prog qk6 #[.string (mkS s5)] wj fun e13 w13 => ∃ n13, e13 = .returned (.int .i64 n13) /\
 BCase (n13 == (1 : Int))
 ((true = true) /\
 ∃ b17, Ld qN (some ⟨k2, 8, none⟩) w13 (.bool b17) /\
 K (.bool (!b17)) w13)
 (BCase (n13 == (2 : Int))
 ((true = true) /\
 ∃ b22, Ld qN (some ⟨k2, 8, none⟩) w13 (.bool b22) /\
 BCase (!b22)
 (K (.bool true) w13)
 (BCase (!b1)
 (K (.bool true) w13)
 ((true = true) /\
 ∃ s30, Ld qh (some ⟨k2, 3, none⟩) w13 (.string (mkS s30)) /\
 K (.bool (!(s30 == [47]))) w13)))
 (K (.bool false) w13)))
theorem qr5 (s0_0 : List UInt8) (s0_1 : List UInt8) (s0_2 : List UInt8) (s0_3 : List UInt8) (b0_4 : Bool) (n0_5 : Int) (b0_6 : Bool) (n0_7 : Int) (b0_8 : Bool) (b0_9 : Bool) (n0_10 : Int) (b1 : Bool) {w : World} {K : Value -> World -> Prop} (h : qn5 s0_0 s0_1 s0_2 s0_3 b0_4 n0_5 b0_6 n0_7 b0_8 b0_9 n0_10 b1 w K) : Calls prog qk7 #[.agg #[.string (mkS s0_0), .string (mkS s0_1), .string (mkS s0_2), .string (mkS s0_3), .bool b0_4, .int .i64 n0_5, .bool b0_6, .int .i64 n0_7, .bool b0_8, .bool b0_9, .int .i64 n0_10], .bool b1] w (Ret K) :=
 qm (c := qq Tryz.f68) (by kernel_rfl) Tryz.func68 (by kernel_rfl) [(4, [(5, .one (.str))])] [.agg #[.string (mkS s0_0), .string (mkS s0_1), .string (mkS s0_2), .string (mkS s0_3), .bool b0_4, .int .i64 n0_5, .bool b0_6, .int .i64 n0_7, .bool b0_8, .bool b0_9, .int .i64 n0_10], .bool b1] (of_decide_eq_true (by kernel_rfl)) _ (by kernel_rfl) h

--  cracknel/match.Default
def qmR (s0 : List UInt8) (w : World) (K : Value -> World -> Prop) : Prop :=
 Calls prog qmb #[.string (mkS s0), .int .u8 (47 : Int)] w fun e5 w5 => ∃ n5, e5 = .returned (.int .i64 n5) /\
 ∃ J : FP [.one (.bool)],
 (BCase (decide (n5 > (0 : Int)))
 (((0 <= (0 : Int) /\ (0 : Int) < ((List.length s0 : Nat) : Int))) /\
 J ((qH s0 (0 : Int)) == (47 : Int)) w5)
 (J false w5)) /\
 ∀ b12, AllJ 6 (∀ wj, J b12 wj ->
 BCase b12
 (((0 <= n5 /\ n5 <= (((List.length s0) : Nat) : Int))) /\
 ∀ s15, s15 = (List.take (Int.toNat n5) s0) ->
 K (.string (mkS s15)) wj)
 (K (.string (mkS [47])) wj))
theorem qrm (s0 : List UInt8) {w : World} {K : Value -> World -> Prop} (h : qmR s0 w K) : Calls prog qj9 #[.string (mkS s0)] w (Ret K) :=
 qm (c := qq Tryz.f69) (by kernel_rfl) Tryz.func69 (by kernel_rfl) [(5, [(12, .one (.bool))])] [.string (mkS s0)] (of_decide_eq_true (by kernel_rfl)) _ (by kernel_rfl) h

--  cracknel/admit.expires
def qmJ (s0_0 : List UInt8) (s0_1 : List UInt8) (s0_2 : List UInt8) (s0_3 : List UInt8) (b0_4 : Bool) (n0_5 : Int) (b0_6 : Bool) (n0_7 : Int) (b0_8 : Bool) (b0_9 : Bool) (n0_10 : Int) (n1 : Int) (w : World) (K : Value -> World -> Prop) : Prop :=
 ∀ k2 w2, k2 = w.heap.size -> w2 = w.alloc (.cells #[.string (mkS s0_0), .string (mkS s0_1), .string (mkS s0_2), .string (mkS s0_3), .bool b0_4, .int .i64 n0_5, .bool b0_6, .int .i64 n0_7, .bool b0_8, .bool b0_9, .int .i64 n0_10] qi) ->
 (true = true) /\
 ∃ b7, Ld qN (some ⟨k2, 6, none⟩) w2 (.bool b7) /\
 BCase b7
 ((true = true) /\
 ∃ n10, Ld qA (some ⟨k2, 7, none⟩) w2 (.int .i64 n10) /\
 K (.int .i64 (i64.wrap (n1 + n10))) w2)
 ((true = true) /\
 ∃ b14, Ld qN (some ⟨k2, 4, none⟩) w2 (.bool b14) /\
 BCase b14
 ((true = true) /\
 ∃ n16, Ld qA (some ⟨k2, 5, none⟩) w2 (.int .i64 n16) /\
 ∃ n19, (Builtin.min_ #[qA, qA] qA #[.int .i64 n16, .int .i64 (i64.wrap (n1 + (34560000 : Int)))]).run prog w2 = .ok (.int .i64 n19) w2 /\
 K (.int .i64 n19) w2)
 (K (.int .i64 (9223372036854775807 : Int)) w2))
theorem qrd (s0_0 : List UInt8) (s0_1 : List UInt8) (s0_2 : List UInt8) (s0_3 : List UInt8) (b0_4 : Bool) (n0_5 : Int) (b0_6 : Bool) (n0_7 : Int) (b0_8 : Bool) (b0_9 : Bool) (n0_10 : Int) (n1 : Int) {w : World} {K : Value -> World -> Prop} (h : qmJ s0_0 s0_1 s0_2 s0_3 b0_4 n0_5 b0_6 n0_7 b0_8 b0_9 n0_10 n1 w K) : Calls prog qj4 #[.agg #[.string (mkS s0_0), .string (mkS s0_1), .string (mkS s0_2), .string (mkS s0_3), .bool b0_4, .int .i64 n0_5, .bool b0_6, .int .i64 n0_7, .bool b0_8, .bool b0_9, .int .i64 n0_10], .int .i64 n1] w (Ret K) :=
 qm (c := qq Tryz.f70) (by kernel_rfl) Tryz.func70 (by kernel_rfl) [] [.agg #[.string (mkS s0_0), .string (mkS s0_1), .string (mkS s0_2), .string (mkS s0_3), .bool b0_4, .int .i64 n0_5, .bool b0_6, .int .i64 n0_7, .bool b0_8, .bool b0_9, .int .i64 n0_10], .int .i64 n1] (of_decide_eq_true (by kernel_rfl)) _ (by kernel_rfl) h

--  cracknel/match.Domain
def qod (v0 : Value) (v1 : Value) (w : World) (K : Value -> World -> Prop) : Prop :=
 ∀ k2 w2, k2 = w.heap.size -> w2 = w.alloc (.cells (Value.cells v0) qf) ->
 ∀ k3 w3, k3 = w2.heap.size -> w3 = w2.alloc (.cells (Value.cells v1) qf) ->
 ∃ v5, Ld qf (some ⟨k2, 0, none⟩) w3 v5 /\
 ∃ v6, Ld qf (some ⟨k3, 0, none⟩) w3 v6 /\
 ∃ b7, ((do eqGuard .eql qf (.tmp 5) (.tmp 6) v5 v6; binOp .eql qf v5 v6 : Sem Value)).run prog w3 = .ok (.bool b7) w3 /\
 BCase b7
 (∃ v9, Ld qf (some ⟨k2, 0, none⟩) w3 v9 /\
 Calls prog qhd #[v9] w3 fun e10 w10 => ∃ b10, e10 = .returned (.bool b10) /\
 BCase b10
 (K (.bool true) w10)
 (∃ v13, Ld qf (some ⟨k2, 0, none⟩) w10 v13 /\
 ∃ v14, Ld qf (some ⟨k3, 0, none⟩) w10 v14 /\
 Calls prog qjn #[v13, v14] w10 fun e15 w15 => ∃ b15, e15 = .returned (.bool b15) /\
 K (.bool b15) w15))
 (∃ v13_1, Ld qf (some ⟨k2, 0, none⟩) w3 v13_1 /\
 ∃ v14_1, Ld qf (some ⟨k3, 0, none⟩) w3 v14_1 /\
 Calls prog qjn #[v13_1, v14_1] w3 fun e15_1 w15_1 => ∃ b15_1, e15_1 = .returned (.bool b15_1) /\
 K (.bool b15_1) w15_1)
theorem qsd (v0 : Value) (v1 : Value) {w : World} {K : Value -> World -> Prop} (h : qod v0 v1 w K) : Calls prog qgR #[v0, v1] w (Ret K) :=
 qm (c := qq Tryz.f73) (by kernel_rfl) Tryz.func73 (by kernel_rfl) [] [v0, v1] (of_decide_eq_true (by kernel_rfl)) _ (by kernel_rfl) h

--  cracknel/match.Path
def qqQ (s0 : List UInt8) (s1 : List UInt8) (w : World) (K : Value -> World -> Prop) : Prop :=
 Calls prog qa6 #[.string (mkS s0), .string (mkS s1)] w fun e10 w10 => ∃ s10_0 b10_1, e10 = .returned (.tuple #[.string (mkS s10_0), .bool b10_1]) /\
 BCase b10_1
 (BCase (s10_0 == [])
 (K (.bool true) w10)
 (((0 <= (0 : Int) /\ (0 : Int) < ((List.length s10_0 : Nat) : Int))) /\
 BCase ((qH s10_0 (0 : Int)) == (47 : Int))
 (K (.bool true) w10)
 (Calls prog qka #[.string (mkS s1), .string (mkS [47])] w10 fun e24 w24 => ∃ b24, e24 = .returned (.bool b24) /\
 K (.bool b24) w24)))
 (K (.bool false) w10)
theorem quG (s0 : List UInt8) (s1 : List UInt8) {w : World} {K : Value -> World -> Prop} (h : qqQ s0 s1 w K) : Calls prog qig #[.string (mkS s0), .string (mkS s1)] w (Ret K) :=
 qm (c := qq Tryz.f74) (by kernel_rfl) Tryz.func74 (by kernel_rfl) [] [.string (mkS s0), .string (mkS s1)] (of_decide_eq_true (by kernel_rfl)) _ (by kernel_rfl) h

--  (*cracknel/suffix.Table).Site
def qqU (s0 : List UInt8) (s1 : List UInt8) (w : World) (K : Value -> World -> Prop) : Prop :=
 ∃ I : Nat -> FP [.one (.int .i64)],
 (∃ m, I m (0 : Int) w) /\
 ∀ m n5, AllJ 22 (∀ wl, I m n5 wl ->
 BCase (decide (n5 < ((List.length s0 : Nat) : Int)))
 (∃ I_1 : Nat -> FP [.one (.int .i64)],
 (∃ m_1, I_1 m_1 (0 : Int) wl) /\
 ∀ m_1 n6, AllJ 15 (∀ wl_1, I_1 m_1 n6 wl_1 ->
 BCase (decide (n6 < ((List.length s1 : Nat) : Int)))
 (((0 <= n5 /\ n5 < ((List.length s0 : Nat) : Int))) /\
 ((0 <= n6 /\ n6 < ((List.length s1 : Nat) : Int))) /\
 ∀ wq, Below wl_1.heap.size wl_1 wq ->
 BCase ((qH s0 n5) == (qH s1 n6))
 (K (.int .i64 n5) wq)
 (∃ m'_1 : Nat, m'_1 < m_1 /\ I_1 m'_1 (i64.wrap (n6 + (1 : Int))) wq))
 (∃ m' : Nat, m' < m /\ I m' (i64.wrap (n5 + (1 : Int))) wl_1)))
 (K (.int .i64 ((List.length s0 : Nat) : Int)) wl))
theorem quK (s0 : List UInt8) (s1 : List UInt8) {w : World} {K : Value -> World -> Prop} (h : qqU s0 s1 w K) : Calls prog qf8 #[.string (mkS s0), .string (mkS s1)] w (Ret K) :=
 qm (c := qq Tryz.f84) (by kernel_rfl) Tryz.func84 (by kernel_rfl) [(6, [(5, .one (.int .i64))]), (18, [(6, .one (.int .i64))])] [.string (mkS s0), .string (mkS s1)] (of_decide_eq_true (by kernel_rfl)) _ (by kernel_rfl) h

--  cracknel/cracknelref04.Path
def qqT (s0 : List UInt8) (w : World) (K : Value -> World -> Prop) : Prop :=
 ∃ I : Nat -> FP [.one (.int .i64)],
 (∃ m, I m (0 : Int) w) /\
 ∀ m n3, AllJ 29 (∀ wl, I m n3 wl ->
 BCase (decide (n3 < ((List.length s0 : Nat) : Int)))
 (((0 <= n3 /\ n3 < ((List.length s0 : Nat) : Int))) /\
 BCase (decide ((qH s0 n3) < (33 : Int)))
 (K (.bool false) wl)
 (((0 <= n3 /\ n3 < ((List.length s0 : Nat) : Int))) /\
 BCase (decide ((qH s0 n3) > (126 : Int)))
 (K (.bool false) wl)
 (((0 <= n3 /\ n3 < ((List.length s0 : Nat) : Int))) /\
 BCase ((qH s0 n3) == (63 : Int))
 (K (.bool false) wl)
 (((0 <= n3 /\ n3 < ((List.length s0 : Nat) : Int))) /\
 BCase ((qH s0 n3) == (35 : Int))
 (K (.bool false) wl)
 (∃ m' : Nat, m' < m /\ I m' (i64.wrap (n3 + (1 : Int))) wl)))))
 (BCase (decide (((List.length s0 : Nat) : Int) >= (1 : Int)))
 (BCase (decide (((List.length s0 : Nat) : Int) <= (2048 : Int)))
 (((0 <= (0 : Int) /\ (0 : Int) < ((List.length s0 : Nat) : Int))) /\
 K (.bool ((qH s0 (0 : Int)) == (47 : Int))) wl)
 (K (.bool false) wl))
 (K (.bool false) wl)))
theorem quJ (s0 : List UInt8) {w : World} {K : Value -> World -> Prop} (h : qqT s0 w K) : Calls prog qe2 #[.string (mkS s0)] w (Ret K) :=
 qm (c := qq Tryz.f87) (by kernel_rfl) Tryz.func87 (by kernel_rfl) [(6, [(3, .one (.int .i64))])] [.string (mkS s0)] (of_decide_eq_true (by kernel_rfl)) _ (by kernel_rfl) h

--  cracknel/match.crosses
def qmS (n0 : Int) (n1 : Int) (w : World) (K : Value -> World -> Prop) : Prop :=
 BCase (n1 == (0 : Int))
 (K (.bool true) w)
 (BCase (n1 == (1 : Int))
 (K (.bool (n0 != (3 : Int))) w)
 (BCase (n1 == (2 : Int))
 (K (.bool (n0 == (1 : Int))) w)
 (K (.bool false) w)))
theorem qrn (n0 : Int) (n1 : Int) {w : World} {K : Value -> World -> Prop} (h : qmS n0 n1 w K) : Calls prog qhe #[.int .i64 n0, .int .i64 n1] w (Ret K) :=
 qm (c := qq Tryz.f94) (by kernel_rfl) Tryz.func94 (by kernel_rfl) [] [.int .i64 n0, .int .i64 n1] (of_decide_eq_true (by kernel_rfl)) _ (by kernel_rfl) h

--  cracknel/match.at
def qtZ (v0 : Value) (v1 : Value) (w : World) (K : Value -> World -> Prop) : Prop :=
 ∀ k2 w2, k2 = w.heap.size -> w2 = w.alloc (.cells (Value.cells v0) qe) ->
 ∀ k3 w3, k3 = w2.heap.size -> w3 = w2.alloc (.cells (Value.cells v1) qf) ->
 (true = true) /\
 ∃ b6, Ld qN (some ⟨k2, 20, none⟩) w3 (.bool b6) /\
 BCase b6
 ((true = true) /\
 ∃ v8, Ld qf (some ⟨k2, 2, none⟩) w3 v8 /\
 ∃ v9, Ld qf (some ⟨k3, 0, none⟩) w3 v9 /\
 ∃ b10, ((do eqGuard .eql qf (.tmp 8) (.tmp 9) v8 v9; binOp .eql qf v8 v9 : Sem Value)).run prog w3 = .ok (.bool b10) w3 /\
 BCase b10
 (∃ v12, Ld qf (some ⟨k3, 0, none⟩) w3 v12 /\
 Calls prog qhd #[v12] w3 fun e13 w13 => ∃ b13, e13 = .returned (.bool b13) /\
 K (.bool b13) w13)
 (K (.bool false) w3))
 (∃ v15, Ld qf (some ⟨k3, 0, none⟩) w3 v15 /\
 (true = true) /\
 ∃ v17, Ld qf (some ⟨k2, 2, none⟩) w3 v17 /\
 Calls prog qgR #[v15, v17] w3 fun e18 w18 => ∃ b18, e18 = .returned (.bool b18) /\
 K (.bool b18) w18)
theorem qw1 (v0 : Value) (v1 : Value) {w : World} {K : Value -> World -> Prop} (h : qtZ v0 v1 w K) : Calls prog qlr #[v0, v1] w (Ret K) :=
 qm (c := qq Tryz.f95) (by kernel_rfl) Tryz.func95 (by kernel_rfl) [] [v0, v1] (of_decide_eq_true (by kernel_rfl)) _ (by kernel_rfl) h

--  (*cracknel/suffix.Table).Public
def qiX (p0 : Option Addr) (v1 : Value) (w : World) (K : Value -> World -> Prop) : Prop :=
 ∀ k3 w3, k3 = w.heap.size -> w3 = w.alloc (.cells (Value.cells v1) qf) ->
 ∃ v6, Ld qf (some ⟨k3, 0, none⟩) w3 v6 /\
 Calls prog qaR #[v6] w3 fun e7 w7 => ∃ a7 l7 c7, e7 = .returned (.slice a7 l7 c7) /\
 BCase (decide (((l7 : Nat) : Int) > (0 : Int)))
 (∃ v13, Ld qf (some ⟨k3, 0, none⟩) w7 v13 /\
 Calls prog qe4 #[.pointer p0, v13] w7 fun e14 w14 => ∃ n14, e14 = .returned (.int .i64 n14) /\
 K (.bool (n14 == ((l7 : Nat) : Int))) w14)
 (K (.bool false) w7)
theorem qmu (p0 : Option Addr) (v1 : Value) {w : World} {K : Value -> World -> Prop} (h : qiX p0 v1 w K) : Calls prog qcm #[.pointer p0, v1] w (Ret K) :=
 qm (c := qq Tryz.f126) (by kernel_rfl) Tryz.func126 (by kernel_rfl) [] [.pointer p0, v1] (of_decide_eq_true (by kernel_rfl)) _ (by kernel_rfl) h

--  cracknel/admit.Prefix
def qn4 (s0 : List UInt8) (w : World) (K : Value -> World -> Prop) : Prop :=
 ∃ I : Nat -> FP [.one (.int .i64)],
 (∃ m, I m (0 : Int) w) /\
 ∀ m n6, AllJ 26 (∀ wl, I m n6 wl ->
 BCase (decide (n6 < (3 : Int)))
 (∃ s9, (Instr.index qvn (.agg #[.string (mkS []), .string (mkS [95, 95, 115, 101, 99, 117, 114, 101, 45]), .string (mkS [95, 95, 104, 111, 115, 116, 45])]) (.int .i64 n6)).run prog wl = .ok (.string (mkS s9)) wl /\
 BCase (decide (n6 > (0 : Int)))
 (BCase (decide (((List.length s0 : Nat) : Int) >= ((List.length s9 : Nat) : Int)))
 (((0 <= ((List.length s9 : Nat) : Int) /\ ((List.length s9 : Nat) : Int) <= (((List.length s0) : Nat) : Int))) /\
 ∀ s23, s23 = (List.take (Int.toNat ((List.length s9 : Nat) : Int)) s0) ->
 Calls prog qd8 #[.string (mkS s23)] wl fun e24 w24 => ∃ s24, e24 = .returned (.string (mkS s24)) /\
 BCase (s24 == s9)
 (K (.int .i64 n6) w24)
 (∃ m' : Nat, m' < m /\ I m' (i64.wrap (n6 + (1 : Int))) w24))
 (∃ m' : Nat, m' < m /\ I m' (i64.wrap (n6 + (1 : Int))) wl))
 (∃ m' : Nat, m' < m /\ I m' (i64.wrap (n6 + (1 : Int))) wl))
 (K (.int .i64 (0 : Int)) wl))
theorem qr4 (s0 : List UInt8) {w : World} {K : Value -> World -> Prop} (h : qn4 s0 w K) : Calls prog qk6 #[.string (mkS s0)] w (Ret K) :=
 qm (c := qq Tryz.f127) (by kernel_rfl) Tryz.func127 (by kernel_rfl) [(6, [(6, .one (.int .i64))])] [.string (mkS s0)] (of_decide_eq_true (by kernel_rfl)) _ (by kernel_rfl) h

--  (*cracknel/suffix.Table).Suffix
def qiZ (p0 : Option Addr) (v1 : Value) (w : World) (K : Value -> World -> Prop) : Prop :=
 ∀ k3 w3, k3 = w.heap.size -> w3 = w.alloc (.cells (Value.cells v1) qf) ->
 ∃ v12, Ld qf (some ⟨k3, 0, none⟩) w3 v12 /\
 Calls prog qaR #[v12] w3 fun e13 w13 => ∃ a13 l13 c13, e13 = .returned (.slice a13 l13 c13) /\
 ∃ n16, (Builtin.min_ #[qt, qt] qt #[.int .i64 (1 : Int), .int .i64 ((l13 : Nat) : Int)]).run prog w13 = .ok (.int .i64 n16) w13 /\
 ∃ J : FP [.one (.int .i64), .one (.int .i64)],
 (∃ I : Nat -> FP [.one (.int .i64), .one (.int .i64), .one (.int .i64), .one (.int .i64)],
 (∃ m, I m (0 : Int) n16 (0 : Int) (1 : Int) w13) /\
 ∀ m n6 n7 n8 n9, AllJ 56 (∀ wl, I m n6 n7 n8 n9 wl ->
 BCase (decide (n9 <= ((l13 : Nat) : Int)))
 (∃ J_1 : FP [.one (.int .i64)],
 ((Option.isSome p0 = true) /\
 (Option.isSome p0 = true) /\
 ∃ a26 l26 c26, Ld jR (Option.map (fun x => x.add 1) p0) wl (.slice a26 l26 c26) /\
 ((0 <= n6 /\ n6 < ((l26 : Nat) : Int)) /\ Option.isSome a26 = true) /\
 ((0 <= (2 : Int) /\ (2 : Int) < ((4 : Nat) : Int)) /\ Option.isSome (ql a26 n6 4) = true) /\
 ∃ b30, Ld qN (ql (ql a26 n6 4) (2 : Int) 1) wl (.bool b30) /\
 BCase b30
 (J_1 n9 wl)
 (J_1 n7 wl)) /\
 ∀ n7_1, AllJ 9 (∀ wj, J_1 n7_1 wj ->
 (Option.isSome p0 = true) /\
 (Option.isSome p0 = true) /\
 ∃ (m36 : Option Nat), (∀ u36, Below wj.heap.size wj u36 -> Ld jw (Option.map (fun x => x.add 0) p0) u36 (.map m36)) /\
 ((0 <= (i64.wrap (((l13 : Nat) : Int) - n9)) /\ (i64.wrap (((l13 : Nat) : Int) - n9)) < ((l13 : Nat) : Int)) /\ Option.isSome a13 = true) /\
 ∃ s44, (∀ u44, Below wj.heap.size wj u44 -> Ld qh (ql a13 (i64.wrap (((l13 : Nat) : Int) - n9)) 1) u44 (.string (mkS s44))) /\
 ∃ n46_0 b46_1, (∀ u46, Below wj.heap.size wj u46 -> (Instr.lookup jw (.map m36) (.agg #[.int .i64 n6, .string (mkS s44)]) true).run prog u46 = .ok (.tuple #[.int .i64 n46_0, .bool b46_1]) u46) /\
 ∀ wq, Below wj.heap.size wj wq ->
 BCase (!b46_1)
 (J n7_1 n8 wq)
 (∃ J_2 : FP [.one (.int .i64)],
 ((Option.isSome p0 = true) /\
 (Option.isSome p0 = true) /\
 ∃ a55 l55 c55, Ld jR (Option.map (fun x => x.add 1) p0) wq (.slice a55 l55 c55) /\
 ((0 <= n46_0 /\ n46_0 < ((l55 : Nat) : Int)) /\ Option.isSome a55 = true) /\
 ((0 <= (1 : Int) /\ (1 : Int) < ((4 : Nat) : Int)) /\ Option.isSome (ql a55 n46_0 4) = true) /\
 ∃ b59, Ld qN (ql (ql a55 n46_0 4) (1 : Int) 1) wq (.bool b59) /\
 BCase b59
 (J_2 n9 wq)
 (J_2 n7_1 wq)) /\
 ∀ n7_2, AllJ 9 (∀ wj_1, J_2 n7_2 wj_1 ->
 (Option.isSome p0 = true) /\
 (Option.isSome p0 = true) /\
 ∃ a64 l64 c64, Ld jR (Option.map (fun x => x.add 1) p0) wj_1 (.slice a64 l64 c64) /\
 ((0 <= n46_0 /\ n46_0 < ((l64 : Nat) : Int)) /\ Option.isSome a64 = true) /\
 ((0 <= (3 : Int) /\ (3 : Int) < ((4 : Nat) : Int)) /\ Option.isSome (ql a64 n46_0 4) = true) /\
 ∃ b68, Ld qN (ql (ql a64 n46_0 4) (3 : Int) 1) wj_1 (.bool b68) /\
 BCase b68
 (∃ m' : Nat, m' < m /\ I m' n46_0 n7_2 (i64.wrap (n9 - (1 : Int))) (i64.wrap (n9 + (1 : Int))) wj_1)
 (∃ m' : Nat, m' < m /\ I m' n46_0 n7_2 n8 (i64.wrap (n9 + (1 : Int))) wj_1)))))
 (J n7 n8 wl))) /\
 ∀ n7_3 n8_1, AllJ 58 (∀ wj_2, J n7_3 n8_1 wj_2 ->
 BCase (decide (n8_1 > (0 : Int)))
 (K (.int .i64 n8_1) wj_2)
 (K (.int .i64 n7_3) wj_2))
theorem qmw (p0 : Option Addr) (v1 : Value) {w : World} {K : Value -> World -> Prop} (h : qiZ p0 v1 w K) : Calls prog qe4 #[.pointer p0, v1] w (Ret K) :=
 qm (c := qq Tryz.f132) (by kernel_rfl) Tryz.func132 (by kernel_rfl) [(6, [(7, .one (.int .i64)), (8, .one (.int .i64))]), (10, [(6, .one (.int .i64)), (7, .one (.int .i64)), (8, .one (.int .i64)), (9, .one (.int .i64))]), (19, [(7, .one (.int .i64))]), (35, [(7, .one (.int .i64))])] [.pointer p0, v1] (of_decide_eq_true (by kernel_rfl)) _ (by kernel_rfl) h

--  cracknel/cracknelref04.Right
end Go.Proofs.YtlfolncaghkmcaaGreatDoor
set_option maxRecDepth 20000
namespace Go.Pk
open Go.RowKit (Below)
def qpG (c : UInt8) : Bool := !(decide (((c.toNat : Nat) : Int) < 33) || (decide (((c.toNat : Nat) : Int) > 126) || (c == 63 || c == 35)))
def pathB (s : List UInt8) : Bool := decide (s.head? = some 47) && (decide (s.length <= 2048) && s.all qpG)
structure Url where
 sec : Bool
 host : Hst
 port : Int
 path : List UInt8
def Url.cells (u : Url) : List Value := .bool u.sec :: (u.host.cells ++ [.int .i64 u.port, .string (mkS u.path)])
def Url.v (u : Url) : Value := .agg u.cells.toArray
def url0 : Url := ⟨false, hst0, 0, []⟩
def Url.ok (u : Url) : Prop := u.host.ok
theorem Url.len {u : Url} (o : u.ok) : u.cells.length = 21 := by unfold Url.cells; rw [List.length_cons, List.length_append, Hst.len o]; rfl
theorem Url.one (u : Url) : One1 u.cells := qx rfl (qnz (Hst.one _) (qx rfl (qx rfl zT)))
theorem qeV {u : Url} (o : u.ok) {j : Nat} (h : j < 18) : u.cells[1 + j]? = u.host.cells[j]? := by
 unfold Url.cells
 rw [Nat.add_comm, List.getElem?_cons_succ, List.getElem?_append_left (by rw [Hst.len o]; exact h)]
theorem qji {u : Url} (o : u.ok) : u.cells[19]? = some (.int .i64 u.port) := by
 unfold Url.cells
 rw [List.getElem?_cons_succ, List.getElem?_append_right (by rw [Hst.len o]; exact Nat.le_refl _), Hst.len o]; rfl
theorem qg5 {u : Url} (o : u.ok) : u.cells[20]? = some (.string (mkS u.path)) := by
 unfold Url.cells
 rw [List.getElem?_cons_succ, List.getElem?_append_right (by rw [Hst.len o]; decide), Hst.len o]; rfl
theorem qBS (u : Url) (b : Bool) : u.cells.set 0 (.bool b) = ({ u with sec := b } : Url).cells := rfl
theorem qxg {u : Url} (o : u.ok) (n : Int) : u.cells.set 19 (.int .i64 n) = ({ u with port := n } : Url).cells := by
 unfold Url.cells
 rw [List.set_cons_succ, List.set_append_right _ _ (by rw [Hst.len o]; exact Nat.le_refl _), Hst.len o]; rfl
theorem qtV {u : Url} (o : u.ok) (p : List UInt8) : u.cells.set 20 (.string (mkS p)) = ({ u with path := p } : Url).cells := by
 unfold Url.cells
 rw [List.set_cons_succ, List.set_append_right _ _ (by rw [Hst.len o]; decide), Hst.len o]; rfl
theorem qBT {u : Url} (o : u.ok) (h : Hst) : u.cells.take 1 ++ h.cells ++ u.cells.drop (1 + 18) = ({ u with host := h } : Url).cells := by
 unfold Url.cells
 rw [show 1 + 18 = 18 + 1 from rfl, List.drop_succ_cons, List.drop_append_of_le_length (by rw [Hst.len o]; exact Nat.le_refl _), List.drop_of_length_le (by rw [Hst.len o]; exact Nat.le_refl _)]; rfl
def qec (u : Url) : Bool := jh u.host && (decide (u.port >= 1) && (decide (u.port <= 65535) && pathB u.path))
def findL (p s : List UInt8) : Nat := (s.takeWhile fun c => !p.contains c).length
theorem qp7 (p s : List UInt8) : findL p s <= s.length := zd _ _
def urlH (s : List UInt8) : Option (List UInt8 × Bool) :=
 if lowL (s.take 7) = [104, 116, 116, 112, 58, 47, 47] then some (s.drop 7, false) else if lowL (s.take 8) = [104, 116, 116, 112, 115, 58, 47, 47] then some (s.drop 8, true) else none
def placeE (p : List UInt8) : Nat := if p.head? = some 91 then min (findL [93] p + 1) p.length else findL [58] p
theorem qAN (p : List UInt8) : placeE p <= p.length := by
 unfold placeE
 split
 · omega
 · exact qp7 _ _
def qvM (p : List UInt8) : Option Hst := if p.drop (placeE p) ≠ [] /\ (p.drop (placeE p)).head? ≠ some 58 then none else jl (p.take (placeE p))
def qzr (sec : Bool) (b : List UInt8) : Option Int := if b = [] then some (if sec then 443 else 80) else if numP (b.drop 1) /\ 1 <= decV (b.drop 1) /\ decV (b.drop 1) <= 65535 then some (decV (b.drop 1)) else none
def qth (r : List UInt8) : List UInt8 := if r.take (findL [63, 35] r) = [] then [47] else r.take (findL [63, 35] r)
def urlR (r : List UInt8) (sec : Bool) : Url × Int :=
 match qvM (r.take (findL [47, 63, 35] r)) with
 | none => (url0, 31)
 | some h => match qzr sec ((r.take (findL [47, 63, 35] r)).drop (placeE (r.take (findL [47, 63, 35] r)))) with
   | none => (url0, 42)
   | some n => if pathB (qth (r.drop (findL [47, 63, 35] r))) = true then (⟨sec, h, n, qth (r.drop (findL [47, 63, 35] r))⟩, 0) else (url0, 43)
def urlV (s : List UInt8) : Url × Int := match urlH s with
 | none => (url0, 41)
 | some (r, b) => urlR r b
theorem hostW_ok {p : List UInt8} {h : Hst} (e : qvM p = some h) : h.ok := by
 unfold qvM at e
 split at e
 · cases e
 · exact qdN e
theorem qDc (r : List UInt8) (b : Bool) : (urlR r b).1.ok := by
 unfold urlR
 split
 · rfl
 · rename_i h hh
   split
   · rfl
   · split
     · exact hostW_ok hh
     · rfl
theorem urlV_ok (s : List UInt8) : (urlV s).1.ok := by
 unfold urlV
 split
 · rfl
 · exact qDc _ _
theorem qyK {s : List UInt8} {k : Nat} (hlt : k < s.length) (h : qpG s[k] = false) : pathB s = false := by
 have : s.all qpG = false := by
   rw [Bool.eq_false_iff]; intro hx; rw [List.all_eq_true.1 hx _ (List.getElem_mem hlt)] at h; cases h
 unfold pathB; rw [this, Bool.and_false, Bool.and_false]
end Go.Pk
namespace Go.Proofs.YtlfolncaghkmcaaGreatDoor
open Go.Pk
open Go.RowKit (Below)
theorem qva (c : UInt8) (H : Prop) (hH : H) {Y N : Prop} (hy : qpG c = true -> Y) (hn : qpG c = false -> N) :
   BCase (decide (((c.toNat : Nat) : Int) < 33)) N (H /\ BCase (decide (((c.toNat : Nat) : Int) > 126)) N (H /\ BCase (((c.toNat : Nat) : Int) == (63 : Int)) N (H /\ BCase (((c.toNat : Nat) : Int) == (35 : Int)) N Y))) := by
 have e63 := qaf c 63
 have e35 := qaf c 35
 rw [show (((63 : UInt8).toNat : Nat) : Int) = 63 from rfl] at e63
 rw [show (((35 : UInt8).toNat : Nat) : Int) = 35 from rfl] at e35
 rw [e63, e35]
 refine BCase.of (fun h => hn ?_) (fun h => ⟨hH, BCase.of (fun h2 => hn ?_) (fun h2 => ⟨hH, BCase.of (fun h3 => hn ?_) (fun h3 => ⟨hH, BCase.of (fun h4 => hn ?_) (fun h4 => hy ?_)⟩)⟩)⟩)
 · unfold qpG; rw [h]; rfl
 · unfold qpG; rw [h, h2]; rfl
 · unfold qpG; rw [h, h2, h3]; rfl
 · unfold qpG; rw [h, h2, h3, h4]; rfl
 · unfold qpG; rw [h, h2, h3, h4]; rfl
theorem qxU (c : UInt8) {Y N : Prop} (hy : qpG c = true -> Y) (hn : qpG c = false -> N) :
   BCase (decide (((c.toNat : Nat) : Int) < 33)) N (BCase (decide (((c.toNat : Nat) : Int) > 126)) N (BCase (((c.toNat : Nat) : Int) == (63 : Int)) N (BCase (((c.toNat : Nat) : Int) == (35 : Int)) N Y))) := by
 have := qva c True trivial hy hn
 simpa only [true_and] using this
theorem qd7 : Whl prog qw 21 := ⟨⟨_, _, qzx⟩, by kernel_rfl⟩
theorem qyb (s : List UInt8) (w : World) : Calls prog qq4 #[.string (mkS s)] w (Ret fun v w' => v = .bool (pathB s) /\ Below w.heap.size w w') := by
 apply qw5
 unfold qt3
 refine factJ (w := w) (s.head? = some 47 /\ s.length <= 2048) ?_ ?_
 · refine BCase.of (fun h => ⟨?_, Below.refl _ _⟩) (fun h => ?_)
   · have : s = [] := by simpa using h
     subst this; rfl
   have hne : s ≠ [] := by simpa using h
   have hl : 0 < s.length := List.length_pos_iff.2 hne
   have hh : s.head? = some s[0] := by rw [List.head?_eq_getElem?, List.getElem?_eq_getElem hl]
   refine BCase.of (fun h => ⟨?_, Below.refl _ _⟩) (fun h2 => ⟨⟨by decide, by omega⟩, ?_⟩)
   · unfold pathB; rw [decide_eq_false (p := s.length <= 2048) (by simp at h; omega), Bool.false_and, Bool.and_false]
   have hb := zG (s := s) (k := 0) hl
   rw [show ((0 : Nat) : Int) = 0 from rfl] at hb
   have hu := qaf s[0] 47
   rw [show (((47 : UInt8).toNat : Nat) : Int) = 47 from rfl] at hu
   simp only [bne, hb, hu]
   refine BCase.of (fun h3 => ⟨?_, Below.refl _ _⟩) (fun h3 => ⟨trivial, ?_, by simp at h2; omega⟩)
   · unfold pathB; rw [hh, decide_eq_false (p := some s[0] = some 47) (by simpa using h3), Bool.false_and]
   · rw [hh]; simpa using h3
 · rintro ⟨hh, hl⟩
   have hp : pathB s = s.all qpG := by unfold pathB; rw [decide_eq_true hh, decide_eq_true hl, Bool.true_and, Bool.true_and]
   obtain ⟨w2, a, n, c, hr, ho, hb2, hf⟩ := qol (P := prog) un_string qac un_uint8 w s (by omega) NoB
   have hnn := ho.len
   subst hnn
   refine ⟨w2, a, _, c, hr, ?_⟩
   refine ⟨fun m i w' => ∃ k : Nat, k <= s.length /\ i = (k : Int) /\ m = s.length - k /\ (s.take k).all qpG = true /\ w' = w2, ⟨_, 0, by omega, rfl, rfl, rfl, rfl⟩, ?_⟩
   intro m i
   refine AllJ.of ?_ _
   rintro w' ⟨k, hk, rfl, rfl, hno, hw'⟩
   rw [hw']; clear hw'
   refine BCase.of (fun h => ?_) (fun h => ?_) <;> simp only [dTx, dFx] at h
   · have hlt : k < s.length := by omega
     obtain ⟨v, hv, hrep⟩ := ho.all.load1 (i := (k : Int)) un_uint8 rfl rfl (by simpa using hlt)
     have := qvh hrep
     subst this
     simp only [Int.toNat_natCast] at hv
     refine ⟨⟨⟨by omega, h⟩, ho.all.isSome hlt⟩, _, hv, qxU _ (fun hc => ?_) (fun hc => ⟨by rw [qyK hlt hc], hb2⟩)⟩
     exact ⟨s.length - (k + 1), by omega, k + 1, by omega, by rw [wrap_i64 (by omega) (by omega)]; omega, rfl, by rw [List.take_succ_eq_append_getElem hlt, List.all_append, hno]; simp [hc], rfl⟩
   · have : k = s.length := by omega
     subst this
     rw [List.take_length] at hno
     exact ⟨by rw [hp, hno], hb2⟩
theorem qiM (s : List UInt8) (hs : s.length <= 9223372036854775800) (w : World) : Calls prog qe2 #[.string (mkS s)] w (Ret fun v w' => v = .bool (pathB s) /\ w' = w) := by
 apply quJ
 unfold qqT
 refine ⟨fun m i w' => ∃ k : Nat, k <= s.length /\ i = (k : Int) /\ m = s.length - k /\ (s.take k).all qpG = true /\ w' = w, ⟨_, 0, by omega, rfl, rfl, rfl, rfl⟩, ?_⟩
 intro m i
 refine AllJ.of ?_ _
 rintro w' ⟨k, hk, rfl, rfl, hno, hw'⟩
 rw [hw']; clear hw'
 refine BCase.of (fun h => ?_) (fun h => ?_) <;> simp only [dTx, dFx] at h
 · have hlt : k < s.length := by omega
   rw [zG hlt]
   have hin : (0 <= (k : Int) /\ (k : Int) < ((s.length : Nat) : Int)) := ⟨by omega, h⟩
   refine ⟨hin, qva _ _ hin (fun hc => ?_) (fun hc => ⟨by rw [qyK hlt hc], rfl⟩)⟩
   exact ⟨s.length - (k + 1), by omega, k + 1, by omega, by rw [wrap_i64 (by omega) (by omega)]; omega, rfl, by rw [List.take_succ_eq_append_getElem hlt, List.all_append, hno]; simp [hc], rfl⟩
 · have : k = s.length := by omega
   subst this
   rw [List.take_length] at hno
   unfold pathB
   rw [hno, Bool.and_true]
   refine BCase.of (fun h2 => ?_) (fun h2 => ⟨?_, rfl⟩) <;> simp only [ge_iff_le, dTx, dFx] at h2
   · refine BCase.of (fun h3 => ?_) (fun h3 => ⟨?_, rfl⟩) <;> simp only [dTx, dFx] at h3
     · have hl : 0 < s.length := by omega
       have hb := zG (s := s) (k := 0) hl
       rw [show ((0 : Nat) : Int) = 0 from rfl] at hb
       have hu := qaf s[0] 47
       rw [show (((47 : UInt8).toNat : Nat) : Int) = 47 from rfl] at hu
       refine ⟨⟨by decide, by omega⟩, ?_, rfl⟩
       rw [hb, hu, decide_eq_true (p := s.length <= 2048) (by omega), Bool.and_true, List.head?_eq_getElem?, List.getElem?_eq_getElem hl]
       congr 1
       rw [Bool.eq_iff_iff]; simp
     · rw [decide_eq_false (p := s.length <= 2048) (by omega), Bool.and_false]
   · have : s = [] := List.length_eq_zero_iff.1 (by omega)
     subst this; rfl
theorem ref04_find_ok (s p : List UInt8) (hs : s.length <= 9223372036854775800) (hp : p.length <= 9223372036854775800) (w : World) : Calls prog qf8 #[.string (mkS s), .string (mkS p)] w (Ret fun v w' => v = .int .i64 ((findL p s : Nat) : Int) /\ Below w.heap.size w w') := by
 apply quK
 unfold qqU
 refine ⟨fun m i w' => ∃ k : Nat, k <= s.length /\ i = (k : Int) /\ m = s.length - k /\ k <= findL p s /\ Below w.heap.size w w', ⟨_, 0, by omega, rfl, rfl, Nat.zero_le _, Below.refl _ _⟩, ?_⟩
 intro m i
 refine AllJ.of ?_ _
 rintro w1 ⟨k, hk, rfl, hm, hno, hb1⟩
 refine BCase.of (fun h => ?_) (fun h => ?_) <;> simp only [dTx, dFx] at h
 · have hlt : k < s.length := by omega
   have ht := qeb (fun c => !p.contains c) s k hlt hno
   refine ⟨fun m i w' => ∃ j : Nat, j <= p.length /\ i = (j : Int) /\ m = p.length - j /\ (p.take j).contains s[k] = false /\ Below w.heap.size w w', ⟨_, 0, by omega, rfl, rfl, rfl, hb1⟩, ?_⟩
   intro m2 i2
   refine AllJ.of ?_ _
   rintro w2 ⟨j, hj, rfl, hm2, hj2, hb2⟩
   refine BCase.of (fun h2 => ?_) (fun h2 => ?_) <;> simp only [dTx, dFx] at h2
   · have hlj : j < p.length := by omega
     rw [zG hlt, zG hlj, qaf]
     refine ⟨⟨by omega, h⟩, ⟨by omega, h2⟩, fun wq hq => ?_⟩
     have hB := qd hb2 hq hb2.size
     refine BCase.of (fun h3 => ⟨?_, hB⟩) (fun h3 => ?_)
     · have hc : p.contains s[k] = true := by rw [List.contains_iff_mem, eq_of_beq h3]; exact List.getElem_mem hlj
       have : ¬ k < (s.takeWhile fun c => !p.contains c).length := fun hk => by have := ht.2 hk; rw [hc] at this; cases this
       have e : findL p s = k := by unfold findL at hno ⊢; omega
       rw [e]
     · refine ⟨p.length - (j + 1), by omega, j + 1, by omega, by rw [wrap_i64 (by omega) (by omega)]; omega, rfl, ?_, hB⟩
       rw [List.take_succ_eq_append_getElem hlj]
       simp only [List.contains_eq_mem, dFx, List.mem_append, List.mem_singleton] at hj2 ⊢
       rintro (hx | hx)
       · exact hj2 hx
       · rw [hx] at h3; simp at h3
   · have : j = p.length := by omega
     subst this
     rw [List.take_length] at hj2
     have : k < findL p s := ht.1 (by rw [hj2]; rfl)
     exact ⟨s.length - (k + 1), by omega, k + 1, by omega, by rw [wrap_i64 (by omega) (by omega)]; omega, rfl, by omega, hb2⟩
 · have := qp7 p s
   have e : findL p s = s.length := by omega
   exact ⟨by rw [e], hb1⟩
theorem qrI {u : Url} (o : u.ok) (hn : u.host.name.length <= 1000000000) (w : World) (he : Env w) : Calls prog qmc #[u.v] w (Ret fun v w' => v = .bool (qec u) /\ Below w.heap.size w w') := by
 apply qwg
 unfold qrT
 intro k1 w1 hk1 hw1
 have hB1 := (hw1 ▸ qj w _ : Below w.heap.size w w1)
 have h1 : qk w1 k1 qw u.cells := qk.new hk1 hw1
 refine ⟨rfl, _, qv.load h1 (i := 1) (us := u.host.cells) (Hst.len o) (fun j hj => qeV o hj), ?_⟩
 refine callK (qiG o hn w1 (he.step hB1)) ?_
 rintro _ w2 ⟨rfl, hb2⟩
 have hB2 := qd hB1 hb2 hB1.size
 have h2 := h1.below hb2
 refine ⟨_, rfl, ?_⟩
 unfold qec
 refine BCase.of (fun c1 => ?_) (fun c1 => ⟨by rw [c1]; rfl, hB2⟩)
 refine ⟨rfl, _, h2.load1 qK rfl (qji o), BCase.of (fun c2 => ?_) (fun c2 => ⟨by rw [c1, c2]; rfl, hB2⟩)⟩
 refine ⟨rfl, _, h2.load1 qK rfl (qji o), BCase.of (fun c3 => ?_) (fun c3 => ⟨by rw [c1, c2, c3]; rfl, hB2⟩)⟩
 refine ⟨rfl, _, h2.load1 un_string rfl (qg5 o), ?_⟩
 refine callK (qyb _ w2) ?_
 rintro _ w3 ⟨rfl, hb3⟩
 exact ⟨_, rfl, by rw [c1, c2, c3]; rfl, qd hB2 hb3 hB2.size⟩
end Go.Proofs.YtlfolncaghkmcaaGreatDoor
namespace Go.Pk
open Go.RowKit (Below)
structure StU (w0 : World) (t : TypeId) (k2 k4 : Nat) (u : Url) (w : World) : Prop where
 h4 : qk w k4 t u.cells
 h2 : qk w k2 t url0.cells
 hb : Below w0.heap.size w0 w
 hne : k2 ≠ k4
 hk4 : w0.heap.size <= k4
 hk2 : w0.heap.size <= k2
 ho : u.ok
theorem StU.below {w0 : World} {t : TypeId} {k2 k4 : Nat} {u : Url} {w w' : World} (S : StU w0 t k2 k4 u w) (hb : Below w.heap.size w w') : StU w0 t k2 k4 u w' :=
 ⟨S.h4.below hb, S.h2.below hb, qd S.hb hb S.hb.size, S.hne, S.hk4, S.hk2, S.ho⟩
theorem StU.put {P : Program} {x : TypeId} {bytes : Nat} {z : Value} (tf : TF P x 1 bytes z) {w0 : World} {t : TypeId} {k2 k4 : Nat} {u u' : Url} {w : World} (S : StU w0 t k2 k4 u w)
   {i : Nat} {v : Value} (hi : i < 21) (h1 : v.oneCell' = true) (hc : v.cells = #[v]) (e : u.cells.set i v = u'.cells) (o : u'.ok) :
   ∃ wx, (Instr.storeAt x (.pointer (some ⟨k4, i, none⟩)) v).run P w = .ok () wx /\ StU w0 t k2 k4 u' wx := by
 obtain ⟨wx, hs, ha, hg⟩ := S.h4.put tf (i := i) (v := v) (by rw [Url.len S.ho]; exact hi) h1 hc
 exact ⟨wx, hs, e ▸ ha, S.h2.grown hg (qP S.hne), Below.put S.hb hg S.hk4, S.hne, S.hk4, S.hk2, o⟩
theorem StU.putH {P : Program} {x : TypeId} (wh : Whl P x 18) {w0 : World} {t : TypeId} {k2 k4 : Nat} {u : Url} {w : World} (S : StU w0 t k2 k4 u w) {h : Hst} (o : h.ok) :
   ∃ wx, (Instr.storeAt x (.pointer (some ⟨k4, 1, none⟩)) h.v).run P w = .ok () wx /\ StU w0 t k2 k4 { u with host := h } wx := by
 obtain ⟨wx, hs, ha, hg⟩ := wh.store (Hst.len o) (Hst.one h) S.h4 (i := 1) (by rw [Url.len S.ho]; decide)
 rw [qBT S.ho] at ha
 exact ⟨wx, hs, ha, S.h2.grown hg (qP S.hne), Below.put S.hb hg S.hk4, S.hne, S.hk4, S.hk2, o⟩
def urlT (x : Url × Int) : Value := .tuple #[x.1.v, .int .i64 x.2]
theorem low7 {s p : List UInt8} (h : lowL s = p) : s.length = p.length := by rw [<- h]; simp [lowL]
end Go.Pk
namespace Go.Proofs.YtlfolncaghkmcaaGreatDoor
open Go.Pk
open Go.RowKit (Below)
def qsu (s : List UInt8) (w : World) (v : Value) (w' : World) : Prop := v = urlT (urlV s) /\ Below w.heap.size w w'
theorem qup (s : List UInt8) (hs : s.length <= 90000000) (w : World) : Calls prog ql8 #[.string (mkS s)] w (Ret (qsu s w)) := by
 apply qtG
 unfold qpg
 intro k2 w2 hk2 hw2
 have hB2 := (hw2 ▸ qj w _ : Below w.heap.size w w2)
 have h2 : qk w2 k2 qw url0.cells := qk.new hk2 hw2
 refine qd7.new (zs := url0.cells) (cs := ({ url0 with port := 80 } : Url).cells) rfl rfl (Url.one _) w2 fun k4 w4 hk4 h4 hb4 => ?_
 have hlt := h2.lt
 have S0 : StU w qw k2 k4 { url0 with port := 80 } w4 := ⟨h4, h2.below hb4, qd hB2 hb4 hB2.size, by omega, by have := hB2.size; omega, by omega, rfl⟩
 clear hB2 h2 h4 hb4 hlt hk2 hw2 hk4
 -- an error
 have bad : ∀ {wx : World} {u : Url} {e : Int}, StU w qw k2 k4 u wx -> urlV s = (url0, e) ->
     ∃ wy, (Instr.storeAt qw (.pointer (some ⟨k2, 0, none⟩)) (.agg qgM)).run prog wx = .ok () wy /\ ∃ vr : Value, (qs qw (.pointer (some ⟨k2, 0, none⟩))).run prog wy = .ok vr wy /\ qsu s w (.tuple #[vr, .int .i64 e]) wy := fun {wx u e} S he =>
   qd7.fin (K := fun vr wy => qsu s w (.tuple #[vr, .int .i64 e]) wy) (cs := url0.cells) rfl (Url.one _) S.h2 rfl S.hb S.hk2 fun wy hb => ⟨by rw [he]; rfl, hb⟩
 have bp : ∀ b : Bool, (Value.bool b).cells = #[Value.bool b] := fun _ => rfl
 refine ⟨fun r w' => ∃ b, urlH s = some (r, b) /\ StU w qw k2 k4 { url0 with sec := b, port := if b then 443 else 80 } w', ?_, ?_⟩
 · refine qgN (fun b w' => b = decide (lowL (s.take 7) = [104, 116, 116, 112, 58, 47, 47]) /\ StU w qw k2 k4 { url0 with port := 80 } w') ?_ ?_
   · refine BCase.of (fun h => ⟨⟨by decide, by simpa using h⟩, ?_⟩) (fun h => ⟨?_, S0⟩)
     · rintro _ rfl
       refine callK (ref01_Lower_ok _ (by simp; omega) w4) ?_
       rintro _ w5 ⟨rfl, hb5⟩
       refine ⟨_, rfl, ?_, S0.below hb5⟩
       rw [Bool.eq_iff_iff, beq_iff_eq, dTx]; rfl
     · rw [eq_comm, dFx]
       intro hc
       have := low7 hc
       simp at this h; omega
   · rintro b w5 ⟨rfl, S5⟩
     refine BCase.of (fun h => ?_) (fun h => ?_)
     · rw [dTx] at h
       have hl := low7 h
       refine ⟨⟨by decide, by simp at hl; omega⟩, ?_⟩
       rintro _ rfl
       exact ⟨false, by unfold urlH; rw [if_pos h]; rfl, S5⟩
     · have h7 : ¬ lowL (s.take 7) = [104, 116, 116, 112, 58, 47, 47] := of_decide_eq_false h
       clear h
       refine qgN (fun b w' => b = decide (lowL (s.take 8) = [104, 116, 116, 112, 115, 58, 47, 47]) /\ StU w qw k2 k4 { url0 with port := 80 } w') ?_ ?_
       · refine BCase.of (fun h => ⟨⟨by decide, by simpa using h⟩, ?_⟩) (fun h => ⟨?_, S5⟩)
         · rintro _ rfl
           refine callK (ref01_Lower_ok _ (by simp; omega) w5) ?_
           rintro _ w6 ⟨rfl, hb6⟩
           refine ⟨_, rfl, ?_, S5.below hb6⟩
           rw [Bool.eq_iff_iff, beq_iff_eq, dTx]; rfl
         · rw [eq_comm, dFx]
           intro hc
           have := low7 hc
           simp at this h; omega
       · rintro b w6 ⟨rfl, S6⟩
         refine BCase.of (fun h => ?_) (fun h => ?_)
         · rw [dTx] at h
           have hl := low7 h
           refine ⟨⟨by decide, by simp at hl; omega⟩, ?_⟩
           rintro _ rfl
           obtain ⟨w7, hs7, S7⟩ := S6.put (P := prog) qcr (i := 0) (v := .bool true) (by decide) rfl rfl (qBS _ true) rfl
           refine ⟨rfl, w7, hs7, rfl, ?_⟩
           obtain ⟨w8, hs8, S8⟩ := S7.put (P := prog) qab (i := 19) (v := .int .i64 443) (by decide) rfl rfl (qxg S7.ho 443) rfl
           exact ⟨w8, hs8, true, by unfold urlH; rw [if_neg h7, if_pos h]; rfl, S8⟩
         · exact bad S6 (by unfold urlV urlH; rw [if_neg h7, if_neg (of_decide_eq_false h)])
 · intro r
   refine AllJ.of ?_ _
   rintro w5 ⟨sec, hH, S5⟩
   have hrl : r.length <= s.length := by
     unfold urlH at hH
     split at hH
     · cases hH; simp
     split at hH
     · cases hH; simp
     · cases hH
   have hV : urlV s = urlR r sec := by unfold urlV; rw [hH]
   rw [hV] at bad
   have fin : ∀ {wx : World} {u : Url}, StU w qw k2 k4 u wx -> urlR r sec = (u, 0) -> ∃ v : Value, (Instr.loadAt qw (.pointer (some ⟨k4, 0, none⟩))).run prog wx = .ok v wx /\
     ∃ wy, (Instr.storeAt qw (.pointer (some ⟨k2, 0, none⟩)) v).run prog wx = .ok () wy /\ ∃ vr : Value, (qs qw (.pointer (some ⟨k2, 0, none⟩))).run prog wy = .ok vr wy /\ qsu s w (.tuple #[vr, .int .i64 0]) wy := fun {wx u} S he =>
     ⟨u.v, qd7.load0 S.h4 (Url.len S.ho), qd7.fin (K := fun vr wy => qsu s w (.tuple #[vr, .int .i64 0]) wy) (cs := u.cells) (Url.len S.ho) (Url.one _) S.h2 rfl S.hb S.hk2 fun wy hb => ⟨by rw [hV, he]; rfl, hb⟩⟩
   clear hH S0
   refine callK (ref04_find_ok r [47, 63, 35] (by omega) (by decide) w5) ?_
   rintro _ w6 ⟨rfl, hb6⟩
   have S6 := S5.below hb6
   have hat := qp7 [47, 63, 35] r
   refine ⟨_, rfl, ⟨by omega, by omega⟩, ?_⟩
   rw [Int.toNat_natCast]
   have hR : urlR r sec = match qvM (r.take (findL [47, 63, 35] r)) with
     | none => (url0, 31)
     | some h => match qzr sec ((r.take (findL [47, 63, 35] r)).drop (placeE (r.take (findL [47, 63, 35] r)))) with
       | none => (url0, 42)
       | some n => if pathB (qth (r.drop (findL [47, 63, 35] r))) = true then (⟨sec, h, n, qth (r.drop (findL [47, 63, 35] r))⟩, 0) else (url0, 43) := rfl
   have hpl : (r.take (findL [47, 63, 35] r)).length <= s.length := by simp; omega
   intro p hp
   rw [<- hp] at hR hpl
   clear hp
   refine callK (ref04_find_ok p [58] (by omega) (by decide) w6) ?_
   rintro _ w7 ⟨rfl, hb7⟩
   have S7 := S6.below hb7
   refine ⟨_, rfl, ?_⟩
   refine ⟨fun n w' => n = ((placeE p : Nat) : Int) /\ StU w qw k2 k4 { url0 with sec := sec, port := if sec then 443 else 80 } w', ?_, ?_⟩
   · refine j3 (w := w7) (decide (p.head? = some 91)) ?_ ?_
     · refine BCase.of (fun h => ⟨⟨by decide, by simpa using h⟩, rfl, ?_⟩) (fun h => ⟨rfl, ?_⟩)
       · have hl : 0 < p.length := by simpa using h
         have hb := zG (s := p) (k := 0) hl
         rw [show ((0 : Nat) : Int) = 0 from rfl] at hb
         have hu := qaf p[0] 91
         rw [show (((91 : UInt8).toNat : Nat) : Int) = 91 from rfl] at hu
         rw [hb, hu, List.head?_eq_getElem?, List.getElem?_eq_getElem hl, Bool.eq_iff_iff]; simp
       · have : p = [] := by
           simp only [gt_iff_lt, dFx] at h
           exact List.length_eq_zero_iff.1 (by omega)
         subst this; rfl
     · refine BCase.of (fun h => ?_) (fun h => ⟨?_, S7⟩)
       · refine callK (ref04_find_ok p [93] (by omega) (by decide) w7) ?_
         rintro _ w8 ⟨rfl, hb8⟩
         have hf := qp7 [93] p
         refine ⟨_, rfl, _, run_min_int2 _ _ _ _ _ _ _, ?_, S7.below hb8⟩
         unfold placeE
         rw [if_pos (of_decide_eq_true h), wrap_i64 (by omega) (by omega)]
         omega
       · unfold placeE; rw [if_neg (of_decide_eq_false h)]
   · intro n
     refine AllJ.of ?_ _
     rintro w8 ⟨rfl, S8⟩
     have hpe := qAN p
     refine ⟨⟨by omega, by omega⟩, ?_⟩
     rw [Int.toNat_natCast]
     have hW : qvM p = if p.drop (placeE p) ≠ [] /\ (p.drop (placeE p)).head? ≠ some 58 then none else jl (p.take (placeE p)) := rfl
     have hcl : (p.take (placeE p)).length <= s.length := by simp; omega
     intro c hc
     rw [<- hc] at hW hcl
     clear hc
     refine callK (ref03_Parse_ok c (by omega) w8) ?_
     rintro _ w9 ⟨rfl, hb9⟩
     have S9 := S8.below hb9
     have hok := qgX fun x hx => qdN (s := c) hx
     rw [qdq]
     refine ⟨_, _, rfl, ?_⟩
     refine qv.new (zs := hst0.cells) (cs := ((jl c).getD hst0).cells) rfl (Hst.len hok) (Hst.one _) w9 fun k9 w10 hk9 h9 hb10 => ?_
     have S10 := S9.below hb10
     refine ⟨⟨by omega, by omega⟩, ?_⟩
     have hbl : (p.drop (placeE p)).length <= s.length := by simp; omega
     intro q hq
     rw [<- hq] at hR hW hbl
     clear hq
     -- the host
     refine worldJ (fun w' => w' = w10 /\ ∃ h, jl c = some h /\ qvM p = some h) ?_ ?_
     · refine j3 (w := w10) (decide (qvM p = none)) ?_ ?_
       · have hc : ∀ (c1 : jl c = none), qvM p = none := fun c1 => by rw [hW, c1]; split <;> rfl
         refine BCase.of (fun h => ⟨rfl, ?_⟩) (fun h => BCase.of (fun h2 => ⟨⟨by decide, by simpa using h2⟩, rfl, ?_⟩) (fun h2 => ⟨rfl, ?_⟩))
         · have : jl c = none := by
             cases hv : jl c with
             | none => rfl
             | some x => rw [hv] at h; cases h
           rw [decide_eq_true (hc this)]
         all_goals
           have hv : jl c ≠ none := fun hv => by rw [hv] at h; cases h
         · have hl : 0 < q.length := by simpa using h2
           have hb := zG (s := q) (k := 0) hl
           rw [show ((0 : Nat) : Int) = 0 from rfl] at hb
           have hu := qaf q[0] 58
           rw [show (((58 : UInt8).toNat : Nat) : Int) = 58 from rfl] at hu
           have hne : q ≠ [] := List.length_pos_iff.1 hl
           have hh : q.head? = some q[0] := by rw [List.head?_eq_getElem?, List.getElem?_eq_getElem hl]
           have e : ((qH q 0) != (58 : Int)) = !(q[0] == 58) := by rw [hb]; show (!_) = _; rw [hu]
           rw [e, hW, hh]
           by_cases c : q[0] = 58
           · rw [if_neg (by rintro ⟨-, hx⟩; exact hx (by rw [c])), decide_eq_false hv, c]; rfl
           · rw [if_pos ⟨hne, fun hx => c (Option.some.inj hx)⟩, beq_eq_false_iff_ne.2 c]; rfl
         · have : q = [] := by
             simp only [gt_iff_lt, dFx] at h2
             exact List.length_eq_zero_iff.1 (by omega)
           rw [hW, if_neg (fun hx => hx.1 this), decide_eq_false hv]
       · refine BCase.of (fun h => ?_) (fun h => ⟨rfl, ?_⟩)
         · exact bad S10 (by rw [hR, of_decide_eq_true h])
         · have hn := of_decide_eq_false h
           cases hw : qvM p with
           | none => exact absurd hw hn
           | some x =>
             refine ⟨x, ?_, rfl⟩
             rw [hW] at hw
             split at hw
             · cases hw
             · exact hw
     · rintro w11 ⟨rfl, h, hv, hw⟩
       rw [hw] at hR
       rw [hv] at h9 hok
       simp only [Option.getD_some] at h9 hok
       refine ⟨_, qv.load0 h9 (Hst.len hok), rfl, ?_⟩
       obtain ⟨w12, hs12, S12⟩ := S10.putH (P := prog) qv hok
       refine ⟨w12, hs12, ?_⟩
       -- the port
       refine worldJ (fun w' => ∃ n, qzr sec q = some n /\ StU w qw k2 k4 ⟨sec, h, n, []⟩ w') ?_ ?_
       · refine BCase.of (fun c1 => ?_) (fun c1 => ?_)
         · have hl : 0 < q.length := by simpa using c1
           refine ⟨⟨by decide, by omega⟩, ?_⟩
           intro d hd
           rw [show Int.toNat 1 = 1 from rfl] at hd
           have hdl : d.length <= q.length := by rw [hd]; simp
           have hP : qzr sec q = if numP d /\ 1 <= decV d /\ decV d <= 65535 then some (decV d) else none := by unfold qzr; rw [if_neg (List.length_pos_iff.1 hl), <- hd]
           refine callK (qnI d (by omega) w12) ?_
           rintro _ w13 ⟨rfl, hw13⟩
           rw [hw13]; clear hw13
           by_cases c2 : numP d
           · rw [if_pos c2]
             refine ⟨_, _, rfl, ?_⟩
             refine j3 (w := w12) (decide (¬ (1 <= decV d /\ decV d <= 65535))) ?_ ?_
             · refine BCase.no rfl (BCase.of (fun c3 => ⟨rfl, ?_⟩) (fun c3 => ⟨rfl, ?_⟩))
               · rw [eq_comm, dTx]; simp at c3; omega
               · rw [Bool.eq_iff_iff, dTx, dTx]; simp at c3; omega
             · refine BCase.of (fun c3 => ?_) (fun c3 => ⟨rfl, ?_⟩)
               · rw [dTx] at c3
                 exact bad S12 (by rw [hR, hP, if_neg (fun hx => c3 hx.2)])
               · have c4 : 1 <= decV d /\ decV d <= 65535 := Decidable.not_not.1 (of_decide_eq_false c3)
                 obtain ⟨w14, hs14, S14⟩ := S12.put (P := prog) qab (i := 19) (v := .int .i64 (decV d)) (by decide) rfl rfl (qxg S12.ho _) S12.ho
                 exact ⟨w14, hs14, decV d, by rw [hP, if_pos ⟨c2, c4⟩], S14⟩
           · rw [if_neg c2]
             refine ⟨_, _, rfl, ?_⟩
             refine j3 (w := w12) true (BCase.yes rfl ⟨rfl, rfl⟩) (BCase.yes rfl ?_)
             exact bad S12 (by rw [hR, hP, if_neg (fun hx => c2 hx.1)])
         · have : q = [] := by
             simp only [gt_iff_lt, dFx] at c1
             exact List.length_eq_zero_iff.1 (by omega)
           exact ⟨_, by unfold qzr; rw [if_pos this], S12⟩
       · rintro w13 ⟨n, hn, S13⟩
         rw [hn] at hR
         refine ⟨⟨by omega, by omega⟩, ?_⟩
         have hxl : (r.drop (findL [47, 63, 35] r)).length <= s.length := by simp; omega
         intro x hx
         rw [<- hx] at hR hxl
         clear hx
         refine ⟨rfl, ?_⟩
         obtain ⟨w14, hs14, S14⟩ := S13.put (P := prog) ze (i := 20) (v := .string (mkS x)) (by decide) rfl rfl (qtV S13.ho _) S13.ho
         refine ⟨w14, hs14, rfl, rfl, ?_⟩
         have S15 : StU w qw k2 k4 ⟨sec, h, n, x⟩ (World.drew w14) := S14.below (qT w14)
         have ld := S15.h4.load1 (P := prog) un_string rfl (qg5 S15.ho)
         have hfl := qp7 [63, 35] x
         have hW2 : qth x = if x.take (findL [63, 35] x) = [] then [47] else x.take (findL [63, 35] x) := rfl
         refine ⟨⟨_, ld, _, ld, ?_⟩, _, ld, ⟨_, ld, ?_⟩, ?_⟩
         all_goals
           refine callK (ref04_find_ok x [63, 35] (by omega) (by decide) _) ?_
           rintro _ w16 ⟨rfl, hb16⟩
           have S16 := S15.below hb16
           refine ⟨_, rfl, ?_⟩
           try refine ⟨_, S16.h4.load1 (P := prog) un_string rfl (qg5 S16.ho), ?_⟩
           refine ⟨⟨by omega, by show ((findL [63, 35] x : Nat) : Int) <= ((x.length : Nat) : Int); omega⟩, ?_⟩
           rw [Int.toNat_natCast]
           rintro _ rfl
           have hyl : (x.take (findL [63, 35] x)).length <= s.length := by simp; omega
           obtain ⟨w17, hs17, S17⟩ := S16.put (P := prog) ze (i := 20) (v := .string (mkS (x.take (findL [63, 35] x)))) (by decide) rfl rfl (qtV S16.ho _) S16.ho
           refine ⟨rfl, w17, hs17, ?_⟩
           refine worldJ (fun w' => StU w qw k2 k4 ⟨sec, h, n, qth x⟩ w') ?_ ?_
           · refine ⟨rfl, _, S17.h4.load1 (P := prog) un_string rfl (qg5 S17.ho), BCase.of (fun c => ⟨rfl, ?_⟩) (fun c => ?_)⟩
             · obtain ⟨w18, hs18, S18⟩ := S17.put (P := prog) ze (i := 20) (v := .string (mkS [47])) (by decide) rfl rfl (qtV S17.ho _) S17.ho
               have e : qth x = [47] := by rw [hW2, if_pos (eq_of_beq c)]
               rw [e]
               exact ⟨w18, hs18, S18⟩
             · have e : qth x = x.take (findL [63, 35] x) := by rw [hW2, if_neg (beq_eq_false_iff_ne.1 c)]
               rw [e]; exact S17
           · intro w18 S18
             have hpw : (qth x).length <= s.length + 1 := by
               rw [hW2]
               split
               · simp
               · omega
             refine ⟨rfl, _, S18.h4.load1 (P := prog) un_string rfl (qg5 S18.ho), ?_⟩
             refine callK (qiM _ (by show (qth x).length <= _; omega) w18) ?_
             rintro _ w19 ⟨rfl, hw19⟩
             rw [hw19]; clear hw19
             refine ⟨_, rfl, BCase.of (fun c => ?_) (fun c => ?_)⟩
             · exact bad S18 (by rw [hR]; exact if_neg (by rw [Bool.not_eq_true'] at c; rw [show pathB (qth x) = false from c]; decide))
             · exact fin S18 (by rw [hR]; exact if_pos (by rw [Bool.not_eq_false'] at c; exact c))
end Go.Proofs.YtlfolncaghkmcaaGreatDoor
namespace Go.Pk
open Go.RowKit (Below)
def domB (h d : Hst) : Bool := jh h && (jh d && (qbA h d || qdA h d))
theorem qrC {h : Hst} (hl : (labelsV h).length ≠ 0) : jh h = true := by
 unfold labelsV at hl
 split at hl
 · rename_i c; exact c.2
 · exact absurd rfl hl
theorem dom_same {h d : Hst} (oh : h.ok) (od : d.ok) : ((qbA h d && jh h) || qdA h d) = domB h d := by
 unfold domB
 by_cases hu : qdA h d = true
 · have hd0 : ¬ ((labelsV d).length = 0 \/ (labelsV h).length <= (labelsV d).length) := fun hc => by unfold qdA at hu; rw [if_pos hc] at hu; cases hu
   rw [hu, qrC (h := h) (by omega), qrC (h := d) (by omega)]; simp
 · have hu' : qdA h d = false := by simpa using hu
   rw [hu', Bool.or_false, Bool.or_false]
   by_cases he : qbA h d = true
   · have := (qaD oh od).1 he
     subst this
     rw [he]; cases jh h <;> rfl
   · have he' : qbA h d = false := by simpa using he
     rw [he']; cases jh h <;> cases jh d <;> rfl
def lastK (s : List UInt8) : Nat -> Nat
 | 0 => 0
 | k + 1 => if s[k]? = some 47 then k else lastK s k
theorem qot (s : List UInt8) : ∀ k, lastK s k <= k
 | 0 => Nat.le_refl _
 | k + 1 => by
   have := qot s k
   unfold lastK; split <;> omega
def defV (s : List UInt8) : List UInt8 := if lastK s s.length = 0 \/ s.head? ≠ some 47 then [47] else s.take (lastK s s.length)
theorem qAx (s : List UInt8) : ∀ k, k <= s.length -> (0 < Lib.lastIdx (mkS s) 47 k ↔ lastK s k ≠ 0) /\ (0 < Lib.lastIdx (mkS s) 47 k -> Lib.lastIdx (mkS s) 47 k = (lastK s k : Nat))
 | 0, _ => ⟨by simp [Lib.lastIdx, lastK], by simp [Lib.lastIdx]⟩
 | k + 1, h => by
   have e : (mkS s).data[k]! = s[k]'(by omega) := by
     have : (mkS s).data = s.toArray := rfl
     rw [this, getElem!_pos s.toArray k (by simp; omega)]; simp
   have ih := qAx s k (by omega)
   unfold Lib.lastIdx lastK
   rw [e, List.getElem?_eq_getElem (by omega)]
   by_cases c : s[k]'(by omega) = 47
   · rw [if_pos (by rw [c]; rfl), if_pos (by rw [c])]
     exact ⟨by omega, fun _ => rfl⟩
   · rw [if_neg (fun hx => c (UInt8.toNat_inj.1 (by rw [show (UInt8.toNat 47) = 47 from rfl]; omega))), if_neg (fun hx => c (Option.some.inj hx))]
     exact ih
def qjP (p o : List UInt8) : Bool := (p == o) || (decide (o.length < p.length) && ((p.take o.length == o) && (decide (p[o.length]? = some 47) || decide (o.getLast? = some 47))))
structure Cky where
 name : List UInt8
 value : List UInt8
 host : Hst
 only : Bool
 path : List UInt8
 sec : Bool
 http : Bool
 same : Int
 exp : Int
 born : Int
 used : Int
 seq : Int
def Cky.tail (c : Cky) : List Value := [.bool c.only, .string (mkS c.path), .bool c.sec, .bool c.http, .int .i64 c.same, .int .i64 c.exp, .int .i64 c.born, .int .i64 c.used, .int .i64 c.seq]
def Cky.cells (c : Cky) : List Value := .string (mkS c.name) :: .string (mkS c.value) :: (c.host.cells ++ c.tail)
def Cky.v (c : Cky) : Value := .agg c.cells.toArray
def cky0 : Cky := ⟨[], [], hst0, false, [], false, false, 0, 0, 0, 0, 0⟩
def Cky.ok (c : Cky) : Prop := c.host.ok
theorem Cky.len {c : Cky} (o : c.ok) : c.cells.length = 29 := by unfold Cky.cells; rw [List.length_cons, List.length_cons, List.length_append, Hst.len o]; rfl
theorem Cky.one (c : Cky) : One1 c.cells := qx rfl (qx rfl (qnz (Hst.one _) (qx rfl (qx rfl (qx rfl (qx rfl (qx rfl (qx rfl (qx rfl (qx rfl (qx rfl zT)))))))))))
theorem qaP {c : Cky} (o : c.ok) {j : Nat} (h : j < 18) : c.cells[2 + j]? = c.host.cells[j]? := by
 unfold Cky.cells
 rw [show 2 + j = j + 1 + 1 by omega, List.getElem?_cons_succ, List.getElem?_cons_succ, List.getElem?_append_left (by rw [Hst.len o]; exact h)]
theorem qE {c : Cky} (o : c.ok) (j : Nat) : c.cells[20 + j]? = c.tail[j]? := by
 unfold Cky.cells
 rw [show 20 + j = (18 + j) + 1 + 1 by omega, List.getElem?_cons_succ, List.getElem?_cons_succ, List.getElem?_append_right (by rw [Hst.len o]; omega), Hst.len o]
 congr 1; omega
structure Req where
 sec : Bool
 host : Hst
 path : List UInt8
 cross : Int
def Req.tail (r : Req) : List Value := [.string (mkS r.path), .int .i64 r.cross]
def Req.cells (r : Req) : List Value := .bool r.sec :: (r.host.cells ++ r.tail)
def Req.v (r : Req) : Value := .agg r.cells.toArray
def Req.ok (r : Req) : Prop := r.host.ok
theorem Req.len {r : Req} (o : r.ok) : r.cells.length = 21 := by unfold Req.cells; rw [List.length_cons, List.length_append, Hst.len o]; rfl
theorem Req.one (r : Req) : One1 r.cells := qx rfl (qnz (Hst.one _) (qx rfl (qx rfl zT)))
theorem qqo {r : Req} (o : r.ok) {j : Nat} (h : j < 18) : r.cells[1 + j]? = r.host.cells[j]? := by
 unfold Req.cells
 rw [Nat.add_comm, List.getElem?_cons_succ, List.getElem?_append_left (by rw [Hst.len o]; exact h)]
theorem qjg {r : Req} (o : r.ok) (j : Nat) : r.cells[19 + j]? = r.tail[j]? := by
 unfold Req.cells
 rw [show 19 + j = (18 + j) + 1 by omega, List.getElem?_cons_succ, List.getElem?_append_right (by rw [Hst.len o]; omega), Hst.len o]
 congr 1; omega
def qif (same cross : Int) : Bool := if cross = 1 then same != 3 else if cross = 2 then same == 1 else cross == 0
def jQ (c : Cky) (r : Req) (now : Int) : Bool :=
 !(c.only && !qbA c.host r.host) && (domB r.host c.host && (qjP r.path c.path && (!(c.sec && !r.sec) && (!(decide (now >= c.exp)) && qif c.same r.cross))))
end Go.Pk
namespace Go.Proofs.YtlfolncaghkmcaaGreatDoor
open Go.Pk
open Go.RowKit (Below)
theorem qiK {h d : Hst} (oh : h.ok) (od : d.ok) (hn : h.name.length <= 1000000000) (dn : d.name.length <= 1000000000) (w : World) (he : Env w) : Calls prog qgR #[h.v, d.v] w (Ret fun v w' => v = .bool (domB h d) /\ Below w.heap.size w w') := by
 rw [<- dom_same oh od]
 apply qsd
 unfold qod
 intro k2 w2 hk2 hw2
 have hB2 := (hw2 ▸ qj w _ : Below w.heap.size w w2)
 have h2 : qk w2 k2 qf h.cells := qk.new hk2 hw2
 intro k3 w3 hk3 hw3
 have hb3 := (hw3 ▸ qj w2 _ : Below w2.heap.size w2 w3)
 have hB3 := qd hB2 hb3 hB2.size
 have h3 : qk w3 k3 qf d.cells := qk.new hk3 hw3
 have h23 := h2.below hb3
 have und : ∀ wx, Below w3.heap.size w3 wx -> ∃ v13 : Value, (Instr.loadAt qf (.pointer (some ⟨k2, 0, none⟩))).run prog wx = .ok v13 wx /\ ∃ v14 : Value, (Instr.loadAt qf (.pointer (some ⟨k3, 0, none⟩))).run prog wx = .ok v14 wx /\
     Calls prog qjn #[v13, v14] wx fun e15 w15 => ∃ (b15 : Bool), e15 = .returned (.bool b15) /\ ((.bool b15 : Value) = .bool (qdA h d) /\ Below w.heap.size w w15) := fun wx hbx => by
   refine ⟨_, qv.load0 (h23.below hbx) (Hst.len oh), _, qv.load0 (h3.below hbx) (Hst.len od), ?_⟩
   have hBx := qd hB3 hbx hB3.size
   refine callK (qvN oh od hn dn wx (he.step hBx)) ?_
   rintro _ w4 ⟨rfl, hb4⟩
   exact ⟨_, rfl, rfl, qd hBx hb4 hBx.size⟩
 refine ⟨_, qv.load0 h23 (Hst.len oh), _, qv.load0 h3 (Hst.len od), _, qg3 oh od w3, ?_⟩
 refine BCase.of (fun c1 => ?_) (fun c1 => ?_)
 · refine ⟨_, qv.load0 h23 (Hst.len oh), ?_⟩
   refine callK (qiG oh hn w3 (he.step hB3)) ?_
   rintro _ w4 ⟨rfl, hb4⟩
   refine ⟨_, rfl, BCase.of (fun c2 => ⟨by rw [c1, c2]; rfl, qd hB3 hb4 hB3.size⟩) (fun c2 => ?_)⟩
   rw [c1, c2]
   exact und w4 hb4
 · rw [c1]
   exact und w3 (Below.refl _ _)
theorem qr1 (s : List UInt8) (hs : s.length < 4611686018427387904) (w : World) : Calls prog qj9 #[.string (mkS s)] w (Ret fun v w' => v = .string (mkS (defV s)) /\ w' = w) := by
 apply qrm
 unfold qmR
 refine (Tryz.strings_LastIndexByte (mkS s) 47 (show s.toArray.size < _ by simpa using hs) w).mono ?_
 rintro _ w' ⟨rfl, hw⟩
 rw [hw]; clear hw
 refine ⟨_, rfl, ?_⟩
 have hK := qAx s s.length (Nat.le_refl _)
 have e : Lib.lastIndexByte (mkS s) 47 = Lib.lastIdx (mkS s) 47 s.length := by unfold Lib.lastIndexByte; rw [show (mkS s).size = s.length from by show s.toArray.size = _; simp]
 rw [e]
 generalize Lib.lastIdx (mkS s) 47 s.length = n at *
 have hle := qot s s.length
 refine j3 (w := w) (decide (¬ (lastK s s.length = 0 \/ s.head? ≠ some 47))) ?_ ?_
 · refine BCase.of (fun h => ?_) (fun h => ⟨rfl, ?_⟩) <;> simp only [gt_iff_lt, dTx, dFx] at h
   · have h0 := hK.1.1 h
     have hl : 0 < s.length := by omega
     have hb := zG (s := s) (k := 0) hl
     rw [show ((0 : Nat) : Int) = 0 from rfl] at hb
     have hu := qaf s[0] 47
     rw [show (((47 : UInt8).toNat : Nat) : Int) = 47 from rfl] at hu
     refine ⟨⟨by decide, by omega⟩, rfl, ?_⟩
     rw [hb, hu, List.head?_eq_getElem?, List.getElem?_eq_getElem hl, Bool.eq_iff_iff]
     simp [h0]
   · have h0 : lastK s s.length = 0 := Decidable.byContradiction fun hc => h (hK.1.2 hc)
     rw [eq_comm, dFx]
     exact fun hc => hc (.inl h0)
 · refine BCase.of (fun h => ?_) (fun h => ⟨?_, rfl⟩)
   · have h := of_decide_eq_true h
     have hn := hK.2 (hK.1.2 fun hc => h (.inl hc))
     subst hn
     refine ⟨⟨by omega, by omega⟩, ?_⟩
     rintro _ rfl
     exact ⟨by unfold defV; rw [if_neg h]; rfl, rfl⟩
   · have h := of_decide_eq_false h
     unfold defV; rw [if_pos (Decidable.not_not.1 h)]
theorem qn : Whl prog qe 29 := ⟨⟨_, _, qjU⟩, by kernel_rfl⟩
theorem qco : Whl prog qD 21 := ⟨⟨_, _, quQ⟩, by kernel_rfl⟩
end Go.Proofs.YtlfolncaghkmcaaGreatDoor
set_option linter.unusedSectionVars false
namespace Go.Pk
open Go.RowKit (Below)
section
variable {α β : Type} [DecidableEq α]
def KVg (ek : α -> Value) (ev : β -> Value) (es : List MapEntry) (kvs : List (α × β)) : Prop := es.map (fun e => (e.key, e.val)) = kvs.map fun p => (ek p.1, ev p.2)
def MapG (ek : α -> Value) (ev : β -> Value) (w : World) (r : Nat) (kvs : List (α × β)) : Prop := ∃ es clock, w.heap[r]? = some (.map es clock) /\ KVg ek ev es.toList kvs
def qfL (k : α) : List (α × β) -> Option β
 | [] => none
 | (k', v) :: l => if k = k' then some v else qfL k l
def qfZ (k : α) : List (α × β) -> Nat -> Option (Nat × β)
 | [], _ => none
 | (k', v) :: l, i => if k = k' then some (i, v) else qfZ k l (i + 1)
theorem qpD (k : α) : ∀ (l : List (α × β)) (i : Nat), (qfZ k l i).map (·.2) = qfL k l
 | [], _ => rfl
 | (k', v) :: l, i => by
   unfold qfZ qfL
   split
   · rfl
   · exact qpD k l (i + 1)
theorem lookG_app (k : α) (v : β) (k' : α) : ∀ l : List (α × β), qfL k' (l ++ [(k, v)]) = (qfL k' l).or (if k' = k then some v else none)
 | [] => by
   show (if k' = k then some v else none) = _
   rfl
 | (x, y) :: l => by
   show (if k' = x then some y else qfL k' (l ++ [(k, v)])) = (if k' = x then some y else qfL k' l).or _
   split
   · rfl
   · exact lookG_app k v k' l
structure qpk (P : Program) (kt : TypeId) (ek : α -> Value) : Prop where
 check : ∀ (b : Bool) (k : α) (w : World), (Instr.checkKey b 10000 kt (ek k)).run P w = .ok () w
 find : ∀ {β : Type} (ev : β -> Value) (k : α) (es : List MapEntry) (kvs : List (α × β)) (w : World), KVg ek ev es kvs -> (Instr.findKey kt (ek k) es).run P w = .ok ((qfZ k kvs 0).map fun p => (p.1, ev p.2)) w
theorem qpk.struct {P : Program} {kt : TypeId} {fs : Array Field} (hu : P.underlying kt = some (.struct fs)) {ek : α -> Value} (heq : ∀ a b, eqV P 10000 kt (ek a) (ek b) = some (decide (a = b)))
   (check : ∀ (b : Bool) (k : α) (w : World), (Instr.checkKey b 10000 kt (ek k)).run P w = .ok () w) : qpk P kt ek where
 check := check
 find := by
   intro β ev k es kvs w h
   have ask : ∀ (es : List MapEntry) (kvs : List (α × β)) (i : Nat), KVg ek ev es kvs -> (Instr.findAsking kt (ek k) es i).run P w = .ok ((qfZ k kvs i).map fun p => (p.1, ev p.2)) w := by
     intro es
     induction es with
     | nil =>
       intro kvs i h
       have : kvs = [] := by unfold KVg at h; simp at h; exact h
       subst this; rfl
     | cons e es ih =>
       intro kvs i h
       cases kvs with
       | nil => unfold KVg at h; simp at h
       | cons p kvs =>
         obtain ⟨k', v⟩ := p
         unfold KVg at h
         simp only [List.map_cons, List.cons.injEq, Prod.mk.injEq] at h
         obtain ⟨⟨hk, hv⟩, ht⟩ := h
         unfold Instr.findAsking qfZ
         rw [hk]
         have he : (Op.equal kt (ek k) (ek k')).run P w = .ok (decide (k = k')) w := qz8 10000 kt _ _ _ w (heq k k')
         rw [Sem.run_bind, he, Result.andThen_ok]
         by_cases e1 : k = k'
         · simp [e1, hv]
         · simp only [e1, decide_false, if_false]
           exact ih kvs (i + 1) ht
   unfold Instr.findKey
   rw [Sem.run_bind, jE hu, Result.andThen_ok]
   cases es with
   | nil =>
     have : kvs = [] := by unfold KVg at h; simp at h; exact h
     subst this; rfl
   | cons e es => exact ask (e :: es) kvs 0 h
variable {ek : α -> Value} {ev : β -> Value}
theorem MapG.below {w w' : World} {r : Nat} {kvs : List (α × β)} (h : MapG ek ev w r kvs) (hb : Below w.heap.size w w') : MapG ek ev w' r kvs := by
 obtain ⟨es, c, hh, hkv⟩ := h
 exact ⟨es, c, (hb.block r (Array.getElem?_eq_some_iff.1 hh).1).trans hh, hkv⟩
theorem MapG.lt {w : World} {r : Nat} {kvs : List (α × β)} (h : MapG ek ev w r kvs) : r < w.heap.size := by
 obtain ⟨es, c, hh, hkv⟩ := h
 exact (Array.getElem?_eq_some_iff.1 hh).1
theorem MapG.keep {w w' : World} {r : Nat} {kvs : List (α × β)} (h : MapG ek ev w r kvs) (hb : w'.heap[r]? = w.heap[r]?) : MapG ek ev w' r kvs := by
 obtain ⟨es, c, hh, hkv⟩ := h
 exact ⟨es, c, hb.trans hh, hkv⟩
theorem MapG.grown {w w' : World} {r : Nat} {kvs : List (α × β)} (h : MapG ek ev w r kvs) {k : Nat} (hg : w.grownBy w' (some k)) (hne : r ≠ k) : MapG ek ev w' r kvs := h.keep (hg.block r h.lt fun e => hne (Option.some.inj e))
theorem MapG.new {w w' : World} {r : Nat} (hr : r = w.heap.size) (hw : w' = w.alloc (.map #[] 0)) : MapG ek ev w' r [] := by
 subst hr hw
 exact ⟨#[], 0, heap_alloc_new w _, rfl⟩
theorem qme {P : Program} {w : World} {r : Nat} {es : Array MapEntry} {c : Nat} (h : w.heap[r]? = some (.map es c)) : (getObj r).run P w = .ok (.map es c) w := by
 simp only [getObj, Sem.run, h]
theorem MapG.look2 {P : Program} {mt kt et : TypeId} {n bytes : Nat} {z : Value} (hm : P.underlying mt = some (.map kt et)) (hk : qpk P kt ek) (he : TF P et n bytes z) {w : World} {r : Nat} {kvs : List (α × β)} (h : MapG ek ev w r kvs) (k : α) :
   (Instr.lookup mt (.map (some r)) (ek k) true).run P w = .ok (.tuple #[((qfL k kvs).map ev).getD z, .bool (qfL k kvs).isSome]) w := by
 obtain ⟨es, c, hh, hkv⟩ := h
 obtain ⟨i, hi, _, _, hz⟩ := he.info
 unfold Instr.lookup
 simp only [Sem.run_bind, jE hm, Result.andThen_ok, qme hh, Sem.run_pure, hk.check, hk.find ev k _ _ _ hkv]
 rw [<- qpD k kvs 0]
 cases qfZ k kvs 0 with
 | none => simp [zeroValue, qms hi, hz]
 | some p => simp
theorem MapG.look1 {P : Program} {mt kt et : TypeId} {n bytes : Nat} {z : Value} (hm : P.underlying mt = some (.map kt et)) (hk : qpk P kt ek) (he : TF P et n bytes z) {w : World} {r : Nat} {kvs : List (α × β)} (h : MapG ek ev w r kvs) (k : α) :
   (Instr.lookup mt (.map (some r)) (ek k) false).run P w = .ok (((qfL k kvs).map ev).getD z) w := by
 obtain ⟨es, c, hh, hkv⟩ := h
 obtain ⟨i, hi, _, _, hz⟩ := he.info
 unfold Instr.lookup
 simp only [Sem.run_bind, jE hm, Result.andThen_ok, qme hh, Sem.run_pure, hk.check, hk.find ev k _ _ _ hkv]
 rw [<- qpD k kvs 0]
 cases qfZ k kvs 0 with
 | none => simp [zeroValue, qms hi, hz]
 | some p => simp
theorem MapG.put {P : Program} {mt kt et : TypeId} (hm : P.underlying mt = some (.map kt et)) (hk : qpk P kt ek) {w : World} {r : Nat} {kvs : List (α × β)} (h : MapG ek ev w r kvs) {k : α} (hno : qfL k kvs = none) (v : β) :
   ∃ w', (Instr.mapUpdate mt (.map (some r)) (ek k) (ev v)).run P w = .ok () w' /\ MapG ek ev w' r (kvs ++ [(k, v)]) /\ w.grownBy w' (some r) := by
 obtain ⟨es, c, hh, hkv⟩ := h
 have hlt : r < w.heap.size := (Array.getElem?_eq_some_iff.1 hh).1
 have hnone : qfZ k kvs 0 = none := by
   have := qpD k kvs 0
   rw [hno] at this
   simpa using this
 refine ⟨{ w with heap := w.heap.setIfInBounds r (.map (es.push { key := ek k, val := ev v, born := c }) (c + 1)) }, ?_, ⟨es.push { key := ek k, val := ev v, born := c }, c + 1, by simp [hlt], ?_⟩, ⟨rfl, rfl, rfl, by simp, fun j hj hne => ?_⟩⟩
 · unfold Instr.mapUpdate
   simp only [Sem.run_bind, jE hm, Result.andThen_ok, qme hh, hk.check, hk.find ev k _ _ _ hkv, hnone, Option.map_none]
   simp only [setObj, Sem.run, hh]
 · unfold KVg at hkv ⊢
   simp only [Array.toList_push, List.map_append, List.map_cons, List.map_nil, hkv]
 · have : r ≠ j := fun e => hne (by rw [e])
   simp [Array.getElem?_setIfInBounds_ne this]
end
end Go.Pk
