/- What the laws lean on: DaD, DaE, LefP, ShoA, ShoB, ShoC, ShoD, HosG, SymA, SymB, SymC, V34, HosK; what is used. Its conditions: none. -/
import Derived.Test.YtpafoodmpjlkhaaGreatDoorKG
open Go.IntKind (i64)
open Go.Proofs.Tryz (prog)
set_option linter.unusedVariables false
set_option linter.unusedSimpArgs false
set_option maxRecDepth 20000
namespace Go.Pk
open Go.RowKit (Below)
def ekP (p : Pr) : Value := .agg #[.int .i64 ((p.1 : Nat) : Int), .int .i64 ((p.2 : Nat) : Int)]
def evN (n : Nat) : Value := .int .i64 ((n : Nat) : Int)
def jl (p : Pr) : Pi := (((p.1 : Nat) : Int), ((p.2 : Nat) : Int))
theorem Dq (q : Pr) : ∀ (ps : List Pr) (n : Nat), (∀ t, u3 q (ps.zipIdx n) = some t -> n <= t /\ ps[t - n]? = some q) /\ (u3 q (ps.zipIdx n) = none -> q ∉ ps)
 | [], n => ⟨fun t h => by simp [u3] at h, fun _ h => by cases h⟩
 | p :: ps, n => by
   obtain ⟨h1, h2⟩ := Dq q ps (n + 1)
   rw [List.zipIdx_cons]
   unfold u3
   by_cases e : q = p
   · rw [if_pos e]
     refine ⟨fun t h => ?_, fun h => by cases h⟩
     obtain rfl := Option.some.inj h
     exact ⟨Nat.le_refl _, by rw [Nat.sub_self, e]; rfl⟩
   · rw [if_neg e]
     refine ⟨fun t h => ?_, fun h hm => ?_⟩
     · obtain ⟨h3, h4⟩ := h1 t h
       refine ⟨by omega, ?_⟩
       rw [show t - n = (t - (n + 1)) + 1 by omega, List.getElem?_cons_succ]
       exact h4
     · rcases List.mem_cons.1 hm with h3 | h3
       · exact e h3
       · exact h2 h h3
theorem GR (ps : List Pr) (q : Pr) : (ps ++ [q]).zipIdx = ps.zipIdx ++ [(q, ps.length)] := by
 rw [List.zipIdx_append]; simp
theorem Ow.chg {α : Type} {T : Ty α} {t : TypeId} {w w' : World} {a : Option Addr} {n c : Nat} {xs : List α} {L : List Nat} (h : Ow T t w NoB a n c xs) (hc : Chg L w w') (hne : ∀ g, bE a = some g -> g ∉ L) : Ow T t w' NoB a n c xs :=
 h.keep (hc.keep.mono fun b hb => by
   rcases hb with hb | hb
   · exact hb.elim
   · exact hne b hb.symm)
end Go.Pk
namespace Go.Proofs.YtpafoodmpjlkhaaGreatDoor
open Go.Pk
open Go.RowKit (Below)
theorem qF : Whl prog aO 2 := ⟨⟨_, _, xj⟩, by kernel_rfl⟩
theorem H7 : ∃ fs, prog.underlying aO = some (.struct fs) := ⟨_, rfl⟩
theorem zD : DE prog aO ekP := by
 obtain ⟨fs, h⟩ := H7
 refine DE.struct h (fun a b => ?_) (fun b k w => ?_)
 · obtain ⟨a1, a2⟩ := a
   obtain ⟨b1, b2⟩ := b
   have e : eqV prog 10000 aO (ekP (a1, a2)) (ekP (b1, b2)) = some ((((a1 : Nat) : Int) == ((b1 : Nat) : Int)) && ((((a2 : Nat) : Int) == ((b2 : Nat) : Int)) && true)) := by kernel_rfl
   rw [e]
   congr 1
   rw [Bool.eq_iff_iff]
   simp only [Bool.and_eq_true, beq_iff_eq, Bool.and_true, dTx, Prod.mk.injEq]
   omega
 · obtain ⟨a1, a2⟩ := k
   kernel_rfl
theorem DD (x y : Bool) (w : World) : Calls prog fB #[.bool x, .bool y] w (Ret fun v w' => v = .bool (x && y) /\ w' = w) := by
 apply wQ
 unfold rq
 exact af.of (fun h => ⟨by rw [h]; rfl, rfl⟩) (fun h => ⟨by rw [h]; rfl, rfl⟩)
def d0 : DA := ⟨0, 0, [], []⟩
structure qV (w0 : World) (da db : DA) (aa : Option Addr) (an ac : Nat) (ba : Option Addr) (bn bc : Nat) (ca : Option Addr) (cn cc : Nat) (ea : Option Addr) (en ec : Nat) (k3 k4 k6 k38 k44 B : Nat) (x : Option Addr) (xn xc : Nat) (y : Option Addr) (yn yc : Nat) (t : Option Addr) (tn tc : Nat) (ps : List Pr) (d : DA) (w : World) : Prop where
 da : am w k3 aj [.int .i64 da.k, .int .i64 da.st, .slice aa an ac, .slice ba bn bc]
 db : am w k4 aj [.int .i64 db.k, .int .i64 db.st, .slice ca cn cc, .slice ea en ec]
 res : am w k6 aj [.int .i64 0, .int .i64 0, .slice none 0 0, .slice none 0 0]
 mak : Mk w k38 x xn xc y yn yc d
 map : vp ekP evN w k44 ps.zipIdx
 row : Ow tP aO w NoB t tn tc (ps.map jl)
 o1 : k3 < k4
 o2 : k4 < k6
 o3 : k6 < k38
 o4 : k38 < k44
 o5 : k44 < B
 o6 : B <= w.heap.size
 o7 : w0.heap.size <= k3
 fx : bD B x
 fy : bD B y
 ft : bD B t
 tx : ∀ g, bE t = some g -> bE x ≠ some g /\ bE y ≠ some g
 bw : Below w0.heap.size w0 w
theorem qV.below {w0 w w' : World} {da db : DA} {aa ba ca ea x y t : Option Addr} {an ac bn bc cn cc en ec k3 k4 k6 k38 k44 B xn xc yn yc tn tc : Nat} {ps : List Pr} {d : DA}
   (h : qV w0 da db aa an ac ba bn bc ca cn cc ea en ec k3 k4 k6 k38 k44 B x xn xc y yn yc t tn tc ps d w) (hb : Below w.heap.size w w') : qV w0 da db aa an ac ba bn bc ca cn cc ea en ec k3 k4 k6 k38 k44 B x xn xc y yn yc t tn tc ps d w' :=
 { h with
   da := h.da.below hb
   db := h.db.below hb
   res := h.res.below hb
   mak := h.mak.below hb
   map := h.map.below hb
   row := h.row.below hb
   o6 := Nat.le_trans h.o6 hb.size
   bw := ab h.bw hb h.bw.size }
theorem vt {d : DA} {s : Nat} (h : s < d.ac.length) : d.ac[s] = d.acc s := by
 unfold DA.acc
 rw [List.getD_eq_getElem?_getD, List.getElem?_eq_getElem h]; rfl
theorem qV.made {w0 w w' : World} {da db : DA} {aa ba ca ea x y t x' y' : Option Addr} {an ac bn bc cn cc en ec k3 k4 k6 k38 k44 B xn xc yn yc tn tc xn' xc' yn' yc' : Nat} {ps : List Pr} {d d' : DA}
   (h : qV w0 da db aa an ac ba bn bc ca cn cc ea en ec k3 k4 k6 k38 k44 B x xn xc y yn yc t tn tc ps d w) (hM : Mk w' k38 x' xn' xc' y' yn' yc' d') (hc : Chg (kV k38 x y) w w') (f1 : om w x x') (f2 : om w y y') :
   qV w0 da db aa an ac ba bn bc ca cn cc ea en ec k3 k4 k6 k38 k44 B x' xn' xc' y' yn' yc' t tn tc ps d' w' := by
 have p1 := h.o1
 have p2 := h.o2
 have p3 := h.o3
 have p4 := h.o4
 have p5 := h.o5
 have p6 := h.o6
 have p7 := h.o7
 have out : ∀ k : Nat, k < k38 \/ k = k44 -> k ∉ kV k38 x y := fun k hk hm => by
   rcases cL.1 hm with e | e | e
   · omega
   · have := h.fx k e; omega
   · have := h.fy k e; omega
 have hsz := hc.size
 exact
   { da := hc.arr h.da (out _ (by omega))
     db := hc.arr h.db (out _ (by omega))
     res := hc.arr h.res (out _ (by omega))
     mak := hM
     map := h.map.keep (hc.block _ h.map.lt (out _ (by omega)))
     row := h.row.chg hc fun g hg hm => by
       rcases cL.1 hm with e | e | e
       · have := h.ft g hg; omega
       · exact (h.tx g hg).1 e
       · exact (h.tx g hg).2 e
     o1 := p1, o2 := p2, o3 := p3, o4 := p4, o5 := p5, o6 := by omega, o7 := p7
     fx := om.fresh f1 h.fx p6
     fy := om.fresh f2 h.fy p6
     ft := h.ft
     tx := fun g hg => ⟨fun e => by
       rcases f1 g e with e2 | e2
       · exact (h.tx g hg).1 e2
       · have := h.row.lt g hg; omega, fun e => by
       rcases f2 g e with e2 | e2
       · exact (h.tx g hg).2 e2
       · have := h.row.lt g hg; omega⟩
     bw := h.bw.trans (hc.below h.bw.size fun k hk => by
       rcases cL.1 hk with e | e | e
       · omega
       · have := h.fx k e; omega
       · have := h.fy k e; omega) }
theorem qV.more {w0 w w' : World} {da db : DA} {aa ba ca ea x y t t' : Option Addr} {an ac bn bc cn cc en ec k3 k4 k6 k38 k44 B xn xc yn yc tn tc tn' tc' : Nat} {ps ps' : List Pr} {d : DA}
   (h : qV w0 da db aa an ac ba bn bc ca cn cc ea en ec k3 k4 k6 k38 k44 B x xn xc y yn yc t tn tc ps d w) (hM : vp ekP evN w' k44 ps'.zipIdx) (hR : Ow tP aO w' NoB t' tn' tc' (ps'.map jl)) (hc : Chg (k44 :: (bE t).toList) w w') (f : om w t t') :
   qV w0 da db aa an ac ba bn bc ca cn cc ea en ec k3 k4 k6 k38 k44 B x xn xc y yn yc t' tn' tc' ps' d w' := by
 have p1 := h.o1
 have p2 := h.o2
 have p3 := h.o3
 have p4 := h.o4
 have p5 := h.o5
 have p6 := h.o6
 have p7 := h.o7
 have mem : ∀ k : Nat, k ∈ k44 :: (bE t).toList -> k = k44 \/ bE t = some k := fun k hk => by
   rcases List.mem_cons.1 hk with e | e
   · exact .inl e
   · exact .inr (by simpa using e)
 have out : ∀ k : Nat, k < k44 -> k ∉ k44 :: (bE t).toList := fun k hk hm => by
   rcases mem k hm with e | e
   · omega
   · have := h.ft k e; omega
 have hsz := hc.size
 have rowx : ∀ g, bE x = some g -> g ∉ k44 :: (bE t).toList := fun g hg hm => by
   rcases mem g hm with e | e
   · have := h.fx g hg; omega
   · exact (h.tx g e).1 hg
 have rowy : ∀ g, bE y = some g -> g ∉ k44 :: (bE t).toList := fun g hg hm => by
   rcases mem g hm with e | e
   · have := h.fy g hg; omega
   · exact (h.tx g e).2 hg
 exact
   { da := hc.arr h.da (out _ (by omega))
     db := hc.arr h.db (out _ (by omega))
     res := hc.arr h.res (out _ (by omega))
     mak := ⟨hc.arr h.mak.var (out _ p4), h.mak.nx.chg hc rowx, h.mak.ac.chg hc rowy, h.mak.na, h.mak.nb, h.mak.ne⟩
     map := hM
     row := hR
     o1 := p1, o2 := p2, o3 := p3, o4 := p4, o5 := p5, o6 := by omega, o7 := p7
     fx := h.fx
     fy := h.fy
     ft := om.fresh f h.ft p6
     tx := fun g hg => ⟨fun e => by
       rcases f g hg with e2 | e2
       · exact (h.tx g e2).1 e
       · have := h.mak.nx.lt g e; omega, fun e => by
       rcases f g hg with e2 | e2
       · exact (h.tx g e2).2 e
       · have := h.mak.ac.lt g e; omega⟩
     bw := h.bw.trans (hc.below h.bw.size fun k hk => by
       rcases mem k hk with e | e
       · omega
       · have := h.ft k e; omega) }
def mM (da db : DA) : Bool := okD da && (okD db && (da.k == db.k))
def Ew (w : World) (v : Value) (w' : World) : Prop := v = .tuple #[daV none 0 0 none 0 0 d0, .int .i64 151] /\ Below w.heap.size w w'
def pB (da db : DA) (w : World) (v : Value) (w' : World) : Prop := if mM da db = true then ∃ d ps, jh da db (fun x y => x && y) d ps /\ xD w d v w' else Ew w v w'
theorem pB.yes {da db : DA} {w w' : World} {v : Value} (h : mM da db = true) (k : ∃ d ps, jh da db (fun x y => x && y) d ps /\ xD w d v w') : pB da db w v w' := by
 unfold pB
 rw [if_pos h]; exact k
theorem pB.no {da db : DA} {w w' : World} {v : Value} (h : mM da db = false) (k : Ew w v w') : pB da db w v w' := by
 unfold pB
 rw [if_neg (by rw [h]; simp)]; exact k
theorem nH {s x k N : Nat} (hs : s < N) (hx : x < k) (hN : N <= 65536) (hk : k <= 512) : i64.wrap (i64.wrap (((s : Nat) : Int) * ((k : Nat) : Int)) + ((x : Nat) : Int)) = ((s * k + x : Nat) : Int) /\ s * k + x < N * k := by
 have h1 := qd hs hx
 have h2 : N * k <= 65536 * 512 := Nat.mul_le_mul hN hk
 rw [show ((s : Nat) : Int) * ((k : Nat) : Int) = ((s * k : Nat) : Int) from (Int.natCast_mul _ _).symm, ak (n := ((s * k : Nat) : Int)) (by omega) (by omega), ak (by omega) (by omega)]
 exact ⟨by omega, h1⟩
theorem Eh {w : World} {aa ba ca ea : Option Addr} {an ac bn bc cn cc en ec : Nat} {da db : DA} (hA : DaS w aa an ac ba bn bc da) (hB : DaS w ca cn cc ea en ec db) (hf : da.Ok -> db.Ok -> da.k = db.k -> Few da db) :
   Calls prog oz #[daV aa an ac ba bn bc da, daV ca cn cc ea en ec db, .func (.func fB) #[] #[]] w
     (Ret (pB da db w)) := by
 apply lW
 unfold ic
 intro k3 w3 hk3 hw3 k4 w4 hk4 hw4 k6 w6 hk6 hw6
 have b3 := (hw3 ▸ ah w _ : Below w.heap.size w w3)
 have b4 := (hw4 ▸ ah w3 _ : Below w3.heap.size w3 w4)
 have b6 := (hw6 ▸ ah w4 _ : Below w4.heap.size w4 w6)
 have A3' : am w3 k3 aj (daL aa an ac ba bn bc da) := am.new hk3 hw3
 have A4' : am w4 k4 aj (daL ca cn cc ea en ec db) := am.new hk4 hw4
 have A6 : am w6 k6 aj [.int .i64 0, .int .i64 0, .slice none 0 0, .slice none 0 0] := am.new hk6 hw6
 have l3 := A3'.lt
 have l4 := A4'.lt
 have A3 := (A3'.below b4).below b6
 have A4 := A4'.below b6
 have B6 : Below w.heap.size w w6 := ab (ab b3 b4 b3.size) b6 (Nat.le_trans b3.size b4.size)
 have o34 : k3 < k4 := by omega
 have o46 : k4 < k6 := by omega
 have o3 : w.heap.size <= k3 := by omega
 clear b3 b4 b6 hw3 hw4 hw6 A3' A4' l3 l4 hk3 hk4 hk6
 refine ⟨fun w' => mM da db = true /\ Below w6.heap.size w6 w', ⟨fun b w' => b = !mM da db /\ Below w6.heap.size w6 w', ?_, fun b => aE.of ?_ _⟩, aE.of ?_ _⟩
 · refine ⟨_, _, aa, an, ac, ba, bn, bc, bs.load0 (cs := daL aa an ac ba bn bc da) A3 rfl, ?_⟩
   refine ax (pH (hA.below B6)) ?_
   rintro _ w19 ⟨rfl, b19⟩
   refine ⟨_, rfl, af.of (fun h => ?_) (fun h => ?_)⟩
   · refine ⟨?_, b19⟩
     unfold mM
     have : okD da = false := by simpa using h
     rw [this]; rfl
   have ha : okD da = true := by simpa using h
   refine ⟨_, _, ca, cn, cc, ea, en, ec, bs.load0 (cs := daL ca cn cc ea en ec db) (A4.below b19) rfl, ?_⟩
   refine ax (pH ((hB.below B6).below b19)) ?_
   rintro _ w23 ⟨rfl, b23⟩
   have B23 := ab b19 b23 b19.size
   refine ⟨_, rfl, af.of (fun h => ?_) (fun h => ?_)⟩
   · refine ⟨?_, B23⟩
     unfold mM
     have : okD db = false := by simpa using h
     rw [this, ha]; rfl
   have hb : okD db = true := by simpa using h
   refine ⟨rfl, _, (A3.below B23).load1 aI rfl rfl, rfl, _, (A4.below B23).load1 aI rfl rfl, ?_, B23⟩
   unfold mM
   rw [ha, hb]
   rfl
 · rintro wj ⟨rfl, bj⟩
   refine af.of (fun h => ?_) (fun h => ⟨by simpa using h, bj⟩)
   obtain ⟨wx, s1, s2, g1⟩ := fT (A6.below bj) rfl none 0 0 none 0 0 d0
   exact ⟨wx, s1, _, _, none, 0, 0, none, 0, 0, s2, pB.no (by simpa using h) ⟨rfl, Below.put (ab B6 bj B6.size) g1 (by omega)⟩⟩
 rintro wj ⟨hok, bj⟩
 obtain ⟨oa, ob, hk⟩ : da.Ok /\ db.Ok /\ da.k = db.k := by
   unfold mM at hok
   rw [Bool.and_eq_true, Bool.and_eq_true, beq_iff_eq] at hok
   exact ⟨ff.1 hok.1, ff.1 hok.2.1, hok.2.2⟩
 have few := hf oa ob hk
 have hK1 : 1 <= da.K /\ da.K <= 512 := by have := oa.k1; have := oa.k2; show 1 <= da.k.toNat /\ da.k.toNat <= 512; omega
 have hKa := oa.kk
 have hKb : db.k = ((da.K : Nat) : Int) := by rw [hKa, hk]
 have hbK : db.K = da.K := by unfold DA.K; rw [hk]
 have Bj := ab B6 bj B6.size
 have A3j := A3.below bj
 have A4j := A4.below bj
 have A6j := A6.below bj
 clear A3 A4 A6 bj B6
 refine ⟨rfl, _, A3j.load1 aI rfl rfl, ?_⟩
 intro k38 w38 hk38 hw38
 have b38 := (hw38 ▸ ah wj _ : Below wj.heap.size wj w38)
 have o6 : k6 < k38 := by have := A6j.lt; omega
 have M38 : Mk w38 k38 none 0 0 none 0 0 ⟨da.k, 0, [], []⟩ := ⟨am.new hk38 hw38, Ow.nil _ _ _ _, Ow.nil _ _ _ _, (fun g hg => by cases hg), (fun g hg => by cases hg), fun g hg => by cases hg⟩
 refine ⟨rfl, _, (A3j.below b38).load1 aI rfl rfl, rfl, _, (A4j.below b38).load1 aI rfl rfl, ?_⟩
 intro k9 w9 hk9 hw9
 have b9 := (hw9 ▸ ah w38 _ : Below w38.heap.size w38 w9)
 have es : da.st = ((da.s : Nat) : Int) := by have := oa.s0; show da.st = ((da.st.toNat : Nat) : Int); omega
 have es' : db.st = ((db.s : Nat) : Int) := by have := ob.s0; show db.st = ((db.st.toNat : Nat) : Int); omega
 obtain ⟨wx1, s1, P1, g1⟩ := qF.store0 (P := prog) (cs := [.int .i64 da.st, .int .i64 db.st]) rfl (bS rfl (bS rfl nf)) (am.new hk9 hw9 : am w9 k9 aO [.int .i64 0, .int .i64 0]) rfl
 refine ⟨wx1, s1, ?_⟩
 have bx1 : Below w38.heap.size w38 wx1 := Below.put b9 g1 (by omega)
 intro k44 w44 hk44 hw44
 have b44 := (hw44 ▸ ah wx1 _ : Below wx1.heap.size wx1 w44)
 have o9 : k38 < k44 := by have := M38.var.lt; have := bx1.size; omega
 have o944 : k9 < k44 := by have := P1.lt; omega
 refine ⟨_, _, qF.load0 (cs := [.int .i64 da.st, .int .i64 db.st]) (P1.below b44) rfl, ?_⟩
 obtain ⟨wx2, s2, Mp, g2⟩ := (vp.new (ek := ekP) (ev := evN) hk44 hw44).put (P := prog) ja zD (k := (da.s, db.s)) rfl 0
 rw [es, es']
 refine ⟨wx2, s2, ?_⟩
 have P2 : am wx2 k9 aO [.int .i64 da.st, .int .i64 db.st] := (P1.below b44).grown g2 (gt (by omega))
 rw [es, es'] at P2
 refine ⟨_, _, qF.load0 (cs := [.int .i64 ((da.s : Nat) : Int), .int .i64 ((db.s : Nat) : Int)]) P2 rfl, ?_⟩
 intro k48 w48 hk48 hw48
 have b48 := (hw48 ▸ ah wx2 _ : Below wx2.heap.size wx2 w48)
 have b2 : Below wx1.heap.size wx1 wx2 := Below.put b44 g2 (by omega)
 have bx2 : Below w38.heap.size w38 w48 := ab (ab bx1 b2 bx1.size) b48 (Nat.le_trans bx1.size b2.size)
 have bB : Below wj.heap.size wj w48 := ab b38 bx2 b38.size
 have lm := Mp.lt
 have R0 : Ow tP aO w48 NoB (some ⟨k48, 0, none⟩) 1 1 ([(da.s, db.s)].map jl) := by
   have := Ow.newF (A := NoB) tO (t := aO) (l := prC (jl (da.s, db.s))) (xs := [jl (da.s, db.s)]) hk48 hw48 (gw.one rfl) (by show 1 <= 9223372036854775807; omega)
   exact this
 have S0 : qV w da db aa an ac ba bn bc ca cn cc ea en ec k3 k4 k6 k38 k44 k48 none 0 0 none 0 0 (some ⟨k48, 0, none⟩) 1 1 [(da.s, db.s)] ⟨da.k, 0, [], []⟩ w48 :=
   { da := A3j.below bB
     db := A4j.below bB
     res := A6j.below bB
     mak := M38.below bx2
     map := Mp.below b48
     row := R0
     o1 := o34, o2 := o46, o3 := o6, o4 := o9, o5 := by omega
     o6 := by rw [hw48]; simp; omega
     o7 := o3
     fx := bD.none _
     fy := bD.none _
     ft := fun g hg => by simp [bE] at hg; omega
     tx := fun g hg => ⟨(fun h => by cases h), (fun h => by cases h)⟩
     bw := ab Bj bB Bj.size }
 have I0 : Aj da db (fun x y => x && y) [(da.s, db.s)] [] [] 0 0 := Aj.start oa ob
 clear A3j A4j A6j M38 P1 P2 Mp R0 bB bx2 b48 b2 b44 bx1 b9 b38 Bj
 refine ⟨fun m ta tn tc wl => ∃ (ps : List Pr) (nx : List Int) (acs : List Bool) (x : Option Addr) (xn xc : Nat) (y : Option Addr) (yn yc : Nat), m = 65536 - acs.length /\
   Aj da db (fun x y => x && y) ps acs nx acs.length 0 /\ qV w da db aa an ac ba bn bc ca cn cc ea en ec k3 k4 k6 k38 k44 k48 x xn xc y yn yc ta tn tc ps ⟨da.k, 0, nx, acs⟩ wl,
   ⟨_, [(da.s, db.s)], [], [], none, 0, 0, none, 0, 0, rfl, I0, S0⟩, ?_⟩
 clear S0 I0
 intro m ta tn tc
 refine aE.of ?_ _
 rintro wl ⟨ps, nx, acs, x, xn, xc, y, yn, yc, rfl, PI, S⟩
 have hyn := S.mak.ac.len
 have htn := S.row.len
 rw [List.length_map] at htn
 have hps := few ps PI.nd PI.reach
 have hacs : yn = acs.length := hyn
 refine ⟨rfl, rfl, rfl, y, yn, yc, S.mak.var.load1 bg rfl rfl, af.of (fun h => ?_) (fun h => ?_)⟩ <;> simp only [dTx, dFx] at h
 · have hi : acs.length < ps.length := by omega
   have hi' : acs.length < (ps.map jl).length := by rw [List.length_map]; exact hi
   obtain ⟨p, hp⟩ : ∃ p, ps[acs.length]? = some p := ⟨_, List.getElem?_eq_getElem hi⟩
   have hpe : ps[acs.length] = p := (List.getElem?_eq_some_iff.1 hp).2
   have hpin := PI.inn p (List.mem_of_getElem? hp)
   have ldp : (Instr.loadAt aO (.pointer (ao ta ((yn : Nat) : Int) 2))).run prog wl = .ok (.agg #[.int .i64 ((p.1 : Nat) : Int), .int .i64 ((p.2 : Nat) : Int)]) wl := by
     have := S.row.all.pair qF hi'
     rw [List.getElem_map, hpe, <- hacs] at this
     exact this
   refine ⟨rfl, rfl, rfl, y, yn, yc, S.mak.var.load1 bg rfl rfl, ⟨⟨by omega, by omega⟩, S.row.all.isSome hi'⟩, _, _, ldp, ?_⟩
   intro k12 w12 hk12 hw12
   have b12 := (hw12 ▸ ah wl _ : Below wl.heap.size wl w12)
   obtain ⟨wx3, s3, P12, g3⟩ := qF.store0 (P := prog) (cs := [.int .i64 ((p.1 : Nat) : Int), .int .i64 ((p.2 : Nat) : Int)]) rfl (bS rfl (bS rfl nf)) (am.new hk12 hw12 : am w12 k12 aO [.int .i64 0, .int .i64 0]) rfl
   have bx3 : Below wl.heap.size wl wx3 := Below.put b12 g3 (by omega)
   have S3 := S.below bx3
   have hk12B : k48 <= k12 := by have := S.o6; omega
   have h12t : ∀ g, bE ta = some g -> g ≠ k12 := fun g hg => by have := S.row.lt g hg; omega
   have h12x : ∀ g, bE x = some g -> g ≠ k12 := fun g hg => by have := S.mak.nx.lt g hg; omega
   have h12y : ∀ g, bE y = some g -> g ≠ k12 := fun g hg => by have := S.mak.ac.lt g hg; omega
   have h12m : k38 ≠ k12 /\ k44 ≠ k12 := by have := S.mak.var.lt; have := S.map.lt; omega
   refine ⟨wx3, s3, ⟨fun s w' => s = ((acs.length : Nat) : Int) /\ ∃ (x : Option Addr) (xn xc : Nat) (y : Option Addr) (yn yc : Nat), qV w da db aa an ac ba bn bc ca cn cc ea en ec k3 k4 k6 k38 k44 k48 x xn xc y yn yc ta tn tc ps ⟨da.k, 0, nx ++ List.replicate da.K 0, acs ++ [da.acc p.1 && db.acc p.2]⟩ w' /\ am w' k12 aO [.int .i64 ((p.1 : Nat) : Int), .int .i64 ((p.2 : Nat) : Int)] /\ (∀ g, bE x = some g -> g ≠ k12) /\ (∀ g, bE y = some g -> g ≠ k12), ?_, fun sN => aE.of ?_ _⟩⟩
   · have dA := fun {u : World} (hu : Below wx3.heap.size wx3 u) => (hA.below (ab S3.bw hu S3.bw.size)).ac
     have dB := fun {u : World} (hu : Below wx3.heap.size wx3 u) => (hB.below (ab S3.bw hu S3.bw.size)).ac
     have la := (dA (Below.refl _ _)).len
     have lb := (dB (Below.refl _ _)).len
     have p1 : p.1 < da.ac.length := hpin.1
     have p2 : p.2 < db.ac.length := hpin.2
     refine ⟨rfl, rfl, rfl, rfl, ba, bn, bc, fun u hu => (S3.da.below hu).load1 bg rfl rfl, _, fun u hu => (P12.below hu).load1 aI rfl rfl, ⟨⟨by omega, by omega⟩, (dA (Below.refl _ _)).isSome p1⟩, _, fun u hu => (dA hu).tru qw p1,
       ea, en, ec, fun u hu => (S3.db.below hu).load1 bg rfl rfl, _, fun u hu => (P12.below hu).load1 aI rfl rfl, ⟨⟨by omega, by omega⟩, (dB (Below.refl _ _)).isSome p2⟩, _, fun u hu => (dB hu).tru qw p2, fun wq hq => ?_⟩
     rw [vt p1, vt p2]
     refine ax (DD _ _ wq) ?_
     rintro _ w81 ⟨rfl, e81⟩
     rw [e81]; clear e81 w81
     refine ⟨_, rfl, ?_⟩
     have S4 := S3.below hq
     have hnx := PI.len
     have hmul : acs.length * da.K <= 65536 * 512 := Nat.mul_le_mul (by omega) hK1.2
     refine ax (vn S4.mak (by show (1 : Int) <= da.k; exact oa.k1) (by show da.k <= 512; exact oa.k2) (by show acs.length <= 200000; omega) (by show nx.length <= _; omega) (da.acc p.1 && db.acc p.2) 0) ?_
     rintro _ w82 ⟨rfl, x', xn', xc', y', yn', yc', M', hc, f1, f2⟩
     refine ⟨_, rfl, rfl, x', xn', xc', y', yn', yc', S4.made M' hc f1 f2, hc.arr (P12.below hq) fun hm => ?_, fun g hg => ?_, fun g hg => ?_⟩
     · rcases cL.1 hm with e | e | e
       · exact h12m.1 e.symm
       · exact h12x k12 e rfl
       · exact h12y k12 e rfl
     · rcases f1 g hg with e | e
       · exact h12x g e
       · have := P12.lt; have := hq.size; omega
     · rcases f2 g hg with e | e
       · exact h12y g e
       · have := P12.lt; have := hq.size; omega
   rintro wj2 ⟨rfl, x2, xn2, xc2, y2, yn2, yc2, S2, P2, n2x, n2y⟩
   have PI2 := PI.state rfl hp
   have hal : (acs ++ [da.acc p.1 && db.acc p.2]).length = acs.length + 1 := by simp
   generalize hacs' : acs ++ [da.acc p.1 && db.acc p.2] = acs' at *
   refine ⟨rfl, ((da.K : Nat) : Int), by rw [hKa]; exact S2.da.load1 aI rfl rfl, ?_⟩
   refine ⟨fun m ta tn tc xx wl => ∃ (j : Nat) (ps : List Pr) (nx : List Int) (x : Option Addr) (xn xc : Nat) (y : Option Addr) (yn yc : Nat), xx = (j : Int) /\ j <= da.K /\ m = da.K - j /\ Aj da db (fun x y => x && y) ps acs' nx acs.length j /\ ps[acs.length]? = some p /\
     qV w da db aa an ac ba bn bc ca cn cc ea en ec k3 k4 k6 k38 k44 k48 x xn xc y yn yc ta tn tc ps ⟨da.k, 0, nx, acs'⟩ wl /\ am wl k12 aO [.int .i64 ((p.1 : Nat) : Int), .int .i64 ((p.2 : Nat) : Int)] /\ (∀ g, bE x = some g -> g ≠ k12) /\ (∀ g, bE y = some g -> g ≠ k12) /\ (∀ g, bE ta = some g -> g ≠ k12),
     ⟨_, 0, ps, _, x2, xn2, xc2, y2, yn2, yc2, rfl, Nat.zero_le _, rfl, PI2, hp, S2, P2, n2x, n2y, h12t⟩, ?_⟩
   clear PI2 S2 P2 n2x n2y
   intro m1 ta1 tn1 tc1 xx
   refine aE.of ?_ _
   rintro wl1 ⟨j, ps1, nx1, x1, xn1, xc1, y1, yn1, yc1, rfl, hj, rfl, Q, hp1, S1, P1, n1x, n1y, n1t⟩
   have htn1 := S1.row.len
   rw [List.length_map] at htn1
   have hps1 := few ps1 Q.nd Q.reach
   refine af.of (fun h5 => ?_) (fun h5 => ?_) <;> simp only [dTx, dFx] at h5
   · have hjK : j < da.K := by omega
     have ia := nH hpin.1 hjK oa.n2 hK1.2
     have ib := nH hpin.2 hjK ob.n2 hK1.2
     obtain ⟨va, va1, va2, va3, va4⟩ := oa.at hpin.1 hjK
     obtain ⟨vb, vb1, vb2, vb3, vb4⟩ := ob.at hpin.2 (by rw [hbK]; exact hjK)
     rw [hbK] at vb1
     have dA := fun {u : World} (hu : Below wl1.heap.size wl1 u) => (hA.below (ab S1.bw hu S1.bw.size)).nx
     have dB := fun {u : World} (hu : Below wl1.heap.size wl1 u) => (hB.below (ab S1.bw hu S1.bw.size)).nx
     have la := (dA (Below.refl _ _)).len
     have lb := (dB (Below.refl _ _)).len
     have ga : p.1 * da.K + j < da.nx.length := iX va1
     have gb : p.2 * da.K + j < db.nx.length := iX vb1
     have ea' : da.nx[p.1 * da.K + j] = ((da.to p.1 j : Nat) : Int) := by
       rw [List.getElem?_eq_getElem ga] at va1
       rw [Option.some.inj va1, va4]; omega
     have eb' : db.nx[p.2 * da.K + j] = ((db.to p.2 j : Nat) : Int) := by
       rw [List.getElem?_eq_getElem gb] at vb1
       rw [Option.some.inj vb1, vb4]; omega
     refine ⟨rfl, rfl, rfl, rfl, rfl, rfl, aa, an, ac, fun u hu => (S1.da.below hu).load1 bi rfl rfl, ((p.1 : Nat) : Int), fun u hu => (P1.below hu).load1 aI rfl rfl, ((da.K : Nat) : Int), fun u hu => by rw [hKa]; exact (S1.da.below hu).load1 aI rfl rfl, ?_⟩
     rw [ia.1]
     refine ⟨⟨⟨by omega, by omega⟩, (dA (Below.refl _ _)).isSome ga⟩, ((da.to p.1 j : Nat) : Int), fun u hu => by rw [<- ea']; exact (dA hu).num aI ga, ca, cn, cc, fun u hu => (S1.db.below hu).load1 bi rfl rfl, ((p.2 : Nat) : Int), fun u hu => (P1.below hu).load1 aI rfl rfl, ((da.K : Nat) : Int), fun u hu => by rw [<- hKb]; exact (S1.db.below hu).load1 aI rfl rfl, ?_⟩
     rw [ib.1]
     refine ⟨⟨⟨by omega, by omega⟩, (dB (Below.refl _ _)).isSome gb⟩, ((db.to p.2 j : Nat) : Int), fun u hu => by rw [<- eb']; exact (dB hu).num aI gb, fun k15 hk15 wq hq hcell => ?_⟩
     obtain ⟨q, hq'⟩ : ∃ q, q = toP da db p j := ⟨_, rfl⟩
     have q1 : da.to p.1 j = q.1 := by rw [hq']; rfl
     have q2 : db.to p.2 j = q.2 := by rw [hq']; rfl
     rw [q1, q2]
     have Z15 : am wq k15 aO [.int .i64 0, .int .i64 0] := hcell
     obtain ⟨wx4, s4, P15, g4⟩ := qF.store0 (P := prog) (cs := [.int .i64 ((q.1 : Nat) : Int), .int .i64 ((q.2 : Nat) : Int)]) rfl (bS rfl (bS rfl nf)) Z15 rfl
     have b4 : Below wl1.heap.size wl1 wx4 := Below.put hq g4 hk15
     have S4 := S1.below b4
     have P4 := P1.below b4
     have lq := qF.load0 (P := prog) (cs := [.int .i64 ((q.1 : Nat) : Int), .int .i64 ((q.2 : Nat) : Int)]) P15 rfl
     have look := S4.map.look2 (P := prog) ja zD jA q
     have lz := Dq q ps1 0
     have t15 : ∀ g, bE ta1 = some g -> g ≠ k15 := fun g hg => by have := S1.row.lt g hg; omega
     have k1215 : k12 ≠ k15 := by have := P1.lt; omega
     have fin : ∀ (ps' : List Pr) (t : Nat) (ta2 : Option Addr) (tn2 tc2 : Nat) (W : World), (ps' = ps1 \/ ps' = ps1 ++ [q] /\ q ∉ ps1) -> ps'[t]? = some q -> qV w da db aa an ac ba bn bc ca cn cc ea en ec k3 k4 k6 k38 k44 k48 x1 xn1 xc1 y1 yn1 yc1 ta2 tn2 tc2 ps' ⟨da.k, 0, nx1, acs'⟩ W ->
         am W k12 aO [.int .i64 ((p.1 : Nat) : Int), .int .i64 ((p.2 : Nat) : Int)] -> (∀ g, bE ta2 = some g -> g ≠ k12) ->
         (∀ wq_2 : World, Below W.heap.size W wq_2 -> ∃ (wx_6 : World), (Instr.storeAt az (.pointer (ao x1 ((acs.length * da.K + j : Nat) : Int) 1)) (.int .i64 ((t : Nat) : Int))).run prog wq_2 = .ok () wx_6 /\
           ∃ nx2, Aj da db (fun x y => x && y) ps' acs' nx2 acs.length (j + 1) /\ ps'[acs.length]? = some p /\ qV w da db aa an ac ba bn bc ca cn cc ea en ec k3 k4 k6 k38 k44 k48 x1 xn1 xc1 y1 yn1 yc1 ta2 tn2 tc2 ps' ⟨da.k, 0, nx2, acs'⟩ wx_6 /\ am wx_6 k12 aO [.int .i64 ((p.1 : Nat) : Int), .int .i64 ((p.2 : Nat) : Int)]) := by
       intro ps' t ta2 tn2 tc2 W hps' ht SW PW ntW wq2 hq2
       have S6 := SW.below hq2
       have hnl : nx1.length = (acs.length + 1) * da.K := by rw [Q.len, hal]
       have hidx : acs.length * da.K + j < nx1.length := by rw [hnl]; exact qd (Nat.lt_succ_self _) hjK
       obtain ⟨wx6, s6, o6, g6⟩ := S6.mak.nx.store jA (fun _ _ h => h) (i := ((acs.length * da.K + j : Nat) : Int)) (by rw [Int.toNat_natCast]; exact hidx) (k := 1) rfl (v := .int .i64 ((t : Nat) : Int)) (x := ((t : Nat) : Int)) iY
       rw [Int.toNat_natCast] at o6
       have hc6 : Chg (kV k38 x1 y1) wq2 wx6 := (Chg.row g6).mono fun k hk => cL.2 (.inr (.inl (by simpa using hk)))
       refine ⟨wx6, s6, nx1.set (acs.length * da.K + j) ((t : Nat) : Int), Q.put oa ob hk hal hjK hp1 (by rw [<- hq']; exact hps') (by rw [<- hq']; exact ht), ?_, ?_, hc6.arr (PW.below hq2) fun hm => ?_⟩
       · rcases hps' with e | ⟨e, _⟩
         · rw [e]; exact hp1
         · rw [e, List.getElem?_append_left (iX hp1)]; exact hp1
       · refine S6.made (x' := x1) (xn' := xn1) (xc' := xc1) (y' := y1) (yn' := yn1) (yc' := yc1) ⟨?_, o6, ?_, S6.mak.na, S6.mak.nb, S6.mak.ne⟩ hc6 (fun g hg => .inl hg) (fun g hg => .inl hg)
         · exact S6.mak.var.grown g6 fun ex => S6.mak.na k38 ex.symm rfl
         · exact S6.mak.ac.other g6 fun g hg ex => S6.mak.ne g ex hg
       · rcases cL.1 hm with e | e | e
         · exact h12m.1 e.symm
         · exact n1x k12 e rfl
         · exact n1y k12 e rfl
     have iw := nH (s := acs.length) (x := j) (k := da.K) (N := 65536) (by omega) hjK (Nat.le_refl _) hK1.2
     obtain ⟨n0, b0, look', hyes, hno⟩ : ∃ (n0 : Int) (b0 : Bool), (Instr.lookup dW (.map (some k44)) (ekP q) true).run prog wx4 = .ok (.tuple #[.int .i64 n0, .bool b0]) wx4 /\ (b0 = true -> ∃ t : Nat, n0 = (t : Int) /\ ps1[t]? = some q) /\ (b0 = false -> u3 q ps1.zipIdx = none) := by
       cases hlk : u3 q ps1.zipIdx with
       | none =>
         rw [hlk] at look
         exact ⟨0, false, look, (fun h => by cases h), fun _ => rfl⟩
       | some t =>
         rw [hlk] at look
         have := (lz.1 t hlk).2
         exact ⟨((t : Nat) : Int), true, look, (fun _ => ⟨t, rfl, this⟩), fun h => by cases h⟩
     refine ⟨wx4, s4, _, _, lq, n0, b0, look', ⟨fun a l c n w' => ∃ (ps' : List Pr) (t : Nat), n = ((t : Nat) : Int) /\ (ps' = ps1 \/ ps' = ps1 ++ [q] /\ q ∉ ps1) /\ ps'[t]? = some q /\
         qV w da db aa an ac ba bn bc ca cn cc ea en ec k3 k4 k6 k38 k44 k48 x1 xn1 xc1 y1 yn1 yc1 a l c ps' ⟨da.k, 0, nx1, acs'⟩ w' /\ am w' k12 aO [.int .i64 ((p.1 : Nat) : Int), .int .i64 ((p.2 : Nat) : Int)] /\ (∀ g, bE a = some g -> g ≠ k12), ?_, fun a2 l2 c2 n16 => aE.of ?_ _⟩⟩
     · refine af.of (fun hb => ?_) (fun hb => ?_)
       · have hb0 : b0 = false := by simpa using hb
         have hnone := hno hb0
         have hnm := lz.2 hnone
         obtain ⟨wx5, s5, M5, g5⟩ := S4.map.put (P := prog) ja zD hnone ps1.length
         have k4415 : k44 < k15 := by have := S1.map.lt; omega
         have P15' := P15.grown g5 (gt (by omega))
         refine ⟨_, _, lq, wx5, by rw [htn1]; exact s5, _, _, qF.load0 (P := prog) (cs := [.int .i64 ((q.1 : Nat) : Int), .int .i64 ((q.2 : Nat) : Int)]) P15' rfl, ?_⟩
         intro k126 w126 hk126 hw126
         have b126 := (hw126 ▸ ah wx5 _ : Below wx5.heap.size wx5 w126)
         have row5 : Ow tP aO wx5 NoB ta1 tn1 tc1 (ps1.map jl) := S4.row.put (fun g hg e => by have := S4.ft g hg; have := S4.o5; omega) g5
         have hsrc : Src tP w126 NoB (some ⟨k126, 0, none⟩) 1 [jl q] := Src.new1F tO (vs := prC (jl q)) hk126 hw126 rfl
         obtain ⟨w127, a7, n7, c7, r7, o7, g7, f7⟩ := cJ (ty := jk) yg xj (by decide) (row5.below b126) (fun _ _ h => h) (cm := 1) hsrc (by rw [List.length_map, List.length_singleton]; omega)
         have hc7 : Chg (k44 :: (bE ta1).toList) wx4 w127 := ((Chg.grown g5 List.mem_cons_self).trans (Chg.of b126)).trans ((Chg.row g7).mono fun k hk => List.mem_cons_of_mem _ hk)
         have sz5 : wx4.heap.size <= w126.heap.size := Nat.le_trans g5.size b126.size
         have f7' : om wx4 ta1 a7 := fun g hg => by
           rcases f7 g hg with e | e
           · exact .inl e
           · exact .inr (by omega)
         have M7 : vp ekP evN w127 k44 (ps1 ++ [q]).zipIdx := by
           rw [GR]
           refine ((M5.below b126).keep (g7.block _ (M5.below b126).lt fun e => ?_))
           have := S4.ft k44 e.symm
           have := S4.o5
           omega
         refine ⟨w127, a7, n7, c7, r7, ps1 ++ [q], ps1.length, by rw [htn1], .inr ⟨rfl, hnm⟩, by simp, S4.more M7 (by rw [List.map_append]; exact o7) hc7 f7', hc7.arr P4 fun hm => ?_, fun g hg => ?_⟩
         · rcases List.mem_cons.1 hm with e | e
           · exact h12m.2 e.symm
           · exact n1t k12 (by simpa using e) rfl
         · rcases f7' g hg with e | e
           · exact n1t g e
           · have := P4.lt; omega
       · have hb0 : b0 = true := by simpa using hb
         obtain ⟨t, et, ht⟩ := hyes hb0
         exact ⟨ps1, t, et, .inl rfl, ht, S4, P4, n1t⟩
     · rintro W ⟨ps', t, rfl, hps', ht, SW, PW, ntW⟩
       have hxn := SW.mak.nx.len
       have hnl : nx1.length = (acs.length + 1) * da.K := by rw [Q.len, hal]
       have hidx : acs.length * da.K + j < nx1.length := by rw [hnl]; exact qd (Nat.lt_succ_self _) hjK
       have hxn' : xn1 = nx1.length := hxn
       refine ⟨rfl, rfl, rfl, rfl, x1, xn1, xc1, fun u hu => (SW.mak.var.below hu).load1 bi rfl rfl, ((da.K : Nat) : Int), fun u hu => by rw [hKa]; exact (SW.da.below hu).load1 aI rfl rfl, ?_⟩
       rw [iw.1]
       refine ⟨⟨⟨by omega, by omega⟩, SW.mak.nx.all.isSome hidx⟩, fun wq2 hq2 => ?_⟩
       obtain ⟨wx6, s6, nx2, Q2, hp2, S6, P6⟩ := fin ps' t a2 l2 c2 W hps' ht SW PW ntW wq2 hq2
       exact ⟨wx6, s6, da.K - (j + 1), by omega, j + 1, ps', nx2, x1, xn1, xc1, y1, yn1, yc1, by rw [ak (by omega) (by omega)]; omega, hjK, rfl, Q2, hp2, S6, P6, n1x, n1y, ntW⟩
   · have hjK : j = da.K := by omega
     subst hjK
     refine af.no (decide_eq_false (by omega)) ⟨65536 - acs'.length, by omega, ps1, nx1, acs', x1, xn1, xc1, y1, yn1, yc1, rfl, ?_, S1⟩
     rw [hal]
     exact Q.row
 · have ld := bs.load0 (cs := daL x xn xc y yn yc ⟨da.k, 0, nx, acs⟩) S.mak.var rfl
   obtain ⟨wx, q1, q2, g1⟩ := fT S.res rfl x xn xc y yn yc ⟨da.k, 0, nx, acs⟩
   have O : Ai k48 wl x xn xc y yn yc ⟨da.k, 0, nx, acs⟩ := ⟨S.mak.nx, S.mak.ac, S.mak.ne, S.fx, S.fy⟩
   have p1 := S.o1
   have p2 := S.o2
   have p3 := S.o3
   have p4 := S.o4
   have p5 := S.o5
   have p7 := S.o7
   exact ⟨rfl, rfl, _, _, x, xn, xc, y, yn, yc, ld, wx, q1, _, _, x, xn, xc, y, yn, yc, q2, pB.yes hok ⟨_, ps, PI.done rfl (by omega), x, xn, xc, y, yn, yc, rfl, (O.put g1 (by omega)).mono (by omega), Below.put S.bw g1 (by omega)⟩⟩
end Go.Proofs.YtpafoodmpjlkhaaGreatDoor
namespace Go.Proofs.YtpafoodmpjlkhaaGreatDoor
open Go.Pk
open Go.RowKit (Below)
theorem vO {w : World} {aa ba ca ea : Option Addr} {an ac bn bc cn cc en ec : Nat} {da db : DA} (hA : DaS w aa an ac ba bn bc da) (hB : DaS w ca cn cc ea en ec db) (hf : da.Ok -> db.Ok -> da.k = db.k -> Few da db) :
   Calls prog qK #[daV aa an ac ba bn bc da, daV ca cn cc ea en ec db] w (Ret (pB da db w)) := by
 apply Bt
 unfold xu
 intro k2 w2 hk2 hw2 k3 w3 hk3 hw3 k4 w4 hk4 hw4
 have b2 := (hw2 ▸ ah w _ : Below w.heap.size w w2)
 have b3 := (hw3 ▸ ah w2 _ : Below w2.heap.size w2 w3)
 have b4 := (hw4 ▸ ah w3 _ : Below w3.heap.size w3 w4)
 have A2 : am w2 k2 aj (daL aa an ac ba bn bc da) := am.new hk2 hw2
 have A3 : am w3 k3 aj (daL ca cn cc ea en ec db) := am.new hk3 hw3
 have A4 : am w4 k4 aj [.int .i64 0, .int .i64 0, .slice none 0 0, .slice none 0 0] := am.new hk4 hw4
 have B4 : Below w.heap.size w w4 := ab (ab b2 b3 b2.size) b4 (Nat.le_trans b2.size b3.size)
 have o4 : w.heap.size <= k4 := by have := b2.size; have := b3.size; omega
 have l4 := A4.lt
 refine ⟨_, _, aa, an, ac, ba, bn, bc, bs.load0 (cs := daL aa an ac ba bn bc da) ((A2.below b3).below b4) rfl, _, _, ca, cn, cc, ea, en, ec, bs.load0 (cs := daL ca cn cc ea en ec db) (A3.below b4) rfl, ?_⟩
 refine ax (Eh (hA.below B4) (hB.below B4) hf) ?_
 intro v w8 hP
 by_cases hok : mM da db = true
 · unfold pB at hP
   rw [if_pos hok] at hP
   obtain ⟨d, ps, hI, a1, n1, c1, b1, m1, e1, rfl, O, hb⟩ := hP
   obtain ⟨wx, s1, s2, g1⟩ := fT (A4.below hb) rfl a1 n1 c1 b1 m1 e1 d
   exact ⟨_, _, a1, n1, c1, b1, m1, e1, _, rfl, wx, s1, _, _, a1, n1, c1, b1, m1, e1, s2, pB.yes hok ⟨d, ps, hI, a1, n1, c1, b1, m1, e1, rfl, (O.put g1 l4).mono B4.size, Below.put (ab B4 hb B4.size) g1 o4⟩⟩
 · unfold pB at hP
   rw [if_neg hok] at hP
   obtain ⟨rfl, hb⟩ := hP
   obtain ⟨wx, s1, s2, g1⟩ := fT (A4.below hb) rfl none 0 0 none 0 0 d0
   exact ⟨_, _, none, 0, 0, none, 0, 0, _, rfl, wx, s1, _, _, none, 0, 0, none, 0, 0, s2, pB.no (by simpa using hok) ⟨rfl, Below.put (ab B4 hb B4.size) g1 o4⟩⟩
end Go.Proofs.YtpafoodmpjlkhaaGreatDoor
namespace Go.Pk
def gh (d : DA) (j t : Nat) : List (Int × Int) := ((List.range j).filter fun i => decide ((d.nx.getD i 0).toNat = t)).map fun i => (((i / d.K : Nat) : Int), ((i % d.K : Nat) : Int))
theorem xz (d : DA) (j t : Nat) : gh d (j + 1) t = gh d j t ++ (if (d.nx.getD j 0).toNat = t then [(((j / d.K : Nat) : Int), ((j % d.K : Nat) : Int))] else []) := by
 unfold gh
 rw [List.range_succ, List.filter_append, List.map_append]
 congr 1
 by_cases h : (d.nx.getD j 0).toNat = t
 · rw [if_pos h, List.filter_cons, if_pos (decide_eq_true h)]; rfl
 · rw [if_neg h, List.filter_cons, if_neg (by simpa only [dTx] using h)]; rfl
theorem yE {d : DA} (hd : d.Ok) {t : Nat} {p : Int × Int} : p ∈ gh d d.nx.length t ↔ ∃ f x : Nat, p = ((f : Int), (x : Int)) /\ f < d.n /\ x < d.K /\ d.to f x = t := by
 have hK : 0 < d.K := by have := hd.k1; show 0 < d.k.toNat; omega
 unfold gh
 rw [List.mem_map]
 constructor
 · rintro ⟨i, hi, rfl⟩
   rw [List.mem_filter, List.mem_range, dTx] at hi
   obtain ⟨h1, h2⟩ := hi
   rw [hd.lenN] at h1
   refine ⟨i / d.K, i % d.K, rfl, Nat.div_lt_of_lt_mul (by rw [Nat.mul_comm]; exact h1), Nat.mod_lt _ hK, ?_⟩
   unfold DA.to
   rw [show i / d.K * d.K + i % d.K = i from by rw [Nat.mul_comm]; exact Nat.div_add_mod i d.K]
   exact h2
 · rintro ⟨f, x, rfl, hf, hx, e⟩
   have hi : f * d.K + x < d.n * d.K := qd hf hx
   refine ⟨f * d.K + x, ?_, ?_⟩
   · rw [List.mem_filter, List.mem_range, dTx, hd.lenN]
     exact ⟨hi, e⟩
   · have e1 : (f * d.K + x) / d.K = f := by rw [Nat.mul_comm, Nat.mul_add_div hK, Nat.div_eq_of_lt hx, Nat.add_zero]
     have e2 : (f * d.K + x) % d.K = x := by rw [Nat.mul_comm, Nat.mul_add_mod]; exact Nat.mod_eq_of_lt hx
     rw [e1, e2]
structure Rnd (d : DA) (cs : List Int) (C : Int) (out : List Int) (H : Hp) : Prop where
 inv : F3 d cs C out
 hin : HIn d out H
 pend : ∀ s, s < d.n -> F5 d cs out H s
structure Mid (d : DA) (cs : List Int) (C : Int) (out : List Int) (H : Hp) (st : Nat) (c : Int) (j : Nat) : Prop where
 inv : F3 d cs C out
 hin : HIn d out H
 lt : st < d.n
 cost : oAt out st = c
 fin : c <= 68719476736 - 1048576
 pend : ∀ s, s < d.n -> s ≠ st -> F5 d cs out H s
 done : ∀ f x : Nat, ((f : Int), (x : Int)) ∈ (gh d d.nx.length st).take j -> oAt out f <= c + cAt cs x
theorem Rnd.first {d : DA} {cs : List Int} {C : Int} {out : List Int} {H : Hp} (hl : out.length = d.n) (h : ∀ s, s < d.n -> oAt out s = if d.acc s = true then 0 else INF) (hH : ∀ c s, (c, s) ∈ H ↔ c = 0 /\ s < d.n /\ d.acc s = true) : Rnd d cs C out H := by
 refine ⟨F3.first hl h, fun p hp => ?_, fun s hs hi => ?_⟩
 · obtain ⟨c, s⟩ := p
   obtain ⟨h1, h2, h3⟩ := (hH c s).1 hp
   refine ⟨h2, ?_, ?_⟩
   · show oAt out s <= c
     rw [h s h2, if_pos h3, h1]; exact Int.le_refl _
   · show c <= _
     rw [h1]; decide
 · left
   rw [h s hs] at hi ⊢
   by_cases ha : d.acc s = true
   · rw [if_pos ha]; exact (hH 0 s).2 ⟨rfl, hs, ha⟩
   · rw [if_neg ha] at hi; exact absurd rfl hi
theorem HIn.perm {d : DA} {out : List Int} {H H' : Hp} (h : HIn d out H) (hs : ∀ p ∈ H', p ∈ H) : HIn d out H' := fun p hp => h p (hs p hp)
theorem Rnd.skip {d : DA} {cs : List Int} {C : Int} {out : List Int} {H H' : Hp} {c : Int} {st : Nat} (h : Rnd d cs C out H) (hp : H.Perm ((c, st) :: H')) (hc : oAt out st < c) : Rnd d cs C out H' := by
 refine ⟨h.inv, h.hin.perm fun p hm => hp.mem_iff.2 (List.mem_cons_of_mem _ hm), fun s hs hi => ?_⟩
 rcases h.pend s hs hi with h1 | h1
 · rcases List.mem_cons.1 (hp.mem_iff.1 h1) with h2 | h2
   · obtain ⟨e1, e2⟩ := Prod.mk.inj h2
     subst e2; omega
   · exact .inl h2
 · exact .inr h1
theorem Rnd.take {d : DA} (hd : d.Ok) {cs : List Int} {C : Int} (hC : GU cs C) {out : List Int} {H H' : Hp} {c : Int} {st : Nat} (h : Rnd d cs C out H) (hp : H.Perm ((c, st) :: H')) (hc : ¬ oAt out st < c) : Mid d cs C out H' st c 0 := by
 have hm : (c, st) ∈ H := hp.mem_iff.2 List.mem_cons_self
 obtain ⟨h1, h2, h3⟩ := h.hin _ hm
 have e : oAt out st = c := by
   have h2 : oAt out st <= c := h2
   omega
 have hI := uF
 have hne : oAt out st ≠ INF := by
   have h3 : c <= 68719476736 := h3
   omega
 refine ⟨h.inv, h.hin.perm fun p hm => hp.mem_iff.2 (List.mem_cons_of_mem _ hm), h1, e, ?_, fun s hs hst hi => ?_, fun f x hx => by simp at hx⟩
 · rw [<- e]; exact (h.inv.bnd st h1 hne).le hd (by have := hC.lo; omega) hC.hi h1
 · rcases h.pend s hs hi with h4 | h4
   · rcases List.mem_cons.1 (hp.mem_iff.1 h4) with h5 | h5
     · exact absurd (Prod.mk.inj h5).2 hst
     · exact .inl h5
   · exact .inr h4
theorem yL {α : Type} {l : List α} {j : Nat} {x : α} (h : l[j]? = some x) : l.take (j + 1) = l.take j ++ [x] := by
 obtain ⟨h1, h2⟩ := List.getElem?_eq_some_iff.1 h
 rw [List.take_succ_eq_append_getElem h1, h2]
theorem Mid.no {d : DA} {cs : List Int} {C : Int} {out : List Int} {H : Hp} {st : Nat} {c : Int} {j f x : Nat} (h : Mid d cs C out H st c j) (hj : (gh d d.nx.length st)[j]? = some ((f : Int), (x : Int))) (hn : ¬ c + cAt cs x < oAt out f) : Mid d cs C out H st c (j + 1) :=
 ⟨h.inv, h.hin, h.lt, h.cost, h.fin, h.pend, fun g y hg => by
   rw [yL hj] at hg
   rcases List.mem_append.1 hg with hg | hg
   · exact h.done g y hg
   · rw [List.mem_singleton] at hg
     obtain ⟨e1, e2⟩ := Prod.mk.inj hg
     have e1 : g = f := by omega
     have e2 : y = x := by omega
     subst e1 e2; omega⟩
theorem Mid.yes {d : DA} (hd : d.Ok) {cs : List Int} {C : Int} {out : List Int} (hc : qU cs) (hC : GU cs C) (hk : cs.length = d.K) {H H' : Hp} {st : Nat} {c : Int} {j f x : Nat} (h : Mid d cs C out H st c j) (hj : (gh d d.nx.length st)[j]? = some ((f : Int), (x : Int)))
   (hf : f < d.n) (hx : x < d.K) (ht : d.to f x = st) (hy : c + cAt cs x < oAt out f) (hH : ∀ p, p ∈ H' ↔ p = (c + cAt cs x, f) \/ p ∈ H) : Mid d cs C (out.set f (c + cAt cs x)) H' st c (j + 1) := by
 have hcx := hc.at (x := x) (by omega)
 have hI := uF
 have hfin := h.fin
 have hst := h.cost
 have hne : f ≠ st := fun e => by subst e; omega
 have hfl : f < out.length := by rw [h.inv.len]; exact hf
 have hi : oAt out st ≠ INF := by omega
 have hinv := h.inv.down hd hc hC hk hf hx ht hi (v := c + cAt cs x) (by omega) hy
 refine ⟨hinv, (HIn.down hfl hf hy (by omega) h.hin).perm fun p hp => ?_, h.lt, by rw [cM hne]; exact hst, hfin, fun s hs hss hsi => ?_, fun g y hg => ?_⟩
 · rcases (hH p).1 hp with rfl | hp
   · exact List.mem_cons_self
   · exact List.mem_cons_of_mem _ hp
 · by_cases e : f = s
   · subst e
     left
     rw [dF hfl]
     exact (hH _).2 (.inl rfl)
   · exact (F5.down hfl hy e ((h.pend s hs hss).sub fun p hp => (hH p).2 (.inr hp))) hsi
 · have hle : oAt (out.set f (c + cAt cs x)) g <= oAt out g := by
     by_cases e : f = g
     · subst e; rw [dF hfl]; omega
     · rw [cM e]; exact Int.le_refl _
   rw [yL hj] at hg
   rcases List.mem_append.1 hg with hg | hg
   · have := h.done g y hg; omega
   · rw [List.mem_singleton] at hg
     obtain ⟨e1, e2⟩ := Prod.mk.inj hg
     have e1 : g = f := by omega
     have e2 : y = x := by omega
     subst e1 e2
     rw [dF hfl]
     exact Int.le_refl _
theorem Mid.over {d : DA} (hd : d.Ok) {cs : List Int} {C : Int} {out : List Int} {H : Hp} {st : Nat} {c : Int} {j : Nat} (h : Mid d cs C out H st c j) (hj : (gh d d.nx.length st).length <= j) : Rnd d cs C out H := by
 refine ⟨h.inv, h.hin, fun s hs => ?_⟩
 by_cases e : s = st
 · subst e
   intro _
   right
   intro f x hf hx ht
   have := h.done f x (by rw [List.take_of_length_le hj]; exact (yE hd).2 ⟨f, x, rfl, hf, hx, ht⟩)
   rw [h.cost]; exact this
 · exact h.pend s hs e
theorem Rnd.left {d : DA} (hd : d.Ok) {cs : List Int} {C : Int} {out : List Int} (hc : qU cs) (hC : GU cs C) (hk : cs.length = d.K) (h : Rnd d cs C out []) : rb d cs out := h.inv.done hd hc hC hk h.pend
end Go.Pk
namespace Go.Pk
open Go.RowKit (Below)
def Jy : Ty (List Pi) where
 k := 1
 pos := by decide
 rep := fun w A vs xs => ∃ a n c, vs = [.slice a n c] /\ Sl tP w A a n c xs
 len := fun h => by obtain ⟨a, n, c, e, _⟩ := h; rw [e]; rfl
 one := fun {_ _ _ x} h v hv => by obtain ⟨a, n, c, e, _⟩ := h; rw [e] at hv; simp at hv; subst hv; rfl
 keep := fun h hk => by obtain ⟨a, n, c, e, hs⟩ := h; exact ⟨a, n, c, e, hs.keep hk⟩
 mono := fun h hA => by obtain ⟨a, n, c, e, hs⟩ := h; exact ⟨a, n, c, e, hs.mono hA⟩
structure Hd where
 a : Option Addr
 n : Nat
 c : Nat
 xs : List Pi
def Hd.v (h : Hd) : Value := .slice h.a h.n h.c
theorem IL {α : Type} {l : List α} {t : Nat} (x v : α) (ht : t < l.length) : l.take t ++ [v] ++ l.drop (t + 1) = l.set t v := by
 rw [List.set_eq_take_append_cons_drop, if_pos ht, List.append_assoc]; rfl
theorem r5 {α : Type} {l : List α} {t i : Nat} {v y : α} (h : (l.set t v)[i]? = some y) : i = t /\ y = v \/ i ≠ t /\ l[i]? = some y := by
 by_cases e : i = t
 · subst e
   left
   have hl : i < l.length := by have := (List.getElem?_eq_some_iff.1 h).1; simpa using this
   rw [List.getElem?_set_self hl] at h
   exact ⟨rfl, (Option.some.inj h).symm⟩
 · rw [List.getElem?_set_ne (fun e2 => e e2.symm)] at h
   exact .inr ⟨e, h⟩
structure EB (to_ ti : TypeId) (B : Nat) (w : World) (g : Nat) (hs : List Hd) : Prop where
 row : am w g to_ (hs.map Hd.v)
 own : ∀ h ∈ hs, Ow tP ti w NoB h.a h.n h.c h.xs
 new : ∀ h ∈ hs, bD B h.a
 low : B <= g
 out : ∀ h ∈ hs, bE h.a ≠ some g
 apart : ∀ (i j : Nat) (x y : Hd), hs[i]? = some x -> hs[j]? = some y -> i ≠ j -> ∀ b, bE x.a = some b -> bE y.a ≠ some b
theorem EB.below {to_ ti : TypeId} {B : Nat} {w w' : World} {g : Nat} {hs : List Hd} (h : EB to_ ti B w g hs) (hb : Below w.heap.size w w') : EB to_ ti B w' g hs :=
 ⟨h.row.below hb, fun x hx => (h.own x hx).below hb, h.new, h.low, h.out, h.apart⟩
end Go.Pk
namespace Go.Proofs.YtpafoodmpjlkhaaGreatDoor
open Go.Pk
open Go.RowKit (Below)
theorem G9 : Whl prog ep 2 := ⟨⟨_, _, uJ⟩, by kernel_rfl⟩
def GW (d : DA) (j : Nat) (hs : List Hd) : Prop := hs.length = d.n /\ ∀ t x, hs[t]? = some x -> x.xs = gh d j t
theorem z8 {w : World} {a b : Option Addr} {n c m e : Nat} {d : DA} (h : DaS w a n c b m e d) (hd : d.Ok) :
   Calls prog pR #[daV a n c b m e d] w (Ret fun v w' => ∃ (a' : Option Addr) (n' c' : Nat), v = .slice a' n' c' /\ Sl Jy w' (fun g => w.heap.size <= g) a' n' c' ((List.range d.n).map (gh d d.nx.length)) /\ Below w.heap.size w w') := by
 apply xZ
 unfold tu
 intro k1 w1 hk1 hw1
 have b1 := (hw1 ▸ ah w _ : Below w.heap.size w w1)
 have A1 : am w1 k1 aj ([.int .i64 d.k, .int .i64 d.st, .slice a n c, .slice b m e]) := am.new hk1 hw1
 have hm := h.ac.len
 have hn := h.nx.len
 have hN := hd.n2
 have hN1 := hd.n1
 have hlen := hd.lenN
 have hKK := hd.kk
 have hK2 := hd.k2
 have hK1 := hd.k1
 have hmul : d.n * d.K <= 65536 * 512 := Nat.mul_le_mul hN (by show d.k.toNat <= 512; omega)
 refine ⟨rfl, b, m, e, A1.load1 bg rfl rfl, ?_⟩
 obtain ⟨ti, hti, hsz, hbt, hzz⟩ := qu.info
 have hr := run_make_row (P := prog) jU bv ti (.slice none 0 0) sU hti hzz hsz rfl .i64 .i64 m (by rw [hbt]; omega) (by omega) w1
 rw [zI] at hr
 obtain ⟨w9, hw9⟩ : ∃ w9, w9 = w1.alloc (.cells (List.replicate m (Value.slice none 0 0)).toArray bv) := ⟨_, rfl⟩
 obtain ⟨g, hg⟩ : ∃ g, g = w1.heap.size := ⟨_, rfl⟩
 rw [<- hw9, <- hg] at hr
 have b9 : Below w1.heap.size w1 w9 := hw9 ▸ ah w1 _
 have kg : k1 < g := by have := A1.lt; omega
 have R0 : EB bv ep w.heap.size w9 g (List.replicate m ⟨none, 0, 0, []⟩) := by
   refine ⟨?_, fun x hx => ?_, fun x hx => ?_, by omega, fun x hx => ?_, fun i j x y hx hy hij bb hb => ?_⟩
   · rw [List.map_replicate]; exact am.new hg hw9
   · rw [(List.mem_replicate.1 hx).2]; exact Ow.nil _ _ _ _
   · rw [(List.mem_replicate.1 hx).2]; exact bD.none _
   · rw [(List.mem_replicate.1 hx).2]; intro h; cases h
   · have := List.mem_of_getElem? hx
     rw [(List.mem_replicate.1 this).2] at hb; cases hb
 have W0 : GW d 0 (List.replicate m ⟨none, 0, 0, []⟩) := ⟨by rw [List.length_replicate]; exact hm, fun t x hx => by
   have := List.mem_of_getElem? hx
   rw [(List.mem_replicate.1 this).2]; rfl⟩
 refine ⟨w9, some ⟨g, 0, none⟩, m, m, hr, rfl, a, n, c, (A1.below b9).load1 bi rfl rfl, ?_⟩
 have B9 := ab b1 b9 b1.size
 refine ⟨fun mm i wl => ∃ (j : Nat) (hs : List Hd), i = (j : Int) /\ j <= d.nx.length /\ mm = d.nx.length - j /\ EB bv ep w.heap.size wl g hs /\ GW d j hs /\ am wl k1 aj ([.int .i64 d.k, .int .i64 d.st, .slice a n c, .slice b m e]) /\ (∀ x ∈ hs, bE x.a ≠ some k1) /\ Below w.heap.size w wl,
   ⟨_, 0, _, rfl, Nat.zero_le _, rfl, R0, W0, A1.below b9, fun x hx => (by rw [(List.mem_replicate.1 hx).2]; intro h; cases h), B9⟩, ?_⟩
 intro mm i
 refine aE.of ?_ _
 rintro wl ⟨j, hs, rfl, hj, rfl, R, W, A, hk1, Bl⟩
 have hx := (h.below Bl).nx
 refine af.of (fun h5 => ?_) (fun h5 => ?_) <;> simp only [dTx, dFx] at h5
 · have hlt : j < d.nx.length := by omega
   have hv := hd.nx0 _ (List.getElem_mem hlt)
   obtain ⟨t, ht⟩ : ∃ t : Nat, d.nx[j] = (t : Int) := ⟨d.nx[j].toNat, by omega⟩
   have htn : t < d.n := by show t < d.ac.length; omega
   obtain ⟨x, hxt⟩ : ∃ x, hs[t]? = some x := ⟨_, List.getElem?_eq_getElem (by rw [W.1]; exact htn)⟩
   have hxm := List.mem_of_getElem? hxt
   have hmap : (hs.map Hd.v)[t]? = some x.v := by rw [List.getElem?_map, hxt]; rfl
   have htm : t < m := by rw [hm]; exact htn
   have eaddr : ao (some ⟨g, 0, none⟩) ((t : Nat) : Int) 1 = some ⟨g, t, none⟩ := by rw [dH, Nat.zero_add]
   refine ⟨⟨⟨by omega, h5⟩, hx.isSome hlt⟩, _, hx.num aI hlt, ?_⟩
   rw [ht, eaddr]
   have hxs := W.2 t x hxt
   have hwl : x.xs.length <= d.nx.length := by
     rw [hxs]
     unfold gh
     rw [List.length_map]
     have := List.length_filter_le (fun i => decide ((d.nx.getD i 0).toNat = t)) (List.range j)
     rw [List.length_range] at this
     omega
   refine ⟨⟨⟨by omega, by omega⟩, rfl⟩, rfl, rfl, x.a, x.n, x.c, fun u hu => (R.row.below hu).load1 my rfl hmap, d.k, fun u hu => (A.below hu).load1 aI rfl rfl, by omega, fun q27 hq27 => ?_⟩
   refine ⟨d.k, fun u hu => (A.below hu).load1 aI rfl rfl, by omega, fun q31 hq31 k33 hk33 wq hq hcell => ?_⟩
   have e27 : q27 = ((j / d.K : Nat) : Int) := by
     rw [hq27, <- hKK]
     show i64.wrap (((j / d.K : Nat) : Int)) = _
     have h0 : j / d.K <= j := Nat.div_le_self _ _
     revert h0
     generalize j / d.K = q
     intro h0
     exact ak (by omega) (by omega)
   have e31 : q31 = ((j % d.K : Nat) : Int) := by rw [hq31, <- hKK]; rfl
   have Rq := R.below hq
   have hsrc : Src tP wq NoB (some ⟨k33, 0, none⟩) 1 [(q27, q31)] := Src.at1 tO (vs := prC (q27, q31)) hcell rfl
   obtain ⟨w34, a34, n34, c34, r34, o34, g34, f34⟩ := cJ (ty := bv) my uJ (by decide) (Rq.own x hxm) (fun _ _ h => h) (cm := 1) hsrc (by simp; omega)
   have row34 := Rq.row.grown g34 fun ex => Rq.out x hxm ex.symm
   obtain ⟨wx, sx, rowx, gx⟩ := row34.store qu (i := t) (v := .slice a34 n34 c34) rfl (by rw [List.length_map, W.1]; omega) (by intro c hc; simp [Value.cells] at hc; subst hc; rfl)
   refine ⟨w34, a34, n34, c34, r34, ⟨⟨by omega, by omega⟩, rfl⟩, wx, sx, d.nx.length - (j + 1), by omega, j + 1, hs.set t ⟨a34, n34, c34, x.xs ++ [(q27, q31)]⟩, by rw [ak (by omega) (by omega)]; omega, hlt, rfl, ?_, ?_, ?_, ?_, ?_⟩
   · have hxm' := R.new x hxm
     have fresh34 : ∀ b, bE a34 = some b -> bE x.a = some b \/ wl.heap.size <= b := fun b hb => by
       rcases f34 b hb with e | e
       · exact .inl e
       · have := hq.size; exact .inr (by omega)
     have glt : g < wl.heap.size := R.row.lt
     have ne34 : ∀ b, bE a34 = some b -> b ≠ g := fun b hb e => by
       rcases fresh34 b hb with e2 | e2
       · exact R.out x hxm (by rw [e2, e])
       · omega
     refine ⟨?_, fun y hy => ?_, fun y hy => ?_, R.low, fun y hy => ?_, fun i2 j2 y z hy hz hij bb hb => ?_⟩
     · have e : (hs.set t ⟨a34, n34, c34, x.xs ++ [(q27, q31)]⟩).map Hd.v = (hs.map Hd.v).take t ++ [Value.slice a34 n34 c34] ++ (hs.map Hd.v).drop (t + 1) := by
         rw [IL (Value.slice a34 n34 c34) _ (by rw [List.length_map, W.1]; exact htn), List.map_set]; rfl
       rw [e]; exact rowx
     · obtain ⟨i2, hi2⟩ := List.mem_iff_getElem?.1 hy
       rcases r5 hi2 with ⟨_, rfl⟩ | ⟨hne, hi3⟩
       · exact o34.put (fun b hb e => ne34 b hb e) gx
       · have hym := List.mem_of_getElem? hi3
         refine ((Rq.own y hym).other g34 fun b hb => R.apart i2 t y x hi3 hxt hne b hb).put (fun b hb e => R.out y hym (by rw [hb, e])) gx
     · obtain ⟨i2, hi2⟩ := List.mem_iff_getElem?.1 hy
       rcases r5 hi2 with ⟨_, rfl⟩ | ⟨hne, hi3⟩
       · intro b hb
         rcases fresh34 b hb with e | e
         · exact hxm' b e
         · have := Bl.size; omega
       · exact R.new y (List.mem_of_getElem? hi3)
     · obtain ⟨i2, hi2⟩ := List.mem_iff_getElem?.1 hy
       rcases r5 hi2 with ⟨_, rfl⟩ | ⟨hne, hi3⟩
       · intro hb; exact ne34 g hb rfl
       · exact R.out y (List.mem_of_getElem? hi3)
     · rcases r5 hy with ⟨e1, rfl⟩ | ⟨hne, hy3⟩ <;> rcases r5 hz with ⟨e2, rfl⟩ | ⟨hne2, hz3⟩
       · omega
       · intro hb2
         rcases fresh34 bb hb with e | e
         · exact R.apart j2 t z x hz3 hxt hne2 bb hb2 e
         · have := (R.own z (List.mem_of_getElem? hz3)).lt bb hb2; omega
       · intro hb2
         rcases fresh34 bb hb2 with e | e
         · exact R.apart i2 t y x hy3 hxt hne bb hb e
         · have := (R.own y (List.mem_of_getElem? hy3)).lt bb hb; omega
       · exact R.apart i2 j2 y z hy3 hz3 hij bb hb
   · refine ⟨by rw [List.length_set]; exact W.1, fun t2 y hy => ?_⟩
     have hgj : (d.nx.getD j 0).toNat = t := by
       rw [List.getD_eq_getElem?_getD, List.getElem?_eq_getElem hlt]
       show d.nx[j].toNat = t
       rw [ht]; exact Int.toNat_natCast t
     rcases r5 hy with ⟨rfl, rfl⟩ | ⟨hne, hy3⟩
     · show x.xs ++ [(q27, q31)] = _
       rw [xz, if_pos hgj, hxs, e27, e31]
     · rw [xz, if_neg (fun e => hne (by rw [<- e, hgj])), List.append_nil]
       exact W.2 t2 y hy3
   · exact ((A.below hq).grown g34 (fun e => hk1 x hxm e.symm)).grown gx (gt (by omega))
   · intro y hy
     obtain ⟨i2, hi2⟩ := List.mem_iff_getElem?.1 hy
     rcases r5 hi2 with ⟨_, rfl⟩ | ⟨hne, hi3⟩
     · intro hb
       rcases f34 k1 hb with e | e
       · exact hk1 x hxm e
       · have := A.lt; have := hq.size; omega
     · exact hk1 y (List.mem_of_getElem? hi3)
   · have B1 := ab Bl hq Bl.size
     have B2 : Below w.heap.size w w34 := B1.trans ((Chg.row g34).below B1.size fun k hk => R.new x hxm k (by simpa using hk))
     exact Below.put B2 gx R.low
 · have : j = d.nx.length := by omega
   subst this
   have hsl : hs.length = d.n := W.1
   refine ⟨_, m, m, rfl, ⟨by rw [List.length_map, List.length_range]; exact hm, Nat.le_refl _, by show m <= 9223372036854775807; omega, .inr ⟨g, 0, rfl, R.row.lt, R.low, hs.map Hd.v, ⟨?_, fun i hi => ?_⟩, fun i hi => ?_⟩⟩, Bl⟩
   · rw [List.length_map, List.length_map, List.length_range]
     show hs.length = d.n * 1
     omega
   · have hi' : i < hs.length := by rw [List.length_map, List.length_range] at hi; omega
     have hxi := R.own hs[i] (List.getElem_mem hi')
     have ex : hs[i].xs = gh d d.nx.length i := W.2 i hs[i] (List.getElem?_eq_getElem hi')
     refine ⟨hs[i].a, hs[i].n, hs[i].c, ?_, ?_⟩
     · show ((hs.map Hd.v).drop (i * 1)).take 1 = _
       rw [Nat.mul_one, List.drop_eq_getElem_cons (by rw [List.length_map]; exact hi'), List.take_succ_cons, List.take_zero, List.getElem_map]
       rfl
     · rw [List.getElem_map, List.getElem_range, <- ex]
       exact hxi.sl (fun b _ hb => hb.elim) fun b hb => R.new hs[i] (List.getElem_mem hi') b hb
   · rw [Nat.zero_add]; exact R.row.cell i
end Go.Proofs.YtpafoodmpjlkhaaGreatDoor
namespace Go.Pk
open Go.RowKit (Below)
def pG (p : Int × Nat) : Pi := (p.1, ((p.2 : Nat) : Int))
structure F4 (ta ts te ti : TypeId) (w0 : World) (vals : List Value) (k2 k6 s1 s2 : Nat) (oa : Option Addr) (on oc : Nat) (out : List Int) (ha : Option Addr) (hn hc : Nat) (H : Hp) (wa : Option Addr) (wn wc : Nat) (ways : List (List Pi)) (w : World) : Prop where
 dcp : am w k2 ta vals
 out : Ow i7 ti w NoB oa on oc out
 hp : yi ts te w k6 ha hn hc (H.map pG)
 way : Sl Jy w (fun g => s1 <= g /\ g < s2) wa wn wc ways
 o1 : ∀ g, bE oa = some g -> k2 < g /\ g < k6
 o2 : k6 < s1
 o3 : s1 <= s2
 o4 : s2 <= w.heap.size
 o5 : ∀ g, bE ha = some g -> k6 < g /\ (g < s1 \/ s2 <= g)
 o6 : w0.heap.size <= k2
 o7 : k2 < k6
 bw : Below w0.heap.size w0 w
section
variable {ta ts te ti : TypeId} {w0 w w' : World} {vals : List Value} {k2 k6 s1 s2 : Nat} {oa ha wa : Option Addr} {on oc hn hc wn wc : Nat} {out : List Int} {H : Hp} {ways : List (List Pi)}
theorem F4.below (h : F4 ta ts te ti w0 vals k2 k6 s1 s2 oa on oc out ha hn hc H wa wn wc ways w) (hb : Below w.heap.size w w') : F4 ta ts te ti w0 vals k2 k6 s1 s2 oa on oc out ha hn hc H wa wn wc ways w' :=
 { h with
   dcp := h.dcp.below hb
   out := h.out.below hb
   hp := h.hp.below hb
   way := h.way.below hb
   o4 := Nat.le_trans h.o4 hb.size
   bw := ab h.bw hb h.bw.size }
theorem F4.bag (h : F4 ta ts te ti w0 vals k2 k6 s1 s2 oa on oc out ha hn hc H wa wn wc ways w) {ha' : Option Addr} {hn' hc' : Nat} {H' : Hp} (hp' : yi ts te w' k6 ha' hn' hc' (H'.map pG)) (hch : Chg (k6 :: (bE ha).toList) w w')
   (hf : ∀ g, bE ha' = some g -> bE ha = some g \/ w.heap.size <= g) : F4 ta ts te ti w0 vals k2 k6 s1 s2 oa on oc out ha' hn' hc' H' wa wn wc ways w' := by
 have mem : ∀ k : Nat, k ∈ k6 :: (bE ha).toList -> k = k6 \/ bE ha = some k := fun k hk => by
   rcases List.mem_cons.1 hk with e | e
   · exact .inl e
   · exact .inr (by simpa using e)
 have p2 := h.o2
 have p3 := h.o3
 have p4 := h.o4
 have p6 := h.o6
 have p7 := h.o7
 have hsz := hch.size
 exact
   { dcp := hch.arr h.dcp fun hm => by
       rcases mem _ hm with e | e
       · omega
       · have := h.o5 _ e; omega
     out := h.out.keep (hch.keep.mono fun b hb => by
       rcases hb with hb | hb
       · exact hb.elim
       · have := h.o1 b hb.symm
         intro hm
         rcases mem _ hm with e | e
         · omega
         · have := h.o5 _ e; omega)
     hp := hp'
     way := h.way.keep (hch.keep.mono fun b hb hm => by
       rcases mem _ hm with e | e
       · omega
       · have := h.o5 _ e; omega)
     o1 := h.o1, o2 := p2, o3 := p3, o4 := by omega
     o5 := fun g hg => by
       rcases hf g hg with e | e
       · exact h.o5 g e
       · omega
     o6 := p6, o7 := p7
     bw := h.bw.trans (hch.below h.bw.size fun k hk => by
       rcases mem _ hk with e | e
       · omega
       · have := h.o5 _ e; omega) }
theorem F4.put (h : F4 ta ts te ti w0 vals k2 k6 s1 s2 oa on oc out ha hn hc H wa wn wc ways w) {out' : List Int} (ho : Ow i7 ti w' NoB oa on oc out') (hg : w.grownBy w' (bE oa)) : F4 ta ts te ti w0 vals k2 k6 s1 s2 oa on oc out' ha hn hc H wa wn wc ways w' := by
 have hch := Chg.row hg
 have mem : ∀ k : Nat, k ∈ (bE oa).toList -> k2 < k /\ k < k6 := fun k hk => h.o1 k (by simpa using hk)
 have p2 := h.o2
 have p3 := h.o3
 have p4 := h.o4
 have p6 := h.o6
 have p7 := h.o7
 have hsz := hch.size
 exact
   { dcp := hch.arr h.dcp fun hm => by have := mem _ hm; omega
     out := ho
     hp := ⟨hch.arr h.hp.var fun hm => (by have := mem _ hm; omega), h.hp.row.keep (hch.keep.mono fun b hb hm => by
       have := mem _ hm
       rcases hb with hb | hb
       · exact hb.elim
       · have := h.o5 b hb.symm; omega), h.hp.ne⟩
     way := h.way.keep (hch.keep.mono fun b hb hm => by have := mem _ hm; omega)
     o1 := h.o1, o2 := p2, o3 := p3, o4 := by omega
     o5 := h.o5, o6 := p6, o7 := p7
     bw := h.bw.trans (hch.below h.bw.size fun k hk => by have := mem _ hk; omega) }
end
end Go.Pk
namespace Go.Proofs.YtpafoodmpjlkhaaGreatDoor
open Go.Pk
open Go.RowKit (Below)
abbrev Lf := F4 aj aK aH az
theorem Cz {out : List Int} {s : Nat} (h : s < out.length) : out[s] = oAt out s := by
 unfold oAt
 rw [List.getD_eq_getElem?_getD, List.getElem?_eq_getElem h]; rfl
theorem EP {cs : List Int} {s : Nat} (h : s < cs.length) : cs[s] = cAt cs s := by
 unfold cAt
 rw [List.getD_eq_getElem?_getD, List.getElem?_eq_getElem h]; rfl
end Go.Proofs.YtpafoodmpjlkhaaGreatDoor
namespace Go.Pk
open Go.RowKit (Below)
def unC (p : Pi) : Int × Nat := (p.1, p.2.toNat)
theorem DB (p : Int × Nat) : unC (pG p) = p := by
 obtain ⟨a, b⟩ := p
 unfold unC pG
 simp
theorem wM {xs : List Pi} {H : Hp} (h : xs.Perm (H.map pG)) : ∃ H' : Hp, H'.map pG = xs /\ H'.Perm H := by
 refine ⟨xs.map unC, ?_, ?_⟩
 · rw [List.map_map]
   conv => rhs; rw [<- List.map_id xs]
   refine List.map_congr_left fun x hx => ?_
   obtain ⟨q, _, rfl⟩ := List.mem_map.1 (h.mem_iff.1 hx)
   show pG (unC (pG q)) = pG q
   rw [DB]
 · have := h.map unC
   rw [List.map_map] at this
   have e : H.map (unC ∘ pG) = H := by
     conv => rhs; rw [<- List.map_id H]
     exact List.map_congr_left fun x _ => DB x
   rwa [e] at this
theorem GI {p : Pi} {ys : List Pi} {H : Hp} (h : (H.map pG).Perm (p :: ys)) : ∃ (q : Int × Nat) (Y : Hp), p = pG q /\ ys = Y.map pG /\ H.Perm (q :: Y) := by
 obtain ⟨L, e, hL⟩ := wM h.symm
 cases L with
 | nil => simp at e
 | cons q Y =>
   simp only [List.map_cons, List.cons.injEq] at e
   exact ⟨q, Y, e.1.symm, e.2.symm, hL.symm⟩
end Go.Pk
namespace Go.Proofs.YtpafoodmpjlkhaaGreatDoor
open Go.Pk
open Go.RowKit (Below)
def F9 (d : DA) (cs : List Int) (w : World) (v : Value) (w' : World) : Prop := ∃ (oa : Option Addr) (on oc : Nat) (out : List Int), v = .slice oa on oc /\ Ow i7 az w' NoB oa on oc out /\ rb d cs out /\ bD w.heap.size oa /\ Below w.heap.size w w'
theorem Ab {w : World} {a b a1 : Option Addr} {n c m e l1 c1 : Nat} {d : DA} {cs : List Int} (h : DaS w a n c b m e d) (hd : d.Ok) (hs : Sl i7 w gT a1 l1 c1 cs) (hc : qU cs) {C : Int} (hC : GU cs C) (hk : cs.length = d.K) {M : Nat}
   (hM : ((d.n - 1 : Nat) : Int) * C <= (M : Int)) (hM2 : d.n * (M + 3) <= 900000000000) :
   Calls prog pT #[daV a n c b m e d, .slice a1 l1 c1] w (Ret (F9 d cs w)) := by
 apply yb
 unfold tA
 have hm := h.ac.len
 have hl1 := hs.len
 have hN2 : d.n <= 65536 := hd.n2
 have hN1 : 1 <= d.n := hd.n1
 have hmn : m = d.n := hm
 subst hmn
 intro k2 w2 hk2 hw2 k14 w14 hk14 hw14
 have b2 := (hw2 ▸ ah w _ : Below w.heap.size w w2)
 have b14 := (hw14 ▸ ah w2 _ : Below w2.heap.size w2 w14)
 have A2 : am w2 k2 aj [.int .i64 d.k, .int .i64 d.st, .slice a n c, .slice b d.n e] := am.new hk2 hw2
 have A14 : am w14 k14 az [.int .i64 INF] := am.new hk14 hw14
 refine ⟨rfl, b, d.n, e, (A2.below b14).load1 bg rfl rfl, ?_⟩
 have hsl : Sl i7 w14 gT (some ⟨k14, 0, none⟩) 1 1 [INF] := by
   refine ⟨rfl, Nat.le_refl _, by decide, .inr ⟨k14, 0, rfl, A14.lt, trivial, [.int .i64 INF], gw.one iY, fun j hj => ?_⟩⟩
   rw [Nat.zero_add]; exact A14.cell j
 refine ax (wO hsl (k := d.n) hN1 (by omega)) ?_
 rintro _ w18 ⟨oa, rfl, O18, f18, b18⟩
 refine ⟨oa, d.n, d.n, rfl, ?_⟩
 intro k6 w6 hk6 hw6
 have b6 := (hw6 ▸ ah w18 _ : Below w18.heap.size w18 w6)
 have A6 : am w6 k6 aK [.slice none 0 0] := am.new hk6 hw6
 have l2 := A2.lt
 have s14 := b14.size
 have B6 : Below w2.heap.size w2 w6 := ab (ab b14 b18 b14.size) b6 (Nat.le_trans b14.size b18.size)
 have S0 : Lf w [.int .i64 d.k, .int .i64 d.st, .slice a n c, .slice b d.n e] k2 k6 (k6 + 1) (k6 + 1) oa d.n d.n (List.replicate d.n INF) none 0 0 [] none 0 0 [] w6 :=
   { dcp := A2.below B6
     out := O18.below b6
     hp := ⟨A6, Ow.nil _ _ _ _, fun g hg => by cases hg⟩
     way := Sl.nil _ _ _ _ _ (Nat.zero_le _)
     o1 := fun g hg => by have := f18 g hg; have := O18.lt g hg; omega
     o2 := by omega
     o3 := Nat.le_refl _
     o4 := A6.lt
     o5 := fun g hg => by cases hg
     o6 := by omega
     o7 := by have := b18.size; omega
     bw := ab b2 B6 b2.size }
 refine ⟨rfl, b, d.n, e, S0.dcp.load1 bg rfl rfl, ?_⟩
 clear A2 A14 hsl O18 A6 b6 b18 b14 B6 hw2 hw14 hw6
 refine ⟨fun mm n22 wl => ∃ (i : Nat) (out : List Int) (ha : Option Addr) (hn hc' : Nat) (H : Hp), n22 = (i : Int) /\ i <= d.n /\ mm = d.n - i /\ Lf w [.int .i64 d.k, .int .i64 d.st, .slice a n c, .slice b d.n e] k2 k6 (k6 + 1) (k6 + 1) oa d.n d.n out ha hn hc' H none 0 0 [] wl /\
   out.length = d.n /\ (∀ s, s < d.n -> oAt out s = if s < i /\ d.acc s = true then 0 else INF) /\ (∀ cc s, (cc, s) ∈ H ↔ cc = 0 /\ s < i /\ d.acc s = true) /\ H.length <= i,
   ⟨_, 0, _, none, 0, 0, [], rfl, Nat.zero_le _, rfl, S0, by simp, fun s hs => ?_, fun cc s => ?_, Nat.le_refl _⟩, ?_⟩
 · rw [if_neg (fun h => Nat.not_lt_zero _ h.1)]
   simp [oAt, hs]
 · simp
 clear S0
 intro mm n22
 refine aE.of ?_ _
 rintro wl ⟨i, out, ha, hn, hc', H, rfl, hi, rfl, S, hol, hout, hH, hHl⟩
 have hac := (h.below S.bw).ac
 refine af.of (fun h5 => ?_) (fun h5 => ?_) <;> simp only [dTx, dFx] at h5
 · have hlt : i < d.n := by omega
   have hlt' : i < d.ac.length := hlt
   refine ⟨⟨⟨by omega, h5⟩, hac.isSome hlt'⟩, _, hac.tru qw hlt', ?_⟩
   have eacc : d.ac[i] = d.acc i := by
     unfold DA.acc
     rw [List.getD_eq_getElem?_getD, List.getElem?_eq_getElem hlt']; rfl
   rw [eacc]
   refine af.of (fun hb => ?_) (fun hb => ?_)
   · have hio : i < out.length := by omega
     obtain ⟨wx, sx, ox, gx⟩ := S.out.store jA (fun _ _ h => h) (i := (i : Int)) (by rw [Int.toNat_natCast]; exact hio) (k := 1) rfl (v := .int .i64 0) (x := 0) iY
     rw [Int.toNat_natCast] at ox
     have S2 := S.put ox gx
     refine ⟨⟨⟨by omega, h5⟩, S.out.all.isSome hio⟩, wx, sx, ?_⟩
     refine ax (uC S2.hp (by rw [List.length_map]; omega) ((0 : Int), ((i : Nat) : Int))) ?_
     rintro _ w35 ⟨rfl, ha2, hn2, hc2, xs', hp, H2, hch, hf⟩
     obtain ⟨H', eH, hperm⟩ := wM (H := (0, i) :: H) (show xs'.Perm (((0, i) :: H).map pG) from hp)
     have S3 := S2.bag (H' := H') (by rw [eH]; exact H2) hch hf
     refine ⟨rfl, d.n - (i + 1), by omega, i + 1, _, ha2, hn2, hc2, H', by rw [ak (by omega) (by omega)]; omega, hlt, rfl, S3, by rw [List.length_set]; exact hol, fun s hs => ?_, fun cc s => ?_, ?_⟩
     · by_cases e1 : i = s
       · subst e1
         rw [dF hio, if_pos ⟨by omega, hb⟩]
       · rw [cM e1, hout s hs]
         by_cases e2 : s < i /\ d.acc s = true
         · rw [if_pos e2, if_pos ⟨by omega, e2.2⟩]
         · rw [if_neg e2, if_neg (fun h => e2 ⟨by omega, h.2⟩)]
     · rw [hperm.mem_iff, List.mem_cons, hH]
       constructor
       · rintro (e1 | ⟨e1, e2, e3⟩)
         · obtain ⟨rfl, rfl⟩ := Prod.mk.inj e1
           exact ⟨rfl, by omega, hb⟩
         · exact ⟨e1, by omega, e3⟩
       · rintro ⟨rfl, e2, e3⟩
         by_cases e4 : s = i
         · exact .inl (by rw [e4])
         · exact .inr ⟨rfl, by omega, e3⟩
     · rw [hperm.length_eq, List.length_cons]; omega
   · refine ⟨d.n - (i + 1), by omega, i + 1, out, ha, hn, hc', H, by rw [ak (by omega) (by omega)]; omega, hlt, rfl, S, hol, fun s hs => ?_, fun cc s => ?_, by omega⟩
     · rw [hout s hs]
       by_cases e2 : s < i /\ d.acc s = true
       · rw [if_pos e2, if_pos ⟨by omega, e2.2⟩]
       · rw [if_neg e2, if_neg (fun h => e2 ⟨?_, h.2⟩)]
         have : s ≠ i := fun e => by rw [e, hb] at h; exact absurd h.2 (by simp)
         omega
     · rw [hH]
       refine and_congr_right fun _ => ⟨fun h => ⟨by omega, h.2⟩, fun h => ⟨?_, h.2⟩⟩
       have : s ≠ i := fun e => by rw [e, hb] at h; exact absurd h.2 (by simp)
       omega
 have hin : i = d.n := by omega
 subst hin
 have R0 : Rnd d cs C out H := Rnd.first hol (fun s hs => by rw [hout s hs]; simp only [hs, true_and]) hH
 refine ⟨_, _, a, n, c, b, d.n, e, bs.load0 (cs := [.int .i64 d.k, .int .i64 d.st, .slice a n c, .slice b d.n e]) S.dcp rfl, ?_⟩
 refine ax (z8 (h.below S.bw) hd) ?_
 rintro _ w38 ⟨wa, wn, wc, rfl, hway, b38⟩
 refine ⟨wa, wn, wc, rfl, ?_⟩
 obtain ⟨s1, hs1⟩ : ∃ s1, s1 = wl.heap.size := ⟨_, rfl⟩
 obtain ⟨s2, hs2⟩ : ∃ s2, s2 = w38.heap.size := ⟨_, rfl⟩
 have S1 : Lf w [.int .i64 d.k, .int .i64 d.st, .slice a n c, .slice b d.n e] k2 k6 s1 s2 oa d.n d.n out ha hn hc' H wa wn wc ((List.range d.n).map (gh d d.nx.length)) w38 :=
   { S.below b38 with
     way := hway.mono fun b hb hA => ⟨by omega, by omega⟩
     o2 := by have := S.hp.var.lt; omega
     o3 := by have := b38.size; omega
     o4 := by omega
     o5 := fun g hg => ⟨(S.o5 g hg).1, .inl (by have := S.hp.row.lt g hg; omega)⟩ }
 have hsum0 := FN M out
 have hBd : H.length + CH M out <= d.n * (M + 3) := by
   rw [hol] at hsum0
   have e1 : d.n * (M + 3) = d.n * (M + 1) + 2 * d.n := by rw [show M + 3 = (M + 1) + 2 by omega, Nat.mul_add]; omega
   omega
 clear hway b38 S hs1 hs2 hout hH hHl
 refine ⟨fun m1 wl1 => ∃ (out : List Int) (ha : Option Addr) (hn hc' : Nat) (H : Hp), m1 = 2 * CH M out + H.length /\ H.length + CH M out <= d.n * (M + 3) /\ Rnd d cs C out H /\ Lf w [.int .i64 d.k, .int .i64 d.st, .slice a n c, .slice b d.n e] k2 k6 s1 s2 oa d.n d.n out ha hn hc' H wa wn wc ((List.range d.n).map (gh d d.nx.length)) wl1,
   ⟨_, out, ha, hn, hc', H, rfl, hBd, R0, S1⟩, ?_⟩
 clear S1 R0 hBd hol hsum0
 clear out ha hn hc' H
 intro m1
 refine aE.of ?_ _
 rintro wl1 ⟨out, ha, hn, hc', H, rfl, hBd, R, S⟩
 have hhl := S.hp.row.len
 rw [List.length_map] at hhl
 have hol := R.inv.len
 refine ⟨ha, hn, hc', S.hp.var.load1 bo rfl rfl, af.of (fun h6 => ?_) (fun h6 => ?_)⟩ <;> simp only [gt_iff_lt, dTx, dFx] at h6
 · have hHl : 0 < (H.map pG).length := by rw [List.length_map]; omega
   refine ax (Co S.hp (by rw [List.length_map]; omega) hHl) ?_
   rintro _ w43 ⟨p, ys, rfl, hp, H43, hch⟩
   obtain ⟨q, Y, rfl, rfl, hperm⟩ := GI hp
   obtain ⟨c0, st⟩ := q
   have hlen := hperm.length_eq
   rw [List.length_cons] at hlen
   have S43 := S.bag (H' := Y) H43 hch (fun g hg => .inl hg)
   refine ⟨_, rfl, c0, ((st : Nat) : Int), vy (pG (c0, st)) w43, ?_⟩
   intro k10 w10 hk10 hw10
   have b10 := (hw10 ▸ ah w43 _ : Below w43.heap.size w43 w10)
   obtain ⟨wx1, sx1, P10, g10⟩ := uu.store0 (P := prog) (cs := [.int .i64 c0, .int .i64 ((st : Nat) : Int)]) rfl (bS rfl (bS rfl nf)) (am.new hk10 hw10 : am w10 k10 aH [.int .i64 0, .int .i64 0]) rfl
   have bx1 : Below w43.heap.size w43 wx1 := Below.put b10 g10 (by omega)
   have Sx := S43.below bx1
   have hst : st < d.n := (R.hin _ (hperm.mem_iff.2 List.mem_cons_self)).1
   have hsto : st < out.length := by omega
   have k10a : ∀ g, bE ha = some g -> g ≠ k10 := fun g hg => by have := S43.hp.row.lt g hg; omega
   have k10o : ∀ g, bE oa = some g -> g ≠ k10 := fun g hg => by have := S43.out.lt g hg; omega
   have k10v : k6 ≠ k10 := by have := S43.hp.var.lt; omega
   refine ⟨wx1, sx1, rfl, c0, fun u hu => (P10.below hu).load1 aI rfl rfl, rfl, ((st : Nat) : Int), fun u hu => (P10.below hu).load1 aI rfl rfl, ⟨⟨by omega, by omega⟩, Sx.out.all.isSome hsto⟩, oAt out st, fun u hu => by rw [<- Cz hsto]; exact ((Sx.below hu).out.all).num aI hsto, fun wq hq => ?_⟩
   have Sq := Sx.below hq
   have Pq := P10.below hq
   refine af.of (fun h7 => ?_) (fun h7 => ?_) <;> simp only [gt_iff_lt, dTx, dFx] at h7
   · exact ⟨2 * CH M out + Y.length, by omega, out, ha, _, hc', Y, rfl, by omega, R.skip hperm h7, Sq⟩
   have R2 := R.take hd hC hperm h7
   have hwl : ((List.range d.n).map (gh d d.nx.length)).length = d.n := by simp
   have hst2 : st < ((List.range d.n).map (gh d d.nx.length)).length := by rw [hwl]; exact hst
   have hwn := Sq.way.len
   obtain ⟨v57, ld57, a57, l57, c57, ev57, S57⟩ := Sq.way.load1 (P := prog) my rfl rfl (i := ((st : Nat) : Int)) (by rw [Int.toNat_natCast]; exact hst2)
   have ev57 : v57 = .slice a57 l57 c57 := by simpa using ev57
   subst ev57
   have ew : ((List.range d.n).map (gh d d.nx.length))[(((st : Nat) : Int)).toNat]'(by rw [Int.toNat_natCast]; exact hst2) = gh d d.nx.length st := by
     simp
   rw [ew] at S57
   refine ⟨rfl, ((st : Nat) : Int), Pq.load1 aI rfl rfl, ⟨⟨by omega, by omega⟩, Sq.way.isSome hst2⟩, a57, l57, c57, ld57, ?_⟩
   have hC2 : d.n * (M + 3) <= 900000000000 := hM2
   have k10s : s2 <= k10 := by have := S43.o4; omega
   refine ⟨fun m2 n59 wl2 => ∃ (j : Nat) (out' : List Int) (ha' : Option Addr) (hn' hc2 : Nat) (Hh : Hp), n59 = (j : Int) /\ j <= (gh d d.nx.length st).length /\ m2 = (gh d d.nx.length st).length - j /\
       2 * CH M out' + Hh.length < 2 * CH M out + H.length /\ Hh.length + CH M out' <= d.n * (M + 3) /\ Mid d cs C out' Hh st c0 j /\
       Lf w [.int .i64 d.k, .int .i64 d.st, .slice a n c, .slice b d.n e] k2 k6 s1 s2 oa d.n d.n out' ha' hn' hc2 Hh wa wn wc ((List.range d.n).map (gh d d.nx.length)) wl2 /\
       am wl2 k10 aH [.int .i64 c0, .int .i64 ((st : Nat) : Int)] /\ (∀ g, bE ha' = some g -> g ≠ k10) /\ Sl tP wl2 (fun g => s1 <= g /\ g < s2) a57 l57 c57 (gh d d.nx.length st),
     ⟨_, 0, out, ha, _, hc', Y, rfl, Nat.zero_le _, rfl, by omega, by omega, R2, Sq, Pq, k10a, S57⟩, ?_⟩
   intro m2 n59
   refine aE.of ?_ _
   rintro wl2 ⟨j, out', ha', hn', hc2, Hh, rfl, hj, rfl, hmea, hbig, Mi, S2, P2, k10b, W57⟩
   have hwlen := W57.len
   have hol' := Mi.inv.len
   refine af.of (fun h8 => ?_) (fun h8 => ?_) <;> simp only [dTx, dFx] at h8
   · have hjl : j < (gh d d.nx.length st).length := by omega
     obtain ⟨f, x, efx, hf, hx, hto⟩ := (yE hd).1 (List.getElem_mem hjl)
     have hjq : (gh d d.nx.length st)[j]? = some ((f : Int), (x : Int)) := by rw [List.getElem?_eq_getElem hjl, efx]
     have hxc : x < cs.length := by omega
     have hfo : f < out'.length := by omega
     have hcx := hc.at hxc
     have hfin := Mi.fin
     have hlo0 := (Mi.inv.lo st Mi.lt).1
     rw [Mi.cost] at hlo0
     have hp := W57.pair (P := prog) G9 hjl
     rw [efx] at hp
     refine ⟨⟨⟨by omega, h8⟩, W57.isSome hjl⟩, (f : Int), (x : Int), hp, ?_⟩
     intro k12 w12 hk12 hw12
     have b12 := (hw12 ▸ ah wl2 _ : Below wl2.heap.size wl2 w12)
     obtain ⟨wx2, sx2, P12, g12⟩ := G9.store0 (P := prog) (cs := [.int .i64 (f : Int), .int .i64 (x : Int)]) rfl (bS rfl (bS rfl nf)) (am.new hk12 hw12 : am w12 k12 ep [.int .i64 0, .int .i64 0]) rfl
     have bx2 : Below wl2.heap.size wl2 wx2 := Below.put b12 g12 (by omega)
     have Sy := S2.below bx2
     have Py := P2.below bx2
     have hcst : cs[x] = cAt cs x := EP hxc
     refine ⟨wx2, sx2, rfl, c0, fun u hu => (Py.below hu).load1 aI rfl rfl, rfl, (x : Int), fun u hu => (P12.below hu).load1 aI rfl rfl, ⟨⟨by omega, by omega⟩, hs.isSome hxc⟩, cAt cs x, fun u hu => by rw [<- hcst]; exact (hs.below (Sy.below hu).bw).num aI hxc, fun wq1 hq1 => ?_⟩
     have Sz := Sy.below hq1
     have Pz := P12.below hq1
     have Pk := Py.below hq1
     have Wz := (W57.below bx2).below hq1
     have hoz : out'[f] = oAt out' f := Cz hfo
     have ew1 : i64.wrap (c0 + cAt cs x) = c0 + cAt cs x := ak (by omega) (by omega)
     have ewj : i64.wrap (((j : Nat) : Int) + 1) = ((j + 1 : Nat) : Int) := by rw [ak (by omega) (by have := W57.le; omega)]; omega
     rw [ew1, ewj]
     refine ⟨rfl, (f : Int), Pz.load1 aI rfl rfl, ⟨⟨by omega, by omega⟩, Sz.out.all.isSome hfo⟩, oAt out' f, by rw [<- hoz]; exact Sz.out.all.num aI hfo, af.of (fun h9 => ?_) (fun h9 => ?_)⟩ <;> simp only [dTx, dFx] at h9
     · obtain ⟨wx3, sx3, ox3, gx3⟩ := Sz.out.store jA (fun _ _ h => h) (i := (f : Int)) (by rw [Int.toNat_natCast]; exact hfo) (k := 1) rfl (v := .int .i64 (c0 + cAt cs x)) (x := c0 + cAt cs x) iY
       rw [Int.toNat_natCast] at ox3
       have S3 := Sz.put ox3 gx3
       have ne12 : some k12 ≠ bE oa := fun e => by have := S2.out.lt _ e.symm; omega
       have ne10 : some k10 ≠ bE oa := fun e => k10o _ e.symm rfl
       refine ⟨rfl, (f : Int), Pz.load1 aI rfl rfl, ⟨⟨by omega, by omega⟩, Sz.out.all.isSome hfo⟩, wx3, sx3, rfl, (f : Int), (Pz.grown gx3 ne12).load1 aI rfl rfl, ?_⟩
       refine ax (uC S3.hp (by rw [List.length_map]; omega) (c0 + cAt cs x, (f : Int))) ?_
       rintro _ w89 ⟨rfl, ha3, hn3, hc3, xs3, hp3, H3, hch3, hf3⟩
       obtain ⟨H4, eH4, hperm4⟩ := wM (H := (c0 + cAt cs x, f) :: Hh) (show xs3.Perm (((c0 + cAt cs x, f) :: Hh).map pG) from hp3)
       have S4 := S3.bag (H' := H4) (by rw [eH4]; exact H3) hch3 hf3
       have Mi2 := Mi.yes hd hc hC hk (H' := H4) hjq hf hx hto h9 (fun p => by rw [hperm4.mem_iff, List.mem_cons])
       have hl4 := hperm4.length_eq
       rw [List.length_cons] at hl4
       have hset : oAt (out'.set f (c0 + cAt cs x)) f = c0 + cAt cs x := dF hfo _
       have hI := uF
       have hle := (Mi2.inv.bnd f hf (by rw [hset]; omega)).leC (by have := hC.lo; omega) hf
       rw [hset] at hle
       have hsum := Dy (M := M) (v := c0 + cAt cs x) (out := out') (f := f) hfo (by omega) (by omega)
       have mem4 : ∀ k : Nat, k ∈ k6 :: (bE ha').toList -> k ≠ k10 /\ (k < s1 \/ s2 <= k) := fun k hk => by
         rcases List.mem_cons.1 hk with e | e
         · subst e; exact ⟨k10v, .inl (by have := S2.o2; omega)⟩
         · have e2 : bE ha' = some k := by simpa using e
           exact ⟨k10b k e2, (S2.o5 k e2).2⟩
       refine ⟨rfl, _, ?_, j + 1, _, ha3, hn3, hc3, H4, rfl, hjl, rfl, ?_, ?_, Mi2, S4, ?_, fun g hg => ?_, ?_⟩
       · omega
       · omega
       · omega
       · exact hch3.arr (Pk.grown gx3 ne10) fun hm => (mem4 _ hm).1 rfl
       · rcases hf3 g hg with e | e
         · exact k10b g e
         · have := (Pk.grown gx3 ne10).lt; omega
       · exact (Wz.keep (hX gx3 fun g hg e => (by have := S2.o1 g e.symm; have := S2.o2; omega))).keep (hch3.keep.mono fun g hg hm => by have := (mem4 _ hm).2; omega)
     · exact ⟨_, by omega, j + 1, out', ha', hn', hc2, Hh, rfl, hjl, rfl, hmea, hbig, Mi.no hjq h9, Sz, Pk, k10b, Wz⟩
   · exact ⟨2 * CH M out' + Hh.length, by omega, out', ha', hn', hc2, Hh, rfl, hbig, Mi.over hd (by omega), S2⟩
 · have hHn : H = [] := List.eq_nil_of_length_eq_zero (by omega)
   subst hHn
   refine ⟨oa, d.n, d.n, out, rfl, S.out, R.left hd hc hC hk, fun g hg => ?_, S.bw⟩
   have := S.o1 g hg
   have := S.o6
   omega
end Go.Proofs.YtpafoodmpjlkhaaGreatDoor
namespace Go.Pk
open Go.RowKit (Below)
def wI (w : List Nat) : List Int := w.map fun (x : Nat) => (x : Int)
theorem rb.none {d : DA} {cs out : List Int} (h : rb d cs out) (hd : d.Ok) (h0 : oAt out d.s = INF) (v : List Nat) : ¬ d.Lang d.s v := fun hv => (h.le hd hd.s_lt hv).1 h0
end Go.Pk
namespace Go.Proofs.YtpafoodmpjlkhaaGreatDoor
open Go.Pk
open Go.RowKit (Below)
def EJ (d : DA) (cs : List Int) : Bool := okD d && (decide ((cs.length : Int) = d.k) && cs.all inC)
def Ex (d : DA) (cs : List Int) (most : Int) (w : World) (v : Value) (w' : World) : Prop := Below w.heap.size w w' /\
 (EJ d cs = false /\ v = .tuple #[.slice none 0 0, .bool false, .int .i64 151] \/
  EJ d cs = true /\ ((∀ u, d.Lang d.s u -> most < cr cs u) /\ v = .tuple #[.slice none 0 0, .bool false, .int .i64 0] \/
    ∃ (u : List Nat) (a : Option Addr) (n c : Nat), v = .tuple #[.slice a n c, .bool true, .int .i64 0] /\ Ow i7 az w' NoB a n c (wI u) /\ bD w.heap.size a /\ oX cs (d.Lang d.s) u /\ cr cs u <= most))
theorem ye {w : World} {a b : Option Addr} {n c m e : Nat} {a1 : Option Addr} {l1 c1 : Nat} {d : DA} {cs : List Int} (h : DaS w a n c b m e d) (hs : Sl i7 w gT a1 l1 c1 cs) (most : Int) (hb0 : most < INF)
   (hM : d.Ok -> qU cs -> cs.length = d.K -> ∃ (C : Int) (M : Nat), GU cs C /\ ((d.n - 1 : Nat) : Int) * C <= (M : Int) /\ d.n * (M + 3) <= 900000000000) :
   Calls prog oE #[daV a n c b m e d, .slice a1 l1 c1, .int .i64 most] w (Ret (Ex d cs most w)) := by
 apply wZ
 unfold rC
 intro k3 w3 hk3 hw3
 have hl1 := hs.len
 have b3 := (hw3 ▸ ah w _ : Below w.heap.size w w3)
 have A3 : am w3 k3 aj [.int .i64 d.k, .int .i64 d.st, .slice a n c, .slice b m e] := am.new hk3 hw3
 have ask : EJ d cs = true -> d.Ok /\ qU cs /\ cs.length = d.K := fun hk => by
   unfold EJ at hk
   simp only [Bool.and_eq_true, dTx] at hk
   have ho := ff.1 hk.1
   have := ho.kk
   exact ⟨ho, AM.1 hk.2.2, by omega⟩
 refine jK (fun w' => Below w3.heap.size w3 w' /\ EJ d cs = true) ?_ ?_
 · refine ⟨_, _, a, n, c, b, m, e, bs.load0 (cs := [.int .i64 d.k, .int .i64 d.st, .slice a n c, .slice b m e]) A3 rfl, ?_⟩
   refine ax (pH (h.below b3)) ?_
   rintro _ w15 ⟨rfl, b15⟩
   have B15 := ab b3 b15 b3.size
   refine ⟨_, rfl, af.of (fun h1 => ⟨B15, .inl ⟨by unfold EJ; rw [show okD d = false by simpa using h1]; rfl, rfl⟩⟩) (fun h1 => ⟨rfl, d.k, (A3.below b15).load1 aI rfl rfl, ?_⟩)⟩
   have h1 : okD d = true := by simpa using h1
   refine af.of (fun h2 => ⟨B15, .inl ⟨?_, rfl⟩⟩) (fun h2 => ?_)
   · have h2 : ((l1 : Nat) : Int) ≠ d.k := by simpa using h2
     unfold EJ
     rw [decide_eq_false (by rw [<- hl1]; exact h2), Bool.false_and, Bool.and_false]
   have h2 : ((l1 : Nat) : Int) = d.k := by simpa using h2
   refine ax (Aa (hs.below B15)) ?_
   rintro _ w26 ⟨rfl, rfl⟩
   refine ⟨_, rfl, af.of (fun h3 => ⟨B15, .inl ⟨by unfold EJ; rw [show cs.all inC = false by simpa using h3, Bool.and_false, Bool.and_false], rfl⟩⟩) (fun h3 => ⟨b15, ?_⟩)⟩
   unfold EJ
   rw [h1, decide_eq_true (by rw [<- hl1]; exact h2), show cs.all inC = true by simpa using h3]; rfl
 rintro wj ⟨bj, hask⟩
 obtain ⟨hd, hf, hkk⟩ := ask hask
 obtain ⟨C, M, hC, hM1, hM2⟩ := hM hd hf hkk
 have Bj := ab b3 bj b3.size
 refine ⟨_, _, a, n, c, b, m, e, bs.load0 (cs := [.int .i64 d.k, .int .i64 d.st, .slice a n c, .slice b m e]) (A3.below bj) rfl, ?_⟩
 have hmn : m = d.n := h.ac.len
 have hmn2 := hmn
 subst hmn2
 refine ax (Ab (h.below Bj) hd (hs.below Bj) hf hC hkk hM1 hM2) ?_
 rintro _ w31 ⟨oa, on, oc, out, rfl, O, L, fo, b31⟩
 refine ⟨oa, on, oc, rfl, ?_⟩
 have hsn := hd.s_lt
 have hss : ((d.s : Nat) : Int) = d.st := by have := hd.s0; show ((d.st.toNat : Nat) : Int) = d.st; omega
 have hon := O.len
 have hol := L.len
 have B31 := ab Bj b31 Bj.size
 have A31 : am w31 k3 aj [.int .i64 d.k, .int .i64 d.st, .slice a n c, .slice b d.n e] := (A3.below bj).below b31
 have hso : d.s < out.length := by omega
 have lst : ∀ {u : World}, Below w31.heap.size w31 u -> (Instr.loadAt az (.pointer (some ⟨k3, 1, none⟩))).run prog u = .ok (.int .i64 ((d.s : Nat) : Int)) u := fun hu => by rw [hss]; exact (A31.below hu).load1 aI rfl rfl
 have lout : ∀ {s : Nat} {u : World}, s < d.n -> Below w31.heap.size w31 u -> (Instr.loadAt az (.pointer (ao oa (s : Int) 1))).run prog u = .ok (.int .i64 (oAt out s)) u := fun {s u} hs hu => by
   have hsl : s < out.length := by omega
   rw [<- Cz hsl]; exact (O.below hu).all.num aI hsl
 have isO : ∀ {s : Nat}, s < d.n -> Option.isSome oa = true := fun {s} hs => O.all.isSome (i := s) (by omega)
 have rf := Below.refl w31.heap.size w31
 refine jK (fun w' => w' = w31 /\ oAt out d.s <= most /\ oAt out d.s ≠ INF) ?_ ?_
 · refine ⟨rfl, _, lst rf, ⟨⟨by omega, by omega⟩, isO hsn⟩, _, lout hsn rf, af.of (fun h1 => ?_) (fun h1 => ?_)⟩ <;> simp only [gt_iff_lt, dTx, dFx] at h1
   · refine ⟨B31, .inr ⟨hask, .inl ⟨fun u hu => ?_, rfl⟩⟩⟩
     have := (L.le hd hsn hu).2
     omega
   refine ⟨rfl, _, lst rf, ⟨⟨by omega, by omega⟩, isO hsn⟩, _, lout hsn rf, af.of (fun h2 => ?_) (fun h2 => ?_)⟩
   · have h2 : oAt out d.s = INF := by simpa using h2
     exact ⟨B31, .inr ⟨hask, .inl ⟨fun u hu => absurd hu (L.none hd h2 u), rfl⟩⟩⟩
   · have h2 : oAt out d.s ≠ INF := by simpa using h2
     exact ⟨rfl, by omega, h2⟩
 rintro wk ⟨hwk, hle, hne⟩
 have hwk2 := hwk.symm
 subst hwk2
 have hmost := L.most d.s hsn hne
 refine ⟨rfl, _, lst rf, ?_⟩
 refine ⟨fun mm wa wn wc t wl => ∃ (u : List Nat) (s : Nat), t = (s : Int) /\ s < d.n /\ oAt out s ≠ INF /\ mm = (oAt out s).toNat /\ u.length + (oAt out s).toNat <= (oAt out d.s).toNat /\ Gr d cs out d.s u s /\ Ow i7 az wl NoB wa wn wc (wI u) /\ bD w31.heap.size wa /\ Below w31.heap.size w31 wl,
   ⟨_, [], d.s, rfl, hsn, hne, rfl, by simp, .nil _, Ow.nil _ _ _ _, bD.none _, rf⟩, ?_⟩
 intro mm wa wn wc t
 refine aE.of ?_ _
 rintro wl ⟨u, s, rfl, hsl, hsne, rfl, hul, G, W, fw, bl⟩
 have hslo := (L.lo s hsl).1
 have hdlo := (L.lo d.s hsn).1
 refine ⟨⟨⟨by omega, by omega⟩, isO hsl⟩, _, lout hsl bl, af.of (fun h1 => ?_) (fun h1 => ?_)⟩ <;> simp only [gt_iff_lt, dTx, dFx] at h1
 · have Al := A31.below bl
   refine ⟨rfl, d.k, Al.load1 aI rfl rfl, ?_⟩
   refine ⟨fun m1 wa1 wn1 wc1 t1 xx wl1 => ∃ x : Nat, wa1 = wa /\ wn1 = wn /\ wc1 = wc /\ t1 = ((s : Nat) : Int) /\ xx = (x : Int) /\ x <= d.K /\ m1 = d.K - x /\ (∀ y, y < x -> ¬ zN d cs out s y) /\ Ow i7 az wl1 NoB wa wn wc (wI u) /\ Below w31.heap.size w31 wl1,
     ⟨_, 0, rfl, rfl, rfl, rfl, rfl, Nat.zero_le _, rfl, fun y hy => absurd hy (Nat.not_lt_zero _), W, bl⟩, ?_⟩
   intro m1 wa1 wn1 wc1 t1 xx
   refine aE.of ?_ _
   rintro wl1 ⟨x, rfl, rfl, rfl, rfl, rfl, hxk, rfl, hno, W1, bl1⟩
   have hdk := hd.kk
   refine af.of (fun h2 => ?_) (fun h2 => ?_) <;> simp only [dTx, dFx] at h2
   · have hxK : x < d.K := by omega
     have hxc : x < cs.length := by omega
     have hcx := hf.at hxc
     have A1 := A31.below bl1
     have B1 := ab B31 bl1 B31.size
     have hidx := qd hsl hxK
     have hK2 := hd.k2
     have hN2 := hd.n2
     have hKs : d.K <= 512 := by omega
     have hmul : d.n * d.K <= 65536 * 512 := Nat.mul_le_mul hN2 hKs
     have hsk : s * d.K <= d.n * d.K := Nat.mul_le_mul_right _ (Nat.le_of_lt hsl)
     have ew : i64.wrap (i64.wrap (((s : Nat) : Int) * d.k) + ((x : Nat) : Int)) = ((s * d.K + x : Nat) : Int) := by
       have e1 : ((s : Nat) : Int) * d.k = ((s * d.K : Nat) : Int) := by rw [<- hdk]; simp
       have e2 : i64.wrap (((s * d.K : Nat) : Int)) = ((s * d.K : Nat) : Int) := ak (by omega) (by omega)
       rw [e1, e2, ak (by omega) (by omega)]; omega
     have hnx := (h.below B1).nx
     have hnl : s * d.K + x < d.nx.length := by rw [hd.lenN]; exact hidx
     have hnn := hnx.len
     have eto : d.nx[s * d.K + x] = ((d.to s x : Nat) : Int) := by
       have h0 := hd.nx0 _ (List.getElem_mem hnl)
       unfold DA.to
       rw [List.getD_eq_getElem?_getD, List.getElem?_eq_getElem hnl]
       show _ = ((d.nx[s * d.K + x].toNat : Nat) : Int)
       omega
     have htl := hd.to_lt hsl hxK
     have hto := L.lo _ htl
     refine ⟨rfl, a, n, c, A1.load1 bi rfl rfl, rfl, d.k, A1.load1 aI rfl rfl, ?_⟩
     rw [ew]
     refine ⟨⟨⟨by omega, by omega⟩, hnx.isSome hnl⟩, ((d.to s x : Nat) : Int), by rw [<- eto]; exact hnx.num aI hnl, ?_⟩
     refine ⟨fun bb wq => Below wl1.heap.size wl1 wq /\ (bb = true ↔ zN d cs out s x), ?_, ?_⟩
     · refine ⟨⟨⟨by omega, by omega⟩, isO htl⟩, _, fun q hq => lout htl (ab bl1 hq bl1.size), af.of (fun h3 => ?_) (fun h3 => ?_)⟩ <;> simp only [dTx, dFx] at h3
       · have hm3 := L.most _ htl (by have := uF; omega)
         refine ⟨⟨⟨by omega, by omega⟩, isO htl⟩, _, fun q hq => lout htl (ab bl1 hq bl1.size), ⟨⟨by omega, by omega⟩, hs.isSome hxc⟩, cAt cs x, fun q hq => ?_, ⟨⟨by omega, by omega⟩, isO hsl⟩, _, fun q hq => lout hsl (ab bl1 hq bl1.size), fun q hq => ⟨hq, ?_⟩⟩
         · rw [<- EP hxc]; exact (hs.below (ab B1 hq B1.size)).num aI hxc
         · rw [ak (by omega) (by omega), beq_iff_eq]
           exact ⟨fun e => ⟨by have := uF; omega, e⟩, fun e => e.2⟩
       · exact fun q hq => ⟨hq, ⟨fun e => absurd e (by decide), fun e => absurd (show oAt out (d.to s x) < 9223372036854775807 from e.1) h3⟩⟩
     · intro bb
       refine aE.of ?_ _
       rintro wj2 ⟨bj2, hbb⟩
       have Wj := W1.below bj2
       have Bl2 := ab bl1 bj2 bl1.size
       refine af.of (fun h4 => ?_) (fun h4 => ?_)
       · have hok := hbb.1 h4
         intro k92 w92 hk92 hw92
         have hbd : ((wI u).length + 1) * 8 <= 140737488355328 := by
           unfold wI
           rw [List.length_map]; omega
         obtain ⟨w93, a93, n93, c93, hr, o93, f93, b93⟩ := xL (ty := aA) (w0 := w31) (cm := 1) (x := ((x : Nat) : Int)) jr bi jA (by decide) Wj fw Bl2 hk92 hw92 iY hbd
         have hcx1 := hok.2
         refine ⟨w93, a93, n93, c93, hr, (oAt out (d.to s x)).toNat, by omega, u ++ [x], d.to s x, rfl, htl, by have := hok.1; have := uF; omega, rfl, ?_, G.snoc hxK h1 hok hno, ?_, f93, b93⟩
         · rw [List.length_append, List.length_singleton]; omega
         · unfold wI at o93 ⊢
           rw [List.map_append]; exact o93
       · have hok : ¬ zN d cs out s x := fun hk => by rw [hbb.2 hk] at h4; cases h4
         refine ⟨d.K - (x + 1), by omega, x + 1, rfl, rfl, rfl, rfl, by rw [ak (by omega) (by omega)]; omega, hxK, rfl, fun y hy => ?_, Wj, Bl2⟩
         by_cases e : y = x
         · subst e; exact hok
         · exact hno y (by omega)
   · exfalso
     obtain ⟨x', hx', hok'⟩ := L.next hd hf hkk hsl hsne h1
     exact hno x' (by omega) hok'
 · have h0 : oAt out s = 0 := by omega
   obtain ⟨g1, g2, g3⟩ := G.law L hd hf hkk hsn hne h0
   refine ⟨ab B31 bl B31.size, .inr ⟨hask, .inr ⟨u, wa, wn, wc, rfl, W, fun g hg => ?_, ⟨g1, g3⟩, by omega⟩⟩⟩
   have := fw g hg
   have := B31.size
   omega
end Go.Proofs.YtpafoodmpjlkhaaGreatDoor
namespace Go.Proofs.YtpafoodmpjlkhaaGreatDoor
open Go.Pk
open Go.RowKit (Below)
theorem BU {ts : List Txt} (htl : ts.length <= 60) : (xG ts).Ok := Jf (by omega) (by omega)
theorem C5 (ts : List Txt) : (xG ts).k = ((ts.length : Int) + 1) := by show (((ts.length + 1 : Nat)) : Int) = _; omega
theorem EF (ts : List Txt) (v : List Nat) : (xG ts).Lang (xG ts).s v ↔ (∀ x ∈ v, x < ts.length + 1) /\ jt (v.map (tx ts)) := by
 rw [<- HK]
 exact HI v
theorem DY {ts : List Txt} (hl : ts.length <= 60) (hx : ∀ t ∈ ts, t.length <= 70) : GU (co ts) 71 := by
 refine ⟨by omega, by omega, fun x hx' => ?_⟩
 rw [lC] at hx'
 rw [nL hx']
 rcases Nat.lt_or_ge x ts.length with h | h
 · rw [CN h]
   have := hx _ (List.getElem_mem h)
   omega
 · have : x = ts.length := by omega
   subst this
   rw [uq]
   have := (gH (lJ hl)).2.1
   omega
theorem GL {ts : List Txt} (htl : ts.length <= 60) {d e : DA} {ps : List Pr} (hk : d.k = (ts.length : Int) + 1) (hI : jh d (xG ts) (fun x y => x && y) e ps) (v : List Nat) :
   e.Lang e.s v ↔ d.Lang d.s v /\ jt (v.map (tx ts)) := by
 have hK : d.K = ts.length + 1 := by unfold DA.K; rw [hk]; omega
 rw [hI.lang v]
 have h2 := EF ts v
 unfold DA.Lang at h2 ⊢
 have hK2 : (xG ts).K = ts.length + 1 := by unfold DA.K; rw [C5]; omega
 rw [hK2] at h2
 rw [hK, Bool.and_eq_true]
 constructor
 · rintro ⟨h3, h4, h5⟩
   exact ⟨⟨h3, h4⟩, (h2.1 ⟨h3, h5⟩).2⟩
 · rintro ⟨⟨h3, h4⟩, h5⟩
   exact ⟨h3, h4, (h2.2 ⟨h3, h5⟩).2⟩
def hB (ts : List Txt) (d : DA) : Bool := okD d && decide (d.k = (ts.length : Int) + 1)
def Ih (ts : List Txt) (d : DA) (w : World) (v : Value) (w' : World) : Prop := Below w.heap.size w w' /\
 if hB ts d = true then ∃ r : Option Hst, si ts (d.Lang d.s) r /\ (∀ g, r = some g -> g.ok) /\ v = .tuple #[(r.getD gj).v, .bool r.isSome, .int .i64 0] else v = .tuple #[gj.v, .bool false, .int .i64 151]
set_option maxHeartbeats 1000000 in
theorem f0 {w : World} (he : Env w) {p : Option Addr} {ts : List Txt} (hA : gU w p ts) (htl : ts.length <= 60) (hx : ∀ t ∈ ts, t.length <= 70) {a b : Option Addr} {n c m e : Nat} {d : DA} (h : DaS w a n c b m e d) (hf : d.Ok -> d.k = (ts.length : Int) + 1 -> Few d (xG ts)) :
   Calls prog dI #[.pointer p, daV a n c b m e d] w (Ret (Ih ts d w)) := by
 apply ub
 unfold pf
 intro k3 w3 hk3 hw3 k4 w4 hk4 hw4
 have hx' : ∀ t ∈ ts, t.length <= 1000 := fun t ht => by have := hx t ht; omega
 have b3 := (hw3 ▸ ah w _ : Below w.heap.size w w3)
 have b4 := (hw4 ▸ ah w3 _ : Below w3.heap.size w3 w4)
 have A3 : am w3 k3 aj (daL a n c b m e d) := am.new hk3 hw3
 have A4 : am w4 k4 ae gj.cells := am.new hk4 hw4
 have B4 := ab b3 b4 b3.size
 have s3 := b3.size
 have l4 := A4.lt
 refine ax (uZ (he.step B4) (hA.below B4) htl hx') ?_
 rintro _ w17 ⟨a1, n1, c1, b1, m1, e1, rfl, O, b17⟩
 have B17 := ab B4 b17 B4.size
 refine ⟨_, _, a1, n1, c1, b1, m1, e1, _, rfl, ?_⟩
 intro k7 w7 hk7 hw7
 have b7 := (hw7 ▸ ah w17 _ : Below w17.heap.size w17 w7)
 have A7 : am w7 k7 aj [.int .i64 0, .int .i64 0, .slice none 0 0, .slice none 0 0] := am.new hk7 hw7
 obtain ⟨wx, q1, v1, g1⟩ := bs.store0 (P := prog) (cs := daL a1 n1 c1 b1 m1 e1 (xG ts)) rfl (kJ _ _ _ _ _ _ _) A7 rfl
 have bx : Below w17.heap.size w17 wx := Below.put b7 g1 (by omega)
 have Bx := ab B17 bx B17.size
 have b4x := ab b17 bx b17.size
 refine ⟨wx, q1, af.no rfl ⟨_, _, a, n, c, b, m, e, bs.load0 (cs := daL a n c b m e d) ((A3.below b4).below b4x) rfl, _, _, a1, n1, c1, b1, m1, e1, bs.load0 (cs := daL a1 n1 c1 b1 m1 e1 (xG ts)) v1 rfl, ?_⟩⟩
 have hallK := C5 ts
 refine ax (vO (h.below Bx) (O.das.below bx) (fun h1 _ hk => hf h1 (by rw [hk, hallK]))) ?_
 intro v w27 hP
 have eb : mM d (xG ts) = hB ts d := by
   have e1 : (d.k == (xG ts).k) = decide (d.k = (ts.length : Int) + 1) := by rw [hallK, Bool.eq_iff_iff, beq_iff_eq, dTx]
   unfold mM hB
   rw [ff.2 (BU htl), Bool.true_and, e1]
 have A4x := A4.below b4x
 -- nothing is handed back
 have back : ∀ {W : World} {g : Hst} (bb : Bool) (r : Int), g.ok -> Below wx.heap.size wx W -> (∃ wy, (Instr.storeAt ae (.pointer (some ⟨k4, 0, none⟩)) g.v).run prog W = .ok () wy /\ (bm ae (.pointer (some ⟨k4, 0, none⟩))).run prog wy = .ok g.v wy /\ Below w.heap.size w wy) := by
   intro W g bb r og hb
   obtain ⟨wy, r1, r2, r3⟩ := aB.store0 (P := prog) (cs := g.cells) (Hst.len og) (Hst.one _) (A4x.below hb) rfl
   exact ⟨wy, r1, am.res (aB.load0 r2 (Hst.len og)), Below.put (ab Bx hb Bx.size) r3 (by omega)⟩
 cases hhB : hB ts d with
 | false =>
   rw [<- eb] at hhB
   unfold pB at hP
   rw [if_neg (by rw [hhB]; simp)] at hP
   obtain ⟨rfl, b27⟩ := hP
   refine ⟨_, _, none, 0, 0, none, 0, 0, _, rfl, ?_⟩
   intro k9 w9 hk9 hw9
   have b9 := (hw9 ▸ ah w27 _ : Below w27.heap.size w27 w9)
   have A9 : am w9 k9 aj [.int .i64 0, .int .i64 0, .slice none 0 0, .slice none 0 0] := am.new hk9 hw9
   obtain ⟨wy, q2, v2, g2⟩ := bs.store0 (P := prog) (cs := daL none 0 0 none 0 0 d0) rfl (kJ _ _ _ _ _ _ _) A9 rfl
   have bxy := ab b27 (Below.put b9 g2 (by omega)) b27.size
   obtain ⟨wz, r1, r2, r3⟩ := back (g := gj) false 151 rfl bxy
   refine ⟨wy, q2, af.yes rfl ⟨wz, r1, _, r2, r3, ?_⟩⟩
   rw [if_neg (by rw [<- eb, hhB]; simp)]
 | true =>
   have hhB' := hhB
   rw [<- eb] at hhB
   unfold pB at hP
   rw [if_pos hhB] at hP
   obtain ⟨dd, ps, hI, a2, n2, c2, b2, m2, e2, rfl, OB, b27⟩ := hP
   unfold hB at hhB'
   rw [Bool.and_eq_true, dTx] at hhB'
   obtain ⟨hok, hdk⟩ := hhB'
   have hdok := ff.1 hok
   have hfew := hf hdok hdk
   have hps : ps.length <= 65536 := hfew ps hI.nd hI.reach
   have hddok := hI.ok hdok hps
   refine ⟨_, _, a2, n2, c2, b2, m2, e2, _, rfl, ?_⟩
   intro k9 w9 hk9 hw9
   have b9 := (hw9 ▸ ah w27 _ : Below w27.heap.size w27 w9)
   have A9 : am w9 k9 aj [.int .i64 0, .int .i64 0, .slice none 0 0, .slice none 0 0] := am.new hk9 hw9
   obtain ⟨wy, q2, v2, g2⟩ := bs.store0 (P := prog) (cs := daL a2 n2 c2 b2 m2 e2 dd) rfl (kJ _ _ _ _ _ _ _) A9 rfl
   have b27y := Below.put b9 g2 (by omega)
   have bxy := ab b27 b27y b27.size
   have By := ab Bx bxy Bx.size
   refine ⟨wy, q2, af.no rfl ?_⟩
   have hddk : dd.k = (ts.length : Int) + 1 := by rw [hI.k, hdk]
   have hAy := hA.below By
   refine ax (ci p ts (by omega) wy hAy) ?_
   rintro _ w35 ⟨rfl, hw35⟩
   rw [hw35]; clear hw35 w35
   refine ⟨_, rfl, fun M aa ll cc i W => ∃ j : Nat, j <= ts.length + 1 /\ i = (j : Int) /\ M = ts.length + 1 - j /\ Ow i7 az W NoB aa ll cc ((co ts).take j) /\ bD wy.heap.size aa /\ Below wy.heap.size wy W, ⟨_, 0, by omega, rfl, rfl, by rw [List.take_zero]; exact Ow.nil _ _ _ _, bD.none _, Below.refl _ _⟩, ?_⟩
   intro M aa ll cc i
   refine aE.of ?_ _
   rintro wl ⟨j, hj, rfl, rfl, hO, hF, hBl⟩
   refine af.of (fun h3 => ?_) (fun h3 => ?_) <;> simp only [dTx, dFx] at h3
   · have hjk : j < ts.length + 1 := by omega
     refine ax (ny p ts (by omega) (j : Int) wl (hAy.below hBl)) ?_
     rintro _ w42 ⟨rfl, b42⟩
     have hst : py ts (j : Int) = tx ts j := rfl
     have hl1 : (tx ts j).length <= 1000 := FT htl hx' (by omega)
     refine ⟨_, rfl, ?_⟩
     rw [hst]
     intro k45 w45 hk45 hw45
     have B42 := ab hBl b42 hBl.size
     obtain ⟨w46, a', n', c', r46, o46, f46, B46⟩ := xL (ty := aA) jr bi jA (by decide) (hO.below b42) hF B42 (x := (((tx ts j).length : Nat) : Int) + 1) hk45 hw45 (by rw [ak (by omega) (by omega)]; exact iY) (cm := 1) (by rw [List.length_take, lC]; omega)
     refine ⟨w46, a', n', c', r46, ts.length + 1 - (j + 1), by omega, j + 1, by omega, by rw [ak (by omega) (by omega)]; omega, rfl, ?_, f46, B46⟩
     have e : (co ts).take (j + 1) = (co ts).take j ++ [(((tx ts j).length : Nat) : Int) + 1] := by
       have hlt : j < (co ts).length := by rw [lC]; exact hjk
       have hg : (co ts)[j]? = some ((((tx ts j).length : Nat) : Int) + 1) := by
         unfold co
         rw [List.getElem?_map, List.getElem?_range hjk]; rfl
       rw [List.getElem?_eq_getElem hlt] at hg
       rw [List.take_succ_eq_append_getElem hlt, Option.some.inj hg]
     rw [e]; exact o46
   · have hjk : j = ts.length + 1 := by omega
     subst hjk
     rw [List.take_of_length_le (by rw [lC]; omega)] at hO
     have DS : DaS wl a2 n2 c2 b2 m2 e2 dd := (OB.das.below b27y).below hBl
     refine ⟨_, _, a2, n2, c2, b2, m2, e2, bs.load0 (cs := daL a2 n2 c2 b2 m2 e2 dd) (v2.below hBl) rfl, ?_⟩
     have hfine := wt htl hx'
     have bxl := ab bxy hBl bxy.size
     have Bl := ab By hBl By.size
     refine ax (ye DS hO.all 254 (by unfold INF; omega) (fun h1 _ _ => ⟨71, 65536 * 71, DY htl hx, ?_, ?_⟩)) ?_
     · have := h1.n2
       have h2 : ((dd.n - 1 : Nat) : Int) <= 65536 := by show ((dd.ac.length - 1 : Nat) : Int) <= 65536; omega
       omega
     · have := h1.n2
       have h2 : dd.n <= 65536 := this
       have : dd.n * (65536 * 71 + 3) <= 65536 * (65536 * 71 + 3) := Nat.mul_le_mul_right _ h2
       omega
     have hask : EJ dd (co ts) = true := by
       unfold EJ
       rw [ff.2 hddok, decide_eq_true (by rw [lC, hddk]; omega), AM.2 hfine]; rfl
     have hlang := GL htl hdk hI
     rintro _ w51 ⟨b51, ⟨h1, _⟩ | ⟨_, ⟨hno, rfl⟩ | ⟨u, a5, n5, c5, rfl, o5, f5, hu, hc⟩⟩⟩
     · rw [hask] at h1; cases h1
     · refine ⟨none, 0, 0, false, 0, rfl, ?_⟩
       obtain ⟨wz, r1, r2, r3⟩ := back (g := gj) false 0 rfl (ab bxl b51 bxl.size)
       refine ⟨fun _ => False, ⟨fun bb W => bb = true /\ W = w51, af.yes rfl ⟨rfl, rfl⟩, fun bb => aE.of ?_ _⟩, aE.of (fun _ hc => hc.elim) _⟩
       rintro wj ⟨rfl, rfl⟩
       refine af.yes rfl ⟨wz, r1, _, r2, r3, ?_⟩
       rw [if_pos (by rw [<- eb]; exact hhB)]
       refine ⟨none, fun v hv hw => ?_, (fun g hg => by cases hg), rfl⟩
       have := hno v ((hlang v).2 ⟨hv, hw⟩)
       omega
     · refine ⟨a5, n5, c5, true, 0, rfl, ?_⟩
       have bx51 := ab bxl b51 bxl.size
       have B51 := ab Bl b51 Bl.size
       refine ⟨fun W => W = w51, ⟨fun bb W => bb = false /\ W = w51, af.no rfl ⟨rfl, rfl⟩, fun bb => aE.of (fun wj hj => af.no hj.1 hj.2) _⟩, aE.of ?_ _⟩
       rintro wj hwj
       rw [hwj]; clear hwj wj
       have hu1 := (hlang u).1 hu.1
       have hsym : ∀ x ∈ u, x < ts.length + 1 := by
         have := hu1.1.1
         have hK : d.K = ts.length + 1 := by unfold DA.K; rw [hdk]; omega
         rwa [hK] at this
       have hul : u.length <= 254 := by
         have h2 : ∀ {v : List Nat}, (∀ x ∈ v, x < ts.length + 1) -> (v.length : Int) <= cr (co ts) v := by
           intro v
           induction v with
           | nil => intro _; exact Int.le_refl _
           | cons x v ih =>
             intro hv
             have h3 := ih fun y hy => hv y (List.mem_cons_of_mem _ hy)
             have h4 := nL (ts := ts) (hv x List.mem_cons_self)
             simp only [cr, List.length_cons]
             omega
         have := h2 hsym
         omega
       have etx : txs ts (wI u) = u.map (tx ts) := by unfold txs wI; rw [List.map_map]; rfl
       refine ax (p8 (he.step B51) (hA.below B51) (by omega) o5.all (Ow.inside o5) ?_ ?_ ?_) ?_
       · intro x hx'
         obtain ⟨y, hy, rfl⟩ := List.mem_map.1 hx'
         have := hsym y hy
         omega
       · unfold wI; rw [List.length_map]; omega
       · rw [etx]
         intro x hx2
         obtain ⟨y, hy, rfl⟩ := List.mem_map.1 hx2
         exact FT htl hx' (by have := hsym y hy; omega)
       rintro _ w66 ⟨rfl, b66⟩
       rw [etx]
       obtain ⟨g, hg, og, _, _⟩ := yt hsym hu1.2 hc
       rw [hg]
       refine ⟨_, _, rfl, ?_⟩
       intro k14 w14 hk14 hw14
       have b14 := (hw14 ▸ ah w66 _ : Below w66.heap.size w66 w14)
       have A14 : am w14 k14 ae gj.cells := am.new hk14 hw14
       obtain ⟨w5x, r4, v4, g4⟩ := aB.store0 (P := prog) (cs := g.cells) (Hst.len og) (Hst.one _) A14 rfl
       have bx14 := ab (ab bx51 b66 bx51.size) (Below.put b14 g4 (by omega)) (ab bx51 b66 bx51.size).size
       obtain ⟨wz, r1, r2, r3⟩ := back (g := g) true 0 og bx14
       refine ⟨w5x, r4, _, aB.load0 v4 (Hst.len og), wz, r1, _, r2, r3, ?_⟩
       rw [if_pos (by rw [<- eb]; exact hhB)]
       exact ⟨some g, ⟨u, hu.congr hlang, hc, hg⟩, (fun g' hg' => by cases hg'; exact og), rfl⟩
end Go.Proofs.YtpafoodmpjlkhaaGreatDoor
namespace Go.Proofs.YtpafoodmpjlkhaaGreatDoor
open Go.Pk
open Go.RowKit (Below)
def FB : Nat -> List UInt8
 | 0 => []
 | n + 1 => if n + 33 = 63 \/ n + 33 = 35 then FB n else FB n ++ [UInt8.ofNat (n + 33)]
def Hr : List UInt8 := FB 94
end Go.Proofs.YtpafoodmpjlkhaaGreatDoor
namespace Go.Proofs.YtpafoodmpjlkhaaGreatDoor
open Go.Pk
open Go.RowKit (Below)
theorem yM {α : Type} {l : List α} {k : Nat} (h : k < l.length) : l.take (k + 1) = l.take k ++ [l[k]] := by
 rw [List.take_succ_eq_append_getElem h]
end Go.Proofs.YtpafoodmpjlkhaaGreatDoor
namespace Go.Proofs.YtpafoodmpjlkhaaGreatDoor
open Go.Pk
open Go.RowKit (Below)
def Ji (i : Int) : Bool := decide (0 <= i) && decide (i < 92)
def chr (i : Int) : UInt8 := Hr[i.toNat]?.getD 0
def one (n : Int) : List UInt8 := if Ji n then [chr n] else []
theorem zR {l k : List Int} {w : World} {A A' : Bl} {a b : Option Addr} {n m c d : Nat} (hs : Sl i7 w A a n c l) (ht : Sl i7 w A' b m d k) :
   Calls prog pP #[.slice a n c, .slice b m d] w (Ret fun v w' => v = .bool (decide (l = k)) /\ Below w.heap.size w w') := by
 have hn := hs.len
 have hm := ht.len
 subst hn hm
 have hle := hs.le
 apply xX
 unfold tr
 refine af.of (fun h => ?_) (fun h => ?_) <;> simp at h
 · refine ⟨?_, Below.refl _ _⟩
   congr 1
   symm
   rw [dFx]
   intro e; subst e; omega
 · refine ⟨fun m i w' => ∃ n : Nat, n <= l.length /\ i = (n : Int) /\ m = l.length - n /\ l.take n = k.take n /\ Below w.heap.size w w', ⟨_, 0, by omega, rfl, rfl, by simp, Below.refl _ _⟩, ?_⟩
   intro m i
   refine aE.of ?_ _
   rintro w' ⟨n, hn, rfl, rfl, he, hb⟩
   refine af.of (fun h4 => ?_) (fun h4 => ?_) <;> simp at h4
   · have h5 : n < k.length := by omega
     have hsl := hs.below hb
     have htl := ht.below hb
     refine ⟨⟨⟨by omega, by omega⟩, hsl.isSome h4⟩, l[n], ?_, ⟨⟨by omega, by omega⟩, htl.isSome h5⟩, k[n], ?_, ?_⟩
     · intro u hu
       obtain ⟨v, hv, hrep⟩ := (hsl.below hu).load1 (P := prog) (i := (n : Int)) aI rfl rfl (by simpa using h4)
       have := Cp hrep
       subst this
       simpa only [Int.toNat_natCast] using hv
     · intro u hu
       obtain ⟨v, hv, hrep⟩ := (htl.below hu).load1 (P := prog) (i := (n : Int)) aI rfl rfl (by simpa using h5)
       have := Cp hrep
       subst this
       simpa only [Int.toNat_natCast] using hv
     · intro wq hwq
       have hB := ab hb hwq hb.size
       refine af.of (fun h6 => ?_) (fun h6 => ?_) <;> simp at h6
       · refine ⟨?_, hB⟩
         congr 1
         symm
         rw [dFx]
         intro e; subst e; exact h6 rfl
       · have e1 : i64.wrap ((n : Int) + 1) = ((n + 1 : Nat) : Int) := by rw [ak (by omega) (by omega)]; omega
         rw [e1]
         refine ⟨_, ?_, n + 1, by omega, rfl, rfl, ?_, hB⟩
         · omega
         · rw [yM h4, yM h5, he, h6]
   · refine ⟨?_, hb⟩
     have : n = l.length := by omega
     subst this
     have h' : l.length = k.length := by omega
     rw [List.take_length, h', List.take_length] at he
     congr 1
     symm
     rw [dTx]; exact he
end Go.Proofs.YtpafoodmpjlkhaaGreatDoor
set_option maxRecDepth 100000
namespace Go.Proofs.YtpafoodmpjlkhaaGreatDoor
open Go.Pk
open Go.RowKit (Below)
--  cracknel/cracknellaw18.HostsetNames
def tq (s0 : List UInt8) (w : World) (K : Value -> World -> Prop) : Prop :=
 ∀ k2 w2, k2 = w.heap.size -> w2 = w.alloc (.cells aL ae) ->
 ∃ wx, Sv ae (some ⟨k2, 0, none⟩) (.agg #[.int .i64 (1 : Int), .string (mkS s0), .int .u8 (0 : Int), .int .u8 (0 : Int), .int .u8 (0 : Int), .int .u8 (0 : Int), .int .u8 (0 : Int), .int .u8 (0 : Int), .int .u8 (0 : Int), .int .u8 (0 : Int), .int .u8 (0 : Int), .int .u8 (0 : Int), .int .u8 (0 : Int), .int .u8 (0 : Int), .int .u8 (0 : Int), .int .u8 (0 : Int), .int .u8 (0 : Int), .int .u8 (0 : Int)]) w2 wx /\
 ∃ vr0, (bm ae (.pointer (some ⟨k2, 0, none⟩))).run prog wx = .ok vr0 wx /\
 K vr0 wx
theorem xW (s0 : List UInt8) {w : World} {K : Value -> World -> Prop} (h : tq s0 w K) : Calls prog jb #[.string (mkS s0)] w (Ret K) :=
 au (c := ay Tryz.f13) (by kernel_rfl) Tryz.func13 (by kernel_rfl) [] [.string (mkS s0)] (of_decide_eq_true (by kernel_rfl)) _ (by kernel_rfl) h

--  cracknel/cracknellaw18.hostsetAlive
def kD  (w : World) (K : Value -> World -> Prop) : Prop :=
 ∀ k8 w8, k8 = w.heap.size -> w8 = w.alloc (.cells #[.string (mkS [97]), .string (mkS [99, 111, 109])] ar) ->
 Calls prog gG #[.slice (some ⟨k8, 0, none⟩) 2 2] w8 fun e9 w9 => ∃ p9, e9 = .returned (.pointer p9) /\
 af (Option.isNone p9)
 (K (.bool false) w9)
 (Calls prog jb #[.string (mkS [98, 46, 97, 46, 99, 111, 109])] w9 fun e13 w13 => ∃ v13, e13 = .returned v13 /\
 Calls prog j9 #[.pointer p9, v13] w13 fun e14 w14 => ∃ a14 l14 c14, e14 = .returned (.slice a14 l14 c14) /\
 Calls prog jb #[.string (mkS [99, 111, 109])] w14 fun e17 w17 => ∃ v17, e17 = .returned v17 /\
 Calls prog gB #[.pointer p9, v17] w17 fun e18 w18 => ∃ n18_0_0 n18_0_1 a18_0_2 l18_0_2 c18_0_2 a18_0_3 l18_0_3 c18_0_3 n18_1, e18 = .returned (.tuple #[.agg #[.int .i64 n18_0_0, .int .i64 n18_0_1, .slice a18_0_2 l18_0_2 c18_0_2, .slice a18_0_3 l18_0_3 c18_0_3], .int .i64 n18_1]) /\
 ∀ k3 w3, k3 = w18.heap.size -> w3 = w18.alloc (.cells #[.int .i64 (0 : Int), .int .i64 (0 : Int), .slice none 0 0, .slice none 0 0] aj) ->
 ∃ wx, Sv aj (some ⟨k3, 0, none⟩) (.agg #[.int .i64 n18_0_0, .int .i64 n18_0_1, .slice a18_0_2 l18_0_2 c18_0_2, .slice a18_0_3 l18_0_3 c18_0_3]) w3 wx /\
 ∃ n23_0 n23_1 a23_2 l23_2 c23_2 a23_3 l23_3 c23_3, Ld aj (some ⟨k3, 0, none⟩) wx (.agg #[.int .i64 n23_0, .int .i64 n23_1, .slice a23_2 l23_2 c23_2, .slice a23_3 l23_3 c23_3]) /\
 Calls prog dI #[.pointer p9, .agg #[.int .i64 n23_0, .int .i64 n23_1, .slice a23_2 l23_2 c23_2, .slice a23_3 l23_3 c23_3]] wx fun e24 w24 => ∃ v24_0 b24_1 n24_2, e24 = .returned (.tuple #[v24_0, .bool b24_1, .int .i64 n24_2]) /\
 ∀ k5 w5, k5 = w24.heap.size -> w5 = w24.alloc (.cells aL ae) ->
 ∃ wx_1, Sv ae (some ⟨k5, 0, none⟩) v24_0 w5 wx_1 /\
 ∀ k29, wx_1.heap.size <= k29 ->
 ∃ b30, (∀ u30, Below wx_1.heap.size wx_1 u30 -> u30.heap[k29]? = some (.cells #[.int .i64 (1 : Int), .int .i64 (0 : Int), .int .i64 (2 : Int)] az) -> Calls prog pP #[.slice a14 l14 c14, .slice (some ⟨k29, 0, none⟩) 3 3] u30 fun e30 w30 => e30 = .returned (.bool b30) /\ Below u30.heap.size u30 w30) /\
 af b30
 (af (n18_1 == (0 : Int))
 (af (n24_2 == (0 : Int))
 (af b24_1
 (∃ v43, (∀ u43, Below wx_1.heap.size wx_1 u43 -> u43.heap[k29]? = some (.cells #[.int .i64 (1 : Int), .int .i64 (0 : Int), .int .i64 (2 : Int)] az) -> Ld ae (some ⟨k5, 0, none⟩) u43 v43) /\
 ∃ v44, (∀ u44, Below wx_1.heap.size wx_1 u44 -> u44.heap[k29]? = some (.cells #[.int .i64 (1 : Int), .int .i64 (0 : Int), .int .i64 (2 : Int)] az) -> Calls prog jb #[.string (mkS [97, 46, 99, 111, 109])] u44 fun e44 w44 => e44 = .returned v44 /\ Below u44.heap.size u44 w44) /\
 ∃ b45, (∀ u45, Below wx_1.heap.size wx_1 u45 -> u45.heap[k29]? = some (.cells #[.int .i64 (1 : Int), .int .i64 (0 : Int), .int .i64 (2 : Int)] az) -> ((do eqGuard .eql ae (.tmp 43) (.tmp 44) v43 v44; binOp .eql ae v43 v44 : Sem Value)).run prog u45 = .ok (.bool b45) u45) /\
 ∀ wq, Below wx_1.heap.size wx_1 wq ->
 wq.heap[k29]? = some (.cells #[.int .i64 (1 : Int), .int .i64 (0 : Int), .int .i64 (2 : Int)] az) ->
 K (.bool b45) wq)
 (∀ wq_1, Below wx_1.heap.size wx_1 wq_1 ->
 wq_1.heap[k29]? = some (.cells #[.int .i64 (1 : Int), .int .i64 (0 : Int), .int .i64 (2 : Int)] az) ->
 K (.bool false) wq_1))
 (∀ wq_2, Below wx_1.heap.size wx_1 wq_2 ->
 wq_2.heap[k29]? = some (.cells #[.int .i64 (1 : Int), .int .i64 (0 : Int), .int .i64 (2 : Int)] az) ->
 K (.bool false) wq_2))
 (∀ wq_3, Below wx_1.heap.size wx_1 wq_3 ->
 wq_3.heap[k29]? = some (.cells #[.int .i64 (1 : Int), .int .i64 (0 : Int), .int .i64 (2 : Int)] az) ->
 K (.bool false) wq_3))
 (∀ wq_4, Below wx_1.heap.size wx_1 wq_4 ->
 wq_4.heap[k29]? = some (.cells #[.int .i64 (1 : Int), .int .i64 (0 : Int), .int .i64 (2 : Int)] az) ->
 K (.bool false) wq_4))
theorem pt  {w : World} {K : Value -> World -> Prop} (h : kD  w K) : Calls prog dj #[] w (Ret K) :=
 au (c := ay Tryz.f17) (by kernel_rfl) Tryz.func17 (by kernel_rfl) [(3000019, [(0, .one (.bool)), (1, .one (.bool)), (2, .one (.bool)), (3, .one (.bool)), (4, .one (.bool)), (5, .one (.bool)), (6, .one (.bool)), (7, .one (.bool)), (8, .one (.bool)), (9, .one (.bool)), (10, .one (.bool)), (11, .one (.bool)), (12, .one (.bool)), (13, .one (.bool)), (14, .one (.bool)), (15, .one (.bool)), (16, .one (.bool)), (17, .one (.bool)), (18, .one (.bool)), (19, .one (.bool))])] [] (of_decide_eq_true (by kernel_rfl)) _ (by kernel_rfl) h

--  cracknel/cracknellaw18.zero
end Go.Proofs.YtpafoodmpjlkhaaGreatDoor
set_option maxRecDepth 20000
namespace Go.Pk
open Go.RowKit (Below)
theorem FC : ∀ {l m : List Txt}, l.Pairwise (· < ·) -> m.Pairwise (· < ·) -> (∀ x, x ∈ l ↔ x ∈ m) -> l = m
 | [], [], _, _, _ => rfl
 | [], y :: m, _, _, h => absurd ((h y).2 List.mem_cons_self) (by simp)
 | x :: l, [], _, _, h => absurd ((h x).1 List.mem_cons_self) (by simp)
 | x :: l, y :: m, hl, hm, h => by
   obtain ⟨hx, hl'⟩ := List.pairwise_cons.1 hl
   obtain ⟨hy, hm'⟩ := List.pairwise_cons.1 hm
   have e : x = y := by
     rcases List.mem_cons.1 ((h x).1 List.mem_cons_self) with h1 | h1
     · exact h1
     · rcases List.mem_cons.1 ((h y).2 List.mem_cons_self) with h2 | h2
       · exact h2.symm
       · exact absurd (List.lt_trans (hy x h1) (hx y h2)) (List.lt_irrefl _)
   subst e
   congr 1
   refine FC hl' hm' fun z => ?_
   have hz := h z
   rw [List.mem_cons, List.mem_cons] at hz
   constructor
   · intro hzl
     rcases hz.1 (.inr hzl) with h1 | h1
     · subst h1; exact absurd (hx z hzl) (List.lt_irrefl _)
     · exact h1
   · intro hzm
     rcases hz.2 (.inr hzm) with h1 | h1
     · subst h1; exact absurd (hy z hzm) (List.lt_irrefl _)
     · exact h1
theorem Iw : ky [[97], [99, 111, 109]] = exT := FC (rZ _) Jb fun x => by rw [qQ]
def hwn (s : Txt) : Hst := ⟨1, s, ad0⟩
theorem m7 {L : List Txt} {s : Txt} (hj : Lib.join L [46] = s) (hne : L ≠ []) (hl : ∀ x ∈ L, aX x = true) (hd : bU (po L) = false) (hs : s.length <= 253) : aU (hwn s) = true /\ bL (hwn s) = L.reverse := by
 subst hj
 obtain ⟨h1, h2, h3⟩ := mO hne hl hd hs
 have h2' : aU (hwn (Lib.join L [46])) = true := h2
 have h3' : aq (hwn (Lib.join L [46])) = L := h3
 refine ⟨h2', ?_⟩
 unfold bL
 rw [if_pos h2', if_pos (show (hwn (Lib.join L [46])).kind = 1 from rfl), h3']
theorem Iv : bL (hwn [99, 111, 109]) = [[99, 111, 109]] :=
 (m7 (L := [[99, 111, 109]]) (by rw [Lib.join_one]) (by simp) (by decide) (by decide) (by decide)).2
theorem Iu : bL (hwn [98, 46, 97, 46, 99, 111, 109]) = [[99, 111, 109], [97], [98]] :=
 (m7 (L := [[98], [97], [99, 111, 109]]) (by rw [lu, lu, Lib.join_one]; rfl) (by simp) (by decide) (by decide) (by decide)).2
theorem Gu : ofT exT [99, 111, 109] = 1 /\ ofT exT [97] = 0 /\ ofT exT [98] = 2 := by decide
theorem Bi {ts : List Txt} (htl : ts.length <= 511) {h : Hst} (o : h.ok) (hk : (be ts h).length <= 127) : CY (chD (ts.length + 1) (be ts h) 0) (be ts h) 0 := by
 have := Cr (k := ts.length + 1) (by omega) (by omega) (iU ts h) (by omega) 0 (by omega)
 simpa using this
theorem yk {ts : List Txt} (htl : ts.length <= 511) {h : Hst} (o : h.ok) (hk : (be ts h).length <= 127) (k1 : h.kind = 1) (b : Bool) : CY (jM ts h b) (be ts h) (if b = true then 1 else 2) := by
 unfold jM
 rw [if_neg (fun c => c k1)]
 cases b with
 | true =>
   rw [if_pos rfl, if_pos rfl]
   have := Cr (k := ts.length + 1) (by omega) (by omega) (iU ts h) (by omega) 1 (by omega)
   simpa using this
 | false =>
   rw [if_neg (by simp), if_neg (by simp)]
   exact HN (by omega) (by omega) (iU ts h) (by omega) rfl rfl
theorem oo {ts : List Txt} {h : Hst} (k1 : h.kind ≠ 1) : jM ts h true = chD (ts.length + 1) (be ts h) 0 /\ jM ts h false = noD (ts.length + 1) := by
 unfold jM
 rw [if_pos k1, if_pos k1, if_pos rfl, if_neg (by simp)]
 exact ⟨rfl, rfl⟩
theorem vz (ts : List Txt) (h : Hst) (b : Bool) : (jM ts h b).k = (ts.length : Int) + 1 := by
 have e : ((ts.length + 1 : Nat) : Int) = (ts.length : Int) + 1 := by omega
 unfold jM
 split
 · split
   · exact e
   · exact e
 · split
   · exact e
   · exact e
theorem Av {ts : List Txt} (htl : ts.length <= 511) {h : Hst} (o : h.ok) (hk : (be ts h).length <= 127) (b : Bool) : (jM ts h b).Ok /\ (jM ts h b).n <= (be ts h).length + 3 := by
 by_cases k1 : h.kind = 1
 · have := yk htl o hk k1 b
   refine ⟨this.ok, ?_⟩
   have h2 := this.n
   split at h2 <;> omega
 · obtain ⟨e1, e2⟩ := oo (ts := ts) k1
   cases b with
   | true =>
     rw [e1]
     have := Bi htl o hk
     refine ⟨this.ok, ?_⟩
     have h2 := this.n
     omega
   | false =>
     rw [e2]
     exact ⟨G4 (by omega) (by omega), by show 1 <= _; omega⟩
end Go.Pk
namespace Go.Proofs.YtpafoodmpjlkhaaGreatDoor
open Go.Pk
open Go.RowKit (Below)
theorem lv (s : Txt) (w : World) : Calls prog jb #[.string (mkS s)] w (Ret fun v w' => v = (hwn s).v /\ Below w.heap.size w w') := by
 apply xW
 unfold tq
 intro k2 w2 hk2 hw2
 have hb2 := (hw2 ▸ ah w _ : Below w.heap.size w w2)
 have A2 : am w2 k2 ae gj.cells := am.new hk2 hw2
 obtain ⟨wx, s1, v1, g1⟩ := aB.store0 (P := prog) (cs := (hwn s).cells) rfl (Hst.one _) A2 rfl
 exact ⟨wx, s1, _, am.res (aB.load0 v1 rfl), rfl, Below.put hb2 g1 (by omega)⟩
theorem AJ : hwV exT (hwn [99, 111, 109]) = [1] := by
 unfold hwV
 rw [Iv, List.map_cons, List.map_nil, Gu.1]
theorem E1 : hwV exT (hwn [98, 46, 97, 46, 99, 111, 109]) = [1, 0, 2] := by
 unfold hwV
 rw [Iu]
 simp only [List.map_cons, List.map_nil, Gu.1, Gu.2.1, Gu.2.2]
theorem Ja : kB exT (hwn [99, 111, 109]) = true := by
 unfold kB
 rw [AJ]
 decide
theorem Dh : be exT (hwn [99, 111, 109]) = [1] := by
 have h := AJ
 rw [qa] at h
 cases hw : be exT (hwn [99, 111, 109]) with
 | nil => rw [hw] at h; cases h
 | cons x r =>
   rw [hw] at h
   simp only [List.map_cons, List.cons.injEq, List.map_eq_nil_iff] at h
   rw [h.2, show x = 1 by omega]
set_option maxHeartbeats 1000000 in
theorem lO (w : World) (he : Env w) : Calls prog dj #[] w (Ret fun v w' => v = .bool true /\ Below w.heap.size w w') := by
 apply pt
 unfold kD
 intro k8 w8 hk8 hw8
 have b8 := (hw8 ▸ ah w _ : Below w.heap.size w w8)
 have O8 : Ow tS ar w8 NoB (some ⟨k8, 0, none⟩) 2 2 [[97], [99, 111, 109]] :=
   Ow.newF (l := [Value.string (mkS [97]), .string (mkS [99, 111, 109])]) (T := tS) (dP _) hk8 hw8 (fv (e := fun s => Value.string (mkS s)) (h1 := fun _ => rfl) (p := fun _ => True) (xs := [[97], [99, 111, 109]]) (fun _ _ => trivial)) (by decide)
 refine ax (jz _ _ _ _ (by decide) w8 O8.all) ?_
 rintro _ w9 ⟨p, rfl, hA, b9⟩
 rw [Iw] at hA
 have B9 := ab b8 b9 b8.size
 refine ⟨p, rfl, af.no (by have := hA.some; cases p with | none => cases this | some q => rfl) ?_⟩
 refine ax (lv _ w9) ?_
 rintro _ w13 ⟨rfl, b13⟩
 have B13 := ab B9 b13 B9.size
 have hA13 := hA.below b13
 refine ⟨_, rfl, ?_⟩
 refine ax (lP (h := hwn [98, 46, 97, 46, 99, 111, 109]) rfl (by decide) (he.step B13) hA13) ?_
 rintro _ w14 ⟨a14, n14, c14, rfl, oW, fW, b14⟩
 have B14 := ab B13 b14 B13.size
 have hA14 := hA13.below b14
 rw [E1] at oW
 refine ⟨a14, n14, c14, rfl, ?_⟩
 refine ax (lv _ w14) ?_
 rintro _ w17 ⟨rfl, b17⟩
 have B17 := ab B14 b17 B14.size
 have hA17 := hA14.below b17
 refine ⟨_, rfl, ?_⟩
 refine ax (kK (h := hwn [99, 111, 109]) rfl (by decide) (he.step B17) hA17 (by decide)) ?_
 intro v w18 hS
 rw [Ja] at hS
 obtain ⟨a1, n1, c1, b1, m1, e1, rfl, O, b18⟩ := hS
 have B18 := ab B17 b18 B17.size
 have hA18 := hA17.below b18
 refine ⟨_, _, a1, n1, c1, b1, m1, e1, _, rfl, ?_⟩
 intro k3 w3 hk3 hw3
 have b3 := (hw3 ▸ ah w18 _ : Below w18.heap.size w18 w3)
 have A3 : am w3 k3 aj [.int .i64 0, .int .i64 0, .slice none 0 0, .slice none 0 0] := am.new hk3 hw3
 obtain ⟨wx, s1, v1, g1⟩ := bs.store0 (P := prog) (cs := daL a1 n1 c1 b1 m1 e1 (jM exT (hwn [99, 111, 109]) false)) rfl (kJ _ _ _ _ _ _ _) A3 rfl
 have bx := Below.put b3 g1 (by omega)
 have Bx := ab B18 bx B18.size
 have hAx := hA18.below bx
 refine ⟨wx, s1, _, _, a1, n1, c1, b1, m1, e1, bs.load0 (cs := daL a1 n1 c1 b1 m1 e1 (jM exT (hwn [99, 111, 109]) false)) v1 rfl, ?_⟩
 have hlen : (be exT (hwn [99, 111, 109])).length <= 127 := by rw [Dh]; decide
 have hch := yk (ts := exT) (by decide) (h := hwn [99, 111, 109]) rfl hlen rfl false
 rw [Dh] at hch
 have hK : (jM exT (hwn [99, 111, 109]) false).K = 3 := by unfold DA.K; rw [vz]; rfl
 refine ax (f0 (he.step Bx) hAx (by decide) (by decide) (O.das.below bx) (fun h1 h2 => ?_)) ?_
 · refine zk h1 (BU (by decide)) (by rw [h2, C5]) ?_
   have h3 := (Av (ts := exT) (by decide) (h := hwn [99, 111, 109]) rfl hlen false).2
   have h4 : (xG exT).n = 4 := rfl
   rw [h4]
   omega
 rintro v w24 ⟨b24, hv⟩
 have hhB : hB exT (jM exT (hwn [99, 111, 109]) false) = true := by
   unfold hB
   rw [ff.2 hch.ok, vz]; rfl
 rw [if_pos hhB] at hv
 obtain ⟨r, hr, _, rfl⟩ := hv
 have hr' := Gp (fun v => by rw [hch.lang v, hK]; rfl) hr
 subst hr'
 have B24 := ab Bx b24 Bx.size
 refine ⟨_, _, _, rfl, ?_⟩
 intro k5 w5 hk5 hw5
 have b5 := (hw5 ▸ ah w24 _ : Below w24.heap.size w24 w5)
 have A5 : am w5 k5 ae gj.cells := am.new hk5 hw5
 obtain ⟨wy, s2, v2, g2⟩ := aB.store0 (P := prog) (cs := exH.cells) rfl (Hst.one _) A5 rfl
 have by_ := Below.put b5 g2 (by omega)
 have By := ab B24 by_ B24.size
 have b14y : Below w14.heap.size w14 wy := ab (ab (ab b17 (ab b18 bx b18.size) b17.size) b24 (by have := b17.size; have := b18.size; have := bx.size; omega)) by_ (by have := b17.size; have := b18.size; have := bx.size; have := b24.size; omega)
 refine ⟨wy, s2, ?_⟩
 intro k29 hk29
 have oWy := oW.below b14y
 refine ⟨true, fun u hu hc => ?_, af.yes rfl (af.yes rfl (af.yes rfl (af.yes rfl ⟨exH.v, fun u hu hc => aB.load0 (v2.below hu) rfl, (hwn [97, 46, 99, 111, 109]).v, fun u hu hc => ?_, true, fun u hu hc => ?_, fun wq hq hc => ⟨rfl, ab By hq By.size⟩⟩)))⟩
 · have hlit : Sl i7 u gT (some ⟨k29, 0, none⟩) 3 3 [1, 0, 2] := by
     refine ⟨rfl, Nat.le_refl _, by decide, .inr ⟨k29, 0, rfl, (Array.getElem?_eq_some_iff.1 hc).1, trivial, [.int .i64 1, .int .i64 0, .int .i64 2], fv (e := fun n => Value.int .i64 n) (h1 := fun _ => rfl) (p := fun _ => True) (xs := [1, 0, 2]) (fun _ _ => trivial), fun j hj => ?_⟩⟩
     rw [eQ hc, Nat.zero_add]; simp
   refine (zR (oWy.below hu).all hlit).mono ?_
   rintro e w' ⟨v, rfl, rfl, hb⟩
   exact ⟨rfl, hb⟩
 · refine (lv _ u).mono ?_
   rintro e w' ⟨v, rfl, rfl, hb⟩
   exact ⟨rfl, hb⟩
 · exact yy (h := exH) (g := hwn [97, 46, 99, 111, 109]) rfl rfl u
end Go.Proofs.YtpafoodmpjlkhaaGreatDoor
