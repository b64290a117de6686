/- What the laws lean on: JarA, JarB, JarC, JarD, JarE, JlwT, V14, JlwA, JlwB; what is used. Its conditions: none. -/
import Derived.Test.YtlfolncaghkmcaaGreatDoorKI
open Go.IntKind (i64)
open Go.Proofs.Tryz (prog)
set_option linter.unusedVariables false
set_option linter.unusedSectionVars false
set_option linter.unusedSimpArgs false
set_option maxRecDepth 20000
namespace Go.Pk
open Go.RowKit (Below)
theorem qjH.chg {F : List Nat} {w0 : World} {t te : TypeId} {kt km : Nat} {a : Option Addr} {n c : Nat} {ps : List Pth} {kvs : List (qjj × Int)} {es : List (List Bool)} {rs : List Rul} {w w' : World} (S : qjH w0 t te kt km a n c ps kvs es rs w) (h : Chg F w w')
   (hF : ∀ k ∈ F, w0.heap.size <= k /\ k ≠ kt /\ k ≠ km /\ ownB a ≠ some k) : qjH w0 t te kt km a n c ps kvs es rs w' :=
 ⟨h.arr S.h1 fun m => (hF _ m).2.1 rfl, S.h2.keep (h.block km S.h2.lt fun m => (hF _ m).2.2.1 rfl), S.h3.keep (h.keep.mono fun b hb m => hb.elim (fun x => x.elim) fun e => (hF _ m).2.2.2 e.symm), S.T, S.t,
   S.hb.trans (h.below S.hb.size fun k hk => (hF k hk).1), S.ne, S.og, S.kt0, S.km0⟩
structure JarC (w0 : World) (tj ts tt te : TypeId) (pj p ma ms kt km : Nat) (a : Option Addr) (n c : Nat) (ps : List Pth) (kvs : List (qjj × Int)) (es : List (List Bool)) (rs : List Rul) (s : JS) (w : World) : Prop where
 cell : qk w pj tj [.int .i64 s.now, .pointer (some ⟨kt, 0, none⟩), .pointer (some ⟨p, 0, none⟩)]
 shf : Shf ts p ma ms s.L s.last w
 tab : qjH w0 tt te kt km a n c ps kvs es rs w
 far : ∀ k ∈ [pj, p, ma, ms], w0.heap.size <= k /\ k ≠ kt /\ k ≠ km /\ ownB a ≠ some k
 own : pj ∉ [p, ma, ms]
theorem JarC.below {w0 : World} {tj ts tt te : TypeId} {pj p ma ms kt km : Nat} {a : Option Addr} {n c : Nat} {ps : List Pth} {kvs : List (qjj × Int)} {es : List (List Bool)} {rs : List Rul} {s : JS} {w w' : World} (J : JarC w0 tj ts tt te pj p ma ms kt km a n c ps kvs es rs s w) (h : Below w.heap.size w w') : JarC w0 tj ts tt te pj p ma ms kt km a n c ps kvs es rs s w' :=
 ⟨J.cell.below h, J.shf.below h, J.tab.below h, J.far, J.own⟩
theorem JarC.step {w0 : World} {tj ts tt te : TypeId} {pj p ma ms kt km : Nat} {a : Option Addr} {n c : Nat} {ps : List Pth} {kvs : List (qjj × Int)} {es : List (List Bool)} {rs : List Rul} {s : JS} {w w' : World} (J : JarC w0 tj ts tt te pj p ma ms kt km a n c ps kvs es rs s w) {L' : List Kpt} {la : Int}
   (hc : Chg [p, ma, ms] w w') (hs : Shf ts p ma ms L' la w') : JarC w0 tj ts tt te pj p ma ms kt km a n c ps kvs es rs ⟨L', la, s.now⟩ w' :=
 ⟨hc.arr J.cell J.own, hs, J.tab.chg hc fun k hk => J.far k (List.mem_cons_of_mem _ hk), J.far, J.own⟩
theorem JarC.time {w0 : World} {tj ts tt te : TypeId} {pj p ma ms kt km : Nat} {a : Option Addr} {n c : Nat} {ps : List Pth} {kvs : List (qjj × Int)} {es : List (List Bool)} {rs : List Rul} {s : JS} {w w' : World} (J : JarC w0 tj ts tt te pj p ma ms kt km a n c ps kvs es rs s w) {now : Int}
   (hg : w.grownBy w' (some pj)) (hc : qk w' pj tj [.int .i64 now, .pointer (some ⟨kt, 0, none⟩), .pointer (some ⟨p, 0, none⟩)]) : JarC w0 tj ts tt te pj p ma ms kt km a n c ps kvs es rs ⟨s.L, s.last, now⟩ w' :=
 ⟨hc, J.shf.put hg J.own, J.tab.chg (Chg.grown (S := [pj]) hg (List.mem_singleton.2 rfl)) (fun k hk => J.far k (by rw [List.mem_singleton] at hk; subst hk; exact List.mem_cons_self ..)), J.far, J.own⟩
def qyT (w0 : World) (tj ts tt te : TypeId) (pj : Nat) (F : List Nat) (rs : List Rul) (s : JS) (w : World) : Prop :=
 ∃ p ma ms kt km a n c ps kvs es, F = [pj, p, ma, ms] /\ JarC w0 tj ts tt te pj p ma ms kt km a n c ps kvs es rs s w
theorem qyT.below {w0 : World} {tj ts tt te : TypeId} {pj : Nat} {F : List Nat} {rs : List Rul} {s : JS} {w w' : World} (J : qyT w0 tj ts tt te pj F rs s w) (h : Below w.heap.size w w') : qyT w0 tj ts tt te pj F rs s w' := by
 obtain ⟨p, ma, ms, kt, km, a, n, c, ps, kvs, es, e, J⟩ := J
 exact ⟨p, ma, ms, kt, km, a, n, c, ps, kvs, es, e, J.below h⟩
theorem qyT.base {w0 : World} {tj ts tt te : TypeId} {pj : Nat} {F : List Nat} {rs : List Rul} {s : JS} {w : World} (J : qyT w0 tj ts tt te pj F rs s w) : Below w0.heap.size w0 w /\ ∀ k ∈ F, w0.heap.size <= k /\ k < w.heap.size := by
 obtain ⟨p, ma, ms, kt, km, a, n, c, ps, kvs, es, rfl, J⟩ := J
 refine ⟨J.tab.hb, fun k hk => ⟨(J.far k hk).1, ?_⟩⟩
 have h1 := J.shf.lts
 have h2 := J.cell.lt
 simp at hk
 rcases hk with rfl | rfl | rfl | rfl <;> omega
end Go.Pk
namespace Go.Proofs.YtlfolncaghkmcaaGreatDoor
open Go.Pk
open Go.RowKit (Below)
abbrev JarN (w0 : World) (pj : Nat) (F : List Nat) (rs : List Rul) (s : JS) (w : World) : Prop := qyT w0 qg7 qY zj zF pj F rs s w
theorem qzh {w0 : World} {kt km : Nat} {a : Option Addr} {n c : Nat} {ps : List Pth} {kvs : List (qjj × Int)} {es : List (List Bool)} {rs : List Rul} {w : World} (S : qjH w0 zj zF kt km a n c ps kvs es rs w) :
   Calls prog qiD #[.pointer (some ⟨kt, 0, none⟩)] w (Ret fun v w' => ∃ pj F, v = .pointer (some ⟨pj, 0, none⟩) /\ JarN w0 pj F rs (js0 0) w' /\ (∀ k ∈ F, w.heap.size <= k) /\ Below w.heap.size w w') := by
 apply qxZ
 unfold qvk
 refine callK (qjq w) ?_
 rintro _ w4 ⟨p, ma, ms, rfl, hs, l1, l2, l3, hb⟩
 refine ⟨_, rfl, fun k6 w6 hk6 hw6 => ?_⟩
 have b6 : Below w4.heap.size w4 w6 := hw6 ▸ qj w4 _
 have h6 : qk w6 k6 qg7 [.int .i64 0, .pointer (some ⟨kt, 0, none⟩), .pointer (some ⟨p, 0, none⟩)] := qk.new hk6 hw6
 have hl := hs.lts
 have t1 := S.h1.lt
 have t2 := S.h2.lt
 have t3 := S.h3.lt
 have sz := S.hb.size
 have sw := hb.size
 have hF : ∀ k ∈ [k6, p, ma, ms], w.heap.size <= k := fun k hk => by
   simp at hk
   rcases hk with rfl | rfl | rfl | rfl <;> omega
 refine ⟨k6, [k6, p, ma, ms], rfl, ⟨p, ma, ms, kt, km, a, n, c, ps, kvs, es, rfl, h6, hs.below b6, (S.below hb).below b6, fun k hk => ?_, ?_⟩, hF, qd hb b6 hb.size⟩
 · have := hF k hk
   exact ⟨by omega, by omega, by omega, fun e => by have := t3 _ e; omega⟩
 · simp; omega
section
variable {w0 : World} {pj : Nat} {F : List Nat} {rs : List Rul} {s : JS} {w : World}
theorem qhW (J : JarN w0 pj F rs s w) (hl : s.L.length <= 1000000) (hla : s.last <= 4611686018427387904) : Calls prog jJ #[.pointer (some ⟨pj, 0, none⟩)] w (Ret fun v w' => ∃ (a : Option Addr) (n c : Nat), v = .slice a n c /\ Ow tCky qe w' NoB a n c (s.L.map Kpt.c) /\ zq w.heap.size a /\ Below w.heap.size w w') := by
 obtain ⟨p, ma, ms, kt, km, a, n, c, ps, kvs, es, rfl, J⟩ := J
 apply qpM
 unfold qk0
 refine ⟨rfl, rfl, _, J.cell.load1 jL rfl (i := 2) rfl, ?_⟩
 refine callK (qnS J.shf hl hla) ?_
 rintro _ w7 ⟨a', n', c', rfl, h⟩
 exact ⟨_, _, _, rfl, _, _, _, rfl, h⟩
def JarS (w0 : World) (pj : Nat) (F : List Nat) (rs : List Rul) (s' : JS) (w w' : World) : Prop := ∃ F', JarN w0 pj F' rs s' w' /\ Chg F w w' /\ ∀ k ∈ F', k ∈ F \/ w.heap.size <= k
theorem JarS.same {w' : World} {s' : JS} (J : JarN w0 pj F rs s' w') (hc : Chg F w w') : JarS w0 pj F rs s' w w' := ⟨F, J, hc, fun k hk => .inl hk⟩
theorem qkh (J : JarN w0 pj F rs s w) {m : Nat} (ji : JI s m) (hm : m <= 1000000) (n : Int) (hn : n <= 9223372036854775807) :
   Calls prog z7 #[.pointer (some ⟨pj, 0, none⟩), .int .i64 n] w (Ret fun v w' => v = .int .i64 (qcj s n).2 /\ JarS w0 pj F rs (qcj s n).1 w w') := by
 have J' := J
 obtain ⟨p, ma, ms, kt, km, a, n', c, ps, kvs, es, rfl, J⟩ := J
 apply qsb
 unfold qob
 have h0 := ji.n0
 have h1 := ji.n1
 have hf := ji.few
 have hw : i64.wrap ((1099511627776 : Int) - s.now) = 1099511627776 - s.now := wrap_i64 (by omega) (by omega)
 have bad : n < 0 \/ 1099511627776 - s.now < n -> (Value.int .i64 122 = .int .i64 (qcj s n).2 /\ JarS w0 pj [pj, p, ma, ms] rs (qcj s n).1 w w) := fun e => by
   unfold qcj
   rw [if_pos e]
   exact ⟨rfl, JarS.same J' (Chg.refl _ _)⟩
 refine ⟨fun wj => wj = w /\ ¬ (n < 0 \/ 1099511627776 - s.now < n), ?_, AllJ.of ?_ _⟩
 · refine BCase.of (fun e => bad (.inl (of_decide_eq_true e))) (fun e => ⟨rfl, rfl, rfl, _, J.cell.load1 un_int64 rfl (i := 0) rfl, ?_⟩)
   rw [hw]
   refine BCase.of (fun e2 => bad (.inr (of_decide_eq_true e2))) (fun e2 => ⟨rfl, ?_⟩)
   have := of_decide_eq_false e
   have := of_decide_eq_false e2
   omega
 · rintro wj ⟨hwj, hno⟩
   rw [hwj]
   have hw2 : i64.wrap (s.now + n) = s.now + n := wrap_i64 (by omega) (by omega)
   obtain ⟨wx, q1, c2, g1⟩ := J.cell.put j8 (i := 0) (v := .int .i64 (s.now + n)) (show 0 < 3 by decide) rfl rfl
   have Jx := J.time g1 c2
   refine ⟨rfl, rfl, rfl, _, J.cell.load1 un_int64 rfl (i := 0) rfl, rfl, rfl, rfl, wx, by rw [hw2]; exact q1, rfl, rfl, rfl, rfl, rfl, _, fun u hu => (Jx.below hu).cell.load1 jL rfl (i := 2) rfl, _, fun u hu => (Jx.below hu).cell.load1 un_int64 rfl (i := 0) rfl, fun wq hq => ?_⟩
   refine callK (qnT (Jx.below hq).shf (by show s.L.length <= _; omega) (s.now + n)) ?_
   rintro _ w36 ⟨⟨n36, rfl⟩, hs, hc⟩
   refine ⟨_, rfl, ?_⟩
   unfold qcj
   rw [if_neg hno]
   refine ⟨rfl, JarS.same ⟨p, ma, ms, kt, km, a, n', c, ps, kvs, es, rfl, (Jx.below hq).step hc hs⟩ ?_⟩
   exact ((Chg.grown g1 (List.mem_cons_self ..)).step hq).trans (hc.mono fun k hk => List.mem_cons_of_mem _ hk)
theorem qxG {c : Cky} (o : c.ok) (s : CkSm c) (w : World) : Calls prog qq1 #[c.v] w (Ret fun v w' => v = .string (mkS (qeW c)) /\ Below w.heap.size w w') := by
 apply qwZ
 unfold qtX
 intro k1 w1 hk1 hw1
 obtain ⟨b1, B1, l1⟩ := boxB (P := prog) (Below.refl w.heap.size w) hk1 hw1
 have a1 : qk w1 k1 qe c.cells := qk.new hk1 hw1
 have h1 := s.nm
 have h2 := s.vl
 unfold qeW
 refine ⟨rfl, _, a1.load1 un_string rfl (i := 0) rfl, BCase.of (fun e => ?_) (fun e => ?_)⟩
 · have e : c.name = [] := by simpa using e
   rw [if_pos e]
   exact ⟨rfl, _, a1.load1 un_string rfl (i := 1) rfl, rfl, B1⟩
 · have e : ¬ c.name = [] := by simpa using e
   rw [if_neg e]
   refine ⟨rfl, _, a1.load1 un_string rfl (i := 0) rfl, fits (by simp; omega), fun s1 hs1 => ⟨rfl, _, a1.load1 un_string rfl (i := 1) rfl, fits (by rw [hs1]; simp; omega), fun s2 hs2 => ⟨by rw [hs2, hs1], B1⟩⟩⟩
theorem qxH (he : Env w0) (J : JarN w0 pj F rs s w) {c : Cky} (o : c.ok) (hn : c.host.name.length <= 1000000000) :
   Calls prog qla #[.pointer (some ⟨pj, 0, none⟩), c.v] w (Ret fun v w' => v = .string (mkS (qda rs c.host)) /\ Below w.heap.size w w') := by
 obtain ⟨p, ma, ms, kt, km, a, n, c', ps, kvs, es, rfl, J⟩ := J
 apply qsc
 unfold qoc
 intro k3 w3 hk3 hw3
 obtain ⟨b3, B3, l3⟩ := boxB (P := prog) (Below.refl w.heap.size w) hk3 hw3
 have a3 : qk w3 k3 qe c.cells := qk.new hk3 hw3
 have J3 := J.below B3
 have lh : ∀ {wx}, Below w3.heap.size w3 wx -> (Instr.loadAt qf (.pointer (some ⟨k3, 2, none⟩))).run prog wx = .ok c.host.v wx := fun hb => qv.load (a3.below hb) (i := 2) (us := c.host.cells) (Hst.len o) (fun j hj => qaP o hj)
 refine ⟨rfl, rfl, _, fun u hu => (J3.below hu).cell.load1 qlH rfl (i := 1) rfl, rfl, _, fun u hu => lh hu, qlE rs c.host, fun u hu => ?_, fun wq hq => ?_⟩
 · refine (quP he (J3.below hu).tab o hn).mono ?_
   rintro e w' ⟨v, rfl, rfl, hb⟩
   exact ⟨rfl, hb.mono hu.size⟩
 · have Bq := qd B3 hq B3.size
   unfold qda
   refine BCase.of (fun e => ?_) (fun e => ?_)
   · have e : ¬ qlE rs c.host = [] := by simpa using e
     rw [if_neg e]
     exact ⟨rfl, Bq⟩
   · have e : qlE rs c.host = [] := by simpa using e
     rw [if_pos e]
     refine ⟨rfl, _, lh hq, ?_⟩
     refine callK (qnv o wq (he.step (J3.below hq).tab.hb)) ?_
     rintro _ w18 ⟨rfl, hb18⟩
     exact ⟨_, rfl, rfl, qd Bq hb18 Bq.size⟩
end
end Go.Proofs.YtlfolncaghkmcaaGreatDoor
namespace Go.Proofs.YtlfolncaghkmcaaGreatDoor
open Go.Pk
open Go.RowKit (Below)
theorem qzo {x c : Cky} (ox : x.ok) (oc : c.ok) (xn : x.host.name.length <= 1000000000) (cn : c.host.name.length <= 1000000000) (xp : x.path.length <= 1000000000) (cp : c.path.length <= 1000000000) {w : World} (he : Env w) {kq : Nat} (hq : qk w kq qe c.cells) :
   Calls prog zX #[x.v, .pointer (some ⟨kq, 0, none⟩)] w (Ret fun v w' => v = .bool (qhn x c) /\ Below w.heap.size w w') := by
 apply qmt
 unfold qiW
 intro k2 w2 hk2 hw2
 obtain ⟨b2, B2, l2⟩ := boxB (P := prog) (Below.refl w.heap.size w) hk2 hw2
 have a2 : qk w2 k2 qe x.cells := qk.new hk2 hw2
 have a3 := hq.below B2
 have he2 := he.step B2
 have lx : ∀ {wx}, Below w2.heap.size w2 wx -> (Instr.loadAt qf (.pointer (some ⟨k2, 2, none⟩))).run prog wx = .ok x.host.v wx := fun hb => qv.load (a2.below hb) (i := 2) (us := x.host.cells) (Hst.len ox) (fun j hj => qaP ox hj)
 have lc : ∀ {wx}, Below w2.heap.size w2 wx -> (Instr.loadAt qf (.pointer (some ⟨kq, 2, none⟩))).run prog wx = .ok c.host.v wx := fun hb => qv.load (a3.below hb) (i := 2) (us := c.host.cells) (Hst.len oc) (fun j hj => qaP oc hj)
 have b0 := Below.refl w2.heap.size w2
 refine qgN (fun b w' => b = (domB x.host c.host || domB c.host x.host) /\ Below w2.heap.size w2 w') ?_ ?_
 · refine ⟨rfl, _, lx b0, rfl, _, lc b0, ?_⟩
   refine callK (qiK ox oc xn cn w2 he2) ?_
   rintro _ w4 ⟨rfl, hb4⟩
   refine ⟨_, rfl, BCase.of (fun e => ⟨by rw [e]; rfl, hb4⟩) (fun e => ?_)⟩
   refine ⟨rfl, _, lc hb4, rfl, _, lx hb4, ?_⟩
   refine callK (qiK oc ox cn xn w4 (he2.step hb4)) ?_
   rintro _ w5 ⟨rfl, hb5⟩
   exact ⟨_, rfl, by rw [e]; rfl, qd hb4 hb5 hb4.size⟩
 · rintro b wj ⟨rfl, hbj⟩
   have hBj := qd B2 hbj B2.size
   have c2 := a2.below hbj
   have c3 := a3.below hbj
   unfold qhn
   refine ⟨rfl, _, c2.load1 un_bool rfl (i := 22) (qE ox 2), BCase.of (fun e => ?_) (fun e => ⟨by rw [e]; rfl, hBj⟩)⟩
   refine ⟨rfl, _, c2.load1 un_string rfl (i := 0) rfl, rfl, _, c3.load1 un_string rfl (i := 0) rfl, BCase.of (fun e2 => ?_) (fun e2 => ⟨by rw [e, e2]; rfl, hBj⟩)⟩
   refine BCase.of (fun e3 => ?_) (fun e3 => ⟨by rw [e, e2, e3]; rfl, hBj⟩)
   refine ⟨rfl, _, c3.load1 un_string rfl (i := 21) (qE oc 1), rfl, _, c2.load1 un_string rfl (i := 21) (qE ox 1), ?_⟩
   refine callK (qqd c.path x.path (by omega) wj) ?_
   rintro _ w6 ⟨rfl, hw6⟩
   rw [hw6]
   exact ⟨_, rfl, by rw [e, e2, e3]; rfl, hBj⟩
theorem qxT {A : Bl} {a : Option Addr} {l c' : Nat} {xs : List Cky} {w : World} (hs : Sl tCky w A a l c' xs) (hl : xs.length <= 1000000) (hx : ∀ x ∈ xs, x.ok /\ x.host.name.length <= 1000000000 /\ x.path.length <= 1000000000) {c : Cky} (oc : c.ok) (cn : c.host.name.length <= 1000000000) (cp : c.path.length <= 1000000000)
   (he : Env w) {kq : Nat} (hq : qk w kq qe c.cells) :
   Calls prog zx #[.slice a l c', .func (.func zX) #[] #[.pointer (some ⟨kq, 0, none⟩)]] w (Ret fun v w' => (∃ n : Int, v = .int .i64 n /\ decide (n >= 0) = xs.any fun x => qhn x c) /\ Below w.heap.size w w') := by
 apply qc4
 unfold j0
 have hn := hs.len
 subst hn
 refine ⟨fun m i wl => ∃ k : Nat, k <= xs.length /\ i = (k : Int) /\ m = xs.length - k /\ (∀ x ∈ xs.take k, qhn x c = false) /\ Below w.heap.size w wl, ⟨_, 0, by omega, rfl, rfl, (fun x hx => by rw [List.take_zero] at hx; cases hx), Below.refl _ _⟩, ?_⟩
 intro m1 i1
 refine AllJ.of ?_ _
 rintro wl ⟨k, hk, rfl, rfl, hno, hbl⟩
 refine BCase.of (fun hi => ?_) (fun hi => ?_) <;> simp only [dTx, dFx] at hi
 · have hlt : k < xs.length := by omega
   have hsl := hs.below hbl
   obtain ⟨hld, -⟩ := qay qn hsl hlt
   refine ⟨⟨⟨by omega, by omega⟩, hsl.isSome hlt⟩, _, hld, ?_⟩
   have hmem := List.getElem_mem hlt
   obtain ⟨ox, xn, xp⟩ := hx _ hmem
   have hwk : i64.wrap ((k : Int) + 1) = ((k + 1 : Nat) : Int) := by rw [wrap_i64 (by omega) (by omega)]; omega
   rw [hwk]
   refine callK (qzo ox oc xn cn xp cp (he.step hbl) (hq.below hbl)) ?_
   rintro _ w16 ⟨rfl, hb16⟩
   have b16 := qd hbl hb16 hbl.size
   refine ⟨_, rfl, BCase.of (fun e => ⟨⟨_, rfl, ?_⟩, b16⟩) (fun e => ⟨xs.length - (k + 1), by omega, k + 1, by omega, rfl, rfl, ?_, b16⟩)⟩
   · rw [decide_eq_true (show (k : Int) >= 0 by omega)]
     exact (List.any_eq_true.2 ⟨_, hmem, e⟩).symm
   · intro y hy
     rw [take_snoc hlt, List.mem_append] at hy
     rcases hy with hy | hy
     · exact hno y hy
     · rw [List.mem_singleton] at hy; subst hy; exact e
 · have : k = xs.length := by omega
   subst this
   rw [List.take_length] at hno
   refine ⟨⟨_, rfl, ?_⟩, hbl⟩
   rw [show decide ((-1 : Int) >= 0) = false by decide]
   symm
   rw [List.any_eq_false]
   intro x hx; rw [hno x hx]; decide
section
variable {w0 : World} {pj : Nat} {F : List Nat} {rs : List Rul} {s : JS} {w : World}
theorem qs0 (he : Env w0) (J : JarN w0 pj F rs s w) {m : Nat} (ji : JI s m) (hm : m <= 1000000) {c : Cky} (oc : c.ok) (cn : c.host.name.length <= 1000000000) (cp : c.path.length <= 1000000000) :
   Calls prog qiC #[.pointer (some ⟨pj, 0, none⟩), c.v] w (Ret fun v w' => v = .bool (s.L.any fun k => qhn k.c c) /\ Below w.heap.size w w') := by
 have hbs := J.base.1
 obtain ⟨p, ma, ms, kt, km, a, n, c', ps, kvs, es, rfl, J⟩ := J
 apply qoH
 unfold qkE
 intro k3 w3 hk3 hw3
 obtain ⟨b3, B3, l3⟩ := boxB (P := prog) (Below.refl w.heap.size w) hk3 hw3
 have a3 : qk w3 k3 qe c.cells := qk.new hk3 hw3
 have J3 := J.below B3
 have hf := ji.few
 have hla := ji.last
 refine ⟨rfl, rfl, _, J3.cell.load1 jL rfl (i := 2) rfl, ?_⟩
 refine callK (qnS J3.shf (by omega) (by omega)) ?_
 rintro _ w9 ⟨a', n', c'', rfl, ho, hfr, hb9⟩
 have B9 := qd B3 hb9 B3.size
 refine ⟨_, _, _, rfl, ?_⟩
 refine callK (?_ : Calls prog qav #[.slice a' n' c'', .func (.func zX) #[] #[.pointer (some ⟨k3, 0, none⟩)]] w9 (Ret fun v w' => v = .bool (s.L.any fun k => qhn k.c c) /\ Below w.heap.size w w')) ?_
 · apply qcq
   unfold jH
   refine callK (qxT ho.all (by rw [List.length_map]; omega) (fun x hx => ?_) oc cn cp (he.step (qd hbs B9 hbs.size)) (a3.below hb9)) ?_
   · obtain ⟨k, hk, rfl⟩ := List.mem_map.1 hx
     have h1 := qci k.ok (ji.right k hk)
     have h2 := (ji.sm k hk).pt
     exact ⟨k.ok, by omega, by omega⟩
   · rintro _ w7 ⟨⟨n7, rfl, hn⟩, hb7⟩
     refine ⟨_, rfl, ?_, qd B9 hb7 B9.size⟩
     rw [hn, List.any_map]; rfl
 · rintro _ w11 ⟨rfl, hb⟩
   exact ⟨_, rfl, rfl, hb⟩
theorem qzi (J : JarN w0 pj F rs s w) (hs : ShI s.L s.last) (hl : s.L.length <= 1000000) (t : List UInt8) :
   Calls prog ql3 #[.pointer (some ⟨pj, 0, none⟩), .string (mkS t)] w (Ret fun v w' => v = .tuple #[] /\ JarN w0 pj F rs ⟨fitK t s.L, s.last, s.now⟩ w' /\ Chg F w w') := by
 obtain ⟨p, ma, ms, kt, km, a, n, c', ps, kvs, es, rfl, J⟩ := J
 apply qtu
 unfold qo5
 unfold fitK
 refine ⟨fun m wl => ∃ L' : List Kpt, m = L'.length /\ L'.length <= 1000000 /\ ShI L' s.last /\ FitA t (fit1 t s.L.length s.L) L' /\ JarC w0 qg7 qY zj zF pj p ma ms kt km a n c' ps kvs es rs ⟨L', s.last, s.now⟩ wl /\ Chg [pj, p, ma, ms] w wl,
   ⟨_, s.L, rfl, hl, hs, FitA.of _ _, J, Chg.refl _ _⟩, ?_⟩
 intro m2
 refine AllJ.of ?_ _
 rintro wl ⟨L1, rfl, hL1, hs1, hf1, E1, C1⟩
 refine ⟨rfl, rfl, _, E1.cell.load1 jL rfl (i := 2) rfl, ?_⟩
 refine callK (quM E1.shf t) ?_
 rintro _ w13 ⟨rfl, hw13⟩
 rw [hw13]
 refine ⟨_, rfl, BCase.of (fun e5 => ⟨rfl, rfl, ?_⟩) (fun e5 => ?_)⟩
 · have e5 : 50 < cntK L1 t := by have e5 : ((cntK L1 t : Nat) : Int) > 50 := of_decide_eq_true e5; omega
   obtain ⟨kk, hkk, hkm, hf2⟩ := hf1.next hs1 e5
   refine ⟨_, E1.cell.load1 jL rfl (i := 2) rfl, ?_⟩
   refine callK (qtJ E1.shf t) ?_
   rintro _ w21 ⟨rfl, hb21⟩
   have E2 := E1.below hb21
   refine ⟨_, _, rfl, ?_⟩
   rw [hkk]
   refine qn.new (zs := cky0.cells) (cs := kk.c.cells) (Cky.len (by rfl)) (Cky.len kk.ok) (Cky.one _) w21 fun k4 wx hk4 h4 hb4 => ?_
   have E3 := E2.below hb4
   refine ⟨rfl, rfl, _, fun u hu => (E3.below hu).cell.load1 jL rfl (i := 2) rfl, _, fun u hu => qn.load0 (h4.below hu) (Cky.len kk.ok), fun wq hq => ?_⟩
   have E4 := E3.below hq
   refine callK (qjS E4.shf (by show L1.length <= _; omega) kk.ok) ?_
   rintro _ w29 ⟨rfl, hsh, hc⟩
   have hdl := drop_len hkm
   exact ⟨_, rfl, _, hdl, _, rfl, Nat.le_trans (Nat.le_of_lt hdl) hL1, hs1.filter _, hf2, E4.step hc hsh, ((((C1.step hb21).step hb4).step hq).trans (hc.mono fun k hk => List.mem_cons_of_mem _ hk))⟩
 · have e5 : ¬ 50 < cntK L1 t := by have e5 : ¬ ((cntK L1 t : Nat) : Int) > 50 := of_decide_eq_false e5; omega
   rw [<- hf1.stop e5]
   refine ⟨fun m wl => ∃ L' : List Kpt, m = L'.length /\ L'.length <= 1000000 /\ ShI L' s.last /\ FitB (fit2 L1.length L1) L' /\ JarC w0 qg7 qY zj zF pj p ma ms kt km a n c' ps kvs es rs ⟨L', s.last, s.now⟩ wl /\ Chg [pj, p, ma, ms] w wl,
     ⟨_, L1, rfl, hL1, hs1, FitB.of _, E1, C1⟩, ?_⟩
   intro m3
   refine AllJ.of ?_ _
   rintro wl2 ⟨L2, rfl, hL2, hs2, hf2, F1, C2⟩
   refine ⟨rfl, rfl, _, F1.cell.load1 jL rfl (i := 2) rfl, ?_⟩
   refine callK (qw7 F1.shf) ?_
   rintro _ w34 ⟨rfl, hw34⟩
   rw [hw34]
   refine ⟨_, rfl, BCase.of (fun e6 => ⟨rfl, rfl, ?_⟩) (fun e6 => ?_)⟩
   · have e6 : 3000 < L2.length := by have e6 : ((L2.length : Nat) : Int) > 3000 := of_decide_eq_true e6; omega
     obtain ⟨kk, hkk, hkm, hf3⟩ := hf2.next hs2 e6
     refine ⟨_, F1.cell.load1 jL rfl (i := 2) rfl, ?_⟩
     refine callK (qoK F1.shf) ?_
     rintro _ w41 ⟨rfl, hb41⟩
     have F2 := F1.below hb41
     refine ⟨_, _, rfl, ?_⟩
     rw [hkk]
     refine qn.new (zs := cky0.cells) (cs := kk.c.cells) (Cky.len (by rfl)) (Cky.len kk.ok) (Cky.one _) w41 fun k6 wx hk6 h6 hb6 => ?_
     have F3 := F2.below hb6
     refine ⟨rfl, rfl, _, fun u hu => (F3.below hu).cell.load1 jL rfl (i := 2) rfl, _, fun u hu => qn.load0 (h6.below hu) (Cky.len kk.ok), fun wq hq => ?_⟩
     have F4 := F3.below hq
     refine callK (qjS F4.shf (by show L2.length <= _; omega) kk.ok) ?_
     rintro _ w49 ⟨rfl, hsh, hc⟩
     have hdl := drop_len hkm
     exact ⟨_, rfl, _, hdl, _, rfl, Nat.le_trans (Nat.le_of_lt hdl) hL2, hs2.filter _, hf3, F4.step hc hsh, ((((C2.step hb41).step hb6).step hq).trans (hc.mono fun k hk => List.mem_cons_of_mem _ hk))⟩
   · have e6 : ¬ 3000 < L2.length := by have e6 : ¬ ((L2.length : Nat) : Int) > 3000 := of_decide_eq_false e6; omega
     rw [<- hf2.stop e6]
     exact ⟨rfl, ⟨p, ma, ms, kt, km, a, n, c', ps, kvs, es, rfl, F1⟩, C2⟩
end
end Go.Proofs.YtlfolncaghkmcaaGreatDoor
namespace Go.Proofs.YtlfolncaghkmcaaGreatDoor
open Go.Pk
open Go.RowKit (Below)
section
variable {w0 : World} {pj : Nat} {F : List Nat} {rs : List Rul} {s : JS} {w : World}
theorem qjV (he : Env w0) (J : JarN w0 pj F rs s w) {m : Nat} (ji : JI s m) (hm : m <= 100000) {u : Url} (o : u.ok) (un : u.host.name.length <= 1000000) (up : u.path.length <= 1000000) (t : List UInt8) (ht : t.length <= 10000000) :
   Calls prog qS #[.pointer (some ⟨pj, 0, none⟩), u.v, .string (mkS t)] w (Ret fun v w' => v = .int .i64 (setV rs s u o t).2 /\ JarS w0 pj F rs (setV rs s u o t).1 w w') := by
 have hbs := J.base.1
 obtain ⟨p, ma, ms, kt, km, a, n, c', ps, kvs, es, rfl, J⟩ := J
 apply qtt
 unfold qo4
 intro k4 w4 hk4 hw4
 obtain ⟨b4, B4, l4⟩ := boxB (P := prog) (Below.refl w.heap.size w) hk4 hw4
 have a4 : qk w4 k4 qw u.cells := qk.new hk4 hw4
 have J4 := J.below B4
 have fin : ∀ {wx : World} {e : Int}, Below w.heap.size w wx -> setV rs s u o t = (s, e) -> (Value.int .i64 e = .int .i64 (setV rs s u o t).2 /\ JarS w0 pj [pj, p, ma, ms] rs (setV rs s u o t).1 w wx) := fun {wx e} hb h => by
   rw [h]
   exact ⟨rfl, JarS.same ⟨p, ma, ms, kt, km, a, n, c', ps, kvs, es, rfl, J.below hb⟩ (Chg.of hb)⟩
 refine ⟨_, qd7.load0 a4 (Url.len o), ?_⟩
 refine callK (qrI o (by omega) w4 (he.step (qd hbs B4 hbs.size))) ?_
 rintro _ w12 ⟨rfl, hb12⟩
 have B12 := qd B4 hb12 B4.size
 refine ⟨_, rfl, BCase.of (fun e1 => fin B12 (by unfold setV; rw [if_pos (by simpa using e1)])) (fun e1 => ?_)⟩
 have e1 : ¬ qec u = false := by simpa using e1
 refine callK (qnt t (by omega) w12 (he.step (qd hbs B12 hbs.size))) ?_
 rintro _ w16 ⟨rfl, hb16⟩
 have B16 := qd B12 hb16 B12.size
 refine ⟨_, _, _, _, _, _, _, _, _, _, _, _, rfl, ?_⟩
 refine qle (qR t).1 w16 fun k7 wx hk7 h7 hb7 => ?_
 have Bx := qd B16 hb7 B16.size
 refine BCase.of (fun e2 => fin Bx (by unfold setV; rw [if_neg e1, if_pos (by simpa using e2)])) (fun e2 => ⟨rfl, rfl, rfl, rfl, rfl, ?_⟩)
 have e2 : ¬ (qR t).2 ≠ 0 := by simpa using e2
 have a4x := ((a4.below hb12).below hb16).below hb7
 have Jx := J.below Bx
 have m4 := a4x.lt
 have oc : (takV rs u (qR t).1 s.now).1.ok := qnW o _ _
 have hset : ¬ (takV rs u (qR t).1 s.now).2 ≠ 0 -> setV rs s u o t = if u.sec = false /\ s.L.any (fun k => qhn k.c (takV rs u (qR t).1 s.now).1) = true then (s, 121)
     else (qkK rs s (takV rs u (qR t).1 s.now).1 oc, 0) := fun e => by
   unfold setV; rw [if_neg e1, if_neg e2, if_neg e]
 have hset0 : (takV rs u (qR t).1 s.now).2 ≠ 0 -> setV rs s u o t = (s, (takV rs u (qR t).1 s.now).2) := fun e => by
   unfold setV; rw [if_neg e1, if_neg e2, if_pos e]
 have hck : (takV rs u (qR t).1 s.now).2 = 0 -> CkSm (takV rs u (qR t).1 s.now).1 /\ jh (takV rs u (qR t).1 s.now).1.host = true /\ (takV rs u (qR t).1 s.now).1.born = s.now /\ (takV rs u (qR t).1 s.now).1.used = s.now :=
   fun e => ⟨qvg up (qiL t) e, qox e⟩
 have htake : ∀ u34 : World, Below wx.heap.size wx u34 -> Calls prog qkP #[.pointer (some ⟨kt, 0, none⟩), u.v, (qR t).1.v, .int .i64 s.now] u34 fun e34 w34 => e34 = .returned (ckyT (takV rs u (qR t).1 s.now)) /\ Below u34.heap.size u34 w34 := fun u34 hu => by
   refine (qvv he (Jx.below hu).tab o (by omega) (by omega) (qR t).1 (qiL t) s.now).mono ?_
   rintro e w' ⟨v, rfl, rfl, hb⟩
   exact ⟨rfl, hb⟩
 clear e1 e2
 generalize setV rs s u o t = RES at *
 generalize takV rs u (qR t).1 s.now = ce at *
 obtain ⟨ck, e⟩ := ce
 simp only at oc hset hset0 hck
 unfold ckyT at htake
 refine ⟨_, fun u hu => (Jx.below hu).cell.load1 qlH rfl (i := 1) rfl, _, fun x hx => qd7.load0 (a4x.below hx) (Url.len o), _, _, _, _, _, _, _, _, _, _, _, fun x hx => qaK _ (h7.below hx), _, fun u hu => (Jx.below hu).cell.load1 un_int64 rfl (i := 0) rfl, ck.v, e, htake, ?_⟩
 intro k9 hk9 wq hq hz
 have Bq := qd Bx hq Bx.size
 have hsx := Bx.size
 obtain ⟨w1, q1, h9, g1⟩ := qn.store0 (P := prog) (cs := ck.cells) (Cky.len oc) (Cky.one ck) (show qk wq k9 qe cky0.cells from hz) (Cky.len (by rfl))
 have B1 := Below.put Bq g1 (by omega)
 have J1 := J.below B1
 have a41 : qk w1 k4 qw u.cells := (a4x.below hq).grown g1 (qP (by omega))
 refine ⟨w1, q1, BCase.of (fun e3 => fin B1 (hset0 (by simpa using e3))) (fun e3 => ?_)⟩
 have e3 : e = 0 := by simpa using e3
 obtain ⟨csm, crt, cb, cu⟩ := hck e3
 have hset := hset (by omega)
 have cn := qci oc crt
 have cp := csm.pt
 have hf := ji.few
 have hla := ji.last
 refine ⟨fun wj => Below w1.heap.size w1 wj /\ RES = (qkK rs s ck oc, 0), ?_, AllJ.of ?_ _⟩
 · refine ⟨rfl, _, a41.load1 un_bool rfl (i := 0) rfl, BCase.of (fun e4 => ?_) (fun e4 => ⟨Below.refl _ _, ?_⟩)⟩
   · have e4 : u.sec = false := by simpa using e4
     refine ⟨_, qn.load0 h9 (Cky.len oc), ?_⟩
     refine callK (qs0 (F := [pj, p, ma, ms]) he ⟨p, ma, ms, kt, km, a, n, c', ps, kvs, es, rfl, J1⟩ ji (by omega) oc (by omega) (by omega)) ?_
     rintro _ w46 ⟨rfl, hb46⟩
     refine ⟨_, rfl, BCase.of (fun e5 => fin (qd B1 hb46 B1.size) ?_) (fun e5 => ⟨hb46, ?_⟩)⟩
     · rw [hset, if_pos ⟨e4, e5⟩]
     · rw [hset, if_neg (fun h => by rw [e5] at h; exact absurd h.2 (by decide))]
   · have e4 : ¬ u.sec = false := by simpa using e4
     rw [hset, if_neg (fun h => e4 h.1)]
 · rintro wj ⟨hbj, hres⟩
   have Bj := qd B1 hbj B1.size
   have Jj := J.below Bj
   have h9j := h9.below hbj
   rw [hres]
   clear hset hset0 hck fin hres
   unfold qkK
   refine ⟨_, qn.load0 h9j (Cky.len oc), ?_⟩
   refine callK (qxH (F := [pj, p, ma, ms]) he ⟨p, ma, ms, kt, km, a, n, c', ps, kvs, es, rfl, Jj⟩ oc (by omega)) ?_
   rintro _ w50 ⟨rfl, hb50⟩
   have B50 := qd Bj hb50 Bj.size
   have J50 := J.below B50
   have h950 := h9j.below hb50
   have hpl := qpI s.L s.last ⟨ck, qda rs ck.host, oc⟩
   have hps := ji.sh.put ⟨ck, qda rs ck.host, oc⟩
   refine ⟨_, rfl, rfl, rfl, _, fun x hx => (J50.below hx).cell.load1 jL rfl (i := 2) rfl, _, fun x hx => qn.load0 (h950.below hx) (Cky.len oc), fun wq1 hq1 => ?_⟩
   have B51 := qd B50 hq1 B50.size
   have J51 := J.below B51
   refine callK (qw8 J51.shf (by omega) (by omega) ⟨ck, qda rs ck.host, oc⟩) ?_
   unfold PutP
   generalize putK s.L s.last ⟨ck, qda rs ck.host, oc⟩ = P at *
   generalize qda rs ck.host = st at *
   obtain ⟨Lp, lp⟩ := P
   simp only at hpl hps
   rintro _ w57 ⟨rfl, hs57, c57⟩
   have J57 := J51.step c57 hs57
   refine ⟨_, rfl, rfl, rfl, rfl, rfl, rfl, _, fun x hx => (J57.below hx).cell.load1 jL rfl (i := 2) rfl, _, fun x hx => (J57.below hx).cell.load1 un_int64 rfl (i := 0) rfl, fun wq2 hq2 => ?_⟩
   have J58 := J57.below hq2
   have hes : ShI (expK Lp s.now) lp := hps.filter _
   have hel := qsR Lp s.now
   refine callK (qnT J58.shf (by show Lp.length <= _; omega) s.now) ?_
   rintro _ w67 ⟨⟨n67, rfl⟩, hs67, c67⟩
   have J67 := J58.step c67 hs67
   refine ⟨_, rfl, ?_⟩
   refine callK (qzi (F := [pj, p, ma, ms]) ⟨p, ma, ms, kt, km, a, n, c', ps, kvs, es, rfl, J67⟩ hes (by show (expK Lp s.now).length <= _; omega) st) ?_
   rintro _ w70 ⟨rfl, J70, c70⟩
   have CC : Chg [pj, p, ma, ms] w w70 := ((((Chg.of B51).trans (c57.mono fun k hk => List.mem_cons_of_mem _ hk)).step hq2).trans (c67.mono fun k hk => List.mem_cons_of_mem _ hk)).trans c70
   exact ⟨rfl, rfl, JarS.same J70 CC⟩
end
end Go.Proofs.YtlfolncaghkmcaaGreatDoor
namespace Go.Pk
open Go.RowKit (Below)
theorem qB2 {zs : List Value} (h : One1 zs) (n : Nat) (hz : zs ≠ []) : ∀ v ∈ (Builtin.zeroCells zs.toArray n).toList, v.oneCell' = true := by
 intro v hv
 unfold Builtin.zeroCells at hv
 rw [Array.toList_map] at hv
 obtain ⟨i, _, rfl⟩ := List.mem_map.1 hv
 have hp : 0 < zs.toArray.size := by simpa [List.length_pos_iff] using hz
 have hm := Nat.mod_lt i hp
 rw [getElem!_pos zs.toArray _ hm]
 exact h _ (by simp)
theorem Chg.row {S : List Nat} {a b c : World} {row : Option Nat} (h : Chg S a b) (g : b.grownBy c row) (hr : ∀ r, row = some r -> a.heap.size <= r \/ r ∈ S) : Chg S a c :=
 ⟨g.os.trans h.os, g.tape.trans h.tape, g.output.trans h.output, Nat.le_trans h.size g.size, fun i hi hs => (g.block i (Nat.lt_of_lt_of_le hi h.size) (fun e => by
   rcases hr i e.symm with h1 | h1
   · omega
   · exact hs h1)).trans (h.block i hi hs)⟩
theorem qpX {w0 w w' : World} {a : Option Addr} (h : Below w0.heap.size w0 w) (hg : w.grownBy w' (ownB a)) (hf : zq w0.heap.size a) : Below w0.heap.size w0 w' := h.grown hg h.size fun r e => hf r e
theorem qsV {α : Type} (p : α -> Bool) (l : List α) (x : α) : (l ++ [x]).filter p = if p x = true then l.filter p ++ [x] else l.filter p := by
 rw [List.filter_append, List.filter_cons, List.filter_nil]
 split <;> simp
end Go.Pk
namespace Go.Proofs.YtlfolncaghkmcaaGreatDoor
open Go.Pk
open Go.RowKit (Below)
theorem qB1 (w : World) : (zeroValue qe).run prog w = .ok cky0.v w := by kernel_rfl
theorem qzR {w : World} {a : Option Addr} {n c : Nat} {xs : List Cky} (ho : Ow tCky qe w NoB a n c xs) {i : Nat} (hi : i <= n) :
   ∃ wx, (Builtin.clear_ #[qu] qjk #[.slice (qy a c i 29) (n - i) (c - i)]).run prog w = .ok (.tuple #[]) wx /\ Ow tCky qe wx NoB a i c (xs.take i) /\ w.grownBy wx (ownB a) := by
 obtain ⟨hn, hnc, hcm, ho4⟩ := ho
 by_cases h0 : n - i = 0
 · have : i = n := by omega
   subst this
   refine ⟨w, ?_, ⟨by rw [List.length_take]; omega, hnc, hcm, ?_⟩, ⟨rfl, rfl, rfl, Nat.le_refl _, fun _ _ _ => rfl⟩⟩
   · rw [h0]
     unfold Builtin.clear_
     cases qy a c i 29 <;> simp [jE qgP]
   · rw [hn, List.take_length]
     rcases ho4 with h | ⟨g, cur, fr, h1, h2, h3, h4, h5⟩
     · exact .inl h
     · exact .inr ⟨g, cur, fr, h1, h2, h3, h4, by rw [<- hn]; exact h5⟩
 · rcases ho4 with ⟨_, rfl, rfl⟩ | ⟨g, cur, fr, rfl, hg, hf, hcs, hrep⟩
   · simp at hn; omega
   · have hk : tCky.k = 29 := rfl
     rw [hk] at hcs hrep
     have hzl : (Builtin.zeroCells cky0.v.cells (n - i)).toList.length = (n - i) * 29 := by
       rw [Array.length_toList]
       unfold Builtin.zeroCells
       rw [Array.size_map, Array.size_range]; rfl
     have hz1 := qB2 (Cky.one cky0) (n - i) (by decide)
     obtain ⟨z, hz0⟩ : ∃ z, z = cky0.v := ⟨_, rfl⟩
     have hz : ∀ w, (zeroValue qe).run prog w = .ok z w := fun w => by rw [hz0]; exact qB1 w
     have hz1 : ∀ v ∈ (Builtin.zeroCells z.cells (n - i)).toList, v.oneCell' = true := by rw [hz0]; exact hz1
     rw [<- hz0] at hzl
     clear hz0
     have hfit : i * 29 + 0 + (Builtin.zeroCells z.cells (n - i)).toList.length <= cur.size := by rw [hzl, hcs]; omega
     have hst := qg4 (P := prog) g (i * 29) qe fr (Builtin.zeroCells z.cells (n - i)).toList 0 cur w hg hfit hf hz1
     rw [Nat.add_zero] at hst
     have hsub : qy (some ⟨g, 0, none⟩) c i 29 = some ⟨g, i * 29, none⟩ := by
       unfold qy
       rw [if_neg (by omega)]; simp [Addr.add]; intro h; omega
     obtain ⟨q, hq⟩ : ∃ q, n - i = q + 1 := ⟨n - i - 1, by omega⟩
     refine ⟨w.setRow g (cur.toList.take (i * 29) ++ (Builtin.zeroCells z.cells (n - i)).toList ++ cur.toList.drop (i * 29 + (Builtin.zeroCells z.cells (n - i)).toList.length)).toArray, ?_, ⟨by rw [List.length_take]; omega, by omega, hcm, .inr ⟨g, _, fr, rfl, setRow_heap w g cur _ qe fr hg, ?_, ?_, ?_⟩⟩, qe8 w g _⟩
     · rw [hsub]
       unfold Builtin.clear_
       rw [hq] at hst ⊢
       simp only [] at hst ⊢
       simp [jE qgP, hz, hst, -List.append_assoc]
     · intro j hj
       refine hf j ?_
       rw [List.size_toArray, List.length_append, List.length_append, List.length_take, List.length_drop, Array.length_toList] at hj
       omega
     · rw [hk, List.size_toArray, List.length_append, List.length_append, List.length_take, List.length_drop, Array.length_toList]
       omega
     · have e1 : ((cur.toList.take (i * 29) ++ (Builtin.zeroCells z.cells (n - i)).toList ++ cur.toList.drop (i * 29 + (Builtin.zeroCells z.cells (n - i)).toList.length)).toArray).toList.take (i * tCky.k) = (cur.toList.take (n * 29)).take (i * 29) := by
         rw [hk]
         rw [List.append_assoc, List.take_append_of_le_length (by rw [List.length_take, Array.length_toList]; omega), List.take_take, List.take_take]
         congr 1
         omega
       rw [e1]
       have hlt : (cur.toList.take (n * 29)).length = n * 29 := by have := hrep.len; rw [hk] at this; rw [this, <- hn]
       refine ⟨by rw [List.length_take, hlt, hk, List.length_take]; omega, fun j hj => ?_⟩
       have hj2 : j < xs.length := by rw [List.length_take] at hj; omega
       have hji : j < i := by rw [List.length_take] at hj; omega
       have h1 := (hrep.rep j hj2)
       rw [hk] at h1 ⊢
       rw [List.getElem_take]
       have e2 : (((cur.toList.take (n * 29)).take (i * 29)).drop (j * 29)).take 29 = ((cur.toList.take (n * 29)).drop (j * 29)).take 29 := by
         rw [List.drop_take, List.take_take]
         congr 1
         omega
       rw [e2]
       exact ⟨h1.1, h1.2⟩
section
variable {w0 : World} {pj : Nat} {F : List Nat} {rs : List Rul} {s : JS} {wb : World} {r : Req} {kr kp : Nat}
structure GetE (w0 : World) (pj : Nat) (F : List Nat) (rs : List Rul) (s : JS) (r : Req) (kr kp : Nat) (wb : World) : Prop where
 he : Env w0
 J : JarN w0 pj F rs s wb
 hr : qk wb kr qD r.cells
 hp : qk wb kp qfb [.pointer (some ⟨pj, 0, none⟩)]
 or : r.ok
 rn : r.host.name.length <= 1000000000
theorem qAi (G : GetE w0 pj F rs s r kr kp wb) {x : Cky} (ox : x.ok) (xn : x.host.name.length <= 1000000000) (xp : x.path.length <= 1000000000) {w : World} (hb : Below wb.heap.size wb w) :
   Calls prog j9 #[x.v, .pointer (some ⟨kr, 0, none⟩), .pointer (some ⟨kp, 0, none⟩)] w (Ret fun v w' => v = .bool (!jQ x r s.now) /\ Below w.heap.size w w') := by
 obtain ⟨he, J, hr, hp, or, rn⟩ := G
 have hbs := J.base.1
 obtain ⟨p, ma, ms, kt, km, a, n, c', ps, kvs, es, rfl, J⟩ := J
 apply qqt
 unfold qlK
 intro k3 w3 hk3 hw3
 obtain ⟨b3, B3, l3⟩ := boxB (P := prog) (Below.refl w.heap.size w) hk3 hw3
 have a3 : qk w3 k3 qe x.cells := qk.new hk3 hw3
 have bb3 := qd hb B3 hb.size
 have J3 := J.below bb3
 have hr3 := hr.below bb3
 have hp3 := hp.below bb3
 refine ⟨_, fun u hu => qn.load0 (a3.below hu) (Cky.len ox), _, fun u hu => qco.load0 (hr3.below hu) (Req.len or), _, fun u hu => (hp3.below hu).load1 qkZ rfl (i := 0) rfl, rfl, rfl, rfl, _, fun u hu => (J3.below hu).cell.load1 un_int64 rfl (i := 0) rfl, jQ x r s.now, fun u hu => ?_, fun wq hq => ⟨rfl, qd B3 hq B3.size⟩⟩
 refine (quk ox or xn rn (by omega) s.now u (he.step (qd (qd hbs bb3 hbs.size) hu (qd hbs bb3 hbs.size).size))).mono ?_
 rintro e w' ⟨v, rfl, rfl, hb'⟩
 exact ⟨rfl, hb'.mono hu.size⟩
theorem qxF (G : GetE w0 pj F rs s r kr kp wb) {A : Bl} {a : Option Addr} {l c' : Nat} {xs : List Cky} {w : World} (hs : Sl tCky w A a l c' xs) (hl : xs.length <= 1000000) (hx : ∀ x ∈ xs, x.ok /\ x.host.name.length <= 1000000000 /\ x.path.length <= 1000000000) (hb : Below wb.heap.size wb w) :
   Calls prog zx #[.slice a l c', .func (.func j9) #[] #[.pointer (some ⟨kr, 0, none⟩), .pointer (some ⟨kp, 0, none⟩)]] w
     (Ret fun v w' => ((v = .int .i64 (-1) /\ ∀ x ∈ xs, jQ x r s.now = true) \/ ∃ k : Nat, v = .int .i64 (k : Int) /\ k < xs.length /\ ∀ x ∈ xs.take k, jQ x r s.now = true) /\ (∀ k : Nat, v = .int .i64 (k : Int) -> ∀ h : k < xs.length, jQ xs[k] r s.now = false) /\ Below w.heap.size w w') := by
 apply qdz
 unfold qaC
 have hn := hs.len
 subst hn
 refine ⟨fun m i wl => ∃ k : Nat, k <= xs.length /\ i = (k : Int) /\ m = xs.length - k /\ (∀ x ∈ xs.take k, jQ x r s.now = true) /\ Below w.heap.size w wl, ⟨_, 0, by omega, rfl, rfl, (fun x hx => by rw [List.take_zero] at hx; cases hx), Below.refl _ _⟩, ?_⟩
 intro m1 i1
 refine AllJ.of ?_ _
 rintro wl ⟨k, hk, rfl, rfl, hno, hbl⟩
 refine BCase.of (fun hi => ?_) (fun hi => ?_) <;> simp only [dTx, dFx] at hi
 · have hlt : k < xs.length := by omega
   have hsl := hs.below hbl
   obtain ⟨hld, -⟩ := qay qn hsl hlt
   refine ⟨⟨⟨by omega, by omega⟩, hsl.isSome hlt⟩, _, hld, ?_⟩
   have hmem := List.getElem_mem hlt
   obtain ⟨ox, xn, xp⟩ := hx _ hmem
   have hwk : i64.wrap ((k : Int) + 1) = ((k + 1 : Nat) : Int) := by rw [wrap_i64 (by omega) (by omega)]; omega
   rw [hwk]
   refine callK (qAi G ox xn xp (qd hb hbl hb.size)) ?_
   rintro _ w16 ⟨rfl, hb16⟩
   have b16 := qd hbl hb16 hbl.size
   refine ⟨_, rfl, BCase.of (fun e => ⟨.inr ⟨k, rfl, hlt, hno⟩, fun k' hk' h' => ?_, b16⟩) (fun e => ⟨xs.length - (k + 1), by omega, k + 1, by omega, rfl, rfl, ?_, b16⟩)⟩
   · have : k = k' := by injection hk' with _ h; omega
     subst this
     simpa using e
   · intro y hy
     rw [take_snoc hlt, List.mem_append] at hy
     rcases hy with hy | hy
     · exact hno y hy
     · rw [List.mem_singleton] at hy; subst hy; simpa using e
 · have : k = xs.length := by omega
   subst this
   rw [List.take_length] at hno
   refine ⟨.inl ⟨rfl, hno⟩, fun k' hk' h' => ?_, hbl⟩
   injection hk' with _ h; omega
theorem qxv (G : GetE w0 pj F rs s r kr kp wb) {a : Option Addr} {l c' : Nat} {xs : List Cky} {w : World} (ho : Ow tCky qe w NoB a l c' xs) (hf : zq wb.heap.size a) (hl : xs.length <= 1000000) (hx : ∀ x ∈ xs, x.ok /\ x.host.name.length <= 1000000000 /\ x.path.length <= 1000000000) (hb : Below wb.heap.size wb w) :
   Calls prog qaM #[.slice a l c', .func (.func j9) #[] #[.pointer (some ⟨kr, 0, none⟩), .pointer (some ⟨kp, 0, none⟩)]] w
     (Ret fun v w' => ∃ n' : Nat, v = .slice a n' c' /\ Ow tCky qe w' NoB a n' c' (xs.filter fun x => jQ x r s.now) /\ Below wb.heap.size wb w') := by
 apply qds
 unfold qai
 have hn := ho.len
 have hnc := ho.2.1
 refine callK (qxF G ho.all hl hx hb) ?_
 rintro v w10 ⟨hv, hfst, hb10⟩
 have ho10 := ho.below hb10
 have B10 := qd hb hb10 hb.size
 rcases hv with ⟨rfl, hall⟩ | ⟨k, rfl, hk, hno⟩
 · refine ⟨_, rfl, BCase.yes rfl ⟨l, rfl, ?_, B10⟩⟩
   rw [List.filter_eq_self.2 hall]
   exact ho10
 have hxk := hfst k rfl hk
 refine ⟨_, rfl, BCase.no (by simp only [beq_eq_false_iff_ne]; omega) ?_⟩
 have hfk : (xs.take k).filter (fun x => jQ x r s.now) = xs.take k := List.filter_eq_self.2 hno
 have hfk1 : (xs.take (k + 1)).filter (fun x => jQ x r s.now) = xs.take k := by
   rw [take_snoc hk, qsV, if_neg (by rw [hxk]; decide), hfk]
 refine ⟨fun m i j wl => ∃ (q : Nat) (ys : List Cky), q <= xs.length /\ j = (q : Int) /\ m = xs.length - q /\ i = ((((xs.take q).filter fun x => jQ x r s.now).length : Nat) : Int) /\ ((xs.take q).filter fun x => jQ x r s.now).length < q /\ ys.length = xs.length /\
     ys.take ((xs.take q).filter fun x => jQ x r s.now).length = ((xs.take q).filter fun x => jQ x r s.now) /\ ys.drop q = xs.drop q /\ Ow tCky qe wl NoB a l c' ys /\ Below wb.heap.size wb wl,
   ⟨_, k + 1, xs, by omega, by rw [wrap_i64 (by omega) (by omega)]; omega, rfl, by rw [hfk1, List.length_take]; omega, by rw [hfk1, List.length_take]; omega, rfl, by rw [hfk1, List.length_take]; congr 1; omega, rfl, ho10, B10⟩, ?_⟩
 intro m i j
 refine AllJ.of ?_ _
 rintro wl ⟨q, ys, hq, rfl, rfl, rfl, hiq, hyl, hyt, hyd, hoy, Bl⟩
 have hlx : l = xs.length := hn
 refine BCase.of (fun hi => ?_) (fun hi => ?_) <;> simp only [dTx, dFx] at hi
 · have hlt : q < xs.length := by omega
   have hlty : q < ys.length := by omega
   have hyq : ys[q] = xs[q] := by
     have h1 := List.drop_eq_getElem_cons hlty
     have h2 := List.drop_eq_getElem_cons hlt
     rw [h1, h2] at hyd
     exact (List.cons.inj hyd).1
   have hyd1 : ys.drop (q + 1) = xs.drop (q + 1) := by
     have h1 := List.drop_eq_getElem_cons hlty
     have h2 := List.drop_eq_getElem_cons hlt
     rw [h1, h2] at hyd
     exact (List.cons.inj hyd).2
   obtain ⟨hld, -⟩ := qay qn hoy.all hlty
   rw [hyq] at hld
   refine ⟨⟨⟨by omega, by omega⟩, hoy.all.isSome hlty⟩, _, hld, ?_⟩
   obtain ⟨ox, xn, xp⟩ := hx _ (List.getElem_mem hlt)
   have hfs := qsV (fun x => jQ x r s.now) (xs.take q) xs[q]
   rw [<- take_snoc hlt] at hfs
   have hw1 : i64.wrap ((q : Int) + 1) = ((q + 1 : Nat) : Int) := by rw [wrap_i64 (by omega) (by omega)]; omega
   rw [hw1]
   generalize xs[q] = x at *
   refine qn.new (zs := cky0.cells) (cs := x.cells) (Cky.len (by rfl)) (Cky.len ox) (Cky.one _) wl fun k7 wx hk7 h7 hb7 => ?_
   have Bx := qd Bl hb7 Bl.size
   refine ⟨_, qn.load0 h7 (Cky.len ox), ?_⟩
   refine callK (qAi G ox xn xp Bx) ?_
   rintro _ w28 ⟨rfl, hb28⟩
   have B28 := qd Bx hb28 Bx.size
   have hoy28 := (hoy.below hb7).below hb28
   refine ⟨_, rfl, BCase.of (fun e => ?_) (fun e => ?_)⟩
   · have e : jQ x r s.now = true := by simpa using e
     rw [if_pos e] at hfs
     generalize (xs.take q).filter (fun x => jQ x r s.now) = G0 at *
     have hil : ((G0.length : Nat) : Int).toNat < ys.length := by omega
     obtain ⟨wy, q3, ho3, g3⟩ := Ow.store (k := 29) qjU hoy28 (fun _ _ h => h) (i := ((G0.length : Nat) : Int)) hil rfl (v := x.v) (x := x) ⟨rfl, ox⟩
     refine ⟨_, qn.load0 (h7.below hb28) (Cky.len ox), ⟨⟨by omega, by omega⟩, hoy28.all.isSome (i := G0.length) (by omega)⟩, wy, q3, xs.length - (q + 1), by omega, q + 1, ys.set G0.length x, by omega, rfl, rfl, ?_, ?_, ?_, ?_, ?_, ?_, ?_⟩
     · rw [hfs, wrap_i64 (by omega) (by omega), List.length_append]; simp
     · rw [hfs, List.length_append]; simp; omega
     · rw [List.length_set]; exact hyl
     · rw [hfs, List.length_append]
       show (ys.set G0.length x).take (G0.length + 1) = _
       rw [List.take_succ_eq_append_getElem (by rw [List.length_set]; omega), List.getElem_set_self, List.take_set_of_le (Nat.le_refl _), hyt]
     · rw [List.drop_set_of_lt (by omega), hyd1]
     · simpa using ho3
     · exact qpX B28 g3 hf
   · have e : jQ x r s.now = false := by simpa using e
     rw [if_neg (by rw [e]; decide)] at hfs
     exact ⟨xs.length - (q + 1), by omega, q + 1, ys, by omega, rfl, rfl, by rw [hfs], by rw [hfs]; omega, hyl, by rw [hfs]; exact hyt, hyd1, hoy28, B28⟩
 · have : q = xs.length := by omega
   subst this
   rw [List.take_length] at hiq hyt
   rw [List.take_length]
   generalize xs.filter (fun x => jQ x r s.now) = G0 at *
   obtain ⟨wz, q4, ho4, g4⟩ := qzR hoy (i := G0.length) (by omega)
   refine ⟨⟨by omega, by omega⟩, wz, q4, ⟨by omega, by omega⟩, G0.length, rfl, ?_, qpX Bl g4 hf⟩
   rw [hyt] at ho4
   exact ho4
end
end Go.Proofs.YtlfolncaghkmcaaGreatDoor
namespace Go.Pk
open Go.RowKit (Below)
open Go.Sort (grow SWO)
theorem qyN : ∀ xs : List (List UInt8), sayL xs = Lib.join xs [59, 32]
 | [] => rfl
 | [x] => by simp [sayL, Lib.join, List.intercalate]
 | x :: y :: r => by
   have := qyN (y :: r)
   show x ++ [59, 32] ++ sayL (y :: r) = _
   rw [this]
   simp [Lib.join, List.intercalate, List.intersperse]
theorem qAk (w : World) (o1 o2 o3 o4 : Obj) : (((w.alloc o1).alloc o2).alloc o3).alloc o4 = grow (w.drewN 0) #[o1, o2, o3, o4] := by
 unfold grow World.alloc
 simp only [World.drewN, Nat.add_zero]
 congr 1
theorem Ow.chg {α : Type} {T : Ty α} {t : TypeId} {w w' : World} {a : Option Addr} {n c : Nat} {xs : List α} {S : List Nat} (h : Ow T t w NoB a n c xs) (hc : Chg S w w') (hn : ∀ g, ownB a = some g -> g ∉ S) : Ow T t w' NoB a n c xs :=
 h.keep (hc.keep.mono fun b hb => hb.elim (fun x => x.elim) fun e => hn b e.symm)
theorem Sl.chg {α : Type} {T : Ty α} {w w' : World} {A : Bl} {a : Option Addr} {n c : Nat} {xs : List α} {S : List Nat} (h : Sl T w A a n c xs) (hc : Chg S w w') (hA : ∀ b, A b -> b ∉ S) : Sl T w' A a n c xs := h.keep (hc.keep.mono fun b hb => hA b hb)
theorem qzO {w w' : World} {row : Option Nat} (hg : w.grownBy w' row) : Chg row.toList w w' := ⟨hg.os, hg.tape, hg.output, hg.size, fun k hk hn => hg.block k hk fun e => hn (by rw [<- e]; simp)⟩
theorem JarC.row {w0 : World} {tj ts tt te : TypeId} {pj p ma ms kt km : Nat} {a : Option Addr} {n c : Nat} {ps : List Pth} {kvs : List (qjj × Int)} {es : List (List Bool)} {rs : List Rul} {s : JS} {w w' : World} (J : JarC w0 tj ts tt te pj p ma ms kt km a n c ps kvs es rs s w) {row : Option Nat} (hg : w.grownBy w' row)
   (hr : ∀ r, row = some r -> r ∉ [pj, p, ma, ms] /\ w0.heap.size <= r /\ r ≠ kt /\ r ≠ km /\ ownB a ≠ some r) : JarC w0 tj ts tt te pj p ma ms kt km a n c ps kvs es rs s w' := by
 have hc := qzO hg
 have hm : ∀ k ∈ row.toList, row = some k := fun k hk => by cases row with | none => cases hk | some r => simp at hk; rw [hk]
 exact ⟨hc.arr J.cell fun m => (hr _ (hm _ m)).1 (List.mem_cons_self ..), J.shf.chg hc fun k hk m => (hr _ (hm _ m)).1 (List.mem_cons_of_mem _ hk), J.tab.chg hc fun k hk => (hr _ (hm _ hk)).2, J.far, J.own⟩
theorem JarC.lts {w0 : World} {tj ts tt te : TypeId} {pj p ma ms kt km : Nat} {a : Option Addr} {n c : Nat} {ps : List Pth} {kvs : List (qjj × Int)} {es : List (List Bool)} {rs : List Rul} {s : JS} {w : World} (J : JarC w0 tj ts tt te pj p ma ms kt km a n c ps kvs es rs s w) :
   ∀ r, w.heap.size <= r -> r ∉ [pj, p, ma, ms] /\ w0.heap.size <= r /\ r ≠ kt /\ r ≠ km /\ ownB a ≠ some r := fun r hr => by
 have h1 := J.shf.lts
 have h2 := J.cell.lt
 have h3 := J.tab.h1.lt
 have h4 := J.tab.h2.lt
 have h5 := J.tab.hb.size
 refine ⟨?_, by omega, by omega, by omega, fun e => by have := J.tab.h3.lt _ e; omega⟩
 simp; omega
instance (priority := low) allKpt : Inhabited {k : Kpt // (fun _ => True) k} := ⟨⟨kpt0, trivial⟩⟩
theorem qDt (x y : {k : Kpt // (fun _ => True) k}) : Go.Proofs.ltOf (fun x y : {k : Kpt // (fun _ => True) k} => if aheadB x.1.c y.1.c = true then (-1 : Int) else 1) x y = aheadB x.1.c y.1.c := by
 show decide ((if aheadB x.1.c y.1.c = true then (-1 : Int) else 1) < 0) = _
 by_cases h : aheadB x.1.c y.1.c = true
 · rw [if_pos h, h]; rfl
 · rw [if_neg h]
   have : aheadB x.1.c y.1.c = false := by simpa using h
   rw [this]; rfl
theorem qDu : SWO (Go.Proofs.ltOf fun x y : {k : Kpt // (fun _ => True) k} => if aheadB x.1.c y.1.c = true then (-1 : Int) else 1) := by
 have e := qDt
 constructor
 · intro x
   rw [e]
   unfold aheadB
   simp
 · intro x y z h1 h2
   rw [e] at *
   exact ahead_trans h1 h2
 · intro x y z h1 h2
   rw [e] at *
   unfold aheadB at *
   simp only [Bool.or_eq_false_iff, Bool.and_eq_false_iff, dFx] at *
   omega
end Go.Pk
namespace Go.Proofs.YtlfolncaghkmcaaGreatDoor
open Go.Pk
open Go.RowKit (Below)
open Go.Sort (grow SWO)
theorem qCL (W : World) (x y : Kpt) : Calls prog qh0 #[x.c.v, y.c.v] W fun e w' => e = .returned (.int .i64 (if aheadB x.c y.c = true then (-1 : Int) else 1)) /\ ∃ q os', w' = grow (W.drewN q) os' := by
 refine (qqu x.c.v y.c.v (K := fun v w' => v = .int .i64 (if aheadB x.c y.c = true then (-1 : Int) else 1) /\ ∃ q os', w' = grow (W.drewN q) os') ?_).mono ?_
 · intro k2 w2 hk2 hw2 k3 w3 hk3 hw3
   have a2 : qk w3 k2 qe x.c.cells := (qk.new hk2 hw2 : qk w2 k2 qe x.c.cells).below (hw3 ▸ qj w2 _)
   have a3 : qk w3 k3 qe y.c.cells := qk.new hk3 hw3
   refine ⟨_, qn.load0 a2 (Cky.len x.ok), _, qn.load0 a3 (Cky.len y.ok), ?_⟩
   refine callK (quj x.ok y.ok w3) ?_
   rintro _ w7 ⟨rfl, hw7⟩
   have hg : ∃ q os', w7 = grow (W.drewN q) os' := ⟨0, _, by rw [hw7, hw3, hw2]; exact qAk _ _ _ _ _⟩
   exact ⟨_, rfl, BCase.of (fun e => ⟨by rw [if_pos e], hg⟩) (fun e => ⟨by rw [if_neg (by rw [e]; decide)], hg⟩)⟩
 · rintro e w' ⟨v, rfl, rfl, h⟩
   exact ⟨rfl, h⟩
section
variable {w0 : World} {pj : Nat} {F : List Nat} {rs : List Rul} {s : JS} {w : World}
theorem qlu (he : Env w0) (J : JarN w0 pj F rs s w) {m : Nat} (ji : JI s m) (hm : m <= 100000) {r : Req} (or : r.ok) (rn : r.host.name.length <= 1000000) :
   Calls prog j7 #[.pointer (some ⟨pj, 0, none⟩), r.v] w (Ret fun v w' => v = .string (mkS (getV s r).2) /\ JarS w0 pj F rs (getV s r).1 w w') := by
 obtain ⟨p, ma, ms, kt, km, a, n, c', ps, kvs, es, rfl, J⟩ := J
 apply qts
 unfold qo3
 intro k2 w2 hk2 hw2 k3 w3 hk3 hw3
 obtain ⟨b2, B2, l2⟩ := boxB (P := prog) (Below.refl w.heap.size w) hk2 hw2
 obtain ⟨b3, B3, l3⟩ := boxB (P := prog) B2 hk3 hw3
 have a2 : qk w3 k2 qfb [.pointer (some ⟨pj, 0, none⟩)] := (qk.new hk2 hw2 : qk w2 k2 qfb [.pointer (some ⟨pj, 0, none⟩)]).below b3
 have a3 : qk w3 k3 qD r.cells := qk.new hk3 hw3
 have J3 := J.below B3
 have GE : GetE w0 pj [pj, p, ma, ms] rs s r k3 k2 w3 := ⟨he, ⟨p, ma, ms, kt, km, a, n, c', ps, kvs, es, rfl, J3⟩, a3, a2, or, by omega⟩
 have hf := ji.few
 have hla := ji.last
 refine ⟨_, a2.load1 qkZ rfl (i := 0) rfl, rfl, rfl, _, J3.cell.load1 jL rfl (i := 2) rfl, ?_⟩
 refine callK (qnS J3.shf (by omega) (by omega)) ?_
 rintro _ w13 ⟨a13, l13, c13, rfl, ho13, hf13, hb13⟩
 refine ⟨_, _, _, rfl, ?_⟩
 refine callK (qxv GE ho13 hf13 (by rw [List.length_map]; omega) (fun x hx => ?_) hb13) ?_
 · obtain ⟨k, hk, rfl⟩ := List.mem_map.1 hx
   have h1 := qci k.ok (ji.right k hk)
   have h2 := (ji.sm k hk).pt
   exact ⟨k.ok, by omega, by omega⟩
 rintro _ w15 ⟨n15, rfl, ho15, B15⟩
 refine ⟨_, _, _, rfl, ?_⟩
 have hfm : (s.L.map Kpt.c).filter (fun x => jQ x r s.now) = (s.L.filter fun k => jQ k.c r s.now).map Kpt.c := by rw [List.filter_map]; rfl
 rw [hfm] at ho15
 have hfl : (s.L.filter fun k => jQ k.c r s.now).length <= s.L.length := List.length_filter_le ..
 refine (qxa (Q := fun _ => True) _ qDu qh0 (enters_of Tryz.func45 (by kernel_rfl) rfl) (fun W x y => qCL W x.1 y.1) (fun _ _ => trivial) ho15 (by omega)).mono ?_
 rintro _ w17 ⟨rfl, ys, hp, hsd, ho17, hc17⟩
 refine ⟨rfl, ?_⟩
 have hG : ys.map (·.1) = goesK s.L r s.now := by
   refine qwh (R := fun a b => aheadB a.c b.c) (hp.trans (qe5 s.L r s.now).symm) ?_ (qxE ji.sh r s.now)
   rw [List.pairwise_map]
   refine hsd.imp fun {a b} h => ?_
   exact (qDt b a).symm.trans h
 rw [hG] at ho17
 have B17 : Below w3.heap.size w3 w17 := B15.trans (hc17.below B15.size (fun k hk => hf13 k (by simpa using hk)))
 have J17 := J3.below B17
 have a217 := a2.below B17
 have hGm : ∀ x ∈ goesK s.L r s.now, x ∈ s.L := fun x hx => (List.mem_filter.1 ((qe5 s.L r s.now).mem_iff.1 hx)).1
 have hGl : (goesK s.L r s.now).length <= m := by
   rw [(qe5 s.L r s.now).length_eq]; omega
 unfold getV
 generalize goesK s.L r s.now = G at *
 have hn15 : n15 = G.length := by have := ho17.len; rw [List.length_map] at this; exact this
 subst hn15
 have hsl17 : Sl tCky w17 (fun b => w3.heap.size <= b /\ b < w17.heap.size) a13 G.length c13 (G.map Kpt.c) := ho17.sl (fun _ _ h => h.elim) fun g hg => ⟨hf13 g hg, ho17.lt g hg⟩
 have hlt3 := J3.lts
 have s17 := B17.size
 have C17 : Chg [pj, p, ma, ms] w w17 := (Chg.of B3).step B17
 have m2 := a2.lt
 refine ⟨fun m a6 l6 c6 i wl => ∃ k : Nat, k <= G.length /\ i = (k : Int) /\ m = G.length - k /\ Ow tS qh wl NoB a6 l6 c6 ((G.take k).map fun x => qeW x.c) /\ zq w17.heap.size a6 /\
     JarC w0 qg7 qY zj zF pj p ma ms kt km a n c' ps kvs es rs ⟨usesK s.L (G.take k) s.now, s.last, s.now⟩ wl /\ qk wl k2 qfb [.pointer (some ⟨pj, 0, none⟩)] /\ Sl tCky wl (fun b => w3.heap.size <= b /\ b < w17.heap.size) a13 G.length c13 (G.map Kpt.c) /\ Chg [pj, p, ma, ms] w wl /\ w17.heap.size <= wl.heap.size,
   ⟨_, 0, by omega, rfl, rfl, Ow.nil _ _ _ _, (fun g hg => by cases hg), J17, a217, hsl17, C17, Nat.le_refl _⟩, ?_⟩
 intro m1 a6 l6 c6 i1
 refine AllJ.of ?_ _
 rintro wl ⟨k, hk, rfl, rfl, hot, hft, Jl, a2l, hsl, Cl, szl⟩
 refine BCase.of (fun hi => ?_) (fun hi => ?_) <;> simp only [dTx, dFx] at hi
 · have hlt : k < G.length := by omega
   have hlt2 : k < (G.map Kpt.c).length := by rw [List.length_map]; exact hlt
   obtain ⟨hld, -⟩ := qay qn hsl hlt2
   rw [List.getElem_map] at hld
   refine ⟨⟨⟨by omega, by omega⟩, hsl.isSome hlt2⟩, _, hld, ?_⟩
   have ox := G[k].ok
   have xsm := ji.sm _ (hGm _ (List.getElem_mem hlt))
   have hwk : i64.wrap ((k : Int) + 1) = ((k + 1 : Nat) : Int) := by rw [wrap_i64 (by omega) (by omega)]; omega
   rw [hwk]
   have htk : G.take (k + 1) = G.take k ++ [G[k]] := take_snoc hlt
   have htl : (G.take k).length = k := by rw [List.length_take]; omega
   generalize G[k] = x at *
   refine qn.new (zs := cky0.cells) (cs := x.c.cells) (Cky.len (by rfl)) (Cky.len ox) (Cky.one _) wl fun k8 wx hk8 h8 hb8 => ?_
   have Jx := Jl.below hb8
   have a2x := a2l.below hb8
   refine ⟨_, fun u hu => (a2x.below hu).load1 qkZ rfl (i := 0) rfl, rfl, rfl, _, fun u hu => (Jx.below hu).cell.load1 jL rfl (i := 2) rfl, _, fun u hu => qn.load0 (h8.below hu) (Cky.len ox), _, fun u hu => (a2x.below hu).load1 qkZ rfl (i := 0) rfl, rfl, rfl, rfl, _, fun u hu => (Jx.below hu).cell.load1 un_int64 rfl (i := 0) rfl, fun wq hq => ?_⟩
   have bq := qd hb8 hq hb8.size
   have Jq := Jx.below hq
   refine callK (qw9 Jq.shf ox s.now) ?_
   rintro _ w34 ⟨rfl, hsh, hc⟩
   have hF3 : ∀ b, w3.heap.size <= b -> b ∉ [p, ma, ms] := fun b hb h => (hlt3 b hb).1 (List.mem_cons_of_mem _ h)
   have J34 := Jq.step hc hsh
   have a234 := hc.arr (a2x.below hq) (by
     have h1 := J.shf.lts
     simp; omega)
   have h834 := hc.arr (h8.below hq) (hF3 k8 (by omega))
   have hot34 := (hot.below bq).chg hc fun g hg => hF3 g (by have := hft g hg; omega)
   have hsl34 := (hsl.below bq).chg hc fun b hb => hF3 b hb.1
   have C34 := (Cl.step bq).trans (hc.mono fun k hk => List.mem_cons_of_mem _ hk)
   refine ⟨_, rfl, _, qn.load0 h834 (Cky.len ox), ?_⟩
   refine callK (qxG ox xsm w34) ?_
   rintro _ w37 ⟨rfl, hb37⟩
   refine ⟨_, rfl, fun k38 w38 hk38 hw38 => ?_⟩
   have hb38 : Below w37.heap.size w37 w38 := hw38 ▸ qj w37 _
   have b38 := qd hb37 hb38 hb37.size
   have hsrc : Src tS w38 NoB (some ⟨k38, 0, none⟩) 1 [qeW x.c] := Src.new1F (qaS _) hk38 hw38 (qgz trivial)
   obtain ⟨w39, a39, l39, c39, hr, ho39, hg39, hf39⟩ := qdb (ty := qV) qc6 ze (by decide) (hot34.below b38) (fun _ _ h => h) (cm := 1) hsrc (by rw [List.length_map, htl]; simp; omega)
   have s1 := bq.size
   have s2 := hc.size
   have s3 := b38.size
   have s4 := hg39.size
   have hrow : ∀ r, ownB a6 = some r -> w17.heap.size <= r := fun r h => hft r h
   have huse : usesK s.L (G.take (k + 1)) s.now = useK (usesK s.L (G.take k) s.now) (x.c.plc ox) s.now := by
     unfold usesK
     rw [htk, List.foldl_append]; rfl
   refine ⟨w39, a39, l39, c39, hr, G.length - (k + 1), by omega, k + 1, by omega, rfl, rfl, ?_, hft.app (by omega) hf39, ?_, ?_, ?_, ?_, by omega⟩
   · rw [htk, List.map_append]; exact ho39
   · rw [huse]
     exact (J34.below b38).row hg39 fun r h => hlt3 r (by have := hrow r h; omega)
   · exact (a234.below b38).grown hg39 (fun e => by have := hrow _ e.symm; omega)
   · exact (hsl34.below b38).chg (qzO hg39) fun b hb h => by
       have := hrow b (by simpa using h)
       omega
   · exact (C34.step b38).row hg39 fun r h => .inl (by have := hrow r h; have := B3.size; omega)
 · have : k = G.length := by omega
   subst this
   rw [List.take_length] at hot Jl
   have hlen := qvb (B := 2300000) (G.map fun x => qeW x.c) (fun z hz => by
     obtain ⟨x, hx, rfl⟩ := List.mem_map.1 hz
     exact qjR (ji.sm _ (hGm _ hx)))
   rw [List.length_map] at hlen
   have hlen2 : (sayL (G.map fun x => qeW x.c)).length <= 100000 * (2300000 + 2) := Nat.le_trans hlen (Nat.mul_le_mul_right _ (by omega))
   have hj := qyN (G.map fun x => qeW x.c)
   refine callK (qs1 hot.all [59, 32] (by rw [List.length_map]; omega) (by rw [<- hj]; omega)) ?_
   rintro _ w42 ⟨rfl, hb42⟩
   refine ⟨_, rfl, ?_, JarS.same ⟨p, ma, ms, kt, km, a, n, c', ps, kvs, es, rfl, Jl.below hb42⟩ (Cl.step hb42)⟩
   rw [hj]
end
end Go.Proofs.YtlfolncaghkmcaaGreatDoor
namespace Go.Proofs.YtlfolncaghkmcaaGreatDoor
open Go.Pk
def uhxy : Url := (urlV [104, 116, 116, 112, 58, 47, 47, 104, 47, 120, 47, 121]).1
theorem qlk : uhxy.ok := by show List.length _ = 16; kernel_rfl
theorem t1 : (setV [] (js0 0) uhxy qlk [97, 61, 49]).2 = 0 := by kernel_rfl
theorem t2 : (setV [] (setV [] (js0 0) uhxy qlk [97, 61, 49]).1 uhxy qlk [98, 61, 50, 59, 32, 80, 97, 116, 104, 61, 47, 120]).2 = 0 := by kernel_rfl
end Go.Proofs.YtlfolncaghkmcaaGreatDoor
namespace Go.Proofs.YtlfolncaghkmcaaGreatDoor
open Go.Pk
noncomputable def jsA : JS := (setV [] (setV [] (js0 0) uhxy qlk [97, 61, 49]).1 uhxy qlk [98, 61, 50, 59, 32, 80, 97, 116, 104, 61, 47, 120]).1
theorem t3 : jsA.L.length = 2 := by kernel_rfl
def uh : Url := (urlV [104, 116, 116, 112, 58, 47, 47, 104]).1
theorem t4 : (getV jsA ⟨false, uh.host, [47, 120, 47, 122], 0⟩).2 = [97, 61, 49, 59, 32, 98, 61, 50] := by kernel_rfl
end Go.Proofs.YtlfolncaghkmcaaGreatDoor
namespace Go.Proofs.YtlfolncaghkmcaaGreatDoor
open Go.Pk
theorem qDV : uh.ok := by show List.length _ = 16; kernel_rfl
theorem fld (w : World) : (Instr.field qw uh.v 1).run prog w = .ok uh.host.v w := by kernel_rfl
theorem bld (w : World) : (Instr.build qD #[(1, uh.host.v), (2, .string (mkS [47, 120, 47, 122]))]).run prog w = .ok (⟨false, uh.host, [47, 120, 47, 122], 0⟩ : Req).v w := by kernel_rfl
def us : Url := (urlV [104, 116, 116, 112, 115, 58, 47, 47, 104, 47]).1
def up : Url := (urlV [104, 116, 116, 112, 58, 47, 47, 104, 47]).1
theorem qBU : us.ok := by show List.length _ = 16; kernel_rfl
theorem quV : up.ok := by show List.length _ = 16; kernel_rfl
theorem qBQ : url0.ok := by show List.length _ = 16; kernel_rfl
noncomputable def jn1 : JS := (setV [] (js0 0) us qBU [97, 61, 49, 59, 32, 83, 101, 99, 117, 114, 101]).1
theorem n18 : (setV [] (js0 0) us qBU [97, 61, 49, 59, 32, 83, 101, 99, 117, 114, 101]).2 = 0 := by kernel_rfl
theorem n21 : (setV [] jn1 up quV [97, 61, 50]) = (jn1, 121) := by kernel_rfl
theorem n23 : qcj jn1 (-1) = (jn1, 122) := by kernel_rfl
theorem n26 : setV [] jn1 up quV [] = (jn1, 82) := by kernel_rfl
theorem n29 : setV [] jn1 url0 qBQ [97, 61, 49] = (jn1, 41) := by kernel_rfl
theorem n66 : (qcj jn1 1099511627776).2 = 0 := by kernel_rfl
theorem n78 : (qcj (qcj jn1 1099511627776).1 1).1.now = 1099511627776 := by kernel_rfl
end Go.Proofs.YtlfolncaghkmcaaGreatDoor
set_option maxRecDepth 100000
namespace Go.Proofs.YtlfolncaghkmcaaGreatDoor
open Go.Pk
open Go.RowKit (Below)
--  cracknel/cracknellaw12.at
def qtY (s0 : List UInt8) (w : World) (K : Value -> World -> Prop) : Prop :=
 ∀ k2 w2, k2 = w.heap.size -> w2 = w.alloc (.cells qgM qw) ->
 Calls prog ql8 #[.string (mkS s0)] w2 fun e7 w7 => ∃ v7_0 n7_1, e7 = .returned (.tuple #[v7_0, .int .i64 n7_1]) /\
 ∀ k3 w3, k3 = w7.heap.size -> w3 = w7.alloc (.cells qgM qw) ->
 ∃ wx, Sv qw (some ⟨k3, 0, none⟩) v7_0 w3 wx /\
 ∃ v10, Ld qw (some ⟨k3, 0, none⟩) wx v10 /\
 ∃ wx_1, Sv qw (some ⟨k2, 0, none⟩) v10 wx wx_1 /\
 ∃ vr0, (qs qw (.pointer (some ⟨k2, 0, none⟩))).run prog wx_1 = .ok vr0 wx_1 /\
 K vr0 wx_1
theorem qw0 (s0 : List UInt8) {w : World} {K : Value -> World -> Prop} (h : qtY s0 w K) : Calls prog qee #[.string (mkS s0)] w (Ret K) :=
 qm (c := qq Tryz.f13) (by kernel_rfl) Tryz.func13 (by kernel_rfl) [] [.string (mkS s0)] (of_decide_eq_true (by kernel_rfl)) _ (by kernel_rfl) h

--  cracknel/cracknellaw12.jarAlive
def qlM  (w : World) (K : Value -> World -> Prop) : Prop :=
 Calls prog qe3 #[.slice none 0 0] w fun e2 w2 => ∃ p2, e2 = .returned (.pointer p2) /\
 Calls prog qiD #[.pointer p2] w2 fun e3 w3 => ∃ p3, e3 = .returned (.pointer p3) /\
 ∃ J : FP [],
 (BCase (Option.isNone p3)
 (K (.bool false) w3)
 (Calls prog qee #[.string (mkS [104, 116, 116, 112, 58, 47, 47, 104, 47, 120, 47, 121])] w3 fun e8 w8 => ∃ v8, e8 = .returned v8 /\
 Calls prog qS #[.pointer p3, v8, .string (mkS [97, 61, 49])] w8 fun e9 w9 => ∃ n9, e9 = .returned (.int .i64 n9) /\
 BCase (n9 != (0 : Int))
 (K (.bool false) w9)
 (Calls prog qee #[.string (mkS [104, 116, 116, 112, 58, 47, 47, 104, 47, 120, 47, 121])] w9 fun e14 w14 => ∃ v14, e14 = .returned v14 /\
 Calls prog qS #[.pointer p3, v14, .string (mkS [98, 61, 50, 59, 32, 80, 97, 116, 104, 61, 47, 120])] w14 fun e15 w15 => ∃ n15, e15 = .returned (.int .i64 n15) /\
 BCase (n15 != (0 : Int))
 (K (.bool false) w15)
 (J w15)))) /\
 AllJ 15 (∀ wj, J wj ->
 Calls prog qee #[.string (mkS [104, 116, 116, 112, 58, 47, 47, 104])] wj fun e19 w19 => ∃ v19, e19 = .returned v19 /\
 ∃ v20, (Instr.field qw v19 1).run prog w19 = .ok v20 w19 /\
 ∃ v21, (Instr.build qD #[(1, v20), (2, .string (mkS [47, 120, 47, 122]))]).run prog w19 = .ok v21 w19 /\
 Calls prog j7 #[.pointer p3, v21] w19 fun e22 w22 => ∃ s22, e22 = .returned (.string (mkS s22)) /\
 BCase (s22 == [97, 61, 49, 59, 32, 98, 61, 50])
 (Calls prog jJ #[.pointer p3] w22 fun e26 w26 => ∃ a26 l26 c26, e26 = .returned (.slice a26 l26 c26) /\
 K (.bool (((l26 : Nat) : Int) == (2 : Int))) w26)
 (K (.bool false) w22))
theorem qqw  {w : World} {K : Value -> World -> Prop} (h : qlM  w K) : Calls prog qdQ #[] w (Ret K) :=
 qm (c := qq Tryz.f11) (by kernel_rfl) Tryz.func11 (by kernel_rfl) [(4, [])] [] (of_decide_eq_true (by kernel_rfl)) _ (by kernel_rfl) h

--  cracknel/cracknellaw12.do
end Go.Proofs.YtlfolncaghkmcaaGreatDoor
set_option maxRecDepth 20000
namespace Go.Proofs.YtlfolncaghkmcaaGreatDoor
open Go.Pk
open Go.RowKit (Below)
def JarL (wb : World) (pj : Nat) (rs : List Rul) (s : JS) (w : World) : Prop := ∃ (w0 : World) (F : List Nat), Env w0 /\ JarN w0 pj F rs s w /\ Below wb.heap.size wb w /\ ∀ k ∈ F, wb.heap.size <= k
section
variable {wb : World} {pj : Nat} {rs : List Rul} {s : JS} {w : World}
theorem JarL.below (J : JarL wb pj rs s w) {w' : World} (h : Below w.heap.size w w') : JarL wb pj rs s w' := by
 obtain ⟨w0, F, he, J, hb, hF⟩ := J
 exact ⟨w0, F, he, J.below h, qd hb h hb.size, hF⟩
theorem JarL.step {w0 : World} {F : List Nat} (he : Env w0) (hb : Below wb.heap.size wb w) (hF : ∀ k ∈ F, wb.heap.size <= k) {w' : World} {s' : JS} (h : JarS w0 pj F rs s' w w') : JarL wb pj rs s' w' := by
 obtain ⟨F', J, hc, hF'⟩ := h
 refine ⟨w0, F', he, J, hb.trans (hc.below hb.size hF), fun k hk => ?_⟩
 rcases hF' k hk with h | h
 · exact hF k h
 · exact Nat.le_trans hb.size h
theorem qly {A : Bl} {a0 : Option Addr} {l0 c0 : Nat} {rs : List Rul} (hb : Below wb.heap.size wb w) (he : Env w) (hs : Sl tRul w A a0 l0 c0 rs) (hl : rs.length <= 1000000) (hr : ∀ r ∈ rs, r.2.length <= 1000000) :
   Calls prog qe3 #[.slice a0 l0 c0] w (Ret fun v w' => ∃ kt : Nat, v = .pointer (some ⟨kt, 0, none⟩) /\ Below w.heap.size w w' /\ Calls prog qiD #[.pointer (some ⟨kt, 0, none⟩)] w' (Ret fun v w2 => ∃ pj, v = .pointer (some ⟨pj, 0, none⟩) /\ JarL wb pj (rs.filter rulR) (js0 0) w2 /\ Below w'.heap.size w' w2)) := by
 refine (qwi hs hl hr he).mono ?_
 rintro e w' ⟨v, rfl, kt, km, a, n, c, ps, kvs, es, rfl, S⟩
 have hbw := S.hb
 refine ⟨_, rfl, kt, rfl, hbw, (qzh S).mono ?_⟩
 rintro e w2 ⟨v, rfl, pj, F, rfl, J, hF, h2⟩
 have b2 := qd hb hbw hb.size
 exact ⟨_, rfl, pj, rfl, ⟨w, F, he, J, qd b2 h2 b2.size, fun k hk => Nat.le_trans b2.size (hF k hk)⟩, h2⟩
theorem qrB (J : JarL wb pj rs s w) {m : Nat} (ji : JI s m) (hm : m <= 100000) {u : Url} (o : u.ok) (un : u.host.name.length <= 1000000) (up : u.path.length <= 1000000) (t : List UInt8) (ht : t.length <= 10000000) :
   Calls prog qS #[.pointer (some ⟨pj, 0, none⟩), u.v, .string (mkS t)] w (Ret fun v w' => v = .int .i64 (setV rs s u o t).2 /\ JarL wb pj rs (setV rs s u o t).1 w') := by
 obtain ⟨w0, F, he, J, hb, hF⟩ := J
 refine (qjV he J ji hm o un up t ht).mono ?_
 rintro e w' ⟨v, rfl, rfl, h⟩
 exact ⟨_, rfl, rfl, JarL.step he hb hF h⟩
theorem qDw (J : JarL wb pj rs s w) {m : Nat} (ji : JI s m) (hm : m <= 100000) {r : Req} (or : r.ok) (rn : r.host.name.length <= 1000000) :
   Calls prog j7 #[.pointer (some ⟨pj, 0, none⟩), r.v] w (Ret fun v w' => v = .string (mkS (getV s r).2) /\ JarL wb pj rs (getV s r).1 w') := by
 obtain ⟨w0, F, he, J, hb, hF⟩ := J
 refine (qlu he J ji hm or rn).mono ?_
 rintro e w' ⟨v, rfl, rfl, h⟩
 exact ⟨_, rfl, rfl, JarL.step he hb hF h⟩
theorem jl_Cookies (J : JarL wb pj rs s w) {m : Nat} (ji : JI s m) (hm : m <= 1000000) : Calls prog jJ #[.pointer (some ⟨pj, 0, none⟩)] w (Ret fun v w' => ∃ (a : Option Addr) (n c : Nat), v = .slice a n c /\ Ow tCky qe w' NoB a n c (s.L.map Kpt.c) /\ zq w.heap.size a /\ Below w.heap.size w w') := by
 obtain ⟨w0, F, he, J, hb, hF⟩ := J
 have h1 := ji.few
 have h2 := ji.last
 exact qhW J (by omega) (by omega)
end
theorem qeo (t : List UInt8) (ht : t.length <= 90000000) (w : World) : Calls prog qee #[.string (mkS t)] w (Ret fun v w' => v = (urlV t).1.v /\ Below w.heap.size w w') := by
 apply qw0
 unfold qtY
 intro k2 w2 hk2 hw2
 obtain ⟨b2, B2, l2⟩ := boxB (P := prog) (Below.refl w.heap.size w) hk2 hw2
 have a2 : qk w2 k2 qw url0.cells := qk.new hk2 hw2
 refine callK (qup t ht w2) ?_
 rintro _ w7 ⟨rfl, hb7⟩
 have B7 := qd B2 hb7 B2.size
 have o : (urlV t).1.ok := urlV_ok t
 unfold urlT
 refine ⟨_, _, rfl, ?_⟩
 refine qd7.new (zs := url0.cells) (cs := (urlV t).1.cells) (Url.len qBQ) (Url.len o) (Url.one _) w7 fun k3 wx hk3 h3 hb3 => ?_
 have Bx := qd B7 hb3 B7.size
 refine ⟨_, qd7.load0 h3 (Url.len o), ?_⟩
 exact qd7.fin (K := fun r wy => r = (urlV t).1.v /\ Below w.heap.size w wy) (cs := (urlV t).1.cells) (Url.len o) (Url.one _) ((a2.below hb7).below hb3) (Url.len qBQ) Bx l2 fun wy hb => ⟨rfl, hb⟩
end Go.Proofs.YtlfolncaghkmcaaGreatDoor
namespace Go.Proofs.YtlfolncaghkmcaaGreatDoor
open Go.Pk
open Go.RowKit (Below)
theorem jA : JI (js0 0) 0 := JI.new (by decide) (by decide) 0
theorem qCh : uhxy.host.name.length <= 1000000 := by show (urlV [104, 116, 116, 112, 58, 47, 47, 104, 47, 120, 47, 121]).1.host.name.length <= 1000000; exact of_decide_eq_true (by kernel_rfl)
theorem qxf : uhxy.path.length <= 1000000 := of_decide_eq_true (by kernel_rfl)
theorem uh_n : uh.host.name.length <= 1000000 := of_decide_eq_true (by kernel_rfl)
theorem qkg (w : World) (he : Env w) : Calls prog qdQ #[] w (Ret fun v w' => v = .bool true /\ Below w.heap.size w w') := by
 apply qqw
 unfold qlM
 refine callK (qly (wb := w) (Below.refl _ w) he (Sl.nil tRul w AllB none 0 (Nat.zero_le _)) (by decide) (fun r hr => by cases hr)) ?_
 rintro _ w2 ⟨kt, rfl, hb2, hnew⟩
 refine ⟨_, rfl, ?_⟩
 refine callK hnew ?_
 rintro _ w3 ⟨pj, rfl, J, hb3⟩
 rw [List.filter_nil] at J
 refine ⟨_, rfl, fun wj => JarL w pj [] jsA wj, BCase.no rfl ?_, AllJ.of ?_ _⟩
 · refine callK (qeo _ (by decide) w3) ?_
   rintro _ w8 ⟨rfl, hb8⟩
   refine ⟨_, rfl, ?_⟩
   refine callK (qrB (J.below hb8) jA (by decide) (u := uhxy) qlk qCh qxf [97, 61, 49] (by decide)) ?_
   rintro _ w9 ⟨rfl, J9⟩
   refine ⟨_, rfl, BCase.no (by rw [t1]; rfl) ?_⟩
   refine callK (qeo _ (by decide) w9) ?_
   rintro _ w14 ⟨rfl, hb14⟩
   refine ⟨_, rfl, ?_⟩
   refine callK (qrB (J9.below hb14) (jA.set uhxy qlk _ qxf) (by decide) (u := uhxy) qlk qCh qxf [98, 61, 50, 59, 32, 80, 97, 116, 104, 61, 47, 120] (by decide)) ?_
   rintro _ w15 ⟨rfl, J15⟩
   exact ⟨_, rfl, BCase.no (by rw [t2]; rfl) J15⟩
 · intro wj Jj
   have ji : JI jsA 2 := (jA.set uhxy qlk _ qxf).set uhxy qlk _ qxf
   refine callK (qeo _ (by decide) wj) ?_
   rintro _ w19 ⟨rfl, hb19⟩
   refine ⟨_, rfl, _, fld w19, _, bld w19, ?_⟩
   refine callK (qDw (Jj.below hb19) ji (by decide) (r := ⟨false, uh.host, [47, 120, 47, 122], 0⟩) qDV uh_n) ?_
   rintro _ w22 ⟨rfl, J22⟩
   refine ⟨_, rfl, BCase.yes (by rw [t4]; rfl) ?_⟩
   have ji2 := ji.get (⟨false, uh.host, [47, 120, 47, 122], 0⟩ : Req)
   refine callK (jl_Cookies J22 ji2 (by decide)) ?_
   rintro _ w26 ⟨a, n, c, rfl, ho, hf, hb26⟩
   refine ⟨_, _, _, rfl, ?_⟩
   have hn : n = 2 := by
     have := ho.len
     rw [List.length_map, qDs ji, List.length_map, t3] at this
     exact this
   subst hn
   obtain ⟨w0, F, _, _, hb, _⟩ := J22
   exact ⟨rfl, qd hb hb26 hb.size⟩
end Go.Proofs.YtlfolncaghkmcaaGreatDoor
