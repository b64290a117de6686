/- What the laws lean on: ShW, Col, ShX, AllA, DocA, JarP, AdmE, AdmX, AdmJ, V13, MatB, MatC, AdmL, JarQ, DocE, AllB, SortK, ShelfSortF, JarR, AllC, V11, DocF, JarF, DocG, DocH; what is used. Its conditions: none. -/
import Derived.Test.YtlfolncaghkmcaaGreatDoorKH
import Derived.RangeFuncNested
import Derived.RangeFuncLeaves
import Derived.Shelf.Abstract
import Derived.Shelf.AbstractIn
import Derived.WalkKit
import Derived.OwnWalkIn
import Derived.TacticsInMore
import Derived.RegionIn
import Derived.LoopNIn
import Derived.LoopIn
import Derived.Test.YtlfolncaghkmcaaGreatDoorRows
import Derived.Shelf.SlSortCmp.NoneTotal
import Derived.Test.YtlfolncaghkmcaaGreatDoorProg
open Go.IntKind (i64)
open Go.Proofs.Tryz (prog)
set_option linter.unusedVariables false
set_option linter.unusedSectionVars false
set_option linter.unusedSimpArgs false
set_option maxRecDepth 20000
namespace Go.Pk
open Go.RowKit (Below)
theorem boxB {P : Program} {w0 w w' : World} {k : Nat} (h : Below w0.heap.size w0 w) {o : Obj} (hk : k = w.heap.size) (hw : w' = w.alloc o) : Below w.heap.size w w' /\ Below w0.heap.size w0 w' /\ w0.heap.size <= k := by
 have hb := (hw ▸ qj w _ : Below w.heap.size w w')
 exact ⟨hb, qd h hb h.size, by rw [hk]; exact h.size⟩
structure OldI (tk tc : TypeId) (w : World) (ma k4 k6 r : Nat) (M : List (Plc × Kpt)) (of : Kpt -> Bool) (seen : List Kpt) (left : List (Plc × Kpt)) (o : Option Kpt) (m : Nat) (b : Bool) (w' : World) : Prop where
 hb : Below w.heap.size w w'
 rng : qgZ Plc.v Kpt.v w' r ma M left
 hp : (M.map (·.2)).Perm (seen ++ left.map (·.2))
 fst : qoz of seen o
 kb : qk w' k6 tk (o.getD kpt0).cells
 kc : qk w' k4 tc cky0.cells
 eb : b = o.isSome
 em : m = left.length
end Go.Pk
namespace Go.Proofs.YtlfolncaghkmcaaGreatDoor
open Go.Pk
open Go.RowKit (Below)
def OldP (L : List Kpt) (of : Kpt -> Bool) (w : World) (v : Value) (w' : World) : Prop := v = .tuple #[((oldK L of).getD kpt0).c.v, .bool (oldK L of).isSome] /\ Below w.heap.size w w'
theorem qwP {kq : Nat} {t : List UInt8} {w : World} (hq : qk w kq qh [.string (mkS t)]) (k : Kpt) : Calls prog qau #[k.v, .pointer (some ⟨kq, 0, none⟩)] w (Ret fun v w' => v = .bool (decide (k.site = t)) /\ Below w.heap.size w w') := by
 apply qlj
 unfold qim
 intro k2 w2 hk2 hw2
 have hb := (hw2 ▸ qj w _ : Below w.heap.size w w2)
 have a2 : qk w2 k2 qL k.cells := qk.new hk2 hw2
 refine ⟨rfl, _, a2.load1 un_string rfl (i := 29) (qh1 k), _, (hq.below hb).load1 un_string rfl (i := 0) rfl, ?_, hb⟩
 congr 1
 rw [Bool.eq_iff_iff]; simp
theorem qwQ {w : World} (k : Kpt) : Calls prog ju #[k.v] w (Ret fun v w' => v = .bool true /\ Below w.heap.size w w') := by
 apply qjp
 unfold qgQ
 intro k2 w2 hk2 hw2
 exact ⟨rfl, (hw2 ▸ qj w _ : Below w.heap.size w w2)⟩
theorem quN {p ma ms : Nat} {L : List Kpt} {last : Int} {w : World} (h : Shf qY p ma ms L last w) {kq : Nat} {t : List UInt8} (hq : qk w kq qh [.string (mkS t)]) :
   Calls prog qc3 #[.pointer (some ⟨p, 0, none⟩), .func (.func qau) #[] #[.pointer (some ⟨kq, 0, none⟩)]] w (Ret (OldP L (fun k => decide (k.site = t)) w)) := by
 obtain ⟨M, S, s, hM, hS⟩ := SS.of h
 have hi := h.inv
 apply qf5
 unfold qc1
 intro k4 w4 hk4 hw4 k6 w6 hk6 hw6
 obtain ⟨b4, B4, l4⟩ := boxB (P := prog) (Below.refl w.heap.size w) hk4 hw4
 obtain ⟨b6, B6, l6⟩ := boxB (P := prog) B4 hk6 hw6
 have a4 : qk w4 k4 qe cky0.cells := qk.new hk4 hw4
 have a6 : qk w6 k6 qL kpt0.cells := qk.new hk6 hw6
 have n46 : k4 ≠ k6 := by have := a4.lt; omega
 have s6 := (s.below b4).below b6
 refine ⟨rfl, rfl, some ma, qoS s6, ?_⟩
 obtain ⟨w15, hr, rng, b15⟩ := qqn zw s6.mM (P := prog)
 have lr : w.heap.size <= w6.heap.size := B6.size
 have nr : w6.heap.size ≠ ma := by have := s6.mM.lt; omega
 have n4r : k4 ≠ w6.heap.size := by have := (a4.below b6).lt; omega
 have n6r : k6 ≠ w6.heap.size := by have := a6.lt; omega
 refine ⟨w15, _, hr, fun m b w' => ∃ seen left o, OldI qL qe w ma k4 k6 w6.heap.size M (fun k => decide (k.site = t)) seen left o m b w',
   ⟨_, [], M, none, qd B6 b15 B6.size, rng, by simp, (fun k hk => by cases hk), a6.below b15, (a4.below b6).below b15, rfl, rfl⟩, ?_⟩
 intro m b
 refine AllJ.of ?_ _
 rintro wl ⟨seen, left, o, I⟩
 rcases I.rng.step nr qjk (P := prog) with ⟨rfl, hn⟩ | ⟨l1, kk, x, l2, w16, rfl, hn, rng2, hen, hg⟩
 · refine .inl ⟨wl, hn, rfl, (o.getD kpt0).c.v, qn.load I.kb (i := 0) (us := (o.getD kpt0).c.cells) (Cky.len (o.getD kpt0).ok) (fun j hj => by rw [Nat.zero_add]; exact qfg _ hj), ?_⟩
   have ho : o = oldK L (fun k => decide (k.site = t)) := by
     have hp := I.hp
     rw [List.map_nil, List.append_nil] at hp
     exact qoz.one hi (I.fst.perm (hp.symm.trans hM.perm)) (qou hi)
   refine qn.fin (Cky.len (o.getD kpt0).ok) (Cky.one _) I.kc (Cky.len (by rfl)) I.hb l4 fun wx hb => ⟨?_, hb⟩
   rw [I.eb, ho]; rfl
 · refine .inr ⟨w16, kk.v, x.v, hn, kk.v, x.v, hen, ?_⟩
   intro k9 w9 hk9 hw9
   have B16 := Below.put I.hb hg lr
   obtain ⟨b9, B9, l9⟩ := boxB (P := prog) B16 hk9 hw9
   have c4 := (I.kc.grown hg (qP n4r)).below b9
   have c6 := (I.kb.grown hg (qP n6r)).below b9
   have a9 : qk w9 k9 qL kpt0.cells := qk.new hk9 hw9
   obtain ⟨wx, hst, a9x, hg9⟩ := qhO.store0 (Kpt.len x) (Kpt.one _) a9 (Kpt.len _)
   have B9x := Below.put B9 hg9 l9
   have n49 : k4 ≠ k9 := by have := (I.kc.grown hg (qP n4r)).lt; omega
   have n69 : k6 ≠ k9 := by have := (I.kb.grown hg (qP n6r)).lt; omega
   have nr9 : w6.heap.size ≠ k9 := by have := rng2.lt; omega
   have nm9 : ma ≠ k9 := by have := s.l2; omega
   have d4 := c4.grown hg9 (qP n49)
   have d6 := c6.grown hg9 (qP n69)
   have rng3 := (rng2.below b9).keep (hg9.block _ (rng2.below b9).lt (qP nr9)) (hg9.block _ (rng2.below b9).map.lt (qP nm9))
   refine ⟨wx, hst, ?_⟩
   have u9 : x.cells[27]? = some (.int .i64 x.c.used) := (qfg x (by decide)).trans (qE x.ok 7)
   have q9 : x.cells[28]? = some (.int .i64 x.c.seq) := (qfg x (by decide)).trans (qE x.ok 8)
   refine j3 (w := wx) (older o x) ?_ ?_
   · cases o with
     | none => rw [I.eb]; exact BCase.yes rfl ⟨rfl, rfl⟩
     | some y =>
       have d6 : qk wx k6 qL y.cells := d6
       have u6 : y.cells[27]? = some (.int .i64 y.c.used) := (qfg y (by decide)).trans (qE y.ok 7)
       have q6 : y.cells[28]? = some (.int .i64 y.c.seq) := (qfg y (by decide)).trans (qE y.ok 8)
       rw [I.eb]
       refine BCase.no rfl ⟨rfl, rfl, _, a9x.load1 un_int64 rfl (i := 27) u9, rfl, rfl, _, d6.load1 un_int64 rfl (i := 27) u6, ?_⟩
       refine BCase.of (fun e => ⟨rfl, ?_⟩) (fun e => ?_)
       · have : x.c.used < y.c.used := by simpa using e
         simp [older, this]
       · have e1 : ¬ x.c.used < y.c.used := by simpa using e
         refine ⟨rfl, rfl, _, a9x.load1 un_int64 rfl (i := 27) u9, rfl, rfl, _, d6.load1 un_int64 rfl (i := 27) u6, ?_⟩
         refine BCase.of (fun e => ?_) (fun e => ⟨rfl, ?_⟩)
         · have e2 : x.c.used = y.c.used := by simpa using e
           refine ⟨rfl, rfl, _, a9x.load1 qK rfl (i := 28) q9, rfl, rfl, _, d6.load1 qK rfl (i := 28) q6, rfl, ?_⟩
           simp [older, e2]
         · have e2 : ¬ x.c.used = y.c.used := by simpa using e
           simp [older, e1, e2]
   · refine qgN (fun b w' => b = (decide (x.site = t) && older o x) /\ Below wx.heap.size wx w') ?_ ?_
     · refine ⟨x.v, qhO.load0 a9x (Kpt.len x), ?_⟩
       refine callK (qwP (hq.below B9x) x) ?_
       rintro _ w51 ⟨rfl, hb51⟩
       refine ⟨_, rfl, BCase.of (fun e => ⟨?_, hb51⟩) (fun e => ⟨?_, hb51⟩)⟩
       · rw [e, Bool.true_and]
       · rw [e, Bool.false_and]
     · rintro b54 wj ⟨rfl, hbj⟩
       have Bj := qd B9x hbj B9x.size
       have e6 := d6.below hbj
       have e4 := d4.below hbj
       have e9 := a9x.below hbj
       have rng4 := rng3.below hbj
       have hp2 : (M.map (·.2)).Perm ((seen ++ [x]) ++ (l1 ++ l2).map (·.2)) := by
         refine I.hp.trans ?_
         rw [List.map_append, List.map_cons, List.map_append, List.append_assoc]
         exact List.Perm.append_left _ List.perm_middle
       have hfs := I.fst.step x
       have hlen : (l1 ++ l2).length < m := by rw [I.em]; simp
       refine BCase.of (fun e => ?_) (fun e => ?_)
       · obtain ⟨wy, hsy, f6, hgy⟩ := qhO.store0 (Kpt.len x) (Kpt.one _) e6 (Kpt.len _)
         rw [show (decide (x.site = t) && older o x) = true from e] at hfs
         refine ⟨x.v, qhO.load0 e9 (Kpt.len x), wy, hsy, _, hlen, seen ++ [x], l1 ++ l2, some x, Below.put Bj hgy l6, ?_, hp2, hfs, f6, e4.grown hgy (qP n46), rfl, rfl⟩
         exact rng4.keep (hgy.block _ rng4.lt (qP (Ne.symm n6r))) (hgy.block _ rng4.map.lt (qP (by have := s.l2; omega)))
       · rw [show (decide (x.site = t) && older o x) = false from e] at hfs
         exact ⟨_, hlen, seen ++ [x], l1 ++ l2, o, Bj, rng4, hp2, hfs, e6, e4, I.eb, rfl⟩
theorem qtJ {p ma ms : Nat} {L : List Kpt} {last : Int} {w : World} (h : Shf qY p ma ms L last w) (t : List UInt8) :
   Calls prog qhL #[.pointer (some ⟨p, 0, none⟩), .string (mkS t)] w (Ret (OldP L (fun k => decide (k.site = t)) w)) := by
 apply qmZ
 unfold qjt
 intro k3 w3 hk3 hw3 k4 w4 hk4 hw4
 obtain ⟨b3, B3, l3⟩ := boxB (P := prog) (Below.refl w.heap.size w) hk3 hw3
 obtain ⟨b4, B4, l4⟩ := boxB (P := prog) B3 hk4 hw4
 have a3 : qk w3 k3 qh [.string (mkS t)] := qk.new hk3 hw3
 have a4 : qk w4 k4 qe cky0.cells := qk.new hk4 hw4
 refine callK (quN ((h.below b3).below b4) (a3.below b4)) ?_
 rintro _ w8 ⟨rfl, hb8⟩
 refine ⟨_, _, rfl, ?_⟩
 exact qn.fin (Cky.len ((oldK L (fun k => decide (k.site = t))).getD kpt0).ok) (Cky.one _) (a4.below hb8) (Cky.len (by rfl)) (qd B4 hb8 B4.size) l4 fun wx hb => ⟨rfl, hb⟩
end Go.Proofs.YtlfolncaghkmcaaGreatDoor
namespace Go.Pk
open Go.RowKit (Below)
def tCky : Ty Cky where
 k := 29
 pos := by decide
 rep := fun _ _ vs c => vs = c.cells /\ c.ok
 len := fun h => by rw [h.1]; exact Cky.len h.2
 one := fun {_ _ _ x} h v hv => by rw [h.1] at hv; exact Cky.one x v hv
 keep := fun h _ => h
 mono := fun h _ => h
theorem qg2 : Flat tCky := fun _ _ _ _ _ _ h => h
theorem Whl.elem {α : Type} {T : Ty α} {P : Program} {t : TypeId} {n : Nat} (hw : Whl P t n) (hk : T.k = n) {w : World} {A : Bl} {a : Option Addr} {l c : Nat} {xs : List α} (h : Sl T w A a l c xs) {i : Nat} (hi : i < xs.length) :
   ∃ vs, (Instr.loadAt t (.pointer (ql a (i : Int) n))).run P w = .ok (.agg vs.toArray) w /\ T.rep w A vs xs[i] := by
 obtain ⟨bytes, z, tf⟩ := hw.tf
 obtain ⟨ti, hti, hsz, _, _⟩ := tf.info
 have hag := hw.ag
 cases hu : P.underlying t with
 | none => rw [hu] at hag; cases hag
 | some d =>
   rw [hu] at hag
   simp only [Option.map_some, Option.some.injEq] at hag
   have := h.loadA hu hag hti hk hsz (i := (i : Int)) (by simpa using hi)
   simpa using this
theorem qay {P : Program} {t : TypeId} (hw : Whl P t 29) {w : World} {A : Bl} {a : Option Addr} {l c : Nat} {xs : List Cky} (h : Sl tCky w A a l c xs) {i : Nat} (hi : i < xs.length) :
   (Instr.loadAt t (.pointer (ql a (i : Int) 29))).run P w = .ok xs[i].v w /\ xs[i].ok := by
 obtain ⟨vs, h1, e, o⟩ := hw.elem (T := tCky) rfl h hi
 subst e
 exact ⟨h1, o⟩
theorem qAO {α : Type} {T : Ty α} (hfl : Flat T) {P : Program} {st t ty : TypeId} {bytes : Nat} {z : Value} (hu : P.underlying st = some (.slice t)) (tf : TF P t T.k bytes z) (hb0 : 0 < bytes)
   {w0 w w1 : World} {a : Option Addr} {n c : Nat} {xs : List α} (ho : Ow T t w NoB a n c xs) (hf : zq w0.heap.size a) (hb : Below w0.heap.size w0 w) {k1 : Nat} {vs : List Value} {x : α} (hk : k1 = w.heap.size)
   (hw : w1 = w.alloc (.cells vs.toArray t)) (hx : T.rep w NoB vs x) {cm : Nat} (hbound : (xs.length + 1) * bytes <= 140737488355328) :
   ∃ (w2 : World) (a' : Option Addr) (n' c' : Nat), (Builtin.append_ #[st, st] ty #[.slice a n c, .slice (some ⟨k1, 0, none⟩) 1 cm]).run P w1 = .ok (.slice a' n' c') w2 /\ Ow T t w2 NoB a' n' c' (xs ++ [x]) /\ zq w0.heap.size a' /\ Below w0.heap.size w0 w2 /\
     ∀ b, b < w.heap.size -> ownB a ≠ some b -> w2.heap[b]? = w.heap[b]? := by
 have hB1 : Below w.heap.size w w1 := hw ▸ qj w _
 have ho3 := ho.below hB1
 have hsrc : Src T w1 NoB (some ⟨k1, 0, none⟩) 1 [x] := Src.new1F hfl hk hw hx
 obtain ⟨w4, a4, n4, c4, hr, ho4, hgr, hfr⟩ := qdb (ty := ty) hu tf hb0 ho3 (fun _ _ h => h) (cm := cm) hsrc (by simpa using hbound)
 have hB := qd hb hB1 hb.size
 refine ⟨w4, a4, n4, c4, hr, ho4, hf.app hB.size hfr, hB.grown hgr hB.size hf, fun b hb2 hne => ?_⟩
 rw [hgr.block b (Nat.lt_of_lt_of_le hb2 hB1.size) (fun e => hne e.symm), hB1.block b hb2]
end Go.Pk
namespace Go.Proofs.YtlfolncaghkmcaaGreatDoor
open Go.Pk
open Go.RowKit (Below)
theorem qAz {c : Cky} (o : c.ok) (w : World) : (Instr.buildSlice qu 1 #[(0, c.v)]).run prog w = .ok (.slice (some ⟨w.heap.size, 0, none⟩) 1 1) (w.alloc (.cells c.cells.toArray qe)) := by
 obtain ⟨nm, val, ⟨kd, hn, a⟩, only, path, sec, http, same, exp, born, used, seq⟩ := c
 obtain ⟨x0, x1, x2, x3, x4, x5, x6, x7, x8, x9, x10, x11, x12, x13, x14, x15, rfl⟩ := qfY a o
 kernel_rfl
theorem qe6 {w0 w : World} {a : Option Addr} {n c : Nat} {xs : List Cky} (ho : Ow tCky qe w NoB a n c xs) (hf : zq w0.heap.size a) (hb : Below w0.heap.size w0 w) {x : Cky} (o : x.ok) (hl : xs.length <= 1000000) :
   ∃ (w1 : World) (a1 : Option Addr) (l1 c1 : Nat), (Instr.buildSlice qu 1 #[(0, x.v)]).run prog w = .ok (.slice a1 l1 c1) w1 /\
     ∃ (w2 : World) (a' : Option Addr) (n' c' : Nat), (Builtin.append_ #[qu, qu] qu #[.slice a n c, .slice a1 l1 c1]).run prog w1 = .ok (.slice a' n' c') w2 /\
       Ow tCky qe w2 NoB a' n' c' (xs ++ [x]) /\ zq w0.heap.size a' /\ Below w0.heap.size w0 w2 /\ ∀ b, b < w.heap.size -> ownB a ≠ some b -> w2.heap[b]? = w.heap[b]? :=
 ⟨_, _, _, _, qAz o w, qAO qg2 qgP qjU (by decide) ho hf hb rfl rfl ⟨rfl, o⟩ (by omega)⟩
end Go.Proofs.YtlfolncaghkmcaaGreatDoor
namespace Go.Pk
open Go.RowKit (Below)
def qrx (L : List Kpt) (ps : List Plc) : List Kpt := ps.foldl dropK L
theorem qxz (L : List Kpt) (ps : List Plc) (p : Plc) : qrx L (ps ++ [p]) = dropK (qrx L ps) p := by unfold qrx; rw [List.foldl_append]; rfl
theorem qsM : ∀ (ps : List Plc) (L : List Kpt), qrx L ps = L.filter fun k => !decide (k.plc ∈ ps)
 | [], L => by
   show L = _
   rw [List.filter_eq_self.2]
   intro k _; simp
 | p :: ps, L => by
   show qrx (dropK L p) ps = _
   rw [qsM ps]
   unfold dropK
   rw [List.filter_filter]
   exact List.filter_congr fun k _ => by
     rw [Bool.eq_iff_iff]
     simp [and_comm]
theorem qz4 {L E : List Kpt} {last : Int} (s : ShI L last) (now : Int) (h : E.Perm (L.filter fun k => decide (k.c.exp <= now))) : qrx L (E.map Kpt.plc) = expK L now := by
 rw [qsM]
 unfold expK
 refine List.filter_congr fun k hk => ?_
 rw [Bool.eq_iff_iff]
 simp only [Bool.not_eq_true', dFx, dTx]
 constructor
 · intro hn
   have : ¬ k.c.exp <= now := fun c => hn (List.mem_map.2 ⟨k, h.mem_iff.2 (List.mem_filter.2 ⟨hk, by simpa using c⟩), rfl⟩)
   omega
 · intro hn hm
   obtain ⟨x, hx, e⟩ := List.mem_map.1 hm
   have hx2 := List.mem_filter.1 (h.mem_iff.1 hx)
   rw [s.one hx2.1 hk e] at hx2
   have := hx2.2
   simp at this; omega
theorem qzd (ps : List Plc) (L : List Kpt) : (qrx L ps).length <= L.length := by rw [qsM]; exact List.length_filter_le ..
structure ExpI (t : TypeId) (w : World) (p ma ms r : Nat) (M : List (Plc × Kpt)) (now : Int) (seen : List Kpt) (left : List (Plc × Kpt)) (m : Nat) (a : Option Addr) (l c : Nat) (w' : World) : Prop where
 hb : Below w.heap.size w w'
 rng : qgZ Plc.v Kpt.v w' r ma M left
 hp : (M.map (·.2)).Perm (seen ++ left.map (·.2))
 row : Ow tCky t w' NoB a l c ((seen.filter fun k => decide (k.c.exp <= now)).map Kpt.c)
 fr : zq w.heap.size a
 em : m = left.length
end Go.Pk
namespace Go.Proofs.YtlfolncaghkmcaaGreatDoor
open Go.Pk
open Go.RowKit (Below)
theorem quO {p ma ms : Nat} {L : List Kpt} {last : Int} {w : World} (h : Shf qY p ma ms L last w) :
   Calls prog qc3 #[.pointer (some ⟨p, 0, none⟩), .func (.func ju) #[] #[]] w (Ret (OldP L (fun _ => true) w)) := by
 obtain ⟨M, S, s, hM, hS⟩ := SS.of h
 have hi := h.inv
 apply qeX
 unfold qbG
 intro k4 w4 hk4 hw4 k6 w6 hk6 hw6
 obtain ⟨b4, B4, l4⟩ := boxB (P := prog) (Below.refl w.heap.size w) hk4 hw4
 obtain ⟨b6, B6, l6⟩ := boxB (P := prog) B4 hk6 hw6
 have a4 : qk w4 k4 qe cky0.cells := qk.new hk4 hw4
 have a6 : qk w6 k6 qL kpt0.cells := qk.new hk6 hw6
 have n46 : k4 ≠ k6 := by have := a4.lt; omega
 have s6 := (s.below b4).below b6
 refine ⟨rfl, rfl, some ma, qoS s6, ?_⟩
 obtain ⟨w15, hr, rng, b15⟩ := qqn zw s6.mM (P := prog)
 have lr : w.heap.size <= w6.heap.size := B6.size
 have nr : w6.heap.size ≠ ma := by have := s6.mM.lt; omega
 have n4r : k4 ≠ w6.heap.size := by have := (a4.below b6).lt; omega
 have n6r : k6 ≠ w6.heap.size := by have := a6.lt; omega
 refine ⟨w15, _, hr, fun m b w' => ∃ seen left o, OldI qL qe w ma k4 k6 w6.heap.size M (fun _ => true) seen left o m b w',
   ⟨_, [], M, none, qd B6 b15 B6.size, rng, by simp, (fun k hk => by cases hk), a6.below b15, (a4.below b6).below b15, rfl, rfl⟩, ?_⟩
 intro m b
 refine AllJ.of ?_ _
 rintro wl ⟨seen, left, o, I⟩
 rcases I.rng.step nr qjk (P := prog) with ⟨rfl, hn⟩ | ⟨l1, kk, x, l2, w16, rfl, hn, rng2, hen, hg⟩
 · refine .inl ⟨wl, hn, rfl, (o.getD kpt0).c.v, qn.load I.kb (i := 0) (us := (o.getD kpt0).c.cells) (Cky.len (o.getD kpt0).ok) (fun j hj => by rw [Nat.zero_add]; exact qfg _ hj), ?_⟩
   have ho : o = oldK L (fun _ => true) := by
     have hp := I.hp
     rw [List.map_nil, List.append_nil] at hp
     exact qoz.one hi (I.fst.perm (hp.symm.trans hM.perm)) (qou hi)
   refine qn.fin (Cky.len (o.getD kpt0).ok) (Cky.one _) I.kc (Cky.len (by rfl)) I.hb l4 fun wx hb => ⟨?_, hb⟩
   rw [I.eb, ho]; rfl
 · refine .inr ⟨w16, kk.v, x.v, hn, kk.v, x.v, hen, ?_⟩
   intro k9 w9 hk9 hw9
   have B16 := Below.put I.hb hg lr
   obtain ⟨b9, B9, l9⟩ := boxB (P := prog) B16 hk9 hw9
   have c4 := (I.kc.grown hg (qP n4r)).below b9
   have c6 := (I.kb.grown hg (qP n6r)).below b9
   have a9 : qk w9 k9 qL kpt0.cells := qk.new hk9 hw9
   obtain ⟨wx, hst, a9x, hg9⟩ := qhO.store0 (Kpt.len x) (Kpt.one _) a9 (Kpt.len _)
   have B9x := Below.put B9 hg9 l9
   have n49 : k4 ≠ k9 := by have := (I.kc.grown hg (qP n4r)).lt; omega
   have n69 : k6 ≠ k9 := by have := (I.kb.grown hg (qP n6r)).lt; omega
   have nr9 : w6.heap.size ≠ k9 := by have := rng2.lt; omega
   have nm9 : ma ≠ k9 := by have := s.l2; omega
   have d4 := c4.grown hg9 (qP n49)
   have d6 := c6.grown hg9 (qP n69)
   have rng3 := (rng2.below b9).keep (hg9.block _ (rng2.below b9).lt (qP nr9)) (hg9.block _ (rng2.below b9).map.lt (qP nm9))
   refine ⟨wx, hst, ?_⟩
   have u9 : x.cells[27]? = some (.int .i64 x.c.used) := (qfg x (by decide)).trans (qE x.ok 7)
   have q9 : x.cells[28]? = some (.int .i64 x.c.seq) := (qfg x (by decide)).trans (qE x.ok 8)
   refine j3 (w := wx) (older o x) ?_ ?_
   · cases o with
     | none => rw [I.eb]; exact BCase.yes rfl ⟨rfl, rfl⟩
     | some y =>
       have d6 : qk wx k6 qL y.cells := d6
       have u6 : y.cells[27]? = some (.int .i64 y.c.used) := (qfg y (by decide)).trans (qE y.ok 7)
       have q6 : y.cells[28]? = some (.int .i64 y.c.seq) := (qfg y (by decide)).trans (qE y.ok 8)
       rw [I.eb]
       refine BCase.no rfl ⟨rfl, rfl, _, a9x.load1 un_int64 rfl (i := 27) u9, rfl, rfl, _, d6.load1 un_int64 rfl (i := 27) u6, ?_⟩
       refine BCase.of (fun e => ⟨rfl, ?_⟩) (fun e => ?_)
       · have : x.c.used < y.c.used := by simpa using e
         simp [older, this]
       · have e1 : ¬ x.c.used < y.c.used := by simpa using e
         refine ⟨rfl, rfl, _, a9x.load1 un_int64 rfl (i := 27) u9, rfl, rfl, _, d6.load1 un_int64 rfl (i := 27) u6, ?_⟩
         refine BCase.of (fun e => ?_) (fun e => ⟨rfl, ?_⟩)
         · have e2 : x.c.used = y.c.used := by simpa using e
           refine ⟨rfl, rfl, _, a9x.load1 qK rfl (i := 28) q9, rfl, rfl, _, d6.load1 qK rfl (i := 28) q6, rfl, ?_⟩
           simp [older, e2]
         · have e2 : ¬ x.c.used = y.c.used := by simpa using e
           simp [older, e1, e2]
   · refine qgN (fun b w' => b = (true && older o x) /\ Below wx.heap.size wx w') ?_ ?_
     · refine ⟨x.v, qhO.load0 a9x (Kpt.len x), ?_⟩
       refine callK (qwQ x) ?_
       rintro _ w51 ⟨rfl, hb51⟩
       refine ⟨_, rfl, BCase.of (fun e => ⟨?_, hb51⟩) (fun e => ⟨?_, hb51⟩)⟩
       · rw [e, Bool.true_and]
       · rw [e, Bool.false_and]
     · rintro b54 wj ⟨rfl, hbj⟩
       have Bj := qd B9x hbj B9x.size
       have e6 := d6.below hbj
       have e4 := d4.below hbj
       have e9 := a9x.below hbj
       have rng4 := rng3.below hbj
       have hp2 : (M.map (·.2)).Perm ((seen ++ [x]) ++ (l1 ++ l2).map (·.2)) := by
         refine I.hp.trans ?_
         rw [List.map_append, List.map_cons, List.map_append, List.append_assoc]
         exact List.Perm.append_left _ List.perm_middle
       have hfs := I.fst.step x
       have hlen : (l1 ++ l2).length < m := by rw [I.em]; simp
       refine BCase.of (fun e => ?_) (fun e => ?_)
       · obtain ⟨wy, hsy, f6, hgy⟩ := qhO.store0 (Kpt.len x) (Kpt.one _) e6 (Kpt.len _)
         rw [show (true && older o x) = true from e] at hfs
         refine ⟨x.v, qhO.load0 e9 (Kpt.len x), wy, hsy, _, hlen, seen ++ [x], l1 ++ l2, some x, Below.put Bj hgy l6, ?_, hp2, hfs, f6, e4.grown hgy (qP n46), rfl, rfl⟩
         exact rng4.keep (hgy.block _ rng4.lt (qP (Ne.symm n6r))) (hgy.block _ rng4.map.lt (qP (by have := s.l2; omega)))
       · rw [show (true && older o x) = false from e] at hfs
         exact ⟨_, hlen, seen ++ [x], l1 ++ l2, o, Bj, rng4, hp2, hfs, e6, e4, I.eb, rfl⟩
theorem qoK {p ma ms : Nat} {L : List Kpt} {last : Int} {w : World} (h : Shf qY p ma ms L last w) :
   Calls prog qff #[.pointer (some ⟨p, 0, none⟩)] w (Ret (OldP L (fun _ => true) w)) := by
 apply qkv
 unfold qhH
 intro k4 w4 hk4 hw4
 obtain ⟨b4, B4, l4⟩ := boxB (P := prog) (Below.refl w.heap.size w) hk4 hw4
 have a4 : qk w4 k4 qe cky0.cells := qk.new hk4 hw4
 refine callK (quO (h.below b4)) ?_
 rintro _ w8 ⟨rfl, hb8⟩
 refine ⟨_, _, rfl, ?_⟩
 exact qn.fin (Cky.len ((oldK L (fun _ => true)).getD kpt0).ok) (Cky.one _) (a4.below hb8) (Cky.len (by rfl)) (qd B4 hb8 B4.size) l4 fun wx hb => ⟨rfl, hb⟩
def ExpP (p ma ms : Nat) (L : List Kpt) (last : Int) (now : Int) (w : World) (v : Value) (w' : World) : Prop := (∃ n : Int, v = .int .i64 n) /\ Shf qY p ma ms (expK L now) last w' /\ Chg [p, ma, ms] w w'
theorem qnT {p ma ms : Nat} {L : List Kpt} {last : Int} {w : World} (h : Shf qY p ma ms L last w) (hl : L.length <= 1000000) (now : Int) :
   Calls prog qfN #[.pointer (some ⟨p, 0, none⟩), .int .i64 now] w (Ret (ExpP p ma ms L last now w)) := by
 obtain ⟨M, S, s, hM, hS⟩ := SS.of h
 have hi := h.inv
 have hML : M.length = L.length := by have := hM.perm.length_eq; rwa [List.length_map] at this
 apply qmY
 unfold qjs
 refine ⟨rfl, rfl, some ma, qoS s, ?_⟩
 obtain ⟨w15, hr, rng, b15⟩ := qqn zw s.mM (P := prog)
 have nr : w.heap.size ≠ ma := by have := s.l2; omega
 refine ⟨w15, _, hr, fun m a l c w' => ∃ seen left, ExpI qe w p ma ms w.heap.size M now seen left m a l c w',
   ⟨_, [], M, b15, rng, by simp, Ow.nil _ _ _ _, zq.none _, rfl⟩, ?_⟩
 intro m a5 l5 c5
 refine AllJ.of ?_ _
 rintro wl ⟨seen, left, I⟩
 rcases I.rng.step nr qjk (P := prog) with ⟨rfl, hn⟩ | ⟨l1, kk, x, l2, w16, rfl, hn, rng2, hen, hg⟩
 · refine .inl ⟨wl, hn, ?_⟩
   have hp : L.Perm seen := by
     have := I.hp
     rw [List.map_nil, List.append_nil] at this
     exact hM.perm.symm.trans this
   generalize hE : (seen.filter fun k => decide (k.c.exp <= now)) = E at *
   have hEp : E.Perm (L.filter fun k => decide (k.c.exp <= now)) := by rw [<- hE]; exact (hp.symm.filter _)
   have hE0 := I.row
   rw [hE] at hE0
   have hlen := hE0.len
   rw [List.length_map] at hlen
   have hshf : Shf qY p ma ms L last wl := h.below I.hb
   have hEl : E.length <= L.length := by rw [hEp.length_eq]; exact List.length_filter_le ..
   have l1 := s.l1
   have l2 := s.l2
   have l3 := s.l3
   refine ⟨fun m i w' => ∃ k : Nat, k <= E.length /\ i = (k : Int) /\ m = E.length - k /\ Shf qY p ma ms (qrx L ((E.take k).map Kpt.plc)) last w' /\ Chg [p, ma, ms] wl w',
     ⟨_, 0, by omega, rfl, rfl, hshf, Chg.refl _ _⟩, ?_⟩
   intro m i
   refine AllJ.of ?_ _
   rintro w1 ⟨k, hk, rfl, rfl, hs1, hc1⟩
   refine BCase.of (fun hlt => ?_) (fun hlt => ?_) <;> simp only [dTx, dFx] at hlt
   · have hlt : k < E.length := by omega
     have hsl : Sl tCky w1 (fun b => w.heap.size <= b) a5 l5 c5 (E.map Kpt.c) := by
       refine (hE0.sl (A' := fun b => w.heap.size <= b) (fun _ _ hb => hb.elim) (fun g hg => I.fr g hg)).keep ⟨hc1.size, fun b hb hab => hc1.block b hb (fun hm => ?_)⟩
       simp only [List.mem_cons, List.not_mem_nil, or_false] at hm
       omega
     have hlt2 : k < (E.map Kpt.c).length := by rw [List.length_map]; exact hlt
     obtain ⟨hld, o⟩ := qay qn hsl hlt2
     rw [List.getElem_map] at hld o
     refine ⟨⟨⟨by omega, by omega⟩, hsl.isSome hlt2⟩, _, hld, ?_⟩
     refine qn.new (zs := cky0.cells) (cs := E[k].c.cells) rfl (Cky.len o) (Cky.one _) w1 fun k9 w9 hk9 h9 hb9 => ?_
     refine ⟨_, qn.load0 h9 (Cky.len o), ?_⟩
     refine callK (qjS (hs1.below hb9) (Nat.le_trans (qzd _ _) (by omega)) o) ?_
     rintro _ w37 ⟨rfl, hs2, hc2⟩
     refine ⟨_, rfl, E.length - (k + 1), by omega, k + 1, by omega, by rw [wrap_i64 (by omega) (by omega)]; omega, rfl, ?_, (hc1.step hb9).trans hc2⟩
     rw [List.take_succ_eq_append_getElem hlt, List.map_append, List.map_cons, List.map_nil, qxz]
     exact hs2
   · have : k = E.length := by omega
     subst this
     rw [List.take_length, qz4 hi now hEp] at hs1
     exact ⟨⟨_, rfl⟩, hs1, (Chg.of I.hb).trans hc1⟩
 · refine .inr ⟨w16, kk.v, x.v, hn, kk.v, x.v, hen, ?_⟩
   have B16 := Below.put I.hb hg (Nat.le_refl _)
   have ogr : ∀ g, ownB a5 = some g -> g ≠ w.heap.size := fun g hg2 e => by
     have h1 := I.rng
     obtain ⟨_, _, _, _, _, q1, _⟩ := h1
     obtain ⟨_, _, _, q2⟩ := I.row
     rcases q2 with ⟨q3, _⟩ | ⟨g', cur, fr, q3, q4, _⟩
     · rw [q3] at hg2; cases hg2
     · rw [q3] at hg2
       cases hg2
       have e : g' = w.heap.size := e
       rw [e, q1] at q4
       cases q4
   have row2 := I.row.put ogr hg
   have hp2 : (M.map (·.2)).Perm ((seen ++ [x]) ++ (l1 ++ l2).map (·.2)) := by
     refine I.hp.trans ?_
     rw [List.map_append, List.map_cons, List.map_append, List.append_assoc]
     exact List.Perm.append_left _ List.perm_middle
   have hlen : (l1 ++ l2).length < m := by rw [I.em]; simp
   have hsl : (seen.filter fun k => decide (k.c.exp <= now)).length <= L.length := by
     have h1 := I.hp.length_eq
     rw [List.length_map, hML, List.length_append] at h1
     have := List.length_filter_le (fun k : Kpt => decide (k.c.exp <= now)) seen
     omega
   refine qhO.new (zs := kpt0.cells) (cs := x.cells) (Kpt.len kpt0) (Kpt.len x) (Kpt.one _) w16 fun k7 w7 hk7 h7 hb7 => ?_
   have B7 := qd B16 hb7 B16.size
   have rng3 := rng2.below hb7
   have row3 := row2.below hb7
   refine ⟨rfl, rfl, _, h7.load1 un_int64 rfl (i := 25) ((qfg x (by decide)).trans (qE x.ok 5)), BCase.of (fun e => ?_) (fun e => ?_)⟩ <;> simp only [dTx, dFx] at e
   · refine ⟨rfl, x.c.v, qn.load h7 (i := 0) (us := x.c.cells) (Cky.len x.ok) (fun j hj => by rw [Nat.zero_add]; exact qfg _ hj), ?_⟩
     obtain ⟨w1, a1, q1, c1, e1, w2, a', n', c', e2, row4, fr4, B4, oth⟩ := qe6 row3 I.fr B7 x.ok (by rw [List.length_map]; omega)
     refine ⟨w1, a1, q1, c1, e1, w2, a', n', c', e2, _, hlen, seen ++ [x], l1 ++ l2, B4, ?_, hp2, ?_, fr4, rfl⟩
     · have hn1 : ownB a5 ≠ some w.heap.size := fun e => ogr _ e rfl
       have hn2 : ownB a5 ≠ some ma := fun e => by have := I.fr _ e; have := s.l2; omega
       exact rng3.keep (oth _ rng3.lt hn1) (oth _ rng3.map.lt hn2)
     · rw [List.filter_append, List.filter_cons, if_pos (by simpa using e), List.filter_nil, List.map_append]
       exact row4
   · refine ⟨_, hlen, seen ++ [x], l1 ++ l2, B7, rng3, hp2, ?_, I.fr, rfl⟩
     rw [List.filter_append, List.filter_cons, if_neg (by simpa using e), List.filter_nil, List.append_nil]
     exact row3
end Go.Proofs.YtlfolncaghkmcaaGreatDoor
namespace Go.Pk
open Go.RowKit (Below)
section
variable {F : Fence} {n : Nat} {P : Program} {ops : Array Oper} {Q : Exit -> Act -> World -> Prop} {a : Act} {w : World} {rest : List Oper} {o : Oper}
theorem qij (hg : o.guard = none) (hd : ∀ c, o.op ≠ .defer c) (ha : o.about P w a.eval = none) {v : Value} {w' : World} (hrun : (execOp a.eval o).run P w = .ok (.value v) w') (hK : wpListIn F n P ops Q rest (a.put o.dst v) w') : wpListIn F n P ops Q (o :: rest) a w := by
 refine wpListIn_plain hg fun K hK' => ⟨fun f hf => ?_, ?_⟩
 · rw [ha] at hf; cases hf
 · rw [Oper.semAt_plain F _ _ hd, hrun]
   exact hK' _ _ hK
theorem qxK (hg : o.guard = none) (hd : ∀ c, o.op ≠ .defer c) (ha : o.about P w a.eval = none) {w' : World} (hrun : (execOp a.eval o).run P w = .ok .skip w') (hK : wpListIn F n P ops Q rest (a.put o.dst undef) w') : wpListIn F n P ops Q (o :: rest) a w := by
 refine wpListIn_plain hg fun K hK' => ⟨fun f hf => ?_, ?_⟩
 · rw [ha] at hf; cases hf
 · rw [Oper.semAt_plain F _ _ hd, hrun]
   exact hK' _ _ hK
theorem qpC (hg : o.guard = none) {t : TypeId} {x : Operand} (hop : o.op = .load t x) {p : Value} (hx : a.eval x = p) {v : Value} (hrun : (Instr.loadAt t p).run P w = .ok v w) (hK : wpListIn F n P ops Q rest (a.put o.dst v) w) : wpListIn F n P ops Q (o :: rest) a w :=
 qij hg (by rw [hop]; intro c hc; cases hc) (by simp [Oper.about, hop]) (by simp [execOp, hop, hx, hrun, Result.andThen]) hK
theorem qnx (hg : o.guard = none) {t : TypeId} {x y : Operand} (hop : o.op = .store t x y) {p u : Value} (hx : a.eval x = p) (hy : a.eval y = u) {w' : World} (hrun : (Instr.storeAt t p u).run P w = .ok () w') (hK : wpListIn F n P ops Q rest (a.put o.dst undef) w') : wpListIn F n P ops Q (o :: rest) a w :=
 qxK hg (by rw [hop]; intro c hc; cases hc) (by simp [Oper.about, hop]) (by simp [execOp, hop, hx, hy, hrun, Result.andThen]) hK
theorem qwM (hg : o.guard = none) {t : TypeId} {x : Operand} (hop : o.op = .range t x) {p : Value} (hx : a.eval x = p) {v : Value} {w' : World} (hrun : (Instr.range t p).run P w = .ok v w') (hK : wpListIn F n P ops Q rest (a.put o.dst v) w') : wpListIn F n P ops Q (o :: rest) a w :=
 qij hg (by rw [hop]; intro c hc; cases hc) (by simp [Oper.about, hop]) (by simp [execOp, hop, hx, hrun, Result.andThen]) hK
theorem qs8 (hg : o.guard = none) {x : Operand} (hop : o.op = .next x false) {p : Value} (hx : a.eval x = p) {v : Value} {w' : World} (hrun : (Instr.next p false o.type).run P w = .ok v w') (hK : wpListIn F n P ops Q rest (a.put o.dst v) w') : wpListIn F n P ops Q (o :: rest) a w :=
 qij hg (by rw [hop]; intro c hc; cases hc) (by simp [Oper.about, hop]) (by simp [execOp, hop, hx, hrun, Result.andThen]) hK
theorem qwL (hg : o.guard = none) {x : Operand} (hop : o.op = .entry x) {p : Value} (hx : a.eval x = p) {v : Value} {w' : World} (hrun : (Instr.entry p).run P w = .ok v w') (hK : wpListIn F n P ops Q rest (a.put o.dst v) w') : wpListIn F n P ops Q (o :: rest) a w :=
 qij hg (by rw [hop]; intro c hc; cases hc) (by simp [Oper.about, hop]) (by simp [execOp, hop, hx, hrun, Result.andThen]) hK
theorem qrD (hg : o.guard = none) {t : TypeId} (hop : o.op = .alloc t) {v : Value} {w' : World} (hrun : (Instr.alloc t true (.tuple #[])).run P w = .ok v w') (hK : wpListIn F n P ops Q rest (a.put o.dst v) w') : wpListIn F n P ops Q (o :: rest) a w :=
 qij hg (by rw [hop]; intro c hc; cases hc) (by simp [Oper.about, hop]) (by simp [execOp, hop, hrun, Result.andThen]) hK
end
def qzm (w : World) (b r : Nat) : Nat :=
 match w.heap[b]?, w.heap[r]? with
 | some (.map es _), some (.mapIter _ _ seen _) => (leftOf es seen).size
 | _, _ => 0
theorem qgZ.leftN {α β : Type} [DecidableEq α] {ek : α -> Value} {ev : β -> Value} {w : World} {r m : Nat} {kvs left : List (α × β)} (h : qgZ ek ev w r m kvs left) : Go.Pk.qzm w m r = left.length := by
 obtain ⟨since, seen, c0, es, clock, hr, hm, hkv, hn, hc, hs, hsc, hsk, hl⟩ := h
 unfold Go.Pk.qzm
 rw [hm, hr]
 have := qxJ hl
 rw [Array.length_toList] at this
 exact this
theorem qgZ.walks {α β : Type} {ek : α -> Value} {ev : β -> Value} {w w' : World} {r m : Nat} {kvs left : List (α × β)} (h : qgZ ek ev w r m kvs left) (k : KeepsWalks w w') : qgZ ek ev w' r m kvs left := by
 obtain ⟨since, seen, c0, es, clock, hr, hm, h3⟩ := h
 exact ⟨since, seen, c0, es, clock, k.same _ _ hr rfl, k.same _ _ hm rfl, h3⟩
theorem qgZ.walk {α β : Type} {ek : α -> Value} {ev : β -> Value} {w : World} {r m : Nat} {kvs left : List (α × β)} (h : qgZ ek ev w r m kvs left) : ∃ o : Obj, w.heap[r]? = some o /\ o.isWalk = true := by
 obtain ⟨since, seen, c0, es, clock, hr, _⟩ := h
 exact ⟨_, hr, rfl⟩
theorem qpx {w w' : World} (hb : Below w.heap.size w w') : w.grownBy w' none := ⟨hb.os, hb.tape, hb.output, hb.size, fun k hk _ => hb.block k hk⟩
end Go.Pk
namespace Go.Proofs.YtlfolncaghkmcaaGreatDoor
open Go.Pk Go.RowKit Go.Shelf
attribute [local go_sem] Oper.semAt_some
theorem quX (w : World) : (Instr.alloc qL true (.tuple #[])).run prog w = .ok (.pointer (some ⟨w.heap.size, 0, none⟩)) (w.alloc (.cells kpt0.cells.toArray qL)) := by
 kernel_rfl
set_option maxRecDepth 100000 in
set_option maxHeartbeats 2000000 in
theorem qBF (F : Fence) (n : Nat) (h7 : F.fn 155) (hro : F.round = none) (hn : 1 <= n) (l Bs m : Nat) (kvs : List (Plc × Kpt)) (J Jx : List Kpt -> World -> Prop)
   (hY : ∀ pre x W, J pre W -> pre.length < kvs.length -> YieldAt F (n - 1) prog l #[x.v] W fun e W' =>
     (e = .returned (.bool true) /\ J (pre ++ [x]) W' /\ KeepsWalks W W') \/ (e = .returned (.bool false) /\ Jx (pre ++ [x]) W'))
   (W : World) (hJ : AbidesFrom W.heap.size J) (hBs : W.cell? ⟨Bs, 0, none⟩ = some (.map (some m))) (hm : MapS Plc.v Kpt.v W m kvs) (h0 : J [] W) :
   CallsIn F n prog 155 #[.func (.yield l) #[] #[], .pointer (some ⟨Bs, 0, none⟩)] W fun e W' => (∃ v, e = .returned v) /\
     ((∃ xs, xs.Perm (kvs.map (·.2)) /\ J xs W') \/ (∃ pre, True /\ Jx pre W')) := by
 obtain ⟨w0, hr0, hrg0, hb0⟩ := qqn (P := prog) zw hm
 have hmlt := hm.lt
 refine callsIn_of_wp Tryz.func155 rfl h7 ?_ hro
 simp only [Tryz.ntmps155, List.size_toArray, List.length_cons, List.length_nil, Nat.reduceAdd, Nat.reduceSub, Array.replicate_succ, Array.replicate_zero, List.push_toArray, List.append_toArray, List.nil_append, List.cons_append]
 gi_wp2_with (first
   | (refine qwM rfl rfl rfl hr0 ?_)
   | gi_in)
 simp only [Act.put, List.setIfInBounds_toArray, List.set_cons_succ, List.set_cons_zero]
 gi_loopw [4] (fun _ wr => ∃ (left : List (Plc × Kpt)) (ps : List Kpt), qgZ Plc.v Kpt.v wr W.heap.size m kvs left /\ (ps ++ left.map (·.2)).Perm (kvs.map (·.2)) /\ J ps wr)
   (fun _ wr => qzm wr m W.heap.size)
 case atStart => exact ⟨kvs, [], hrg0, List.Perm.refl _, hJ [] W w0 none h0 (qpx hb0) (fun r e => by cases e)⟩
 case round =>
   obtain ⟨left, ps, hrg, hp, hJs⟩ := hrel
   have hlr := hrg.lt
   rcases hrg.step (P := prog) (by omega) 0 with ⟨rfl, hrun⟩ | ⟨l1, k, v, l2, w2, rfl, hrun, hrg2, hent, hg2⟩
   · gi_wp2_with (first
       | (refine qs8 rfl rfl rfl hrun ?_)
       | gi_in)
     go_end0
     rw [List.map_nil, List.append_nil] at hp
     exact ⟨⟨_, rfl⟩, .inl ⟨ps, hp, hJs⟩⟩
   · have hb3 : Below w2.heap.size w2 (w2.alloc (.cells kpt0.cells.toArray qL)) := qj w2 _
     obtain ⟨w3, hst, ha3, hg3⟩ := qhO.store0 (P := prog) (cs := v.cells) (Kpt.len v) (Kpt.one v) (qk.new (t := qL) (vs := kpt0.cells) rfl rfl : qk (w2.alloc (.cells kpt0.cells.toArray qL)) w2.heap.size qL kpt0.cells) (Kpt.len kpt0)
     have hb23 := Below.put hb3 hg3 (Nat.le_refl _)
     have hld : (Instr.loadAt qL (.pointer (some ⟨w2.heap.size, 0, none⟩))).run prog w3 = .ok v.v w3 := qhO.load0 ha3 (Kpt.len v)
     have hrg3 := hrg2.below hb23
     have hJ2 : J ps w2 := hJ ps wr w2 _ hJs hg2 (fun r e => by cases e; exact ⟨Nat.le_refl _, hrg.walk⟩)
     have hJ3 : J ps w3 := hJ ps w2 w3 none hJ2 (qpx hb23) (fun r e => by cases e)
     have hlen : ps.length < kvs.length := by
       have := hp.length_eq
       rw [List.length_append, List.length_map, List.length_map, List.length_append, List.length_cons] at this
       omega
     obtain ⟨fn, tmps, assign, body, hy, hR⟩ := hY ps v w3 hJ3 hlen
     have hpp : ((ps ++ [v]) ++ (l1 ++ l2).map (·.2)).Perm (kvs.map (·.2)) := by
       refine List.Perm.trans ?_ hp
       rw [List.append_assoc, List.map_append, List.map_append, List.map_cons]
       exact List.Perm.append_left ps (by simpa using List.perm_middle.symm)
     gi_wp2_with (first
       | (refine qs8 rfl rfl rfl hrun ?_)
       | (refine qwL rfl rfl rfl hent ?_)
       | (refine qrD rfl rfl (quX _) ?_)
       | (refine qnx rfl rfl rfl rfl hst ?_)
       | (refine qpC rfl rfl rfl hld ?_)
       | gi_in)
     refine hR.mono ?_
     rintro e W3 (⟨rfl, hJ4, hk4⟩ | ⟨rfl, hJx4⟩)
     · gi_wp2
       have hrg4 := hrg3.walks hk4
       go_roundw
       case rel => exact ⟨l1 ++ l2, ps ++ [v], hrg4, hpp, hJ4⟩
       case measure => rw [hrg4.leftN, hrg.leftN]; simp
     · gi_wp2
       refine bodyPost_ret (results_none rfl _ _ _) rfl ?_
       exact ⟨⟨_, rfl⟩, .inr ⟨ps ++ [v], trivial, hJx4⟩⟩
theorem qxO (F : Fence) (n : Nat) (h7 : F.fn 155) (hro : F.round = none) (hn : 1 <= n) (Bs m : Nat) (kvs : List (Plc × Kpt)) (w : World) (hBl : Bs < w.heap.size)
   (hBs : w.cell? ⟨Bs, 0, none⟩ = some (.map (some m))) (hm : MapS Plc.v Kpt.v w m kvs) :
   SeqStopsK F n prog 155 #[.pointer (some ⟨Bs, 0, none⟩)] (fun x : Kpt => #[x.v]) KeepsWalks (fun xs => xs.Perm (kvs.map (·.2))) (fun _ => True) kvs.length w := fun l J Jx W hW hJ _ hY h0 =>
 qBF F n h7 hro hn l Bs m kvs J Jx hY W hJ ((hW.cell (p := ⟨Bs, 0, none⟩) hBl).trans hBs) (hm.below hW) h0
end Go.Proofs.YtlfolncaghkmcaaGreatDoor
namespace Go.Pk
open Go.RowKit (Below)
theorem qCQ {L : List Kpt} {last : Int} (s : ShI L last) {i j : Nat} (hi : i < L.length) (hj : j < L.length) (e : L[i].plc = L[j].plc) : i = j := by
 have hpw := List.pairwise_iff_getElem.1 s.key
 rcases Nat.lt_trichotomy i j with hl | hl | hl
 · exact absurd e (hpw i j hi hj hl)
 · exact hl
 · exact absurd e.symm (hpw j i hj hi hl)
theorem qiJ {L : List Kpt} {last : Int} (s : ShI L last) {i : Nat} (hi : i < L.length) {p : Plc} (hp : L[i].plc = p) (f : Kpt -> Kpt) : (L.map fun k => if k.plc = p then f k else k) = L.set i (f L[i]) := by
 apply List.ext_getElem
 · simp
 · intro j h1 h2
   have hj : j < L.length := by simpa using h1
   rw [List.getElem_map, List.getElem_set]
   by_cases c : i = j
   · subst c
     rw [if_pos hp, if_pos rfl]
   · rw [if_neg c, if_neg]
     exact fun e => c (qCQ s hi hj (hp.trans e.symm))
theorem Ow.ne {α : Type} {T : Ty α} {t t' : TypeId} {w : World} {A : Bl} {a : Option Addr} {n c k : Nat} {xs : List α} {vs : List Value} (h : Ow T t w A a n c xs) (ha : qk w k t' vs) (ht : t ≠ t') : ∀ g, ownB a = some g -> g ≠ k := by
 intro g hg e
 subst e
 obtain ⟨_, _, _, h4⟩ := h
 rcases h4 with ⟨e1, _⟩ | ⟨g', cur, fr, e', hh, _⟩
 · rw [e1] at hg; cases hg
 · rw [e'] at hg
   cases hg
   rw [show w.heap[g']? = _ from ha] at hh
   cases hh
   exact ht rfl
end Go.Pk

namespace Go.Pk
def qlE (rs : List Rul) (h : Hst) : List UInt8 :=
 if h.kind = 1 then (if 1 <= sufV rs (labelsV h).reverse + 1 /\ sufV rs (labelsV h).reverse + 1 <= (labelsV h).length then qjT (labelsV h) (sufV rs (labelsV h).reverse + 1) else [])
 else if jh h = true then qfV h else []
def qda (rs : List Rul) (h : Hst) : List UInt8 := if qlE rs h = [] then qfV h else qlE rs h
structure JS where
 L : List Kpt
 last : Int
 now : Int
def js0 (now : Int) : JS := ⟨[], 0, now⟩
def qcj (s : JS) (n : Int) : JS × Int := if n < 0 \/ 1099511627776 - s.now < n then (s, 122) else (⟨expK s.L (s.now + n), s.last, s.now + n⟩, 0)
def qhn (old c : Cky) : Bool := old.sec && ((old.name == c.name) && ((domB old.host c.host || domB c.host old.host) && qjP c.path old.path))
def fit1 (s : List UInt8) : Nat -> List Kpt -> List Kpt
 | 0, L => L
 | f + 1, L => if 50 < cntK L s then (match oldK L (fun k => decide (k.site = s)) with | some k => fit1 s f (dropK L k.plc) | none => L) else L
def fit2 : Nat -> List Kpt -> List Kpt
 | 0, L => L
 | f + 1, L => if 3000 < L.length then (match oldK L (fun _ => true) with | some k => fit2 f (dropK L k.plc) | none => L) else L
def fitK (s : List UInt8) (L : List Kpt) : List Kpt := fit2 (fit1 s L.length L).length (fit1 s L.length L)
def qkK (rs : List Rul) (s : JS) (c : Cky) (o : c.ok) : JS :=
 ⟨fitK (qda rs c.host) (expK (putK s.L s.last ⟨c, qda rs c.host, o⟩).1 s.now), (putK s.L s.last ⟨c, qda rs c.host, o⟩).2, s.now⟩
noncomputable def setV (rs : List Rul) (s : JS) (u : Url) (ou : u.ok) (t : List UInt8) : JS × Int :=
 if qec u = false then (s, 41)
 else if (qR t).2 ≠ 0 then (s, (qR t).2)
 else if (takV rs u (qR t).1 s.now).2 ≠ 0 then (s, (takV rs u (qR t).1 s.now).2)
 else if u.sec = false /\ s.L.any (fun k => qhn k.c (takV rs u (qR t).1 s.now).1) = true then (s, 121)
 else (qkK rs s (takV rs u (qR t).1 s.now).1 (qnW ou _ _), 0)
def aheadB (a b : Cky) : Bool := decide (b.path.length < a.path.length) || (decide (a.path.length = b.path.length) && decide (a.seq < b.seq))
def insK (c : Kpt) : List Kpt -> List Kpt
 | [] => [c]
 | x :: r => if aheadB c.c x.c = true then c :: x :: r else x :: insK c r
def goesK (L : List Kpt) (r : Req) (now : Int) : List Kpt := (L.filter fun k => jQ k.c r now).foldl (fun out c => insK c out) []
def qeW (c : Cky) : List UInt8 := if c.name = [] then c.value else c.name ++ [61] ++ c.value
def usesK (L : List Kpt) (ks : List Kpt) (now : Int) : List Kpt := ks.foldl (fun L k => useK L k.plc now) L
def sayL : List (List UInt8) -> List UInt8
 | [] => []
 | [x] => x
 | x :: y :: r => x ++ [59, 32] ++ sayL (y :: r)
def getV (s : JS) (r : Req) : JS × List UInt8 := (⟨usesK s.L (goesK s.L r s.now) s.now, s.last, s.now⟩, sayL ((goesK s.L r s.now).map fun k => qeW k.c))
theorem ahead_trans {a b c : Cky} (h : aheadB a b = true) (k : aheadB b c = true) : aheadB a c = true := by
 unfold aheadB at h k ⊢
 simp only [Bool.or_eq_true, Bool.and_eq_true, dTx] at h k ⊢
 omega
theorem qxn {a b : Cky} (h : a.seq ≠ b.seq) : aheadB a b = true \/ aheadB b a = true := by
 unfold aheadB
 simp only [Bool.or_eq_true, Bool.and_eq_true, dTx]
 omega
theorem qkT (c : Kpt) : ∀ l : List Kpt, (insK c l).Perm (c :: l)
 | [] => List.Perm.refl _
 | x :: r => by
   unfold insK
   split
   · exact List.Perm.refl _
   · exact ((qkT c r).cons x).trans (List.Perm.swap c x r)
theorem qu6 (c : Kpt) : ∀ l : List Kpt, (l.Pairwise fun a b => aheadB a.c b.c = true) -> (∀ x ∈ l, x.c.seq ≠ c.c.seq) -> ((insK c l).Pairwise fun a b => aheadB a.c b.c = true)
 | [], _, _ => List.pairwise_singleton _ _
 | x :: r, h, hn => by
   rw [List.pairwise_cons] at h
   unfold insK
   split
   · rename_i hc
     rw [List.pairwise_cons, List.pairwise_cons]
     refine ⟨fun y hy => ?_, h⟩
     rcases List.mem_cons.1 hy with rfl | hy
     · exact hc
     · exact ahead_trans hc (h.1 y hy)
   · rename_i hc
     rw [List.pairwise_cons]
     refine ⟨fun y hy => ?_, qu6 c r h.2 fun z hz => hn z (List.mem_cons_of_mem _ hz)⟩
     rcases List.mem_cons.1 ((qkT c r).mem_iff.1 hy) with rfl | hy
     · exact (qxn (hn x (List.mem_cons_self ..))).resolve_right hc
     · exact h.1 y hy
theorem qgS : ∀ (l out : List Kpt), (l.foldl (fun out c => insK c out) out).Perm (out ++ l)
 | [], out => by rw [List.append_nil]; exact List.Perm.refl _
 | c :: l, out => by
   rw [List.foldl_cons]
   refine (qgS l _).trans ?_
   refine ((qkT c out).append_right l).trans ?_
   exact List.perm_middle.symm
theorem qmF : ∀ (l out : List Kpt), ((out ++ l).Pairwise fun a b => a.c.seq ≠ b.c.seq) -> (out.Pairwise fun a b => aheadB a.c b.c = true) -> ((l.foldl (fun out c => insK c out) out).Pairwise fun a b => aheadB a.c b.c = true)
 | [], out, _, h => h
 | c :: l, out, hn, h => by
   rw [List.foldl_cons]
   have hp : (out ++ c :: l).Perm (insK c out ++ l) := (List.perm_middle.trans (((qkT c out).symm).append_right l))
   refine qmF l _ ?_ (qu6 c out h fun x hx => ?_)
   · exact (hp.pairwise_iff fun {a b} hab => Ne.symm hab).1 hn
   · rw [List.pairwise_append] at hn
     exact hn.2.2 x hx c (List.mem_cons_self ..)
theorem qe5 (L : List Kpt) (r : Req) (now : Int) : (goesK L r now).Perm (L.filter fun k => jQ k.c r now) := by
 have := qgS (L.filter fun k => jQ k.c r now) []
 rw [List.nil_append] at this
 exact this
theorem qxE {L : List Kpt} {last : Int} (h : ShI L last) (r : Req) (now : Int) : (goesK L r now).Pairwise fun a b => aheadB a.c b.c = true := by
 refine qmF _ [] ?_ List.Pairwise.nil
 rw [List.nil_append]
 exact (h.up.filter _).imp fun {a b} hab => by omega
theorem ShI.uses {L : List Kpt} {last : Int} (h : ShI L last) (now : Int) : ∀ ks : List Kpt, ShI (usesK L ks now) last := by
 intro ks
 unfold usesK
 revert L
 induction ks with
 | nil => intro L h; exact h
 | cons k ks ih => intro L h; exact ih (h.use k.plc now)
theorem drop_len {L : List Kpt} {k : Kpt} (hk : k ∈ L) : (dropK L k.plc).length < L.length := by
 unfold dropK
 refine List.length_filter_lt_length_iff_exists.2 ⟨k, hk, by simp⟩
theorem qxR {L : List Kpt} {last : Int} (s : ShI L last) {of : Kpt -> Bool} {k : Kpt} (h : oldK L of = some k) : k ∈ L /\ of k = true := by
 have := qou (of := of) s
 rw [h] at this
 exact ⟨this.1, this.2.1⟩
theorem qv1 {L : List Kpt} {last : Int} (s : ShI L last) {of : Kpt -> Bool} {x : Kpt} (hx : x ∈ L) (ho : of x = true) : ∃ k, oldK L of = some k := by
 cases h : oldK L of with
 | some k => exact ⟨k, rfl⟩
 | none =>
   have := qou (of := of) s
   rw [h] at this
   have := this x hx
   rw [ho] at this; cases this
end Go.Pk
namespace Go.Pk
open Go.RowKit (Below)
theorem qjH.base {w0 w1 : World} {t te : TypeId} {kt km : Nat} {a : Option Addr} {n c : Nat} {ps : List Pth} {kvs : List (qjj × Int)} {es : List (List Bool)} {rs : List Rul} {w : World} (S : qjH w1 t te kt km a n c ps kvs es rs w) (h : Below w0.heap.size w0 w1) : qjH w0 t te kt km a n c ps kvs es rs w :=
 ⟨S.h1, S.h2, S.h3, S.T, S.t, qd h S.hb h.size, S.ne, fun g hg => ⟨(S.og g hg).1, (S.og g hg).2.1, Nat.le_trans h.size (S.og g hg).2.2⟩, Nat.le_trans h.size S.kt0, Nat.le_trans h.size S.km0⟩
end Go.Pk

namespace Go.Pk
open Go.RowKit (Below)
theorem qCO : qm1 hdr0 := ⟨by decide, by decide, by decide, by decide, by decide, by decide⟩
theorem qzp {s : List UInt8} (h : (qR s).2 ≠ 0) : (qR s).1 = hdr0 := by
 unfold qR at h ⊢
 split
 · rfl
 split
 · rfl
 split
 · rfl
 · rename_i h1 h2 h3
   rw [if_neg h1, if_neg h2, if_neg h3] at h
   exact absurd rfl h
theorem qiL (s : List UInt8) : qm1 (qR s).1 := by
 by_cases h : (qR s).2 = 0
 · exact qCN (parse_good (s := s) (Prod.ext rfl h))
 · rw [qzp h]; exact qCO
end Go.Pk
namespace Go.Pk
open Go.RowKit (Below)
theorem qor (h : Hst) : qbA h h = true := by
 have ha : ∀ l : List UInt8, adEq l l = true := fun l => by
   induction l with
   | nil => rfl
   | cons a l ih => simp [adEq, ih]
 unfold qbA; rw [ha]; simp
theorem qxb (rs : List Rul) (u : Url) (h : Hdr) (now : Int) : ((takV rs u h now).2 ≠ 0 /\ (takV rs u h now).1 = cky0) \/
   ((takV rs u h now).2 = 0 /\ givV u h now = 0 /\ errV u h (domV rs u.host h.domain) = 0 /\ (takV rs u h now).1 = ckyV u h (domV rs u.host h.domain) now) := by
 unfold takV
 split
 · rename_i h1; exact .inl ⟨h1, rfl⟩
 · rename_i h1
   split
   · rename_i h2; exact .inl ⟨h2, rfl⟩
   · rename_i h2; exact .inr ⟨rfl, by simpa using h1, by simpa using h2, rfl⟩
theorem qAj {u : Url} {h : Hdr} {now : Int} (g : givV u h now = 0) : qec u = true /\ qbB h = true /\ 0 <= now /\ now <= 1099511627776 := by
 unfold givV at g
 split at g
 · cases g
 split at g
 · cases g
 split at g
 · cases g
 split at g
 · cases g
 · rename_i h1 h2 h3 h4
   exact ⟨by simpa using h1, by simpa using h2, by omega, by omega⟩
theorem qAa {u : Url} {h : Hdr} {d : Hst × Bool × Int} (e : errV u h d = 0) : d.2.2 = 0 /\ (h.sec && !u.sec) = false /\ (decide (h.same = 1) && !h.sec) = false /\ qhI h d.2.1 = false := by
 unfold errV at e
 split at e
 · exact absurd e (by assumption)
 split at e
 · cases e
 split at e
 · cases e
 split at e
 · cases e
 · rename_i h1 h2 h3 h4
   exact ⟨by simpa using h1, by simpa using h2, by simpa using h3, by simpa using h4⟩
theorem qya {u : Url} (h : qec u = true) : jh u.host = true /\ pathB u.path = true := by
 unfold qec at h
 simp only [Bool.and_eq_true] at h
 exact ⟨h.1, h.2.2.2⟩
theorem qz2 {rs : List Rul} {u : Hst} {t : List UInt8} (hu : jh u = true) (e : (domV rs u t).2.2 = 0) :
   ((domV rs u t).2.1 = true -> qbA (domV rs u t).1 u = true) /\ (pubB rs (domV rs u t).1 = true -> (domV rs u t).2.1 = true) /\ domB u (domV rs u t).1 = true := by
 unfold domV at e ⊢
 split
 · refine ⟨fun _ => qor u, fun _ => rfl, ?_⟩
   unfold domB; rw [hu, qor]; rfl
 · rename_i ht
   rw [if_neg ht] at e
   cases hd : jl t with
   | none => rw [hd] at e; cases e
   | some d =>
     rw [hd] at e
     simp only at e ⊢
     split
     · rename_i h1; rw [if_pos h1] at e; cases e
     · rename_i h1
       rw [if_neg h1] at e
       split
       · rename_i h2; rw [if_pos h2] at e; cases e
       · rename_i h2
         refine ⟨fun hp => ?_, fun hp => hp, by simpa using h2⟩
         have hp : pubB rs d = true := hp
         rw [hp, Bool.true_and] at h1
         simpa using h1
end Go.Pk
set_option maxRecDepth 100000
namespace Go.Proofs.YtlfolncaghkmcaaGreatDoor
open Go.Pk
open Go.RowKit (Below)
--  (*cracknel/suffix.Table).Site
def qiY (p0 : Option Addr) (v1 : Value) (w : World) (K : Value -> World -> Prop) : Prop :=
 ∀ k3 w3, k3 = w.heap.size -> w3 = w.alloc (.cells (Value.cells v1) qf) ->
 ∃ J : FP [],
 (∃ J_1 : FP [.one (.bool)],
 ((true = true) /\
 ∃ n8, Ld qt (some ⟨k3, 0, none⟩) w3 (.int .i64 n8) /\
 BCase (n8 != (1 : Int))
 (∃ v11, Ld qf (some ⟨k3, 0, none⟩) w3 v11 /\
 Calls prog qhd #[v11] w3 fun e12 w12 => ∃ b12, e12 = .returned (.bool b12) /\
 J_1 b12 w12)
 (J_1 false w3)) /\
 ∀ b13, AllJ 6 (∀ wj, J_1 b13 wj ->
 BCase b13
 (∃ v14, Ld qf (some ⟨k3, 0, none⟩) wj v14 /\
 Calls prog qj7 #[v14] wj fun e15 w15 => ∃ s15, e15 = .returned (.string (mkS s15)) /\
 K (.string (mkS s15)) w15)
 (J wj))) /\
 AllJ 10 (∀ wj_1, J wj_1 ->
 ∃ v17, (∀ u17, Below wj_1.heap.size wj_1 u17 -> Ld qf (some ⟨k3, 0, none⟩) u17 v17) /\
 ∃ v19, (∀ u19, Below wj_1.heap.size wj_1 u19 -> Ld qf (some ⟨k3, 0, none⟩) u19 v19) /\
 ∃ n20, (∀ u20, Below wj_1.heap.size wj_1 u20 -> Calls prog qe4 #[.pointer p0, v19] u20 fun e20 w20 => e20 = .returned (.int .i64 n20) /\ Below u20.heap.size u20 w20) /\
 ∃ v22_0 b22_1, (∀ u22, Below wj_1.heap.size wj_1 u22 -> Calls prog qh4 #[v17, .int .i64 (i64.wrap (n20 + (1 : Int)))] u22 fun e22 w22 => e22 = .returned (.tuple #[v22_0, .bool b22_1]) /\ Below u22.heap.size u22 w22) /\
 ∀ k5, wj_1.heap.size <= k5 ->
 ∀ wq, Below wj_1.heap.size wj_1 wq ->
 wq.heap[k5]? = some (.cells qZ qf) ->
 ∃ wx, Sv qf (some ⟨k5, 0, none⟩) v22_0 wq wx /\
 (true = true) /\
 ∃ s26, Ld qh (some ⟨k5, 1, none⟩) wx (.string (mkS s26)) /\
 K (.string (mkS s26)) wx)
theorem qmv (p0 : Option Addr) (v1 : Value) {w : World} {K : Value -> World -> Prop} (h : qiY p0 v1 w K) : Calls prog qh7 #[.pointer p0, v1] w (Ret K) :=
 qm (c := qq Tryz.f75) (by kernel_rfl) Tryz.func75 (by kernel_rfl) [(2, []), (3, [(13, .one (.bool))]), (3000011, [(1, .one (.bool)), (0, .one (.bool)), (2, .one (.bool)), (3, .one (.bool)), (4, .one (.bool)), (5, .one (.bool)), (6, .one (.bool)), (7, .one (.bool)), (8, .one (.bool)), (9, .one (.bool))])] [.pointer p0, v1] (of_decide_eq_true (by kernel_rfl)) _ (by kernel_rfl) h

--  cracknel/cracknelref06.Site
end Go.Proofs.YtlfolncaghkmcaaGreatDoor
set_option maxRecDepth 20000
namespace Go.Pk
open Go.RowKit (Below)
theorem qBH (p o : List UInt8) : qjP p o = (Lib.hasPrefix p o && ((p.drop o.length == []) || (decide ((p.drop o.length).head? = some 47) || decide (o.getLast? = some 47)))) := by
 have e1 : Lib.hasPrefix p o = (decide (o.length <= p.length) && (p.take o.length == o)) := (Lib.hasPrefix_of_take p o).symm
 unfold qjP
 rw [e1, List.head?_drop]
 by_cases h : p.take o.length = o
 · have hl : o.length <= p.length := by
     have := congrArg List.length h
     rw [List.length_take] at this; omega
   by_cases h2 : o.length < p.length
   · have h3 : p ≠ o := fun e => by rw [e] at h2; omega
     have h4 : p.drop o.length ≠ [] := fun e => by have := congrArg List.length e; rw [List.length_drop, List.length_nil] at this; omega
     rw [beq_eq_false_iff_ne.2 h3, decide_eq_true h2, h, beq_self_eq_true, decide_eq_true hl, beq_eq_false_iff_ne.2 h4]
     simp only [Bool.false_or, Bool.true_and]
   · have h5 : p.length = o.length := by omega
     have h3 : p = o := by rw [<- h, <- h5, List.take_length]
     have h4 : p.drop o.length = [] := List.drop_eq_nil_of_le (by omega)
     simp [h3]
 · have h3 : p ≠ o := fun e => h (by rw [e, List.take_length])
   rw [beq_eq_false_iff_ne.2 h3, beq_eq_false_iff_ne.2 h]
   simp only [Bool.false_or, Bool.false_and, Bool.and_false]
end Go.Pk
namespace Go.Proofs.YtlfolncaghkmcaaGreatDoor
open Go.Pk
open Go.RowKit (Below)
theorem qC5 (s p : List UInt8) (hs : s.length <= 9223372036854775807) (w : World) : Calls prog qka #[.string (mkS s), .string (mkS p)] w (Ret fun v w' => v = .bool (Lib.hasSuffix s p) /\ w' = w) :=
 (Tryz.strings_HasSuffix (mkS s) (mkS p) w hs).mono fun e w' ⟨h1, h2⟩ => ⟨_, h1, rfl, h2⟩
theorem qqd (p o : List UInt8) (ho : o.length <= 9223372036854775807) (w : World) : Calls prog qig #[.string (mkS p), .string (mkS o)] w (Ret fun v w' => v = .bool (qjP p o) /\ w' = w) := by
 apply quG
 unfold qqQ
 refine callK (qxt p o w) ?_
 rintro _ w1 ⟨rfl, hw⟩
 rw [hw]
 refine ⟨_, _, rfl, ?_⟩
 rw [qBH]
 refine BCase.of (fun h => ?_) (fun h => ⟨by rw [h]; rfl, rfl⟩)
 have e : Lib.trimPrefix p o = p.drop o.length := if_pos h
 rw [h, e, Bool.true_and]
 refine BCase.of (fun h2 => ⟨by rw [h2]; rfl, rfl⟩) (fun h2 => ?_)
 rw [h2, Bool.false_or]
 generalize p.drop o.length = q at *
 cases q with
 | nil => cases h2
 | cons x q =>
   refine ⟨⟨by decide, by simp⟩, ?_⟩
   have hu := qaf x 47
   rw [show (((47 : UInt8).toNat : Nat) : Int) = 47 from rfl] at hu
   rw [show qH (x :: q) (0 : Int) = ((x.toNat : Nat) : Int) from rfl, hu]
   refine BCase.of (fun c => ⟨?_, rfl⟩) (fun c => ?_)
   · rw [eq_of_beq c]; rfl
   · refine callK (qC5 o [47] ho w) ?_
     rintro _ w2 ⟨rfl, hw2⟩
     rw [hw2, (qyO o 47).1]
     refine ⟨_, rfl, ?_, rfl⟩
     have : x ≠ 47 := fun e => by rw [e] at c; cases c
     simp [this]
theorem qr2 (n k : Int) (w : World) : Calls prog qhe #[.int .i64 n, .int .i64 k] w (Ret fun v w' => v = .bool (qif n k) /\ w' = w) := by
 apply qrn
 unfold qmS
 unfold qif
 refine BCase.of (fun h => ?_) (fun h => ?_)
 · have h := eq_of_beq h
   subst h
   exact ⟨rfl, rfl⟩
 · have h0 : k ≠ 0 := by simpa using h
   refine BCase.of (fun h2 => ?_) (fun h2 => ?_)
   · have h2 := eq_of_beq h2
     subst h2
     exact ⟨rfl, rfl⟩
   · have h1 : k ≠ 1 := by simpa using h2
     rw [if_neg h1]
     refine BCase.of (fun h3 => ?_) (fun h3 => ?_)
     · have h3 := eq_of_beq h3
       subst h3
       exact ⟨rfl, rfl⟩
     · have h2 : k ≠ 2 := by simpa using h3
       rw [if_neg h2, h]
       exact ⟨rfl, rfl⟩
def atV (c : Cky) (h : Hst) : Bool := if c.only = true then qbA c.host h && jh h else domB h c.host
theorem qxM {c : Cky} {h : Hst} (oc : c.ok) (oh : h.ok) (cn : c.host.name.length <= 1000000000) (hn : h.name.length <= 1000000000) (w : World) (he : Env w) :
   Calls prog qlr #[c.v, h.v] w (Ret fun v w' => v = .bool (atV c h) /\ Below w.heap.size w w') := by
 apply qw1
 unfold qtZ
 intro k2 w2 hk2 hw2 k3 w3 hk3 hw3
 have hB2 := (hw2 ▸ qj w _ : Below w.heap.size w w2)
 have hb3 := (hw3 ▸ qj w2 _ : Below w2.heap.size w2 w3)
 have hB3 := qd hB2 hb3 hB2.size
 have a2 : qk w3 k2 qe c.cells := (qk.new hk2 hw2 : qk w2 k2 qe c.cells).below hb3
 have a3 : qk w3 k3 qf h.cells := qk.new hk3 hw3
 have lc := qv.load a2 (i := 2) (us := c.host.cells) (Hst.len oc) (fun j hj => qaP oc hj)
 have lh := qv.load0 a3 (Hst.len oh)
 unfold atV
 refine ⟨rfl, _, a2.load1 un_bool rfl (i := 20) (qE oc 0), BCase.of (fun e => ?_) (fun e => ?_)⟩
 · rw [if_pos e]
   refine ⟨rfl, _, lc, _, lh, _, qg3 oc oh w3, BCase.of (fun e2 => ?_) (fun e2 => ⟨by rw [e2]; rfl, hB3⟩)⟩
   refine ⟨_, lh, ?_⟩
   refine callK (qiG oh hn w3 (he.step hB3)) ?_
   rintro _ w4 ⟨rfl, hb4⟩
   exact ⟨_, rfl, by rw [e2]; rfl, qd hB3 hb4 hB3.size⟩
 · rw [if_neg (by rw [e]; decide)]
   refine ⟨_, lh, rfl, _, lc, ?_⟩
   refine callK (qiK oh oc hn cn w3 (he.step hB3)) ?_
   rintro _ w4 ⟨rfl, hb4⟩
   exact ⟨_, rfl, rfl, qd hB3 hb4 hB3.size⟩
theorem qC2 {c : Cky} {r : Req} (oc : c.ok) (or : r.ok) (now : Int) : jQ c r now = (decide (now < c.exp) && ((r.sec || !c.sec) && (qif c.same r.cross && (qjP r.path c.path && atV c r.host)))) := by
 have e1 : (!(decide (now >= c.exp))) = decide (now < c.exp) := by
   rw [Bool.eq_iff_iff]; simp
 have e2 : (!(c.only && !qbA c.host r.host) && domB r.host c.host) = atV c r.host := by
   unfold atV
   cases ho : c.only with
   | false => simp
   | true =>
     cases he : qbA c.host r.host with
     | false => simp
     | true =>
       have := (qaD oc or).1 he
       unfold domB
       rw [this, qor]
       cases jh r.host <;> simp
 unfold jQ
 rw [e1, <- e2]
 cases c.only <;> cases qbA c.host r.host <;> cases domB r.host c.host <;> cases qjP r.path c.path <;> cases c.sec <;> cases r.sec <;> cases decide (now < c.exp) <;> cases qif c.same r.cross <;> rfl
theorem quk {c : Cky} {r : Req} (oc : c.ok) (or : r.ok) (cn : c.host.name.length <= 1000000000) (rn : r.host.name.length <= 1000000000) (cp : c.path.length <= 9223372036854775807) (now : Int) (w : World) (he : Env w) :
   Calls prog ql5 #[c.v, r.v, .int .i64 now] w (Ret fun v w' => v = .bool (jQ c r now) /\ Below w.heap.size w w') := by
 apply qtw
 unfold qo7
 intro k3 w3 hk3 hw3 k4 w4 hk4 hw4
 have hB3 := (hw3 ▸ qj w _ : Below w.heap.size w w3)
 have hb4 := (hw4 ▸ qj w3 _ : Below w3.heap.size w3 w4)
 have hB4 := qd hB3 hb4 hB3.size
 have a3 : qk w4 k3 qe c.cells := (qk.new hk3 hw3 : qk w3 k3 qe c.cells).below hb4
 have a4 : qk w4 k4 qD r.cells := qk.new hk4 hw4
 rw [qC2 oc or]
 have tail : ∀ {K : Value -> World -> Prop}, (∀ wy, Below w.heap.size w wy -> K (.bool (qif c.same r.cross && (qjP r.path c.path && atV c r.host))) wy) ->
     (true = true) /\ ∃ (n22 : Int), (Instr.loadAt qt (.pointer (some ⟨k3, 24, none⟩))).run prog w4 = .ok (.int .i64 n22) w4 /\ (true = true) /\
     ∃ (n24 : Int), (Instr.loadAt qt (.pointer (some ⟨k4, 20, none⟩))).run prog w4 = .ok (.int .i64 n24) w4 /\
     Calls prog qhe #[.int .i64 n22, .int .i64 n24] w4 fun e25 w25 => ∃ (b25 : Bool), e25 = .returned (.bool b25) /\
     BCase b25
     ((true = true) /\ ∃ (s29 : List UInt8), (Instr.loadAt qh (.pointer (some ⟨k4, 19, none⟩))).run prog w25 = .ok (.string (mkS s29)) w25 /\ (true = true) /\
     ∃ (s31 : List UInt8), (Instr.loadAt qh (.pointer (some ⟨k3, 21, none⟩))).run prog w25 = .ok (.string (mkS s31)) w25 /\
     Calls prog qig #[.string (mkS s29), .string (mkS s31)] w25 fun e32 w32 => ∃ (b32 : Bool), e32 = .returned (.bool b32) /\
     BCase b32
     (∃ (v35 : Value), (Instr.loadAt qe (.pointer (some ⟨k3, 0, none⟩))).run prog w32 = .ok v35 w32 /\ (true = true) /\
     ∃ (v37 : Value), (Instr.loadAt qf (.pointer (some ⟨k4, 1, none⟩))).run prog w32 = .ok v37 w32 /\
     Calls prog qlr #[v35, v37] w32 fun e38 w38 => ∃ (b38 : Bool), e38 = .returned (.bool b38) /\ K (.bool b38) w38)
     (K (.bool false) w32))
     (K (.bool false) w25) := fun {K} H => by
   refine ⟨rfl, _, a3.load1 qK rfl (i := 24) (qE oc 4), rfl, _, a4.load1 qK rfl (i := 20) (qjg or 1), ?_⟩
   refine callK (qr2 _ _ w4) ?_
   rintro _ w5 ⟨rfl, hw5⟩
   rw [hw5]
   refine ⟨_, rfl, BCase.of (fun e => ?_) (fun e => by rw [e] at H; exact H w4 hB4)⟩
   rw [e, Bool.true_and] at H
   refine ⟨rfl, _, a4.load1 un_string rfl (i := 19) (qjg or 0), rfl, _, a3.load1 un_string rfl (i := 21) (qE oc 1), ?_⟩
   refine callK (qqd _ _ cp w4) ?_
   rintro _ w6 ⟨rfl, hw6⟩
   rw [hw6]
   refine ⟨_, rfl, BCase.of (fun e => ?_) (fun e => by rw [e] at H; exact H w4 hB4)⟩
   rw [e, Bool.true_and] at H
   refine ⟨_, qn.load0 a3 (Cky.len oc), rfl, _, qv.load a4 (i := 1) (us := r.host.cells) (Hst.len or) (fun j hj => qqo or hj), ?_⟩
   refine callK (qxM oc or cn rn w4 (he.step hB4)) ?_
   rintro _ w7 ⟨rfl, hb7⟩
   exact ⟨_, rfl, H w7 (qd hB4 hb7 hB4.size)⟩
 refine ⟨rfl, _, a3.load1 un_int64 rfl (i := 25) (qE oc 5), BCase.of (fun e => ?_) (fun e => ⟨by rw [e]; rfl, hB4⟩)⟩
 rw [e, Bool.true_and]
 refine ⟨rfl, _, a4.load1 un_bool rfl (i := 0) rfl, BCase.of (fun e2 => ?_) (fun e2 => ?_)⟩
 · rw [e2, Bool.true_or, Bool.true_and]
   exact tail (K := fun v wy => v = .bool (qif c.same r.cross && (qjP r.path c.path && atV c r.host)) /\ Below w.heap.size w wy) fun wy hb => ⟨rfl, hb⟩
 · rw [e2, Bool.false_or]
   refine ⟨rfl, _, a3.load1 un_bool rfl (i := 22) (qE oc 2), BCase.of (fun e3 => ?_) (fun e3 => ⟨by rw [e3]; rfl, hB4⟩)⟩
   rw [e3, Bool.true_and]
   exact tail (K := fun v wy => v = .bool (qif c.same r.cross && (qjP r.path c.path && atV c r.host)) /\ Below w.heap.size w wy) fun wy hb => ⟨rfl, hb⟩
theorem quj {c d : Cky} (oc : c.ok) (od : d.ok) (w : World) : Calls prog ql4 #[c.v, d.v] w (Ret fun v w' => v = .bool (aheadB c d) /\ w' = (w.alloc (.cells c.cells.toArray qe)).alloc (.cells d.cells.toArray qe)) := by
 apply qtv
 unfold qo6
 intro k2 w2 hk2 hw2 k3 w3 hk3 hw3
 have hb3 := (hw3 ▸ qj w2 _ : Below w2.heap.size w2 w3)
 have a2 : qk w3 k2 qe c.cells := (qk.new hk2 hw2 : qk w2 k2 qe c.cells).below hb3
 have a3 : qk w3 k3 qe d.cells := qk.new hk3 hw3
 have hw : w3 = (w.alloc (.cells c.cells.toArray qe)).alloc (.cells d.cells.toArray qe) := by rw [hw3, hw2]; rfl
 unfold aheadB
 refine ⟨rfl, _, a2.load1 un_string rfl (i := 21) (qE oc 1), rfl, _, a3.load1 un_string rfl (i := 21) (qE od 1), BCase.of (fun e => ?_) (fun e => ?_)⟩
 · have e : c.path.length ≠ d.path.length := fun x => by rw [x] at e; simp at e
   refine ⟨rfl, _, a2.load1 un_string rfl (i := 21) (qE oc 1), rfl, _, a3.load1 un_string rfl (i := 21) (qE od 1), ?_, hw⟩
   rw [decide_eq_false (p := c.path.length = d.path.length) e, Bool.false_and, Bool.or_false]
   congr 1
   rw [Bool.eq_iff_iff, dTx, dTx]; omega
 · have e : c.path.length = d.path.length := by
     have e2 : ((c.path.length : Nat) : Int) = ((d.path.length : Nat) : Int) := by simpa using e
     omega
   refine ⟨rfl, _, a2.load1 qK rfl (i := 28) (qE oc 8), rfl, _, a3.load1 qK rfl (i := 28) (qE od 8), ?_, hw⟩
   rw [decide_eq_true (p := c.path.length = d.path.length) e, Bool.true_and, decide_eq_false (p := d.path.length < c.path.length) (by omega), Bool.false_or]
end Go.Proofs.YtlfolncaghkmcaaGreatDoor
namespace Go.Pk
open Go.RowKit (Below)
def qtO (L : List (List UInt8)) (n : Nat) : Hst := if 1 <= n /\ n <= L.length then ⟨1, qjT L n, ad0⟩ else hst0
theorem qqy (L : List (List UInt8)) (n : Nat) : qrp L n = .tuple #[(qtO L n).v, .bool (decide (1 <= n /\ n <= L.length))] := by
 unfold qrp qtO
 split
 · rename_i h; rw [decide_eq_true h]
 · rename_i h; rw [decide_eq_false h]
theorem tailH_ok (L : List (List UInt8)) (n : Nat) : (qtO L n).ok := by
 unfold qtO; split <;> rfl
theorem qkj {h : Hst} (hk : h.kind ≠ 1) : labelsV h = [] := by
 unfold labelsV; rw [if_neg fun c => hk c.1]
theorem qnU (rs : List Rul) (h : Hst) : qlE rs h = if h.kind ≠ 1 /\ jh h = true then qfV h else (qtO (labelsV h) (sufV rs (labelsV h).reverse + 1)).name := by
 unfold qlE qtO
 by_cases hk : h.kind = 1
 · rw [if_pos hk, if_neg (c := h.kind ≠ 1 /\ jh h = true) (fun c => c.1 hk)]
   split <;> rfl
 · rw [if_neg hk, qkj hk]
   by_cases hr : jh h = true
   · rw [if_pos hr, if_pos ⟨hk, hr⟩]
   · rw [if_neg hr, if_neg (fun c => hr c.2), if_neg (fun c => by have := c.2; simp at this)]
     rfl
theorem qtN (rs : List Rul) (h : Hst) : sufV rs (labelsV h).reverse <= (labelsV h).length + 1 := by
 have hM : ∀ (rs : List Rul) (m : Nat), m <= (labelsV h).reverse.length + 1 -> rs.foldl (stepM (labelsV h).reverse) m <= (labelsV h).reverse.length + 1 := by
   intro rs
   induction rs with
   | nil => intro m hm; exact hm
   | cons r rs ih =>
     intro m hm
     refine ih _ ?_
     unfold stepM
     split
     · rename_i h1
       have := qkX h1
       split
       · omega
       · split <;> omega
     · exact hm
 have hE : ∀ (rs : List Rul) (m : Nat), m <= (labelsV h).reverse.length + 1 -> rs.foldl (stepE (labelsV h).reverse) m <= (labelsV h).reverse.length + 1 := by
   intro rs
   induction rs with
   | nil => intro m hm; exact hm
   | cons r rs ih =>
     intro m hm
     refine ih _ ?_
     unfold stepE
     split
     · rename_i h1
       have := qkX h1.1
       omega
     · exact hm
 have h1 := hM rs 1 (by omega)
 have h2 := hE rs 0 (by omega)
 rw [List.length_reverse] at h1 h2
 unfold sufV
 split
 · omega
 · split
   · exact h2
   · exact h1
end Go.Pk
namespace Go.Proofs.YtlfolncaghkmcaaGreatDoor
open Go.Pk
open Go.RowKit (Below)
theorem quP {w0 : World} (he : Env w0) {kt km : Nat} {a : Option Addr} {n c : Nat} {ps : List Pth} {kvs : List (qjj × Int)} {es : List (List Bool)} {rs : List Rul} {w : World} (S : qjH w0 zj zF kt km a n c ps kvs es rs w) {h : Hst} (o : h.ok) (hn : h.name.length <= 1000000000) :
   Calls prog qh7 #[.pointer (some ⟨kt, 0, none⟩), h.v] w (Ret fun v w' => v = .string (mkS (qlE rs h)) /\ Below w.heap.size w w') := by
 apply qmv
 unfold qiY
 intro k3 w3 hk3 hw3
 have hB3 := (hw3 ▸ qj w _ : Below w.heap.size w w3)
 have a3 : qk w3 k3 qf h.cells := qk.new hk3 hw3
 have S3 := S.below hB3
 have hl := qdf h
 have hsl := qtN rs h
 rw [qnU]
 refine ⟨fun wj => ¬ (h.kind ≠ 1 /\ jh h = true) /\ Below w3.heap.size w3 wj, ⟨fun b wj => b = (decide (h.kind ≠ 1) && jh h) /\ Below w3.heap.size w3 wj, ?_, fun b => AllJ.of ?_ _⟩, AllJ.of ?_ _⟩
 · refine ⟨rfl, _, a3.load1 qK rfl (i := 0) rfl, BCase.of (fun e => ?_) (fun e => ⟨?_, Below.refl _ _⟩)⟩
   · refine ⟨_, qv.load0 a3 (Hst.len o), ?_⟩
     refine callK (qiG o hn w3 (he.step S3.hb)) ?_
     rintro _ w4 ⟨rfl, hb4⟩
     have e : h.kind ≠ 1 := by simpa using e
     exact ⟨_, rfl, by rw [decide_eq_true e, Bool.true_and], hb4⟩
   · have e : h.kind = 1 := by simpa using e
     rw [decide_eq_false (fun c => c e), Bool.false_and]
 · rintro wj ⟨rfl, hbj⟩
   refine BCase.of (fun e => ?_) (fun e => ⟨fun c => ?_, hbj⟩)
   · simp only [Bool.and_eq_true, dTx] at e
     refine ⟨_, qv.load0 (a3.below hbj) (Hst.len o), ?_⟩
     refine callK (qnv o wj (he.step (S3.below hbj).hb)) ?_
     rintro _ w4 ⟨rfl, hb4⟩
     rw [if_pos e]
     exact ⟨_, rfl, rfl, qd hB3 (qd hbj hb4 hbj.size) hB3.size⟩
   · rw [decide_eq_true c.1, c.2] at e; cases e
 · rintro wj ⟨hno, hbj⟩
   rw [if_neg hno]
   have hBj := qd hB3 hbj hB3.size
   have aj := a3.below hbj
   have Sj := S3.below hbj
   refine ⟨_, fun u hu => qv.load0 (aj.below hu) (Hst.len o), _, fun u hu => qv.load0 (aj.below hu) (Hst.len o), _, fun u hu => qoE (qmI he (Sj.below hu) o hn), ?_⟩
   have ew : i64.wrap (((sufV rs (labelsV h).reverse : Nat) : Int) + 1) = ((sufV rs (labelsV h).reverse + 1 : Nat) : Int) := by rw [wrap_i64 (by omega) (by omega)]; omega
   rw [ew]
   refine ⟨_, _, fun u hu => by
     have := qoE (v := .tuple #[(qtO (labelsV h) (sufV rs (labelsV h).reverse + 1)).v, .bool (decide (1 <= sufV rs (labelsV h).reverse + 1 /\ sufV rs (labelsV h).reverse + 1 <= (labelsV h).length))]) (by rw [<- qqy]; exact qrA o hn (sufV rs (labelsV h).reverse + 1) (by omega) u (he.step (Sj.below hu).hb))
     exact this, ?_⟩
   intro k5 hk5 wq hq hz
   have a5 : qk wq k5 qf hst0.cells := hz
   obtain ⟨wx, hst, a5x, hg⟩ := qv.store0 (P := prog) (Hst.len (tailH_ok (labelsV h) (sufV rs (labelsV h).reverse + 1))) (Hst.one _) a5 rfl
   refine ⟨wx, hst, rfl, _, a5x.load1 un_string rfl (i := 1) rfl, rfl, Below.put (qd hBj hq hBj.size) hg (Nat.le_trans hBj.size hk5)⟩
end Go.Proofs.YtlfolncaghkmcaaGreatDoor
namespace Go.Pk
open Go.RowKit (Below)
theorem qBm (s : List UInt8) : (defV s).length <= s.length + 1 := by
 unfold defV
 split
 · simp
 · rw [List.length_take]; omega
end Go.Pk

namespace Go.Pk
structure OpR where
 kind : Int
 url : Url
 text : List UInt8
 req : Req
 n : Int
structure OpR.ok (o : OpR) : Prop where
 uo : o.url.ok
 ro : o.req.host.ok
 up : o.url.path.length <= 1000000
 un : o.url.host.name.length <= 1000000
 rp : o.req.path.length <= 1000000
 rn : o.req.host.name.length <= 1000000
 tx : o.text.length <= 1000000
noncomputable def doV (rs : List Rul) (s : JS) (o : OpR) (ok : o.ok) : JS :=
 if o.kind = 1 then (setV rs s o.url ok.uo o.text).1 else if o.kind = 2 then (getV s o.req).1 else if o.kind = 3 then (qcj s o.n).1 else if o.kind = 4 then js0 s.now else s
def Part (L' L : List Kpt) : Prop := ∃ p : Kpt -> Bool, L' = L.filter p
theorem Part.refl (L : List Kpt) : Part L L := ⟨fun _ => true, (List.filter_eq_self.2 fun _ _ => rfl).symm⟩
theorem Part.trans {A B C : List Kpt} (h : Part A B) (k : Part B C) : Part A C := by
 obtain ⟨p, rfl⟩ := h
 obtain ⟨q, rfl⟩ := k
 exact ⟨fun x => p x && q x, by rw [List.filter_filter]⟩
theorem Part.drop (L : List Kpt) (p : Plc) : Part (dropK L p) L := ⟨_, rfl⟩
theorem Part.mem {A B : List Kpt} (h : Part A B) {k : Kpt} (hk : k ∈ A) : k ∈ B := by
 obtain ⟨p, rfl⟩ := h
 exact (List.mem_filter.1 hk).1
theorem Part.len {A B : List Kpt} (h : Part A B) : A.length <= B.length := by
 obtain ⟨p, rfl⟩ := h
 exact List.length_filter_le ..
theorem Part.inv {A B : List Kpt} {last : Int} (h : Part A B) (s : ShI B last) : ShI A last := by
 obtain ⟨p, rfl⟩ := h
 exact s.filter p
theorem qwF (s : List UInt8) : ∀ (f : Nat) (L : List Kpt), Part (fit1 s f L) L
 | 0, L => Part.refl L
 | f + 1, L => by
   unfold fit1
   split
   · split
     · exact (qwF s f _).trans (Part.drop _ _)
     · exact Part.refl L
   · exact Part.refl L
theorem qwG : ∀ (f : Nat) (L : List Kpt), Part (fit2 f L) L
 | 0, L => Part.refl L
 | f + 1, L => by
   unfold fit2
   split
   · split
     · exact (qwG f _).trans (Part.drop _ _)
     · exact Part.refl L
   · exact Part.refl L
theorem fitK_part (s : List UInt8) (L : List Kpt) : Part (fitK s L) L := (qwG _ _).trans (qwF _ _ _)
structure CkSm (c : Cky) : Prop where
 nm : c.name.length <= 1100000
 vl : c.value.length <= 1100000
 pt : c.path.length <= 1100000
structure JI (s : JS) (m : Nat) : Prop where
 sh : ShI s.L s.last
 n0 : 0 <= s.now
 n1 : s.now <= 1099511627776
 few : s.L.length <= m
 last : s.last <= m
 live : ∀ k ∈ s.L, s.now < k.c.exp /\ k.c.born <= s.now /\ k.c.used <= s.now
 right : ∀ k ∈ s.L, jh k.c.host = true
 sm : ∀ k ∈ s.L, CkSm k.c
theorem JI.new {now : Int} (h0 : 0 <= now) (h1 : now <= 1099511627776) (m : Nat) : JI (js0 now) m :=
 ⟨ShI.nil, h0, h1, Nat.zero_le _, by show (0 : Int) <= m; omega, (fun k hk => by cases hk), (fun k hk => by cases hk), fun k hk => by cases hk⟩
theorem JI.mono {s : JS} {m m' : Nat} (h : JI s m) (hm : m <= m') : JI s m' := ⟨h.sh, h.n0, h.n1, Nat.le_trans h.few hm, by have := h.last; omega, h.live, h.right, h.sm⟩
theorem JI.tick {s : JS} {m : Nat} (h : JI s m) (n : Int) : JI (qcj s n).1 m := by
 unfold qcj
 split
 · exact h
 · rename_i hn
   have h0 := h.n0
   have hp : Part (expK s.L (s.now + n)) s.L := ⟨_, rfl⟩
   refine ⟨hp.inv h.sh, by show 0 <= s.now + n; omega, by show s.now + n <= _; omega, Nat.le_trans hp.len h.few, h.last, fun k hk => ?_, fun k hk => h.right k (hp.mem hk), fun k hk => h.sm k (hp.mem hk)⟩
   have hk2 := List.mem_filter.1 hk
   have := h.live k hk2.1
   refine ⟨by simpa using hk2.2, ?_, ?_⟩
   · show _ <= s.now + n; omega
   · show _ <= s.now + n; omega
theorem qyc {L : List Kpt} {p : Plc} {now : Int} {k : Kpt} (h : k ∈ useK L p now) : ∃ x ∈ L, k = x \/ k = ⟨{ x.c with used := now }, x.site, x.ok⟩ := by
 unfold useK at h
 obtain ⟨x, hx, rfl⟩ := List.mem_map.1 h
 refine ⟨x, hx, ?_⟩
 split
 · exact .inr rfl
 · exact .inl rfl
theorem JI.uses {s : JS} {m : Nat} (h : JI s m) : ∀ ks : List Kpt, JI ⟨usesK s.L ks s.now, s.last, s.now⟩ m := by
 intro ks
 have : ∀ (ks : List Kpt) (L : List Kpt), JI ⟨L, s.last, s.now⟩ m -> JI ⟨usesK L ks s.now, s.last, s.now⟩ m := by
   intro ks
   induction ks with
   | nil => intro L h; exact h
   | cons k ks ih =>
     intro L h
     refine ih (useK L k.plc s.now) ⟨h.sh.use _ _, h.n0, h.n1, ?_, h.last, fun x hx => ?_, fun x hx => ?_, fun x hx => ?_⟩
     · show (useK L k.plc s.now).length <= m
       unfold useK; rw [List.length_map]; exact h.few
     · obtain ⟨y, hy, rfl | rfl⟩ := qyc hx
       · exact h.live _ hy
       · have := h.live y hy
         exact ⟨this.1, this.2.1, Int.le_refl _⟩
     · obtain ⟨y, hy, rfl | rfl⟩ := qyc hx
       · exact h.right _ hy
       · exact h.right y hy
     · obtain ⟨y, hy, rfl | rfl⟩ := qyc hx
       · exact h.sm _ hy
       · exact ⟨(h.sm y hy).nm, (h.sm y hy).vl, (h.sm y hy).pt⟩
 exact this ks s.L h
theorem JI.get {s : JS} {m : Nat} (h : JI s m) (r : Req) : JI (getV s r).1 m := h.uses _
theorem qox {rs : List Rul} {u : Url} {h : Hdr} {now : Int} (e : (takV rs u h now).2 = 0) : jh (takV rs u h now).1.host = true /\ (takV rs u h now).1.born = now /\ (takV rs u h now).1.used = now := by
 rcases qxb rs u h now with h1 | ⟨-, g, e2, hc⟩
 · exact absurd e h1.1
 · obtain ⟨hu, -, -, -⟩ := qAj g
   have hd := qz2 (qya hu).1 (qAa e2).1
   rw [hc]
   refine ⟨?_, rfl, rfl⟩
   show jh (domV rs u.host h.domain).1 = true
   have h3 := hd.2.2
   unfold domB at h3
   simp only [Bool.and_eq_true] at h3
   exact h3.2.1
theorem qpI (L : List Kpt) (last : Int) (c : Kpt) : (putK L last c).1.length <= L.length + 1 /\ (putK L last c).2 <= last + 1 := by
 unfold putK
 split
 · rw [List.length_map]; exact ⟨by omega, by show last <= last + 1; omega⟩
 · rw [List.length_append]; exact ⟨by simp, Int.le_refl _⟩
theorem qxV {L : List Kpt} {last : Int} {c k : Kpt} (h : k ∈ (putK L last c).1) : k ∈ L \/ (∃ o ∈ L, k = ⟨{ c.c with born := o.c.born, seq := o.c.seq }, c.site, c.ok⟩) \/ k = ⟨{ c.c with seq := last + 1 }, c.site, c.ok⟩ := by
 unfold putK at h
 split at h
 · rename_i o ho
   obtain ⟨x, hx, rfl⟩ := List.mem_map.1 h
   split
   · exact .inr (.inl ⟨o, (qgf ho).1, rfl⟩)
   · exact .inl hx
 · rcases List.mem_append.1 h with h | h
   · exact .inl h
   · exact .inr (.inr (List.mem_singleton.1 h))
theorem JI.come {rs : List Rul} {s : JS} {m : Nat} (h : JI s m) {c : Cky} (o : c.ok) (hr : jh c.host = true) (hb : c.born = s.now) (hu : c.used = s.now) (hsm : CkSm c) : JI (qkK rs s c o) (m + 1) := by
 unfold qkK
 have hp : Part (fitK (qda rs c.host) (expK (putK s.L s.last ⟨c, qda rs c.host, o⟩).1 s.now)) (putK s.L s.last ⟨c, qda rs c.host, o⟩).1 := (fitK_part _ _).trans ⟨_, rfl⟩
 have hl := qpI s.L s.last ⟨c, qda rs c.host, o⟩
 have hf := h.few
 have hla := h.last
 refine ⟨hp.inv (h.sh.put _), h.n0, h.n1, Nat.le_trans hp.len (by omega), ?_, fun k hk => ?_, fun k hk => ?_, fun k hk => ?_⟩
 · show (putK s.L s.last ⟨c, qda rs c.host, o⟩).2 <= ((m + 1 : Nat) : Int)
   omega
 · have h1 := (List.mem_filter.1 ((fitK_part _ _).mem hk)).2
   refine ⟨by simpa using h1, ?_⟩
   rcases qxV (hp.mem hk) with h2 | ⟨y, hy, rfl⟩ | rfl
   · exact (h.live k h2).2
   · exact ⟨(h.live y hy).2.1, by show c.used <= s.now; omega⟩
   · exact ⟨by show c.born <= s.now; omega, by show c.used <= s.now; omega⟩
 · rcases qxV (hp.mem hk) with h2 | ⟨y, hy, rfl⟩ | rfl
   · exact h.right k h2
   · exact hr
   · exact hr
 · rcases qxV (hp.mem hk) with h2 | ⟨y, hy, rfl⟩ | rfl
   · exact h.sm k h2
   · exact ⟨hsm.nm, hsm.vl, hsm.pt⟩
   · exact ⟨hsm.nm, hsm.vl, hsm.pt⟩
theorem qvg {rs : List Rul} {u : Url} {h : Hdr} {now : Int} (hu : u.path.length <= 1000000) (hh : qm1 h) (e : (takV rs u h now).2 = 0) : CkSm (takV rs u h now).1 := by
 rcases qxb rs u h now with h1 | ⟨-, g, e2, hc⟩
 · exact absurd e h1.1
 · rw [hc]
   have h1 := hh.name
   have h2 := hh.value
   have h3 := hh.path
   have h4 := qBm u.path
   refine ⟨by show h.name.length <= _; omega, by show h.value.length <= _; omega, ?_⟩
   show (if h.path = [] then defV u.path else h.path).length <= _
   split <;> omega
theorem JI.set {rs : List Rul} {s : JS} {m : Nat} (h : JI s m) (u : Url) (ou : u.ok) (t : List UInt8) (hup : u.path.length <= 1000000) : JI (setV rs s u ou t).1 (m + 1) := by
 have hm := h.mono (Nat.le_succ m)
 unfold setV
 split
 · exact hm
 split
 · exact hm
 split
 · exact hm
 split
 · exact hm
 rename_i h1 h2 h3 h4
 have e : (takV rs u (qR t).1 s.now).2 = 0 := by omega
 obtain ⟨a, b, c⟩ := qox e
 exact h.come _ a b c (qvg hup (qiL t) e)
theorem JI.do {rs : List Rul} {s : JS} {m : Nat} (h : JI s m) (o : OpR) (ok : o.ok) : JI (doV rs s o ok) (m + 1) := by
 have hm := h.mono (Nat.le_succ m)
 unfold doV
 split
 · exact h.set _ _ _ ok.up
 split
 · exact hm.get _
 split
 · exact hm.tick _
 split
 · exact JI.new h.n0 h.n1 _
 · exact hm
end Go.Pk
namespace Go.Pk
open Go.RowKit (Below)
theorem qci {h : Hst} (o : h.ok) (r : jh h = true) : h.name.length <= 1000000 := by
 by_cases hk : h.kind = 1
 · have := (jK o hk r).2.2.2.1
   omega
 · unfold jh at r
   cases hv : jl (qfV h) with
   | none => rw [hv] at r; cases r
   | some g =>
     rw [hv] at r
     have e := (qaD (qdN hv) o).1 r
     subst e
     unfold jl at hv
     split at hv
     · split at hv
       · obtain ⟨a, _, rfl⟩ := Option.map_eq_some_iff.1 hv
         exact Nat.zero_le _
       · cases hv
     split at hv
     · obtain ⟨a, _, rfl⟩ := Option.map_eq_some_iff.1 hv
       exact Nat.zero_le _
     split at hv
     · exact absurd (by have := Option.some.inj hv; rw [<- this]) hk
     · cases hv
theorem qjR {c : Cky} (s : CkSm c) : (qeW c).length <= 2300000 := by
 have := s.nm
 have := s.vl
 unfold qeW
 split
 · omega
 · simp; omega
theorem Sl.wr {α : Type} {T : Ty α} {w w' : World} {A : Bl} {a : Option Addr} {n c k : Nat} {xs : List α} (h : Sl T w A a n c xs) (hg : w.grownBy w' (some k)) (hk : ¬ A k) : Sl T w' A a n c xs :=
 h.keep (qbI hg fun b hb e => by cases e; exact hk hb)
end Go.Pk

namespace Go.Pk
open Go.RowKit (Below)
section
variable {F : Fence} {n : Nat} {P : Program} {ops : Array Oper} {Q : Exit -> Act -> World -> Prop} {a : Act} {w : World} {rest : List Oper} {o : Oper}
theorem qvY (hg : o.guard = none) {t : TypeId} {x : Operand} (hop : o.op = .buildSlice t 1 #[(0, x)]) {u : Value} (hx : a.eval x = u) {v : Value} {w' : World} (hrun : (Instr.buildSlice t 1 #[(0, u)]).run P w = .ok v w') (hK : wpListIn F n P ops Q rest (a.put o.dst v) w') : wpListIn F n P ops Q (o :: rest) a w :=
 qij hg (by rw [hop]; intro c hc; cases hc) (by simp [Oper.about, hop]) (by simp [execOp, hop, hx, hrun, Result.andThen]) hK
theorem qvX (hg : o.guard = none) {t : TypeId} {x y : Operand} (hop : o.op = .call { callee := .builtin .append, args := #[x, y], argTypes := #[t, t] }) {p q : Value} (hx : a.eval x = p) (hy : a.eval y = q) {v : Value} {w' : World} (hrun : (Builtin.append_ #[t, t] o.type #[p, q]).run P w = .ok v w') (hK : wpListIn F n P ops Q rest (a.put o.dst v) w') : wpListIn F n P ops Q (o :: rest) a w :=
 qij hg (by rw [hop]; intro c hc; cases hc) (by simp [Oper.about, hop, resolve, Target.leads, Sem.run_pure]) (by simp [execOp, hop, resolve, invoke, builtin, hx, hy, hrun, Result.andThen]) hK
end
theorem Ow.cells {α : Type} {T : Ty α} {t : TypeId} {w : World} {A : Bl} {a : Option Addr} {n c : Nat} {xs : List α} (h : Ow T t w A a n c xs) {g : Nat} (hg : ownB a = some g) : ∃ o : Obj, w.heap[g]? = some o /\ o.isCells = true := by
 rcases h.2.2.2 with ⟨e, _⟩ | ⟨g', cur, fr, e, hh, _⟩
 · rw [e] at hg; cases hg
 · rw [e] at hg
   have : g' = g := by simpa [ownB] using hg
   subst this
   exact ⟨_, hh, rfl⟩
def qvl (w : World) (row : Option Nat) : Prop := ∀ r, row = some r -> ∃ o : Obj, w.heap[r]? = some o /\ o.isCells = false
theorem qk.turned {w w' : World} {k : Nat} {t : TypeId} {vs : List Value} {row : Option Nat} (h : qk w k t vs) (hg : w.grownBy w' row) (hr : qvl w row) : qk w' k t vs :=
 h.grown hg fun e => by
   obtain ⟨o, ho, hc⟩ := hr k e.symm
   rw [show w.heap[k]? = _ from h] at ho; cases ho; cases hc
theorem Ow.turned {α : Type} {T : Ty α} {t : TypeId} {w w' : World} {a : Option Addr} {n c : Nat} {xs : List α} {row : Option Nat} (h : Ow T t w NoB a n c xs) (hg : w.grownBy w' row) (hr : qvl w row) : Ow T t w' NoB a n c xs := by
 cases row with
 | none => exact h.keep (qbI hg fun b hb e => by cases e)
 | some r =>
   refine h.put (fun g hg' e => ?_) hg
   subst e
   obtain ⟨o, ho, hc⟩ := h.cells hg'
   obtain ⟨o', ho', hc'⟩ := hr g rfl
   rw [ho] at ho'; cases ho'; rw [hc] at hc'; cases hc'
theorem qrw {n₀ : Nat} {w0 w w' : World} {row : Option Nat} (h : Below n₀ w0 w) (hn : n₀ <= w.heap.size) (hg : w.grownBy w' row) (hr : ∀ r, row = some r -> n₀ <= r) : Below n₀ w0 w' := h.grown hg hn hr
def ColI (w : World) (B : Nat) (t tc : TypeId) (pre : List Kpt) (W : World) : Prop :=
 ∃ (a : Option Addr) (n c : Nat), qk W B t [.slice a n c] /\ Ow tCky tc W NoB a n c (pre.map Kpt.c) /\ zq w.heap.size a /\ ownB a ≠ some B /\ Below w.heap.size w W
theorem qyk {w : World} {B : Nat} {t tc : TypeId} {n₀ : Nat} (hn : w.heap.size <= n₀) : OwnFrom n₀ (ColI w B t tc) := by
 rintro pre W W' row ⟨a, n, c, hB, ho, hf, hne, hb⟩ hg hr
 have hr' : qvl W row := fun r e => (hr r e).2
 exact ⟨a, n, c, hB.turned hg hr', ho.turned hg hr', hf, hne, qrw hb hb.size hg fun r e => Nat.le_trans hn (hr r e).1⟩
theorem qs4 {w w' : World} (n : Nat) (hb : Below w.heap.size w w') : KeepsFrom n w w' := ⟨hb.size, fun k o _ hk _ => (hb.block k (Array.getElem?_eq_some_iff.1 hk).1).trans hk⟩
theorem qrW {w w' : World} (hb : Below w.heap.size w w') : KeepsWalks w w' := ⟨hb.size, fun k o hk _ => (hb.block k (Array.getElem?_eq_some_iff.1 hk).1).trans hk⟩
end Go.Pk
namespace Go.Proofs.YtlfolncaghkmcaaGreatDoor
open Go.Pk Go.RowKit Go.Shelf
attribute [local go_sem] Oper.semAt_some
theorem qAP {w0 w : World} {a : Option Addr} {n c : Nat} {xs : List Cky} (ho : Ow tCky qe w NoB a n c xs) (hf : zq w0.heap.size a) (hb : Below w0.heap.size w0 w) {x : Cky} (o : x.ok) (hl : xs.length <= 1000000) :
   ∃ (w1 : World) (a1 : Option Addr) (l1 c1 : Nat), (Instr.buildSlice qu 1 #[(0, x.v)]).run prog w = .ok (.slice a1 l1 c1) w1 /\
     ∃ (w2 : World) (a' : Option Addr) (n' c' : Nat), (Builtin.append_ #[qu, qu] qu #[.slice a n c, .slice a1 l1 c1]).run prog w1 = .ok (.slice a' n' c') w2 /\
       Ow tCky qe w2 NoB a' n' c' (xs ++ [x]) /\ zq w0.heap.size a' /\ Below w0.heap.size w0 w2 /\ (∀ b, b < w.heap.size -> ownB a ≠ some b -> w2.heap[b]? = w.heap[b]?) /\ w.heap.size <= w2.heap.size := by
 have hB1 : Below w.heap.size w (w.alloc (.cells x.cells.toArray qe)) := qj w _
 have ho3 := ho.below hB1
 have hsrc : Src tCky (w.alloc (.cells x.cells.toArray qe)) NoB (some ⟨w.heap.size, 0, none⟩) 1 [x] := Src.new1F qg2 rfl rfl (show tCky.rep w NoB x.cells x from ⟨rfl, o⟩)
 obtain ⟨w4, a4, n4, c4, hr, ho4, hgr, hfr⟩ := qdb (ty := qu) qgP qjU (by decide) ho3 (fun _ _ h => h) (cm := 1) hsrc (by simp; omega)
 have hB := qd hb hB1 hb.size
 refine ⟨_, _, _, _, qAz o w, w4, a4, n4, c4, hr, ho4, hf.app hB.size hfr, hB.grown hgr hB.size hf, fun b hb2 hne => ?_, Nat.le_trans hB1.size hgr.size⟩
 rw [hgr.block b (Nat.lt_of_lt_of_le hb2 hB1.size) (fun e => hne e.symm), hB1.block b hb2]
theorem qBG (m : Option Nat) (w : World) : Calls prog 91 #[.map m] w fun e w' => e = .returned (.func (.func 155) #[] #[.pointer (some ⟨w.heap.size, 0, none⟩)]) /\ w' = w.alloc (.cells #[.map m] qz) := by
 refine (qcp m (K := fun v w' => v = (.func (.func jF) #[] #[.pointer (some ⟨w.heap.size, 0, none⟩)]) /\ w' = w.alloc (.cells #[.map m] qz)) ?_).mono ?_
 · intro k1 w1 hk1 hw1
   subst hk1 hw1
   exact ⟨rfl, rfl⟩
 · rintro e w' ⟨v, rfl, rfl, rfl⟩
   exact ⟨rfl, rfl⟩
set_option maxRecDepth 100000 in
set_option maxHeartbeats 4000000 in
theorem qw6 {p ma ms : Nat} {L : List Kpt} {last : Int} {w : World} (h : Shf qY p ma ms L last w) (hl : L.length <= 1000000)
   (hsort : ∀ (xs : List Kpt) (W : World) (a : Option Addr) (n c : Nat), xs.Perm L -> Ow tCky qe W NoB a n c (xs.map Kpt.c) -> zq w.heap.size a -> Below w.heap.size w W ->
     CallsIn Fence.wide 5 prog 44 #[.slice a n c, .func (.func 92) #[] #[]] W fun e W' => e = .returned (.tuple #[]) /\ Ow tCky qe W' NoB a n c (L.map Kpt.c) /\ Chg (ownB a).toList W W') :
   CallsIn Fence.wide 6 prog 40 #[.pointer (some ⟨p, 0, none⟩)] w fun e w' => ∃ (a : Option Addr) (n c : Nat), e = .returned (.slice a n c) /\ Ow tCky qe w' NoB a n c (L.map Kpt.c) /\ zq w.heap.size a /\ Below w.heap.size w w' := by
 have hv := fun m W => (callsIn_wide (n := 5)).2 (qBG m W)
 obtain ⟨M, S, hM, hS, hMR, hSR⟩ := h.ex
 have hplt := h.cell.lt
 have hcell : ∀ i, w.cell? ⟨p, i, none⟩ = _ := fun i => h.cell.cell i
 have hc0 := hcell 0
 refine callsIn_of_wp_marks Tryz.func40 rfl trivial ?_ rfl
 simp only [Tryz.ntmps40, List.size_toArray, List.length_cons, List.length_nil, Nat.reduceAdd, Nat.reduceSub, Array.replicate_succ, Array.replicate_zero, List.push_toArray, List.append_toArray, List.nil_append, List.cons_append]
 gi_wp2
 refine ⟨trivial, (hv _ _).mono ?_⟩
 rintro e w' ⟨rfl, rfl⟩
 gi_wp2
 have hml : M.length <= 1000000 := by have := hMR.perm.length_eq; rw [List.length_map] at this; omega
 obtain ⟨w1, hw1⟩ : ∃ w1, w1 = w.alloc (.cells #[.slice none 0 0] qu) := ⟨_, rfl⟩
 have b1 : Below w.heap.size w w1 := hw1 ▸ qj w _
 have aB : qk w1 w.heap.size qu [.slice none 0 0] := qk.new rfl hw1
 rw [<- hw1]
 have hs1 : w1.heap.size = w.heap.size + 1 := by rw [hw1]; simp
 obtain ⟨w2, hw2⟩ : ∃ w2, w2 = w1.alloc (.cells #[.map (some ma)] qz) := ⟨_, rfl⟩
 have b2 : Below w1.heap.size w1 w2 := hw2 ▸ qj w1 _
 have aM : qk w2 w1.heap.size qz [.map (some ma)] := qk.new rfl hw2
 rw [<- hw2]
 have hs2 : w2.heap.size = w1.heap.size + 1 := by rw [hw2]; simp
 have B2 := qd b1 b2 b1.size
 clear hw1 hw2 hcell hc0
 rw [hs1] at aM
 have hStop := qxO Fence.wide 5 trivial rfl (by decide) (w.heap.size + 1) ma M w2 (by omega) (aM.cell 0) (hM.below B2)
 obtain ⟨Bx, hBx⟩ : ∃ Bx, Bx = w.heap.size := ⟨_, rfl⟩
 obtain ⟨Bm, hBm⟩ : ∃ Bm, Bm = w.heap.size + 1 := ⟨_, rfl⟩
 rw [<- hBm] at hStop
 rw [<- hBm, <- hBx]
 rw [<- hBx] at aB
 have I0 : ColI w Bx qu qe [] w2 := ⟨none, 0, 0, aB.below b2, Ow.nil _ _ _ _, (fun g hg => by cases hg), (by intro h; cases h), B2⟩
 clear aM hS hM h b1 b2 aB
 refine wpIn_rangeFunc_ownH rfl (by decide) (gf := 155) (lb := #[.pointer (some ⟨Bm, 0, none⟩)]) rfl trivial (enters_of Tryz.func155 (by kernel_rfl) rfl)
   hStop walksK_t walksK_b (Below.refl _ _) (fun _ => rfl)
   (ColI w Bx qu qe) (fun _ _ _ => False) (qyk (by omega)) (fun _ _ _ _ _ hs _ _ => hs) I0
   (fun x a' W => ∃ kx, a' = { tmps := #[.pointer (some ⟨p, 0, none⟩), undef, .slice none 0 0, .pointer (some ⟨Bx, 0, none⟩), .pointer (some ⟨kx, 0, none⟩), .pointer (some ⟨p, 0, none⟩), .pointer (some ⟨p, 0, none⟩), .pointer (some ⟨p, 0, none⟩), .map (some ma), .func (.func 155) #[] #[.pointer (some ⟨Bm, 0, none⟩)], x.v, undef, undef, undef, undef, undef, undef, undef, undef], defers := [] } /\ qk W kx qL x.cells)
   (fun x a' s W W' row hs hg hr => ?own) ?assign ?body ?done ?stop
 case own =>
   obtain ⟨kx, e, ha⟩ := hs
   exact ⟨kx, e, ha.turned hg fun r e => (hr r e).2⟩
 case assign =>
   intro l pre x W K hI hK
   have hb3 : Below W.heap.size W (W.alloc (.cells kpt0.cells.toArray qL)) := qj W _
   obtain ⟨w3, hst, ha3, hg3⟩ := qhO.store0 (P := prog) (cs := x.cells) (Kpt.len x) (Kpt.one x) (qk.new (t := qL) (vs := kpt0.cells) rfl rfl : qk (W.alloc (.cells kpt0.cells.toArray qL)) W.heap.size qL kpt0.cells) (Kpt.len kpt0)
   have hb23 := Below.put hb3 hg3 (Nat.le_refl _)
   apply wpIn_region_lit
   simp only [List.zip_toArray, List.foldl_toArray', List.foldl_toArray, List.zip_cons_cons, List.zip_nil_left, List.zip_nil_right, List.foldl_cons, List.foldl_nil, List.setIfInBounds_toArray, List.set_cons_succ, List.set_cons_zero]
   refine qrD rfl rfl (quX _) ?_
   refine qnx rfl rfl rfl rfl hst ?_
   apply wpListIn_nil
   exact hK _ w3 (qs4 _ hb23) (qrW hb23) (qyk (Nat.le_refl _) pre W w3 none hI (qpx hb23) (fun r e => by cases e)) ⟨_, rfl, ha3⟩
 case body =>
   rintro l pre x a' W hl hrec ⟨a, n, c, hB, ho, hf, hne, hb⟩ ⟨kx, rfl, hx⟩ hlen
   have hl1 : (Instr.loadAt qu (.pointer (some ⟨Bx, 0, none⟩))).run prog W = .ok (.slice a n c) W := hB.load1 qgP rfl (i := 0) rfl
   have hl2 : (Instr.loadAt qe (.pointer (some ⟨kx, 0, none⟩))).run prog W = .ok x.c.v W := qn.load hx (i := 0) (us := x.c.cells) (Cky.len x.ok) (fun j hj => by rw [Nat.zero_add]; exact qfg x hj)
   obtain ⟨w4, a1, l1, c1, q1, w5, a2, n2, c2, q2, row4, fr4, B4, oth, sz5⟩ := qAP ho hf hb x.ok (by rw [List.length_map]; omega)
   have hB5 := hB.block (oth Bx hB.lt hne)
   obtain ⟨w6, q3, hB6, g6⟩ := hB5.put qsk (i := 0) (v := .slice a2 n2 c2) (show 0 < 1 by decide) rfl rfl
   apply wpIn_block
   apply wpIn_region_lit
   refine qpC rfl rfl rfl hl1 ?_
   refine qij rfl (by intro c hc; cases hc) rfl (v := .pointer (some ⟨kx, 0, none⟩)) (w' := W) rfl ?_
   refine qpC rfl rfl rfl hl2 ?_
   refine qvY rfl rfl rfl q1 ?_
   refine qvX rfl rfl rfl rfl q2 ?_
   refine qnx rfl rfl rfl rfl q3 ?_
   apply wpListIn_nil
   have hne2 : ownB a2 ≠ some Bx := fun e => by
     rcases row4.2.2.2 with ⟨e1, _⟩ | ⟨g, cur, fr, e1, hh, _⟩
     · rw [e1] at e; cases e
     · rw [e1] at e
       have : g = Bx := by simpa [ownB] using e
       subst this
       rw [show w5.heap[g]? = _ from hB5] at hh
       exact absurd (Option.some.inj hh) (by intro h; injection h with _ h2 _; exact absurd h2 (by decide))
   have oth6 : ∀ (k : Nat) (o : Obj), W.heap[k]? = some o -> o.isCells = false -> w6.heap[k]? = some o := fun k o hk ho' => by
     have hlt := (Array.getElem?_eq_some_iff.1 hk).1
     have h5 := (oth k hlt fun e => by obtain ⟨o2, h2, c2⟩ := ho.cells e; rw [hk] at h2; cases h2; rw [ho'] at c2; cases c2).trans hk
     refine (g6.block k (Array.getElem?_eq_some_iff.1 h5).1 fun e => ?_).trans h5
     cases e
     rw [show W.heap[Bx]? = _ from hB] at hk; cases hk; cases ho'
   have sz6 : W.heap.size <= w6.heap.size := Nat.le_trans sz5 g6.size
   exact ⟨⟨sz6, fun k o _ hk ho' => oth6 k o hk ho'⟩, ⟨sz6, fun k o hk ho' => oth6 k o hk (Obj.not_cells_of_walk ho')⟩, a2, n2, c2, hB6, by rw [List.map_append]; exact row4.put (fun g hg e => hne2 (by rw [<- e]; exact hg)) g6, fr4, hne2, Below.put B4 g6 (by omega)⟩
 case done =>
   rintro D xs W hD hp ⟨a, n, c, hB, ho, hf, hne, hb⟩ hK
   subst hBx
   have hcB : W.cell? ⟨w.heap.size, 0, none⟩ = some (.slice a n c) := hB.cell 0
   have hsx := hsort xs W a n c (hp.trans hMR.perm) ho hf hb
   gi_wp2
   refine ⟨trivial, hsx.mono ?_⟩
   rintro e W3 ⟨rfl, ho3, hc3⟩
   have hB3 : qk W3 w.heap.size qu [.slice a n c] := hc3.arr hB (by intro h; exact hne (by simpa using h))
   have hcB3 : W3.cell? ⟨w.heap.size, 0, none⟩ = some (.slice a n c) := hB3.cell 0
   have hK3 : W3.heap[D]? = some (.deferred (some [])) := (hc3.block D (Array.getElem?_eq_some_iff.1 hK).1 (by
     intro h
     obtain ⟨o, h1, h2⟩ := ho.cells (show ownB a = some D by simpa using h)
     rw [hK] at h1; cases h1; cases h2)).trans hK
   gi_wp2
   refine ⟨by simp, .inl ⟨_, _, rfl, run_takeDeferred hK3, ?_⟩⟩
   have gD := grownBy_putObj' W3 D (.deferred none)
   have nD : qvl W3 (some D) := fun r e => by cases e; exact ⟨_, hK3, rfl⟩
   have B3 : Below w.heap.size w W3 := hb.trans (hc3.below hb.size (fun k hk => hf k (by simpa using hk)))
   exact ⟨_, results_tmp rfl _ _ _, a, n, c, rfl, ho3.turned gD nD, hf, qrw B3 B3.size gD (fun r e => by cases e; omega)⟩
 case stop =>
   rintro D c pre W _ _ h _
   exact h.elim
end Go.Proofs.YtlfolncaghkmcaaGreatDoor
namespace Go.Pk
open Go.RowKit (Below)
open Go.Sort (Holds HoldsK flatK putRow putRowK grow putCells mapBlock)
open Go.Proofs (sortWorldK)
section
variable {α β : Type} [Inhabited α] {T : Ty β} {f : α -> β} {enc : α -> List Value}
theorem qAe {ys : List α} {k : Nat} (hk : ∀ y, (enc y).length = k) {i : Nat} (hi : i < ys.length) : ((flatK enc k ys.toArray).toList.drop (i * k)).take k = enc ys[i] := by
 have hb : i * k + k <= ys.length * k := by
   have := Nat.mul_le_mul_right k (show i + 1 <= ys.length from hi)
   rwa [Nat.add_mul, Nat.one_mul] at this
 have hsz : (flatK enc k ys.toArray).toList.length = ys.length * k := by simp
 apply List.ext_getElem
 · rw [List.length_take, List.length_drop, hsz, hk]; omega
 · intro c h1 h2
   have hc : c < k := by rw [hk] at h2; exact h2
   rw [List.getElem_take, List.getElem_drop, Array.getElem_toList]
   have lt : i * k + c < ys.toArray.size * k := by simp; omega
   have h3 := Sort.get_flatK enc k ys.toArray (i * k + c) lt
   rw [getElem!_pos _ _ (by simpa using lt)] at h3
   rw [h3]
   have e1 : (i * k + c) / k = i := (Sort.blk_iff k i _ (by omega)).1 ⟨by omega, by omega⟩
   have e2 : (i * k + c) % k = c := by rw [Nat.mod_eq_sub_div_mul, e1]; omega
   rw [e1, e2, getElem!_pos ys.toArray i (by simpa using hi)]
   rw [List.getElem_toArray, getElem!_pos (enc ys[i]) (c) h2]
theorem OwK.holds (he : ∀ w A vs y, T.rep w A vs (f y) ↔ vs = enc y) {t : TypeId} {w : World} {A : Bl} {g n c : Nat} {ys : List α} (h : Ow T t w A (some ⟨g, 0, none⟩) n c (ys.map f)) :
   HoldsK enc T.k w g 0 ys.toArray /\ g < w.heap.size := by
 have hk : ∀ y, (enc y).length = T.k := fun y => T.len ((he w A (enc y) y).2 rfl)
 obtain ⟨h1', h2, h3, h4⟩ := h
 rcases h4 with ⟨e1, _⟩ | ⟨g', cur, fr, e', hh, hf, hs, h4⟩
 · cases e1
 · cases e'
   rw [List.length_map] at h1'
   refine ⟨fun j hj => ?_, (Array.getElem?_eq_some_iff.1 hh).1⟩
   have hj' : j < ys.length * T.k := by simpa using hj
   have hk0 := T.pos
   have hcap : ys.length * T.k <= cur.size := by rw [hs, <- h1']; exact Nat.mul_le_mul_right _ h2
   have hjc : j < cur.size := by omega
   have hi : j / T.k < ys.length := Nat.div_lt_of_lt_mul (by rw [Nat.mul_comm]; exact hj')
   refine ⟨?_, ?_⟩
   · rw [qlS hh, Nat.zero_add]
     have h5 := (he _ _ _ _).1 (by have := h4.rep (j / T.k) (by simpa using hi); rwa [List.getElem_map] at this)
     have h6 := Sort.get_flatK enc T.k ys.toArray j (by simpa using hj')
     show cur[j]? = some ((flatK enc T.k ys.toArray)[j]!)
     rw [h6]
     have hm : j % T.k < T.k := Nat.mod_lt _ hk0
     have hjd : j / T.k * T.k + j % T.k = j := by have := Nat.div_add_mod j T.k; rw [Nat.mul_comm] at this; exact this
     have h7 : (((cur.toList.take (n * T.k)).drop (j / T.k * T.k)).take T.k)[j % T.k]? = some (cur.toList[j]'(by simpa using hjc)) := by
       rw [List.getElem?_take, if_pos hm, List.getElem?_drop, List.getElem?_take, hjd, if_pos (by rw [h1']; exact hj')]
       rw [List.getElem?_eq_getElem (by simpa using hjc)]
     rw [h5] at h7
     have e3 : ys.toArray[j / T.k]! = ys[j / T.k] := by rw [getElem!_pos _ _ (by simpa using hi)]; simp
     rw [e3]
     have h8 := (List.getElem?_eq_some_iff.1 h7)
     obtain ⟨h9, h10⟩ := h8
     rw [getElem!_pos (enc ys[j / T.k]) (j % T.k) h9, h10, Array.getElem?_eq_getElem hjc]
     simp
   · rw [Nat.zero_add]; exact qu4 hh (hf j hjc)
theorem OwK.put (he : ∀ w A vs y, T.rep w A vs (f y) ↔ vs = enc y) {t : TypeId} {w : World} {A : Bl} {g n c : Nat} {xs ys : List α} (h : Ow T t w A (some ⟨g, 0, none⟩) n c (xs.map f)) (hl : ys.length = xs.length) (q : Nat) (os : Array Obj) :
   Ow T t (sortWorldK enc T.k w g 0 q ys.toArray os) A (some ⟨g, 0, none⟩) n c (ys.map f) /\ w.grownBy (sortWorldK enc T.k w g 0 q ys.toArray os) (some g) := by
 have hk : ∀ y, (enc y).length = T.k := fun y => T.len ((he w A (enc y) y).2 rfl)
 obtain ⟨h1', h2, h3, h4⟩ := h
 rw [List.length_map] at h1'
 rcases h4 with ⟨e1, _⟩ | ⟨g', cur, fr, e', hh, hf, hs, h4⟩
 · cases e1
 · cases e'
   have hlt := (Array.getElem?_eq_some_iff.1 hh).1
   have hsz : (putRowK enc T.k (Go.Sort.ahead w q) g 0 ys.toArray).heap.size = w.heap.size := by simp [putRowK, Go.Sort.ahead]
   have hh' : (sortWorldK enc T.k w g 0 q ys.toArray os).heap[g]? = some (.cells (putCells id 0 (flatK enc T.k ys.toArray) cur) t fr) := by
     unfold sortWorldK
     rw [Sort.heap_grow_old _ _ (by rw [hsz]; exact hlt)]
     show ((Go.Sort.ahead w q).heap.modify g _)[g]? = _
     rw [Array.getElem?_modify, if_pos rfl]
     show (w.heap[g]?).map _ = _
     rw [hh]; rfl
   have hn : n * T.k = ys.length * T.k := by rw [hl, h1']
   have hcap : ys.length * T.k <= cur.size := by rw [hs, <- hn]; exact Nat.mul_le_mul_right _ h2
   refine ⟨⟨by rw [List.length_map, hl]; exact h1', h2, h3, .inr ⟨g, _, fr, rfl, hh', ?_, ?_, ?_⟩⟩, ?_⟩
   · intro i hi; exact hf i (by simpa [putCells] using hi)
   · simpa [putCells] using hs
   · have e : (putCells id 0 (flatK enc T.k ys.toArray) cur).toList.take (n * T.k) = (flatK enc T.k ys.toArray).toList := by
       rw [hn]
       apply List.ext_getElem?
       intro i
       rw [List.getElem?_take]
       by_cases hi : i < ys.length * T.k
       · rw [if_pos hi]
         have : i < cur.size := by omega
         simp [putCells, hi, this]
       · rw [if_neg hi]
         symm
         rw [List.getElem?_eq_none]
         simp; omega
     rw [e]
     refine ⟨by simp, fun i hi => ?_⟩
     have hi' : i < ys.length := by simpa using hi
     rw [qAe hk hi', List.getElem_map]
     exact (he _ _ _ _).2 rfl
   · unfold sortWorldK
     refine ⟨rfl, rfl, rfl, by simp [grow, hsz], fun k hk2 hne => ?_⟩
     rw [Sort.heap_grow_old _ _ (by rw [hsz]; exact hk2)]
     show ((Go.Sort.ahead w q).heap.modify g _)[k]? = _
     rw [Array.getElem?_modify, if_neg (fun e => hne (by rw [e]))]
     rfl
end
theorem qAM {α : Type} [Inhabited α] {d d' : Array α} (h : Go.Sort.PermIn 0 d.size d d') : d'.size = d.size /\ d'.toList.Perm d.toList := by
 obtain ⟨h1, _, h3⟩ := h
 refine ⟨h1, ?_⟩
 have e1 : d.extract 0 d.size = d := by simp
 have e2 : d'.extract 0 d.size = d' := by rw [<- h1]; simp
 rw [e1, e2] at h3
 exact h3
theorem qx2 {α : Type} [Inhabited α] {lt : α -> α -> Bool} {n : Nat} {d : Array α} (hn : d.size = n) (h : Go.Sort.SortedIn lt 0 n d) : d.toList.Pairwise fun a b => lt b a = false := by
 rw [List.pairwise_iff_getElem]
 intro i j hi hj hij
 have := h i j (Nat.zero_le _) hij (by rw [<- hn]; simpa using hj)
 rw [getElem!_pos d j (by simpa using hj), getElem!_pos d i (by simpa using hi)] at this
 simpa using this
theorem qwh {α : Type} {R : α -> α -> Bool} : ∀ {l r : List α}, l.Perm r -> (l.Pairwise fun a b => R b a = false) -> (r.Pairwise fun a b => R a b = true) -> l = r
 | [], r, hp, _, _ => by rw [hp.nil_eq]
 | a :: l, [], hp, _, _ => by have := hp.length_eq; simp at this
 | a :: l, b :: r, hp, hl, hr => by
   rw [List.pairwise_cons] at hl hr
   have hab : a = b := by
     rcases List.mem_cons.1 (hp.mem_iff.1 (List.mem_cons_self ..)) with e | e
     · exact e
     · rcases List.mem_cons.1 (hp.mem_iff.2 (List.mem_cons_self ..)) with e2 | e2
       · exact e2.symm
       · have h1 := hr.1 a e
         have h2 := hl.1 b e2
         rw [h1] at h2; cases h2
   subst hab
   rw [qwh ((List.perm_cons a).1 hp) hl.2 hr.2]
end Go.Pk
namespace Go.Proofs
open Go.Shelf
def Tryz.sortF_ren : Go.Shelf.Ren := ⟨fun | 6 => 44 | 15 => 97 | 14 => 96 | 28 => 164 | 29 => 165 | 20 => 156 | 21 => 157 | 22 => 158 | 23 => 159 | 24 => 160 | 25 => 161 | 26 => 162 | 27 => 163 | 46 => 217 | 47 => 218 | 48 => 219 | 49 => 220 | 50 => 221 | 57 => 260 | n => n, fun | 22 => 58 | 24 => 63 | 25 => 103 | 3 => 3 | 39 => 167 | 0 => 0 | 53 => 226 | 55 => 228 | 4 => 4 | 46 => 220 | 45 => 219 | 50 => 124 | 5 => 5 | 9 => 9 | 66 => 257 | 70 => 261 | 76 => 289 | 77 => 251 | n => n, fun | n => n⟩
theorem Tryz.sortF : Go.Proofs.SlLaysF0.n6 prog Tryz.sortF_ren := {
 mixed := by kernel_rfl
 f6 := ⟨Tryz.f44.name, by decide, Tryz.func44.trans (congrArg some (by kernel_rfl))⟩
 f14 := ⟨Tryz.f96.name, by decide, Tryz.func96.trans (congrArg some (by kernel_rfl))⟩
 f15 := Tryz.func97.trans (congrArg some (by kernel_rfl))
 f20 := ⟨Tryz.f156.name, by decide, Tryz.func156.trans (congrArg some (by kernel_rfl))⟩
 f21 := ⟨Tryz.f157.name, by decide, Tryz.func157.trans (congrArg some (by kernel_rfl))⟩
 f22 := ⟨Tryz.f158.name, by decide, Tryz.func158.trans (congrArg some (by kernel_rfl))⟩
 f23 := ⟨Tryz.f159.name, by decide, Tryz.func159.trans (congrArg some (by kernel_rfl))⟩
 f24 := ⟨Tryz.f160.name, by decide, Tryz.func160.trans (congrArg some (by kernel_rfl))⟩
 f25 := ⟨Tryz.f161.name, by decide, Tryz.func161.trans (congrArg some (by kernel_rfl))⟩
 f26 := ⟨Tryz.f162.name, by decide, Tryz.func162.trans (congrArg some (by kernel_rfl))⟩
 f27 := ⟨Tryz.f163.name, by decide, Tryz.func163.trans (congrArg some (by kernel_rfl))⟩
 f28 := Tryz.func164.trans (congrArg some (by kernel_rfl))
 f29 := Tryz.func165.trans (congrArg some (by kernel_rfl))
 f46 := ⟨Tryz.f217.name, by decide, Tryz.func217.trans (congrArg some (by kernel_rfl))⟩
 f47 := Tryz.func218.trans (congrArg some (by kernel_rfl))
 f48 := Tryz.func219.trans (congrArg some (by kernel_rfl))
 f49 := ⟨Tryz.f220.name, by decide, Tryz.func220.trans (congrArg some (by kernel_rfl))⟩
 f50 := ⟨Tryz.f221.name, by decide, Tryz.func221.trans (congrArg some (by kernel_rfl))⟩
 f57 := ⟨Tryz.f260.name, by decide, Tryz.func260.trans (congrArg some (by kernel_rfl))⟩
 t0 := Tryz.underlying0
 a0 := Tryz.isAgg0
 z0 := Tryz.sizeOf0
 v0 := Tryz.zeroValue0
 t3 := Tryz.underlying3
 a3 := Tryz.isAgg3
 z3 := Tryz.sizeOf3
 v3 := Tryz.zeroValue3
 t4 := Tryz.underlying4
 a4 := Tryz.isAgg4
 z4 := Tryz.sizeOf4
 v4 := Tryz.zeroValue4
 t5 := Tryz.underlying5
 a5 := Tryz.isAgg5
 z5 := Tryz.sizeOf5
 v5 := Tryz.zeroValue5
 t9 := Tryz.underlying9
 a9 := Tryz.isAgg9
 z9 := Tryz.sizeOf9
 v9 := Tryz.zeroValue9
 t22 := Tryz.underlying58
 a22 := Tryz.isAgg58
 z22 := Tryz.sizeOf58
 v22 := Tryz.zeroValue58
 t25 := Tryz.underlying103
 a25 := Tryz.isAgg103
 z25 := Tryz.sizeOf103
 v25 := Tryz.zeroValue103
 t39 := Tryz.underlying167
 a39 := Tryz.isAgg167
 z39 := Tryz.sizeOf167
 v39 := Tryz.zeroValue167
 t45 := Tryz.underlying219
 a45 := Tryz.isAgg219
 z45 := Tryz.sizeOf219
 v45 := Tryz.zeroValue219
 t46 := Tryz.underlying220
 a46 := Tryz.isAgg220
 z46 := Tryz.sizeOf220
 v46 := Tryz.zeroValue220
 t50 := Tryz.underlying124
 a50 := Tryz.isAgg124
 z50 := Tryz.sizeOf124
 v50 := Tryz.zeroValue124
 t53 := Tryz.underlying226
 a53 := Tryz.isAgg226
 z53 := Tryz.sizeOf226
 v53 := Tryz.zeroValue226
 t55 := Tryz.underlying228
 a55 := Tryz.isAgg228
 z55 := Tryz.sizeOf228
 v55 := Tryz.zeroValue228
 t66 := Tryz.underlying257
 a66 := Tryz.isAgg257
 z66 := Tryz.sizeOf257
 v66 := Tryz.zeroValue257
 t70 := Tryz.underlying261
 a70 := Tryz.isAgg261
 z70 := Tryz.sizeOf261
 v70 := Tryz.zeroValue261
 t76 := Tryz.underlying289
 a76 := Tryz.isAgg289
 z76 := Tryz.sizeOf289
 v76 := Tryz.zeroValue289
 t77 := Tryz.underlying251
 a77 := Tryz.isAgg251
 z77 := Tryz.sizeOf251
 v77 := Tryz.zeroValue251 }
open Go.RowKit Go.Lib Go.Sort in
theorem Tryz.slices_SortFunc_Cookie {α : Type} [Inhabited α] (k : Nat) (aE : ∀ w, (isAgg 63).run prog w = .ok true w) (zE : ∀ w, (Go.sizeOf 63).run prog w = .ok k w) (enc : α -> List Value) (hk : ∀ x, (enc x).length = k) (h1 : ∀ x, ∀ v ∈ enc x, v.oneCell' = true) (cf : α -> α -> Int) (hO : SWO (ltOf cf)) (g : Nat) (cb : Array Value) (blk off cap : Nat) (d : Array α) (w : World)
   (eg : ∀ args w, (callFunc g args).run prog w = .ok (.enter g args) w) (hcmp : CmpLays prog g cb enc k cf blk off d.size w) (hH : HoldsK enc k w blk off d) (hblk : blk < w.heap.size) (hsz : d.size < 4611686018427387904) :
   Calls prog 44 #[.slice (some ⟨blk, off, none⟩) d.size cap, .func (.func g) #[] cb] w fun e w' =>
     e = .returned (.tuple #[]) /\ ∃ d' n os, PermIn 0 d.size d d' /\ SortedIn (ltOf cf) 0 d.size d' /\ w' = sortWorldK enc k w blk off n d' os := AnyQ.slices_SortFunc Tryz.sortF k aE zE enc hk h1 cf hO g cb blk off cap d w eg hcmp hH hblk hsz
theorem Tryz.slices_SortFunc_Cookie_none (p : Option Addr) (cap : Nat) (fv : Value) (w : World) :
   Calls prog 44 #[.slice p 0 cap, fv] w fun e w' => e = .returned (.tuple #[]) /\ w' = w := AnyF.slices_SortFunc_none Tryz.sortF p cap fv w
end Go.Proofs
namespace Go.Pk
structure OpK where
 o : OpR
 ok : o.ok
noncomputable def runV (rs : List Rul) : JS -> List OpK -> JS
 | s, [] => s
 | s, o :: l => runV rs (doV rs s o.o o.ok) l
theorem JI.run {rs : List Rul} : ∀ (l : List OpK) {s : JS} {m : Nat}, JI s m -> JI (runV rs s l) (m + l.length)
 | [], s, m, h => h
 | o :: l, s, m, h => by
   have := JI.run (rs := rs) l (h.do (rs := rs) o.o o.ok)
   rw [List.length_cons, show m + (l.length + 1) = m + 1 + l.length by omega]
   exact this
theorem take_snoc {α : Type} {l : List α} {k : Nat} (h : k < l.length) : l.take (k + 1) = l.take k ++ [l[k]] := List.take_succ_eq_append_getElem h
def usd (r : Req) (now : Int) (k : Kpt) : Kpt := if jQ k.c r now = true then ⟨{ k.c with used := now }, k.site, k.ok⟩ else k
theorem qBW {L : List Kpt} {last : Int} (s : ShI L last) (now : Int) : ∀ ks : List Kpt, (∀ k ∈ ks, k ∈ L) -> usesK L ks now = L.map fun x => if x.plc ∈ ks.map Kpt.plc then (⟨{ x.c with used := now }, x.site, x.ok⟩ : Kpt) else x := by
 intro ks
 have key : ∀ (ks : List Kpt) (f : Kpt -> Kpt), (∀ x, f x = x \/ f x = ⟨{ x.c with used := now }, x.site, x.ok⟩) -> usesK (L.map f) ks now = L.map fun x => if x.plc ∈ ks.map Kpt.plc then (⟨{ x.c with used := now }, x.site, x.ok⟩ : Kpt) else f x := by
   intro ks
   induction ks with
   | nil => intro f _; show L.map f = _; exact List.map_congr_left fun x _ => by simp
   | cons k ks ih =>
     intro f hf
     show usesK (useK (L.map f) k.plc now) ks now = _
     have e : useK (L.map f) k.plc now = L.map fun x => if x.plc = k.plc then (⟨{ x.c with used := now }, x.site, x.ok⟩ : Kpt) else f x := by
       unfold useK
       rw [List.map_map]
       refine List.map_congr_left fun x _ => ?_
       show (if (f x).plc = k.plc then (⟨{ (f x).c with used := now }, (f x).site, (f x).ok⟩ : Kpt) else f x) = _
       rcases hf x with h | h
       · rw [h]
       · rw [h]; rfl
     rw [e, ih]
     · refine List.map_congr_left fun x _ => ?_
       rw [List.map_cons]
       by_cases c : x.plc ∈ ks.map Kpt.plc
       · rw [if_pos c, if_pos (List.mem_cons_of_mem _ c)]
       · rw [if_neg c]
         by_cases c2 : x.plc = k.plc
         · rw [if_pos c2, if_pos (by rw [c2]; exact List.mem_cons_self ..)]
         · rw [if_neg c2, if_neg]
           intro h
           rcases List.mem_cons.1 h with h | h
           · exact c2 h
           · exact c h
     · intro x
       by_cases c2 : x.plc = k.plc
       · rw [if_pos c2]; exact .inr rfl
       · rw [if_neg c2]; exact hf x
 intro _
 have := key ks (fun x => x) fun x => .inl rfl
 rw [List.map_id'] at this
 exact this
theorem qA6 {L : List Kpt} {last : Int} (s : ShI L last) (r : Req) (now : Int) : usesK L (goesK L r now) now = L.map (usd r now) := by
 rw [qBW s now _ fun k hk => (List.mem_filter.1 ((qe5 L r now).mem_iff.1 hk)).1]
 refine List.map_congr_left fun x hx => ?_
 unfold usd
 by_cases c : jQ x.c r now = true
 · rw [if_pos c, if_pos]
   exact List.mem_map.2 ⟨x, (qe5 L r now).mem_iff.2 (List.mem_filter.2 ⟨hx, c⟩), rfl⟩
 · rw [if_neg c, if_neg]
   intro h
   obtain ⟨y, hy, e⟩ := List.mem_map.1 h
   have hy2 := List.mem_filter.1 ((qe5 L r now).mem_iff.1 hy)
   rw [s.one hy2.1 hx e] at hy2
   exact c hy2.2
theorem qDs {s : JS} {m : Nat} (h : JI s m) (r : Req) : (getV s r).1 = ⟨s.L.map (usd r s.now), s.last, s.now⟩ := by
 unfold getV
 rw [qA6 h.sh]
end Go.Pk
namespace Go.Pk
open Go.RowKit (Below)
open Go.Sort (grow SWO)
open Go.Proofs (ltOf)
theorem qso {α : Type} {Q : α -> Prop} {xs : List α} (h : ∀ x ∈ xs, Q x) : ∃ ys : List {x // Q x}, ys.map (·.1) = xs := ⟨xs.attachWith Q h, by simp⟩
theorem qBr (w : World) (o1 o2 : Obj) : (w.alloc o1).alloc o2 = grow (w.drewN 0) #[o1, o2] := by
 unfold grow World.alloc
 simp only [World.drewN, Nat.add_zero]
 congr 1
end Go.Pk
namespace Go.Proofs.YtlfolncaghkmcaaGreatDoor
open Go.Pk
open Go.RowKit (Below)
open Go.Sort (grow SWO)
open Go.Proofs (ltOf CmpLays)
theorem qxa {Q : Kpt -> Prop} [Inhabited {k : Kpt // Q k}] (cf : {k : Kpt // Q k} -> {k : Kpt // Q k} -> Int) (hO : SWO (ltOf cf)) (g : Nat) (eg : ∀ args w, (callFunc g args).run prog w = .ok (.enter g args) w)
   (hcmp : ∀ (W : World) (x y : {k : Kpt // Q k}), Calls prog g #[x.1.c.v, y.1.c.v] W fun e w' => e = .returned (.int .i64 (cf x y)) /\ ∃ q os', w' = grow (W.drewN q) os')
   {W : World} {a : Option Addr} {n c : Nat} {xs : List Kpt} (hx : ∀ k ∈ xs, Q k) (ho : Ow tCky qe W NoB a n c (xs.map Kpt.c)) (hl : xs.length <= 1000000) :
   Calls prog qdu #[.slice a n c, .func (.func g) #[] #[]] W fun e w' => e = .returned (.tuple #[]) /\
     ∃ ys : List {k : Kpt // Q k}, (ys.map (·.1)).Perm xs /\ (ys.Pairwise fun a b => ltOf cf b a = false) /\ Ow tCky qe w' NoB a n c ((ys.map (·.1)).map Kpt.c) /\ Chg (ownB a).toList W w' := by
 obtain ⟨zs, rfl⟩ := qso hx
 have ho0 := ho
 rcases ho0.2.2.2 with ⟨rfl, rfl, e0⟩ | ⟨b, cur, fr, rfl, hh, _⟩
 · have hn : n = 0 := by have := ho.len; rw [e0] at this; exact this
   subst hn
   have hz : zs = [] := by cases zs with | nil => rfl | cons _ _ => cases e0
   subst hz
   refine (Tryz.slices_SortFunc_Cookie_none none 0 _ W).mono ?_
   rintro e w' ⟨rfl, rfl⟩
   exact ⟨rfl, [], List.Perm.refl _, List.Pairwise.nil, ho, Chg.refl _ _⟩
 · have hn : n = zs.toArray.size := by have := ho.len; simpa using this
   subst hn
   have he : ∀ w A vs (y : {k : Kpt // Q k}), tCky.rep w A vs y.1.c ↔ vs = y.1.c.cells := fun w A vs y => ⟨fun h => h.1, fun h => ⟨h, y.1.ok⟩⟩
   have ho1 : Ow tCky qe W NoB (some ⟨b, 0, none⟩) zs.toArray.size c (zs.map fun y => y.1.c) := by rw [List.map_map] at ho; exact ho
   obtain ⟨hH, hlt⟩ := OwK.holds (f := fun y : {k : Kpt // Q k} => y.1.c) (enc := fun y => y.1.c.cells) he ho1
   refine (Tryz.slices_SortFunc_Cookie (α := {k : Kpt // Q k}) 29 (fun w => by kernel_rfl) (fun w => by kernel_rfl) (fun y => y.1.c.cells) (fun y => Cky.len y.1.ok) (fun y v hv => Cky.one y.1.c v hv) cf hO g #[] b 0 c zs.toArray W eg (fun m os dk hs x y => hcmp _ x y) hH hlt (by simp at hl ⊢; omega)).mono ?_
   rintro e w' ⟨rfl, d', q, os, hp, hs, rfl⟩
   obtain ⟨hsz, hpm⟩ := qAM hp
   have hsl := qx2 hsz hs
   obtain ⟨ho2, hg2⟩ := OwK.put (f := fun y : {k : Kpt // Q k} => y.1.c) (enc := fun y => y.1.c.cells) he ho1 (ys := d'.toList) (by rw [hpm.length_eq]) q os
   refine ⟨rfl, d'.toList, hpm.map _, hsl, ?_, ?_⟩
   · rw [List.map_map]; exact ho2
   · exact Chg.grown hg2 (by simp [ownB])
theorem qyZ (W : World) {x y : Kpt} (hx : 0 <= x.c.seq /\ x.c.seq <= 4611686018427387904) (hy : 0 <= y.c.seq /\ y.c.seq <= 4611686018427387904) :
   Calls prog qhK #[x.c.v, y.c.v] W fun e w' => e = .returned (.int .i64 (x.c.seq - y.c.seq)) /\ ∃ q os', w' = grow (W.drewN q) os' := by
 refine (qmX x.c.v y.c.v (K := fun v w' => v = .int .i64 (x.c.seq - y.c.seq) /\ ∃ q os', w' = grow (W.drewN q) os') ?_).mono ?_
 · intro k2 w2 hk2 hw2 k3 w3 hk3 hw3
   have a2 : qk w3 k2 qe x.c.cells := (qk.new hk2 hw2 : qk w2 k2 qe x.c.cells).below (hw3 ▸ qj w2 _)
   have a3 : qk w3 k3 qe y.c.cells := qk.new hk3 hw3
   refine ⟨rfl, _, a2.load1 qK rfl (i := 28) (qE x.ok 8), rfl, _, a3.load1 qK rfl (i := 28) (qE y.ok 8), ?_, 0, #[.cells (Value.cells x.c.v) qe, .cells (Value.cells y.c.v) qe], ?_⟩
   · rw [wrap_i64 (by omega) (by omega)]
   · subst hw3 hw2; exact qBr _ _ _
 · rintro e w' ⟨v, rfl, rfl, h⟩
   exact ⟨rfl, h⟩
def qA9 (k : Kpt) : Prop := 0 <= k.c.seq /\ k.c.seq <= 4611686018427387904
instance : Inhabited {k : Kpt // qA9 k} := ⟨⟨kpt0, by decide, by decide⟩⟩
theorem qCv : SWO (ltOf fun x y : {k : Kpt // qA9 k} => x.1.c.seq - y.1.c.seq) := by
 constructor <;> intros <;> simp only [ltOf, dTx, dFx] at * <;> omega
theorem qnS {p ma ms : Nat} {L : List Kpt} {last : Int} {w : World} (h : Shf qY p ma ms L last w) (hl : L.length <= 1000000) (hla : last <= 4611686018427387904) :
   Calls prog qhF #[.pointer (some ⟨p, 0, none⟩)] w (Ret fun v w' => ∃ (a : Option Addr) (n c : Nat), v = .slice a n c /\ Ow tCky qe w' NoB a n c (L.map Kpt.c) /\ zq w.heap.size a /\ Below w.heap.size w w') := by
 have hi := h.inv
 have hq : ∀ k ∈ L, qA9 k := fun k hk => by have := hi.lo k hk; exact ⟨by omega, by omega⟩
 have hA := qw6 h hl (fun xs W a n c hp ho hf hb => (callsIn_wide (n := 5)).2 ?_)
 · refine ((callsIn_wide (n := 6)).1 hA).mono ?_
   rintro e w' ⟨a, n, c, rfl, h2⟩
   exact ⟨_, rfl, a, n, c, rfl, h2⟩
 · refine (qxa (Q := qA9) _ qCv qhK (enters_of Tryz.func92 (by kernel_rfl) rfl) (fun W x y => qyZ W x.2 y.2) (fun k hk => hq k (hp.mem_iff.1 hk)) ho (by rw [hp.length_eq]; exact hl)).mono ?_
   rintro e w' ⟨rfl, ys, hp2, hs, ho2, hc⟩
   have e1 : ys.map (·.1) = L := by
     refine qwh (R := fun a b => decide (a.c.seq < b.c.seq)) (hp2.trans hp) ?_ ?_
     · rw [List.pairwise_map]
       refine hs.imp fun {a b} h => ?_
       simp only [ltOf, dFx] at h ⊢
       omega
     · exact hi.up.imp fun {a b} h => by simpa using h
   rw [e1] at ho2
   exact ⟨rfl, ho2, hc⟩
end Go.Proofs.YtlfolncaghkmcaaGreatDoor
set_option maxRecDepth 100000
namespace Go.Proofs.YtlfolncaghkmcaaGreatDoor
open Go.Pk
open Go.RowKit (Below)
--  cracknel/jar.New
def qvk (p0 : Option Addr) (w : World) (K : Value -> World -> Prop) : Prop :=
 Calls prog qh5 #[] w fun e4 w4 => ∃ p4, e4 = .returned (.pointer p4) /\
 ∀ k6 w6, k6 = w4.heap.size -> w6 = w4.alloc (.cells #[.int .i64 (0 : Int), .pointer p0, .pointer p4] qg7) ->
 K (.pointer (some ⟨k6, 0, none⟩)) w6
theorem qxZ (p0 : Option Addr) {w : World} {K : Value -> World -> Prop} (h : qvk p0 w K) : Calls prog qiD #[.pointer p0] w (Ret K) :=
 qm (c := qq Tryz.f9) (by kernel_rfl) Tryz.func9 (by kernel_rfl) [] [.pointer p0] (of_decide_eq_true (by kernel_rfl)) _ (by kernel_rfl) h

--  (*cracknel/jar.Jar).Set
def qo4 (p0 : Option Addr) (v1 : Value) (s2 : List UInt8) (w : World) (K : Value -> World -> Prop) : Prop :=
 ∀ k4 w4, k4 = w.heap.size -> w4 = w.alloc (.cells (Value.cells v1) qw) ->
 ∃ v11, Ld qw (some ⟨k4, 0, none⟩) w4 v11 /\
 Calls prog qmc #[v11] w4 fun e12 w12 => ∃ b12, e12 = .returned (.bool b12) /\
 BCase (!b12)
 (K (.int .i64 (41 : Int)) w12)
 (Calls prog qjb #[.string (mkS s2)] w12 fun e16 w16 => ∃ s16_0_0 s16_0_1 s16_0_2 s16_0_3 b16_0_4 n16_0_5 b16_0_6 n16_0_7 b16_0_8 b16_0_9 n16_0_10 n16_1, e16 = .returned (.tuple #[(hV s16_0_0 s16_0_1 s16_0_2 s16_0_3 b16_0_4 n16_0_5 b16_0_6 n16_0_7 b16_0_8 b16_0_9 n16_0_10), .int .i64 n16_1]) /\
 ∀ k7 w7, k7 = w16.heap.size -> w7 = w16.alloc (.cells #[.string (mkS []), .string (mkS []), .string (mkS []), .string (mkS []), .bool false, .int .i64 (0 : Int), .bool false, .int .i64 (0 : Int), .bool false, .bool false, .int .i64 (0 : Int)] qi) ->
 ∃ wx, Sv qi (some ⟨k7, 0, none⟩) (hV s16_0_0 s16_0_1 s16_0_2 s16_0_3 b16_0_4 n16_0_5 b16_0_6 n16_0_7 b16_0_8 b16_0_9 n16_0_10) w7 wx /\
 BCase (n16_1 != (0 : Int))
 (K (.int .i64 n16_1) wx)
 ((Option.isSome p0 = true) /\
 (Option.isSome p0 = true) /\
 (Option.isSome p0 = true) /\
 (Option.isSome p0 = true) /\
 (Option.isSome (Option.map (fun x => x.add 0) p0) = true) /\
 ∃ p26, (∀ u26, Below wx.heap.size wx u26 -> Ld qjv (Option.map (fun x => x.add 1) p0) u26 (.pointer p26)) /\
 ∃ v27, (∀ u27, Below wx.heap.size wx u27 -> Ld qw (some ⟨k4, 0, none⟩) u27 v27) /\
 ∃ s28_0 s28_1 s28_2 s28_3 b28_4 n28_5 b28_6 n28_7 b28_8 b28_9 n28_10, (∀ u28, Below wx.heap.size wx u28 -> Ld qi (some ⟨k7, 0, none⟩) u28 (hV s28_0 s28_1 s28_2 s28_3 b28_4 n28_5 b28_6 n28_7 b28_8 b28_9 n28_10)) /\
 ∃ n33, (∀ u33, Below wx.heap.size wx u33 -> Ld qA (Option.map (fun x => x.add 0) (Option.map (fun x => x.add 0) p0)) u33 (.int .i64 n33)) /\
 ∃ v34_0 n34_1, (∀ u34, Below wx.heap.size wx u34 -> Calls prog qkP #[.pointer p26, v27, (hV s28_0 s28_1 s28_2 s28_3 b28_4 n28_5 b28_6 n28_7 b28_8 b28_9 n28_10), .int .i64 n33] u34 fun e34 w34 => e34 = .returned (.tuple #[v34_0, .int .i64 n34_1]) /\ Below u34.heap.size u34 w34) /\
 ∀ k9, wx.heap.size <= k9 ->
 ∀ wq, Below wx.heap.size wx wq ->
 wq.heap[k9]? = some (.cells qG qe) ->
 ∃ wx_1, Sv qe (some ⟨k9, 0, none⟩) v34_0 wq wx_1 /\
 BCase (n34_1 != (0 : Int))
 (K (.int .i64 n34_1) wx_1)
 (∃ J : FP [],
 ((true = true) /\
 ∃ b41, Ld qN (some ⟨k4, 0, none⟩) wx_1 (.bool b41) /\
 BCase (!b41)
 (∃ v45, Ld qe (some ⟨k9, 0, none⟩) wx_1 v45 /\
 Calls prog qiC #[.pointer p0, v45] wx_1 fun e46 w46 => ∃ b46, e46 = .returned (.bool b46) /\
 BCase b46
 (K (.int .i64 (121 : Int)) w46)
 (J w46))
 (J wx_1)) /\
 AllJ 9 (∀ wj, J wj ->
 ∃ v49, Ld qe (some ⟨k9, 0, none⟩) wj v49 /\
 Calls prog qla #[.pointer p0, v49] wj fun e50 w50 => ∃ s50, e50 = .returned (.string (mkS s50)) /\
 (Option.isSome p0 = true) /\
 (Option.isSome p0 = true) /\
 ∃ p54, (∀ u54, Below w50.heap.size w50 u54 -> Ld zn (Option.map (fun x => x.add 2) p0) u54 (.pointer p54)) /\
 ∃ v55, (∀ u55, Below w50.heap.size w50 u55 -> Ld qe (some ⟨k9, 0, none⟩) u55 v55) /\
 ∀ wq_1, Below w50.heap.size w50 wq_1 ->
 Calls prog qi2 #[.pointer p54, v55, .string (mkS s50)] wq_1 fun e57 w57 => ∃ b57, e57 = .returned (.bool b57) /\
 (Option.isSome p0 = true) /\
 (Option.isSome p0 = true) /\
 (Option.isSome p0 = true) /\
 (Option.isSome p0 = true) /\
 (Option.isSome (Option.map (fun x => x.add 0) p0) = true) /\
 ∃ p61, (∀ u61, Below w57.heap.size w57 u61 -> Ld zn (Option.map (fun x => x.add 2) p0) u61 (.pointer p61)) /\
 ∃ n66, (∀ u66, Below w57.heap.size w57 u66 -> Ld qA (Option.map (fun x => x.add 0) (Option.map (fun x => x.add 0) p0)) u66 (.int .i64 n66)) /\
 ∀ wq_2, Below w57.heap.size w57 wq_2 ->
 Calls prog qfN #[.pointer p61, .int .i64 n66] wq_2 fun e67 w67 => ∃ n67, e67 = .returned (.int .i64 n67) /\
 Calls prog ql3 #[.pointer p0, .string (mkS s50)] w67 fun e70 w70 => e70 = .returned (.tuple #[]) /\
 K (.int .i64 (0 : Int)) w70))))
theorem qtt (p0 : Option Addr) (v1 : Value) (s2 : List UInt8) {w : World} {K : Value -> World -> Prop} (h : qo4 p0 v1 s2 w K) : Calls prog qS #[.pointer p0, v1, .string (mkS s2)] w (Ret K) :=
 qm (c := qq Tryz.f12) (by kernel_rfl) Tryz.func12 (by kernel_rfl) [(3000021, [(0, .one (.bool)), (1, .one (.bool)), (2, .one (.bool)), (6, .one (.bool)), (7, .one (.bool)), (8, .one (.bool)), (9, .one (.bool)), (3, .one (.bool)), (4, .one (.bool)), (5, .one (.bool)), (10, .one (.bool)), (11, .one (.bool)), (12, .one (.bool)), (13, .one (.bool)), (14, .one (.bool)), (15, .one (.bool))]), (30, []), (1000041, []), (3000041, [(0, .one (.bool)), (1, .one (.bool)), (2, .one (.bool)), (5, .one (.bool)), (3, .one (.bool)), (4, .one (.bool))]), (1000043, []), (3000043, [(0, .one (.bool)), (1, .one (.bool)), (2, .one (.bool)), (4, .one (.bool)), (5, .one (.bool)), (6, .one (.bool)), (7, .one (.bool)), (3, .one (.bool)), (8, .one (.bool))])] [.pointer p0, v1, .string (mkS s2)] (of_decide_eq_true (by kernel_rfl)) _ (by kernel_rfl) h

--  (*cracknel/jar.Jar).Tick
def qob (p0 : Option Addr) (n1 : Int) (w : World) (K : Value -> World -> Prop) : Prop :=
 ∃ J : FP [],
 (BCase (decide (n1 < (0 : Int)))
 (K (.int .i64 (122 : Int)) w)
 ((Option.isSome p0 = true) /\
 (Option.isSome p0 = true) /\
 (Option.isSome (Option.map (fun x => x.add 0) p0) = true) /\
 ∃ n13, Ld qA (Option.map (fun x => x.add 0) (Option.map (fun x => x.add 0) p0)) w (.int .i64 n13) /\
 BCase (decide (n1 > (i64.wrap ((1099511627776 : Int) - n13))))
 (K (.int .i64 (122 : Int)) w)
 (J w))) /\
 AllJ 13 (∀ wj, J wj ->
 (Option.isSome p0 = true) /\
 (Option.isSome p0 = true) /\
 (Option.isSome (Option.map (fun x => x.add 0) p0) = true) /\
 ∃ n21, Ld qA (Option.map (fun x => x.add 0) (Option.map (fun x => x.add 0) p0)) wj (.int .i64 n21) /\
 (Option.isSome p0 = true) /\
 (Option.isSome p0 = true) /\
 (Option.isSome (Option.map (fun x => x.add 0) p0) = true) /\
 ∃ wx, Sv qA (Option.map (fun x => x.add 0) (Option.map (fun x => x.add 0) p0)) (.int .i64 (i64.wrap (n21 + n1))) wj wx /\
 (Option.isSome p0 = true) /\
 (Option.isSome p0 = true) /\
 (Option.isSome p0 = true) /\
 (Option.isSome p0 = true) /\
 (Option.isSome (Option.map (fun x => x.add 0) p0) = true) /\
 ∃ p30, (∀ u30, Below wx.heap.size wx u30 -> Ld zn (Option.map (fun x => x.add 2) p0) u30 (.pointer p30)) /\
 ∃ n35, (∀ u35, Below wx.heap.size wx u35 -> Ld qA (Option.map (fun x => x.add 0) (Option.map (fun x => x.add 0) p0)) u35 (.int .i64 n35)) /\
 ∀ wq, Below wx.heap.size wx wq ->
 Calls prog qfN #[.pointer p30, .int .i64 n35] wq fun e36 w36 => ∃ n36, e36 = .returned (.int .i64 n36) /\
 K (.int .i64 (0 : Int)) w36)
theorem qsb (p0 : Option Addr) (n1 : Int) {w : World} {K : Value -> World -> Prop} (h : qob p0 n1 w K) : Calls prog z7 #[.pointer p0, .int .i64 n1] w (Ret K) :=
 qm (c := qq Tryz.f14) (by kernel_rfl) Tryz.func14 (by kernel_rfl) [(2, []), (1000013, []), (3000013, [(0, .one (.bool)), (1, .one (.bool)), (2, .one (.bool)), (4, .one (.bool)), (5, .one (.bool)), (6, .one (.bool)), (7, .one (.bool)), (3, .one (.bool)), (8, .one (.bool))])] [.pointer p0, .int .i64 n1] (of_decide_eq_true (by kernel_rfl)) _ (by kernel_rfl) h

--  (*cracknel/jar.clock).Now
def qk0 (p0 : Option Addr) (w : World) (K : Value -> World -> Prop) : Prop :=
 (Option.isSome p0 = true) /\
 (Option.isSome p0 = true) /\
 ∃ p6, Ld zn (Option.map (fun x => x.add 2) p0) w (.pointer p6) /\
 Calls prog qhF #[.pointer p6] w fun e7 w7 => ∃ a7 l7 c7, e7 = .returned (.slice a7 l7 c7) /\
 K (.slice a7 l7 c7) w7
theorem qpM (p0 : Option Addr) {w : World} {K : Value -> World -> Prop} (h : qk0 p0 w K) : Calls prog jJ #[.pointer p0] w (Ret K) :=
 qm (c := qq Tryz.f17) (by kernel_rfl) Tryz.func17 (by kernel_rfl) [] [.pointer p0] (of_decide_eq_true (by kernel_rfl)) _ (by kernel_rfl) h

--  (*cracknel/jar.Jar).Get
def qo3 (p0 : Option Addr) (v1 : Value) (w : World) (K : Value -> World -> Prop) : Prop :=
 ∀ k2 w2, k2 = w.heap.size -> w2 = w.alloc (.cells #[.pointer p0] qfb) ->
 ∀ k3 w3, k3 = w2.heap.size -> w3 = w2.alloc (.cells (Value.cells v1) qD) ->
 ∃ p9, Ld qfb (some ⟨k2, 0, none⟩) w3 (.pointer p9) /\
 (Option.isSome p9 = true) /\
 (Option.isSome p9 = true) /\
 ∃ p12, Ld zn (Option.map (fun x => x.add 2) p9) w3 (.pointer p12) /\
 Calls prog qhF #[.pointer p12] w3 fun e13 w13 => ∃ a13 l13 c13, e13 = .returned (.slice a13 l13 c13) /\
 Calls prog qaM #[.slice a13 l13 c13, .func (.func j9) #[] #[.pointer (some ⟨k3, 0, none⟩), .pointer (some ⟨k2, 0, none⟩)]] w13 fun e15 w15 => ∃ a15 l15 c15, e15 = .returned (.slice a15 l15 c15) /\
 Calls prog qdu #[.slice a15 l15 c15, .func (.func qh0) #[] #[]] w15 fun e17 w17 => e17 = .returned (.tuple #[]) /\
 ∃ I : Nat -> FP [.one (.slice), .one (.int .i64)],
 (∃ m, I m none 0 0 (0 : Int) w17) /\
 ∀ m a6 l6 c6 n20, AllJ 21 (∀ wl, I m a6 l6 c6 n20 wl ->
 BCase (decide (n20 < ((l15 : Nat) : Int)))
 (((0 <= n20 /\ n20 < ((l15 : Nat) : Int)) /\ Option.isSome a15 = true) /\
 ∃ v23, Ld qe (ql a15 n20 29) wl v23 /\
 ∀ k8 w8, k8 = wl.heap.size -> w8 = wl.alloc (.cells qG qe) ->
 ∃ wx, Sv qe (some ⟨k8, 0, none⟩) v23 w8 wx /\
 ∃ p24, (∀ u24, Below wx.heap.size wx u24 -> Ld qfb (some ⟨k2, 0, none⟩) u24 (.pointer p24)) /\
 (Option.isSome p24 = true) /\
 (Option.isSome p24 = true) /\
 ∃ p27, (∀ u27, Below wx.heap.size wx u27 -> Ld zn (Option.map (fun x => x.add 2) p24) u27 (.pointer p27)) /\
 ∃ v28, (∀ u28, Below wx.heap.size wx u28 -> Ld qe (some ⟨k8, 0, none⟩) u28 v28) /\
 ∃ p29, (∀ u29, Below wx.heap.size wx u29 -> Ld qfb (some ⟨k2, 0, none⟩) u29 (.pointer p29)) /\
 (Option.isSome p29 = true) /\
 (Option.isSome p29 = true) /\
 (Option.isSome (Option.map (fun x => x.add 0) p29) = true) /\
 ∃ n33, (∀ u33, Below wx.heap.size wx u33 -> Ld qA (Option.map (fun x => x.add 0) (Option.map (fun x => x.add 0) p29)) u33 (.int .i64 n33)) /\
 ∀ wq, Below wx.heap.size wx wq ->
 Calls prog qi3 #[.pointer p27, v28, .int .i64 n33] wq fun e34 w34 => ∃ b34, e34 = .returned (.bool b34) /\
 ∃ v36, Ld qe (some ⟨k8, 0, none⟩) w34 v36 /\
 Calls prog qq1 #[v36] w34 fun e37 w37 => ∃ s37, e37 = .returned (.string (mkS s37)) /\
 ∀ k38 w38, k38 = w37.heap.size -> w38 = w37.alloc (.cells #[.string (mkS s37)] qh) ->
 ∃ w39 a39 l39 c39, (Builtin.append_ #[qV, qV] qV #[.slice a6 l6 c6, .slice (some ⟨k38, 0, none⟩) 1 1]).run prog w38 = .ok (.slice a39 l39 c39) w39 /\
 ∃ m' : Nat, m' < m /\ I m' a39 l39 c39 (i64.wrap (n20 + (1 : Int))) w39)
 (Calls prog qct #[.slice a6 l6 c6, .string (mkS [59, 32])] wl fun e42 w42 => ∃ s42, e42 = .returned (.string (mkS s42)) /\
 K (.string (mkS s42)) w42))
theorem qts (p0 : Option Addr) (v1 : Value) {w : World} {K : Value -> World -> Prop} (h : qo3 p0 v1 w K) : Calls prog j7 #[.pointer p0, v1] w (Ret K) :=
 qm (c := qq Tryz.f21) (by kernel_rfl) Tryz.func21 (by kernel_rfl) [(12, [(6, .one (.slice)), (20, .one (.int .i64))]), (1000024, []), (3000024, [(0, .one (.bool)), (1, .one (.bool)), (2, .one (.bool)), (3, .one (.bool)), (4, .one (.bool)), (5, .one (.bool)), (6, .one (.bool)), (7, .one (.bool)), (8, .one (.bool)), (9, .one (.bool))])] [.pointer p0, v1] (of_decide_eq_true (by kernel_rfl)) _ (by kernel_rfl) h

--  (*cracknel/jar.Jar).Clear
def qkE (p0 : Option Addr) (v1 : Value) (w : World) (K : Value -> World -> Prop) : Prop :=
 ∀ k3 w3, k3 = w.heap.size -> w3 = w.alloc (.cells (Value.cells v1) qe) ->
 (Option.isSome p0 = true) /\
 (Option.isSome p0 = true) /\
 ∃ p8, Ld zn (Option.map (fun x => x.add 2) p0) w3 (.pointer p8) /\
 Calls prog qhF #[.pointer p8] w3 fun e9 w9 => ∃ a9 l9 c9, e9 = .returned (.slice a9 l9 c9) /\
 Calls prog qav #[.slice a9 l9 c9, .func (.func zX) #[] #[.pointer (some ⟨k3, 0, none⟩)]] w9 fun e11 w11 => ∃ b11, e11 = .returned (.bool b11) /\
 K (.bool b11) w11
theorem qoH (p0 : Option Addr) (v1 : Value) {w : World} {K : Value -> World -> Prop} (h : qkE p0 v1 w K) : Calls prog qiC #[.pointer p0, v1] w (Ret K) :=
 qm (c := qq Tryz.f33) (by kernel_rfl) Tryz.func33 (by kernel_rfl) [] [.pointer p0, v1] (of_decide_eq_true (by kernel_rfl)) _ (by kernel_rfl) h

--  (*cracknel/jar.Jar).site
def qoc (p0 : Option Addr) (v1 : Value) (w : World) (K : Value -> World -> Prop) : Prop :=
 ∀ k3 w3, k3 = w.heap.size -> w3 = w.alloc (.cells (Value.cells v1) qe) ->
 (Option.isSome p0 = true) /\
 (Option.isSome p0 = true) /\
 ∃ p9, (∀ u9, Below w3.heap.size w3 u9 -> Ld qjv (Option.map (fun x => x.add 1) p0) u9 (.pointer p9)) /\
 (true = true) /\
 ∃ v11, (∀ u11, Below w3.heap.size w3 u11 -> Ld qf (some ⟨k3, 2, none⟩) u11 v11) /\
 ∃ s12, (∀ u12, Below w3.heap.size w3 u12 -> Calls prog qh7 #[.pointer p9, v11] u12 fun e12 w12 => e12 = .returned (.string (mkS s12)) /\ Below w3.heap.size u12 w12) /\
 ∀ wq, Below w3.heap.size w3 wq ->
 BCase (!(s12 == []))
 (K (.string (mkS s12)) wq)
 ((true = true) /\
 ∃ v17, Ld qf (some ⟨k3, 2, none⟩) wq v17 /\
 Calls prog qj7 #[v17] wq fun e18 w18 => ∃ s18, e18 = .returned (.string (mkS s18)) /\
 K (.string (mkS s18)) w18)
theorem qsc (p0 : Option Addr) (v1 : Value) {w : World} {K : Value -> World -> Prop} (h : qoc p0 v1 w K) : Calls prog qla #[.pointer p0, v1] w (Ret K) :=
 qm (c := qq Tryz.f34) (by kernel_rfl) Tryz.func34 (by kernel_rfl) [] [.pointer p0, v1] (of_decide_eq_true (by kernel_rfl)) _ (by kernel_rfl) h

--  (*cracknel/jar.Jar).fit
def qo5 (p0 : Option Addr) (s1 : List UInt8) (w : World) (K : Value -> World -> Prop) : Prop :=
 ∃ I : Nat -> FP [],
 (∃ m, I m w) /\
 ∀ m, AllJ 24 (∀ wl, I m wl ->
 (Option.isSome p0 = true) /\
 (Option.isSome p0 = true) /\
 ∃ p11, Ld zn (Option.map (fun x => x.add 2) p0) wl (.pointer p11) /\
 Calls prog qh6 #[.pointer p11, .string (mkS s1)] wl fun e13 w13 => ∃ n13, e13 = .returned (.int .i64 n13) /\
 BCase (decide (n13 > (50 : Int)))
 ((Option.isSome p0 = true) /\
 (Option.isSome p0 = true) /\
 ∃ p19, Ld zn (Option.map (fun x => x.add 2) p0) w13 (.pointer p19) /\
 Calls prog qhL #[.pointer p19, .string (mkS s1)] w13 fun e21 w21 => ∃ v21_0 b21_1, e21 = .returned (.tuple #[v21_0, .bool b21_1]) /\
 ∀ k4 w4, k4 = w21.heap.size -> w4 = w21.alloc (.cells qG qe) ->
 ∃ wx, Sv qe (some ⟨k4, 0, none⟩) v21_0 w4 wx /\
 (Option.isSome p0 = true) /\
 (Option.isSome p0 = true) /\
 ∃ p27, (∀ u27, Below wx.heap.size wx u27 -> Ld zn (Option.map (fun x => x.add 2) p0) u27 (.pointer p27)) /\
 ∃ v28, (∀ u28, Below wx.heap.size wx u28 -> Ld qe (some ⟨k4, 0, none⟩) u28 v28) /\
 ∀ wq, Below wx.heap.size wx wq ->
 Calls prog qdM #[.pointer p27, v28] wq fun e29 w29 => ∃ b29, e29 = .returned (.bool b29) /\
 ∃ m' : Nat, m' < m /\ I m' w29)
 (∃ I_1 : Nat -> FP [],
 (∃ m_1, I_1 m_1 w13) /\
 ∀ m_1, AllJ 22 (∀ wl_1, I_1 m_1 wl_1 ->
 (Option.isSome p0 = true) /\
 (Option.isSome p0 = true) /\
 ∃ p33, Ld zn (Option.map (fun x => x.add 2) p0) wl_1 (.pointer p33) /\
 Calls prog qi1 #[.pointer p33] wl_1 fun e34 w34 => ∃ n34, e34 = .returned (.int .i64 n34) /\
 BCase (decide (n34 > (3000 : Int)))
 ((Option.isSome p0 = true) /\
 (Option.isSome p0 = true) /\
 ∃ p40, Ld zn (Option.map (fun x => x.add 2) p0) w34 (.pointer p40) /\
 Calls prog qff #[.pointer p40] w34 fun e41 w41 => ∃ v41_0 b41_1, e41 = .returned (.tuple #[v41_0, .bool b41_1]) /\
 ∀ k6 w6, k6 = w41.heap.size -> w6 = w41.alloc (.cells qG qe) ->
 ∃ wx_1, Sv qe (some ⟨k6, 0, none⟩) v41_0 w6 wx_1 /\
 (Option.isSome p0 = true) /\
 (Option.isSome p0 = true) /\
 ∃ p47, (∀ u47, Below wx_1.heap.size wx_1 u47 -> Ld zn (Option.map (fun x => x.add 2) p0) u47 (.pointer p47)) /\
 ∃ v48, (∀ u48, Below wx_1.heap.size wx_1 u48 -> Ld qe (some ⟨k6, 0, none⟩) u48 v48) /\
 ∀ wq_1, Below wx_1.heap.size wx_1 wq_1 ->
 Calls prog qdM #[.pointer p47, v48] wq_1 fun e49 w49 => ∃ b49, e49 = .returned (.bool b49) /\
 ∃ m'_1 : Nat, m'_1 < m_1 /\ I_1 m'_1 w49)
 (K (.tuple #[]) w34))))
theorem qtu (p0 : Option Addr) (s1 : List UInt8) {w : World} {K : Value -> World -> Prop} (h : qo5 p0 s1 w K) : Calls prog ql3 #[.pointer p0, .string (mkS s1)] w (Ret K) :=
 qm (c := qq Tryz.f37) (by kernel_rfl) Tryz.func37 (by kernel_rfl) [(2, []), (1000012, []), (3000012, [(0, .one (.bool)), (1, .one (.bool)), (2, .one (.bool)), (3, .one (.bool)), (4, .one (.bool))]), (14, []), (1000024, []), (3000024, [(0, .one (.bool)), (1, .one (.bool)), (2, .one (.bool)), (3, .one (.bool)), (4, .one (.bool))])] [.pointer p0, .string (mkS s1)] (of_decide_eq_true (by kernel_rfl)) _ (by kernel_rfl) h

--  (*cracknel/jar.Jar).Get$1
def qlK (v0 : Value) (p1 : Option Addr) (p2 : Option Addr) (w : World) (K : Value -> World -> Prop) : Prop :=
 ∀ k3 w3, k3 = w.heap.size -> w3 = w.alloc (.cells (Value.cells v0) qe) ->
 ∃ v5, (∀ u5, Below w3.heap.size w3 u5 -> Ld qe (some ⟨k3, 0, none⟩) u5 v5) /\
 ∃ v6, (∀ u6, Below w3.heap.size w3 u6 -> Ld qD p1 u6 v6) /\
 ∃ p7, (∀ u7, Below w3.heap.size w3 u7 -> Ld qfb p2 u7 (.pointer p7)) /\
 (Option.isSome p7 = true) /\
 (Option.isSome p7 = true) /\
 (Option.isSome (Option.map (fun x => x.add 0) p7) = true) /\
 ∃ n11, (∀ u11, Below w3.heap.size w3 u11 -> Ld qA (Option.map (fun x => x.add 0) (Option.map (fun x => x.add 0) p7)) u11 (.int .i64 n11)) /\
 ∃ b12, (∀ u12, Below w3.heap.size w3 u12 -> Calls prog ql5 #[v5, v6, .int .i64 n11] u12 fun e12 w12 => e12 = .returned (.bool b12) /\ Below w3.heap.size u12 w12) /\
 ∀ wq, Below w3.heap.size w3 wq ->
 K (.bool (!b12)) wq
theorem qqt (v0 : Value) (p1 : Option Addr) (p2 : Option Addr) {w : World} {K : Value -> World -> Prop} (h : qlK v0 p1 p2 w K) : Calls prog j9 #[v0, .pointer p1, .pointer p2] w (Ret K) :=
 qm (c := qq Tryz.f42) (by kernel_rfl) Tryz.func42 (by kernel_rfl) [] [v0, .pointer p1, .pointer p2] (of_decide_eq_true (by kernel_rfl)) _ (by kernel_rfl) h

--  (*cracknel/jar.Jar).Get$2
def qrr (v0 : Value) (v1 : Value) (w : World) (K : Value -> World -> Prop) : Prop :=
 ∀ k2 w2, k2 = w.heap.size -> w2 = w.alloc (.cells (Value.cells v0) qe) ->
 ∀ k3 w3, k3 = w2.heap.size -> w3 = w2.alloc (.cells (Value.cells v1) qe) ->
 ∃ v5, Ld qe (some ⟨k2, 0, none⟩) w3 v5 /\
 ∃ v6, Ld qe (some ⟨k3, 0, none⟩) w3 v6 /\
 Calls prog ql4 #[v5, v6] w3 fun e7 w7 => ∃ b7, e7 = .returned (.bool b7) /\
 BCase b7
 (K (.int .i64 (-1 : Int)) w7)
 (K (.int .i64 (1 : Int)) w7)
theorem qqu (v0 : Value) (v1 : Value) {w : World} {K : Value -> World -> Prop} (h : qrr v0 v1 w K) : Calls prog qh0 #[v0, v1] w (Ret K) :=
 qm (c := qq Tryz.f45) (by kernel_rfl) Tryz.func45 (by kernel_rfl) [] [v0, v1] (of_decide_eq_true (by kernel_rfl)) _ (by kernel_rfl) h

--  cracknel/jar.said
def qtX (v0 : Value) (w : World) (K : Value -> World -> Prop) : Prop :=
 ∀ k1 w1, k1 = w.heap.size -> w1 = w.alloc (.cells (Value.cells v0) qe) ->
 (true = true) /\
 ∃ s4, Ld qh (some ⟨k1, 0, none⟩) w1 (.string (mkS s4)) /\
 BCase (s4 == [])
 ((true = true) /\
 ∃ s7, Ld qh (some ⟨k1, 1, none⟩) w1 (.string (mkS s7)) /\
 K (.string (mkS s7)) w1)
 ((true = true) /\
 ∃ s9, Ld qh (some ⟨k1, 0, none⟩) w1 (.string (mkS s9)) /\
 ((((List.length s9 + List.length [61] : Nat) : Int) <= i64.max)) /\
 ∀ s10, s10 = (s9 ++ [61]) ->
 (true = true) /\
 ∃ s12, Ld qh (some ⟨k1, 1, none⟩) w1 (.string (mkS s12)) /\
 ((((List.length s10 + List.length s12 : Nat) : Int) <= i64.max)) /\
 ∀ s13, s13 = (s10 ++ s12) ->
 K (.string (mkS s13)) w1)
theorem qwZ (v0 : Value) {w : World} {K : Value -> World -> Prop} (h : qtX v0 w K) : Calls prog qq1 #[v0] w (Ret K) :=
 qm (c := qq Tryz.f48) (by kernel_rfl) Tryz.func48 (by kernel_rfl) [] [v0] (of_decide_eq_true (by kernel_rfl)) _ (by kernel_rfl) h

--  (*cracknel/jar.Jar).overlays$1
def qiW (v0 : Value) (p1 : Option Addr) (w : World) (K : Value -> World -> Prop) : Prop :=
 ∀ k2 w2, k2 = w.heap.size -> w2 = w.alloc (.cells (Value.cells v0) qe) ->
 ∃ J : FP [.one (.bool)],
 ((true = true) /\
 ∃ v6, Ld qf (some ⟨k2, 2, none⟩) w2 v6 /\
 (Option.isSome p1 = true) /\
 ∃ v8, Ld qf (Option.map (fun x => x.add 2) p1) w2 v8 /\
 Calls prog qgR #[v6, v8] w2 fun e9 w9 => ∃ b9, e9 = .returned (.bool b9) /\
 BCase b9
 (J true w9)
 ((Option.isSome p1 = true) /\
 ∃ v12, Ld qf (Option.map (fun x => x.add 2) p1) w9 v12 /\
 (true = true) /\
 ∃ v14, Ld qf (some ⟨k2, 2, none⟩) w9 v14 /\
 Calls prog qgR #[v12, v14] w9 fun e15 w15 => ∃ b15, e15 = .returned (.bool b15) /\
 J b15 w15)) /\
 ∀ b4, AllJ 12 (∀ wj, J b4 wj ->
 (true = true) /\
 ∃ b18, Ld qN (some ⟨k2, 22, none⟩) wj (.bool b18) /\
 BCase b18
 ((true = true) /\
 ∃ s21, Ld qh (some ⟨k2, 0, none⟩) wj (.string (mkS s21)) /\
 (Option.isSome p1 = true) /\
 ∃ s23, Ld qh (Option.map (fun x => x.add 0) p1) wj (.string (mkS s23)) /\
 BCase (s21 == s23)
 (BCase b4
 ((Option.isSome p1 = true) /\
 ∃ s31, Ld qh (Option.map (fun x => x.add 21) p1) wj (.string (mkS s31)) /\
 (true = true) /\
 ∃ s33, Ld qh (some ⟨k2, 21, none⟩) wj (.string (mkS s33)) /\
 Calls prog qig #[.string (mkS s31), .string (mkS s33)] wj fun e34 w34 => ∃ b34, e34 = .returned (.bool b34) /\
 K (.bool b34) w34)
 (K (.bool false) wj))
 (K (.bool false) wj))
 (K (.bool false) wj))
theorem qmt (v0 : Value) (p1 : Option Addr) {w : World} {K : Value -> World -> Prop} (h : qiW v0 p1 w K) : Calls prog zX #[v0, .pointer p1] w (Ret K) :=
 qm (c := qq Tryz.f72) (by kernel_rfl) Tryz.func72 (by kernel_rfl) [(2, [(4, .one (.bool))])] [v0, .pointer p1] (of_decide_eq_true (by kernel_rfl)) _ (by kernel_rfl) h

--  slices.ContainsFunc[[]cracknel/api.Cookie,cracknel/api.Cookie]
def jH (a0 : Option Addr) (l0 c0 : Nat) (q0 : Option Addr) (w : World) (K : Value -> World -> Prop) : Prop :=
 Calls prog zx #[.slice a0 l0 c0, .func (.func zX) #[] #[.pointer q0]] w fun e7 w7 => ∃ n7, e7 = .returned (.int .i64 n7) /\
 K (.bool (decide (n7 >= (0 : Int)))) w7
theorem qcq (a0 : Option Addr) (l0 c0 : Nat) (q0 : Option Addr) {w : World} {K : Value -> World -> Prop} (h : jH a0 l0 c0 q0 w K) : Calls prog qav #[.slice a0 l0 c0, .func (.func zX) #[] #[.pointer q0]] w (Ret K) :=
 qm (c := qq Tryz.f71) (by kernel_rfl) Tryz.func71 (by kernel_rfl) [] [.slice a0 l0 c0, .func (.func zX) #[] #[.pointer q0]] (of_decide_eq_true (by kernel_rfl)) _ (by kernel_rfl) h

--  slices.IndexFunc[[]cracknel/api.Cookie,cracknel/api.Cookie]
def j0 (a0 : Option Addr) (l0 c0 : Nat) (q0 : Option Addr) (w : World) (K : Value -> World -> Prop) : Prop :=
 ∃ I : Nat -> FP [.one (.int .i64)],
 (∃ m, I m (0 : Int) w) /\
 ∀ m n8, AllJ 12 (∀ wl, I m n8 wl ->
 BCase (decide (n8 < ((l0 : Nat) : Int)))
 (((0 <= n8 /\ n8 < ((l0 : Nat) : Int)) /\ Option.isSome a0 = true) /\
 ∃ v15, Ld qe (ql a0 n8 29) wl v15 /\
 Calls prog zX #[v15, .pointer q0] wl fun e16 w16 => ∃ b16, e16 = .returned (.bool b16) /\
 BCase b16
 (K (.int .i64 n8) w16)
 (∃ m' : Nat, m' < m /\ I m' (i64.wrap (n8 + (1 : Int))) w16))
 (K (.int .i64 (-1 : Int)) wl))
theorem qc4 (a0 : Option Addr) (l0 c0 : Nat) (q0 : Option Addr) {w : World} {K : Value -> World -> Prop} (h : j0 a0 l0 c0 q0 w K) : Calls prog zx #[.slice a0 l0 c0, .func (.func zX) #[] #[.pointer q0]] w (Ret K) :=
 qm (c := qq Tryz.f93) (by kernel_rfl) Tryz.func93 (by kernel_rfl) [(6, [(8, .one (.int .i64))])] [.slice a0 l0 c0, .func (.func zX) #[] #[.pointer q0]] (of_decide_eq_true (by kernel_rfl)) _ (by kernel_rfl) h

--  slices.DeleteFunc[[]cracknel/api.Cookie,cracknel/api.Cookie]
def qai (a0 : Option Addr) (l0 c0 : Nat) (q0 : Option Addr) (q1 : Option Addr) (w : World) (K : Value -> World -> Prop) : Prop :=
 Calls prog zx #[.slice a0 l0 c0, .func (.func j9) #[] #[.pointer q0, .pointer q1]] w fun e10 w10 => ∃ n10, e10 = .returned (.int .i64 n10) /\
 BCase (n10 == (-1 : Int))
 (K (.slice a0 l0 c0) w10)
 (∃ I : Nat -> FP [.one (.int .i64), .one (.int .i64)],
 (∃ m, I m n10 (i64.wrap (n10 + (1 : Int))) w10) /\
 ∀ m n5 n6, AllJ 21 (∀ wl, I m n5 n6 wl ->
 BCase (decide (n6 < ((l0 : Nat) : Int)))
 (((0 <= n6 /\ n6 < ((l0 : Nat) : Int)) /\ Option.isSome a0 = true) /\
 ∃ v25, Ld qe (ql a0 n6 29) wl v25 /\
 ∀ k7 w7, k7 = wl.heap.size -> w7 = wl.alloc (.cells qG qe) ->
 ∃ wx, Sv qe (some ⟨k7, 0, none⟩) v25 w7 wx /\
 ∃ v27, Ld qe (some ⟨k7, 0, none⟩) wx v27 /\
 Calls prog j9 #[v27, .pointer q0, .pointer q1] wx fun e28 w28 => ∃ b28, e28 = .returned (.bool b28) /\
 BCase (!b28)
 (∃ v32, Ld qe (some ⟨k7, 0, none⟩) w28 v32 /\
 ((0 <= n5 /\ n5 < ((l0 : Nat) : Int)) /\ Option.isSome a0 = true) /\
 ∃ wx_1, Sv qe (ql a0 n5 29) v32 w28 wx_1 /\
 ∃ m' : Nat, m' < m /\ I m' (i64.wrap (n5 + (1 : Int))) (i64.wrap (n6 + (1 : Int))) wx_1)
 (∃ m' : Nat, m' < m /\ I m' n5 (i64.wrap (n6 + (1 : Int))) w28))
 (((0 <= n5 /\ n5 <= ((l0 : Nat) : Int))) /\
 ∃ wx_2, (Builtin.clear_ #[qu] qjk #[.slice (qy a0 c0 (Int.toNat n5) 29) (l0 - (Int.toNat n5)) (c0 - (Int.toNat n5))]).run prog wl = .ok (.tuple #[]) wx_2 /\
 ((0 <= n5 /\ n5 <= ((c0 : Nat) : Int))) /\
 K (.slice a0 (Int.toNat n5) c0) wx_2)))
theorem qds (a0 : Option Addr) (l0 c0 : Nat) (q0 : Option Addr) (q1 : Option Addr) {w : World} {K : Value -> World -> Prop} (h : qai a0 l0 c0 q0 q1 w K) : Calls prog qaM #[.slice a0 l0 c0, .func (.func j9) #[] #[.pointer q0, .pointer q1]] w (Ret K) :=
 qm (c := qq Tryz.f41) (by kernel_rfl) Tryz.func41 (by kernel_rfl) [(16, [(5, .one (.int .i64)), (6, .one (.int .i64))])] [.slice a0 l0 c0, .func (.func j9) #[] #[.pointer q0, .pointer q1]] (of_decide_eq_true (by kernel_rfl)) _ (by kernel_rfl) h

--  slices.IndexFunc[[]cracknel/api.Cookie,cracknel/api.Cookie]
def qaC (a0 : Option Addr) (l0 c0 : Nat) (q0 : Option Addr) (q1 : Option Addr) (w : World) (K : Value -> World -> Prop) : Prop :=
 ∃ I : Nat -> FP [.one (.int .i64)],
 (∃ m, I m (0 : Int) w) /\
 ∀ m n8, AllJ 12 (∀ wl, I m n8 wl ->
 BCase (decide (n8 < ((l0 : Nat) : Int)))
 (((0 <= n8 /\ n8 < ((l0 : Nat) : Int)) /\ Option.isSome a0 = true) /\
 ∃ v15, Ld qe (ql a0 n8 29) wl v15 /\
 Calls prog j9 #[v15, .pointer q0, .pointer q1] wl fun e16 w16 => ∃ b16, e16 = .returned (.bool b16) /\
 BCase b16
 (K (.int .i64 n8) w16)
 (∃ m' : Nat, m' < m /\ I m' (i64.wrap (n8 + (1 : Int))) w16))
 (K (.int .i64 (-1 : Int)) wl))
theorem qdz (a0 : Option Addr) (l0 c0 : Nat) (q0 : Option Addr) (q1 : Option Addr) {w : World} {K : Value -> World -> Prop} (h : qaC a0 l0 c0 q0 q1 w K) : Calls prog zx #[.slice a0 l0 c0, .func (.func j9) #[] #[.pointer q0, .pointer q1]] w (Ret K) :=
 qm (c := qq Tryz.f93) (by kernel_rfl) Tryz.func93 (by kernel_rfl) [(6, [(8, .one (.int .i64))])] [.slice a0 l0 c0, .func (.func j9) #[] #[.pointer q0, .pointer q1]] (of_decide_eq_true (by kernel_rfl)) _ (by kernel_rfl) h
end Go.Proofs.YtlfolncaghkmcaaGreatDoor
set_option maxRecDepth 20000
namespace Go.Pk
open Go.RowKit (Below)
theorem qvb {B : Nat} : ∀ l : List (List UInt8), (∀ x ∈ l, x.length <= B) -> (sayL l).length <= l.length * (B + 2)
 | [], _ => by simp [sayL]
 | [x], h => by
   have := h x (List.mem_cons_self ..)
   simp only [sayL, List.length_cons, List.length_nil]
   omega
 | x :: y :: r, h => by
   have h1 := h x (List.mem_cons_self ..)
   have h2 := qvb (y :: r) fun z hz => h z (List.mem_cons_of_mem _ hz)
   show (x ++ [59, 32] ++ sayL (y :: r)).length <= ((y :: r).length + 1) * (B + 2)
   rw [List.length_append, List.length_append, Nat.succ_mul]
   have : ([59, 32] : List UInt8).length = 2 := rfl
   omega
end Go.Pk

namespace Go.Pk
def qpA (s : List UInt8) : Hst := ⟨1, s, ad0⟩
def hA : Hst := qpA [97, 46, 120, 46, 99, 111, 109]
def hB : Hst := qpA [98, 46, 120, 46, 99, 111, 109]
def hY : Hst := qpA [121, 46, 99, 111, 109]
theorem qsW (s : List UInt8) (L : List Kpt) (h : cntK L s <= 50) : ∀ f, fit1 s f L = L
 | 0 => rfl
 | f + 1 => by unfold fit1; rw [if_neg (by omega)]
theorem qsX (L : List Kpt) (h : L.length <= 3000) : ∀ f, fit2 f L = L
 | 0 => rfl
 | f + 1 => by unfold fit2; rw [if_neg (by omega)]
end Go.Pk
namespace Go.Pk
open Go.RowKit (Below)
def FitA (t : List UInt8) (R L : List Kpt) : Prop := ∃ f, L.length <= f /\ fit1 t f L = R
def FitB (R L : List Kpt) : Prop := ∃ f, L.length <= f /\ fit2 f L = R
theorem FitA.next {t : List UInt8} {R L : List Kpt} {last : Int} (s : ShI L last) (h : 50 < cntK L t) (e : FitA t R L) : ∃ k, oldK L (fun k => decide (k.site = t)) = some k /\ k ∈ L /\ FitA t R (dropK L k.plc) := by
 obtain ⟨f, hf, he⟩ := e
 have hp : 0 < cntK L t := by omega
 obtain ⟨x, hx, hs⟩ := List.countP_pos_iff.1 hp
 obtain ⟨k, hk⟩ := qv1 (of := fun k => decide (k.site = t)) s hx hs
 have hm := (qxR s hk).1
 have hd := drop_len hm
 cases f with
 | zero => omega
 | succ f =>
   unfold fit1 at he
   rw [if_pos h, hk] at he
   exact ⟨k, hk, hm, f, by omega, he⟩
theorem FitA.stop {t : List UInt8} {R L : List Kpt} (h : ¬ 50 < cntK L t) (e : FitA t R L) : L = R := by
 obtain ⟨f, hf, he⟩ := e
 rw [<- he, qsW t L (by omega)]
theorem FitB.next {R L : List Kpt} {last : Int} (s : ShI L last) (h : 3000 < L.length) (e : FitB R L) : ∃ k, oldK L (fun _ => true) = some k /\ k ∈ L /\ FitB R (dropK L k.plc) := by
 obtain ⟨f, hf, he⟩ := e
 have hp : 0 < L.length := by omega
 obtain ⟨k, hk⟩ := qv1 (of := fun _ => true) s (List.getElem_mem hp) rfl
 have hm := (qxR s hk).1
 have hd := drop_len hm
 cases f with
 | zero => omega
 | succ f =>
   unfold fit2 at he
   rw [if_pos h, hk] at he
   exact ⟨k, hk, hm, f, by omega, he⟩
theorem FitB.stop {R L : List Kpt} (h : ¬ 3000 < L.length) (e : FitB R L) : L = R := by
 obtain ⟨f, hf, he⟩ := e
 rw [<- he, qsX L (by omega)]
theorem FitA.of (t : List UInt8) (L : List Kpt) : FitA t (fit1 t L.length L) L := ⟨_, Nat.le_refl _, rfl⟩
theorem FitB.of (L : List Kpt) : FitB (fit2 L.length L) L := ⟨_, Nat.le_refl _, rfl⟩
theorem qsR (L : List Kpt) (now : Int) : (expK L now).length <= L.length := List.length_filter_le ..
end Go.Pk

namespace Go.Pk
open Go.RowKit (Below)
def OpR.cells (o : OpR) : List Value := .int .i64 o.kind :: (o.url.cells ++ (.string (mkS o.text) :: (o.req.cells ++ [.int .i64 o.n])))
def OpR.v (o : OpR) : Value := .agg o.cells.toArray
theorem OpR.len {o : OpR} (k : o.ok) : o.cells.length = 45 := by
 unfold OpR.cells
 rw [List.length_cons, List.length_append, List.length_cons, List.length_append, Url.len k.uo, Req.len k.ro]
 rfl
theorem OpR.one (o : OpR) : One1 o.cells := qx rfl (qnz (Url.one _) (qx rfl (qnz (Req.one _) (qx rfl zT))))
end Go.Pk

