/- What the laws lean on: Hep, DaA, Make, Rep, DaB, DaC, HwS, HsL, HosD, V37, HosE, HosF, DfaF; what is used. Its conditions: none. -/
import Derived.Test.YtpafoodmpjlkhaaGreatDoorKF
import Derived.Deep.OwnRows
import Derived.Laws.CopyRow
open Go.IntKind (i64)
open Go.Proofs.Tryz (prog)
set_option linter.unusedVariables false
set_option linter.unusedSimpArgs false
set_option maxRecDepth 20000
namespace Go.Pk
open Go.RowKit (Below)
theorem am.put1 {P : Program} {u : TypeId} {bytes : Nat} {z : Value} (tf : TF P u 1 bytes z) {w : World} {k : Nat} {t : TypeId} {x v : Value} (h : am w k t [x]) (h1 : v.oneCell' = true) (hc : v.cells = #[v]) :
   ∃ w', (Instr.storeAt u (.pointer (some ⟨k, 0, none⟩)) v).run P w = .ok () w' /\ am w' k t [v] /\ w.grownBy w' (some k) := by
 obtain ⟨w', hs, ha, hg⟩ := h.store tf (i := 0) (v := v) (by rw [hc]; rfl) (by simp) (by rw [hc]; intro c hcc; simp at hcc; subst hcc; exact h1)
 refine ⟨w', hs, ?_, hg⟩
 rw [hc] at ha
 exact ha
theorem Chg.trans2 {S S' : List Nat} {a b c : World} (h : Chg S a b) (k : Chg S' b c) (hs : ∀ x ∈ S', x < a.heap.size -> x ∈ S) : Chg S a c :=
 ⟨k.os.trans h.os, k.tape.trans h.tape, k.output.trans h.output, Nat.le_trans h.size k.size, fun i hi hn => (k.block i (Nat.lt_of_lt_of_le hi h.size) (fun hm => hn (hs i hm hi))).trans (h.block i hi hn)⟩
theorem Chg.row {w w' : World} {a : Option Addr} (h : w.grownBy w' (bE a)) : Chg (bE a).toList w w' :=
 ⟨h.os, h.tape, h.output, h.size, fun k hk hn => h.block k hk fun e => hn (by rw [<- e]; simp)⟩
theorem Src.at1 {α : Type} {T : Ty α} (hf : BP T) {w : World} {A : Bl} {vs : List Value} {x : α} {t : TypeId} {b : Nat} (hw : w.heap[b]? = some (.cells vs.toArray t (0, 0))) (h : T.rep w A vs x) : Src T w A (some ⟨b, 0, none⟩) 1 [x] := by
 refine ⟨rfl, .inr ⟨_, 0, rfl, vs, gw.one h, fun j hj => ?_⟩⟩
 rw [eQ hw, Nat.zero_add]
 simp
theorem gw.takeN {α : Type} {T : Ty α} {w : World} {A : Bl} {l : List Value} {xs : List α} (h : gw T w A l xs) {j : Nat} (hj : j <= xs.length) : gw T w A (l.take (j * T.k)) (xs.take j) := by
 have hle : j * T.k <= xs.length * T.k := Nat.mul_le_mul_right _ hj
 refine ⟨by rw [List.length_take, List.length_take, h.len, Nat.min_eq_left hle, Nat.min_eq_left hj], fun i hi => ?_⟩
 rw [List.length_take, Nat.min_eq_left hj] at hi
 have := h.rep i (by omega)
 have h2 : (i + 1) * T.k <= j * T.k := Nat.mul_le_mul_right _ hi
 rw [Nat.succ_mul] at h2
 rw [List.getElem_take, List.drop_take, List.take_take, Nat.min_eq_left (by omega)]
 exact this
theorem Ow.takeN {α : Type} {T : Ty α} {t : TypeId} {w : World} {A : Bl} {a : Option Addr} {n c : Nat} {xs : List α} (h : Ow T t w A a n c xs) {j : Nat} (hj : j <= xs.length) : Ow T t w A a j c (xs.take j) := by
 obtain ⟨hn, hnc, hcm, h4⟩ := h
 refine ⟨by rw [List.length_take, Nat.min_eq_left hj], by omega, hcm, ?_⟩
 rcases h4 with ⟨e1, e2, e3⟩ | ⟨g, cur, fr, e, hg, hf, hs, hr⟩
 · exact .inl ⟨e1, e2, by rw [e3]; simp⟩
 · refine .inr ⟨g, cur, fr, e, hg, hf, hs, ?_⟩
   have := hr.takeN hj
   rwa [List.take_take, Nat.min_eq_left (by rw [hn]; exact Nat.mul_le_mul_right _ hj)] at this
structure yi (ts te : TypeId) (w : World) (vb : Nat) (a : Option Addr) (n c : Nat) (xs : List Pi) : Prop where
 var : am w vb ts [.slice a n c]
 row : Ow tP te w NoB a n c xs
 ne : ∀ g, bE a = some g -> g ≠ vb
theorem yi.below {ts te : TypeId} {w w' : World} {vb : Nat} {a : Option Addr} {n c : Nat} {xs : List Pi} (h : yi ts te w vb a n c xs) (hb : Below w.heap.size w w') : yi ts te w' vb a n c xs := ⟨h.var.below hb, h.row.below hb, h.ne⟩
end Go.Pk
namespace Go.Proofs.YtpafoodmpjlkhaaGreatDoor
open Go.Pk
open Go.RowKit (Below)
abbrev Hq := yi aK aH
theorem uu : Whl prog aH 2 := ⟨⟨_, _, ly⟩, by kernel_rfl⟩
theorem oR {w : World} {A : Bl} {a : Option Addr} {n c : Nat} {xs : List Pi} (h : Sl tP w A a n c xs) {i j : Nat} (hi : i < xs.length) (hj : j < xs.length) :
   Calls prog d5 #[.slice a n c, .int .i64 (i : Int), .int .i64 (j : Int)] w (Ret fun v w' => ∃ b, v = .bool b /\ Below w.heap.size w w') := by
 apply qZ
 unfold mC
 have hn := h.len
 subst hn
 exact ⟨⟨⟨by omega, by omega⟩, h.isSome hi⟩, h.some_of hi 2, _, fun u hu => ((h.below hu).pair0 aI hi).1, ⟨⟨by omega, by omega⟩, h.isSome hj⟩, h.some_of hj 2, _, fun u hu => ((h.below hu).pair0 aI hj).1, fun wq hq => ⟨_, rfl, hq⟩⟩
theorem oS {w : World} {a : Option Addr} {n c : Nat} {xs : List Pi} (h : Ow tP aH w NoB a n c xs) {i j : Nat} (hi : i < xs.length) (hj : j < xs.length) :
   Calls prog d6 #[.slice a n c, .int .i64 (i : Int), .int .i64 (j : Int)] w (Ret fun v w' => v = .tuple #[] /\ Ow tP aH w' NoB a n c ((xs.set i xs[j]).set j xs[i]) /\ Chg (bE a).toList w w') := by
 apply q9
 unfold mE
 have hn := h.len
 subst hn
 have h2 := h.all
 refine ⟨⟨⟨by omega, by omega⟩, h2.isSome hj⟩, ⟨⟨by omega, by omega⟩, h2.isSome hi⟩, xs[j].1, xs[j].2, fun u hu => (h2.below hu).pair uu hj, xs[i].1, xs[i].2, fun u hu => (h2.below hu).pair uu hi, ⟨⟨by omega, by omega⟩, h2.isSome hi⟩, fun wq hq => ?_⟩
 obtain ⟨w1, s1, o1, g1⟩ := (h.below hq).store ly (fun _ _ h => h) (i := (i : Int)) (by simpa using hi) (k := 2) rfl (v := prV xs[j]) (x := xs[j]) rfl
 rw [Int.toNat_natCast] at o1
 refine ⟨w1, s1, ⟨⟨by omega, by omega⟩, h2.isSome hj⟩, ?_⟩
 obtain ⟨w2, s2, o2, g2⟩ := o1.store ly (fun _ _ h => h) (i := (j : Int)) (by simpa using hj) (k := 2) rfl (v := prV xs[i]) (x := xs[i]) rfl
 rw [Int.toNat_natCast] at o2
 exact ⟨w2, s2, rfl, o2, ((Chg.of hq).trans (Chg.row g1)).trans (Chg.row g2)⟩
theorem DZ {w : World} {vb : Nat} {a : Option Addr} {n c : Nat} {xs : List Pi} (h : Hq w vb a n c xs) {j : Nat} (hj : j < xs.length) :
   Calls prog iW #[.iface aW (.pointer (some ⟨vb, 0, none⟩)), .int .i64 (j : Int)] w (Ret fun v w' => v = .tuple #[] /\ ∃ xs', xs'.Perm xs /\ Hq w' vb a n c xs' /\ Chg (bE a).toList w w') := by
 apply iZ
 unfold dR
 refine ⟨fun m i wl => ∃ (k : Nat) (ys : List Pi), i = (k : Int) /\ m = k /\ k < ys.length /\ ys.Perm xs /\ Hq wl vb a n c ys /\ Chg (bE a).toList w wl, ⟨_, j, xs, rfl, rfl, hj, List.Perm.refl _, h, Chg.refl _ _⟩, ?_⟩
 intro m i
 refine aE.of ?_ _
 rintro wl ⟨k, ys, rfl, hmk, hk, hp, H, hc⟩
 have hle := H.row.le
 refine ⟨by decide, fun q7 hq => ?_⟩
 have hq' : q7 = (((k - 1) / 2 : Nat) : Int) := by
   rw [hq]
   by_cases h0 : k = 0
   · subst h0; rfl
   · rw [ak (n := (k : Int) - 1) (by omega) (by omega), show ((k : Int) - 1) = ((k - 1 : Nat) : Int) by omega, show Int.tdiv ((k - 1 : Nat) : Int) 2 = (((k - 1) / 2 : Nat) : Int) from rfl]
     exact ak (by omega) (by omega)
 subst hq'
 clear hq
 refine jK (fun w' => 0 < k /\ Hq w' vb a n c ys /\ Chg (bE a).toList w w') ?_ ?_
 · refine af.of (fun _ => ⟨rfl, ys, hp, H, hc⟩) (fun h0 => ?_)
   have hk0 : 0 < k := by
     rcases Nat.eq_zero_or_pos k with e | e
     · subst e; simp at h0
     · exact e
   refine ⟨a, n, c, H.var.load1 bo rfl rfl, ?_⟩
   refine ax (oR H.row.all hk (show (k - 1) / 2 < ys.length by omega)) ?_
   rintro _ w15 ⟨b, rfl, hb⟩
   refine ⟨b, rfl, af.of (fun _ => ⟨rfl, ys, hp, H.below hb, hc.step hb⟩) (fun _ => ⟨hk0, H.below hb, hc.step hb⟩)⟩
 · rintro wj ⟨hk0, H, hc⟩
   refine ⟨a, n, c, H.var.load1 bo rfl rfl, ?_⟩
   have hd : (k - 1) / 2 < ys.length := by omega
   refine ax (oS H.row hd hk) ?_
   rintro _ w21 ⟨rfl, o, hc2⟩
   refine ⟨rfl, (k - 1) / 2, by omega, (k - 1) / 2, _, rfl, rfl, ?_, (xi hd hk).trans hp, ⟨hc2.arr H.var fun hm => ?_, o, H.ne⟩, hc.trans hc2⟩
   · simp; omega
   · exact H.ne vb (by simpa using hm) rfl
theorem AR {w : World} {vb : Nat} {a : Option Addr} {n c : Nat} {xs : List Pi} (h : Hq w vb a n c xs) (hl : xs.length <= 1000000000000) {N : Nat} (hN : N <= xs.length) :
   Calls prog gz #[.iface aW (.pointer (some ⟨vb, 0, none⟩)), .int .i64 (0 : Int), .int .i64 (N : Int)] w (Ret fun v w' => ∃ b, v = .bool b /\ ∃ xs' : List Pi, xs'.Perm xs /\ (∀ k, N <= k -> xs'[k]? = xs[k]?) /\ Hq w' vb a n c xs' /\ Chg (bE a).toList w w') := by
 apply im
 unfold dE
 refine ⟨fun m i wl => ∃ (k : Nat) (ys : List Pi), i = (k : Int) /\ m = ys.length - k /\ k <= ys.length /\ ys.Perm xs /\ (∀ k, N <= k -> ys[k]? = xs[k]?) /\ Hq wl vb a n c ys /\ Chg (bE a).toList w wl, ⟨_, 0, xs, rfl, rfl, Nat.zero_le _, List.Perm.refl _, fun _ _ => rfl, h, Chg.refl _ _⟩, ?_⟩
 intro m i
 refine aE.of ?_ _
 rintro wl ⟨k, ys, rfl, rfl, hk, hp, hsame, H, hc⟩
 have hlen := hp.length_eq
 have e1 : i64.wrap ((i64.wrap ((2 : Int) * (k : Int))) + (1 : Int)) = ((2 * k + 1 : Nat) : Int) := by
   rw [ak (n := (2 : Int) * (k : Int)) (by omega) (by omega), ak (by omega) (by omega)]; omega
 have e2 : i64.wrap (((2 * k + 1 : Nat) : Int) + (1 : Int)) = ((2 * k + 2 : Nat) : Int) := by
   rw [ak (by omega) (by omega)]; omega
 simp only [e1, e2]
 refine jK (fun w' => 2 * k + 1 < N /\ w' = wl) ?_ ?_
 · refine af.of (fun _ => ⟨_, rfl, ys, hp, hsame, H, hc⟩) (fun h0 => ?_)
   simp only [ge_iff_le, dFx] at h0
   refine af.of (fun h1 => ?_) (fun _ => ⟨by omega, rfl⟩)
   simp only [dTx] at h1
   omega
 rintro wj ⟨hlt, rfl⟩
 refine ⟨fun i w' => ∃ jj : Nat, i = (jj : Int) /\ k < jj /\ jj < N /\ Hq w' vb a n c ys /\ Chg (bE a).toList w w', ?_, fun n9 => aE.of ?_ _⟩
 · refine af.of (fun h0 => ?_) (fun _ => ⟨2 * k + 1, rfl, by omega, hlt, H, hc⟩)
   simp only [dTx] at h0
   refine ⟨a, n, c, H.var.load1 bo rfl rfl, ?_⟩
   refine ax (oR H.row.all (show 2 * k + 2 < ys.length by omega) (show 2 * k + 1 < ys.length by omega)) ?_
   rintro _ w32 ⟨b, rfl, hb⟩
   exact ⟨b, rfl, af.of (fun _ => ⟨2 * k + 2, rfl, by omega, by omega, H.below hb, hc.step hb⟩) (fun _ => ⟨2 * k + 1, rfl, by omega, hlt, H.below hb, hc.step hb⟩)⟩
 · rintro w9 ⟨jj, rfl, hkj, hjN, H, hc⟩
   refine ⟨a, n, c, H.var.load1 bo rfl rfl, ?_⟩
   refine ax (oR H.row.all (show jj < ys.length by omega) (show k < ys.length by omega)) ?_
   rintro _ w38 ⟨b, rfl, hb⟩
   refine ⟨b, rfl, af.of (fun _ => ⟨_, rfl, ys, hp, hsame, H.below hb, hc.step hb⟩) (fun _ => ?_)⟩
   have H2 := H.below hb
   refine ⟨a, n, c, H2.var.load1 bo rfl rfl, ?_⟩
   have hk1 : k < ys.length := by omega
   have hj1 : jj < ys.length := by omega
   refine ax (oS H2.row hk1 hj1) ?_
   rintro _ w43 ⟨rfl, o, hc2⟩
   refine ⟨rfl, ys.length - jj, by omega, jj, _, rfl, by simp, by simp; omega, (xi hk1 hj1).trans hp, fun i hi => ?_, ⟨hc2.arr H2.var fun hm => ?_, o, H.ne⟩, (hc.step hb).trans hc2⟩
   · rw [List.getElem?_set_ne (by omega), List.getElem?_set_ne (by omega)]
     exact hsame i hi
   · exact H.ne vb (by simpa using hm) rfl
theorem vy (p : Pi) (u : World) : (Instr.typeAssert (.iface aH (prV p)) rF aH false).run prog u = .ok (.agg #[.int .i64 p.1, .int .i64 p.2]) u := by kernel_rfl
theorem Ae {w : World} {vb : Nat} {a : Option Addr} {n c : Nat} {xs : List Pi} (h : Hq w vb a n c xs) (hl : xs.length <= 1000000000000) (p : Pi) :
   Calls prog jq #[.pointer (some ⟨vb, 0, none⟩), .iface aH (prV p)] w (Ret fun v w' => v = .tuple #[] /\ ∃ a' n' c', Hq w' vb a' n' c' (xs ++ [p]) /\ Chg (vb :: (bE a).toList) w w' /\ ∀ g, bE a' = some g -> bE a = some g \/ w.heap.size <= g) := by
 apply q6
 unfold mD
 refine ⟨rfl, a, n, c, fun u hu => (h.below hu).var.load1 bo rfl rfl, p.1, p.2, fun u _ => vy p u, fun k10 hk wq hq hcell => ?_⟩
 have H := h.below hq
 have hsrc : Src tP wq NoB (some ⟨k10, 0, none⟩) 1 [p] := Src.at1 tO (vs := prC p) hcell rfl
 obtain ⟨w4, a4, n4, c4, hr, o4, g4, f4⟩ := cJ (ty := aK) bo ly (by decide) H.row (fun _ _ h => h) (cm := 1) hsrc (by simp; omega)
 have hsz := hq.size
 have hvlt := h.var.lt
 have v4 : am w4 vb aK [.slice a n c] := H.var.grown g4 fun e => H.ne vb e.symm rfl
 obtain ⟨w5, hs5, v5, g5⟩ := v4.put1 (P := prog) ro (v := .slice a4 n4 c4) rfl rfl
 have hne4 : ∀ g, bE a4 = some g -> g ≠ vb := fun g hg e => by
   rcases f4 g hg with h1 | h1
   · exact h.ne g h1 e
   · omega
 refine ⟨w4, a4, n4, c4, hr, rfl, w5, hs5, rfl, a4, n4, c4, ⟨v5, o4.put (fun g hg e => hne4 g hg e) g5, hne4⟩, ?_, fun g hg => ?_⟩
 · have c1 : Chg (vb :: (bE a).toList) w wq := Chg.of hq
   have c2 : Chg (vb :: (bE a).toList) wq w4 := (Chg.row g4).mono fun k hk => List.mem_cons_of_mem _ hk
   exact (c1.trans c2).trans (Chg.grown g5 List.mem_cons_self)
 · rcases f4 g hg with h1 | h1
   · exact .inl h1
   · exact .inr (by omega)
theorem uC {w : World} {vb : Nat} {a : Option Addr} {n c : Nat} {xs : List Pi} (h : Hq w vb a n c xs) (hl : xs.length <= 1000000000000) (p : Pi) :
   Calls prog dX #[.iface aW (.pointer (some ⟨vb, 0, none⟩)), .iface aH (prV p)] w
     (Ret fun v w' => v = .tuple #[] /\ ∃ a' n' c' xs', xs'.Perm (p :: xs) /\ Hq w' vb a' n' c' xs' /\ Chg (vb :: (bE a).toList) w w' /\ ∀ g, bE a' = some g -> bE a = some g \/ w.heap.size <= g) := by
 apply il
 unfold dD
 refine ax (Ae h hl p) ?_
 rintro _ w6 ⟨rfl, a1, n1, c1, H1, hc1, f1⟩
 refine ⟨rfl, a1, n1, c1, H1.var.load1 bo rfl rfl, ?_⟩
 have hn1 := H1.row.len
 refine ax (K := fun v w' => v = .int .i64 ((n1 : Nat) : Int) /\ w' = w6) (mq _ _ _ ⟨rfl, rfl⟩) ?_
 rintro _ w9 ⟨rfl, rfl⟩
 refine ⟨_, rfl, ?_⟩
 have e1 : i64.wrap (((n1 : Nat) : Int) - 1) = ((xs.length : Nat) : Int) := by
   rw [hn1, List.length_append, List.length_singleton, ak (by omega) (by omega)]; omega
 rw [e1]
 refine ax (DZ H1 (by simp)) ?_
 rintro _ w11 ⟨rfl, ys, hp, H2, hc2⟩
 refine ⟨rfl, rfl, a1, n1, c1, ys, hp.trans (List.perm_append_singleton p xs), H2, ?_, f1⟩
 refine hc1.trans2 hc2 fun k hk hlt => ?_
 rcases f1 k (by simpa using hk) with h1 | h1
 · exact List.mem_cons_of_mem _ (by rw [h1]; simp)
 · omega
theorem BA {w : World} {vb : Nat} {a : Option Addr} {n c : Nat} {xs : List Pi} (h : Hq w vb a n c xs) {p : Pi} {ys : List Pi} (hx : xs = ys ++ [p]) :
   Calls prog j0 #[.pointer (some ⟨vb, 0, none⟩)] w (Ret fun v w' => v = .iface aH (prV p) /\ Hq w' vb a (n - 1) c ys /\ Chg [vb] w w') := by
 apply rY
 unfold mU
 have hn := h.row.len
 have hle := h.row.le
 subst hx
 rw [List.length_append, List.length_singleton] at hn hle
 have e1 : i64.wrap (((n : Nat) : Int) - 1) = ((ys.length : Nat) : Int) := by rw [ak (by omega) (by omega)]; omega
 have hlt : ys.length < (ys ++ [p]).length := by simp
 have hget : (ys ++ [p])[ys.length] = p := by simp
 have hvlt := h.var.lt
 refine ⟨rfl, rfl, a, n, c, fun u hu => (h.below hu).var.load1 bo rfl rfl, a, n, c, fun u hu => (h.below hu).var.load1 bo rfl rfl, ?_⟩
 rw [e1]
 refine ⟨⟨⟨by omega, by omega⟩, h.row.all.isSome hlt⟩, p.1, p.2, fun u hu => ?_, fun k3 hk3 wq hq hcell => ?_⟩
 · have := ((h.below hu).row.all).pair uu hlt
   rw [hget] at this; exact this
 have H := h.below hq
 have a3 : am wq k3 aH [.int .i64 0, .int .i64 0] := hcell
 obtain ⟨wx, hs, b3, g3⟩ := uu.store0 (P := prog) (cs := prC p) rfl (bS rfl (bS rfl nf)) a3 rfl
 have H3 : Hq wx vb a n c (ys ++ [p]) := ⟨H.var.grown g3 (gt (by omega)), H.row.put (fun g hg e => by have := h.row.lt g hg; omega) g3, H.ne⟩
 refine ⟨wx, hs, rfl, rfl, a, n, c, fun u hu => (H3.below hu).var.load1 bo rfl rfl, a, n, c, fun u hu => (H3.below hu).var.load1 bo rfl rfl, ?_⟩
 rw [e1]
 refine ⟨⟨by omega, ?_⟩, rfl, fun wq1 hq1 => ?_⟩
 · have := H3.row.2.1; omega
 have H4 := H3.below hq1
 obtain ⟨w5, hs5, v5, g5⟩ := H4.var.put1 (P := prog) ro (v := .slice a ys.length c) rfl rfl
 rw [Int.toNat_natCast]
 have b5 : am w5 k3 aH (prC p) := (b3.below hq1).grown g5 (gt (by omega))
 refine ⟨w5, hs5, p.1, p.2, uu.load0 (cs := prC p) b5 rfl, rfl, ⟨?_, ?_, h.ne⟩, ?_⟩
 · rw [show n - 1 = ys.length by omega]; exact v5
 · have o5 := H4.row.put (fun g hg e => h.ne g hg e) g5
   have o6 := o5.takeN (j := ys.length) (by simp)
   rw [List.take_left] at o6
   rw [show n - 1 = ys.length by omega]
   exact o6
 · exact ((Chg.of hq).put g3 hk3).trans2 ((Chg.of hq1 : Chg [vb] wx wq1).trans (Chg.grown g5 (List.mem_singleton.2 rfl))) fun k hk _ => hk
theorem Co {w : World} {vb : Nat} {a : Option Addr} {n c : Nat} {xs : List Pi} (h : Hq w vb a n c xs) (hl : xs.length <= 1000000000000) (hx : 0 < xs.length) :
   Calls prog ij #[.iface aW (.pointer (some ⟨vb, 0, none⟩))] w
     (Ret fun v w' => ∃ (p : Pi) (ys : List Pi), v = .iface aH (prV p) /\ xs.Perm (p :: ys) /\ Hq w' vb a (n - 1) c ys /\ Chg (vb :: (bE a).toList) w w') := by
 apply iB
 unfold dN
 have hn := h.row.len
 refine ⟨a, n, c, h.var.load1 bo rfl rfl, ?_⟩
 refine ax (K := fun v w' => v = .int .i64 ((n : Nat) : Int) /\ w' = w) (mq _ _ _ ⟨rfl, rfl⟩) ?_
 rintro _ w5 ⟨rfl, rfl⟩
 refine ⟨_, rfl, a, n, c, h.var.load1 bo rfl rfl, ?_⟩
 have e1 : i64.wrap (((n : Nat) : Int) - 1) = ((xs.length - 1 : Nat) : Int) := by rw [hn, ak (by omega) (by omega)]; omega
 rw [e1]
 have hlast : xs.length - 1 < xs.length := by omega
 refine ax (oS h.row (i := 0) hx hlast) ?_
 rintro _ w9 ⟨rfl, o9, hc9⟩
 have hp9 := xi (xs := xs) hx hlast
 have hvne : vb ∉ (bE a).toList := fun hm => h.ne vb (by simpa using hm) rfl
 have H9 : Hq w9 vb a n c ((xs.set 0 xs[xs.length - 1]).set (xs.length - 1) xs[0]) := ⟨hc9.arr h.var hvne, o9, h.ne⟩
 refine ⟨rfl, ?_⟩
 refine ax (AR H9 (by simpa using hl) (N := xs.length - 1) (by simp)) ?_
 rintro _ w12 ⟨b, rfl, zs, hp, hsame, H12, hc12⟩
 refine ⟨b, rfl, ?_⟩
 have hzl : zs.length = xs.length := by have := hp.length_eq; simpa using this
 have hz : zs[xs.length - 1]? = some xs[0] := by
   rw [hsame _ (Nat.le_refl _), List.getElem?_set_self (by simp; omega)]
 have hzs : zs = zs.take (xs.length - 1) ++ [xs[0]] := by
   have h1 := List.take_succ_eq_append_getElem (l := zs) (i := xs.length - 1) (by omega)
   have h2 : zs[xs.length - 1]'(by omega) = xs[0] := by
     rw [List.getElem?_eq_getElem (by omega)] at hz
     exact Option.some.inj hz
   rw [h2, List.take_of_length_le (by omega)] at h1
   exact h1
 refine ax (BA H12 hzs) ?_
 rintro _ w14 ⟨rfl, H14, hc14⟩
 refine ⟨_, rfl, xs[0], zs.take (xs.length - 1), rfl, ?_, H14, ?_⟩
 · have h3 := (hp.trans hp9).symm
   rw [hzs] at h3
   exact h3.trans (List.perm_append_singleton _ _)
 · have c1 : Chg (vb :: (bE a).toList) w9 w12 := hc12.mono fun k hk => List.mem_cons_of_mem _ hk
   have c0 : Chg (vb :: (bE a).toList) _ w9 := hc9.mono fun k hk => List.mem_cons_of_mem _ hk
   exact (c0.trans c1).trans (hc14.mono fun k hk => by rw [List.mem_singleton] at hk; rw [hk]; exact List.mem_cons_self)
end Go.Proofs.YtpafoodmpjlkhaaGreatDoor
namespace Go.Proofs.YtpafoodmpjlkhaaGreatDoor
open Go.Pk
open Go.RowKit (Below)
theorem bs : Whl prog aj 4 := ⟨⟨_, _, En⟩, by kernel_rfl⟩
def inR (N x : Int) : Bool := decide (0 <= x) && decide (x < N)
def inC (x : Int) : Bool := decide (1 <= x) && decide (x <= 1048576)
theorem Cd {w : World} {k : Nat} {N : Int} (hk : am w k az [.int .i64 N]) : (Instr.loadAt az (.pointer (some ⟨k, 0, none⟩))).run prog w = .ok (.int .i64 N) w := hk.load1 aI rfl rfl
theorem vP (x : Int) {w : World} {k : Nat} {N : Int} (hk : am w k az [.int .i64 N]) : Calls prog cu #[.int .i64 x, .pointer (some ⟨k, 0, none⟩)] w (Ret fun v w' => v = .bool (!inR N x) /\ w' = w) := by
 apply vc
 unfold qz
 refine af.of (fun h => ⟨?_, rfl⟩) (fun h => ⟨N, Cd hk, ?_, rfl⟩) <;> simp only [dTx, dFx] at h
 · congr 1; unfold inR; rw [decide_eq_false (by omega)]; rfl
 · congr 1; unfold inR
   have h0 : (0 : Int) <= x := by omega
   by_cases h2 : x < N
   · have h3 : ¬ N <= x := by omega
     simp [h0, h2, h3]
   · have h3 : N <= x := by omega
     simp [h0, h2, h3]
theorem sj {w : World} {A : Bl} {a : Option Addr} {n c : Nat} {xs : List Int} (hs : Sl i7 w A a n c xs) {k : Nat} {N : Int} (hk : am w k az [.int .i64 N]) :
   Calls prog aN #[.slice a n c, .func (.func cu) #[] #[.pointer (some ⟨k, 0, none⟩)]] w (Ret fun v w' => v = .bool (!xs.all (inR N)) /\ w' = w) := by
 have hn := hs.len
 subst hn
 have hle := hs.le
 apply fi
 unfold cE
 refine ax (K := fun v w' => ∃ i : Int, v = .int .i64 i /\ (decide (i >= 0)) = (!xs.all (inR N)) /\ w' = w) ?_ ?_
 · apply gn
   unfold cP
   refine ⟨fun m i w' => ∃ j : Nat, j <= xs.length /\ i = (j : Int) /\ m = xs.length - j /\ (xs.take j).all (inR N) = true /\ w' = w, ⟨_, 0, by omega, rfl, rfl, rfl, rfl⟩, ?_⟩
   intro m i
   refine aE.of ?_ _
   rintro w' ⟨j, hj, rfl, rfl, hno, hw'⟩
   rw [hw']; clear hw'
   refine af.of (fun h => ?_) (fun h => ?_) <;> simp only [dTx, dFx] at h
   · have hlt : j < xs.length := by omega
     refine ⟨⟨⟨by omega, h⟩, hs.isSome hlt⟩, _, hs.num aI hlt, ?_⟩
     refine ax (vP xs[j] hk) ?_
     rintro _ w3 ⟨rfl, hw3⟩
     rw [hw3]
     refine ⟨_, rfl, af.of (fun h3 => ?_) (fun h3 => ?_)⟩
     · refine ⟨_, rfl, ?_, rfl⟩
       have : xs.all (inR N) = false := by
         rw [Bool.eq_false_iff]
         intro hc
         rw [List.all_eq_true.1 hc _ (List.getElem_mem hlt)] at h3; cases h3
       rw [this, decide_eq_true (by omega)]; rfl
     · refine ⟨xs.length - (j + 1), by omega, j + 1, by omega, by rw [ak (by omega) (by omega)]; omega, rfl, ?_, rfl⟩
       rw [List.take_succ_eq_append_getElem hlt, List.all_append, hno]
       simpa using h3
   · have : j = xs.length := by omega
     subst this
     rw [List.take_length] at hno
     exact ⟨_, rfl, by rw [hno]; decide, rfl⟩
 · rintro _ w3 ⟨i, rfl, hi, hw3⟩
   exact ⟨_, rfl, by rw [hi], hw3⟩
theorem vR (x : Int) {w : World} {k : Nat} {N : Int} (hk : am w k az [.int .i64 N]) : Calls prog cv #[.int .i64 x, .pointer (some ⟨k, 0, none⟩)] w (Ret fun v w' => v = .bool (!inR N x) /\ w' = w) := by
 apply vd
 unfold qA
 refine af.of (fun h => ⟨?_, rfl⟩) (fun h => ⟨N, Cd hk, ?_, rfl⟩) <;> simp only [dTx, dFx] at h
 · congr 1; unfold inR; rw [decide_eq_false (by omega)]; rfl
 · congr 1; unfold inR
   have h0 : (0 : Int) <= x := by omega
   by_cases h2 : x < N
   · have h3 : ¬ N <= x := by omega
     simp [h0, h2, h3]
   · have h3 : N <= x := by omega
     simp [h0, h2, h3]
theorem sk {w : World} {A : Bl} {a : Option Addr} {n c : Nat} {xs : List Int} (hs : Sl i7 w A a n c xs) {k : Nat} {N : Int} (hk : am w k az [.int .i64 N]) :
   Calls prog aN #[.slice a n c, .func (.func cv) #[] #[.pointer (some ⟨k, 0, none⟩)]] w (Ret fun v w' => v = .bool (!xs.all (inR N)) /\ w' = w) := by
 have hn := hs.len
 subst hn
 have hle := hs.le
 apply fj
 unfold cF
 refine ax (K := fun v w' => ∃ i : Int, v = .int .i64 i /\ (decide (i >= 0)) = (!xs.all (inR N)) /\ w' = w) ?_ ?_
 · apply gp
   unfold cQ
   refine ⟨fun m i w' => ∃ j : Nat, j <= xs.length /\ i = (j : Int) /\ m = xs.length - j /\ (xs.take j).all (inR N) = true /\ w' = w, ⟨_, 0, by omega, rfl, rfl, rfl, rfl⟩, ?_⟩
   intro m i
   refine aE.of ?_ _
   rintro w' ⟨j, hj, rfl, rfl, hno, hw'⟩
   rw [hw']; clear hw'
   refine af.of (fun h => ?_) (fun h => ?_) <;> simp only [dTx, dFx] at h
   · have hlt : j < xs.length := by omega
     refine ⟨⟨⟨by omega, h⟩, hs.isSome hlt⟩, _, hs.num aI hlt, ?_⟩
     refine ax (vR xs[j] hk) ?_
     rintro _ w3 ⟨rfl, hw3⟩
     rw [hw3]
     refine ⟨_, rfl, af.of (fun h3 => ?_) (fun h3 => ?_)⟩
     · refine ⟨_, rfl, ?_, rfl⟩
       have : xs.all (inR N) = false := by
         rw [Bool.eq_false_iff]
         intro hc
         rw [List.all_eq_true.1 hc _ (List.getElem_mem hlt)] at h3; cases h3
       rw [this, decide_eq_true (by omega)]; rfl
     · refine ⟨xs.length - (j + 1), by omega, j + 1, by omega, by rw [ak (by omega) (by omega)]; omega, rfl, ?_, rfl⟩
       rw [List.take_succ_eq_append_getElem hlt, List.all_append, hno]
       simpa using h3
   · have : j = xs.length := by omega
     subst this
     rw [List.take_length] at hno
     exact ⟨_, rfl, by rw [hno]; decide, rfl⟩
 · rintro _ w3 ⟨i, rfl, hi, hw3⟩
   exact ⟨_, rfl, by rw [hi], hw3⟩
theorem vi (x : Int) {w : World} : Calls prog bY #[.int .i64 x] w (Ret fun v w' => v = .bool (!inC x) /\ w' = w) := by
 apply uh
 unfold pm
 refine af.of (fun h => ⟨?_, rfl⟩) (fun h => ⟨?_, rfl⟩) <;> simp only [dTx, dFx] at h
 · congr 1; unfold inC; rw [decide_eq_false (by omega)]; rfl
 · congr 1; unfold inC
   have h0 : (1 : Int) <= x := by omega
   by_cases h2 : x <= 1048576
   · have h3 : ¬ 1048576 < x := by omega
     simp [h0, h2, h3]
   · have h3 : 1048576 < x := by omega
     simp [h0, h2, h3]
theorem rH {w : World} {A : Bl} {a : Option Addr} {n c : Nat} {xs : List Int} (hs : Sl i7 w A a n c xs) :
   Calls prog aN #[.slice a n c, .func (.func bY) #[] #[]] w (Ret fun v w' => v = .bool (!xs.all (inC)) /\ w' = w) := by
 have hn := hs.len
 subst hn
 have hle := hs.le
 apply fg
 unfold cq
 refine ax (K := fun v w' => ∃ i : Int, v = .int .i64 i /\ (decide (i >= 0)) = (!xs.all (inC)) /\ w' = w) ?_ ?_
 · apply gc
   unfold cI
   refine ⟨fun m i w' => ∃ j : Nat, j <= xs.length /\ i = (j : Int) /\ m = xs.length - j /\ (xs.take j).all (inC) = true /\ w' = w, ⟨_, 0, by omega, rfl, rfl, rfl, rfl⟩, ?_⟩
   intro m i
   refine aE.of ?_ _
   rintro w' ⟨j, hj, rfl, rfl, hno, hw'⟩
   rw [hw']; clear hw'
   refine af.of (fun h => ?_) (fun h => ?_) <;> simp only [dTx, dFx] at h
   · have hlt : j < xs.length := by omega
     refine ⟨⟨⟨by omega, h⟩, hs.isSome hlt⟩, _, hs.num aI hlt, ?_⟩
     refine ax (vi xs[j]) ?_
     rintro _ w3 ⟨rfl, hw3⟩
     rw [hw3]
     refine ⟨_, rfl, af.of (fun h3 => ?_) (fun h3 => ?_)⟩
     · refine ⟨_, rfl, ?_, rfl⟩
       have : xs.all (inC) = false := by
         rw [Bool.eq_false_iff]
         intro hc
         rw [List.all_eq_true.1 hc _ (List.getElem_mem hlt)] at h3; cases h3
       rw [this, decide_eq_true (by omega)]; rfl
     · refine ⟨xs.length - (j + 1), by omega, j + 1, by omega, by rw [ak (by omega) (by omega)]; omega, rfl, ?_, rfl⟩
       rw [List.take_succ_eq_append_getElem hlt, List.all_append, hno]
       simpa using h3
   · have : j = xs.length := by omega
     subst this
     rw [List.take_length] at hno
     exact ⟨_, rfl, by rw [hno]; decide, rfl⟩
 · rintro _ w3 ⟨i, rfl, hi, hw3⟩
   exact ⟨_, rfl, by rw [hi], hw3⟩
theorem Aa {w : World} {A : Bl} {a : Option Addr} {n c : Nat} {xs : List Int} (hs : Sl i7 w A a n c xs) : Calls prog pS #[.slice a n c] w (Ret fun v w' => v = .bool (xs.all inC) /\ w' = w) := by
 apply ya
 unfold tw
 refine ax (rH hs) ?_
 rintro _ w3 ⟨rfl, hw3⟩
 exact ⟨_, rfl, by rw [Bool.not_not], hw3⟩
theorem AM {xs : List Int} : xs.all inC = true ↔ qU xs := by
 rw [List.all_eq_true]
 unfold qU inC
 simp only [Bool.and_eq_true, dTx]
theorem pH {w : World} {a b : Option Addr} {n c m e : Nat} {d : DA} (h : DaS w a n c b m e d) :
   Calls prog lF #[daV a n c b m e d] w (Ret fun v w' => v = .bool (okD d) /\ Below w.heap.size w w') := by
 apply zV
 unfold uO
 intro k1 w1 hk1 hw1
 have hb1 := (hw1 ▸ ah w _ : Below w.heap.size w w1)
 have A1 : am w1 k1 aj [.int .i64 d.k, .int .i64 d.st, .slice a n c, .slice b m e] := am.new hk1 hw1
 refine ⟨rfl, b, m, e, A1.load1 bg rfl rfl, ?_⟩
 intro k3 w3 hk3 hw3
 have hb3 := (hw3 ▸ ah w1 _ : Below w1.heap.size w1 w3)
 obtain ⟨wx, hs, A3, g3⟩ := (am.new hk3 hw3 : am w3 k3 az [.int .i64 0]).put1 (P := prog) jA (v := .int .i64 ((m : Nat) : Int)) rfl rfl
 have k31 : k1 < k3 := by have := A1.lt; omega
 have hbx : Below w1.heap.size w1 wx := hb3.grown g3 hb3.size fun x ex => by cases ex; omega
 have B1 := A1.below hbx
 have hB : Below w.heap.size w wx := ab hb1 hbx hb1.size
 have hx := h.below hB
 clear A1 hb1 hw1 hb3 hw3 hbx g3
 have hm := hx.ac.len
 have hn := hx.nx.len
 have hml := hx.ac.le
 have l0 : (Instr.loadAt az (.pointer (some ⟨k1, 0, none⟩))).run prog wx = .ok (.int .i64 d.k) wx := B1.load1 aI rfl rfl
 have l1 : (Instr.loadAt az (.pointer (some ⟨k1, 1, none⟩))).run prog wx = .ok (.int .i64 d.st) wx := B1.load1 aI rfl rfl
 have l2 : (Instr.loadAt aA (.pointer (some ⟨k1, 2, none⟩))).run prog wx = .ok (.slice a n c) wx := B1.load1 bi rfl rfl
 have l3 := Cd A3
 have no : ∀ {P : Prop}, ¬ d.Ok -> Value.bool false = Value.bool (okD d) := fun {P} hno => by
   cases ho : okD d with
   | false => rfl
   | true => exact absurd (ff.1 ho) hno
 refine ⟨wx, hs, jK (fun w' => w' = wx /\ 1 <= d.k /\ d.k <= 512 /\ 1 <= m /\ m <= 65536 /\ (n : Int) = (m : Int) * d.k /\ 0 <= d.st /\ d.st < (m : Int)) ?_ ?_⟩
 · refine ⟨rfl, _, l0, af.of (fun h1 => ⟨no (P := True) fun o => ?_, hB⟩) (fun h1 => ?_)⟩ <;> simp only [dTx, dFx] at h1
   · have := o.k1; omega
   refine ⟨rfl, _, l0, af.of (fun h2 => ⟨no (P := True) fun o => ?_, hB⟩) (fun h2 => ?_)⟩ <;> simp only [dTx, dFx] at h2
   · have := o.k2; omega
   refine ⟨_, l3, af.of (fun h3 => ⟨no (P := True) fun o => ?_, hB⟩) (fun h3 => ?_)⟩ <;> simp only [dTx, dFx] at h3
   · have := o.n1; omega
   refine ⟨_, l3, af.of (fun h4 => ⟨no (P := True) fun o => ?_, hB⟩) (fun h4 => ?_)⟩ <;> simp only [dTx, dFx] at h4
   · have := o.n2; omega
   have hmul : 0 <= (m : Int) * d.k /\ (m : Int) * d.k <= 65536 * 512 := by
     refine ⟨Int.mul_nonneg (by omega) (by omega), ?_⟩
     exact Int.mul_le_mul (by omega) (by omega) (by omega) (by omega)
   have ew : i64.wrap (((m : Nat) : Int) * d.k) = (m : Int) * d.k := ak (by omega) (by omega)
   refine ⟨rfl, a, n, c, l2, _, l3, rfl, _, l0, ?_⟩
   rw [ew]
   refine af.of (fun h5 => ⟨no (P := True) fun o => ?_, hB⟩) (fun h5 => ?_)
   · have h5 : ((n : Nat) : Int) ≠ (m : Int) * d.k := by simpa using h5
     have := o.len
     rw [<- hn, <- hm] at this
     exact h5 this
   have h5 : ((n : Nat) : Int) = (m : Int) * d.k := by simpa using h5
   refine ⟨rfl, _, l1, af.of (fun h6 => ⟨no (P := True) fun o => ?_, hB⟩) (fun h6 => ?_)⟩ <;> simp only [dTx, dFx] at h6
   · have := o.s0; omega
   refine ⟨rfl, _, l1, _, l3, af.of (fun h7 => ⟨no (P := True) fun o => ?_, hB⟩) (fun h7 => ?_)⟩ <;> simp only [ge_iff_le, dTx, dFx] at h7
   · have := o.s1; omega
   exact ⟨rfl, by omega, by omega, by omega, by omega, h5, by omega, by omega⟩
 · rintro wj ⟨rfl, h1, h2, h3, h4, h5, h6, h7⟩
   refine ⟨rfl, a, n, c, l2, ?_⟩
   refine ax (sj hx.nx A3) ?_
   rintro _ w47 ⟨rfl, rfl⟩
   refine ⟨_, rfl, ?_, hB⟩
   rw [Bool.not_not]
   congr 1
   unfold okD
   rw [<- hm, <- hn, decide_eq_true h1, decide_eq_true h2, decide_eq_true h3, decide_eq_true h4, decide_eq_true h5, decide_eq_true h6, decide_eq_true h7]
   rfl
end Go.Proofs.YtpafoodmpjlkhaaGreatDoor
namespace Go.Pk
open Go.RowKit (Below)
theorem zI (z : Value) (n : Nat) : madeCells #[z] n = (List.replicate n z).toArray := by
 unfold madeCells
 apply Array.ext
 · simp
 · intro i h1 h2
   simp at h1 ⊢
   rw [Nat.mod_one]; rfl
theorem GE {α : Type} {e : α -> Value} {h1 : ∀ x, (e x).oneCell' = true} {p : α -> Prop} {P : Program} {s t : TypeId} {bytes : Nat} {z : Value} (hs : P.underlying s = some (.slice t)) (tf : TF P t 1 bytes z) {x0 : α} (hz : e x0 = z) (hz1 : z.cells = #[z]) (hp : p x0)
   (kl kc : IntKind) (n : Nat) (hb : bytes * n <= 281474976710656) (hn : n <= 9223372036854775807) (w : World) (A : Bl) :
   ∃ (w' : World) (a : Option Addr), (Instr.makeSlice s (.int kl (n : Int)) (.int kc (n : Int))).run P w = .ok (.slice a n n) w' /\ Ow (Ty.enc e h1 p) t w' A a n n (List.replicate n x0) /\ Below w.heap.size w w' /\ bD w.heap.size a := by
 obtain ⟨i, hi, hsz, hbt, hzz⟩ := tf.info
 subst hbt
 have hr := run_make_row (P := P) s t i z hs hi hzz hsz hz1 kl kc n hb hn w
 refine ⟨_, _, hr, ?_, ah w _, fZ rfl⟩
 have := Ow.newF (A := A) (t := t) (l := List.replicate n z) (xs := List.replicate n x0) (T := Ty.enc e h1 p) (w := w) (w' := w.alloc (.cells (List.replicate n z).toArray t)) (b := w.heap.size) (fun _ _ _ _ _ _ h => h) rfl rfl (by
   have := fv (e := e) (h1 := h1) (p := p) (w := w) (A := A) (xs := List.replicate n x0) (fun x hx => by rw [(List.mem_replicate.1 hx).2]; exact hp)
   rw [List.map_replicate, hz] at this
   exact this) (by simp; exact hn)
 rw [List.length_replicate] at this
 rw [zI]
 exact this
end Go.Pk
namespace Go.Pk
open Go.RowKit (Below)
theorem Ow.ofArr {w : World} {A : Bl} {g : Nat} {t : TypeId} {xs : List Int} (h : am w g t (xs.map fun x => Value.int .i64 x)) (hl : xs.length <= maxLen) : Ow i7 t w A (some ⟨g, 0, none⟩) xs.length xs.length xs := by
 refine ⟨rfl, Nat.le_refl _, hl, .inr ⟨g, _, (0, 0), rfl, h, fun i hi h2 => by omega, by simp [i7, IM, Ty.enc], ?_⟩⟩
 have e : (i7.k) = 1 := rfl
 rw [e, Nat.mul_one]
 have e2 : (xs.map fun x => Value.int .i64 x).toArray.toList.take xs.length = xs.map fun x => Value.int .i64 x := List.take_of_length_le (by simp)
 rw [e2]
 exact (fv (e := fun n => Value.int .i64 n) (h1 := fun _ => rfl) (p := fun _ => True) (fun x _ => trivial) : gw i7 w A (xs.map fun x => Value.int .i64 x) xs)
end Go.Pk
namespace Go.Proofs.YtpafoodmpjlkhaaGreatDoor
open Go.Pk
open Go.RowKit (Below)
theorem Ef (k : Nat) (hk : k <= 1000000) (w : World) : Calls prog lH #[.int .u64 (1 : Int), .int .u64 (k : Int)] w (Ret fun v w' => v = .tuple #[.int .u64 0, .int .u64 (k : Int)] /\ w' = w) := by
 apply ug
 unfold pk
 refine ax (K := fun v w' => v = .tuple #[.int .u64 0, .int .u64 (k : Int)] /\ w' = w) ?_ ?_
 · apply rX
   unfold mT
   have c1 : Int.fdiv (1 : Int) (2 ^ (min (Int.toNat (32 : Int)) (IntKind.bits .u64))) = 0 := by decide
   have c2 : Int.fdiv (k : Int) (2 ^ (min (Int.toNat (32 : Int)) (IntKind.bits .u64))) = 0 := by
     show Int.fdiv (k : Int) 4294967296 = 0
     rw [Int.fdiv_eq_ediv_of_nonneg _ (by omega)]
     omega
   have c0 : Int.fdiv (0 : Int) (2 ^ (min (Int.toNat (32 : Int)) (IntKind.bits .u64))) = 0 := by decide
   have w0 : IntKind.u64.wrap (0 : Int) = 0 := by decide
   have wk : IntKind.u64.wrap (k : Int) = (k : Int) := IntWalk.u64_in _ ⟨by omega, by omega⟩
   have m1 : (((BitVec.ofInt (IntKind.bits .u64) (1 : Int)) &&& (BitVec.ofInt (IntKind.bits .u64) (4294967295 : Int))).toNat : Nat) = 1 := by decide
   have m0 : (((BitVec.ofInt (IntKind.bits .u64) (0 : Int)) &&& (BitVec.ofInt (IntKind.bits .u64) (4294967295 : Int))).toNat : Nat) = 0 := by decide
   have mk : (((BitVec.ofInt (IntKind.bits .u64) (k : Int)) &&& (BitVec.ofInt (IntKind.bits .u64) (4294967295 : Int))).toNat : Nat) = k := by
     show (((BitVec.ofInt 64 (k : Int)) &&& (BitVec.ofInt 64 (4294967295 : Int))).toNat : Nat) = k
     have e1 : BitVec.ofInt 64 (k : Int) = BitVec.ofNat 64 k := by simp
     have e2 : BitVec.ofInt 64 (4294967295 : Int) = BitVec.ofNat 64 4294967295 := by decide
     rw [e1, e2, BitVec.toNat_and, BitVec.toNat_ofNat, BitVec.toNat_ofNat, Nat.mod_eq_of_lt (show k < 2 ^ 64 by omega), show (4294967295 % 2 ^ 64 : Nat) = 2 ^ 32 - 1 by decide, Nat.and_two_pow_sub_one_eq_mod]
     omega
   have w1 : IntKind.u64.wrap ((1 : Nat) : Int) = 1 := by decide
   have z0 : IntKind.u64.wrap ((0 : Nat) : Int) = 0 := by decide
   refine ⟨by decide, by decide, by decide, by decide, by decide, ?_, rfl⟩
   rw [c1, c2, m1, mk, w1, wk]
   simp only [Int.zero_mul, Int.mul_zero, Int.one_mul, Int.zero_add, Int.add_zero, w0, wk, c0, c2, m0, z0]
 · rintro _ w3 ⟨rfl, hw3⟩
   exact ⟨_, _, rfl, rfl, hw3⟩
def pn (v : Int) (i k : Nat) : List Int := List.replicate i v ++ List.replicate (k - i) 0
theorem E4 {v : Int} {i k : Nat} (h : i <= k) : (pn v i k).length = k := by simp [pn]; omega
theorem pV (v : Int) (i k : Nat) : ((pn v i k).map fun x => Value.int .i64 x) = List.replicate i (.int .i64 v) ++ List.replicate (k - i) (.int .i64 0) := by simp [pn]
theorem wO {w : World} {A : Bl} {a0 : Option Addr} {c0 : Nat} {v : Int} (hs : Sl i7 w A a0 1 c0 [v]) {k : Nat} (h1 : 1 <= k) (hk : k <= 1000000) :
   Calls prog cB #[.slice a0 1 c0, .int .i64 (k : Int)] w (Ret fun r w' => ∃ a' : Option Addr, r = .slice a' k k /\ Ow i7 az w' NoB a' k k (List.replicate k v) /\ bD w.heap.size a' /\ Below w.heap.size w w') := by
 apply nv
 unfold je
 refine jK (fun w' => w' = w) ?_ ?_
 · refine af.of (fun h => ?_) (fun _ => rfl)
   simp only [dTx] at h
   omega
 intro wj ej
 rw [ej]; clear ej wj
 have wk : IntKind.u64.wrap (k : Int) = (k : Int) := IntWalk.u64_in _ ⟨by omega, by omega⟩
 rw [show IntKind.u64.wrap (((1 : Nat) : Int)) = (1 : Int) by decide, wk]
 refine ax (Ef k hk w) ?_
 rintro _ w18 ⟨rfl, e18⟩
 rw [e18]; clear e18 w18
 refine ⟨_, _, rfl, jK (fun w' => w' = w) ⟨fun b w' => b = false /\ w' = w, ?_, fun b => aE.of ?_ _⟩ ?_⟩
 · refine af.of (fun h => ?_) (fun _ => ⟨?_, rfl⟩)
   · simp only [dTx] at h; omega
   · rw [decide_eq_false (by omega)]
 · rintro wj ⟨hb0, hw0⟩
   exact af.no hb0 hw0
 intro wj ej
 rw [ej]; clear ej wj
 rw [show i64.wrap (k : Int) = (k : Int) from ak (by omega) (by omega)]
 obtain ⟨ti, hti, hsz, hbt, hzz⟩ := jA.info
 have hr := run_make_row (P := prog) aA az ti (.int .i64 0) bi hti hzz hsz rfl .i64 .i64 k (by rw [hbt]; omega) (by omega) w
 rw [zI] at hr
 obtain ⟨w30, hw30⟩ : ∃ w30, w30 = w.alloc (.cells (List.replicate k (Value.int .i64 0)).toArray az) := ⟨_, rfl⟩
 obtain ⟨g, hg⟩ : ∃ g, g = w.heap.size := ⟨_, rfl⟩
 rw [<- hw30, <- hg] at hr
 have A30 : am w30 g az (List.replicate k (Value.int .i64 0)) := am.new hg hw30
 have hb30 : Below w.heap.size w w30 := hw30 ▸ ah w _
 refine ⟨w30, some ⟨g, 0, none⟩, k, k, hr, ?_⟩
 -- one copy: the first j cells' worth behind i
 have step : ∀ (W : World) (i j : Nat) (sa : Addr) (sl sc dc : Nat), am W g az ((pn v i k).map fun x => Value.int .i64 x) -> i <= k -> j = Nat.min sl (k - i) -> (∀ t, t < j -> W.cell? (sa.add t) = some (.int .i64 v)) ->
     ∃ W', (Builtin.copy_ #[aA, aA] az #[.slice (some ⟨g, i, none⟩) (k - i) dc, .slice (some sa) sl sc]).run prog W = .ok (.int .i64 ((j : Nat) : Int)) W' /\ am W' g az ((pn v (i + j) k).map fun x => Value.int .i64 x) /\ W.grownBy W' (some g) := by
   intro W i j sa sl sc dc hA hi hj hc
   have hjk : i + j <= k := by
     have : Nat.min sl (k - i) <= k - i := Nat.min_le_right _ _
     omega
   have hlen := congrArg List.length (pV v i k)
   have hrun := run_copy_row (P := prog) W aA aA az az g i (k - i) dc sa sl sc ((pn v i k).map fun x => Value.int .i64 x).toArray az (List.replicate j (Value.int .i64 v)) bi (by rw [hti]; simp [hsz]) hA (by rw [List.length_replicate]; exact hj)
     (fun t u hu => by
       have ht : t < j := by have := (List.getElem?_eq_some_iff.1 hu).1; simpa using this
       rw [List.getElem?_replicate, if_pos ht] at hu
       rw [<- Option.some.inj hu]; exact hc t ht)
     (by simp [E4 hi]; try omega) (fun u hu => by rw [(List.mem_replicate.1 hu).2]; rfl)
   refine ⟨_, by rw [hrun, List.length_replicate]; rfl, ?_, gN W g _⟩
   have hh := setRow_heap W g ((pn v i k).map fun x => Value.int .i64 x).toArray ((((pn v i k).map fun x => Value.int .i64 x).toArray.toList.take i ++ List.replicate j (Value.int .i64 v) ++ ((pn v i k).map fun x => Value.int .i64 x).toArray.toList.drop (i + (List.replicate j (Value.int .i64 v)).length)).toArray) az (0, 0) hA
   have e : (((pn v i k).map fun x => Value.int .i64 x).toArray.toList.take i ++ List.replicate j (Value.int .i64 v) ++ ((pn v i k).map fun x => Value.int .i64 x).toArray.toList.drop (i + (List.replicate j (Value.int .i64 v)).length)) = (pn v (i + j) k).map fun x => Value.int .i64 x := by
     simp only [List.length_replicate]
     rw [pV, pV, List.take_left' (by simp), List.drop_append, List.drop_of_length_le (by simp <;> omega), List.nil_append, List.length_replicate, List.drop_replicate, List.replicate_append_replicate]
     congr 2
     try omega
   rw [List.length_replicate] at hh e
   unfold am
   rw [<- e]
   exact hh
 -- the source of the first copy
 obtain ⟨b, off, rfl, hbl, _, l, hl, hcell⟩ := hs.2.2.2.resolve_left (by simp)
 have hl' : l = [Value.int .i64 v] := ee (h1 := fun _ => rfl) hl
 subst hl'
 have s0 := hcell 0 (by simp)
 have A30' : am w30 g az ((pn v 0 k).map fun x => Value.int .i64 x) := by rw [pV]; simpa using A30
 obtain ⟨w33, r33, A33, g33⟩ := step w30 0 1 ⟨b, off, none⟩ 1 c0 k A30' (Nat.zero_le _) (by show 1 = Nat.min 1 (k - 0); exact (Nat.min_eq_left (by omega)).symm) (fun t ht => by
   have : t = 0 := by omega
   subst this
   rw [vv, kp (hb30.block b hbl)]
   simpa using s0)
 rw [Nat.sub_zero] at r33
 refine ⟨w33, _, r33, ?_⟩
 have hg0 : w.heap.size <= g := by omega
 have hb33 : Below w.heap.size w w33 := Below.put hb30 g33 hg0
 refine ⟨fun m n w' => ∃ i : Nat, n = (i : Int) /\ 1 <= i /\ i <= k /\ m = k - i /\ am w' g az ((pn v i k).map fun x => Value.int .i64 x) /\ Below w.heap.size w w', ⟨_, 1, rfl, Nat.le_refl _, h1, rfl, A33, hb33⟩, ?_⟩
 intro m n
 refine aE.of ?_ _
 rintro wl ⟨i, rfl, hi1, hik, rfl, Al, hbl'⟩
 refine af.of (fun h => ?_) (fun h => ?_) <;> simp only [dTx, dFx] at h
 · refine ⟨⟨by omega, by omega⟩, ⟨by omega, by omega⟩, ?_⟩
   have Ad : am (World.drew wl) g az ((pn v i k).map fun x => Value.int .i64 x) := Al.below (gV wl)
   obtain ⟨w45, r45, A45, g45⟩ := step (World.drew wl) i (Nat.min i (k - i)) ⟨g, 0, none⟩ i k (k - i) Ad hik rfl (fun t ht => by
     have hti' : t < i := Nat.lt_of_lt_of_le ht (Nat.min_le_left _ _)
     rw [dp, Nat.zero_add, Ad.cell, pV, List.getElem?_append_left (by simpa using hti'), List.getElem?_replicate, if_pos hti'])
   have es : xh (some ⟨g, 0, none⟩) k i 1 = some ⟨g, i, none⟩ := by
     unfold xh
     rw [if_neg (by omega)]
     show some (Addr.add ⟨g, 0, none⟩ (i * 1)) = _
     rw [dp, Nat.mul_one, Nat.zero_add]
   rw [Int.toNat_natCast, es]
   have hmin : 1 <= Nat.min i (k - i) := by
     show 1 <= min i (k - i)
     omega
   have hmin2 : Nat.min i (k - i) <= k - i := Nat.min_le_right _ _
   refine ⟨w45, _, r45, k - (i + Nat.min i (k - i)), by omega, i + Nat.min i (k - i), ?_, by omega, by omega, rfl, A45, Below.put (hbl'.trans ((gV wl).mono hbl'.size)) g45 hg0⟩
   rw [ak (by omega) (by omega)]; omega
 · have : i = k := by omega
   subst this
   have e : (pn v i i) = List.replicate i v := by simp [pn]
   rw [e] at Al
   have ho := Ow.ofArr (A := NoB) Al (by rw [List.length_replicate]; show i <= 9223372036854775807; omega)
   rw [List.length_replicate] at ho
   exact ⟨_, rfl, ho, fun x hx => by simp [bE] at hx; omega, hbl'⟩
end Go.Proofs.YtpafoodmpjlkhaaGreatDoor
namespace Go.Pk
open Go.RowKit (Below)
structure Ey (tm ti tb : TypeId) (w : World) (km : Nat) (a : Option Addr) (n c : Nat) (b : Option Addr) (m e : Nat) (d : DA) : Prop where
 var : am w km tm [.int .i64 d.k, .int .i64 d.st, .slice a n c, .slice b m e]
 nx : Ow i7 ti w NoB a n c d.nx
 ac : Ow ul tb w NoB b m e d.ac
 na : ∀ g, bE a = some g -> g ≠ km
 nb : ∀ g, bE b = some g -> g ≠ km
 ne : ∀ g, bE a = some g -> bE b ≠ some g
theorem Ey.below {tm ti tb : TypeId} {w w' : World} {km : Nat} {a b : Option Addr} {n c m e : Nat} {d : DA} (h : Ey tm ti tb w km a n c b m e d) (hb : Below w.heap.size w w') : Ey tm ti tb w' km a n c b m e d := ⟨h.var.below hb, h.nx.below hb, h.ac.below hb, h.na, h.nb, h.ne⟩
def kV (km : Nat) (a b : Option Addr) : List Nat := km :: ((bE a).toList ++ (bE b).toList)
theorem cL {km x : Nat} {a b : Option Addr} : x ∈ kV km a b ↔ x = km \/ bE a = some x \/ bE b = some x := by simp [kV]
def om (w : World) (a a' : Option Addr) : Prop := ∀ g, bE a' = some g -> bE a = some g \/ w.heap.size <= g
theorem Ow.other {α : Type} {T : Ty α} {t : TypeId} {w w' : World} {a b : Option Addr} {n c : Nat} {xs : List α} (h : Ow T t w NoB a n c xs) (hg : w.grownBy w' (bE b)) (hne : ∀ g, bE a = some g -> bE b ≠ some g) : Ow T t w' NoB a n c xs :=
 h.keep (hX hg fun k hk e => by
   rcases hk with hk | hk
   · exact hk
   · exact hne k hk.symm e.symm)
end Go.Pk
namespace Go.Proofs.YtpafoodmpjlkhaaGreatDoor
open Go.Pk
open Go.RowKit (Below)
abbrev Mk := Ey jT az eV
theorem GH (k : Nat) : (Option.map (fun x => x.add 0) (some (⟨k, 0, none⟩ : Addr))) = some ⟨k, 0, none⟩ := by simp [Addr.add]
theorem HU (k o : Nat) : (Option.map (fun x => x.add o) (some (⟨k, 0, none⟩ : Addr))) = some ⟨k, o, none⟩ := by
 simp only [Option.map_some, dp, Nat.zero_add]
theorem vn {w : World} {km : Nat} {a b : Option Addr} {n c m e : Nat} {d : DA} (h : Mk w km a n c b m e d) (hk1 : 1 <= d.k) (hk2 : d.k <= 512) (hm : d.ac.length <= 200000) (hnx : d.nx.length <= 200000 * 512) (acc : Bool) (t : Int) :
   Calls prog cK #[.pointer (some ⟨km, 0, none⟩), .bool acc, .int .i64 t] w
     (Ret fun v w' => v = .int .i64 ((d.ac.length : Nat) : Int) /\ ∃ a' n' c' b' m' e', Mk w' km a' n' c' b' m' e' ⟨d.k, d.st, d.nx ++ List.replicate d.K t, d.ac ++ [acc]⟩ /\ Chg (kV km a b) w w' /\ om w a a' /\ om w b b') := by
 apply rU
 unfold mQ
 have hlt := h.var.lt
 have hml := h.ac.len
 have hnl := h.nx.len
 simp only [GH, HU]
 refine ⟨rfl, rfl, rfl, b, m, e, h.var.load1 bg rfl rfl, ?_⟩
 intro k14 w14 hk14 hw14
 have hb14 := (hw14 ▸ ah w _ : Below w.heap.size w w14)
 have H14 := h.below hb14
 have hsrc : Src ul w14 NoB (some ⟨k14, 0, none⟩) 1 [acc] := Src.new1F wg hk14 hw14 zT
 obtain ⟨w15, b1, m1, e1, r15, o15, g15, f15⟩ := cJ (ty := aS) bg uo (by decide) H14.ac (fun _ _ h => h) (cm := 1) hsrc (by simp; omega)
 have hs14 := hb14.size
 have v15 := H14.var.grown g15 fun ex => h.nb km ex.symm rfl
 have x15 := H14.nx.other g15 h.ne
 have hne1 : ∀ g, bE b1 = some g -> g ≠ km := fun g hg ex => by
   rcases f15 g hg with h1 | h1
   · exact h.nb g h1 ex
   · omega
 obtain ⟨wx, sx, vx, gx⟩ := v15.store yN (i := 3) (v := .slice b1 m1 e1) rfl (by simp) (by intro c hc; simp [Value.cells] at hc; subst hc; rfl)
 have vx : am wx km jT [.int .i64 d.k, .int .i64 d.st, .slice a n c, .slice b1 m1 e1] := vx
 have xx := x15.put (fun g hg ex => h.na g hg ex) gx
 have ox := o15.put (fun g hg ex => hne1 g hg ex) gx
 have cx : Chg (kV km a b) w wx := by
   have c1 : Chg (kV km a b) w w14 := Chg.of hb14
   have c2 : Chg (kV km a b) w14 w15 := (Chg.row g15).mono fun k hk => cL.2 (.inr (.inr (by simpa using hk)))
   exact (c1.trans c2).trans (Chg.grown gx (cL.2 (.inl rfl)))
 have hsx := cx.size
 have hne15 : ∀ g, bE a = some g -> bE b1 ≠ some g := fun g hg ex => by
   rcases f15 g ex with h1 | h1
   · exact h.ne g hg h1
   · have := h.nx.lt g hg; omega
 refine ⟨w15, b1, m1, e1, r15, rfl, rfl, rfl, wx, sx, rfl, rfl, rfl, rfl, rfl, rfl, a, n, c, fun u hu => (vx.below hu).load1 bi rfl rfl, d.k, fun u hu => (vx.below hu).load1 aI rfl rfl, fun k26 hk26 => ?_⟩
 have hKk : (d.K : Int) = d.k := by show ((d.k.toNat : Nat) : Int) = d.k; omega
 have hK1 : 1 <= d.K /\ d.K <= 512 := by show 1 <= d.k.toNat /\ d.k.toNat <= 512; omega
 refine ⟨fun aa ll cc W => ∃ a' : Option Addr, aa = a' /\ ll = d.K /\ cc = d.K /\ Sl i7 W (fun g => wx.heap.size <= g) aa ll cc (List.replicate d.K t), ?_, ?_, ?_⟩
 · rintro aa ll cc x y ⟨a', rfl, rfl, rfl, hs⟩ hb
   exact ⟨_, rfl, rfl, rfl, hs.below hb⟩
 · intro u32 hu hcell
   have hsl : Sl i7 u32 gT (some ⟨k26, 0, none⟩) 1 1 [t] := by
     refine ⟨rfl, Nat.le_refl _, by decide, .inr ⟨k26, 0, rfl, (Array.getElem?_eq_some_iff.1 hcell).1, trivial, [.int .i64 t], gw.one iY, fun j hj => ?_⟩⟩
     rw [eQ hcell, Nat.zero_add]; simp
   rw [<- hKk]
   refine (wO hsl hK1.1 (by omega)).mono ?_
   rintro _ w32 ⟨_, rfl, a', rfl, ho, hf, hb⟩
   refine ⟨a', d.K, d.K, rfl, ⟨a', rfl, rfl, rfl, ho.sl (fun b _ hb => hb.elim) fun g hg => ?_⟩, hb⟩
   have := hf g hg
   have := hu.size
   omega
 rintro aa ll cc wq hq ⟨a', rfl, rfl, rfl, hs⟩ hcell
 have vq := vx.below hq
 have xq := xx.below hq
 have oq := ox.below hq
 obtain ⟨w33, a3, n3, c3, r33, o33, g33, f33⟩ := cJ (ty := aA) bi jA (by decide) xq (fun _ _ h => h) (cm := d.K) (hs.flat jr) (by simp; omega)
 have v33 := vq.grown g33 fun ex => h.na km ex.symm rfl
 have hqs := hq.size
 have hne3 : ∀ g, bE a3 = some g -> g ≠ km := fun g hg ex => by
   rcases f33 g hg with h1 | h1
   · exact h.na g h1 ex
   · omega
 have o33b := oq.other g33 fun g hg ex => hne15 g ex hg
 obtain ⟨w5, s5, v5, g5⟩ := v33.store xk (i := 2) (v := .slice a3 n3 c3) rfl (by simp) (by intro c hc; simp [Value.cells] at hc; subst hc; rfl)
 have v5 : am w5 km jT [.int .i64 d.k, .int .i64 d.st, .slice a3 n3 c3, .slice b1 m1 e1] := v5
 refine ⟨w33, a3, n3, c3, r33, rfl, rfl, rfl, w5, s5, rfl, rfl, rfl, b1, m1, e1, v5.load1 bg rfl rfl, ?_, a3, n3, c3, b1, m1, e1, ⟨v5, o33.put (fun g hg ex => hne3 g hg ex) g5, o33b.put (fun g hg ex => hne1 g hg ex) g5, hne3, hne1, fun g hg ex => ?_⟩, ?_, fun g hg => ?_, fun g hg => ?_⟩
 · have := o15.len
   rw [this, List.length_append, List.length_singleton, ak (by omega) (by omega)]
   congr 1; omega
 · rcases f33 g hg with h1 | h1
   · exact hne15 g h1 ex
   · have := ox.lt g ex; omega
 · have c2 : Chg (kV km a b) wx wq := Chg.of hq
   have c3' : Chg (kV km a b) wq w33 := (Chg.row g33).mono fun k hk => cL.2 (.inr (.inl (by simpa using hk)))
   exact ((cx.trans c2).trans c3').trans (Chg.grown g5 (cL.2 (.inl rfl)))
 · rcases f33 g hg with h1 | h1
   · exact .inl h1
   · exact .inr (by omega)
 · rcases f15 g hg with h1 | h1
   · exact .inl h1
   · exact .inr (by omega)
structure Ai (B : Nat) (w : World) (a : Option Addr) (n c : Nat) (b : Option Addr) (m e : Nat) (d : DA) : Prop where
 nx : Ow i7 az w NoB a n c d.nx
 ac : Ow ul eV w NoB b m e d.ac
 ne : ∀ g, bE a = some g -> bE b ≠ some g
 fa : bD B a
 fb : bD B b
theorem Ai.das {B : Nat} {w : World} {a b : Option Addr} {n c m e : Nat} {d : DA} (h : Ai B w a n c b m e d) : DaS w a n c b m e d := ⟨h.nx.all, h.ac.all⟩
theorem Ai.below {B : Nat} {w w' : World} {a b : Option Addr} {n c m e : Nat} {d : DA} (h : Ai B w a n c b m e d) (hb : Below w.heap.size w w') : Ai B w' a n c b m e d := ⟨h.nx.below hb, h.ac.below hb, h.ne, h.fa, h.fb⟩
theorem Ai.mono {B B' : Nat} {w : World} {a b : Option Addr} {n c m e : Nat} {d : DA} (h : Ai B w a n c b m e d) (hB : B' <= B) : Ai B' w a n c b m e d := ⟨h.nx, h.ac, h.ne, h.fa.mono hB, h.fb.mono hB⟩
def xD (w : World) (d : DA) (v : Value) (w' : World) : Prop := ∃ (a : Option Addr) (n c : Nat) (b : Option Addr) (m e : Nat), v = .tuple #[daV a n c b m e d, .int .i64 0] /\ Ai w.heap.size w' a n c b m e d /\ Below w.heap.size w w'
theorem om.fresh {B : Nat} {w : World} {a a' : Option Addr} (h : om w a a') (hf : bD B a) (hB : B <= w.heap.size) : bD B a' := fun g hg => by
 rcases h g hg with h1 | h1
 · exact hf g h1
 · omega
def chS (k : Nat) (wn : List Nat) (i : Nat) : DA := ⟨(k : Int), 1, oK k 0 ++ fV k (wn.take i) 1, List.replicate (i + 1) false⟩
theorem HA (k : Nat) (wn : List Nat) {i : Nat} (hi : i <= wn.length) : (chS k wn i).nx.length = (i + 1) * k := by
 show (oK k 0 ++ fV k (wn.take i) 1).length = _
 rw [List.length_append, nC, List.length_take, Nat.min_eq_left hi, oK, List.length_replicate, Nat.succ_mul]; omega
theorem Da {w : World} {A : Bl} {a : Option Addr} {n c : Nat} {k : Nat} {wn : List Nat} (hs : Sl i7 w A a n c (wn.map fun (x : Nat) => (x : Int))) (hk1 : 1 <= k) (hk2 : k <= 512) (hw : ∀ x ∈ wn, x < k) (hl : wn.length <= 65534) (stays : Bool) :
   Calls prog oy #[.int .i64 (k : Int), .slice a n c, .bool stays] w (Ret (xD w (chD k wn (if stays = true then ((wn.length + 1 : Nat) : Int) else 0)))) := by
 apply zW
 unfold uQ
 have hn := hs.len
 rw [List.length_map] at hn
 subst hn
 intro k3 w3 hk3 hw3 k6 w6 hk6 hw6
 have A3' : am w3 k3 az [.int .i64 (k : Int)] := am.new hk3 hw3
 have hb3 := (hw3 ▸ ah w _ : Below w.heap.size w w3)
 have hb6 := (hw6 ▸ ah w3 _ : Below w3.heap.size w3 w6)
 have A3 := A3'.below hb6
 have A6 : am w6 k6 aj [.int .i64 0, .int .i64 0, .slice none 0 0, .slice none 0 0] := am.new hk6 hw6
 have hB := ab hb3 hb6 hb3.size
 have hk36 : k3 < k6 := by have := A3'.lt; omega
 have hk0 : w.heap.size <= k3 := by omega
 have hs6 := hs.below hB
 clear A3' hb3 hw3 hb6 hw6
 have hall : ((wn.map fun (x : Nat) => (x : Int)).all (inR (k : Int))) = true := by
   rw [List.all_eq_true]
   intro y hy
   obtain ⟨x, hx, rfl⟩ := List.mem_map.1 hy
   have := hw x hx
   unfold inR
   rw [decide_eq_true (by omega), decide_eq_true (by omega)]; rfl
 refine jK (fun w' => w' = w6) ⟨fun b w' => b = false /\ w' = w6, ?_, fun b => aE.of ?_ _⟩ ?_
 · refine ⟨_, Cd A3, af.no (decide_eq_false (by omega)) ⟨_, Cd A3, af.no (decide_eq_false (by omega)) ?_⟩⟩
   refine ax (sk hs6 A3) ?_
   rintro _ w23 ⟨rfl, e23⟩
   exact ⟨_, rfl, by rw [hall]; rfl, e23⟩
 · rintro wj ⟨e1, e2⟩
   exact af.no e1 e2
 intro wj ej
 rw [ej]; clear ej wj
 refine af.no (decide_eq_false (by omega)) ⟨_, Cd A3, ?_⟩
 intro k33 w33 hk33 hw33
 have hb33 := (hw33 ▸ ah w6 _ : Below w6.heap.size w6 w33)
 have hlt6 := A6.lt
 have M0 : Mk w33 k33 none 0 0 none 0 0 ⟨(k : Int), 1, [], []⟩ := ⟨am.new hk33 hw33, Ow.nil _ _ _ _, Ow.nil _ _ _ _, (fun g hg => by cases hg), (fun g hg => by cases hg), fun g hg => by cases hg⟩
 have hK : (⟨(k : Int), 1, [], []⟩ : DA).K = k := by show ((k : Int)).toNat = k; omega
 refine ax (vn M0 (by show (1 : Int) <= (k : Int); omega) (by show (k : Int) <= 512; omega) (by simp) (by simp) false 0) ?_
 rintro _ w35 ⟨rfl, a1, n1, c1, b1, m1, e1, M1, g1, f1, f2⟩
 refine ⟨_, rfl, ?_⟩
 have hs33 : w33.heap.size = k33 + 1 := by rw [hk33, hw33]; simp
 have none35 : ∀ x ∈ kV k33 none none, x = k33 := fun x hx => by
   rcases cL.1 hx with h | h | h
   · exact h
   · cases h
   · cases h
 have A3b := g1.arr (A3.below hb33) (fun hm => by have := none35 _ hm; omega)
 have A6b := g1.arr (A6.below hb33) (fun hm => by have := none35 _ hm; omega)
 have hB33 := ab hB hb33 hB.size
 have hB35 : Below w.heap.size w w35 := hB33.trans (g1.below hB33.size fun x hx => by have := none35 _ hx; omega)
 have st0 : (⟨(k : Int), 1, [] ++ List.replicate (⟨(k : Int), 1, [], []⟩ : DA).K 0, [] ++ [false]⟩ : DA) = chS k wn 0 := by rw [hK]; simp [chS, oK, fV]
 rw [st0] at M1
 refine ⟨fun m i wl => ∃ (j : Nat) (a : Option Addr) (n c : Nat) (b : Option Addr) (m' e : Nat), i = (j : Int) /\ j <= wn.length /\ m = wn.length - j /\ Mk wl k33 a n c b m' e (chS k wn j) /\ am wl k3 az [.int .i64 (k : Int)] /\ am wl k6 aj [.int .i64 0, .int .i64 0, .slice none 0 0, .slice none 0 0] /\ bD (k33 + 1) a /\ bD (k33 + 1) b /\ Below w.heap.size w wl,
   ⟨_, 0, a1, n1, c1, b1, m1, e1, rfl, Nat.zero_le _, rfl, M1, A3b, A6b, om.fresh f1 (bD.none _) (by omega), om.fresh f2 (bD.none _) (by omega), hB35⟩, ?_⟩
 clear M1 A3b A6b hB35 f1 f2 g1 M0
 intro m i
 refine aE.of ?_ _
 rintro wl ⟨j, a1, n1, c1, b1, m1, e1, rfl, hj, rfl, M, A3l, A6l, fa, fb, hBl⟩
 have hsl := hs.below hBl
 have hKj : (chS k wn j).K = k := by show ((k : Int)).toNat = k; omega
 have hacl : (chS k wn j).ac.length = j + 1 := by simp [chS]
 have hnxl := HA k wn hj
 have hjk : (j + 1) * k <= 65535 * 512 := Nat.mul_le_mul (by omega) hk2
 have stl := fun (acc : Bool) (t : Int) => vn M (by show (1 : Int) <= (k : Int); omega) (by show (k : Int) <= 512; omega) (by omega) (by omega) acc t
 have hMlt := M.var.lt
 have blk : ∀ x ∈ kV k33 a1 b1, k33 <= x := fun x hx => by
   rcases cL.1 hx with h | h | h
   · omega
   · have := fa x h; omega
   · have := fb x h; omega
 refine af.of (fun h => ?_) (fun h => ?_) <;> simp only [dTx, dFx] at h
 · have hlt : j < wn.length := by omega
   have hlt' : j < (wn.map fun (x : Nat) => (x : Int)).length := by simpa using hlt
   refine ⟨⟨⟨by omega, h⟩, hsl.isSome hlt'⟩, _, hsl.num aI hlt', ?_⟩
   rw [List.getElem_map]
   refine ax (stl false 0) ?_
   rintro _ w43 ⟨rfl, a2, n2, c2, b2, m2, e2, M2, g2, f1, f2⟩
   rw [hacl]
   have A3b := g2.arr A3l (fun hm => by have := blk _ hm; omega)
   have A6b := g2.arr A6l (fun hm => by have := blk _ hm; omega)
   have hxk : wn[j] < k := hw _ (List.getElem_mem hlt)
   have e1' : i64.wrap (((j + 1 : Nat) : Int) * (k : Int)) = (((j + 1) * k : Nat) : Int) := by
     rw [show ((j + 1 : Nat) : Int) * (k : Int) = (((j + 1) * k : Nat) : Int) from (Int.natCast_mul _ _).symm]
     exact ak (by omega) (by omega)
   have e2' : i64.wrap ((((j + 1) * k : Nat) : Int) + ((wn[j] : Nat) : Int)) = (((j + 1) * k + wn[j] : Nat) : Int) := by
     rw [ak (by omega) (by omega)]; omega
   have e3' : i64.wrap (((j + 1 : Nat) : Int) + 1) = ((1 + j + 1 : Nat) : Int) := by
     rw [ak (by omega) (by omega)]; omega
   have hn2 := M2.nx.len
   have hl2 : ((chS k wn j).nx ++ List.replicate (chS k wn j).K 0).length = (j + 1) * k + k := by rw [List.length_append, hnxl, List.length_replicate, hKj]
   have hn2' : n2 = (j + 1) * k + k := hn2.trans hl2
   have hidx : (j + 1) * k + wn[j] < ((chS k wn j).nx ++ List.replicate (chS k wn j).K 0).length := by omega
   refine ⟨_, rfl, rfl, rfl, rfl, a2, n2, c2, fun u hu => (M2.var.below hu).load1 bi rfl rfl, (k : Int), fun u hu => Cd (A3b.below hu), ?_⟩
   rw [e1', e2', e3']
   refine ⟨⟨⟨by omega, by omega⟩, M2.nx.all.isSome hidx⟩, fun wq hq => ?_⟩
   have M2q := M2.below hq
   obtain ⟨wx, sx, ox, gx⟩ := M2q.nx.store jA (fun _ _ h => h) (i := (((j + 1) * k + wn[j] : Nat) : Int)) (by rw [Int.toNat_natCast]; exact hidx) (k := 1) rfl (v := .int .i64 ((1 + j + 1 : Nat) : Int)) (x := ((1 + j + 1 : Nat) : Int)) iY
   rw [Int.toNat_natCast] at ox
   have enx : ((chS k wn j).nx ++ List.replicate (chS k wn j).K 0).set ((j + 1) * k + wn[j]) ((1 + j + 1 : Nat) : Int) = (chS k wn (j + 1)).nx := by
     rw [List.set_append_right _ _ (by omega), hnxl, show (j + 1) * k + wn[j] - (j + 1) * k = wn[j] by omega, hKj]
     show (oK k 0 ++ fV k (wn.take j) 1) ++ _ = oK k 0 ++ fV k (wn.take (j + 1)) 1
     rw [List.take_succ_eq_append_getElem hlt, vD, List.append_assoc, List.length_take, Nat.min_eq_left (by omega)]
     rfl
   have hgx : Chg (kV k33 a2 b2) w43 wx := (Chg.of hq).trans ((Chg.row gx).mono fun x hx => cL.2 (.inr (.inl (by simpa using hx))))
   have fa2 := om.fresh f1 fa (by omega)
   have fb2 := om.fresh f2 fb (by omega)
   have blk2 : ∀ x ∈ kV k33 a2 b2, k33 <= x := fun x hx => by
     rcases cL.1 hx with h | h | h
     · omega
     · have := fa2 x h; omega
     · have := fb2 x h; omega
   have hB43 : Below w.heap.size w w43 := hBl.trans (g2.below hBl.size fun x hx => by have := blk x hx; omega)
   refine ⟨wx, sx, wn.length - (j + 1), by omega, j + 1, a2, n2, c2, b2, m2, e2, by rw [ak (by omega) (by omega)]; omega, hlt, rfl, ⟨?_, ?_, ?_, M2.na, M2.nb, M2.ne⟩, hgx.arr A3b (fun hm => by have := blk2 _ hm; omega), hgx.arr A6b (fun hm => by have := blk2 _ hm; omega), fa2, fb2, hB43.trans (hgx.below hB43.size fun x hx => by have := blk2 x hx; omega)⟩
   · exact M2q.var.grown gx fun ex => M2.na k33 ex.symm rfl
   · rw [<- enx]; exact ox
   · have := M2q.ac.other gx fun g hg ex => M2.ne g ex hg
     have eac : (chS k wn j).ac ++ [false] = (chS k wn (j + 1)).ac := by
       show List.replicate (j + 1) false ++ [false] = List.replicate (j + 1 + 1) false
       rw [<- List.replicate_succ']
     rw [<- eac]; exact this
 · have : j = wn.length := by omega
   subst this
   refine ⟨rfl, rfl, rfl, b1, m1, e1, M.var.load1 bg rfl rfl, ?_⟩
   have hm1 := M.ac.len
   refine ⟨fun i w' => i = (if stays = true then ((wn.length + 1 : Nat) : Int) else 0) /\ w' = wl, ?_, fun t => aE.of ?_ _⟩
   · refine af.of (fun hst => ⟨?_, rfl⟩) (fun hst => ⟨?_, rfl⟩)
     · rw [if_pos hst, hm1, hacl]
     · rw [if_neg (by rw [hst]; simp)]
   rintro wj ⟨rfl, rfl⟩
   refine ax (stl true _) ?_
   rintro _ w68 ⟨rfl, a2, n2, c2, b2, m2, e2, M2, g2, f1, f2⟩
   have A6b := g2.arr A6l (fun hm => by have := blk _ hm; omega)
   have fa2 := om.fresh f1 fa (by omega)
   have fb2 := om.fresh f2 fb (by omega)
   have hB68 : Below w.heap.size w w68 := hBl.trans (g2.below hBl.size fun x hx => by have := blk x hx; omega)
   have ld := bs.load0 (cs := [.int .i64 (k : Int), .int .i64 1, .slice a2 n2 c2, .slice b2 m2 e2]) M2.var rfl
   obtain ⟨wx, sx, v6, g6⟩ := bs.store0 (P := prog) (cs := [.int .i64 (k : Int), .int .i64 1, .slice a2 n2 c2, .slice b2 m2 e2]) rfl (bS rfl (bS rfl (bS rfl (bS rfl nf)))) A6b rfl
   have ld6 := am.res (bs.load0 (cs := [.int .i64 (k : Int), .int .i64 1, .slice a2 n2 c2, .slice b2 m2 e2]) v6 rfl)
   refine ⟨_, rfl, rfl, rfl, _, _, a2, n2, c2, b2, m2, e2, ld, wx, sx, _, _, a2, n2, c2, b2, m2, e2, ld6, a2, n2, c2, b2, m2, e2, rfl, ⟨?_, ?_, M2.ne, fa2.mono (by omega), fb2.mono (by omega)⟩, Below.put hB68 g6 (by omega)⟩
   · have := M2.nx.put (fun g hg ex => by have := fa2 g hg; omega) g6
     have enx : ∀ t : Int, (chS k wn wn.length).nx ++ List.replicate (chS k wn wn.length).K t = Cc k wn t := fun t => by
       rw [hKj]
       show (oK k 0 ++ fV k (wn.take wn.length) 1) ++ _ = _
       rw [List.take_length, List.append_assoc]; rfl
     simp only [enx] at this
     exact this
   · exact M2.ac.put (fun g hg ex => by have := fb2 g hg; omega) g6
end Go.Proofs.YtpafoodmpjlkhaaGreatDoor
namespace Go.Proofs.YtpafoodmpjlkhaaGreatDoor
open Go.Pk
open Go.RowKit (Below)
def daL (a : Option Addr) (n c : Nat) (b : Option Addr) (m e : Nat) (d : DA) : List Value := [.int .i64 d.k, .int .i64 d.st, .slice a n c, .slice b m e]
theorem kJ (a : Option Addr) (n c : Nat) (b : Option Addr) (m e : Nat) (d : DA) : BQ (daL a n c b m e d) := bS rfl (bS rfl (bS rfl (bS rfl nf)))
theorem fT {w : World} {k : Nat} {vs : List Value} (h : am w k aj vs) (hv : vs.length = 4) (a : Option Addr) (n c : Nat) (b : Option Addr) (m e : Nat) (d : DA) :
   ∃ wx, (Instr.storeAt aj (.pointer (some ⟨k, 0, none⟩)) (daV a n c b m e d)).run prog w = .ok () wx /\ (bm aj (.pointer (some ⟨k, 0, none⟩))).run prog wx = .ok (daV a n c b m e d) wx /\ w.grownBy wx (some k) := by
 obtain ⟨wx, sx, v6, g6⟩ := bs.store0 (P := prog) (cs := daL a n c b m e d) rfl (kJ _ _ _ _ _ _ _) h hv
 exact ⟨wx, sx, am.res (bs.load0 (cs := daL a n c b m e d) v6 rfl), g6⟩
theorem Ai.put {B : Nat} {w w' : World} {a b : Option Addr} {n c m e k : Nat} {d : DA} (h : Ai B w a n c b m e d) (hg : w.grownBy w' (some k)) (hk : k < B) : Ai B w' a n c b m e d :=
 ⟨h.nx.put (fun g hg' ex => by have := h.fa g hg'; omega) hg, h.ac.put (fun g hg' ex => by have := h.fb g hg'; omega) hg, h.ne, h.fa, h.fb⟩
theorem vQ {w : World} {A : Bl} {a : Option Addr} {n c : Nat} {k : Nat} {wn : List Nat} (hs : Sl i7 w A a n c (wn.map fun (x : Nat) => (x : Int))) (hk1 : 1 <= k) (hk2 : k <= 512) (hw : ∀ x ∈ wn, x < k) (hl : wn.length <= 65534) :
   Calls prog qL #[.int .i64 (k : Int), .slice a n c] w (Ret (xD w (chD k wn 0))) := by
 apply Bv
 unfold xw
 intro k4 w4 hk4 hw4
 have hb4 := (hw4 ▸ ah w _ : Below w.heap.size w w4)
 have A4 : am w4 k4 aj [.int .i64 0, .int .i64 0, .slice none 0 0, .slice none 0 0] := am.new hk4 hw4
 refine ax (Da (hs.below hb4) hk1 hk2 hw hl false) ?_
 rintro _ w8 ⟨a1, n1, c1, b1, m1, e1, rfl, O, hb8⟩
 have hlt := A4.lt
 obtain ⟨wx, s1, s2, g1⟩ := fT (A4.below hb8) rfl a1 n1 c1 b1 m1 e1 (chD k wn 0)
 have hB := ab hb4 hb8 hb4.size
 exact ⟨_, _, a1, n1, c1, b1, m1, e1, _, rfl, wx, s1, _, _, a1, n1, c1, b1, m1, e1, s2, a1, n1, c1, b1, m1, e1, rfl, (O.put g1 hlt).mono hb4.size, Below.put hB g1 (by omega)⟩
theorem zg {w : World} {A : Bl} {a : Option Addr} {n c : Nat} {k : Nat} {wn : List Nat} (hs : Sl i7 w A a n c (wn.map fun (x : Nat) => (x : Int))) (hk1 : 1 <= k) (hk2 : k <= 512) (hw : ∀ x ∈ wn, x < k) (hl : wn.length <= 65534) :
   Calls prog pM #[.int .i64 (k : Int), .slice a n c] w (Ret (xD w (chD k wn ((wn.length + 1 : Nat) : Int)))) := by
 apply xS
 unfold tj
 intro k4 w4 hk4 hw4
 have hb4 := (hw4 ▸ ah w _ : Below w.heap.size w w4)
 have A4 : am w4 k4 aj [.int .i64 0, .int .i64 0, .slice none 0 0, .slice none 0 0] := am.new hk4 hw4
 refine ax (Da (hs.below hb4) hk1 hk2 hw hl true) ?_
 rintro _ w8 ⟨a1, n1, c1, b1, m1, e1, rfl, O, hb8⟩
 have hlt := A4.lt
 obtain ⟨wx, s1, s2, g1⟩ := fT (A4.below hb8) rfl a1 n1 c1 b1 m1 e1 (chD k wn ((wn.length + 1 : Nat) : Int))
 have hB := ab hb4 hb8 hb4.size
 exact ⟨_, _, a1, n1, c1, b1, m1, e1, _, rfl, wx, s1, _, _, a1, n1, c1, b1, m1, e1, s2, a1, n1, c1, b1, m1, e1, rfl, (O.put g1 hlt).mono hb4.size, Below.put hB g1 (by omega)⟩
theorem Cg {w : World} {k : Nat} (hk1 : 1 <= k) (hk2 : k <= 512) : Calls prog tM #[.int .i64 (k : Int)] w (Ret (xD w (noD k))) := by
 apply Bu
 unfold xv
 intro k2 w2 hk2' hw2
 have hb2 := (hw2 ▸ ah w _ : Below w.heap.size w w2)
 have A2 : am w2 k2 aj [.int .i64 0, .int .i64 0, .slice none 0 0, .slice none 0 0] := am.new hk2' hw2
 refine jK (fun w' => w' = w2) ⟨fun b w' => b = false /\ w' = w2, ?_, fun b => aE.of ?_ _⟩ ?_
 · exact af.no (decide_eq_false (by omega)) ⟨decide_eq_false (by omega), rfl⟩
 · rintro wj ⟨e1, e2⟩
   exact af.no e1 e2
 intro wj ej
 rw [ej]; clear ej wj
 intro k15 w15 hk15 hw15
 have hb15 := (hw15 ▸ ah w2 _ : Below w2.heap.size w2 w15)
 have hlt := A2.lt
 have M0 : Mk w15 k15 none 0 0 none 0 0 ⟨(k : Int), 0, [], []⟩ := ⟨am.new hk15 hw15, Ow.nil _ _ _ _, Ow.nil _ _ _ _, (fun g hg => by cases hg), (fun g hg => by cases hg), fun g hg => by cases hg⟩
 have hK : (⟨(k : Int), 0, [], []⟩ : DA).K = k := by show ((k : Int)).toNat = k; omega
 have hs15 : w15.heap.size = k15 + 1 := by rw [hk15, hw15]; simp
 refine ax (vn M0 (by show (1 : Int) <= (k : Int); omega) (by show (k : Int) <= 512; omega) (by simp) (by simp) false 0) ?_
 rintro _ w17 ⟨rfl, a1, n1, c1, b1, m1, e1, M1, g1, f1, f2⟩
 have st0 : (⟨(k : Int), 0, [] ++ List.replicate (⟨(k : Int), 0, [], []⟩ : DA).K 0, [] ++ [false]⟩ : DA) = noD k := by rw [hK]; simp [noD]
 rw [st0] at M1
 have none15 : ∀ x ∈ kV k15 none none, x = k15 := fun x hx => by
   rcases cL.1 hx with h | h | h
   · exact h
   · cases h
   · cases h
 have A2b := g1.arr (A2.below hb15) (fun hm => by have := none15 _ hm; omega)
 have hB15 := ab hb2 hb15 hb2.size
 have hB17 : Below w.heap.size w w17 := hB15.trans (g1.below hB15.size fun x hx => by have := none15 _ hx; omega)
 have fa := om.fresh f1 (bD.none (k15 + 1)) (by omega)
 have fb := om.fresh f2 (bD.none (k15 + 1)) (by omega)
 have ld := bs.load0 (cs := daL a1 n1 c1 b1 m1 e1 (noD k)) M1.var rfl
 obtain ⟨wx, s1, s2, g2⟩ := fT A2b rfl a1 n1 c1 b1 m1 e1 (noD k)
 have O : Ai (k15 + 1) w17 a1 n1 c1 b1 m1 e1 (noD k) := ⟨M1.nx, M1.ac, M1.ne, fa, fb⟩
 exact ⟨_, rfl, rfl, rfl, _, _, a1, n1, c1, b1, m1, e1, ld, wx, s1, _, _, a1, n1, c1, b1, m1, e1, s2, a1, n1, c1, b1, m1, e1, rfl, (O.put g2 (by omega)).mono (by omega), Below.put hB17 g2 (by omega)⟩
end Go.Proofs.YtpafoodmpjlkhaaGreatDoor
namespace Go.Pk
abbrev exT : List Txt := [[97], [99, 111, 109]]
theorem Jb : exT.Pairwise (· < ·) := by decide
theorem Gt : iu 1 = [97] := by
 unfold iu
 rw [ou (by omega), show (1 - 1) / 38 = 0 by rfl, nG]
 rfl
theorem Dg : iu 2 = [98] := by
 unfold iu
 rw [ou (by omega), show (2 - 1) / 38 = 0 by rfl, nG]
 rfl
theorem Gq : kU exT = [98] := by
 rw [AN (n := 2), Dg]
 refine ⟨by omega, by rw [Dg]; decide, fun k h1 h2 => ?_⟩
 have : k = 1 := by omega
 subst this
 rw [Gt]; decide
theorem E2 : tx exT 0 = [97] := CN (ts := exT) (x := 0) (by decide)
theorem E3 : tx exT 1 = [99, 111, 109] := CN (ts := exT) (x := 1) (by decide)
theorem Ix : tx exT 2 = [98] := (uq exT).trans Gq
theorem E0 : cAt (co exT) 0 = 2 := by rw [nL (by decide), E2]; rfl
theorem DR : cAt (co exT) 1 = 4 := by rw [nL (by decide), E3]; rfl
theorem HE : cAt (co exT) 2 = 2 := by rw [nL (by decide), Ix]; rfl
theorem G2 : ∀ (l : List Nat), (∀ y ∈ l, y < 3) -> 0 <= cr (co exT) l /\ (l ≠ [] -> 2 <= cr (co exT) l)
 | [], _ => ⟨Int.le_refl _, fun h => absurd rfl h⟩
 | y :: l, h => by
   have h1 := (G2 l fun z hz => h z (List.mem_cons_of_mem _ hz)).1
   have h2 := h y List.mem_cons_self
   have h3 : 2 <= cAt (co exT) y := by
     have : y = 0 \/ y = 1 \/ y = 2 := by omega
     rcases this with rfl | rfl | rfl
     · rw [E0]; decide
     · rw [DR]; decide
     · rw [HE]; decide
   simp only [cr]
   exact ⟨by omega, fun _ => by omega⟩
theorem Gs {L : List Nat -> Prop} (hL : ∀ v, L v ↔ (∀ x ∈ v, x < 3) /\ sd 2 [1] v /\ jt (v.map (tx exT))) : oX (co exT) L [1, 0] := by
 have e0 : cr (co exT) [1, 0] = 6 := by simp only [cr]; rw [DR, E0]; rfl
 refine ⟨(hL _).2 ⟨by decide, ?_, ?_⟩, fun v hv => ?_⟩
 · unfold sd
   rw [if_neg (by omega), if_neg (by omega)]
   exact ⟨⟨[0], rfl⟩, by decide⟩
 · simp only [List.map_cons, List.map_nil, E3, E2]
   exact .inr ⟨by decide, by decide, by decide⟩
 · obtain ⟨h1, h2, _⟩ := (hL _).1 hv
   unfold sd at h2
   rw [if_neg (by omega), if_neg (by omega)] at h2
   obtain ⟨⟨u, rfl⟩, h3⟩ := h2
   cases u with
   | nil => simp at h3
   | cons x r =>
     have hx : x < 3 := h1 x (by simp)
     have hr := G2 r fun y hy => h1 y (by simp [hy])
     have e1 : cr (co exT) ([1] ++ x :: r) = 4 + (cAt (co exT) x + cr (co exT) r) := by
       show cAt (co exT) 1 + (cAt (co exT) x + cr (co exT) r) = _
       rw [DR]
     rw [e0, e1]
     cases r with
     | cons y r =>
       have h4 := hr.2 (by simp)
       have h5 : 2 <= cAt (co exT) x := by
         have : x = 0 \/ x = 1 \/ x = 2 := by omega
         rcases this with rfl | rfl | rfl
         · rw [E0]; decide
         · rw [DR]; decide
         · rw [HE]; decide
       left; omega
     | nil =>
       have : x = 0 \/ x = 1 \/ x = 2 := by omega
       rcases this with rfl | rfl | rfl
       · right; rw [E0]; exact ⟨by simp [cr], .inl rfl⟩
       · left; rw [DR]; simp [cr]
       · right; rw [HE]; exact ⟨by simp [cr], .inr (.inr ⟨rfl, .inl (by decide)⟩)⟩
def exH : Hst := ⟨1, [97, 46, 99, 111, 109], ad0⟩
theorem HF : cY ([1, 0].map (tx exT)) = some exH := by
 simp only [List.map_cons, List.map_nil, E3, E2]
 unfold cY
 rw [if_neg (by simp), if_pos (by decide)]
 have e : Lib.join ([[99, 111, 109], [97]] : List Txt).reverse [46] = [97, 46, 99, 111, 109] := by
   show Lib.join ([[97], [99, 111, 109]] : List Txt) [46] = _
   rw [lu, Lib.join_one]; rfl
 rw [e]
 have h := mO (L := [[97], [99, 111, 109]]) (by simp) (by decide) (by decide) (by rw [lu, Lib.join_one]; decide)
 rw [lu, Lib.join_one] at h
 have h1 : ct [97, 46, 99, 111, 109] = some exH := h.1
 rw [h1]
 rfl
end Go.Pk
namespace Go.Pk
def si (ts : List Txt) (L : List Nat -> Prop) (r : Option Hst) : Prop :=
 match r with
 | some h => ∃ v, oX (co ts) (fun v => L v /\ jt (v.map (tx ts))) v /\ cr (co ts) v <= 254 /\ cY (v.map (tx ts)) = some h
 | none => ∀ v, L v -> jt (v.map (tx ts)) -> 254 < cr (co ts) v
theorem si.congr {ts : List Txt} {L L' : List Nat -> Prop} {r : Option Hst} (h : si ts L r) (e : ∀ v, L v ↔ L' v) : si ts L' r := by
 cases r with
 | some g =>
   obtain ⟨v, h1, h2, h3⟩ := h
   exact ⟨v, h1.congr fun u => by rw [e u], h2, h3⟩
 | none => exact fun v hv => h v ((e v).2 hv)
theorem wt {ts : List Txt} (hl : ts.length <= 60) (hx : ∀ t ∈ ts, t.length <= 1000) : qU (co ts) := by
 intro c hc
 obtain ⟨x, hx', rfl⟩ := List.mem_map.1 hc
 rw [List.mem_range] at hx'
 rcases Nat.lt_or_ge x ts.length with h | h
 · rw [CN h]
   have := hx _ (List.getElem_mem h)
   omega
 · have : x = ts.length := by omega
   subst this
   rw [uq]
   have := (gH (lJ hl)).2.1
   omega
theorem Gp {L : List Nat -> Prop} (hL : ∀ v, L v ↔ (∀ x ∈ v, x < 3) /\ sd 2 [1] v) {r : Option Hst} (hr : si exT L r) : r = some exH := by
 have h4 : oX (co exT) (fun v => L v /\ jt (v.map (tx exT))) [1, 0] := Gs fun v => by rw [hL]; exact and_assoc
 cases r with
 | none =>
   have := hr _ h4.1.1 h4.1.2
   have e0 : cr (co exT) [1, 0] = 6 := by simp only [cr]; rw [DR, E0]; rfl
   omega
 | some g =>
   obtain ⟨v, h1, _, h3⟩ := hr
   have e := h1.one h4
   subst e
   rw [<- h3, HF]
theorem Dd : ∀ {t : List Txt}, (∀ x ∈ t, 1 <= x.length) -> 2 * t.length <= kI t
 | [], _ => Nat.le_refl _
 | x :: t, h => by
   have h1 := h x List.mem_cons_self
   have h2 := Dd fun y hy => h y (List.mem_cons_of_mem _ hy)
   simp only [List.length_cons, kI]; omega
theorem uv {h : Hst} (o : h.ok) (hr : aU h = true) : (bL h).length <= 127 := by
 by_cases hk : h.kind = 1
 · have h1 := Dd (t := bL h) fun x hx => by
     have e : bL h = (aq h).reverse := by unfold bL; rw [if_pos hr, if_pos hk]
     rw [e] at hx
     exact (gH (lD o x (by simpa using hx))).1
   have := AF o hr
   omega
 · have e : bL h = [cX h] := by unfold bL; rw [if_pos hr, if_neg hk]
   rw [e]; simp
end Go.Pk
namespace Go.Proofs.YtpafoodmpjlkhaaGreatDoor
open Go.Pk
open Go.RowKit (Below)
theorem AC {w : World} {A : Bl} {a : Option Addr} {n c : Nat} {xs : List Int} (hs : Sl i7 w A a n c xs) (y : Int) : Calls prog eE #[.slice a n c, .int .i64 y] w (Ret fun v w' => v = .bool (decide (y ∈ xs)) /\ w' = w) := by
 have hn := hs.len
 subst hn
 have hle := hs.le
 apply ms
 unfold ii
 refine ax (K := fun v w' => ∃ i : Int, v = .int .i64 i /\ (decide (i >= 0)) = (decide (y ∈ xs)) /\ w' = w) ?_ ?_
 · apply nP
   unfold jG
   refine ⟨fun m i w' => ∃ j : Nat, j <= xs.length /\ i = (j : Int) /\ m = xs.length - j /\ y ∉ xs.take j /\ w' = w, ⟨_, 0, by omega, rfl, rfl, by simp, rfl⟩, ?_⟩
   intro m i
   refine aE.of ?_ _
   rintro w' ⟨j, hj, rfl, rfl, hno, hw'⟩
   rw [hw']; clear hw'
   refine af.of (fun h => ?_) (fun h => ?_) <;> simp only [dTx, dFx] at h
   · have hlt : j < xs.length := by omega
     refine ⟨⟨⟨by omega, h⟩, hs.isSome hlt⟩, _, hs.num aI hlt, ?_⟩
     refine af.of (fun h3 => ?_) (fun h3 => ?_)
     · have : y = xs[j] := by simpa using h3
       refine ⟨_, rfl, ?_, rfl⟩
       rw [decide_eq_true (by omega), decide_eq_true (by rw [this]; exact List.getElem_mem hlt)]
     · have hne : y ≠ xs[j] := by simpa using h3
       refine ⟨xs.length - (j + 1), by omega, j + 1, by omega, by rw [ak (by omega) (by omega)]; omega, rfl, ?_, rfl⟩
       rw [List.take_succ_eq_append_getElem hlt, List.mem_append]
       rintro (h1 | h1)
       · exact hno h1
       · exact hne (by simpa using h1)
   · have : j = xs.length := by omega
     subst this
     rw [List.take_length] at hno
     exact ⟨_, rfl, by rw [decide_eq_false hno]; decide, rfl⟩
 · rintro _ w3 ⟨i, rfl, hi, hw3⟩
   exact ⟨_, rfl, by rw [hi], hw3⟩
theorem D8 {w : World} {A : Bl} {a : Option Addr} {n c : Nat} {L : Nat} (hs : Sl ul w A a n c (List.replicate L false ++ [true])) : Calls prog fc #[.slice a n c, .bool true] w (Ret fun v w' => v = .int .i64 ((L : Nat) : Int) /\ w' = w) := by
 have hn := hs.len
 subst hn
 have hle := hs.le
 have hlen : (List.replicate L false ++ [true]).length = L + 1 := by simp
 apply mJ
 unfold iS
 refine ⟨fun m i w' => ∃ j : Nat, j <= L /\ i = (j : Int) /\ m = L - j /\ w' = w, ⟨_, 0, by omega, rfl, rfl, rfl⟩, ?_⟩
 intro m i
 refine aE.of ?_ _
 rintro w' ⟨j, hj, rfl, rfl, hw'⟩
 rw [hw']; clear hw'
 have hlt : j < (List.replicate L false ++ [true]).length := by omega
 obtain ⟨v, hv, hrep⟩ := hs.load1 (P := prog) (i := (j : Int)) qw rfl rfl (by simpa using hlt)
 have hb := zb hrep
 subst hb
 simp only [Int.toNat_natCast] at hv
 refine af.yes (decide_eq_true (by omega)) ⟨⟨⟨by omega, by omega⟩, hs.isSome hlt⟩, _, hv, ?_⟩
 rcases Nat.lt_or_ge j L with h | h
 · have e : (List.replicate L false ++ [true])[j] = false := by rw [List.getElem_append_left (by simpa using h)]; simp
   rw [e]
   exact af.no rfl ⟨L - (j + 1), by omega, j + 1, by omega, by rw [ak (by omega) (by omega)]; omega, rfl, rfl⟩
 · have : j = L := by omega
   subst this
   have e : (List.replicate j false ++ [true])[j] = true := by rw [List.getElem_append_right (by simp)]; simp
   rw [e]
   exact af.yes rfl ⟨rfl, rfl⟩
def kB (ts : List Txt) (h : Hst) : Bool := !decide (hwV ts h = []) && !decide (((ts.length : Nat) : Int) ∈ hwV ts h)
theorem Cs {ts : List Txt} {h : Hst} (o : h.ok) (hk : kB ts h = true) : aU h = true := by
 refine (iV o).1 fun e => ?_
 unfold kB at hk
 rw [Bool.and_eq_true] at hk
 have := hk.1
 unfold hwV at this
 rw [e] at this
 simp at this
def I1 (ts : List Txt) (h : Hst) (w : World) (v : Value) (w' : World) : Prop := Below w.heap.size w w' /\
 if kB ts h = true then ∃ (a : Option Addr) (n c : Nat), v = .tuple #[.slice a n c, .int .i64 0] /\ Ow i7 az w' NoB a n c (hwV ts h) /\ bD w.heap.size a else v = .tuple #[.slice none 0 0, .int .i64 181]
theorem oZ {h : Hst} (o : h.ok) (hn : h.name.length <= 1000000) {w : World} (he : Env w) {p : Option Addr} {ts : List Txt} (hA : gU w p ts) (htl : ts.length <= 100000) : Calls prog jo #[.pointer p, h.v] w (Ret (I1 ts h w)) := by
 apply ue
 unfold pi
 intro k3 w3 hk3 hw3
 have hb3 := (hw3 ▸ ah w _ : Below w.heap.size w w3)
 have A3 : am w3 k3 ae h.cells := am.new hk3 hw3
 refine ⟨_, aB.load0 A3 (Hst.len o), ?_⟩
 refine ax (lP o hn (he.step hb3) (hA.below hb3)) ?_
 rintro _ w9 ⟨a, n, c, rfl, ho, hf, hb9⟩
 have hB := ab hb3 hb9 hb3.size
 refine ⟨_, _, _, rfl, af.of (fun h1 => ⟨hB, ?_⟩) (fun h1 => ?_)⟩
 · have h1 : ((n : Nat) : Int) = 0 := by simpa using h1
   have e : hwV ts h = [] := List.length_eq_zero_iff.1 (by have := ho.len; omega)
   rw [if_neg (by unfold kB; rw [e]; simp)]
 · have h1 : ((n : Nat) : Int) ≠ 0 := by simpa using h1
   have e : hwV ts h ≠ [] := fun e => h1 (by rw [ho.len, e]; rfl)
   refine ax (ci p ts (by omega) w9 (hA.below hB)) ?_
   rintro _ w16 ⟨rfl, rfl⟩
   refine ⟨_, rfl, ?_⟩
   rw [show i64.wrap ((ts.length : Int) + 1 - 1) = ((ts.length : Nat) : Int) from by rw [ak (by omega) (by omega)]; omega]
   refine ax (AC ho.all _) ?_
   rintro _ w18 ⟨rfl, rfl⟩
   refine ⟨_, rfl, af.of (fun h2 => ⟨hB, ?_⟩) (fun h2 => ⟨hB, ?_⟩)⟩
   · rw [if_neg (by unfold kB; rw [h2]; simp)]
   · rw [if_pos (by unfold kB; rw [h2]; simp [e])]
     exact ⟨a, n, c, rfl, ho, hf.mono hb3.size⟩
def eU (ok : Bool) (d : DA) (w : World) (v : Value) (w' : World) : Prop := if ok = true then xD w d v w' else v = .tuple #[daV none 0 0 none 0 0 ⟨0, 0, [], []⟩, .int .i64 181] /\ Below w.heap.size w w'
theorem eU.no {d : DA} {w w' : World} (h : Below w.heap.size w w') : eU false d w (.tuple #[daV none 0 0 none 0 0 ⟨0, 0, [], []⟩, .int .i64 181]) w' := ⟨rfl, h⟩
theorem eU.yes {d : DA} {w w' : World} {v : Value} (h : xD w d v w') : eU true d w v w' := h
theorem BK (ts : List Txt) {h : Hst} (o : h.ok) (hk : kB ts h = true) : (be ts h).length <= 127 := by
 unfold be
 rw [List.length_map]
 exact uv o (Cs o hk)
theorem m8 {h : Hst} (o : h.ok) (hn : h.name.length <= 1000000) {w : World} (he : Env w) {p : Option Addr} {ts : List Txt} (hA : gU w p ts) (htl : ts.length <= 511) :
   Calls prog jm #[.pointer p, h.v] w (Ret (eU (kB ts h) (chD (ts.length + 1) (be ts h) 0) w)) := by
 apply wT
 unfold rv
 intro k3 w3 hk3 hw3 k4 w4 hk4 hw4
 have hb3 := (hw3 ▸ ah w _ : Below w.heap.size w w3)
 have hb4 := (hw4 ▸ ah w3 _ : Below w3.heap.size w3 w4)
 have A3 : am w3 k3 ae h.cells := am.new hk3 hw3
 have A4 : am w4 k4 aj [.int .i64 0, .int .i64 0, .slice none 0 0, .slice none 0 0] := am.new hk4 hw4
 have hB4 := ab hb3 hb4 hb3.size
 refine ⟨_, aB.load0 (A3.below hb4) (Hst.len o), ?_⟩
 refine ax (oZ o hn (he.step hB4) (hA.below hB4) (by omega)) ?_
 rintro v w11 ⟨hb11, hv⟩
 have hB := ab hB4 hb11 hB4.size
 have hlt := A4.lt
 have ho4 : w.heap.size <= k4 := by have := hb3.size; omega
 cases hk : kB ts h with
 | false =>
   rw [if_neg (by rw [hk]; simp)] at hv
   subst hv
   obtain ⟨wx, s1, s2, g1⟩ := fT (A4.below hb11) rfl none 0 0 none 0 0 ⟨0, 0, [], []⟩
   exact ⟨none, 0, 0, 181, rfl, af.yes rfl ⟨wx, s1, _, _, none, 0, 0, none, 0, 0, s2, eU.no (Below.put hB g1 ho4)⟩⟩
 | true =>
   rw [if_pos hk] at hv
   obtain ⟨a, n, c, rfl, ho, hf⟩ := hv
   refine ⟨a, n, c, 0, rfl, af.no rfl ?_⟩
   refine ax (ci p ts (by omega) w11 (hA.below hB)) ?_
   rintro _ w19 ⟨rfl, rfl⟩
   refine ⟨_, rfl, ?_⟩
   have hs : Sl i7 w19 gT a n c ((be ts h).map fun (x : Nat) => (x : Int)) := by rw [<- qa]; exact ho.all
   have e1 : ((ts.length : Int) + 1) = ((ts.length + 1 : Nat) : Int) := by omega
   rw [e1]
   refine ax (vQ hs (k := ts.length + 1) (by omega) (by omega) (iU ts h) (by have := BK ts o hk; omega)) ?_
   rintro _ w21 ⟨a1, n1, c1, b1, m1, e1', rfl, O, hb21⟩
   obtain ⟨wx, s1, s2, g1⟩ := fT ((A4.below hb11).below hb21) rfl a1 n1 c1 b1 m1 e1' (chD (ts.length + 1) (be ts h) 0)
   have hB21 := ab hB hb21 hB.size
   have hs19 := hb11.size
   exact ⟨_, _, a1, n1, c1, b1, m1, e1', _, rfl, wx, s1, _, _, a1, n1, c1, b1, m1, e1', s2, eU.yes ⟨a1, n1, c1, b1, m1, e1', rfl, (O.put g1 (by omega)).mono hB.size, Below.put hB21 g1 ho4⟩⟩
end Go.Proofs.YtpafoodmpjlkhaaGreatDoor
set_option maxRecDepth 100000
namespace Go.Proofs.YtpafoodmpjlkhaaGreatDoor
open Go.Pk
open Go.RowKit (Below)
--  cracknel/hostset.below
def ph (p0 : Option Addr) (v1 : Value) (b2 : Bool) (w : World) (K : Value -> World -> Prop) : Prop :=
 ∀ k4 w4, k4 = w.heap.size -> w4 = w.alloc (.cells (Value.cells v1) ae) ->
 ∀ k6 w6, k6 = w4.heap.size -> w6 = w4.alloc (.cells #[.int .i64 (0 : Int), .int .i64 (0 : Int), .slice none 0 0, .slice none 0 0] aj) ->
 ∃ v16, Ld ae (some ⟨k4, 0, none⟩) w6 v16 /\
 Calls prog jo #[.pointer p0, v16] w6 fun e17 w17 => ∃ a17_0 l17_0 c17_0 n17_1, e17 = .returned (.tuple #[.slice a17_0 l17_0 c17_0, .int .i64 n17_1]) /\
 af (n17_1 != (0 : Int))
 (∃ wx, Sv aj (some ⟨k6, 0, none⟩) (.agg #[.int .i64 (0 : Int), .int .i64 (0 : Int), .slice none 0 0, .slice none 0 0]) w17 wx /\
 ∃ nr0_0 nr0_1 ar0_2 lr0_2 cr0_2 ar0_3 lr0_3 cr0_3, (bm aj (.pointer (some ⟨k6, 0, none⟩))).run prog wx = .ok (.agg #[.int .i64 nr0_0, .int .i64 nr0_1, .slice ar0_2 lr0_2 cr0_2, .slice ar0_3 lr0_3 cr0_3]) wx /\
 K (.tuple #[.agg #[.int .i64 nr0_0, .int .i64 nr0_1, .slice ar0_2 lr0_2 cr0_2, .slice ar0_3 lr0_3 cr0_3], .int .i64 n17_1]) wx)
 (∃ J : FP [],
 (∃ J_1 : FP [.one (.bool)],
 ((true = true) /\
 ∃ n25, Ld az (some ⟨k4, 0, none⟩) w17 (.int .i64 n25) /\
 af (n25 != (1 : Int))
 (J_1 b2 w17)
 (J_1 false w17)) /\
 ∀ b29, aE 5 (∀ wj, J_1 b29 wj ->
 af b29
 (Calls prog aR #[.pointer p0] wj fun e31 w31 => ∃ n31, e31 = .returned (.int .i64 n31) /\
 Calls prog qL #[.int .i64 n31, .slice a17_0 l17_0 c17_0] w31 fun e33 w33 => ∃ n33_0_0 n33_0_1 a33_0_2 l33_0_2 c33_0_2 a33_0_3 l33_0_3 c33_0_3 n33_1, e33 = .returned (.tuple #[.agg #[.int .i64 n33_0_0, .int .i64 n33_0_1, .slice a33_0_2 l33_0_2 c33_0_2, .slice a33_0_3 l33_0_3 c33_0_3], .int .i64 n33_1]) /\
 ∃ wx_1, Sv aj (some ⟨k6, 0, none⟩) (.agg #[.int .i64 n33_0_0, .int .i64 n33_0_1, .slice a33_0_2 l33_0_2 c33_0_2, .slice a33_0_3 l33_0_3 c33_0_3]) w33 wx_1 /\
 ∃ nr0_0_1 nr0_1_1 ar0_2_1 lr0_2_1 cr0_2_1 ar0_3_1 lr0_3_1 cr0_3_1, (bm aj (.pointer (some ⟨k6, 0, none⟩))).run prog wx_1 = .ok (.agg #[.int .i64 nr0_0_1, .int .i64 nr0_1_1, .slice ar0_2_1 lr0_2_1 cr0_2_1, .slice ar0_3_1 lr0_3_1 cr0_3_1]) wx_1 /\
 K (.tuple #[.agg #[.int .i64 nr0_0_1, .int .i64 nr0_1_1, .slice ar0_2_1 lr0_2_1 cr0_2_1, .slice ar0_3_1 lr0_3_1 cr0_3_1], .int .i64 n33_1]) wx_1)
 (J wj))) /\
 aE 13 (∀ wj_1, J wj_1 ->
 (true = true) /\
 ∃ n37, Ld az (some ⟨k4, 0, none⟩) wj_1 (.int .i64 n37) /\
 af (n37 != (1 : Int))
 (Calls prog aR #[.pointer p0] wj_1 fun e40 w40 => ∃ n40, e40 = .returned (.int .i64 n40) /\
 Calls prog tM #[.int .i64 n40] w40 fun e41 w41 => ∃ n41_0_0 n41_0_1 a41_0_2 l41_0_2 c41_0_2 a41_0_3 l41_0_3 c41_0_3 n41_1, e41 = .returned (.tuple #[.agg #[.int .i64 n41_0_0, .int .i64 n41_0_1, .slice a41_0_2 l41_0_2 c41_0_2, .slice a41_0_3 l41_0_3 c41_0_3], .int .i64 n41_1]) /\
 ∃ wx_2, Sv aj (some ⟨k6, 0, none⟩) (.agg #[.int .i64 n41_0_0, .int .i64 n41_0_1, .slice a41_0_2 l41_0_2 c41_0_2, .slice a41_0_3 l41_0_3 c41_0_3]) w41 wx_2 /\
 ∃ nr0_0_2 nr0_1_2 ar0_2_2 lr0_2_2 cr0_2_2 ar0_3_2 lr0_3_2 cr0_3_2, (bm aj (.pointer (some ⟨k6, 0, none⟩))).run prog wx_2 = .ok (.agg #[.int .i64 nr0_0_2, .int .i64 nr0_1_2, .slice ar0_2_2 lr0_2_2 cr0_2_2, .slice ar0_3_2 lr0_3_2 cr0_3_2]) wx_2 /\
 K (.tuple #[.agg #[.int .i64 nr0_0_2, .int .i64 nr0_1_2, .slice ar0_2_2 lr0_2_2 cr0_2_2, .slice ar0_3_2 lr0_3_2 cr0_3_2], .int .i64 n41_1]) wx_2)
 (Calls prog aR #[.pointer p0] wj_1 fun e46 w46 => ∃ n46, e46 = .returned (.int .i64 n46) /\
 Calls prog pM #[.int .i64 n46, .slice a17_0 l17_0 c17_0] w46 fun e48 w48 => ∃ n48_0_0 n48_0_1 a48_0_2 l48_0_2 c48_0_2 a48_0_3 l48_0_3 c48_0_3 n48_1, e48 = .returned (.tuple #[.agg #[.int .i64 n48_0_0, .int .i64 n48_0_1, .slice a48_0_2 l48_0_2 c48_0_2, .slice a48_0_3 l48_0_3 c48_0_3], .int .i64 n48_1]) /\
 ∀ k10 w10, k10 = w48.heap.size -> w10 = w48.alloc (.cells #[.int .i64 (0 : Int), .int .i64 (0 : Int), .slice none 0 0, .slice none 0 0] aj) ->
 ∃ wx_3, Sv aj (some ⟨k10, 0, none⟩) (.agg #[.int .i64 n48_0_0, .int .i64 n48_0_1, .slice a48_0_2 l48_0_2 c48_0_2, .slice a48_0_3 l48_0_3 c48_0_3]) w10 wx_3 /\
 ∃ J_2 : FP [],
 (∃ J_3 : FP [.one (.bool)],
 (af (n48_1 != (0 : Int))
 (J_3 true wx_3)
 (J_3 b2 wx_3)) /\
 ∀ b55, aE 4 (∀ wj_2, J_3 b55 wj_2 ->
 af b55
 (∃ n56_0 n56_1 a56_2 l56_2 c56_2 a56_3 l56_3 c56_3, Ld aj (some ⟨k10, 0, none⟩) wj_2 (.agg #[.int .i64 n56_0, .int .i64 n56_1, .slice a56_2 l56_2 c56_2, .slice a56_3 l56_3 c56_3]) /\
 ∃ wx_4, Sv aj (some ⟨k6, 0, none⟩) (.agg #[.int .i64 n56_0, .int .i64 n56_1, .slice a56_2 l56_2 c56_2, .slice a56_3 l56_3 c56_3]) wj_2 wx_4 /\
 ∃ nr0_0_3 nr0_1_3 ar0_2_3 lr0_2_3 cr0_2_3 ar0_3_3 lr0_3_3 cr0_3_3, (bm aj (.pointer (some ⟨k6, 0, none⟩))).run prog wx_4 = .ok (.agg #[.int .i64 nr0_0_3, .int .i64 nr0_1_3, .slice ar0_2_3 lr0_2_3 cr0_2_3, .slice ar0_3_3 lr0_3_3 cr0_3_3]) wx_4 /\
 K (.tuple #[.agg #[.int .i64 nr0_0_3, .int .i64 nr0_1_3, .slice ar0_2_3 lr0_2_3 cr0_2_3, .slice ar0_3_3 lr0_3_3 cr0_3_3], .int .i64 n48_1]) wx_4)
 (J_2 wj_2))) /\
 aE 8 (∀ wj_3, J_2 wj_3 ->
 (true = true) /\
 ∃ a59 l59 c59, Ld aS (some ⟨k10, 3, none⟩) wj_3 (.slice a59 l59 c59) /\
 (true = true) /\
 ∃ a62 l62 c62, Ld aS (some ⟨k10, 3, none⟩) wj_3 (.slice a62 l62 c62) /\
 Calls prog fc #[.slice a62 l62 c62, .bool true] wj_3 fun e63 w63 => ∃ n63, e63 = .returned (.int .i64 n63) /\
 ∃ J_4 : FP [],
 ((true = true) /\
 ∃ a65 l65 c65, (∀ u65, Below w63.heap.size w63 u65 -> Ld aA (some ⟨k10, 2, none⟩) u65 (.slice a65 l65 c65)) /\
 ∃ n69, (∀ u69, Below w63.heap.size w63 u69 -> Calls prog aR #[.pointer p0] u69 fun e69 w69 => e69 = .returned (.int .i64 n69) /\ Below u69.heap.size u69 w69) /\
 ∀ k67, w63.heap.size <= k67 ->
 ∃ J_5 : FP [.one .slice],
 (∀ a70 l70 c70 x y, J_5 a70 l70 c70 x -> Below x.heap.size x y -> J_5 a70 l70 c70 y) /\
 (∀ u70, Below w63.heap.size w63 u70 -> u70.heap[k67]? = some (.cells #[.int .i64 ((l59 : Nat) : Int)] az) -> Calls prog cB #[.slice (some ⟨k67, 0, none⟩) 1 1, .int .i64 n69] u70 fun e70 w70 => ∃ a70 l70 c70, e70 = .returned (.slice a70 l70 c70) /\ J_5 a70 l70 c70 w70 /\ Below u70.heap.size u70 w70) /\
 ∀ a70 l70 c70,
 ∀ wq, Below w63.heap.size w63 wq ->
 J_5 a70 l70 c70 wq ->
 wq.heap[k67]? = some (.cells #[.int .i64 ((l59 : Nat) : Int)] az) ->
 ∃ w71 a71 l71 c71, (Builtin.append_ #[aA, aA] aA #[.slice a65 l65 c65, .slice a70 l70 c70]).run prog wq = .ok (.slice a71 l71 c71) w71 /\
 (true = true) /\
 ∃ wx_5, Sv aA (some ⟨k10, 2, none⟩) (.slice a71 l71 c71) w71 wx_5 /\
 J_4 wx_5) /\
 aE 9 (∀ wj_4, J_4 wj_4 ->
 Calls prog aR #[.pointer p0] wj_4 fun e74 w74 => ∃ n74, e74 = .returned (.int .i64 n74) /\
 ∃ I : Nat -> FP [.one (.int .i64)],
 (∃ m, I m (0 : Int) w74) /\
 ∀ m n75, aE 14 (∀ wl, I m n75 wl ->
 af (decide (n75 < n74))
 ((true = true) /\
 ∃ a79 l79 c79, (∀ u79, Below wl.heap.size wl u79 -> Ld aA (some ⟨k10, 2, none⟩) u79 (.slice a79 l79 c79)) /\
 ∃ n82, (∀ u82, Below wl.heap.size wl u82 -> Calls prog aR #[.pointer p0] u82 fun e82 w82 => e82 = .returned (.int .i64 n82) /\ Below u82.heap.size u82 w82) /\
 ((0 <= (i64.wrap ((i64.wrap (n63 * n82)) + n75)) /\ (i64.wrap ((i64.wrap (n63 * n82)) + n75)) < ((l79 : Nat) : Int)) /\ Option.isSome a79 = true) /\
 ∀ wq_1, Below wl.heap.size wl wq_1 ->
 ∃ wx_6, Sv az (ao a79 (i64.wrap ((i64.wrap (n63 * n82)) + n75)) 1) (.int .i64 ((l59 : Nat) : Int)) wq_1 wx_6 /\
 ∃ m' : Nat, m' < m /\ I m' (i64.wrap (n75 + (1 : Int))) wx_6)
 ((true = true) /\
 ∃ a90 l90 c90, Ld aS (some ⟨k10, 3, none⟩) wl (.slice a90 l90 c90) /\
 ((0 <= n63 /\ n63 < ((l90 : Nat) : Int)) /\ Option.isSome a90 = true) /\
 ∃ wx_7, Sv eV (ao a90 n63 1) (.bool false) wl wx_7 /\
 (true = true) /\
 ∃ a94 l94 c94, Ld aS (some ⟨k10, 3, none⟩) wx_7 (.slice a94 l94 c94) /\
 ∀ k95 w95, k95 = wx_7.heap.size -> w95 = wx_7.alloc (.cells #[.bool true] eV) ->
 ∃ w96 a96 l96 c96, (Builtin.append_ #[aS, aS] aS #[.slice a94 l94 c94, .slice (some ⟨k95, 0, none⟩) 1 1]).run prog w95 = .ok (.slice a96 l96 c96) w96 /\
 (true = true) /\
 ∃ wx_8, Sv aS (some ⟨k10, 3, none⟩) (.slice a96 l96 c96) w96 wx_8 /\
 ∃ n98_0 n98_1 a98_2 l98_2 c98_2 a98_3 l98_3 c98_3, Ld aj (some ⟨k10, 0, none⟩) wx_8 (.agg #[.int .i64 n98_0, .int .i64 n98_1, .slice a98_2 l98_2 c98_2, .slice a98_3 l98_3 c98_3]) /\
 ∃ wx_9, Sv aj (some ⟨k6, 0, none⟩) (.agg #[.int .i64 n98_0, .int .i64 n98_1, .slice a98_2 l98_2 c98_2, .slice a98_3 l98_3 c98_3]) wx_8 wx_9 /\
 ∃ nr0_0_4 nr0_1_4 ar0_2_4 lr0_2_4 cr0_2_4 ar0_3_4 lr0_3_4 cr0_3_4, (bm aj (.pointer (some ⟨k6, 0, none⟩))).run prog wx_9 = .ok (.agg #[.int .i64 nr0_0_4, .int .i64 nr0_1_4, .slice ar0_2_4 lr0_2_4 cr0_2_4, .slice ar0_3_4 lr0_3_4 cr0_3_4]) wx_9 /\
 K (.tuple #[.agg #[.int .i64 nr0_0_4, .int .i64 nr0_1_4, .slice ar0_2_4 lr0_2_4 cr0_2_4, .slice ar0_3_4 lr0_3_4 cr0_3_4], .int .i64 (0 : Int)]) wx_9)))))))
theorem ud (p0 : Option Addr) (v1 : Value) (b2 : Bool) {w : World} {K : Value -> World -> Prop} (h : ph p0 v1 b2 w K) : Calls prog jn #[.pointer p0, v1, .bool b2] w (Ret K) :=
 au (c := ay Tryz.f51) (by kernel_rfl) Tryz.func51 (by kernel_rfl) [(12, []), (13, [(29, .one (.bool))]), (30, []), (31, [(55, .one (.bool))]), (42, []), (3000043, [(0, .one (.bool)), (2, .one (.bool)), (4, .one (.bool)), (1, .one (.bool)), (5, .one (.bool)), (3, .one (.bool)), (6, .one (.slice))]), (48, [(75, .one (.int .i64))]), (3000059, [(0, .one (.bool)), (2, .one (.bool)), (3, .one (.bool)), (6, .one (.bool)), (8, .one (.bool)), (1, .one (.bool)), (4, .one (.bool)), (5, .one (.bool)), (7, .one (.bool)), (9, .one (.bool))])] [.pointer p0, v1, .bool b2] (of_decide_eq_true (by kernel_rfl)) _ (by kernel_rfl) h
end Go.Proofs.YtpafoodmpjlkhaaGreatDoor
set_option maxRecDepth 20000
namespace Go.Pk
def upD (k : Nat) (w : List Nat) : DA := ⟨(k : Int), 1, gd k (w.length + 1) ((w.length + 2 : Nat) : Int) (Cc k w ((w.length + 1 : Nat) : Int) ++ oK k ((w.length + 2 : Nat) : Int)) k, (DM w).set (w.length + 1) false ++ [true]⟩
def jM (ts : List Txt) (h : Hst) (itself : Bool) : DA :=
 if h.kind ≠ 1 then (if itself = true then chD (ts.length + 1) (be ts h) 0 else noD (ts.length + 1))
 else if itself = true then chD (ts.length + 1) (be ts h) (((be ts h).length + 1 : Nat) : Int) else upD (ts.length + 1) (be ts h)
end Go.Pk
namespace Go.Proofs.YtpafoodmpjlkhaaGreatDoor
open Go.Pk
open Go.RowKit (Below)
abbrev Mb := Ey aj az eV
structure UpS (wB : World) (k10 lo : Nat) (d : DA) (a : Option Addr) (n c : Nat) (b : Option Addr) (m e : Nat) (W : World) : Prop where
 mb : Mb W k10 a n c b m e d
 bel : Below wB.heap.size wB W
 fa : ∀ g, bE a = some g -> wB.heap.size <= g
 fb : ∀ g, bE b = some g -> wB.heap.size <= g
 le : lo <= W.heap.size
set_option maxHeartbeats 1000000 in
theorem oY {h : Hst} (o : h.ok) (hn : h.name.length <= 1000000) {w : World} (he : Env w) {p : Option Addr} {ts : List Txt} (hA : gU w p ts) (htl : ts.length <= 511) (itself : Bool) :
   Calls prog jn #[.pointer p, h.v, .bool itself] w (Ret (eU (kB ts h) (jM ts h itself) w)) := by
 apply ud
 unfold ph
 intro k4 w4 hk4 hw4 k6 w6 hk6 hw6
 have hb4 := (hw4 ▸ ah w _ : Below w.heap.size w w4)
 have hb6 := (hw6 ▸ ah w4 _ : Below w4.heap.size w4 w6)
 have A4 : am w4 k4 ae h.cells := am.new hk4 hw4
 have A6 : am w6 k6 aj [.int .i64 0, .int .i64 0, .slice none 0 0, .slice none 0 0] := am.new hk6 hw6
 have hB6 := ab hb4 hb6 hb4.size
 refine ⟨_, aB.load0 (A4.below hb6) (Hst.len o), ?_⟩
 refine ax (oZ o hn (he.step hB6) (hA.below hB6) (by omega)) ?_
 rintro v w17 ⟨hb17, hv⟩
 have hB := ab hB6 hb17 hB6.size
 have hlt := A6.lt
 have ho6 : w.heap.size <= k6 := by have := hb4.size; omega
 have hs17 := hb17.size
 cases hk : kB ts h with
 | false =>
   rw [if_neg (by rw [hk]; simp)] at hv
   subst hv
   obtain ⟨wx, s1, s2, g1⟩ := fT (A6.below hb17) rfl none 0 0 none 0 0 ⟨0, 0, [], []⟩
   exact ⟨none, 0, 0, 181, rfl, af.yes rfl ⟨wx, s1, _, _, none, 0, 0, none, 0, 0, s2, eU.no (Below.put hB g1 ho6)⟩⟩
 | true =>
   rw [if_pos hk] at hv
   obtain ⟨a, n, c, rfl, ho, hf⟩ := hv
   have hwl := BK ts o hk
   have hlen : ((ts.length : Int) + 1) = ((ts.length + 1 : Nat) : Int) := by omega
   have hs17' : Sl i7 w17 gT a n c ((be ts h).map fun (x : Nat) => (x : Int)) := by rw [<- qa]; exact ho.all
   have A4b := (A4.below hb6).below hb17
   have A6b := A6.below hb17
   refine ⟨a, n, c, 0, rfl, af.no rfl ?_⟩
   have fin : ∀ {d : DA} {v : Value} {w21 : World}, d = jM ts h itself -> xD w17 d v w21 -> ∃ (a1 : Option Addr) (n1 c1 : Nat) (b1 : Option Addr) (m1 e1 : Nat), v = .tuple #[daV a1 n1 c1 b1 m1 e1 d, .int .i64 0] /\ ∃ wx, (Instr.storeAt aj (.pointer (some ⟨k6, 0, none⟩)) (daV a1 n1 c1 b1 m1 e1 d)).run prog w21 = .ok () wx /\
       (bm aj (.pointer (some ⟨k6, 0, none⟩))).run prog wx = .ok (daV a1 n1 c1 b1 m1 e1 d) wx /\ eU true (jM ts h itself) w (.tuple #[daV a1 n1 c1 b1 m1 e1 d, .int .i64 0]) wx := by
     rintro d v w21 rfl ⟨a1, n1, c1, b1, m1, e1, rfl, O, hb21⟩
     obtain ⟨wx, s1, s2, g1⟩ := fT (A6b.below hb21) rfl a1 n1 c1 b1 m1 e1 (jM ts h itself)
     exact ⟨a1, n1, c1, b1, m1, e1, rfl, wx, s1, s2, eU.yes ⟨a1, n1, c1, b1, m1, e1, rfl, (O.put g1 (by omega)).mono hB.size, Below.put (ab hB hb21 hB.size) g1 ho6⟩⟩
   refine ⟨fun w' => w' = w17 /\ ¬ (h.kind ≠ 1 /\ itself = true), ⟨fun b w' => w' = w17 /\ b = (decide (h.kind ≠ 1) && itself), ⟨rfl, h.kind, A4b.load1 aI rfl rfl, ?_⟩, fun b => aE.of ?_ _⟩, aE.of ?_ _⟩
   · refine af.of (fun h1 => ⟨rfl, ?_⟩) (fun h1 => ⟨rfl, ?_⟩)
     · have : h.kind ≠ 1 := by simpa using h1
       simp [this]
     · have : h.kind = 1 := by simpa using h1
       simp [this]
   · rintro wj ⟨rfl, rfl⟩
     refine af.of (fun h1 => ?_) (fun h1 => ⟨rfl, fun hc => ?_⟩)
     · rw [Bool.and_eq_true, dTx] at h1
       refine ax (ci p ts (by omega) wj (hA.below hB)) ?_
       rintro _ w31 ⟨rfl, hw31⟩
       rw [hw31]; clear hw31 w31
       refine ⟨_, rfl, ?_⟩
       rw [hlen]
       refine ax (vQ hs17' (k := ts.length + 1) (by omega) (by omega) (iU ts h) (by omega)) ?_
       intro v w33 hD
       obtain ⟨a1, n1, c1, b1, m1, e1, rfl, wx, s1, s2, hP⟩ := fin (by unfold jM; rw [if_pos h1.1, if_pos h1.2]) hD
       exact ⟨_, _, a1, n1, c1, b1, m1, e1, _, rfl, wx, s1, _, _, a1, n1, c1, b1, m1, e1, s2, hP⟩
     · rw [hc.2, decide_eq_true hc.1] at h1; cases h1
   rintro wj ⟨hwj, hno⟩
   obtain rfl : w17 = wj := hwj.symm
   clear hwj
   refine ⟨rfl, h.kind, A4b.load1 aI rfl rfl, af.of (fun h1 => ?_) (fun h1 => ?_)⟩
   · have hk1 : h.kind ≠ 1 := by simpa using h1
     have hi : ¬ itself = true := fun hc => hno ⟨hk1, hc⟩
     refine ax (ci p ts (by omega) w17 (hA.below hB)) ?_
     rintro _ w40 ⟨rfl, hw40⟩
     rw [hw40]; clear hw40 w40
     refine ⟨_, rfl, ?_⟩
     rw [hlen]
     refine ax (Cg (k := ts.length + 1) (by omega) (by omega)) ?_
     intro v w41 hD
     obtain ⟨a1, n1, c1, b1, m1, e1, rfl, wx, s1, s2, hP⟩ := fin (by unfold jM; rw [if_pos hk1, if_neg hi]) hD
     exact ⟨_, _, a1, n1, c1, b1, m1, e1, _, rfl, wx, s1, _, _, a1, n1, c1, b1, m1, e1, s2, hP⟩
   have hk1 : h.kind = 1 := by simpa using h1
   refine ax (ci p ts (by omega) w17 (hA.below hB)) ?_
   rintro _ w46 ⟨rfl, hw46⟩
   rw [hw46]; clear hw46 w46
   refine ⟨_, rfl, ?_⟩
   rw [hlen]
   refine ax (zg hs17' (k := ts.length + 1) (by omega) (by omega) (iU ts h) (by omega)) ?_
   rintro _ w48 ⟨a1, n1, c1, b1, m1, e1, rfl, O, hb48⟩
   obtain ⟨wn, hwn⟩ : ∃ wn, wn = be ts h := ⟨_, rfl⟩
   obtain ⟨k, hkk⟩ : ∃ k, k = ts.length + 1 := ⟨_, rfl⟩
   obtain ⟨D, hD⟩ : ∃ D, D = chD k wn ((wn.length + 1 : Nat) : Int) := ⟨_, rfl⟩
   rw [<- hwn, <- hkk, <- hD] at O
   rw [<- hwn, <- hkk, <- hD]
   rw [<- hwn] at hwl
   have hB48 := ab hB hb48 hB.size
   refine ⟨_, _, a1, n1, c1, b1, m1, e1, _, rfl, ?_⟩
   intro k10 w10 hk10 hw10
   have hb10 := (hw10 ▸ ah w48 _ : Below w48.heap.size w48 w10)
   have A10 : am w10 k10 aj [.int .i64 0, .int .i64 0, .slice none 0 0, .slice none 0 0] := am.new hk10 hw10
   obtain ⟨wx, s3, v3, g3⟩ := bs.store0 (P := prog) (cs := daL a1 n1 c1 b1 m1 e1 D) rfl (kJ _ _ _ _ _ _ _) A10 rfl
   have hbx : Below w48.heap.size w48 wx := Below.put hb10 g3 (by omega)
   have M0 : Mb wx k10 a1 n1 c1 b1 m1 e1 D := ⟨v3, O.nx.below hbx, O.ac.below hbx, fun g hg e => by have := O.nx.lt g hg; omega, fun g hg e => by have := O.ac.lt g hg; omega, O.ne⟩
   have hBx := ab hB48 hbx hB48.size
   have hs48 := hb48.size
   have hs10 := hb10.size
   have hsx := hbx.size
   refine ⟨wx, s3, ?_⟩
   refine ⟨fun w' => w' = wx /\ itself = false, ⟨fun b w' => w' = wx /\ b = itself, af.no rfl ⟨rfl, rfl⟩, fun b => aE.of ?_ _⟩, aE.of ?_ _⟩
   · rintro wj2 ⟨rfl, rfl⟩
     refine af.of (fun h2 => ?_) (fun h2 => ⟨rfl, h2⟩)
     refine ⟨_, _, a1, n1, c1, b1, m1, e1, bs.load0 (cs := daL a1 n1 c1 b1 m1 e1 D) M0.var rfl, ?_⟩
     have A6x := (A6b.below hb48).below hbx
     obtain ⟨w4x, s4, s5, g4⟩ := fT A6x rfl a1 n1 c1 b1 m1 e1 D
     have eD : D = jM ts h b := by unfold jM; rw [if_neg (fun hc => hc hk1), if_pos h2, hD, <- hwn, <- hkk]
     refine ⟨w4x, s4, _, _, a1, n1, c1, b1, m1, e1, s5, ?_⟩
     rw [<- eD]
     exact eU.yes ⟨a1, n1, c1, b1, m1, e1, rfl, ((O.below hbx).put g4 (by omega)).mono hB.size, Below.put hBx g4 ho6⟩
   rintro wj2 ⟨hwj, hi⟩
   obtain rfl : wx = wj2 := hwj.symm
   clear hwj
   have hm1 := O.ac.len
   have hn1 := O.nx.len
   have hacl : D.ac.length = wn.length + 2 := by rw [hD]; exact gq wn
   have hnxl : D.nx.length = (wn.length + 2) * k := by rw [hD]; exact ot _ _ _
   have hkle : 1 <= k /\ k <= 512 := by omega
   refine ⟨rfl, b1, m1, e1, M0.var.load1 bg rfl rfl, rfl, b1, m1, e1, M0.var.load1 bg rfl rfl, ?_⟩
   have hac : D.ac = List.replicate (wn.length + 1) false ++ [true] := by rw [hD]; rfl
   have hsac : Sl ul wx gT b1 m1 e1 (List.replicate (wn.length + 1) false ++ [true]) := by rw [<- hac]; exact M0.ac.all
   refine ax (D8 hsac) ?_
   rintro _ w63 ⟨rfl, hw63⟩
   rw [hw63]; clear hw63 w63
   refine ⟨_, rfl, ?_⟩
   have hAx := hA.below hBx
   have hm1' : ((m1 : Nat) : Int) = ((wn.length + 2 : Nat) : Int) := by omega
   rw [hm1']
   refine ⟨fun W => ∃ a' n' c', UpS w17 k10 wx.heap.size ⟨D.k, D.st, D.nx ++ oK k ((wn.length + 2 : Nat) : Int), D.ac⟩ a' n' c' b1 m1 e1 W, ⟨rfl, a1, n1, c1, fun u hu => (M0.var.below hu).load1 bi rfl rfl, ((ts.length : Int) + 1), fun u hu => ?_, fun k67 hk67 => ?_⟩, aE.of ?_ _⟩
   · refine (ci p ts (by omega) u (hAx.below hu)).mono ?_
     rintro e w' ⟨v, rfl, rfl, rfl⟩
     exact ⟨rfl, Below.refl _ _⟩
   · refine ⟨fun aa ll cc W => ll = k /\ cc = k /\ Sl i7 W (fun g => wx.heap.size <= g) aa ll cc (oK k ((wn.length + 2 : Nat) : Int)), ?_, ?_, ?_⟩
     · rintro aa ll cc x y ⟨rfl, rfl, hs⟩ hb
       exact ⟨rfl, rfl, hs.below hb⟩
     · intro u70 hu hcell
       have hsl : Sl i7 u70 gT (some ⟨k67, 0, none⟩) 1 1 [((wn.length + 2 : Nat) : Int)] := by
         refine ⟨rfl, Nat.le_refl _, by decide, .inr ⟨k67, 0, rfl, (Array.getElem?_eq_some_iff.1 hcell).1, trivial, [.int .i64 ((wn.length + 2 : Nat) : Int)], gw.one iY, fun j hj => ?_⟩⟩
         rw [eQ hcell, Nat.zero_add]; simp
       rw [hlen, <- hkk]
       refine (wO hsl hkle.1 (by omega)).mono ?_
       rintro _ w70 ⟨_, rfl, a', rfl, ho', hf', hb'⟩
       refine ⟨a', k, k, rfl, ⟨rfl, rfl, ho'.sl (fun b _ hb => hb.elim) fun g hg => ?_⟩, hb'⟩
       have := hf' g hg
       have := hu.size
       omega
     rintro aa ll cc wq hq ⟨hll, hcc, hs⟩ hcell
     rw [hll, hcc] at hs
     rw [hll, hcc]
     have Mq := M0.below hq
     obtain ⟨w71, a3, n3, c3, r71, o71, g71, f71⟩ := cJ (ty := aA) bi jA (by decide) Mq.nx (fun _ _ h => h) (cm := k) (hs.flat jr) (by rw [hnxl]; simp [oK]; have : (wn.length + 2) * k <= 129 * 512 := Nat.mul_le_mul (by omega) (by omega); omega)
     have v71 := Mq.var.grown g71 fun ex => M0.na k10 ex.symm rfl
     have hqs := hq.size
     have kl := M0.var.lt
     have hne3 : ∀ g, bE a3 = some g -> g ≠ k10 := fun g hg ex => by
       rcases f71 g hg with h1 | h1
       · exact M0.na g h1 ex
       · omega
     have o71b := Mq.ac.other g71 fun g hg ex => M0.ne g ex hg
     obtain ⟨w5, s5, v5, g5⟩ := v71.store xk (i := 2) (v := .slice a3 n3 c3) rfl (by simp) (by intro c hc; simp [Value.cells] at hc; subst hc; rfl)
     have v5 : am w5 k10 aj [.int .i64 D.k, .int .i64 D.st, .slice a3 n3 c3, .slice b1 m1 e1] := v5
     have old3 : ∀ g, bE a3 = some g -> w17.heap.size <= g := fun g hg => by
       rcases f71 g hg with h1 | h1
       · exact O.fa g h1
       · omega
     have hb17x : Below w17.heap.size w17 wx := ab hb48 hbx hb48.size
     have hb17q : Below w17.heap.size w17 wq := ab hb17x hq hb17x.size
     have hb5 : Below w17.heap.size w17 w5 := (hb17q.grown g71 hb17q.size fun g hg => O.fa g hg).grown g5 (Nat.le_trans hb17q.size g71.size) fun x ex => by cases ex; omega
     refine ⟨w71, a3, n3, c3, r71, rfl, w5, s5, a3, n3, c3, ⟨v5, o71.put (fun g hg ex => hne3 g hg ex) g5, o71b.put (fun g hg ex => M0.nb g hg ex) g5, hne3, M0.nb, fun g hg ex => ?_⟩, hb5, old3, O.fb, Nat.le_trans hqs (Nat.le_trans g71.size g5.size)⟩
     rcases f71 g hg with h1 | h1
     · exact M0.ne g h1 ex
     · have := M0.ac.lt g ex; omega
   rintro w74 ⟨a2, n2, c2, U0⟩
   have hBU : ∀ {W : World} {d : DA} {a2 : Option Addr} {n2 c2 : Nat} {b2 : Option Addr} {m2 e2 : Nat}, UpS w17 k10 wx.heap.size d a2 n2 c2 b2 m2 e2 W -> Below w.heap.size w W := fun U => ab hB U.bel hB.size
   refine ax (ci p ts (by omega) w74 (hA.below (hBU U0))) ?_
   rintro _ w74' ⟨rfl, hw74⟩
   rw [hw74]; clear hw74 w74'
   refine ⟨_, rfl, ?_⟩
   have hk10x : k10 < wx.heap.size := M0.var.lt
   obtain ⟨nx0, hnx0⟩ : ∃ nx0, nx0 = D.nx ++ oK k ((wn.length + 2 : Nat) : Int) := ⟨_, rfl⟩
   rw [<- hnx0] at U0
   have hnx0l : nx0.length = (wn.length + 3) * k := by rw [hnx0, List.length_append, hnxl, oK, List.length_replicate, <- Nat.succ_mul]
   have hmul : (wn.length + 3) * k = (wn.length + 1) * k + k + k := by rw [show wn.length + 3 = (wn.length + 1) + 1 + 1 from rfl, Nat.succ_mul, Nat.succ_mul]
   have hmul2 : (wn.length + 1) * k <= 128 * 512 := Nat.mul_le_mul (by omega) (by omega)
   rw [hlen, <- hkk]
   refine ⟨fun m i W => ∃ (j : Nat) (a2 : Option Addr) (n2 c2 : Nat), j <= k /\ i = (j : Int) /\ m = k - j /\ UpS w17 k10 wx.heap.size ⟨D.k, D.st, gd k (wn.length + 1) ((wn.length + 2 : Nat) : Int) nx0 j, D.ac⟩ a2 n2 c2 b1 m1 e1 W, ⟨_, 0, a2, n2, c2, by omega, rfl, rfl, U0⟩, ?_⟩
   intro m i
   refine aE.of ?_ _
   rintro wl ⟨j, a4, n4, c4, hj, rfl, rfl, U⟩
   have hn4 := U.mb.nx.len
   have hn4' : n4 = (wn.length + 3) * k := by rw [hn4]; show (gd _ _ _ _ _).length = _; rw [nT]; exact hnx0l
   refine af.of (fun h3 => ?_) (fun h3 => ?_) <;> simp only [dTx, dFx] at h3
   · have hjk : j < k := by omega
     have hw1 : i64.wrap (((wn.length + 1 : Nat) : Int) * ((k : Nat) : Int)) = (((wn.length + 1) * k : Nat) : Int) := by
       rw [<- Int.natCast_mul]; exact ak (by omega) (by omega)
     have hw2 : i64.wrap (i64.wrap (((wn.length + 1 : Nat) : Int) * ((k : Nat) : Int)) + (j : Int)) = (((wn.length + 1) * k + j : Nat) : Int) := by
       rw [hw1, ak (by omega) (by omega)]; omega
     have hidx : (wn.length + 1) * k + j < (gd k (wn.length + 1) ((wn.length + 2 : Nat) : Int) nx0 j).length := by rw [nT, hnx0l]; omega
     refine ⟨rfl, a4, n4, c4, fun u hu => (U.mb.var.below hu).load1 bi rfl rfl, ((k : Nat) : Int), fun u hu => ?_, ?_⟩
     · have h1 := ci p ts (by omega) u ((hA.below (hBU U)).below hu)
       rw [hlen, <- hkk] at h1
       refine h1.mono ?_
       rintro e w' ⟨v, rfl, rfl, rfl⟩
       exact ⟨rfl, Below.refl _ _⟩
     rw [hw2]
     refine ⟨⟨⟨by omega, by omega⟩, U.mb.nx.all.isSome hidx⟩, fun wq hq => ?_⟩
     have Mq := U.mb.below hq
     obtain ⟨w6x, s6, o6, g6⟩ := Mq.nx.store (P := prog) jA (i := (((wn.length + 1) * k + j : Nat) : Int)) (k := 1) (fun _ _ h => h) (by rw [Int.toNat_natCast]; exact hidx) rfl (v := .int .i64 ((wn.length + 2 : Nat) : Int)) (x := ((wn.length + 2 : Nat) : Int)) iY
     rw [Int.toNat_natCast] at o6
     refine ⟨w6x, s6, k - (j + 1), by omega, j + 1, a4, n4, c4, by omega, by rw [ak (by omega) (by omega)]; omega, rfl, ⟨⟨Mq.var.grown g6 (fun ex => U.mb.na k10 ex.symm rfl), o6, Mq.ac.other g6 (fun g hg ex => U.mb.ne g ex hg), U.mb.na, U.mb.nb, U.mb.ne⟩, ?_, U.fa, U.fb, ?_⟩⟩
     · have h1 := ab U.bel hq U.bel.size
       exact h1.grown g6 h1.size fun g hg => U.fa g hg
     · exact Nat.le_trans U.le (Nat.le_trans hq.size g6.size)
   have hjk : j = k := by omega
   subst hjk
   have kl := U.mb.var.lt
   have hidx : (((wn.length + 1 : Nat) : Int)).toNat < D.ac.length := by rw [Int.toNat_natCast]; omega
   refine ⟨rfl, b1, m1, e1, U.mb.var.load1 bg rfl rfl, ⟨⟨by omega, by omega⟩, U.mb.ac.all.isSome (i := wn.length + 1) (by show wn.length + 1 < D.ac.length; omega)⟩, ?_⟩
   obtain ⟨w7, s7, o7, g7⟩ := U.mb.ac.store (P := prog) uo (i := ((wn.length + 1 : Nat) : Int)) (k := 1) (fun _ _ h => h) hidx rfl (v := .bool false) (x := false) zT
   rw [Int.toNat_natCast] at o7
   have v7 := U.mb.var.grown g7 (fun ex => U.mb.nb k10 ex.symm rfl)
   have x7 := U.mb.nx.other g7 U.mb.ne
   have B7 : Below w17.heap.size w17 w7 := U.bel.grown g7 U.bel.size fun g hg => U.fb g hg
   have s7' : wl.heap.size <= w7.heap.size := g7.size
   have hac1 : (D.ac.set (wn.length + 1) false).length = wn.length + 2 := by rw [List.length_set]; exact hacl
   refine ⟨w7, s7, rfl, b1, m1, e1, v7.load1 bg rfl rfl, ?_⟩
   intro k95 w95 hk95 hw95
   have hb95 := (hw95 ▸ ah w7 _ : Below w7.heap.size w7 w95)
   have hsrc : Src ul w95 NoB (some ⟨k95, 0, none⟩) 1 [true] := Src.new1F wg hk95 hw95 zT
   obtain ⟨w96, b3, m3, e3, r96, o96, g96, f96⟩ := cJ (ty := aS) bg uo (by decide) (o7.below hb95) (fun _ _ h => h) (cm := 1) hsrc (by rw [hac1]; simp; omega)
   have v96 := (v7.below hb95).grown g96 fun ex => U.mb.nb k10 ex.symm rfl
   have x96 := (x7.below hb95).other g96 U.mb.ne
   have s95 := hb95.size
   have hne3 : ∀ g, bE b3 = some g -> g ≠ k10 := fun g hg ex => by
     rcases f96 g hg with h1 | h1
     · exact U.mb.nb g h1 ex
     · omega
   have fb3 : ∀ g, bE b3 = some g -> w17.heap.size <= g := fun g hg => by
     rcases f96 g hg with h1 | h1
     · exact U.fb g h1
     · have := B7.size; omega
   obtain ⟨w8, s8, v8, g8⟩ := v96.store yN (i := 3) (v := .slice b3 m3 e3) rfl (by simp) (by intro c hc; simp [Value.cells] at hc; subst hc; rfl)
   have v8 : am w8 k10 aj (daL a4 n4 c4 b3 m3 e3 (upD j wn)) := by
     have e1 : D.k = (j : Int) := by rw [hD]; rfl
     have e2 : D.st = 1 := by rw [hD]; rfl
     rw [e1, e2] at v8
     exact v8
   have B96 : Below w17.heap.size w17 w96 := (ab B7 hb95 B7.size).grown g96 (ab B7 hb95 B7.size).size fun g hg => U.fb g hg
   have B8 : Below w17.heap.size w17 w8 := B96.grown g8 B96.size fun x ex => by cases ex; omega
   have x8 := x96.put (fun g hg ex => U.mb.na g hg ex) g8
   have o8 := o96.put (fun g hg ex => hne3 g hg ex) g8
   have eup : (⟨D.k, D.st, gd j (wn.length + 1) ((wn.length + 2 : Nat) : Int) nx0 j, D.ac.set (wn.length + 1) false ++ [true]⟩ : DA) = upD j wn := by
     unfold upD
     rw [hnx0, hD]; rfl
   have e8n : (upD j wn).nx = gd j (wn.length + 1) ((wn.length + 2 : Nat) : Int) nx0 j := by rw [<- eup]
   have e8a : (upD j wn).ac = D.ac.set (wn.length + 1) false ++ [true] := by rw [<- eup]
   obtain ⟨w9, s9, s9', g9⟩ := fT (A6b.below B8) rfl a4 n4 c4 b3 m3 e3 (upD j wn)
   have eD : upD j wn = jM ts h itself := by unfold jM; rw [if_neg (fun hc => hc hk1), if_neg (by rw [hi]; simp), <- hwn, <- hkk]
   refine ⟨w96, b3, m3, e3, r96, rfl, w8, s8, _, _, a4, n4, c4, b3, m3, e3, bs.load0 (cs := daL a4 n4 c4 b3 m3 e3 (upD j wn)) v8 rfl, w9, s9, _, _, a4, n4, c4, b3, m3, e3, s9', ?_⟩
   rw [<- eD]
   have OO : Ai w17.heap.size w8 a4 n4 c4 b3 m3 e3 (upD j wn) := ⟨by rw [e8n]; exact x8, by rw [e8a]; exact o8, fun g hg ex => by
     rcases f96 g ex with h1 | h1
     · exact U.mb.ne g hg h1
     · have := x7.lt g hg; omega, U.fa, fb3⟩
   exact eU.yes ⟨a4, n4, c4, b3, m3, e3, rfl, (OO.put g9 (by omega)).mono hB.size, Below.put (ab hB B8 hB.size) g9 ho6⟩
theorem kK {h : Hst} (o : h.ok) (hn : h.name.length <= 1000000) {w : World} (he : Env w) {p : Option Addr} {ts : List Txt} (hA : gU w p ts) (htl : ts.length <= 511) :
   Calls prog gB #[.pointer p, h.v] w (Ret (eU (kB ts h) (jM ts h false) w)) := by
 apply uc
 unfold pg
 intro k3 w3 hk3 hw3 k4 w4 hk4 hw4
 have hb3 := (hw3 ▸ ah w _ : Below w.heap.size w w3)
 have hb4 := (hw4 ▸ ah w3 _ : Below w3.heap.size w3 w4)
 have A3 : am w3 k3 ae h.cells := am.new hk3 hw3
 have A4 : am w4 k4 aj [.int .i64 0, .int .i64 0, .slice none 0 0, .slice none 0 0] := am.new hk4 hw4
 have hB4 := ab hb3 hb4 hb3.size
 have hlt := A4.lt
 have ho4 : w.heap.size <= k4 := by have := hb3.size; omega
 refine ⟨_, aB.load0 (A3.below hb4) (Hst.len o), ?_⟩
 refine ax (oY o hn (he.step hB4) (hA.below hB4) htl false) ?_
 intro v w8 hS
 cases hk : kB ts h with
 | false =>
   rw [hk] at hS
   obtain ⟨rfl, hb8⟩ := hS
   obtain ⟨wx, s1, s2, g1⟩ := fT (A4.below hb8) rfl none 0 0 none 0 0 ⟨0, 0, [], []⟩
   exact ⟨_, _, none, 0, 0, none, 0, 0, _, rfl, wx, s1, _, _, none, 0, 0, none, 0, 0, s2, eU.no (Below.put (ab hB4 hb8 hB4.size) g1 ho4)⟩
 | true =>
   rw [hk] at hS
   obtain ⟨a1, n1, c1, b1, m1, e1, rfl, O, hb8⟩ := hS
   obtain ⟨wx, s1, s2, g1⟩ := fT (A4.below hb8) rfl a1 n1 c1 b1 m1 e1 (jM ts h false)
   exact ⟨_, _, a1, n1, c1, b1, m1, e1, _, rfl, wx, s1, _, _, a1, n1, c1, b1, m1, e1, s2, eU.yes ⟨a1, n1, c1, b1, m1, e1, rfl, (O.put g1 hlt).mono hB4.size, Below.put (ab hB4 hb8 hB4.size) g1 ho4⟩⟩
theorem j3 {h : Hst} (o : h.ok) (hn : h.name.length <= 1000000) {w : World} (he : Env w) {p : Option Addr} {ts : List Txt} (hA : gU w p ts) (htl : ts.length <= 511) :
   Calls prog fX #[.pointer p, h.v] w (Ret (eU (kB ts h) (jM ts h true) w)) := by
 apply sM
 unfold nX
 intro k3 w3 hk3 hw3 k4 w4 hk4 hw4
 have hb3 := (hw3 ▸ ah w _ : Below w.heap.size w w3)
 have hb4 := (hw4 ▸ ah w3 _ : Below w3.heap.size w3 w4)
 have A3 : am w3 k3 ae h.cells := am.new hk3 hw3
 have A4 : am w4 k4 aj [.int .i64 0, .int .i64 0, .slice none 0 0, .slice none 0 0] := am.new hk4 hw4
 have hB4 := ab hb3 hb4 hb3.size
 have hlt := A4.lt
 have ho4 : w.heap.size <= k4 := by have := hb3.size; omega
 refine ⟨_, aB.load0 (A3.below hb4) (Hst.len o), ?_⟩
 refine ax (oY o hn (he.step hB4) (hA.below hB4) htl true) ?_
 intro v w8 hS
 cases hk : kB ts h with
 | false =>
   rw [hk] at hS
   obtain ⟨rfl, hb8⟩ := hS
   obtain ⟨wx, s1, s2, g1⟩ := fT (A4.below hb8) rfl none 0 0 none 0 0 ⟨0, 0, [], []⟩
   exact ⟨_, _, none, 0, 0, none, 0, 0, _, rfl, wx, s1, _, _, none, 0, 0, none, 0, 0, s2, eU.no (Below.put (ab hB4 hb8 hB4.size) g1 ho4)⟩
 | true =>
   rw [hk] at hS
   obtain ⟨a1, n1, c1, b1, m1, e1, rfl, O, hb8⟩ := hS
   obtain ⟨wx, s1, s2, g1⟩ := fT (A4.below hb8) rfl a1 n1 c1 b1 m1 e1 (jM ts h true)
   exact ⟨_, _, a1, n1, c1, b1, m1, e1, _, rfl, wx, s1, _, _, a1, n1, c1, b1, m1, e1, s2, eU.yes ⟨a1, n1, c1, b1, m1, e1, rfl, (O.put g1 hlt).mono hB4.size, Below.put (ab hB4 hb8 hB4.size) g1 ho4⟩⟩
end Go.Proofs.YtpafoodmpjlkhaaGreatDoor
namespace Go.Proofs.YtpafoodmpjlkhaaGreatDoor
open Go.Pk
open Go.RowKit (Below)
noncomputable def xG (ts : List Txt) : DA := hD (hAd ts) (hLb ts) (hDg ts) (ts.length + 1)
theorem FT {ts : List Txt} (hl : ts.length <= 60) (hx : ∀ t ∈ ts, t.length <= 1000) {x : Nat} (h : x <= ts.length) : (tx ts x).length <= 1000 := by
 rcases Nat.lt_or_ge x ts.length with h1 | h1
 · rw [CN h1]; exact hx _ (List.getElem_mem h1)
 · have : x = ts.length := by omega
   subst this
   rw [uq]
   have := (gH (lJ hl)).2.1
   omega
set_option maxHeartbeats 1000000 in
theorem uZ {w : World} (he : Env w) {p : Option Addr} {ts : List Txt} (hA : gU w p ts) (htl : ts.length <= 60) (hx : ∀ t ∈ ts, t.length <= 1000) : Calls prog gA #[.pointer p] w (Ret (xD w (xG ts))) := by
 apply nO
 unfold kP
 intro k2 w2 hk2 hw2
 have hb2 := (hw2 ▸ ah w _ : Below w.heap.size w w2)
 have A2 : am w2 k2 aj [.int .i64 0, .int .i64 0, .slice none 0 0, .slice none 0 0] := am.new hk2 hw2
 refine ax (ci p ts (by omega) w2 (hA.below hb2)) ?_
 rintro _ w9 ⟨rfl, hw9⟩
 rw [hw9]; clear hw9 w9
 have hlen : ((ts.length : Int) + 1) = ((ts.length + 1 : Nat) : Int) := by omega
 obtain ⟨k, hkk⟩ : ∃ k, k = ts.length + 1 := ⟨_, rfl⟩
 refine ⟨_, rfl, af.no (decide_eq_false (by omega)) ?_⟩
 rw [hlen, <- hkk]
 have e4 : i64.wrap ((4 : Int) * ((k : Nat) : Int)) = ((4 * k : Nat) : Int) := by rw [ak (by omega) (by omega)]; omega
 rw [e4]
 obtain ⟨w16, a16, s16, o16, b16, f16⟩ := GE (P := prog) (s := aA) (t := az) (e := fun n => Value.int .i64 n) (h1 := fun _ => rfl) (p := fun _ => True) bi jA (x0 := (0 : Int)) rfl rfl trivial .i64 .i64 (4 * k) (by omega) (by omega) w2 NoB
 refine ⟨w16, a16, _, _, s16, ?_⟩
 intro k17 w17 hk17 hw17 k5 w5 hk5 hw5
 have hb17 := (hw17 ▸ ah w16 _ : Below w16.heap.size w16 w17)
 have hb5 := (hw5 ▸ ah w17 _ : Below w17.heap.size w17 w5)
 have O17 : Ow ul eV w17 NoB (some ⟨k17, 0, none⟩) 4 4 [false, false, true, true] :=
   Ow.newF (l := [Value.bool false, .bool false, .bool true, .bool true]) (T := ul) wg hk17 hw17 (fv (e := fun b => Value.bool b) (h1 := fun _ => rfl) (p := fun _ => True) (xs := [false, false, true, true]) (fun _ _ => trivial)) (by decide)
 have A5 : am w5 k5 aj [.int .i64 0, .int .i64 0, .slice none 0 0, .slice none 0 0] := am.new hk5 hw5
 obtain ⟨d0', hd0⟩ : ∃ d : DA, d = ⟨(k : Int), 1, List.replicate (4 * k) 0, [false, false, true, true]⟩ := ⟨_, rfl⟩
 obtain ⟨wx, s3, v3, g3⟩ := bs.store0 (P := prog) (cs := daL a16 (4 * k) (4 * k) (some ⟨k17, 0, none⟩) 4 4 d0') rfl (kJ _ _ _ _ _ _ _) A5 rfl
 have s2 := hb2.size
 have s16' := b16.size
 have s17 := hb17.size
 have s5 := hb5.size
 have l2 := A2.lt
 have l17 : k17 < w17.heap.size := O17.lt k17 (by simp [bE])
 have ob17 : ∀ g, bE (some (⟨k17, 0, none⟩ : Addr)) = some g -> g = k17 := fun g hg => by simp [bE] at hg; exact hg.symm
 have hB5 : Below w.heap.size w w5 := ab (ab (ab hb2 b16 hb2.size) hb17 (by omega)) hb5 (by omega)
 have hBx : Below w.heap.size w wx := Below.put hB5 g3 (by omega)
 have bx5 : Below w5.heap.size w5 w5 := Below.refl _ _
 have n5 : ∀ g, bE a16 = some g -> g ≠ k5 := fun g hg e => by have := o16.lt g hg; omega
 have U0 : UpS w k5 0 ⟨(k : Int), 1, hNx (hAd ts) (hLb ts) (hDg ts) k 0, [false, false, true, true]⟩ a16 (4 * k) (4 * k) (some ⟨k17, 0, none⟩) 4 4 wx := by
   rw [Gy]
   rw [hd0] at v3
   refine ⟨⟨v3, ((o16.below hb17).below hb5).put (fun g hg e => n5 g hg e) g3, (O17.below hb5).put (fun g hg e => by have := ob17 g hg; omega) g3, n5, fun g hg e => by have := ob17 g hg; omega, fun g hg e => ?_⟩, hBx, fun g hg => by have := f16 g hg; omega, fun g hg => by have := ob17 g hg; omega, Nat.zero_le _⟩
   have := ob17 g e
   have := o16.lt g hg
   omega
 have A2x : ∀ {W : World}, Below w2.heap.size w2 W -> am W k2 aj [.int .i64 0, .int .i64 0, .slice none 0 0, .slice none 0 0] := fun h => A2.below h
 have hB2x : Below w2.heap.size w2 wx := Below.put (ab (ab b16 hb17 (by omega)) hb5 (by omega)) g3 (by omega)
 rw [hd0] at s3
 refine ⟨wx, s3, fun m i W => ∃ j : Nat, j <= k /\ i = (j : Int) /\ m = k - j /\ UpS w k5 0 ⟨(k : Int), 1, hNx (hAd ts) (hLb ts) (hDg ts) k j, [false, false, true, true]⟩ a16 (4 * k) (4 * k) (some ⟨k17, 0, none⟩) 4 4 W /\ Below w2.heap.size w2 W, ⟨_, 0, by omega, rfl, rfl, U0, hB2x⟩, ?_⟩
 intro m i
 refine aE.of ?_ _
 rintro wl ⟨j, hj, rfl, rfl, U, hW2⟩
 have hnl : ∀ j, (hNx (hAd ts) (hLb ts) (hDg ts) k j).length = 4 * k := fun j => tR _ _ _ _ _
 refine af.of (fun h3 => ?_) (fun h3 => ?_) <;> simp only [dTx, dFx] at h3
 · have hjk : j < k := by omega
   refine ax (ny p ts (by omega) (j : Int) wl (hA.below U.bel)) ?_
   rintro _ w25 ⟨rfl, hb25⟩
   have hst : py ts (j : Int) = tx ts j := rfl
   have hl1 : (tx ts j).length <= 1000 := FT htl hx (by omega)
   refine ⟨_, rfl, ?_⟩
   rw [hst]
   have B25 := ab U.bel hb25 U.bel.size
   refine ax (mP (tx ts j) (by omega) w25 (he.step B25)) ?_
   rintro _ w28 ⟨rfl, hb28⟩
   have hb28' := ab hb25 hb28 hb25.size
   -- a way more
   have put : ∀ {W : World} {nx : List Int} (c : Nat) (v : Int), c < 4 -> nx.length = 4 * k -> UpS w k5 0 ⟨(k : Int), 1, nx, [false, false, true, true]⟩ a16 (4 * k) (4 * k) (some ⟨k17, 0, none⟩) 4 4 W -> Below w2.heap.size w2 W ->
       (Instr.loadAt aA (.pointer (some ⟨k5, 2, none⟩))).run prog W = .ok (.slice a16 (4 * k) (4 * k)) W /\ ((0 <= i64.wrap (i64.wrap ((c : Int) * ((k : Nat) : Int)) + (j : Int)) /\ i64.wrap (i64.wrap ((c : Int) * ((k : Nat) : Int)) + (j : Int)) < ((4 * k : Nat) : Int)) /\ Option.isSome a16 = true) /\
       ∃ wy, (Instr.storeAt az (.pointer (ao a16 (i64.wrap (i64.wrap ((c : Int) * ((k : Nat) : Int)) + (j : Int))) 1)) (.int .i64 v)).run prog W = .ok () wy /\ UpS w k5 0 ⟨(k : Int), 1, nx.set (c * k + j) v, [false, false, true, true]⟩ a16 (4 * k) (4 * k) (some ⟨k17, 0, none⟩) 4 4 wy /\ Below w2.heap.size w2 wy := by
     intro W nx c v hc hn U hW
     have hck : c * k <= 3 * k := Nat.mul_le_mul_right k (by omega)
     have e1 : i64.wrap (i64.wrap ((c : Int) * ((k : Nat) : Int)) + (j : Int)) = ((c * k + j : Nat) : Int) := by
       rw [<- Int.natCast_mul, ak (n := ((c * k : Nat) : Int)) (by omega) (by omega), ak (by omega) (by omega)]; omega
     rw [e1]
     have hidx : c * k + j < nx.length := by omega
     obtain ⟨wy, s6, o6, g6⟩ := U.mb.nx.store (P := prog) jA (i := ((c * k + j : Nat) : Int)) (k := 1) (fun _ _ h => h) (by rw [Int.toNat_natCast]; exact hidx) rfl (v := .int .i64 v) (x := v) iY
     rw [Int.toNat_natCast] at o6
     refine ⟨U.mb.var.load1 bi rfl rfl, ⟨⟨by omega, by omega⟩, U.mb.nx.all.isSome hidx⟩, wy, s6, ⟨⟨U.mb.var.grown g6 (fun ex => U.mb.na k5 ex.symm rfl), o6, U.mb.ac.other g6 (fun g hg ex => U.mb.ne g ex hg), U.mb.na, U.mb.nb, U.mb.ne⟩, U.bel.grown g6 U.bel.size fun g hg => U.fa g hg, U.fa, U.fb, Nat.zero_le _⟩, hW.grown g6 hW.size fun g hg => ?_⟩
     exact f16 g hg
   have up : ∀ {W : World} {nx : List Int} {W' : World}, UpS w k5 0 ⟨(k : Int), 1, nx, [false, false, true, true]⟩ a16 (4 * k) (4 * k) (some ⟨k17, 0, none⟩) 4 4 W -> Below W.heap.size W W' -> UpS w k5 0 ⟨(k : Int), 1, nx, [false, false, true, true]⟩ a16 (4 * k) (4 * k) (some ⟨k17, 0, none⟩) 4 4 W' := fun U hb => ⟨U.mb.below hb, ab U.bel hb U.bel.size, U.fa, U.fb, Nat.zero_le _⟩
   have again : ∀ {W : World} {nx : List Int}, nx = hNx (hAd ts) (hLb ts) (hDg ts) k (j + 1) -> UpS w k5 0 ⟨(k : Int), 1, nx, [false, false, true, true]⟩ a16 (4 * k) (4 * k) (some ⟨k17, 0, none⟩) 4 4 W -> Below w2.heap.size w2 W ->
       ∃ m' : Nat, m' < k - j /\ ∃ j' : Nat, j' <= k /\ i64.wrap ((j : Int) + 1) = (j' : Int) /\ m' = k - j' /\ UpS w k5 0 ⟨(k : Int), 1, hNx (hAd ts) (hLb ts) (hDg ts) k j', [false, false, true, true]⟩ a16 (4 * k) (4 * k) (some ⟨k17, 0, none⟩) 4 4 W /\ Below w2.heap.size w2 W := by
     rintro W nx rfl U hW
     exact ⟨k - (j + 1), by omega, j + 1, by omega, by rw [ak (by omega) (by omega)]; omega, rfl, U, hW⟩
   have U28 := up U hb28'
   have W28 : Below w2.heap.size w2 w28 := ab hW2 hb28' hW2.size
   refine ⟨_, rfl, af.of (fun c1 => ?_) (fun c1 => ?_)⟩
   · obtain ⟨q1, q2, wy, q3, U', W'⟩ := put 1 3 (by omega) (hnl j) U28 W28
     exact ⟨rfl, a16, _, _, q1, q2, wy, q3, again (zw (by omega) (by rw [show hAd ts j = true from c1]; simp)) U' W'⟩
   · refine ax (o0 (tx ts j) (by omega) w28 (he.step U28.bel)) ?_
     rintro _ w38 ⟨rfl, hb38⟩
     have U38 := up U28 hb38
     have W38 : Below w2.heap.size w2 w38 := ab W28 hb38 W28.size
     have c1' : hAd ts j = false := c1
     refine ⟨_, rfl, af.of (fun c2 => ?_) (fun c2 => ?_)⟩
     · have c2' : hLb ts j = true := c2
       obtain ⟨q1, q2, wy, q3, U', W'⟩ := put 2 2 (by omega) (hnl j) U38 W38
       refine ⟨rfl, a16, _, _, q1, q2, wy, q3, ?_⟩
       refine ax (lS (tx ts j) (by omega) wy) ?_
       rintro _ w47 ⟨rfl, hb47⟩
       have U47 := up U' hb47
       have W47 : Below w2.heap.size w2 w47 := ab W' hb47 W'.size
       refine ⟨_, rfl, af.of (fun c3 => ?_) (fun c3 => ?_)⟩
       · have c3' : hDg ts j = false := by
           have : (!bU (tx ts j)) = true := c3
           show bU (tx ts j) = false
           simpa using this
         obtain ⟨r1, r2, wz, r3, U'', W''⟩ := put 1 2 (by omega) (by rw [List.length_set]; exact hnl j) U47 W47
         exact ⟨rfl, a16, _, _, r1, r2, wz, r3, again (zw (by omega) (by rw [c1', c2', c3']; simp)) U'' W''⟩
       · have c3' : hDg ts j = true := by
           have : (!bU (tx ts j)) = false := c3
           show bU (tx ts j) = true
           simpa using this
         exact again (zw (by omega) (by rw [c1', c2', c3']; simp)) U47 W47
     · have c2' : hLb ts j = false := c2
       exact again (zw (by omega) (by rw [c1', c2']; simp)) U38 W38
 · have hjk : j = k := by omega
   subst hjk
   have eD : (⟨(j : Int), 1, hNx (hAd ts) (hLb ts) (hDg ts) j j, [false, false, true, true]⟩ : DA) = xG ts := by unfold xG hD; rw [hkk]
   rw [eD] at U
   obtain ⟨w9, s9, s9', g9⟩ := fT (A2x hW2) rfl a16 (4 * j) (4 * j) (some ⟨k17, 0, none⟩) 4 4 (xG ts)
   have OO : Ai w.heap.size wl a16 (4 * j) (4 * j) (some ⟨k17, 0, none⟩) 4 4 (xG ts) := ⟨U.mb.nx, U.mb.ac, U.mb.ne, U.fa, U.fb⟩
   have f2 : ∀ g, bE a16 = some g -> g ≠ k2 := fun g hg e => by have := f16 g hg; omega
   have O9 : Ai w.heap.size w9 a16 (4 * j) (4 * j) (some ⟨k17, 0, none⟩) 4 4 (xG ts) := ⟨U.mb.nx.put (fun g hg e => f2 g hg e) g9, U.mb.ac.put (fun g hg e => by have := ob17 g hg; omega) g9, U.mb.ne, U.fa, U.fb⟩
   exact ⟨_, _, a16, _, _, some ⟨k17, 0, none⟩, 4, 4, bs.load0 (cs := daL a16 (4 * j) (4 * j) (some ⟨k17, 0, none⟩) 4 4 (xG ts)) U.mb.var rfl, w9, s9, _, _, a16, _, _, some ⟨k17, 0, none⟩, 4, 4, s9', a16, _, _, some ⟨k17, 0, none⟩, 4, 4, rfl, O9, Below.put U.bel g9 (by omega)⟩
end Go.Proofs.YtpafoodmpjlkhaaGreatDoor
namespace Go.Pk
def Few (a b : DA) : Prop := ∀ ps : List Pr, ps.Nodup -> (∀ p ∈ ps, ∃ w : List Nat, (∀ x ∈ w, x < a.K) /\ Bo a b (a.s, b.s) w = p) -> ps.length <= 65536
theorem zk {a b : DA} (ha : a.Ok) (hb : b.Ok) (hk : a.k = b.k) (h : a.n * b.n <= 65536) : Few a b := fun ps hn hp => by
 have hK : b.K = a.K := by unfold DA.K; rw [hk]
 refine Nat.le_trans (Bg hn fun p hpm => ?_) h
 obtain ⟨w, hw, rfl⟩ := hp p hpm
 exact ⟨ha.run_lt ha.s_lt hw, hb.run_lt hb.s_lt (by rw [hK]; exact hw)⟩
theorem Few.congr {a b a' b' : DA} (h : Few a b) (ka : a'.k = a.k) (sa : a'.st = a.st) (na : a'.nx = a.nx) (kb : b'.k = b.k) (sb : b'.st = b.st) (nb : b'.nx = b.nx) : Few a' b' := fun ps hn hp => by
 have Bw : ∀ {d d' : DA}, d'.k = d.k -> d'.nx = d.nx -> ∀ (w : List Nat) (s : Nat), d'.run s w = d.run s w := by
   intro d d' hk hx w
   induction w with
   | nil => intro s; rfl
   | cons x w ih =>
     intro s
     show d'.run (d'.to s x) w = d.run (d.to s x) w
     rw [ih]
     unfold DA.to DA.K
     rw [hk, hx]
 refine h ps hn fun p hpm => ?_
 obtain ⟨w, hw, e⟩ := hp p hpm
 refine ⟨w, by unfold DA.K at hw ⊢; rwa [ka] at hw, ?_⟩
 rw [<- e]
 unfold Bo DA.s
 rw [Bw ka na, Bw kb nb, sa, sb]
end Go.Pk
