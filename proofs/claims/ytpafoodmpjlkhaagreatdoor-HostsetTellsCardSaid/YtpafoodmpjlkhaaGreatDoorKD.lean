/- What the laws lean on: AddrE, AddrF, AddrG, AddrH, AddrI, Eq, HostA, HostB, HostC, V30, Sort, Iter, M, ShelfSort, SymD, SymP, SymE, SymQ; what is used. Its conditions: none. -/
import Derived.Test.YtpafoodmpjlkhaaGreatDoorKC
import Derived.Lib.ItoaLen
import Derived.Laws.StructEq
import Derived.Sort.Row
import Derived.Sort.Grow
import Derived.Sort.EncStr
import Derived.RangeFuncBox
import Derived.RangeFuncLeaves
import Derived.Shelf.Abstract
import Derived.WalkKit
import Derived.OwnWalkIn
import Derived.TacticsInMore
import Derived.LoopNIn
import Derived.LoopIn
import Derived.Maps.AppendAt
import Derived.Test.YtpafoodmpjlkhaaGreatDoorRows
import Derived.Shelf.SortM.Plain
import Derived.Shelf.SortM.SortNone
import Derived.Test.YtpafoodmpjlkhaaGreatDoorProg
import Derived.Lib.SlicesCompact
import Derived.Lib.RowBridge
open Go.IntKind (i64)
open Go.Proofs.Tryz (prog)
set_option linter.unusedVariables false
set_option linter.unusedSimpArgs false
set_option maxRecDepth 20000
namespace Go.Pk
theorem Fh (l : List Int) : BQ (i16 l) := fun c hc => by
 obtain ⟨x, _, rfl⟩ := List.mem_map.1 hc; rfl
theorem DW (w : World) (k : Nat) : w.grownBy w (some k) := ⟨rfl, rfl, rfl, Nat.le_refl _, fun _ _ _ => rfl⟩
theorem Dc {P : Program} {dT sT ty elem : TypeId} (hu : P.underlying dT = some (.slice elem)) (hs : (P.info? elem).map (·.size) = some 1) {w : World} {k : Nat} {T : TypeId} {vs : List Value} (h : am w k T vs)
   {a : Option Addr} {n c : Nat} {xs : List Int} (ho : Ow H6 elem w NoB a n c xs) (hnil : xs = [] -> a = none /\ n = 0 /\ c = 0) {o dLen dCap : Nat} {A : Addr} (hA : xs ≠ [] -> A = ⟨k, o, none⟩) (hd : xs.length <= dLen) (hfit : o + xs.length <= vs.length) :
   ∃ w', (Builtin.copy_ #[dT, sT] ty #[.slice (some A) dLen dCap, .slice a n c]).run P w = .ok (.int .i64 ((xs.length : Nat) : Int)) w' /\ am w' k T (vs.take o ++ i16 xs ++ vs.drop (o + xs.length)) /\ w.grownBy w' (some k) := by
 by_cases hx : xs = []
 · obtain ⟨rfl, rfl, rfl⟩ := hnil hx
   subst hx
   refine ⟨w, run_copy_nil P w dT sT ty elem A dLen dCap hu (by rw [hs]; rfl), ?_, DW w k⟩
   simpa [i16] using h
 · have hn := ho.len
   obtain ⟨h1, h2, h3, h4⟩ := ho.all
   obtain ⟨b, off, rfl, hb, -, l, hr, hcells⟩ := h4.resolve_left hx
   have hl : l = i16 xs := ee (h1 := fun _ => rfl) hr
   subst hl
   rw [hA hx]
   have hln : (i16 xs).length = xs.length := by simp [i16]
   have hsrc : ∀ (j : Nat) (v : Value), (i16 xs)[j]? = some v -> w.cell? ((⟨b, off, none⟩ : Addr).add j) = some v := by
     intro j v hj
     have hjl : j < (i16 xs).length := (List.getElem?_eq_some_iff.1 hj).1
     have e : (⟨b, off, none⟩ : Addr).add j = ⟨b, off + j, none⟩ := by unfold Addr.add; split <;> simp_all
     rw [e, hcells j hjl, hj]
   have hmin : (i16 xs).length = Nat.min n dLen := by rw [hln, hn]; exact (Nat.min_eq_left (by omega)).symm
   have hrun := run_copy_row P w dT sT ty elem k o dLen dCap ⟨b, off, none⟩ n c vs.toArray T (i16 xs) hu hs h hmin hsrc (by rw [hln]; simpa using hfit) (Fh xs)
   rw [hln] at hrun
   have hh := setRow_heap w k vs.toArray (vs.take o ++ i16 xs ++ vs.drop (o + xs.length)).toArray T (0, 0) h
   exact ⟨_, hrun, hh, gN w k _⟩
theorem CP {n : Nat} : IntKind.u8.wrap (n : Int) = (((UInt8.ofNat (n % 256)).toNat : Nat) : Int) := by
 have e : IntKind.u8.wrap (n : Int) = (n : Int) % 256 := rfl
 rw [e, uK (by omega)]; omega
theorem Jr {n : Nat} (h : n < 65536) : IntKind.u8.wrap (Int.fdiv (n : Int) (2 ^ (min (Int.toNat (8 : Int)) (IntKind.bits .u16)))) = (((UInt8.ofNat (n / 256)).toNat : Nat) : Int) := by
 have e1 : (2 : Int) ^ (min (Int.toNat (8 : Int)) (IntKind.bits .u16)) = 256 := by decide
 have e2 : Int.fdiv (n : Int) 256 = ((n / 256 : Nat) : Int) := by rw [Int.fdiv_eq_ediv_of_nonneg _ (by decide)]; omega
 rw [e1, e2, jL (by omega) (by omega), uK (by omega)]
end Go.Pk
namespace Go.Proofs.YtpafoodmpjlkhaaGreatDoor
open Go.Pk
open Go.RowKit (Below)
theorem Aq (g0 g1 g2 g3 g4 g5 g6 g7 : Nat) (hb : ∀ g ∈ [g0, g1, g2, g3, g4, g5, g6, g7], g < 65536) (w : World) :
   Calls prog rJ #[.agg #[.int .u16 (g0 : Int), .int .u16 (g1 : Int), .int .u16 (g2 : Int), .int .u16 (g3 : Int), .int .u16 (g4 : Int), .int .u16 (g5 : Int), .int .u16 (g6 : Int), .int .u16 (g7 : Int)]] w
     (Ret fun v w' => v = adV (jN [g0, g1, g2, g3, g4, g5, g6, g7]) /\ Below w.heap.size w w') := by
 apply zU
 unfold uM
 intro k1 w1 hk1 hw1
 have hB1 := (hw1 ▸ ah w _ : Below w.heap.size w w1)
 have h11 : am w1 k1 aJ (i16 ([g0, g1, g2, g3, g4, g5, g6, g7].map fun g : Nat => (g : Int))) := am.new hk1 hw1
 obtain ⟨G, hG⟩ : ∃ G, G = [g0, g1, g2, g3, g4, g5, g6, g7] := ⟨_, rfl⟩
 have hl8 : G.length = 8 := by rw [hG]; rfl
 rw [<- hG] at h11 hb ⊢
 clear hG
 intro k2 w2 hk2 hw2
 have hb2 := (hw2 ▸ ah w1 _ : Below w1.heap.size w1 w2)
 have hB2 := ab hB1 hb2 hB1.size
 have h22 : am w2 k2 ai (adC ad0) := am.new hk2 hw2
 intro k3 w3 hk3 hw3
 have hb3 := (hw3 ▸ ah w2 _ : Below w2.heap.size w2 w3)
 have hB3 := ab hB2 hb3 hB2.size
 have h33 : am w3 k3 ai (adC ad0) := am.new hk3 hw3
 have h23 := h22.below hb3
 have h13 := (h11.below hb2).below hb3
 have l1 := h11.lt
 have l2 := h22.lt
 have hk3w : w.heap.size <= k3 := by have := hB2.size; omega
 refine ⟨fun m i w' => ∃ k : Nat, k <= 8 /\ i = (k : Int) /\ m = 8 - k /\ am w' k3 ai (adC (Cn G k)) /\ am w' k2 ai (adC ad0) /\ am w' k1 aJ (i16 (G.map fun g : Nat => (g : Int))) /\ Below w.heap.size w w',
   ⟨_, 0, by omega, rfl, rfl, h33, h23, h13, hB3⟩, ?_⟩
 intro m i
 refine aE.of ?_ _
 rintro w6 ⟨k, hk, rfl, rfl, h36, h26, h16, hB6⟩
 refine af.of (fun h => ?_) (fun h => ?_) <;> simp only [dTx, dFx] at h
 · have hk8 : k < 8 := by omega
   have hgk := hb G[k] (List.getElem_mem (by omega))
   have e1 : i64.wrap (2 * (k : Int)) = ((2 * k : Nat) : Int) := by rw [ak (by omega) (by omega)]; omega
   have e2 : i64.wrap (((2 * k : Nat) : Int) + 1) = ((2 * k + 1 : Nat) : Int) := by rw [ak (by omega) (by omega)]; omega
   rw [e1, e2, dH, dH, dH]
   simp only [Nat.zero_add]
   have hin : (0 <= (k : Int) /\ (k : Int) < ((8 : Nat) : Int)) /\ True := ⟨⟨by omega, by omega⟩, trivial⟩
   have hin1 : (0 <= ((2 * k : Nat) : Int) /\ ((2 * k : Nat) : Int) < ((16 : Nat) : Int)) /\ True := ⟨⟨by omega, by omega⟩, trivial⟩
   have hin2 : (0 <= ((2 * k + 1 : Nat) : Int) /\ ((2 * k + 1 : Nat) : Int) < ((16 : Nat) : Int)) /\ True := ⟨⟨by omega, by omega⟩, trivial⟩
   have hd : Below w.heap.size w (World.drew w6) := ab hB6 (qN rfl rfl rfl (Nat.le_refl _) (fun _ _ => rfl)) hB6.size
   have d3 : am (World.drew w6) k3 ai (adC (Cn G k)) := h36
   have d2 : am (World.drew w6) k2 ai (adC ad0) := h26
   have d1 : am (World.drew w6) k1 aJ (i16 (G.map fun g : Nat => (g : Int))) := h16
   have hget : (i16 (G.map fun g : Nat => (g : Int)))[k]? = some (.int .u16 ((G[k]'(by omega) : Nat) : Int)) := by
     unfold i16
     rw [List.getElem?_map, List.getElem?_map, List.getElem?_eq_getElem (by omega)]; rfl
   have ld : ∀ {wx : World}, am wx k1 aJ (i16 (G.map fun g : Nat => (g : Int))) -> (Instr.loadAt fz (.pointer (some ⟨k1, k, none⟩))).run prog wx = .ok (.int .u16 ((G[k]'(by omega) : Nat) : Int)) wx := fun hx => hx.load1 xm rfl hget
   have hlen := qO hl8 hk
   obtain ⟨w8, hs8, h58, hg8⟩ := d3.put (P := prog) gu (i := 2 * k) (v := .int .u8 (((UInt8.ofNat (G[k] / 256)).toNat : Nat) : Int)) (by rw [bu, hlen]; omega) rfl rfl
   rw [mV] at h58
   have d18 := d1.grown hg8 (gt (by omega))
   obtain ⟨w9, hs9, h59, hg9⟩ := h58.put (P := prog) gu (i := 2 * k + 1) (v := .int .u8 (((UInt8.ofNat (G[k] % 256)).toNat : Nat) : Int)) (by rw [bu, List.length_set, hlen]; omega) rfl rfl
   rw [mV, zr hl8 hk8] at h59
   have hfin : ∃ m' : Nat, m' < 8 - k /\ ∃ k' : Nat, k' <= 8 /\ i64.wrap ((k : Int) + 1) = (k' : Int) /\ m' = 8 - k' /\ am w9 k3 ai (adC (Cn G k')) /\ am w9 k2 ai (adC ad0) /\ am w9 k1 aJ (i16 (G.map fun g : Nat => (g : Int))) /\ Below w.heap.size w w9 :=
     ⟨8 - (k + 1), by omega, k + 1, by omega, by rw [ak (by omega) (by omega)]; omega, rfl, h59, (d2.grown hg8 (gt (by omega))).grown hg9 (gt (by omega)), d18.grown hg9 (gt (by omega)), Below.put (Below.put hd hg8 hk3w) hg9 hk3w⟩
   rw [<- Jr hgk] at hs8
   rw [<- CP] at hs9
   refine ⟨hin, hin, ⟨_, ld d1, by decide, hin1, ⟨_, ld d1, w8, hs8, hin2, w9, hs9, hfin⟩, w8, hs8, _, ld d18, hin2, w9, hs9, hfin⟩, _, ld d1, _, ld d1, by decide, hin1, w8, hs8, hin2, w9, hs9, hfin⟩
 · have : k = 8 := by omega
   subst this
   have hlen : (adC (Cn G 8)).length = 16 := by rw [bu, qO hl8 (by omega)]
   refine ⟨_, aQ.load0 h36 hlen, ?_⟩
   exact aQ.fin (K := fun vr wy => vr = adV (jN G) /\ Below w.heap.size w wy) hlen (bT _) h26 rfl hB6 (by omega) fun wy hb => ⟨by rw [E7 hl8]; rfl, hb⟩
theorem ut : Whl prog aJ 8 := ⟨⟨_, _, yf⟩, by kernel_rfl⟩
theorem DI (s : List UInt8) (hs : s.length < 4294967281) (w : World) (he : Env w) : Calls prog vV #[.string (mkS s)] w (Ret fun v w' => v = adT (v6A s) /\ Below w.heap.size w w') := by
 apply CD
 unfold yR
 intro k2 w2 hk2 hw2
 have hB2 := (hw2 ▸ ah w _ : Below w.heap.size w w2)
 have h2 : am w2 k2 ai (adC ad0) := am.new hk2 hw2
 obtain ⟨m, hm⟩ := (he.step hB2).max
 refine (Tryz.strings_Cut (mkS s) (mkS [58, 58]) m w2 hs hm).mono ?_
 rintro _ w3 ⟨rfl, q, rfl⟩
 have hb3 : Below w2.heap.size w2 (w2.drewN q) := qN rfl rfl rfl (Nat.le_refl _) (fun _ _ => rfl)
 have hB3 := ab hB2 hb3 hB2.size
 have h23 := h2.below hb3
 have hlen : (Lib.cut s [58, 58]).1.length <= s.length /\ (Lib.cut s [58, 58]).2.1.length <= s.length := by
   rcases lh s with ⟨h1, -⟩ | ⟨p, h1, -⟩ <;> rw [h1]
   · exact ⟨Nat.le_refl _, Nat.zero_le _⟩
   · exact ⟨by rw [List.length_take]; omega, by rw [List.length_drop]; omega⟩
 have hv6 : v6A s = (if Ak (Lib.cut s [58, 58]).2.2 (bG (Lib.cut s [58, 58]).1) (bG (Lib.cut s [58, 58]).2.1) = true then some (v6L (bG (Lib.cut s [58, 58]).1) (bG (Lib.cut s [58, 58]).2.1)) else none).map jN := rfl
 show ∃ (s15_0 : List UInt8) (s15_1 : List UInt8) (b15_2 : Bool), (Ending.returned (.tuple #[.string (mkS (Lib.cut s [58, 58]).1), .string (mkS (Lib.cut s [58, 58]).2.1), .bool (Lib.cut s [58, 58]).2.2]) : Ending) = .returned (.tuple #[.string (mkS s15_0), .string (mkS s15_1), .bool b15_2]) /\ _
 generalize Lib.cut s [58, 58] = C at *
 obtain ⟨f, b, g⟩ := C
 refine ⟨f, b, g, rfl, ?_⟩
 have hlf : f.length <= s.length := hlen.1
 have hlb : b.length <= s.length := hlen.2
 have hv : v6A s = (if Ak g (bG f) (bG b) = true then some (v6L (bG f) (bG b)) else none).map jN := hv6
 clear hv6 hlen
 refine ax (vw f (by omega) _ (he.step hB3)) ?_
 rintro _ w4 ⟨a4, n4, c4, rfl, hok4, hno4, hb4⟩
 have hB4 := ab hB3 hb4 hB3.size
 refine ⟨_, _, _, _, rfl, ?_⟩
 refine ax (vw b (by omega) w4 (he.step hB4)) ?_
 rintro _ w5 ⟨a5, n5, c5, rfl, hok5, hno5, hb5⟩
 have hB5 := ab hB4 hb5 hB4.size
 have h25 := (h23.below hb4).below hb5
 refine ⟨_, _, _, _, rfl, ?_⟩
 have hrl : ∀ t : List UInt8, (bG t).length <= t.length + 1 := fun t => by
   unfold bG
   split
   · simp
   · exact gi 58 t []
 have hIl : ∀ t : List UInt8, (yF t).length = (bG t).length := fun t => by simp [yF]
 have hrf := hrl f
 have hrb := hrl b
 have hn4 : (bG f).all bK = true -> n4 = (bG f).length := fun h => by rw [<- hIl]; exact (hok4 h).1.len
 have hn5 : (bG b).all bK = true -> n5 = (bG b).length := fun h => by rw [<- hIl]; exact (hok5 h).1.len
 have none_end : ∀ {wx : World}, Ak g (bG f) (bG b) = false -> am wx k2 ai (adC ad0) -> Below w.heap.size w wx -> _ := fun {wx} hf h2x hBx => aQ.fin (K := fun vr wy => (.tuple #[vr, .bool false] : Value) = adT (v6A s) /\ Below w.heap.size w wy) (cs := adC ad0) rfl (bT _) h2x rfl hBx (by omega) fun wy hb => ⟨by rw [hv, hf]; rfl, hb⟩
 refine tN (w := w5) (Ak g (bG f) (bG b) = true) ?_ (fun hfit => ?_)
 · refine ⟨fun x w' => w' = w5 /\ x = !(Ak g (bG f) (bG b)), ?_, ?_⟩
   · refine af.of (fun h1 => ⟨rfl, ?_⟩) (fun h1 => ?_)
     · have h1' : (bG f).all bK = false := by simpa only [Bool.not_eq_true'] using h1
       unfold Ak; rw [h1', Bool.false_and, Bool.false_and]; rfl
     have h1' : (bG f).all bK = true := by simpa only [Bool.not_eq_false'] using h1
     refine af.of (fun h2 => ⟨rfl, ?_⟩) (fun h2 => ?_)
     · have h2' : (bG b).all bK = false := by simpa only [Bool.not_eq_true'] using h2
       unfold Ak; rw [h2', Bool.and_false, Bool.false_and]; rfl
     have h2' : (bG b).all bK = true := by simpa only [Bool.not_eq_false'] using h2
     have ef : Ak g (bG f) (bG b) = if g then decide ((bG f).length + (bG b).length < 8) else decide ((bG f).length + (bG b).length = 8) := by unfold Ak; rw [h1', h2', Bool.and_self, Bool.true_and]
     rw [ef, hn4 h1', hn5 h2', ak (by omega) (by omega)]
     cases g with
     | true =>
       refine af.yes rfl (af.of (fun h3 => ⟨rfl, ?_⟩) (fun h3 => af.no rfl ⟨rfl, ?_⟩)) <;> simp at h3 ⊢ <;> omega
     | false =>
       refine af.no rfl (af.yes rfl ⟨rfl, ?_⟩)
       rw [Bool.eq_iff_iff]; simp; omega
   · intro x
     refine aE.of ?_ _
     rintro wj ⟨hwj, hx⟩
     rw [hwj, hx]; clear hwj hx
     exact af.of (fun h1 => none_end (by simpa only [Bool.not_eq_true'] using h1) h25 hB5) (fun h1 => ⟨rfl, by simpa only [Bool.not_eq_false'] using h1⟩)
 · have hf2 := hfit
   unfold Ak at hf2
   rw [Bool.and_eq_true, Bool.and_eq_true] at hf2
   obtain ⟨⟨ga, gb⟩, gl⟩ := hf2
   have hl8 : (bG f).length + (bG b).length <= 8 := by
     split at gl
     · have := of_decide_eq_true gl; omega
     · have := of_decide_eq_true gl; omega
   obtain ⟨ho4, hf4, hz4⟩ := hok4 ga
   obtain ⟨ho5, hf5, hz5⟩ := hok5 gb
   rw [hn5 gb]
   intro k12 w12 hk12 hw12
   have hb12 := (hw12 ▸ ah w5 _ : Below w5.heap.size w5 w12)
   have hB12 := ab hB5 hb12 hB5.size
   have h12 : am w12 k12 aJ (i16 [0, 0, 0, 0, 0, 0, 0, 0]) := am.new hk12 hw12
   have ho42 := (ho4.below hb5).below hb12
   have ho52 := ho5.below hb12
   have og4 : ∀ g, bE a4 = some g -> g ≠ k12 := fun g hg e => by have := ho4.lt g hg; have := hb5.size; omega
   have og5 : ∀ g, bE a5 = some g -> g ≠ k12 := fun g hg e => by have := ho5.lt g hg; omega
   have hk12w : w.heap.size <= k12 := by have := hB5.size; omega
   have l2 := h25.lt
   obtain ⟨w6, hr6, h16, hg6⟩ := Dc (P := prog) (sT := dG) (ty := az) (dLen := 8) (dCap := 8) (o := 0) (A := ⟨k12, 0, none⟩) qx (by kernel_rfl) h12 ho42 hz4 (fun _ => rfl) (by rw [hIl]; omega) (by rw [hIl]; simp [i16]; omega)
   have e5 : Int.toNat (i64.wrap ((8 : Int) - (((bG b).length : Nat) : Int))) = 8 - (bG b).length := by rw [ak (by omega) (by omega)]; omega
   have e5' : i64.wrap ((8 : Int) - (((bG b).length : Nat) : Int)) = ((8 - (bG b).length : Nat) : Int) := by rw [ak (by omega) (by omega)]; omega
   refine ⟨trivial, w6, _, hr6, ⟨by rw [e5']; omega, by rw [e5']; omega⟩, ?_⟩
   rw [e5]
   have ho56 := ho52.put og5 hg6
   have hlen16 : (List.take 0 (i16 [0, 0, 0, 0, 0, 0, 0, 0]) ++ i16 (yF f) ++ List.drop (0 + (yF f).length) (i16 [0, 0, 0, 0, 0, 0, 0, 0])).length = 8 := by
     have := hIl f
     simp [i16]; omega
   obtain ⟨w7, hr7, h17, hg7⟩ := Dc (P := prog) (sT := dG) (ty := az) (dLen := 8 - (8 - (bG b).length)) (dCap := 8 - (8 - (bG b).length)) (o := 8 - (bG b).length) (A := if 8 = 8 - (bG b).length then ⟨k12, 0, none⟩ else Addr.add ⟨k12, 0, none⟩ ((8 - (bG b).length) * 1)) qx (by kernel_rfl) h16 ho56 hz5
     (fun hne => by
       have : (bG b).length ≠ 0 := fun e => hne (List.length_eq_zero_iff.1 (by rw [hIl]; exact e))
       rw [if_neg (by omega)]
       unfold Addr.add; split <;> simp_all) (by rw [hIl]; omega) (by rw [hIl, hlen16]; omega)
   rw [hn5 gb] at hr7
   refine ⟨w7, _, hr7, ?_⟩
   obtain ⟨G, hG⟩ : ∃ G, G = v6L (bG f) (bG b) := ⟨_, rfl⟩
   have hGl : G.length = 8 := by rw [hG]; simp [v6L]; omega
   have hGb : ∀ x ∈ G, x < 65536 := fun x hx => by
     rw [hG] at hx
     unfold v6L at hx
     rcases List.mem_append.1 hx with hx | hx
     · rcases List.mem_append.1 hx with hx | hx
       · obtain ⟨y, hy, rfl⟩ := List.mem_map.1 hx; exact G3 (List.all_eq_true.1 ga y hy)
       · rw [(List.mem_replicate.1 hx).2]; decide
     · obtain ⟨y, hy, rfl⟩ := List.mem_map.1 hx; exact G3 (List.all_eq_true.1 gb y hy)
   have hcells : (List.take 0 (i16 [0, 0, 0, 0, 0, 0, 0, 0]) ++ i16 (yF f) ++ List.drop (0 + (yF f).length) (i16 [0, 0, 0, 0, 0, 0, 0, 0])).take (8 - (bG b).length) ++ i16 (yF b) ++ (List.take 0 (i16 [0, 0, 0, 0, 0, 0, 0, 0]) ++ i16 (yF f) ++ List.drop (0 + (yF f).length) (i16 [0, 0, 0, 0, 0, 0, 0, 0])).drop (8 - (bG b).length + (yF b).length) = i16 (G.map fun x : Nat => (x : Int)) := by
     have hz : i16 [0, 0, 0, 0, 0, 0, 0, 0] = List.replicate 8 (Value.int .u16 0) := rfl
     rw [hz, List.take_zero, List.nil_append, List.drop_replicate, hIl, hIl, Nat.zero_add, hG]
     rw [show 8 - (bG b).length + (bG b).length = 8 by omega, List.drop_eq_nil_of_le (by simp [i16, yF]; omega), List.append_nil]
     rw [List.take_append, List.take_of_length_le (by simp [i16, yF]; omega), List.take_replicate]
     have e1 : min (8 - (bG b).length - (i16 (yF f)).length) (8 - (bG f).length) = 8 - (bG f).length - (bG b).length := by
       have : (i16 (yF f)).length = (bG f).length := by simp [i16, yF]
       omega
     rw [e1]
     unfold v6L i16 yF
     simp
     rfl
   rw [hcells] at h17
   have hB7 := Below.put (Below.put hB12 hg6 hk12w) hg7 hk12w
   have h27 := ((h25.below hb12).grown hg6 (gt (by omega))).grown hg7 (gt (by omega))
   have hvG : v6A s = some (jN G) := by rw [hv, hfit, hG]; rfl
   clear hG hcells hlen16
   match G, hGl, hGb, h17, hvG with
   | [g0, g1, g2, g3, g4, g5, g6, g7], _, hGb, h17, hvG =>
     refine ⟨_, _, _, _, _, _, _, _, ut.load0 h17 rfl, ?_⟩
     refine ax (Aq g0 g1 g2 g3 g4 g5 g6 g7 hGb w7) ?_
     rintro _ w8 ⟨rfl, hb8⟩
     have hB8 := ab hB7 hb8 hB7.size
     refine ⟨_, rfl, ?_⟩
     exact aQ.fin (K := fun vr wy => (.tuple #[vr, .bool true] : Value) = adT (v6A s) /\ Below w.heap.size w wy) (by rw [bu]; exact CS s _ hvG) (bT _) (h27.below hb8) rfl hB8 (by omega) fun wy hb => ⟨by rw [hvG]; rfl, hb⟩
end Go.Proofs.YtpafoodmpjlkhaaGreatDoor
namespace Go.Pk
abbrev xC (n : Nat) : List UInt8 := Lib.decDigits n
theorem Dl {n : Nat} : Lib.itoa (n : Int) = xC n := by unfold Lib.itoa; rw [if_neg (by omega)]; rfl
theorem iT {n : Nat} (h : n <= 9223372036854775807) : (xC n).length <= 21 := by rw [<- Dl]; exact Lib.itoa_length_le n (by omega) (by omega)
def uH (a : List UInt8) : List UInt8 := Lib.join ((a.drop 12).map fun c => xC c.toNat) [46]
theorem Ir {a : List UInt8} (h : a.length = 16) : a.drop 12 = [a[12]'(by omega), a[13]'(by omega), a[14]'(by omega), a[15]'(by omega)] := by
 rw [List.drop_eq_getElem_cons (by omega), List.drop_eq_getElem_cons (by omega), List.drop_eq_getElem_cons (by omega), List.drop_eq_getElem_cons (by omega), List.drop_eq_nil_of_le (by omega)]
theorem r8 {a : List UInt8} (h : a.length = 16) : uH a = xC (a[12]'(by omega)).toNat ++ ([46] : List UInt8) ++ xC (a[13]'(by omega)).toNat ++ ([46] : List UInt8) ++ xC (a[14]'(by omega)).toNat ++ ([46] : List UInt8) ++ xC (a[15]'(by omega)).toNat := by
 unfold uH
 rw [Ir h]
 simp [Lib.join_cons, Lib.joinTail]
theorem wA (xs : List (List UInt8)) (c : UInt8) (M : Nat) (h : ∀ x ∈ xs, x.length <= M) : (Lib.join xs [c]).length <= xs.length * (M + 1) := by
 cases xs with
 | nil => simp [Lib.join_nil]
 | cons x r =>
   rw [Lib.join_cons]
   have : ∀ r : List (List UInt8), (∀ x ∈ r, x.length <= M) -> (Lib.joinTail [c] r).length <= r.length * (M + 1) := by
     intro r
     induction r with
     | nil => intro _; simp [Lib.joinTail]
     | cons y r ih =>
       intro hr
       have h1 := ih fun x hx => hr x (List.mem_cons_of_mem _ hx)
       have h2 := hr y List.mem_cons_self
       have e : Lib.joinTail [c] (y :: r) = [c] ++ y ++ Lib.joinTail [c] r := by simp [Lib.joinTail]
       rw [e]
       simp only [List.length_append, List.length_cons, List.length_nil, Nat.add_mul]; omega
   have h1 := this r fun y hy => h y (List.mem_cons_of_mem _ hy)
   have h2 := h x List.mem_cons_self
   simp only [List.length_append, List.length_cons, Nat.add_mul]; omega
end Go.Pk
namespace Go.Proofs.YtpafoodmpjlkhaaGreatDoor
open Go.Pk
open Go.RowKit (Below)
theorem zC {w : World} {A : Bl} {a : Option Addr} {n c : Nat} {xs : List (List UInt8)} (ho : Sl tS w A a n c xs) (sep : List UInt8) (hx : xs.length <= 140737488355328) (hl : (Lib.join xs sep).length <= 140737488355328) :
   Calls prog ke #[.slice a n c, .string (mkS sep)] w (Ret fun v w' => v = .string (mkS (Lib.join xs sep)) /\ Below w.heap.size w w') := by
 obtain ⟨hn, hnc, hcm, h4⟩ := ho
 subst hn
 rcases h4 with h4 | ⟨b, off, rfl, hbl, _, cs, hcs, hcell⟩
 · subst h4
   refine (Tryz.strings_Join_none a c (mkS sep) w).mono ?_
   rintro _ _ ⟨rfl, rfl⟩
   exact ⟨_, rfl, rfl, Below.refl _ _⟩
 · have he := ee hcs
   have e : (xs.map mkS).map (fun s => s.data.toList) = xs := by rw [List.map_map]; exact List.map_id xs
   have hj := Tryz.strings_Join b off c (xs.map mkS) (mkS sep) w (fun j x hx => by
     rw [List.getElem?_map] at hx
     cases hxj : xs[j]? with
     | none => rw [hxj] at hx; cases hx
     | some y =>
       rw [hxj] at hx
       cases hx
       have hjl := (List.getElem?_eq_some_iff.1 hxj).1
       rw [hcell j (by rw [he]; simpa using hjl), he, List.getElem?_map, hxj]; rfl) hbl (by rw [List.length_map]; omega) (by rw [List.length_map]; exact hnc) (by
       rw [e]; exact hl)
   rw [List.length_map] at hj
   refine hj.mono ?_
   rintro _ w' ⟨rfl, hb'⟩
   rw [e]
   exact ⟨_, rfl, rfl, hb'⟩
theorem HO (n : Nat) (h : n <= 9223372036854775807) (w : World) (he : Env w) : Calls prog re #[.int .i64 (n : Int)] w (Ret fun v w' => v = .string (mkS (xC n)) /\ Below w.heap.size w w') := by
 refine (Tryz.strconv_Itoa n (by omega) (by omega) w he.tab).mono ?_
 rintro _ _ ⟨rfl, k, os, rfl⟩
 rw [Dl]
 exact ⟨_, rfl, rfl, BZ w k os⟩
theorem yX (a : List UInt8) (ha : a.length = 16) (w : World) (he : Env w) : Calls prog pI #[adV a] w (Ret fun v w' => v = .string (mkS (uH a)) /\ Below w.heap.size w w') := by
 apply xO
 unfold sZ
 intro k1 w1 hk1 hw1
 have hB1 := (hw1 ▸ ah w _ : Below w.heap.size w w1)
 have h1 : am w1 k1 ai (adC a) := am.new hk1 hw1
 have e12 : (if 16 = (Int.toNat (12 : Int)) then (⟨k1, 0, none⟩ : Addr) else Addr.add ⟨k1, 0, none⟩ ((Int.toNat (12 : Int)) * 1)) = ⟨k1, 12, none⟩ := by
   rw [if_neg (by decide)]; unfold Addr.add; split <;> simp_all
 have e4 : (16 - (Int.toNat (12 : Int)) : Nat) = 4 := rfl
 rw [e12, e4]
 refine ⟨⟨by decide, by decide⟩, ?_⟩
 refine ⟨fun m a3 l3 c3 i w' => ∃ k : Nat, k <= 4 /\ i = (k : Int) /\ m = 4 - k /\ Ow tS ar w' NoB a3 l3 c3 (((a.drop 12).take k).map fun c => xC c.toNat) /\ bD w1.heap.size a3 /\ Below w1.heap.size w1 w',
   ⟨_, 0, by omega, rfl, rfl, Ow.nil _ _ _ _, bD.none _, Below.refl _ _⟩, ?_⟩
 intro m a3 l3 c3 i
 refine aE.of ?_ _
 rintro w2 ⟨k, hk, rfl, rfl, ho2, hf2, hB2⟩
 have hl4 : (a.drop 12).length = 4 := by rw [List.length_drop]; omega
 refine af.of (fun h => ?_) (fun h => ?_) <;> simp only [dTx, dFx] at h
 · have hk4 : k < 4 := by omega
   rw [dH]
   have hu := jP (a[12 + k]'(by omega))
   refine ⟨⟨⟨by omega, h⟩, rfl⟩, _, (h1.below hB2).load1 bF rfl (pC (i := 12 + k) (by omega)), ?_⟩
   rw [ak (by omega) (by omega)]
   refine ax (HO _ (by omega) w2 ((he.step hB1).step hB2)) ?_
   rintro _ w3 ⟨rfl, hb3⟩
   have hB3 := ab hB2 hb3 hB2.size
   refine ⟨_, rfl, ?_⟩
   intro k4 w4 hk4' hw4
   have hll : (((a.drop 12).take k).map fun c => xC c.toNat).length <= 4 := by simp; omega
   obtain ⟨w5, a5, n5, c5, hr, ho5, hf5, hb5⟩ := xL (ty := aw) (w0 := w1) (cm := 1) (vs := [_]) (dP _) bh iD (by decide) (ho2.below hb3) hf2 hB3 hk4' hw4 (nn trivial) (by omega)
   refine ⟨w5, a5, n5, c5, hr, 4 - (k + 1), by omega, k + 1, by omega, by rw [ak (by omega) (by omega)]; omega, rfl, ?_, hf5, hb5⟩
   rw [List.take_succ_eq_append_getElem (by omega), List.map_append]
   have : (a.drop 12)[k]'(by omega) = a[12 + k]'(by omega) := by rw [List.getElem_drop]
   rw [this]; exact ho5
 · have : k = 4 := by omega
   subst this
   rw [List.take_of_length_le (by omega)] at ho2
   have hlen : (uH a).length <= 4 * (21 + 1) := by
     have := wA ((a.drop 12).map fun c => xC c.toNat) 46 21 (fun x hx => by
       obtain ⟨c, _, rfl⟩ := List.mem_map.1 hx
       have := jP c
       exact iT (by omega))
     rw [List.length_map, hl4] at this
     exact this
   refine ax (zC ho2.all [46] (by rw [List.length_map]; omega) (Nat.le_trans hlen (by decide))) ?_
   rintro _ w3 ⟨rfl, hb3⟩
   have hB3 := ab hB2 hb3 hB2.size
   exact ⟨_, rfl, rfl, ab hB1 hB3 hB1.size⟩
end Go.Proofs.YtpafoodmpjlkhaaGreatDoor
namespace Go.Pk
def Fc (d : Nat) : UInt8 := UInt8.ofNat (if d < 10 then 48 + d else 87 + d)
def tT (n : Nat) : List UInt8 := if n < 16 then [Fc n] else tT (n / 16) ++ [Fc (n % 16)]
termination_by n
theorem sq {n : Nat} (h : n < 16) : tT n = [Fc n] := by rw [tT, if_pos h]
theorem lL {n : Nat} (h : ¬ n < 16) : tT n = tT (n / 16) ++ [Fc (n % 16)] := by rw [tT, if_neg h]
theorem qP {n : Nat} (h : n < 65536) : (tT n).length <= 4 := by
 have step : ∀ m M : Nat, (m / 16 < M -> (tT (m / 16)).length <= 3) -> True := fun _ _ _ => trivial
 have l1 : ∀ n, n < 16 -> (tT n).length = 1 := fun n h => by rw [sq h]; rfl
 have l2 : ∀ n, n < 256 -> (tT n).length <= 2 := fun n h => by
   by_cases c : n < 16
   · rw [l1 n c]; omega
   · rw [lL c, List.length_append, l1 (n / 16) (by omega)]; simp
 have l3 : ∀ n, n < 4096 -> (tT n).length <= 3 := fun n h => by
   by_cases c : n < 16
   · rw [l1 n c]; omega
   · have := l2 (n / 16) (by omega)
     rw [lL c, List.length_append]; simp; omega
 by_cases c : n < 16
 · rw [l1 n c]; omega
 · have := l3 (n / 16) (by omega)
   rw [lL c, List.length_append]; simp; omega
def I8 : List UInt8 := [48, 49, 50, 51, 52, 53, 54, 55, 56, 57, 97, 98, 99, 100, 101, 102, 103, 104, 105, 106, 107, 108, 109, 110, 111, 112, 113, 114, 115, 116, 117, 118, 119, 120, 121, 122]
theorem AH : ∀ d : Nat, d < 16 -> aP I8 (d : Int) = (((Fc d).toNat : Nat) : Int) := by decide
theorem Dz {n : Int} (h0 : 0 <= n) (h1 : n < 18446744073709551616) : IntKind.u64.wrap n = n := by
 have e : IntKind.u64.wrap n = n % 18446744073709551616 := rfl
 rw [e]; omega
theorem I4 {u : Nat} (h : u < 65536) : IntKind.u64.wrap (((BitVec.ofInt (IntKind.bits .u64) (u : Int)) &&& (BitVec.ofInt (IntKind.bits .u64) (IntKind.u64.wrap ((IntKind.u64.wrap (16 : Int)) - (1 : Int))))).toNat : Nat) = ((u % 16 : Nat) : Int) := by
 have e15 : IntKind.u64.wrap ((IntKind.u64.wrap (16 : Int)) - (1 : Int)) = ((15 : Nat) : Int) := by decide
 have b64 : ∀ n : Nat, n < 65536 -> (BitVec.ofInt (IntKind.bits .u64) (n : Int)).toNat = n := fun n hn => by
   show (BitVec.ofInt 64 (n : Int)).toNat = n
   rw [BitVec.toNat_ofInt]
   have h : ((2 ^ 64 : Nat) : Int) = 18446744073709551616 := by decide
   rw [h]; omega
 rw [e15, BitVec.toNat_and, b64 u h, b64 15 (by decide)]
 have : u &&& 15 = u % 16 := Nat.and_two_pow_sub_one_eq_mod u 4
 rw [this, Dz (by omega) (by omega)]
theorem JF {u : Nat} : Int.fdiv (u : Int) (2 ^ (min (Int.toNat (IntKind.u64.wrap (4 : Int))) (IntKind.bits .u64))) = ((u / 16 : Nat) : Int) := by
 have e1 : (2 : Int) ^ (min (Int.toNat (IntKind.u64.wrap (4 : Int))) (IntKind.bits .u64)) = 16 := by decide
 rw [e1, Int.fdiv_eq_ediv_of_nonneg _ (by decide)]; omega
theorem GZ (k o j : Nat) : Addr.add ⟨k, o, none⟩ j = ⟨k, o + j, none⟩ := by unfold Addr.add; split <;> simp_all
theorem am.sl8 {w : World} {k : Nat} {T : TypeId} {p xs : List UInt8} (h : am w k T (adC (p ++ xs))) (hl : xs.length <= maxLen) : Sl tU8 w gT (some ⟨k, p.length, none⟩) xs.length xs.length xs := by
 refine ⟨rfl, Nat.le_refl _, hl, .inr ⟨k, p.length, rfl, h.lt, trivial, adC xs, fv (fun _ _ => trivial), fun j hj => ?_⟩⟩
 rw [h.cell]
 unfold adC
 rw [List.map_append, List.getElem?_append_right (by simp)]
 simp
end Go.Pk
namespace Go.Proofs.YtpafoodmpjlkhaaGreatDoor
open Go.Pk
open Go.RowKit (Below)
theorem pF (w : World) (he : Env w) : Calls prog eq #[.int .u64 (IntKind.u64.wrap (16 : Int))] w (Ret fun v w' => v = .int .i64 4 /\ w' = w) := by
 have e16 : IntKind.u64.wrap (16 : Int) = 16 := by decide
 rw [e16]
 apply lY
 unfold ig
 refine ax (K := fun v w' => v = .int .i64 4 /\ w' = w) ?_ ?_
 · apply kL
   unfold gv
   refine af.no (by decide) ⟨by decide, ⟨⟨by decide +kernel, by decide +kernel⟩, rfl⟩, 4, ?_, rfl, rfl⟩
   have hE : ∀ E : Int, E = 15 -> (Instr.loadAt aF (.pointer (ao (some ⟨5, 0, none⟩) E 1))).run prog w = .ok (.int .u8 4) w := by
     rintro _ rfl
     exact dJ bF rfl he.tz
   exact hE _ (by decide +kernel)
 · rintro _ w1 ⟨rfl, hw⟩
   exact ⟨_, rfl, rfl, hw⟩
theorem zm (n : Nat) (hn : n < 65536) (w : World) (he : Env w) : Calls prog cZ #[.slice none 0 0, .int .u64 (n : Int), .int .i64 16, .bool false, .bool false] w
   (Ret fun v w' => v = .tuple #[.slice none 0 0, .string (mkS (tT n))] /\ Below w.heap.size w w') := by
 apply j6
 unfold fq
 refine tN (w := w) True ?_ (fun _ => ?_)
 · refine ⟨fun b w' => w' = w /\ b = false, af.no (by decide) (af.no (by decide) ⟨rfl, by decide⟩), fun b => aE.of ?_ _⟩
   rintro wj ⟨hw, hb⟩
   rw [hw, hb]
   exact af.no rfl ⟨rfl, trivial⟩
 intro k w1 hk hw1
 have hB1 := (hw1 ▸ ah w _ : Below w.heap.size w w1)
 have h1 : am w1 k lg (adC (List.replicate 65 0 ++ [])) := am.new hk hw1
 have hk0 : w.heap.size <= k := by omega
 refine IC (w := w1) (n : Int) (af.no rfl ⟨rfl, rfl⟩) ?_
 refine ⟨fun i w' => ∃ xs : List UInt8, i = ((65 - xs.length : Nat) : Int) /\ xs = tT n /\ am w' k lg (adC (List.replicate (65 - xs.length) 0 ++ xs)) /\ Below w.heap.size w w', ?_, fun i => aE.of ?_ _⟩
 · refine ax (K := fun v w' => v = .bool true /\ w' = w1) ?_ ?_
   · apply jw
     unfold eK
     exact ⟨congrArg Value.bool (by decide +kernel), rfl⟩
   rintro _ w2 ⟨rfl, hw2⟩
   rw [hw2]
   refine ⟨_, rfl, af.yes rfl ?_⟩
   refine ax (pF w1 (he.step hB1)) ?_
   rintro _ w3 ⟨rfl, hw3⟩
   rw [hw3]
   refine ⟨_, rfl, ?_⟩
   refine ⟨fun m u i w' => ∃ (q t : Nat) (xs : List UInt8), u = (q : Int) /\ m = q /\ t = xs.length /\ i = ((65 - t : Nat) : Int) /\ tT n = tT q ++ xs /\ q * 16 ^ t <= 65535 /\ (t = 0 \/ 0 < q) /\ am w' k lg (adC (List.replicate (65 - t) 0 ++ xs)) /\ Below w.heap.size w w',
     ⟨_, n, 0, [], rfl, rfl, rfl, rfl, by rw [List.append_nil], by omega, .inl rfl, h1, hB1⟩, ?_⟩
   intro m u i
   refine aE.of ?_ _
   rintro w4 ⟨q, t, xs, rfl, hm, rfl, rfl, hx, hq, ht, h4, hB4⟩
   obtain rfl : q = m := hm.symm
   have ht3 : xs.length <= 3 := by
     rcases ht with h0 | h0
     · omega
     · refine Decidable.byContradiction fun hc => ?_
       have h16 : 16 ^ 4 <= 16 ^ xs.length := Nat.pow_le_pow_right (by decide) (by omega)
       have : 16 ^ xs.length <= q * 16 ^ xs.length := Nat.le_mul_of_pos_left _ h0
       have e : (16 : Nat) ^ 4 = 65536 := rfl
       omega
   have hq6 : q < 65536 := by
     have : q <= q * 16 ^ xs.length := Nat.le_mul_of_pos_right _ (Nat.pos_of_ne_zero (by simp))
     omega
   have e16 : IntKind.u64.wrap (16 : Int) = 16 := by decide
   have ei : i64.wrap (((65 - xs.length : Nat) : Int) - 1) = ((65 - (xs.length + 1) : Nat) : Int) := by rw [ak (by omega) (by omega)]; omega
   have hset : ∀ c : UInt8, (adC (List.replicate (65 - xs.length) 0 ++ xs)).set (65 - (xs.length + 1)) (.int .u8 ((c.toNat : Nat) : Int)) = adC (List.replicate (65 - (xs.length + 1)) 0 ++ (c :: xs)) := fun c => by
     rw [mV, show 65 - xs.length = (65 - (xs.length + 1)) + 1 by omega, List.replicate_succ' (n := 65 - (xs.length + 1)), List.append_assoc, List.set_append_right _ _ (by simp), List.length_replicate, Nat.sub_self]; rfl
   have hput := fun c : UInt8 => h4.put (P := prog) gu (i := 65 - (xs.length + 1)) (v := .int .u8 ((c.toNat : Nat) : Int)) (by rw [bu]; simp; omega) rfl rfl
   rw [ei, dH, Nat.zero_add]
   have hin : (0 <= ((65 - (xs.length + 1) : Nat) : Int) /\ ((65 - (xs.length + 1) : Nat) : Int) < ((65 : Nat) : Int)) /\ true = true := ⟨⟨by omega, by omega⟩, rfl⟩
   refine af.of (fun h => ?_) (fun h => ?_)
   · rw [e16] at h
     simp only [ge_iff_le, dTx] at h
     have hq16 : 16 <= q := by omega
     rw [I4 hq6, JF, show aP [48, 49, 50, 51, 52, 53, 54, 55, 56, 57, 97, 98, 99, 100, 101, 102, 103, 104, 105, 106, 107, 108, 109, 110, 111, 112, 113, 114, 115, 116, 117, 118, 119, 120, 121, 122] ((q % 16 : Nat) : Int) = _ from AH (q % 16) (by omega)]
     obtain ⟨w5, hs5, h5, hg5⟩ := hput (Fc (q % 16))
     rw [hset] at h5
     refine ⟨⟨by omega, by simp; omega⟩, hin, w5, hs5, by decide, q / 16, by omega, q / 16, xs.length + 1, Fc (q % 16) :: xs, rfl, rfl, by simp, rfl, ?_, ?_, .inr (by omega), h5, Below.put hB4 hg5 hk0⟩
     · rw [hx, lL (n := q) (by omega)]; simp
     · have e : q / 16 * 16 ^ (xs.length + 1) = (q / 16 * 16) * 16 ^ xs.length := by rw [Nat.pow_succ, Nat.mul_comm (16 ^ xs.length) 16, Nat.mul_assoc]
       rw [e]
       exact Nat.le_trans (Nat.mul_le_mul_right _ (by omega)) hq
   · rw [e16] at h
     simp only [ge_iff_le, dFx] at h
     have hq16 : q < 16 := by omega
     rw [show aP [48, 49, 50, 51, 52, 53, 54, 55, 56, 57, 97, 98, 99, 100, 101, 102, 103, 104, 105, 106, 107, 108, 109, 110, 111, 112, 113, 114, 115, 116, 117, 118, 119, 120, 121, 122] (q : Int) = _ from AH q hq16]
     obtain ⟨w5, hs5, h5, hg5⟩ := hput (Fc q)
     rw [hset] at h5
     refine ⟨⟨by omega, by simp; omega⟩, hin, w5, hs5, Fc q :: xs, rfl, ?_, h5, Below.put hB4 hg5 hk0⟩
     rw [hx, sq hq16]; rfl
 · rintro w5 ⟨xs, rfl, hxs, h5, hB5⟩
   have hl := qP hn
   rw [<- hxs] at hl
   refine IC (w := w5) ((65 - xs.length : Nat) : Int) (af.no rfl ⟨rfl, rfl⟩) ?_
   refine af.no rfl ⟨⟨by omega, by omega⟩, ?_⟩
   have hpos : 0 < xs.length := by
     rw [hxs]
     by_cases c : n < 16
     · rw [sq c]; exact Nat.one_pos
     · rw [lL c]; simp
   have ea : (if 65 = (Int.toNat ((65 - xs.length : Nat) : Int)) then (⟨k, 0, none⟩ : Addr) else Addr.add ⟨k, 0, none⟩ ((Int.toNat ((65 - xs.length : Nat) : Int)) * 1)) = ⟨k, (List.replicate (65 - xs.length) (0 : UInt8)).length, none⟩ := by
     rw [List.length_replicate, Int.toNat_natCast, if_neg (by omega), GZ, Nat.zero_add, Nat.mul_one]
   have en : 65 - (Int.toNat ((65 - xs.length : Nat) : Int)) = xs.length := by rw [Int.toNat_natCast]; omega
   rw [ea, en]
   refine ⟨xs, oU cD aC bF (h5.sl8 (by unfold maxLen; omega)), ?_⟩
   rw [hxs]
   exact ⟨rfl, hB5⟩
theorem zn (n : Nat) (hn : n < 65536) (w : World) (he : Env w) : Calls prog ik #[.int .u64 (n : Int), .int .i64 16] w (Ret fun v w' => v = .string (mkS (tT n)) /\ Below w.heap.size w w') := by
 apply pu
 unfold kG
 refine ax (K := fun v w' => v = .string (mkS (tT n)) /\ Below w.heap.size w w') ?_ ?_
 · apply j5
   unfold fp
   refine af.no (by decide) ?_
   refine ax (zm n hn w he) ?_
   rintro _ w1 ⟨rfl, hb1⟩
   exact ⟨_, _, _, _, rfl, rfl, hb1⟩
 · rintro _ w1 ⟨rfl, hb1⟩
   exact ⟨_, rfl, rfl, hb1⟩
end Go.Proofs.YtpafoodmpjlkhaaGreatDoor
namespace Go.Pk
def qW (a : List UInt8) (k : Nat) : Nat := (a.getD (2 * k) 0).toNat * 256 + (a.getD (2 * k + 1) 0).toNat
def gL (a : List UInt8) : List Nat := [qW a 0, qW a 1, qW a 2, qW a 3, qW a 4, qW a 5, qW a 6, qW a 7]
theorem pW (a : List UInt8) : (gL a).length = 8 := rfl
theorem wm (a : List UInt8) (k : Nat) : qW a k < 65536 := by
 have h1 := jP (a.getD (2 * k) 0); have h2 := jP (a.getD (2 * k + 1) 0)
 unfold qW; omega
theorem yv (a : List UInt8) : ∀ (k : Nat) (h : k < (gL a).length), (gL a)[k] = qW a k
 | 0, _ => rfl
 | 1, _ => rfl
 | 2, _ => rfl
 | 3, _ => rfl
 | 4, _ => rfl
 | 5, _ => rfl
 | 6, _ => rfl
 | 7, _ => rfl
 | n + 8, h => by rw [pW] at h; omega
theorem uY (a : List UInt8) : ∀ x ∈ gL a, x < 65536 := fun x hx => by
 obtain ⟨i, hi, rfl⟩ := List.mem_iff_getElem.1 hx
 rw [yv]; exact wm a i
def wrL (l : List Nat) : List UInt8 := Lib.join (l.map tT) [58]
theorem kQ {l : List Nat} (h : ∀ x ∈ l, x < 65536) : (wrL l).length <= l.length * 5 := by
 have := wA (l.map tT) 58 4 (fun x hx => by
   obtain ⟨c, hc, rfl⟩ := List.mem_map.1 hx
   exact qP (h c hc))
 rwa [List.length_map] at this
def zst (s : Nat × Nat × Nat) (i : Nat) (z : Bool) : Nat × Nat × Nat :=
 if s.2.1 < (if z = true then s.2.2 + 1 else 0) then (i + 1 - (if z = true then s.2.2 + 1 else 0), (if z = true then s.2.2 + 1 else 0), (if z = true then s.2.2 + 1 else 0)) else (s.1, s.2.1, (if z = true then s.2.2 + 1 else 0))
def mG (zs : List Bool) : Nat -> Nat × Nat × Nat
 | 0 => (0, 0, 0)
 | k + 1 => zst (mG zs k) k (zs.getD k false)
def bN (zs : List Bool) : Nat × Nat := ((mG zs 8).1, (mG zs 8).2.1)
def BN (zs : List Bool) (p l : Nat) : Bool := (List.range l).all fun j => zs.getD (p + j) false
def zok (zs : List Bool) : Bool :=
 decide ((bN zs).1 + (bN zs).2 <= 8) && (decide ((bN zs).2 < 2) || BN zs (bN zs).1 (bN zs).2) &&
   (List.range 9).all fun L => (List.range 9).all fun A => !(decide (2 <= L) && decide (A + L <= 8) && BN zs A L) || (decide (L < (bN zs).2) || (decide (L = (bN zs).2) && decide ((bN zs).1 <= A)))
theorem Ic : ∀ b0 b1 b2 b3 b4 b5 b6 b7 : Bool, zok [b0, b1, b2, b3, b4, b5, b6, b7] = true := by decide +kernel
theorem uw {zs : List Bool} (h : zs.length = 8) : (bN zs).1 + (bN zs).2 <= 8 /\ (2 <= (bN zs).2 -> BN zs (bN zs).1 (bN zs).2 = true) /\
   ∀ L A, 2 <= L -> A + L <= 8 -> BN zs A L = true -> L < (bN zs).2 \/ (L = (bN zs).2 /\ (bN zs).1 <= A) := by
 match zs, h with
 | [b0, b1, b2, b3, b4, b5, b6, b7], _ =>
   have := Ic b0 b1 b2 b3 b4 b5 b6 b7
   unfold zok at this
   rw [Bool.and_eq_true, Bool.and_eq_true] at this
   obtain ⟨⟨h1, h2⟩, h3⟩ := this
   refine ⟨of_decide_eq_true h1, fun hl => ?_, fun L A hL hA hz => ?_⟩
   · rw [Bool.or_eq_true, dTx] at h2
     exact h2.resolve_left (by omega)
   · have := List.all_eq_true.1 (List.all_eq_true.1 h3 L (List.mem_range.2 (by omega))) A (List.mem_range.2 (by omega))
     rw [decide_eq_true hL, decide_eq_true hA, hz] at this
     simpa using this
theorem BL (zs : List Bool) : ∀ k, (mG zs k).2.2 <= k /\ (mG zs k).2.1 <= k /\ (mG zs k).1 <= k
 | 0 => ⟨Nat.le_refl _, Nat.le_refl _, Nat.le_refl _⟩
 | k + 1 => by
   obtain ⟨h1, h2, h3⟩ := BL zs k
   unfold mG zst
   cases zs.getD k false <;> simp only [Bool.false_eq_true, if_false, if_true] <;> split <;> simp <;> omega
def zsA (a : List UInt8) : List Bool := (gL a).map (· == 0)
theorem CX (a : List UInt8) : (zsA a).length = 8 := rfl
def sQ (a : List UInt8) : List UInt8 :=
 if (bN (zsA a)).2 < 2 then wrL (gL a) else wrL ((gL a).take (bN (zsA a)).1) ++ [58, 58] ++ wrL ((gL a).drop ((bN (zsA a)).1 + (bN (zsA a)).2))
theorem Jo {a d : Nat} (ha : a < 256) (hd : d < 256) : IntKind.u16.wrap (((BitVec.ofInt (IntKind.bits .u16) (IntKind.u16.wrap ((IntKind.u16.wrap (a : Int)) * 2 ^ (min (Int.toNat (8 : Int)) (IntKind.bits .u16))))) ||| (BitVec.ofInt (IntKind.bits .u16) (IntKind.u16.wrap (d : Int)))).toNat : Nat) = ((a * 256 + d : Nat) : Int) := by
 have e1 : (2 : Int) ^ (min (Int.toNat (8 : Int)) (IntKind.bits .u16)) = 256 := by decide
 have w16 : ∀ n : Nat, n < 65536 -> IntKind.u16.wrap (n : Int) = (n : Int) := fun n hn => by
   have : IntKind.u16.wrap (n : Int) = (n : Int) % 65536 := rfl
   rw [this]; omega
 have e2 : (a : Int) * 256 = ((a * 256 : Nat) : Int) := by omega
 have b16 : ∀ n : Nat, n < 65536 -> (BitVec.ofInt (IntKind.bits .u16) (n : Int)).toNat = n := fun n hn => by
   show (BitVec.ofInt 16 (n : Int)).toNat = n
   rw [BitVec.toNat_ofInt]
   have h : ((2 ^ 16 : Nat) : Int) = 65536 := by decide
   rw [h]; omega
 rw [e1, w16 a (by omega), e2, w16 (a * 256) (by omega), w16 d (by omega), BitVec.toNat_or, b16 (a * 256) (by omega), b16 d (by omega)]
 have h3 : a * 256 ||| d = a * 256 + d := by
   have := Nat.two_pow_add_eq_or_of_lt (i := 8) hd a
   rw [Nat.mul_comm a 256]; exact this.symm
 rw [h3, w16 _ (by omega)]
def xJ (l : List Nat) : List Value := i16 (l.map fun x : Nat => (x : Int))
theorem zz (l : List Nat) : (xJ l).length = l.length := by simp [xJ, i16]
theorem Dk (l : List Nat) : BQ (xJ l) := Fh _
theorem Gz (l : List Nat) (i x : Nat) : (xJ l).set i (.int .u16 (x : Int)) = xJ (l.set i x) := by unfold xJ i16; rw [List.map_set, List.map_set]
theorem zy {l : List Nat} {i : Nat} (h : i < l.length) : (xJ l)[i]? = some (.int .u16 ((l[i] : Nat) : Int)) := by
 unfold xJ i16; rw [List.getElem?_map, List.getElem?_map, List.getElem?_eq_getElem h]; rfl
theorem am.sl16 {w : World} {k : Nat} {T : TypeId} {l : List Nat} (h : am w k T (xJ l)) {o n c : Nat} {A : Addr} (hA : 0 < n -> A = ⟨k, o, none⟩) (hn : o + n <= l.length) (hc : n <= c) (hm : c <= maxLen) : Sl H6 w gT (some A) n c (((l.drop o).take n).map fun x : Nat => (x : Int)) := by
 have hl : (((l.drop o).take n).map fun x : Nat => (x : Int)).length = n := by simp; omega
 refine ⟨hl.symm, hc, hm, ?_⟩
 by_cases h0 : 0 < n
 · refine .inr ⟨k, o, by rw [hA h0], h.lt, trivial, xJ ((l.drop o).take n), fv (h1 := fun _ => rfl) (fun _ _ => trivial), fun j hj => ?_⟩
   rw [zz] at hj
   have hj2 : j < n := by rw [List.length_take] at hj; omega
   rw [h.cell, zy (by omega), zy hj]
   simp
 · exact .inl (List.length_eq_zero_iff.1 (by omega))
end Go.Pk
namespace Go.Proofs.YtpafoodmpjlkhaaGreatDoor
open Go.Pk
open Go.RowKit (Below)
theorem xF (a : List UInt8) (ha : a.length = 16) (w : World) : Calls prog ow #[adV a] w (Ret fun v w' => v = .agg (xJ (gL a)).toArray /\ Below w.heap.size w w') := by
 apply wP
 unfold rp
 intro k1 w1 hk1 hw1
 have hB1 := (hw1 ▸ ah w _ : Below w.heap.size w w1)
 have h11 : am w1 k1 ai (adC a) := am.new hk1 hw1
 intro k2 w2 hk2 hw2
 have hb2 := (hw2 ▸ ah w1 _ : Below w1.heap.size w1 w2)
 have hB2 := ab hB1 hb2 hB1.size
 have h22 : am w2 k2 aJ (xJ [0, 0, 0, 0, 0, 0, 0, 0]) := am.new hk2 hw2
 intro k3 w3 hk3 hw3
 have hb3 := (hw3 ▸ ah w2 _ : Below w2.heap.size w2 w3)
 have hB3 := ab hB2 hb3 hB2.size
 have h33 : am w3 k3 aJ (xJ [0, 0, 0, 0, 0, 0, 0, 0]) := am.new hk3 hw3
 have h23 := h22.below hb3
 have h13 := (h11.below hb2).below hb3
 have l1 := h11.lt
 have l2 := h22.lt
 have hk3w : w.heap.size <= k3 := by have := hB2.size; omega
 refine ⟨fun m i w' => ∃ k : Nat, k <= 8 /\ i = (k : Int) /\ m = 8 - k /\ am w' k3 aJ (xJ ((gL a).take k ++ List.replicate (8 - k) 0)) /\ am w' k2 aJ (xJ [0, 0, 0, 0, 0, 0, 0, 0]) /\ am w' k1 ai (adC a) /\ Below w.heap.size w w',
   ⟨_, 0, by omega, rfl, rfl, h33, h23, h13, hB3⟩, ?_⟩
 intro m i
 refine aE.of ?_ _
 rintro w6 ⟨k, hk, rfl, rfl, h36, h26, h16, hB6⟩
 refine af.of (fun h => ?_) (fun h => ?_) <;> simp only [dTx, dFx] at h
 · have hk8 : k < 8 := by omega
   have e1 : i64.wrap (2 * (k : Int)) = ((2 * k : Nat) : Int) := by rw [ak (by omega) (by omega)]; omega
   have e2 : i64.wrap (((2 * k : Nat) : Int) + 1) = ((2 * k + 1 : Nat) : Int) := by rw [ak (by omega) (by omega)]; omega
   rw [e1, e2, dH, dH, dH]
   simp only [Nat.zero_add]
   have hin : (0 <= (k : Int) /\ (k : Int) < ((8 : Nat) : Int)) /\ True := ⟨⟨by omega, by omega⟩, trivial⟩
   have hin1 : (0 <= ((2 * k : Nat) : Int) /\ ((2 * k : Nat) : Int) < ((16 : Nat) : Int)) /\ True := ⟨⟨by omega, by omega⟩, trivial⟩
   have hin2 : (0 <= ((2 * k + 1 : Nat) : Int) /\ ((2 * k + 1 : Nat) : Int) < ((16 : Nat) : Int)) /\ True := ⟨⟨by omega, by omega⟩, trivial⟩
   have ld : ∀ (i : Nat) (hi : i < a.length) (u : World), Below w6.heap.size w6 u -> (Instr.loadAt aF (.pointer (some ⟨k1, i, none⟩))).run prog u = .ok (.int .u8 ((a[i].toNat : Nat) : Int)) u := fun i hi u hu => (h16.below hu).load1 bF rfl (pC hi)
   refine ⟨hin1, _, ld _ (by omega), by decide, hin2, _, ld _ (by omega), hin, ?_⟩
   intro wq hq
   have hd := ab hB6 hq hB6.size
   have d3 := h36.below hq
   have d2 := h26.below hq
   have d1 := h16.below hq
   have hval : (a[2 * k]'(by omega)).toNat * 256 + (a[2 * k + 1]'(by omega)).toNat = qW a k := by
     unfold qW
     rw [List.getD_eq_getElem?_getD, List.getD_eq_getElem?_getD, List.getElem?_eq_getElem (by omega), List.getElem?_eq_getElem (by omega)]; rfl
   have hor := Jo (a := (a[2 * k]'(by omega)).toNat) (d := (a[2 * k + 1]'(by omega)).toNat) (by have := jP (a[2 * k]'(by omega)); omega) (by have := jP (a[2 * k + 1]'(by omega)); omega)
   rw [hval] at hor
   have hgl := pW a
   have hlen : ((gL a).take k ++ List.replicate (8 - k) 0).length = 8 := by simp [hgl]; omega
   obtain ⟨w8, hs8, h58, hg8⟩ := d3.put (P := prog) BF (i := k) (v := .int .u16 ((qW a k : Nat) : Int)) (by rw [zz, hlen]; omega) rfl rfl
   have hset : ((gL a).take k ++ List.replicate (8 - k) 0).set k (qW a k) = (gL a).take (k + 1) ++ List.replicate (8 - (k + 1)) 0 := by
     have hl : ((gL a).take k).length = k := by rw [List.length_take, hgl]; omega
     rw [List.set_append_right _ _ (by omega), hl, Nat.sub_self, show 8 - k = (8 - (k + 1)) + 1 by omega, List.replicate_succ (n := 8 - (k + 1)), List.set_cons_zero, List.take_succ_eq_append_getElem (by omega), yv, List.append_assoc]; rfl
   rw [Gz, hset] at h58
   rw [<- hor] at hs8
   have hfin : ∃ m' : Nat, m' < 8 - k /\ ∃ k' : Nat, k' <= 8 /\ i64.wrap ((k : Int) + 1) = (k' : Int) /\ m' = 8 - k' /\ am w8 k3 aJ (xJ ((gL a).take k' ++ List.replicate (8 - k') 0)) /\ am w8 k2 aJ (xJ [0, 0, 0, 0, 0, 0, 0, 0]) /\ am w8 k1 ai (adC a) /\ Below w.heap.size w w8 :=
     ⟨8 - (k + 1), by omega, k + 1, by omega, by rw [ak (by omega) (by omega)]; omega, rfl, h58, d2.grown hg8 (gt (by omega)), d1.grown hg8 (gt (by omega)), Below.put hd hg8 hk3w⟩
   exact ⟨w8, hs8, hfin⟩
 · have : k = 8 := by omega
   subst this
   have e8 : (gL a).take 8 ++ List.replicate (8 - 8) 0 = gL a := by rw [List.take_of_length_le (by rw [pW]; exact Nat.le_refl _)]; simp
   rw [e8] at h36
   have hlen : (xJ (gL a)).length = 8 := by rw [zz]; rfl
   obtain ⟨w7, hs7, h27, hg7⟩ := ut.store0 hlen (Dk _) h26 rfl
   refine ⟨_, _, _, _, _, _, _, _, ut.load0 h36 hlen, w7, hs7, _, _, _, _, _, _, _, _, am.res (ut.load0 h27 hlen), rfl, Below.put hB6 hg7 (by omega)⟩
theorem lE {w : World} {A : Bl} {a : Option Addr} {n c : Nat} {l : List Nat} (hs : Sl H6 w gT a n c (l.map fun x : Nat => (x : Int))) (hl : l.length <= 8) (hb : ∀ x ∈ l, x < 65536) (he : Env w) :
   Calls prog ip #[.slice a n c] w (Ret fun v w' => v = .string (mkS (wrL l)) /\ Below w.heap.size w w') := by
 apply u5
 unfold qy
 have hn := hs.len
 rw [List.length_map] at hn
 refine ⟨fun m a3 l3 c3 i w' => ∃ k : Nat, k <= l.length /\ i = (k : Int) /\ m = l.length - k /\ Ow tS ar w' NoB a3 l3 c3 ((l.take k).map tT) /\ bD w.heap.size a3 /\ Below w.heap.size w w',
   ⟨_, 0, by omega, rfl, rfl, Ow.nil _ _ _ _, bD.none _, Below.refl _ _⟩, ?_⟩
 intro m a3 l3 c3 i
 refine aE.of ?_ _
 rintro w2 ⟨k, hk, rfl, rfl, ho2, hf2, hB2⟩
 refine af.of (fun h => ?_) (fun h => ?_) <;> simp only [dTx, dFx] at h
 · have hkl : k < l.length := by omega
   have hs2 := hs.below hB2
   obtain ⟨v, hv, hrep⟩ := hs2.load1 (i := (k : Int)) xm rfl rfl (by simp; omega)
   simp only [Int.toNat_natCast, List.getElem_map] at hv hrep
   obtain ⟨hv', -⟩ := hrep
   obtain rfl := (List.cons.inj hv').1
   have hgk := hb l[k] (List.getElem_mem hkl)
   refine ⟨⟨⟨by omega, h⟩, hs2.isSome (by simp; omega)⟩, _, hv, ?_⟩
   rw [Dz (by omega) (by omega)]
   refine ax (zn _ hgk w2 (he.step hB2)) ?_
   rintro _ w3 ⟨rfl, hb3⟩
   have hB3 := ab hB2 hb3 hB2.size
   refine ⟨_, rfl, ?_⟩
   intro k4 w4 hk4' hw4
   have hll : ((l.take k).map tT).length <= 8 := by simp; omega
   obtain ⟨w5, a5, n5, c5, hr, ho5, hf5, hb5⟩ := xL (ty := aw) (w0 := w) (cm := 1) (vs := [_]) (dP _) bh iD (by decide) (ho2.below hb3) hf2 hB3 hk4' hw4 (nn trivial) (by omega)
   refine ⟨w5, a5, n5, c5, hr, l.length - (k + 1), by omega, k + 1, by omega, by rw [ak (by omega) (by omega)]; omega, rfl, ?_, hf5, hb5⟩
   rw [List.take_succ_eq_append_getElem hkl, List.map_append]
   exact ho5
 · have : k = l.length := by omega
   subst this
   rw [List.take_length] at ho2
   have hlen := kQ hb
   refine ax (zC ho2.all [58] (by rw [List.length_map]; omega) (by show (wrL l).length <= _; omega)) ?_
   rintro _ w3 ⟨rfl, hb3⟩
   exact ⟨_, rfl, rfl, ab hB2 hb3 hB2.size⟩
theorem za (g0 g1 g2 g3 g4 g5 g6 g7 : Nat) (w : World) :
   Calls prog pL #[.agg #[.int .u16 (g0 : Int), .int .u16 (g1 : Int), .int .u16 (g2 : Int), .int .u16 (g3 : Int), .int .u16 (g4 : Int), .int .u16 (g5 : Int), .int .u16 (g6 : Int), .int .u16 (g7 : Int)]] w
     (Ret fun v w' => v = .tuple #[.int .i64 ((bN ([g0, g1, g2, g3, g4, g5, g6, g7].map (· == 0))).1 : Int), .int .i64 ((bN ([g0, g1, g2, g3, g4, g5, g6, g7].map (· == 0))).2 : Int)] /\ Below w.heap.size w w') := by
 apply xR
 unfold th
 intro k1 w1 hk1 hw1
 have hB1 := (hw1 ▸ ah w _ : Below w.heap.size w w1)
 have h11 : am w1 k1 aJ (xJ [g0, g1, g2, g3, g4, g5, g6, g7]) := am.new hk1 hw1
 obtain ⟨G, hG⟩ : ∃ G, G = [g0, g1, g2, g3, g4, g5, g6, g7] := ⟨_, rfl⟩
 have hl8 : G.length = 8 := by rw [hG]; rfl
 rw [<- hG] at h11 ⊢
 clear hG
 refine ⟨fun m p lo ru i w' => ∃ k : Nat, k <= 8 /\ i = (k : Int) /\ m = 8 - k /\ p = ((mG (G.map (· == 0)) k).1 : Int) /\ lo = ((mG (G.map (· == 0)) k).2.1 : Int) /\ ru = ((mG (G.map (· == 0)) k).2.2 : Int) /\ w' = w1, ⟨_, 0, by omega, rfl, rfl, rfl, rfl, rfl, rfl⟩, ?_⟩
 intro m p lo ru i
 refine aE.of ?_ _
 rintro w2 ⟨k, hk, rfl, rfl, rfl, rfl, rfl, hw2⟩
 rw [hw2]; clear hw2
 obtain ⟨b1, b2, b3⟩ := BL (G.map (· == 0)) k
 refine af.of (fun h => ?_) (fun h => ?_) <;> simp only [dTx, dFx] at h
 · have hk8 : k < G.length := by omega
   have hzk : (G.map (· == 0)).getD k false = (G[k] == 0) := by
     rw [List.getD_eq_getElem?_getD, List.getElem?_map, List.getElem?_eq_getElem hk8]; rfl
   rw [dH, Nat.zero_add]
   have ew : i64.wrap ((k : Int) + 1) = ((k + 1 : Nat) : Int) := by rw [ak (by omega) (by omega)]; omega
   rw [ew]
   refine IC (B := fun J => _ /\ ∃ n15 : Int, _ /\ af (n15 != 0) (J 0 w1) (J _ w1)) ((if (G[k] == 0) = true then (mG (G.map (· == 0)) k).2.2 + 1 else 0 : Nat) : Int) ⟨⟨⟨by omega, by omega⟩, rfl⟩, _, h11.load1 xm rfl (zy hk8), af.of (fun h2 => ⟨rfl, ?_⟩) (fun h2 => ⟨rfl, ?_⟩)⟩ ?_
   · rw [if_neg (by simp at h2 ⊢; omega)]; rfl
   · rw [if_pos (by simp at h2 ⊢; omega), ak (by omega) (by omega)]; omega
   · have hz : mG (G.map (· == 0)) (k + 1) = zst (mG (G.map (· == 0)) k) k (G[k] == 0) := by rw [<- hzk]; rfl
     have hru : (if (G[k] == 0) = true then (mG (G.map (· == 0)) k).2.2 + 1 else 0) <= k + 1 := by split <;> omega
     unfold zst at hz
     generalize (if (G[k] == 0) = true then (mG (G.map (· == 0)) k).2.2 + 1 else 0) = ru at *
     refine af.of (fun h2 => ?_) (fun h2 => ?_) <;> simp only [gt_iff_lt, dTx, dFx] at h2
     · rw [if_pos (by omega)] at hz
       refine ⟨8 - (k + 1), by omega, k + 1, by omega, rfl, rfl, ?_, ?_, ?_, rfl⟩
       · rw [hz, ak (by omega) (by omega)]; show _ = ((k + 1 - ru : Nat) : Int); omega
       · rw [hz]
       · rw [hz]
     · rw [if_neg (by omega)] at hz
       exact ⟨8 - (k + 1), by omega, k + 1, by omega, rfl, rfl, by rw [hz], by rw [hz], by rw [hz], rfl⟩
 · have : k = 8 := by omega
   subst this
   exact ⟨rfl, hB1⟩
end Go.Proofs.YtpafoodmpjlkhaaGreatDoor
namespace Go.Proofs.YtpafoodmpjlkhaaGreatDoor
open Go.Pk
open Go.RowKit (Below)
theorem yY (a : List UInt8) (ha : a.length = 16) (w : World) (he : Env w) : Calls prog pJ #[adV a] w (Ret fun v w' => v = .string (mkS (sQ a)) /\ Below w.heap.size w w') := by
 apply xP
 unfold td
 intro k1 w1 hk1 hw1
 have hB1 := (hw1 ▸ ah w _ : Below w.heap.size w w1)
 have h11 : am w1 k1 ai (adC a) := am.new hk1 hw1
 refine ⟨_, aQ.load0 h11 (by rw [bu, ha]), ?_⟩
 refine ax (xF a ha w1) ?_
 rintro _ w2 ⟨rfl, hb2⟩
 have hB2 := ab hB1 hb2 hB1.size
 refine ⟨_, _, _, _, _, _, _, _, rfl, ?_⟩
 refine ut.new (zs := xJ [0, 0, 0, 0, 0, 0, 0, 0]) (cs := xJ (gL a)) rfl rfl (Dk _) w2 fun k3 w3 hk3 h3 hb3 => ?_
 have hB3 := ab hB2 hb3 hB2.size
 refine ⟨_, _, _, _, _, _, _, _, ut.load0 h3 rfl, ?_⟩
 refine ax (za (qW a 0) (qW a 1) (qW a 2) (qW a 3) (qW a 4) (qW a 5) (qW a 6) (qW a 7) w3) ?_
 rintro _ w4 ⟨rfl, hb4⟩
 have hB4 := ab hB3 hb4 hB3.size
 have h4 := h3.below hb4
 have hz := uw (CX a)
 show ∃ n10_0 n10_1 : Int, (Ending.returned (.tuple #[.int .i64 ((bN (zsA a)).1 : Int), .int .i64 ((bN (zsA a)).2 : Int)]) : Ending) = .returned (.tuple #[.int .i64 n10_0, .int .i64 n10_1]) /\ _
 have ht : sQ a = if (bN (zsA a)).2 < 2 then wrL (gL a) else wrL ((gL a).take (bN (zsA a)).1) ++ [58, 58] ++ wrL ((gL a).drop ((bN (zsA a)).1 + (bN (zsA a)).2)) := rfl
 rw [ht]; clear ht
 generalize bN (zsA a) = Z at *
 obtain ⟨p, lo⟩ := Z
 have hsum : p + lo <= 8 := hz.1
 refine ⟨(p : Int), (lo : Int), rfl, ?_⟩
 show af _ _ _
 have hgl := pW a
 refine af.of (fun h => ?_) (fun h => ?_) <;> simp only [dTx, dFx] at h
 · rw [if_pos (show lo < 2 by omega)]
   have hs := h4.sl16 (o := 0) (n := 8) (c := 8) (A := ⟨k3, 0, none⟩) (fun _ => rfl) (by rw [hgl]; omega) (Nat.le_refl _) (by unfold maxLen; omega)
   have e8 : ((gL a).drop 0).take 8 = gL a := by rw [List.drop_zero, List.take_of_length_le (by omega)]
   rw [e8] at hs
   refine ⟨trivial, ?_⟩
   refine ax (lE (A := gT) hs (by omega) (uY a) (he.step hB4)) ?_
   rintro _ w5 ⟨rfl, hb5⟩
   exact ⟨_, rfl, rfl, ab hB4 hb5 hB4.size⟩
 · rw [if_neg (show ¬ lo < 2 by omega)]
   have e1 : i64.wrap ((p : Int) + (lo : Int)) = ((p + lo : Nat) : Int) := by rw [ak (by omega) (by omega)]; omega
   rw [e1]
   simp only [Int.toNat_natCast]
   have hb1 : ∀ x ∈ (gL a).take p, x < 65536 := fun x hx => uY a x (List.mem_of_mem_take hx)
   have hb2' : ∀ x ∈ (gL a).drop (p + lo), x < 65536 := fun x hx => uY a x (List.mem_of_mem_drop hx)
   have l1 := kQ hb1
   have l2 := kQ hb2'
   rw [List.length_take] at l1
   rw [List.length_drop] at l2
   refine ⟨⟨by omega, by omega⟩, wrL ((gL a).take p), fun u hu => ?_, lB (by simp; omega), ?_⟩
   · have hs := (h4.below hu).sl16 (o := 0) (n := p) (c := 8) (A := ⟨k3, 0, none⟩) (fun _ => rfl) (by rw [hgl]; omega) (by omega) (by unfold maxLen; omega)
     rw [List.drop_zero] at hs
     exact iv (lE (A := gT) hs (by rw [List.length_take]; omega) hb1 ((he.step hB4).step hu)) hu
   rintro _ rfl
   refine ⟨⟨by omega, by omega⟩, wrL ((gL a).drop (p + lo)), fun u hu => ?_, lB (by simp; omega), ?_⟩
   · have hs := (h4.below hu).sl16 (o := p + lo) (n := 8 - (p + lo)) (c := 8 - (p + lo)) (A := if 8 = p + lo then ⟨k3, 0, none⟩ else Addr.add ⟨k3, 0, none⟩ ((p + lo) * 1)) (fun hpos => by rw [if_neg (by omega), GZ, Nat.zero_add, Nat.mul_one]) (by rw [hgl]; omega) (Nat.le_refl _) (by unfold maxLen; omega)
     rw [List.take_of_length_le (by rw [List.length_drop]; omega)] at hs
     exact iv (lE (A := gT) hs (by rw [List.length_drop]; omega) hb2' ((he.step hB4).step hu)) hu
   rintro _ rfl
   intro wq hwq
   exact ⟨by simp only [List.append_assoc], ab hB4 hwq hB4.size⟩
end Go.Proofs.YtpafoodmpjlkhaaGreatDoor
namespace Go.Pk
def eqV (P : Program) : Nat -> TypeId -> Value -> Value -> Option Bool
 | 0, _, _, _ => none
 | d + 1, t, x, y => match P.underlying t, x, y with
   | some .bool, .bool a, .bool b => some (a == b)
   | some (.int _), .int k a, .int k' b => if k = k' then some (a == b) else none
   | some .string, .string a, .string b => some (toL a == toL b)
   | some (.struct fs), .agg xs, .agg ys => if P.stoodInHeld t then none else
       fs.toList.foldr (fun f r => if f.name = "_" then r else match Bm P f.type xs f.offset, Bm P f.type ys f.offset with
         | some a, some b => match eqV P d f.type a b, r with
           | some p, some q => some (p && q)
           | _, _ => none
         | _, _ => none) (some true)
   | some (.array n e), .agg xs, .agg ys => match P.info? e with
     | some i => (List.range n).foldr (fun j r => match Bm P e xs (j * i.size), Bm P e ys (j * i.size) with
         | some a, some b => match eqV P d e a b, r with
           | some p, some q => some (p && q)
           | _, _ => none
         | _, _ => none) (some true)
     | none => none
   | _, _, _ => none
theorem EX {P : Program} : ∀ (d : Nat) (t : TypeId) (x y : Value) (b : Bool) (w : World), eqV P d t x y = some b -> (Op.equalIn d t x y).run P w = .ok b w := by
 intro d
 induction d with
 | zero => intro t x y b w h; cases h
 | succ d ih =>
   intro t x y b w h
   unfold eqV at h
   split at h
   · rename_i hu; cases h
     exact run_equalIn_bool' w d t _ _ hu
   · rename_i k0 k a k' c hu
     split at h
     · rename_i e; subst e; cases h
       exact run_equalIn_int w d t _ _ _ _ hu
     · cases h
   · rename_i a c hu; cases h
     rw [run_equalIn_string w d t _ _ hu]
     rw [ByteArray.toList_eq, ByteArray.toList_eq]; rfl
   · rename_i fs xs ys hu
     split at h
     · cases h
     · rename_i hp
       have hf : P.fieldsOf t = fs := by unfold Program.fieldsOf; rw [hu]
       rw [run_equalIn_struct w d t xs ys (by rw [hf]; exact hu) (by simpa using hp), hf]
       revert h
       generalize fs.toList = l
       induction l generalizing b with
       | nil => intro h; cases h; rfl
       | cons f l ihl =>
         intro h
         rw [List.foldr_cons] at h
         unfold Op.eqFields
         by_cases hn : f.name = "_"
         · rw [if_pos hn] at h
           rw [if_neg (by simpa using hn)]
           exact ihl b h
         · rw [if_neg hn] at h
           rw [if_pos hn]
           split at h
           · rename_i a c ha hc
             split at h
             · rename_i p q hpq hq
               cases h
               have h1 := ih f.type a c p w hpq
               have h2 := ihl q hq
               simp only [Sem.run_bind, sJ ha, sJ hc, Result.andThen_ok, h1]
               cases p
               · simp
               · simpa using h2
             · cases h
           · cases h
   · rename_i n e xs ys hu
     split at h
     · rename_i i hi
       simp only [Op.equalIn, Sem.run_bind, br hu, Result.andThen_ok, eS hi]
       rw [Std.Legacy.Range.forIn_eq_forIn_range']
       have er : List.range' 0 ([0:n] : Std.Legacy.Range).size 1 = List.range n := by
         rw [List.range_eq_range']; simp [Std.Legacy.Range.size]
       rw [er]
       clear er
       revert h
       generalize List.range n = l
       induction l generalizing b with
       | nil => intro h; cases h; simp
       | cons j l ihl =>
         intro h
         rw [List.foldr_cons] at h
         split at h
         · rename_i a c ha hc
           split at h
           · rename_i p q hpq hq
             cases h
             have h1 := ih e a c p w hpq
             have h2 := ihl q hq
             simp only [List.forIn_cons, Sem.run_bind, sJ ha, sJ hc, Result.andThen_ok, h1]
             cases p
             · simp
             · simpa using h2
           · cases h
         · cases h
     · cases h
   · cases h
theorem Bw {P : Program} {t : TypeId} {x y : Operand} {xs ys : Array Value} {b : Bool} (hm : P.eqGuardType P.depth t = false) (h : eqV P 10000 t (.agg xs) (.agg ys) = some b) (w : World) :
   ((do eqGuard .eql t x y (.agg xs) (.agg ys); binOp .eql t (.agg xs) (.agg ys) : Sem Value)).run P w = .ok (.bool b) w := by
 rw [Sem.run_bind, run_eqGuard_agg w .eql t x y xs ys hm, Result.andThen_ok, run_eql_struct, EX _ _ _ _ _ w h, Result.andThen_ok]
end Go.Pk
namespace Go.Pk
structure Hst where
 kind : Int
 name : List UInt8
 ad : List UInt8
def Hst.cells (h : Hst) : List Value := .int .i64 h.kind :: .string (mkS h.name) :: adC h.ad
def Hst.v (h : Hst) : Value := .agg h.cells.toArray
def gj : Hst := ⟨0, [], ad0⟩
def Hst.ok (h : Hst) : Prop := h.ad.length = 16
theorem Hst.len {h : Hst} (o : h.ok) : h.cells.length = 18 := by unfold Hst.cells; rw [List.length_cons, List.length_cons, bu, o]
theorem Hst.one (h : Hst) : BQ h.cells := bS rfl (bS rfl (bT _))
def Ij : List UInt8 -> List UInt8 -> Bool
 | x :: xs, y :: ys => ((((x.toNat : Nat) : Int)) == ((y.toNat : Nat) : Int)) && Ij xs ys
 | _, _ => true
theorem C0 : ∀ (xs ys : List UInt8), xs.length = ys.length -> (Ij xs ys = true ↔ xs = ys)
 | [], [], _ => by simp [Ij]
 | x :: xs, [], h => by simp at h
 | [], y :: ys, h => by simp at h
 | x :: xs, y :: ys, h => by
   unfold Ij
   rw [Bool.and_eq_true, C0 xs ys (by simpa using h), beq_iff_eq]
   have e : ((x.toNat : Nat) : Int) = ((y.toNat : Nat) : Int) ↔ x = y := ⟨fun h => UInt8.toNat_inj.1 (by omega), fun h => by rw [h]⟩
   rw [e]
   simp
theorem yA {α : Type} : ∀ (a : List α), a.length = 16 -> ∃ x0 x1 x2 x3 x4 x5 x6 x7 x8 x9 x10 x11 x12 x13 x14 x15, a = [x0, x1, x2, x3, x4, x5, x6, x7, x8, x9, x10, x11, x12, x13, x14, x15]
 | [x0, x1, x2, x3, x4, x5, x6, x7, x8, x9, x10, x11, x12, x13, x14, x15], _ => ⟨x0, x1, x2, x3, x4, x5, x6, x7, x8, x9, x10, x11, x12, x13, x14, x15, rfl⟩
def rP (h g : Hst) : Bool := (h.kind == g.kind) && ((h.name == g.name) && (Ij h.ad g.ad && true))
theorem d7 {h g : Hst} (o : h.ok) (p : g.ok) : rP h g = true ↔ h = g := by
 unfold rP
 rw [Bool.and_eq_true, Bool.and_eq_true, Bool.and_true, C0 _ _ (o.trans p.symm), beq_iff_eq, beq_iff_eq]
 cases h; cases g; simp
def fQ (c : UInt8) : Bool := (decide (97 <= c.toNat) && decide (c.toNat <= 122)) || (decide (48 <= c.toNat) && decide (c.toNat <= 57)) || c == 45 || c == 95
def aX (s : List UInt8) : Bool := decide (1 <= s.length) && decide (s.length <= 63) && s.all fQ
def po (L : List (List UInt8)) : List UInt8 := L[L.length - 1]?.getD []
def ct (s : List UInt8) : Option Hst :=
 if s.head? = some 91 then (if s.getLast? = some 93 then (v6A ((s.drop 1).take (s.length - 2))).map fun a => ⟨3, [], a⟩ else none)
 else if bU (po (aZ 46 [] (fU s))) = true then (v4V s).map fun a => ⟨2, [], a⟩
 else if s.length <= 253 /\ (aZ 46 [] (fU s)).all aX = true then some ⟨1, fU s, ad0⟩ else none
def Ff : Option Hst -> Value
 | some h => .tuple #[h.v, .int .i64 0]
 | none => .tuple #[gj.v, .int .i64 31]
theorem fP {s : List UInt8} {h : Hst} (e : ct s = some h) : h.ok := by
 unfold ct at e
 split at e
 · split at e
   · cases hv : v6A ((s.drop 1).take (s.length - 2)) with
     | none => rw [hv] at e; cases e
     | some a => rw [hv] at e; cases e; exact CS _ a hv
   · cases e
 split at e
 · cases hv : v4V s with
   | none => rw [hv] at e; cases e
   | some a => rw [hv] at e; cases e; exact GP _ a hv
 split at e
 · cases e; rfl
 · cases e
theorem d8 (c : UInt8) : ∀ (s cur : List UInt8), Lib.join (aZ c cur s) [c] = cur ++ s
 | [], cur => by simp [aZ, Lib.join_one]
 | x :: r, cur => by
   show Lib.join (if x = c then cur :: aZ c [] r else aZ c (cur ++ [x]) r) [c] = _
   split
   · rename_i h
     subst h
     have ih := d8 x r []
     have hne := gy x r []
     cases hL : aZ x [] r with
     | nil => exact absurd hL hne
     | cons y l =>
       rw [hL, Lib.join_cons, List.nil_append] at ih
       rw [Lib.join_cons]
       have e : Lib.joinTail [x] (y :: l) = [x] ++ y ++ Lib.joinTail [x] l := by simp [Lib.joinTail]
       rw [e, List.append_assoc [x] y, ih]; rfl
   · rw [d8 c r (cur ++ [x])]; simp
theorem GM (s : List UInt8) (c : UInt8) : Lib.hasSuffix s [c] = decide (s.getLast? = some c) /\ Lib.trimSuffix s [c] = if s.getLast? = some c then s.take (s.length - 1) else s := by
 have h1 : Lib.hasSuffix s [c] = decide (s.getLast? = some c) := by
   unfold Lib.hasSuffix
   rw [Bool.eq_iff_iff, dTx, List.isSuffixOf_iff_suffix]
   constructor
   · rintro ⟨t, rfl⟩; simp
   · intro h
     obtain ⟨t, rfl⟩ := List.getLast?_eq_some_iff.1 h
     exact ⟨t, rfl⟩
 refine ⟨h1, ?_⟩
 unfold Lib.trimSuffix
 rw [h1]
 by_cases h : s.getLast? = some c
 · rw [if_pos (decide_eq_true h), if_pos h]; rfl
 · rw [if_neg (by rw [decide_eq_false h]; decide), if_neg h]
theorem Fp {s : List UInt8} (h : s.head? = some 91) : ((s.drop 1).getLast? = some 93 ↔ s.getLast? = some 93) := by
 cases s with
 | nil => cases h
 | cons x r =>
   obtain rfl : x = 91 := Option.some.inj h
   cases r with
   | nil => simp
   | cons y r => simp [List.getLast?_cons_cons]
theorem nN {L : List (List UInt8)} (h : 0 < L.length) : po L = L[L.length - 1]'(by omega) := by unfold po; rw [List.getElem?_eq_getElem (by omega)]; rfl
end Go.Pk
namespace Go.Proofs.YtpafoodmpjlkhaaGreatDoor
open Go.Pk
open Go.RowKit (Below)
theorem aB : Whl prog ae 18 := ⟨⟨_, _, CK⟩, by kernel_rfl⟩
theorem EW {h g : Hst} (o : h.ok) (p : g.ok) : eqV prog 10000 ae h.v g.v = some (rP h g) := by
 obtain ⟨k, n, a⟩ := h
 obtain ⟨k', n', a'⟩ := g
 obtain ⟨x0, x1, x2, x3, x4, x5, x6, x7, x8, x9, x10, x11, x12, x13, x14, x15, rfl⟩ := yA a o
 obtain ⟨y0, y1, y2, y3, y4, y5, y6, y7, y8, y9, y10, y11, y12, y13, y14, y15, rfl⟩ := yA a' p
 kernel_rfl
theorem AQ : prog.eqGuardType prog.depth ae = false := by kernel_rfl
theorem yy {h g : Hst} (o : h.ok) (p : g.ok) {x y : Operand} (w : World) : ((do eqGuard .eql ae x y h.v g.v; binOp .eql ae h.v g.v : Sem Value)).run prog w = .ok (.bool (rP h g)) w :=
 Bw AQ (EW o p) w
theorem nB (k : Int) {a : List UInt8} (o : a.length = 16) (w : World) : (Instr.build ae #[(0, .int .i64 k), (2, adV a)]).run prog w = .ok (Hst.v ⟨k, [], a⟩) w := by
 obtain ⟨x0, x1, x2, x3, x4, x5, x6, x7, x8, x9, x10, x11, x12, x13, x14, x15, rfl⟩ := yA a o
 kernel_rfl
theorem xI (c : UInt8) (w : World) : Calls prog oC #[.int .u8 ((c.toNat : Nat) : Int)] w (Ret fun v w' => v = .bool (fQ c) /\ w' = w) := by
 apply wS
 unfold rt
 have e45 := pz c 45
 have e95 := pz c 95
 rw [show (((45 : UInt8).toNat : Nat) : Int) = 45 from rfl] at e45
 rw [show (((95 : UInt8).toNat : Nat) : Int) = 95 from rfl] at e95
 rw [e45, e95]
 unfold fQ
 have lf : ∀ {b : Bool} {x : Bool}, b = x -> (.bool b : Value) = .bool x /\ w = w := fun h => ⟨by rw [h], rfl⟩
 refine af.of (fun h => ?_) (fun h => ?_) <;> simp only [ge_iff_le, dTx, dFx] at h
 · refine af.of (fun h2 => lf ?_) (fun h2 => ?_) <;> simp only [ge_iff_le, dTx, dFx] at h2
   · rw [decide_eq_true (p := 97 <= c.toNat) (by omega), decide_eq_true (p := c.toNat <= 122) (by omega)]; rfl
   · rw [decide_eq_false (p := c.toNat <= 122) (by omega), Bool.and_false, Bool.false_or]
     refine af.yes (by simp; omega) (af.no (by simp; omega) ?_)
     rw [decide_eq_false (p := c.toNat <= 57) (by omega), Bool.and_false, Bool.false_or]
     exact af.of (fun h3 => lf (by rw [h3]; rfl)) (fun h3 => lf (by rw [h3, Bool.false_or]))
 · rw [decide_eq_false (p := 97 <= c.toNat) (by omega), Bool.false_and, Bool.false_or]
   refine af.of (fun h2 => ?_) (fun h2 => ?_) <;> simp only [ge_iff_le, dTx, dFx] at h2
   · rw [decide_eq_true (p := 48 <= c.toNat) (by omega), Bool.true_and]
     refine af.of (fun h3 => lf ?_) (fun h3 => ?_) <;> simp only [ge_iff_le, dTx, dFx] at h3
     · rw [decide_eq_true (p := c.toNat <= 57) (by omega)]; rfl
     · rw [decide_eq_false (p := c.toNat <= 57) (by omega), Bool.false_or]
       exact af.of (fun h4 => lf (by rw [h4]; rfl)) (fun h4 => lf (by rw [h4, Bool.false_or]))
   · rw [decide_eq_false (p := 48 <= c.toNat) (by omega), Bool.false_and, Bool.false_or]
     exact af.of (fun h4 => lf (by rw [h4]; rfl)) (fun h4 => lf (by rw [h4, Bool.false_or]))
theorem zx (s : List UInt8) (hs : s.length <= 9223372036854775800) (w : World) : Calls prog pO #[.string (mkS s)] w (Ret fun v w' => v = .bool (aX s) /\ Below w.heap.size w w') := by
 apply xV
 unfold tp
 refine af.of (fun h => ?_) (fun h => ⟨?_, Below.refl _ _⟩)
 · have hne : s ≠ [] := by simpa using h
   have h1 : 1 <= s.length := List.length_pos_iff.2 hne
   refine af.of (fun h2 => ?_) (fun h2 => ⟨?_, Below.refl _ _⟩) <;> simp only [dTx, dFx] at h2
   · obtain ⟨w2, a, n, c, hr, ho, hb2, hf⟩ := vj (P := prog) aC cD bF w s (by omega) NoB
     have hnn := ho.len
     subst hnn
     refine ⟨w2, a, _, c, hr, ?_⟩
     have hl : aX s = s.all fQ := by unfold aX; rw [decide_eq_true h1, decide_eq_true (by omega), Bool.true_and, Bool.true_and]
     refine ax (K := fun v w' => v = .bool (!(s.all fQ)) /\ w' = w2) ?_ ?_
     · apply eG
       unfold ck
       refine ax (K := fun v w' => ∃ i : Int, v = .int .i64 i /\ (decide (i >= 0)) = (!(s.all fQ)) /\ w' = w2) ?_ ?_
       · apply fk
         unfold cG
         refine ⟨fun m i w' => ∃ k : Nat, k <= s.length /\ i = (k : Int) /\ m = s.length - k /\ (s.take k).all fQ = true /\ w' = w2, ⟨_, 0, by omega, rfl, rfl, rfl, rfl⟩, ?_⟩
         intro m i
         refine aE.of ?_ _
         rintro w' ⟨k, hk, rfl, rfl, hno, hw'⟩
         rw [hw']; clear hw'
         refine af.of (fun h => ?_) (fun h => ?_) <;> simp only [dTx, dFx] at h
         · have hlt : k < s.length := by omega
           obtain ⟨v, hv, hrep⟩ := ho.all.load1 (i := (k : Int)) bF rfl rfl (by simpa using hlt)
           have := yO hrep
           subst this
           simp only [Int.toNat_natCast] at hv
           refine ⟨⟨⟨by omega, h⟩, ho.all.isSome hlt⟩, _, hv, ?_⟩
           refine ax (K := fun v w' => v = .bool (!fQ s[k]) /\ w' = w2) ?_ ?_
           · apply ua
             unfold pe
             refine ax (xI _ w2) ?_
             rintro _ w3 ⟨rfl, hw3⟩
             exact ⟨_, rfl, rfl, hw3⟩
           rintro _ w3 ⟨rfl, hw3⟩
           rw [hw3]
           refine ⟨_, rfl, af.of (fun h3 => ?_) (fun h3 => ?_)⟩
           · refine ⟨_, rfl, ?_, rfl⟩
             have : s.all fQ = false := by
               rw [Bool.eq_false_iff]
               intro hc
               rw [List.all_eq_true.1 hc _ (List.getElem_mem hlt)] at h3; cases h3
             rw [this, decide_eq_true (by omega)]; rfl
           · refine ⟨s.length - (k + 1), by omega, k + 1, by omega, by rw [ak (by omega) (by omega)]; omega, rfl, ?_, rfl⟩
             rw [List.take_succ_eq_append_getElem hlt, List.all_append, hno]
             simpa using h3
         · have : k = s.length := by omega
           subst this
           rw [List.take_length] at hno
           exact ⟨_, rfl, by rw [hno]; decide, rfl⟩
       · rintro _ w3 ⟨i, rfl, hi, hw3⟩
         exact ⟨_, rfl, by rw [hi], hw3⟩
     · rintro _ w3 ⟨rfl, hw3⟩
       rw [hw3]
       exact ⟨_, rfl, by rw [hl, Bool.not_not], hb2⟩
   · unfold aX; rw [decide_eq_false (p := s.length <= 63) (by omega), Bool.and_false, Bool.false_and]
 · have hne : s = [] := by simpa using h
   subst hne; rfl
end Go.Proofs.YtpafoodmpjlkhaaGreatDoor
namespace Go.Pk
theorem lr (o : Option Hst) : Ff o = .tuple #[(o.getD gj).v, .int .i64 (if o.isSome then 0 else 31)] := by cases o <;> rfl
theorem tV {o : Option Hst} (h : ∀ x, o = some x -> x.ok) : (o.getD gj).ok := by
 cases o with
 | none => rfl
 | some x => exact h x rfl
end Go.Pk
namespace Go.Proofs.YtpafoodmpjlkhaaGreatDoor
open Go.Pk
open Go.RowKit (Below)
theorem lN (k : Int) (a : List UInt8) (o : a.length = 16) (b : Bool) (w : World) : Calls prog iq #[.int .i64 k, adV a, .bool b] w (Ret fun v w' => v = Ff (if b = true then some ⟨k, [], a⟩ else none) /\ Below w.heap.size w w') := by
 apply ve
 unfold qB
 intro k4 w4 hk4 hw4
 have hB4 := (hw4 ▸ ah w _ : Below w.heap.size w w4)
 have h4 : am w4 k4 ai (adC a) := am.new hk4 hw4
 intro k6 w6 hk6 hw6
 have hb6 := (hw6 ▸ ah w4 _ : Below w4.heap.size w4 w6)
 have hB6 := ab hB4 hb6 hB4.size
 have h6 : am w6 k6 ae gj.cells := am.new hk6 hw6
 have hk : w.heap.size <= k6 := by have := hB4.size; omega
 refine af.of (fun h => ?_) (fun h => ?_)
 · have hb : b = false := by simpa using h
   rw [hb]
   exact aB.fin (K := fun vr wy => (.tuple #[vr, .int .i64 (31 : Int)] : Value) = Ff (if false = true then some ⟨k, [], a⟩ else none) /\ Below w.heap.size w wy) (cs := gj.cells) rfl (Hst.one _) h6 rfl hB6 hk fun wy hb => ⟨rfl, hb⟩
 · have hb : b = true := by simpa using h
   rw [hb]
   refine ⟨_, aQ.load0 (h4.below hb6) (by rw [bu, o]), _, nB k o w6, ?_⟩
   exact aB.fin (K := fun vr wy => (.tuple #[vr, .int .i64 (0 : Int)] : Value) = Ff (if true = true then some ⟨k, [], a⟩ else none) /\ Below w.heap.size w wy) (cs := Hst.cells ⟨k, [], a⟩) (Hst.len o) (Hst.one _) h6 rfl hB6 hk fun wy hb => ⟨rfl, hb⟩
theorem Fo {w : World} {A : Bl} {a : Option Addr} {n c : Nat} {L : List (List UInt8)} (hs : Sl tS w gT a n c L) (hl : ∀ x ∈ L, x.length <= 9223372036854775800) (hL : L.length <= 9223372036854775800) :
   Calls prog bf #[.slice a n c, .func (.func cA) #[] #[]] w (Ret fun v w' => v = .bool (!(L.all aX)) /\ Below w.heap.size w w') := by
 have hn := hs.len
 apply dM
 unfold bM
 refine ax (K := fun v w' => ∃ i : Int, v = .int .i64 i /\ (decide (i >= 0)) = (!(L.all aX)) /\ Below w.heap.size w w') ?_ ?_
 · apply d9
   unfold bZ
   refine ⟨fun m i w' => ∃ k : Nat, k <= L.length /\ i = (k : Int) /\ m = L.length - k /\ (L.take k).all aX = true /\ Below w.heap.size w w', ⟨_, 0, by omega, rfl, rfl, rfl, Below.refl _ _⟩, ?_⟩
   intro m i
   refine aE.of ?_ _
   rintro w2 ⟨k, hk, rfl, rfl, hno, hB2⟩
   refine af.of (fun h => ?_) (fun h => ?_) <;> simp only [dTx, dFx] at h
   · have hlt : k < L.length := by omega
     have hs2 := hs.below hB2
     refine ⟨⟨⟨by omega, h⟩, hs2.isSome (by omega)⟩, _, hs2.text aC hlt, ?_⟩
     refine ax (K := fun v w' => v = .bool (!aX L[k]) /\ Below w2.heap.size w2 w') ?_ ?_
     · apply t8
       unfold pd
       refine ax (zx _ (hl _ (List.getElem_mem hlt)) w2) ?_
       rintro _ w3 ⟨rfl, hb3⟩
       exact ⟨_, rfl, rfl, hb3⟩
     rintro _ w3 ⟨rfl, hb3⟩
     have hB3 := ab hB2 hb3 hB2.size
     refine ⟨_, rfl, af.of (fun h3 => ?_) (fun h3 => ?_)⟩
     · refine ⟨_, rfl, ?_, hB3⟩
       have : L.all aX = false := by
         rw [Bool.eq_false_iff]
         intro hc
         rw [List.all_eq_true.1 hc _ (List.getElem_mem hlt)] at h3; cases h3
       rw [this, decide_eq_true (by omega)]; rfl
     · refine ⟨L.length - (k + 1), by omega, k + 1, by omega, by rw [ak (by omega) (by omega)]; omega, rfl, ?_, hB3⟩
       rw [List.take_succ_eq_append_getElem hlt, List.all_append, hno]
       simpa using h3
   · have : k = L.length := by omega
     subst this
     rw [List.take_length] at hno
     exact ⟨_, rfl, by rw [hno]; decide, hB2⟩
 · rintro _ w3 ⟨i, rfl, hi, hB3⟩
   exact ⟨_, rfl, by rw [hi], hB3⟩
def kZ (s : List UInt8) (w : World) (v : Value) (w' : World) : Prop := v = Ff (ct s) /\ Below w.heap.size w w'
theorem ls (s : List UInt8) (hs : s.length <= 2000000000) (w : World) (he : Env w) : Calls prog kq #[.string (mkS s)] w (Ret (kZ s w)) := by
 apply xT
 unfold tk
 intro k2 w2 hk2 hw2
 have hB2 := (hw2 ▸ ah w _ : Below w.heap.size w w2)
 have h2 : am w2 k2 ae gj.cells := am.new hk2 hw2
 have hk2w : w.heap.size <= k2 := by omega
 refine ax (EU s 91 w2) ?_
 rintro _ w3 ⟨rfl, hw3⟩
 rw [hw3]; clear hw3
 refine ⟨_, _, rfl, ?_⟩
 -- the result of a call is stored, and read
 have fin : ∀ {wx : World} (o : Option Hst), (∀ x, o = some x -> x.ok) -> ct s = o -> am wx k2 ae gj.cells -> Below w.heap.size w wx ->
     ∃ wy, (Instr.storeAt ae (.pointer (some ⟨k2, 0, none⟩)) (o.getD gj).v).run prog wx = .ok () wy /\ ∃ vr : Value, (bm ae (.pointer (some ⟨k2, 0, none⟩))).run prog wy = .ok vr wy /\ kZ s w (.tuple #[vr, .int .i64 (if o.isSome then 0 else 31)]) wy := fun {wx} o ho hv h2x hBx =>
   aB.fin (K := fun vr wy => kZ s w (.tuple #[vr, .int .i64 (if o.isSome then 0 else 31)]) wy) (cs := (o.getD gj).cells) (Hst.len (tV ho)) (Hst.one _) h2x rfl hBx hk2w fun wy hb => ⟨by rw [hv, lr]; rfl, hb⟩
 by_cases h91 : s.head? = some 91
 · rw [if_pos h91, decide_eq_true h91]
   refine af.yes rfl ?_
   have hv : ct s = if s.getLast? = some 93 then (v6A ((s.drop 1).take (s.length - 2))).map fun a => ⟨3, [], a⟩ else none := by unfold ct; rw [if_pos h91]
   have hlt := Fp h91
   refine (Tryz.strings_CutSuffix (mkS (s.drop 1)) (mkS [93]) w2 (by show (s.drop 1).length <= _; rw [List.length_drop]; omega)).mono ?_
   rintro _ w3 ⟨rfl, hw3⟩
   rw [hw3]; clear hw3
   have hsb := GM (s.drop 1) 93
   have e1 : (mkS (s.drop 1)).data.toList = s.drop 1 := rfl
   have e2 : (mkS [93]).data.toList = [93] := rfl
   rw [e1, e2, hsb.1, hsb.2]
   obtain ⟨inner, hin⟩ : ∃ inner, inner = if (s.drop 1).getLast? = some 93 then (s.drop 1).take ((s.drop 1).length - 1) else s.drop 1 := ⟨_, rfl⟩
   rw [<- hin]
   have hil : inner.length <= s.length := by rw [hin]; split <;> simp <;> omega
   refine ⟨inner, _, rfl, ?_⟩
   refine ax (DI inner (by omega) w2 (he.step hB2)) ?_
   rintro _ w4 ⟨rfl, hb4⟩
   have hB4 := ab hB2 hb4 hB2.size
   refine ⟨_, _, by rw [rc], ?_⟩
   have hal := mL (CS inner)
   refine aQ.new (zs := adC ad0) (cs := adC ((v6A inner).getD ad0)) rfl hal (bT _) w4 fun k8 w8 hk8 h8 hb8 => ?_
   have hB8 := ab hB4 hb8 hB4.size
   have h28 := (h2.below hb4).below hb8
   refine ⟨_, aQ.load0 h8 hal, ?_⟩
   have hvo : ct s = if (v6A inner).isSome = true /\ (s.drop 1).getLast? = some 93 then some ⟨3, [], (v6A inner).getD ad0⟩ else none := by
     rw [hv]
     by_cases hc : s.getLast? = some 93
     · have hc' := hlt.2 hc
       rw [if_pos hc, if_pos hc'] at *
       rw [List.length_drop, show s.length - 1 - 1 = s.length - 2 by omega] at hin
       rw [<- hin]
       cases v6A inner with
       | none => rw [if_neg (fun h => by cases h.1)]; rfl
       | some x => rw [if_pos ⟨rfl, hc'⟩]; rfl
     · rw [if_neg hc, if_neg (fun h => hc (hlt.1 h.2))]
   refine af.of (fun hs1 => ?_) (fun hs1 => ?_)
   · refine ax (lN 3 _ (by rw [<- bu]; exact hal) _ w8) ?_
     rintro _ w9 ⟨rfl, hb9⟩
     have hB9 := ab hB8 hb9 hB8.size
     refine ⟨_, _, by rw [lr], ?_⟩
     refine fin _ (fun x hx => ?_) ?_ (h28.below hb9) hB9
     · split at hx
       · cases hx; show ((v6A inner).getD ad0).length = 16; rw [<- bu]; exact hal
       · cases hx
     · rw [hvo, hs1]
       by_cases hc : (s.drop 1).getLast? = some 93
       · rw [if_pos ⟨rfl, hc⟩, if_pos (by simpa using hc)]
       · rw [if_neg (fun h => hc h.2), if_neg (by simpa using hc)]
   · refine ax (lN 3 _ (by rw [<- bu]; exact hal) _ w8) ?_
     rintro _ w9 ⟨rfl, hb9⟩
     have hB9 := ab hB8 hb9 hB8.size
     refine ⟨_, _, by rw [lr], ?_⟩
     refine fin _ (fun x hx => by cases hx) ?_ (h28.below hb9) hB9
     rw [hvo, hs1, if_neg (fun h => by cases h.1)]; rfl
 · rw [if_neg h91, decide_eq_false h91]
   refine af.no rfl ?_
   have hv : ct s = if bU (po (aZ 46 [] (fU s))) = true then (v4V s).map fun a => ⟨2, [], a⟩ else if s.length <= 253 /\ (aZ 46 [] (fU s)).all aX = true then some ⟨1, fU s, ad0⟩ else none := by unfold ct; rw [if_neg h91]
   refine ax (rj s (by omega) w2) ?_
   rintro _ w3 ⟨rfl, hb3⟩
   have hB3 := ab hB2 hb3 hB2.size
   refine ⟨_, rfl, ?_⟩
   have ll : (fU s).length = s.length := by simp [fU]
   refine ax (kh (fU s) 46 (by omega) w3 (he.step hB3)) ?_
   rintro _ w4 ⟨a, n, c, rfl, ho, hf, hb4⟩
   have hB4 := ab hB3 hb4 hB3.size
   have h24 := (h2.below hb3).below hb4
   have hn := ho.len
   subst hn
   have hlens : ∀ x ∈ aZ 46 [] (fU s), x.length <= s.length := fun x hx => by have := gW 46 (fU s) [] x hx; simp [ll] at this; omega
   have hcn := gi 46 (fU s) []
   have hnz : 0 < (aZ 46 [] (fU s)).length := List.length_pos_iff.2 (gy 46 (fU s) [])
   have hjoin := d8 46 (fU s) []
   refine ⟨_, _, _, rfl, ?_⟩
   generalize aZ 46 [] (fU s) = L at *
   have ei : i64.wrap (((L.length : Nat) : Int) - 1) = ((L.length - 1 : Nat) : Int) := by rw [ak (by omega) (by omega)]; omega
   rw [ei]
   refine ⟨⟨⟨by omega, by omega⟩, ho.all.isSome hnz⟩, _, ho.all.text aC (by omega), ?_⟩
   rw [<- nN hnz]
   have hll : (po L).length <= s.length := by rw [nN hnz]; exact hlens _ (List.getElem_mem _)
   refine ax (lS (po L) (by omega) w4) ?_
   rintro _ w5 ⟨rfl, hb5⟩
   have hB5 := ab hB4 hb5 hB4.size
   have h25 := h24.below hb5
   refine ⟨_, rfl, af.of (fun hd => ?_) (fun hd => ?_)⟩
   · rw [if_pos hd] at hv
     refine ax (DH s (by omega) w5 (he.step hB5)) ?_
     rintro _ w6 ⟨rfl, hb6⟩
     have hB6 := ab hB5 hb6 hB5.size
     refine ⟨_, _, by rw [rc], ?_⟩
     have hal := mL (GP s)
     refine aQ.new (zs := adC ad0) (cs := adC ((v4V s).getD ad0)) rfl hal (bT _) w6 fun k8 w8 hk8 h8 hb8 => ?_
     have hB8 := ab hB6 hb8 hB6.size
     have h28 := (h25.below hb6).below hb8
     refine ⟨_, aQ.load0 h8 hal, ?_⟩
     refine ax (lN 2 _ (by rw [<- bu]; exact hal) _ w8) ?_
     rintro _ w9 ⟨rfl, hb9⟩
     have hB9 := ab hB8 hb9 hB8.size
     refine ⟨_, _, by rw [lr], ?_⟩
     refine fin _ (fun x hx => ?_) ?_ (h28.below hb9) hB9
     · split at hx
       · cases hx; show ((v4V s).getD ad0).length = 16; rw [<- bu]; exact hal
       · cases hx
     · rw [hv]
       cases v4V s <;> rfl
   · rw [if_neg (by rw [hd]; decide)] at hv
     have hbad : ¬ (s.length <= 253 /\ L.all aX = true) -> ct s = none := fun h => by rw [hv, if_neg h]
     refine jK (fun w' => (s.length <= 253 /\ L.all aX = true) /\ Below w5.heap.size w5 w') ?_ ?_
     · refine Im (fun b w' => b = (!decide (s.length <= 253 /\ L.all aX = true)) /\ Below w5.heap.size w5 w') ?_ ?_
       · refine af.of (fun h => ⟨?_, Below.refl _ _⟩) (fun h => ?_) <;> simp only [gt_iff_lt, dTx, dFx] at h
         · rw [decide_eq_false (fun hc => by have := hc.1; omega)]; rfl
         · refine ax (Fo (A := gT) (ho.below hb5).all (fun x hx => by have := hlens x hx; omega) (by omega)) ?_
           rintro _ w6 ⟨rfl, hb6⟩
           refine ⟨_, rfl, ?_, hb6⟩
           have h253 : s.length <= 253 := by omega
           congr 1
           rw [Bool.eq_iff_iff, dTx]
           exact ⟨fun h => ⟨h253, h⟩, fun h => h.2⟩
       · rintro b w6 ⟨rfl, hb6⟩
         refine af.of (fun h => ?_) (fun h => ⟨by rw [Bool.not_eq_false'] at h; exact of_decide_eq_true h, hb6⟩)
         exact fin none (fun x hx => by cases hx) (hbad (by rw [Bool.not_eq_true'] at h; exact of_decide_eq_false h)) (h25.below hb6) (ab hB5 hb6 hB5.size)
     · rintro w6 ⟨hgood, hb6⟩
       have hB6 := ab hB5 hb6 hB5.size
       refine ax (zC ((ho.below hb5).below hb6).all [46] (by omega) (by rw [hjoin]; simp [ll]; omega)) ?_
       rintro _ w7 ⟨rfl, hb7⟩
       have hB7 := ab hB6 hb7 hB6.size
       rw [hjoin, List.nil_append]
       refine ⟨_, rfl, ?_⟩
       exact fin (some ⟨1, fU s, ad0⟩) (fun x hx => by cases hx; rfl) (by rw [hv, if_pos hgood]) ((h25.below hb6).below hb7) hB7
end Go.Proofs.YtpafoodmpjlkhaaGreatDoor
namespace Go.Pk
def cX (h : Hst) : List UInt8 := if h.kind = 1 then h.name else if h.kind = 2 then uH h.ad else if h.kind = 3 then [91] ++ sQ h.ad ++ [93] else []
def aU (h : Hst) : Bool := match ct (cX h) with | some g => rP g h | none => false
def aq (h : Hst) : List (List UInt8) := if h.kind = 1 /\ aU h = true then aZ 46 [] h.name else []
theorem zZa {a : List UInt8} (h : a.length = 16) : (uH a).length <= 88 := by
 have := wA ((a.drop 12).map fun c => xC c.toNat) 46 21 (fun x hx => by
   obtain ⟨c, _, rfl⟩ := List.mem_map.1 hx
   have := jP c
   exact iT (by omega))
 rw [List.length_map, List.length_drop, h] at this
 exact this
theorem sR (a : List UInt8) : (sQ a).length <= 90 := by
 have hgl := pW a
 unfold sQ
 split
 · have := kQ (uY a); omega
 · have l1 := kQ (l := (gL a).take (bN (zsA a)).1) fun x hx => uY a x (List.mem_of_mem_take hx)
   have l2 := kQ (l := (gL a).drop ((bN (zsA a)).1 + (bN (zsA a)).2)) fun x hx => uY a x (List.mem_of_mem_drop hx)
   rw [List.length_take] at l1
   rw [List.length_drop] at l2
   simp; omega
theorem nM {h : Hst} (o : h.ok) : (cX h).length <= h.name.length + 100 := by
 have h4 := zZa o
 have h6 := sR h.ad
 unfold cX
 split
 · omega
 split
 · omega
 split
 · simp; omega
 · simp
theorem Gi {h : Hst} (j : Nat) : h.cells[2 + j]? = (adC h.ad)[j]? := by rw [Nat.add_comm]; rfl
end Go.Pk
namespace Go.Proofs.YtpafoodmpjlkhaaGreatDoor
open Go.Pk
open Go.RowKit (Below)
theorem yx {h : Hst} (o : h.ok) {w : World} {k : Nat} {T : TypeId} (ha : am w k T h.cells) : (Instr.loadAt ai (.pointer (some ⟨k, 2, none⟩))).run prog w = .ok (adV h.ad) w :=
 aQ.load ha (i := 2) (us := adC h.ad) (by rw [bu, o]) fun j _ => Gi j
theorem pZ {h : Hst} (o : h.ok) (w : World) (he : Env w) : Calls prog oB #[h.v] w (Ret fun v w' => v = .string (mkS (cX h)) /\ Below w.heap.size w w') := by
 apply zX
 unfold uR
 intro k1 w1 hk1 hw1
 have hB1 := (hw1 ▸ ah w _ : Below w.heap.size w w1)
 have h1 : am w1 k1 ae h.cells := am.new hk1 hw1
 refine ⟨rfl, _, h1.load1 aI rfl rfl, ?_⟩
 unfold cX
 refine af.of (fun c1 => ?_) (fun c1 => ?_) <;> simp only [beq_iff_eq, beq_eq_false_iff_ne, ne_eq] at c1
 · rw [if_pos c1]
   exact ⟨rfl, _, h1.load1 aC rfl rfl, rfl, hB1⟩
 rw [if_neg c1]
 refine af.of (fun c2 => ?_) (fun c2 => ?_) <;> simp only [beq_iff_eq, beq_eq_false_iff_ne, ne_eq] at c2
 · rw [if_pos c2]
   refine ⟨rfl, _, yx o h1, ?_⟩
   refine ax (yX h.ad o w1 (he.step hB1)) ?_
   rintro _ w2 ⟨rfl, hb2⟩
   exact ⟨_, rfl, rfl, ab hB1 hb2 hB1.size⟩
 rw [if_neg c2]
 refine af.of (fun c3 => ?_) (fun c3 => ?_) <;> simp only [beq_iff_eq, beq_eq_false_iff_ne, ne_eq] at c3
 · rw [if_pos c3]
   refine ⟨rfl, _, yx o h1, ?_⟩
   refine ax (yY h.ad o w1 (he.step hB1)) ?_
   rintro _ w2 ⟨rfl, hb2⟩
   have h6 := sR h.ad
   refine ⟨_, rfl, lB (by simp; omega), ?_⟩
   rintro _ rfl
   refine ⟨lB (by simp; omega), ?_⟩
   rintro _ rfl
   exact ⟨rfl, ab hB1 hb2 hB1.size⟩
 · rw [if_neg c3]
   exact ⟨rfl, hB1⟩
theorem sr {h : Hst} (o : h.ok) (hn : h.name.length <= 1000000000) (w : World) (he : Env w) : Calls prog pN #[h.v] w (Ret fun v w' => v = .bool (aU h) /\ Below w.heap.size w w') := by
 apply xU
 unfold tl
 have hxl := nM o
 intro k1 w1 hk1 hw1
 have hB1 := (hw1 ▸ ah w _ : Below w.heap.size w w1)
 have h1 : am w1 k1 ae h.cells := am.new hk1 hw1
 refine ⟨_, aB.load0 h1 (Hst.len o), ?_⟩
 refine ax (pZ o w1 (he.step hB1)) ?_
 rintro _ w2 ⟨rfl, hb2⟩
 have hB2 := ab hB1 hb2 hB1.size
 refine ⟨_, rfl, ?_⟩
 refine ax (ls (cX h) (by omega) w2 (he.step hB2)) ?_
 rintro _ w3 ⟨rfl, hb3⟩
 have hB3 := ab hB2 hb3 hB2.size
 refine ⟨_, _, by rw [lr], ?_⟩
 have hok : ((ct (cX h)).getD gj).ok := tV fun x hx => fP hx
 refine aB.new (zs := gj.cells) (cs := ((ct (cX h)).getD gj).cells) rfl (Hst.len hok) (Hst.one _) w3 fun k4 w4 hk4 h4 hb4 => ?_
 have hB4 := ab hB3 hb4 hB3.size
 have h14 := ((h1.below hb2).below hb3).below hb4
 unfold aU
 cases hv : ct (cX h) with
 | none => exact af.no rfl ⟨rfl, hB4⟩
 | some g =>
   rw [hv] at h4 hok
   exact af.yes rfl ⟨_, aB.load0 h4 (Hst.len hok), _, aB.load0 h14 (Hst.len o), _, yy hok o w4, rfl, hB4⟩
def tI (h : Hst) (w : World) (v : Value) (w' : World) : Prop := ∃ (a : Option Addr) (n c : Nat), v = .slice a n c /\ Ow tS ar w' NoB a n c (aq h) /\ bD w.heap.size a /\ Below w.heap.size w w'
theorem rg {h : Hst} (o : h.ok) (hn : h.name.length <= 1000000000) (w : World) (he : Env w) : Calls prog oA #[h.v] w (Ret (tI h w)) := by
 apply wR
 unfold rr
 intro k1 w1 hk1 hw1
 have hB1 := (hw1 ▸ ah w _ : Below w.heap.size w w1)
 have h1 : am w1 k1 ae h.cells := am.new hk1 hw1
 have none_end : ∀ {wx : World}, ¬ (h.kind = 1 /\ aU h = true) -> Below w.heap.size w wx -> tI h w (.slice none 0 0) wx := fun hc hb => ⟨none, 0, 0, rfl, by unfold aq; rw [if_neg hc]; exact Ow.nil _ _ _ _, bD.none _, hb⟩
 refine jK (fun w' => (h.kind = 1 /\ aU h = true) /\ Below w1.heap.size w1 w') ⟨rfl, _, h1.load1 aI rfl rfl, ?_⟩ ?_
 · refine af.of (fun c => none_end (fun hc => ?_) hB1) (fun c => ?_)
   · rw [hc.1] at c; simp at c
   · have hk : h.kind = 1 := by simpa using c
     refine ⟨_, aB.load0 h1 (Hst.len o), ?_⟩
     refine ax (sr o hn w1 (he.step hB1)) ?_
     rintro _ w2 ⟨rfl, hb2⟩
     refine ⟨_, rfl, af.of (fun c2 => none_end (fun hc => ?_) (ab hB1 hb2 hB1.size)) (fun c2 => ⟨⟨hk, by simpa using c2⟩, hb2⟩)⟩
     rw [hc.2] at c2; cases c2
 · rintro w2 ⟨hc, hb2⟩
   have hB2 := ab hB1 hb2 hB1.size
   refine ⟨rfl, _, (h1.below hb2).load1 aC rfl rfl, ?_⟩
   refine ax (kh h.name 46 (by omega) w2 (he.step hB2)) ?_
   rintro _ w3 ⟨a, n, c, rfl, ho, hf, hb3⟩
   exact ⟨_, _, _, rfl, _, _, _, rfl, by unfold aq; rw [if_pos hc]; exact ho, hf.mono hB2.size, ab hB2 hb3 hB2.size⟩
end Go.Proofs.YtpafoodmpjlkhaaGreatDoor
set_option maxRecDepth 100000
namespace Go.Proofs.YtpafoodmpjlkhaaGreatDoor
open Go.Pk
open Go.RowKit (Below)
--  cracknel/symbol.New
def tC (a0 : Option Addr) (l0 c0 : Nat) (w : World) (K : Value -> World -> Prop) : Prop :=
 Calls prog df #[.slice a0 l0 c0] w fun e7 w7 => ∃ v7, e7 = .returned v7 /\
 Calls prog gm #[v7] w7 fun e8 w8 => ∃ a8 l8 c8, e8 = .returned (.slice a8 l8 c8) /\
 Calls prog fm #[.slice a8 l8 c8] w8 fun e9 w9 => ∃ a9 l9 c9, e9 = .returned (.slice a9 l9 c9) /\
 ∀ k10 w10, k10 = w9.heap.size -> w10 = w9.alloc (.map #[] 0) ->
 ∀ k12 w12, k12 = w10.heap.size -> w12 = w10.alloc (.cells #[.slice a9 l9 c9, .map (some k10)] eW) ->
 (true = true) /\
 (true = true) /\
 ∃ a16 l16 c16, Ld aw (some ⟨k12, 0, none⟩) w12 (.slice a16 l16 c16) /\
 ∃ I : Nat -> FP [.one (.int .i64)],
 (∃ m, I m (0 : Int) w12) /\
 ∀ m n18, aE 13 (∀ wl, I m n18 wl ->
 af (decide (n18 < ((l16 : Nat) : Int)))
 (((0 <= n18 /\ n18 < ((l16 : Nat) : Int)) /\ Option.isSome a16 = true) /\
 ∃ s22, Ld ar (ao a16 n18 1) wl (.string (mkS s22)) /\
 (true = true) /\
 (true = true) /\
 ∃ m26, Ld bt (some ⟨k12, 1, none⟩) wl (.map m26) /\
 ∃ wx, (Instr.mapUpdate bt (.map m26) (.string (mkS s22)) (.int .i64 n18)).run prog wl = .ok () wx /\
 ∃ m' : Nat, m' < m /\ I m' (i64.wrap (n18 + (1 : Int))) wx)
 (K (.pointer (some ⟨k12, 0, none⟩)) wl))
theorem yd (a0 : Option Addr) (l0 c0 : Nat) {w : World} {K : Value -> World -> Prop} (h : tC a0 l0 c0 w K) : Calls prog gG #[.slice a0 l0 c0] w (Ret K) :=
 au (c := ay Tryz.f11) (by kernel_rfl) Tryz.func11 (by kernel_rfl) [(8, [(18, .one (.int .i64))])] [.slice a0 l0 c0] (of_decide_eq_true (by kernel_rfl)) _ (by kernel_rfl) h

--  (*cracknel/symbol.Alphabet).Fresh
def jf (p0 : Option Addr) (w : World) (K : Value -> World -> Prop) : Prop :=
 ∃ I : Nat -> FP [.one (.int .i64)],
 (∃ m, I m (1 : Int) w) /\
 ∀ m n3, aE 19 (∀ wl, I m n3 wl ->
 (Option.isSome p0 = true) /\
 (Option.isSome p0 = true) /\
 ∃ m12, (∀ u12, Below wl.heap.size wl u12 -> Ld bt (Option.map (fun x => x.add 1) p0) u12 (.map m12)) /\
 ∃ s14, (∀ u14, Below wl.heap.size wl u14 -> Calls prog lp #[.int .i64 n3] u14 fun e14 w14 => e14 = .returned (.string (mkS s14)) /\ Below wl.heap.size u14 w14) /\
 ∃ n15_0 b15_1, (∀ u15, Below wl.heap.size wl u15 -> (Instr.lookup bt (.map m12) (.string (mkS s14)) true).run prog u15 = .ok (.tuple #[.int .i64 n15_0, .bool b15_1]) u15) /\
 ∀ wq, Below wl.heap.size wl wq ->
 af (!b15_1)
 (Calls prog lp #[.int .i64 n3] wq fun e21 w21 => ∃ s21, e21 = .returned (.string (mkS s21)) /\
 K (.string (mkS s21)) w21)
 (∃ m' : Nat, m' < m /\ I m' (i64.wrap (n3 + (1 : Int))) wq))
theorem nw (p0 : Option Addr) {w : World} {K : Value -> World -> Prop} (h : jf p0 w K) : Calls prog cC #[.pointer p0] w (Ret K) :=
 au (c := ay Tryz.f30) (by kernel_rfl) Tryz.func30 (by kernel_rfl) [(5, [(3, .one (.int .i64))])] [.pointer p0] (of_decide_eq_true (by kernel_rfl)) _ (by kernel_rfl) h

--  (*cracknel/symbol.Alphabet).Len
def jS (p0 : Option Addr) (w : World) (K : Value -> World -> Prop) : Prop :=
 (Option.isSome p0 = true) /\
 (Option.isSome p0 = true) /\
 ∃ a6 l6 c6, Ld aw (Option.map (fun x => x.add 0) p0) w (.slice a6 l6 c6) /\
 K (.int .i64 (i64.wrap (((l6 : Nat) : Int) + (1 : Int)))) w
theorem oP (p0 : Option Addr) {w : World} {K : Value -> World -> Prop} (h : jS p0 w K) : Calls prog aR #[.pointer p0] w (Ret K) :=
 au (c := ay Tryz.f50) (by kernel_rfl) Tryz.func50 (by kernel_rfl) [] [.pointer p0] (of_decide_eq_true (by kernel_rfl)) _ (by kernel_rfl) h

--  (*cracknel/symbol.Alphabet).Text
def jI (p0 : Option Addr) (n1 : Int) (w : World) (K : Value -> World -> Prop) : Prop :=
 ∃ J : FP [],
 (∃ J_1 : FP [.one (.bool)],
 (af (decide (n1 < (0 : Int)))
 (J_1 true w)
 ((Option.isSome p0 = true) /\
 (Option.isSome p0 = true) /\
 ∃ a13 l13 c13, Ld aw (Option.map (fun x => x.add 0) p0) w (.slice a13 l13 c13) /\
 J_1 (decide (n1 > ((l13 : Nat) : Int))) w)) /\
 ∀ b5, aE 11 (∀ wj, J_1 b5 wj ->
 af b5
 (K (.string (mkS [])) wj)
 ((Option.isSome p0 = true) /\
 (Option.isSome p0 = true) /\
 ∃ a22 l22 c22, Ld aw (Option.map (fun x => x.add 0) p0) wj (.slice a22 l22 c22) /\
 af (n1 == ((l22 : Nat) : Int))
 (Calls prog cC #[.pointer p0] wj fun e26 w26 => ∃ s26, e26 = .returned (.string (mkS s26)) /\
 K (.string (mkS s26)) w26)
 (J wj)))) /\
 aE 23 (∀ wj_1, J wj_1 ->
 (Option.isSome p0 = true) /\
 (Option.isSome p0 = true) /\
 ∃ a30 l30 c30, Ld aw (Option.map (fun x => x.add 0) p0) wj_1 (.slice a30 l30 c30) /\
 ((0 <= n1 /\ n1 < ((l30 : Nat) : Int)) /\ Option.isSome a30 = true) /\
 ∃ s33, Ld ar (ao a30 n1 1) wj_1 (.string (mkS s33)) /\
 K (.string (mkS s33)) wj_1)
theorem nR (p0 : Option Addr) (n1 : Int) {w : World} {K : Value -> World -> Prop} (h : jI p0 n1 w K) : Calls prog dO #[.pointer p0, .int .i64 n1] w (Ret K) :=
 au (c := ay Tryz.f52) (by kernel_rfl) Tryz.func52 (by kernel_rfl) [(2, []), (4, [(5, .one (.bool))])] [.pointer p0, .int .i64 n1] (of_decide_eq_true (by kernel_rfl)) _ (by kernel_rfl) h

--  cracknel/cracknelref14.Same
def tr (a0 : Option Addr) (l0 c0 : Nat) (a1 : Option Addr) (l1 c1 : Nat) (w : World) (K : Value -> World -> Prop) : Prop :=
 af (((l0 : Nat) : Int) != ((l1 : Nat) : Int))
 (K (.bool false) w)
 (∃ I : Nat -> FP [.one (.int .i64)],
 (∃ m, I m (0 : Int) w) /\
 ∀ m n13, aE 14 (∀ wl, I m n13 wl ->
 af (decide (n13 < ((l0 : Nat) : Int)))
 (((0 <= n13 /\ n13 < ((l0 : Nat) : Int)) /\ Option.isSome a0 = true) /\
 ∃ n19, (∀ u19, Below wl.heap.size wl u19 -> Ld az (ao a0 n13 1) u19 (.int .i64 n19)) /\
 ((0 <= n13 /\ n13 < ((l1 : Nat) : Int)) /\ Option.isSome a1 = true) /\
 ∃ n23, (∀ u23, Below wl.heap.size wl u23 -> Ld az (ao a1 n13 1) u23 (.int .i64 n23)) /\
 ∀ wq, Below wl.heap.size wl wq ->
 af (n19 != n23)
 (K (.bool false) wq)
 (∃ m' : Nat, m' < m /\ I m' (i64.wrap (n13 + (1 : Int))) wq))
 (K (.bool true) wl)))
theorem xX (a0 : Option Addr) (l0 c0 : Nat) (a1 : Option Addr) (l1 c1 : Nat) {w : World} {K : Value -> World -> Prop} (h : tr a0 l0 c0 a1 l1 c1 w K) : Calls prog pP #[.slice a0 l0 c0, .slice a1 l1 c1] w (Ret K) :=
 au (c := ay Tryz.f57) (by kernel_rfl) Tryz.func57 (by kernel_rfl) [(14, [(13, .one (.int .i64))])] [.slice a0 l0 c0, .slice a1 l1 c1] (of_decide_eq_true (by kernel_rfl)) _ (by kernel_rfl) h

--  cracknel/cracknelref14.Texts
def kH (p0 : Option Addr) (s1 : List UInt8) (w : World) (K : Value -> World -> Prop) : Prop :=
 (Option.isSome p0 = true) /\
 (Option.isSome p0 = true) /\
 ∃ m11, Ld bt (Option.map (fun x => x.add 1) p0) w (.map m11) /\
 ∃ n13_0 b13_1, (Instr.lookup bt (.map m11) (.string (mkS s1)) true).run prog w = .ok (.tuple #[.int .i64 n13_0, .bool b13_1]) w /\
 af b13_1
 (K (.int .i64 n13_0) w)
 ((Option.isSome p0 = true) /\
 (Option.isSome p0 = true) /\
 ∃ a21 l21 c21, Ld aw (Option.map (fun x => x.add 0) p0) w (.slice a21 l21 c21) /\
 K (.int .i64 ((l21 : Nat) : Int)) w)
theorem px (p0 : Option Addr) (s1 : List UInt8) {w : World} {K : Value -> World -> Prop} (h : kH p0 s1 w K) : Calls prog kT #[.pointer p0, .string (mkS s1)] w (Ret K) :=
 au (c := ay Tryz.f71) (by kernel_rfl) Tryz.func71 (by kernel_rfl) [] [.pointer p0, .string (mkS s1)] (of_decide_eq_true (by kernel_rfl)) _ (by kernel_rfl) h

--  cracknel/symbol.name
def rD (n0 : Int) (w : World) (K : Value -> World -> Prop) : Prop :=
 ∃ I : Nat -> FP [.one (.int .i64), .one (.slice)],
 (∃ m, I m n0 none 0 0 w) /\
 ∀ m n0_1 a3 l3 c3, aE 12 (∀ wl, I m n0_1 a3 l3 c3 wl ->
 af (decide (n0_1 > (0 : Int)))
 (((38 : Int) ≠ 0) /\
 ∀ q12, q12 = (Int.tmod (i64.wrap (n0_1 - (1 : Int))) (38 : Int)) ->
 ((0 <= q12 /\ q12 < ((List.length [97, 98, 99, 100, 101, 102, 103, 104, 105, 106, 107, 108, 109, 110, 111, 112, 113, 114, 115, 116, 117, 118, 119, 120, 121, 122, 48, 49, 50, 51, 52, 53, 54, 55, 56, 57, 45, 95] : Nat) : Int))) /\
 ∀ k14 w14, k14 = wl.heap.size -> w14 = wl.alloc (.cells #[.int .u8 (aP [97, 98, 99, 100, 101, 102, 103, 104, 105, 106, 107, 108, 109, 110, 111, 112, 113, 114, 115, 116, 117, 118, 119, 120, 121, 122, 48, 49, 50, 51, 52, 53, 54, 55, 56, 57, 45, 95] q12)] aF) ->
 ∃ w15 a15 l15 c15, (Builtin.append_ #[aV, aV] aV #[.slice a3 l3 c3, .slice (some ⟨k14, 0, none⟩) 1 1]).run prog w14 = .ok (.slice a15 l15 c15) w15 /\
 ((38 : Int) ≠ 0) /\
 ∀ q8, q8 = (i64.wrap (Int.tdiv (i64.wrap (n0_1 - (1 : Int))) (38 : Int))) ->
 ∃ m' : Nat, m' < m /\ I m' q8 a15 l15 c15 w15)
 (Calls prog dU #[.slice a3 l3 c3] wl fun e17 w17 => e17 = .returned (.tuple #[]) /\
 ∃ s19, (convert aV ar (.slice a3 l3 c3)).run prog w17 = .ok (.string (mkS s19)) w17 /\
 K (.string (mkS s19)) w17))
theorem xa (n0 : Int) {w : World} {K : Value -> World -> Prop} (h : rD n0 w K) : Calls prog lp #[.int .i64 n0] w (Ret K) :=
 au (c := ay Tryz.f72) (by kernel_rfl) Tryz.func72 (by kernel_rfl) [(6, [(0, .one (.int .i64)), (3, .one (.slice))])] [.int .i64 n0] (of_decide_eq_true (by kernel_rfl)) _ (by kernel_rfl) h

--  cracknel/symbol.Bytes
def jH (v0 : Value) (w : World) (K : Value -> World -> Prop) : Prop :=
 Calls prog fO #[v0] w fun e5 w5 => ∃ a5 l5 c5, e5 = .returned (.slice a5 l5 c5) /\
 Calls prog gF #[.slice a5 l5 c5] w5 fun e7 w7 => e7 = .returned (.tuple #[]) /\
 K (.slice a5 l5 c5) w7
theorem nQ (v0 : Value) {w : World} {K : Value -> World -> Prop} (h : jH v0 w K) : Calls prog gm #[v0] w (Ret K) :=
 au (c := ay Tryz.f46) (by kernel_rfl) Tryz.func46 (by kernel_rfl) [] [v0] (of_decide_eq_true (by kernel_rfl)) _ (by kernel_rfl) h

--  slices.Collect[string]
def jd (v0 : Value) (w : World) (K : Value -> World -> Prop) : Prop :=
 Calls prog eI #[.slice none 0 0, v0] w fun e4 w4 => ∃ a4 l4 c4, e4 = .returned (.slice a4 l4 c4) /\
 K (.slice a4 l4 c4) w4
theorem nu (v0 : Value) {w : World} {K : Value -> World -> Prop} (h : jd v0 w K) : Calls prog fO #[v0] w (Ret K) :=
 au (c := ay Tryz.f94) (by kernel_rfl) Tryz.func94 (by kernel_rfl) [] [v0] (of_decide_eq_true (by kernel_rfl)) _ (by kernel_rfl) h

--  slices.Values[[]string,string]
def fu (a0 : Option Addr) (l0 c0 : Nat) (w : World) (K : Value -> World -> Prop) : Prop :=
 ∀ k1 w1, k1 = w.heap.size -> w1 = w.alloc (.cells #[.slice a0 l0 c0] aw) ->
 K (.func (.func bp) #[] #[.pointer (some ⟨k1, 0, none⟩)]) w1
theorem j8 (a0 : Option Addr) (l0 c0 : Nat) {w : World} {K : Value -> World -> Prop} (h : fu a0 l0 c0 w K) : Calls prog df #[.slice a0 l0 c0] w (Ret K) :=
 au (c := ay Tryz.f47) (by kernel_rfl) Tryz.func47 (by kernel_rfl) [] [.slice a0 l0 c0] (of_decide_eq_true (by kernel_rfl)) _ (by kernel_rfl) h

--  slices.Reverse[[]byte,byte]
def gR (a0 : Option Addr) (l0 c0 : Nat) (w : World) (K : Value -> World -> Prop) : Prop :=
 ∃ I : Nat -> FP [.one (.int .i64), .one (.int .i64)],
 (∃ m, I m (0 : Int) (i64.wrap (((l0 : Nat) : Int) - (1 : Int))) w) /\
 ∀ m n2 n3, aE 21 (∀ wl, I m n2 n3 wl ->
 af (decide (n2 < n3))
 (((0 <= n3 /\ n3 < ((l0 : Nat) : Int)) /\ Option.isSome a0 = true) /\
 ((0 <= n2 /\ n2 < ((l0 : Nat) : Int)) /\ Option.isSome a0 = true) /\
 (∃ n21, Ld aF (ao a0 n3 1) (World.drew wl) (.int .u8 n21) /\
 ∃ n25, Ld aF (ao a0 n2 1) (World.drew wl) (.int .u8 n25) /\
 ((0 <= n2 /\ n2 < ((l0 : Nat) : Int)) /\ Option.isSome a0 = true) /\
 ∃ wx, Sv aF (ao a0 n2 1) (.int .u8 n21) (World.drew wl) wx /\
 ((0 <= n3 /\ n3 < ((l0 : Nat) : Int)) /\ Option.isSome a0 = true) /\
 ∃ wx_1, Sv aF (ao a0 n3 1) (.int .u8 n25) wx wx_1 /\
 ∃ m' : Nat, m' < m /\ I m' (i64.wrap (n2 + (1 : Int))) (i64.wrap (n3 - (1 : Int))) wx_1) /\
 ∃ n25_1, Ld aF (ao a0 n2 1) (World.drew wl) (.int .u8 n25_1) /\
 ∃ n21_1, Ld aF (ao a0 n3 1) (World.drew wl) (.int .u8 n21_1) /\
 ((0 <= n2 /\ n2 < ((l0 : Nat) : Int)) /\ Option.isSome a0 = true) /\
 ∃ wx_2, Sv aF (ao a0 n2 1) (.int .u8 n21_1) (World.drew wl) wx_2 /\
 ((0 <= n3 /\ n3 < ((l0 : Nat) : Int)) /\ Option.isSome a0 = true) /\
 ∃ wx_3, Sv aF (ao a0 n3 1) (.int .u8 n25_1) wx_2 wx_3 /\
 ∃ m' : Nat, m' < m /\ I m' (i64.wrap (n2 + (1 : Int))) (i64.wrap (n3 - (1 : Int))) wx_3)
 (K (.tuple #[]) wl))
theorem lx (a0 : Option Addr) (l0 c0 : Nat) {w : World} {K : Value -> World -> Prop} (h : gR a0 l0 c0 w K) : Calls prog dU #[.slice a0 l0 c0] w (Ret K) :=
 au (c := ay Tryz.f131) (by kernel_rfl) Tryz.func131 (by kernel_rfl) [(3, [(2, .one (.int .i64)), (3, .one (.int .i64))])] [.slice a0 l0 c0] (of_decide_eq_true (by kernel_rfl)) _ (by kernel_rfl) h
end Go.Proofs.YtpafoodmpjlkhaaGreatDoor
namespace Go.Pk
open Go.RowKit (Below)
open Go.Sort (Holds putRow grow putCells mapBlock)
theorem Ow.trunc {α : Type} {T : Ty α} {t : TypeId} {w : World} {A : Bl} {a : Option Addr} {n c : Nat} {xs : List α} (h : Ow T t w A a n c xs) {ys zs : List α} (e : xs = ys ++ zs) : Ow T t w A a ys.length c ys := by
 obtain ⟨h1, h2, h3, h4⟩ := h
 subst e h1
 refine ⟨rfl, by simp at h2; omega, h3, ?_⟩
 rcases h4 with ⟨e1, e2, e3⟩ | ⟨g, cur, fr, e, hh, hf, hs, h4⟩
 · exact .inl ⟨e1, e2, (List.append_eq_nil_iff.1 e3).1⟩
 · refine .inr ⟨g, cur, fr, e, hh, hf, hs, ?_⟩
   have hl := h4.len
   have e1 : cur.toList.take (ys.length * T.k) = (cur.toList.take ((ys ++ zs).length * T.k)).take (ys.length * T.k) := by
     rw [List.take_take]; congr 1
     rw [List.length_append, Nat.add_mul]; omega
   refine ⟨?_, fun i hi => ?_⟩
   · rw [e1, List.length_take, hl, List.length_append, Nat.add_mul]; omega
   · have h5 := h4.rep i (by simp; omega)
     rw [List.getElem_append_left hi] at h5
     have hb : i * T.k + T.k <= ys.length * T.k := by
       have := Nat.mul_le_mul_right T.k (show i + 1 <= ys.length from hi)
       rwa [Nat.add_mul, Nat.one_mul] at this
     rw [e1, List.drop_take, List.take_take]
     rw [show min T.k (ys.length * T.k - i * T.k) = T.k by omega]
     exact h5
theorem Ow.holds {α : Type} [Inhabited α] {e : α -> Value} {h1 : ∀ x, (e x).oneCell' = true} {p : α -> Prop} {t : TypeId} {w : World} {A : Bl} {g n c : Nat} {xs : List α}
   (h : Ow (Ty.enc e h1 p) t w A (some ⟨g, 0, none⟩) n c xs) : Holds e w g 0 xs.toArray /\ g < w.heap.size := by
 obtain ⟨h1', h2, h3, h4⟩ := h
 rcases h4 with ⟨e1, _⟩ | ⟨g', cur, fr, e', hh, hf, hs, h4⟩
 · cases e1
 · cases e'
   refine ⟨fun j hj => ?_, (Array.getElem?_eq_some_iff.1 hh).1⟩
   have hj' : j < xs.length := by simpa using hj
   have hjc : j < cur.size := by rw [hs]; simp [Ty.enc]; omega
   have h5 := ee h4
   refine ⟨?_, ?_⟩
   · rw [eQ hh, Nat.zero_add]
     have h6 : (cur.toList.take (n * (Ty.enc e h1 p).k))[j]? = some (e xs[j]) := by rw [h5]; simp [hj']
     rw [List.getElem?_take] at h6
     split at h6
     · simp at h6 ⊢; rw [h6]; simp [hj']
     · cases h6
   · rw [Nat.zero_add]; exact yu hh (hf j hjc)
theorem Ow.putR {α : Type} [Inhabited α] {e : α -> Value} {h1 : ∀ x, (e x).oneCell' = true} {p : α -> Prop} {t : TypeId} {w : World} {A : Bl} {g n c : Nat} {xs ys : List α}
   (h : Ow (Ty.enc e h1 p) t w A (some ⟨g, 0, none⟩) n c xs) (hl : ys.length = xs.length) (hp : ∀ y ∈ ys, p y) (q : Nat) (os : Array Obj) :
   Ow (Ty.enc e h1 p) t (grow (putRow e (Go.Sort.ahead w q) g 0 ys.toArray) os) A (some ⟨g, 0, none⟩) n c ys /\ w.grownBy (grow (putRow e (Go.Sort.ahead w q) g 0 ys.toArray) os) (some g) := by
 obtain ⟨h1', h2, h3, h4⟩ := h
 rcases h4 with ⟨e1, _⟩ | ⟨g', cur, fr, e', hh, hf, hs, h4⟩
 · cases e1
 · cases e'
   have hlt := (Array.getElem?_eq_some_iff.1 hh).1
   have hsz : (putRow e (Go.Sort.ahead w q) g 0 ys.toArray).heap.size = w.heap.size := by simp [Go.Sort.ahead]
   have hh' : (grow (putRow e (Go.Sort.ahead w q) g 0 ys.toArray) os).heap[g]? = some (.cells (putCells e 0 ys.toArray cur) t fr) := by
     rw [Sort.heap_grow_old _ _ (by rw [hsz]; exact hlt)]
     show ((Go.Sort.ahead w q).heap.modify g _)[g]? = _
     rw [Array.getElem?_modify, if_pos rfl]
     show (w.heap[g]?).map _ = _
     rw [hh]; rfl
   refine ⟨⟨by rw [hl]; exact h1', h2, h3, .inr ⟨g, _, fr, rfl, hh', ?_, ?_, ?_⟩⟩, ?_⟩
   · intro i hi; exact hf i (by simpa [putCells] using hi)
   · simpa [putCells] using hs
   · have : (putCells e 0 ys.toArray cur).toList.take (n * (Ty.enc e h1 p).k) = ys.map e := by
       have hn : n * (Ty.enc e h1 p).k = ys.length := by rw [hl, h1']; simp [Ty.enc]
       have hcs : ys.length <= cur.size := by rw [hs, hl]; simp [Ty.enc]; omega
       rw [hn]
       apply List.ext_getElem?
       intro i
       rw [List.getElem?_take]
       by_cases hi : i < ys.length
       · rw [if_pos hi]
         have : i < cur.size := by omega
         simp [putCells, hi, this]
       · rw [if_neg hi]; simp [hi]
     rw [this]
     exact fv hp
   · refine ⟨rfl, rfl, rfl, by simp [grow, hsz], fun k hk hne => ?_⟩
     rw [Sort.heap_grow_old _ _ (by rw [hsz]; exact hk)]
     show ((Go.Sort.ahead w q).heap.modify g _)[k]? = _
     rw [Array.getElem?_modify, if_neg (fun e => hne (by rw [e]))]
     rfl
theorem Ow.put0 {α : Type} [Inhabited α] {e : α -> Value} {h1 : ∀ x, (e x).oneCell' = true} {p : α -> Prop} {t : TypeId} {w : World} {A : Bl} {g n c : Nat} {xs ys : List α}
   (h : Ow (Ty.enc e h1 p) t w A (some ⟨g, 0, none⟩) n c xs) (hl : ys.length = xs.length) (hp : ∀ y ∈ ys, p y) (q : Nat) :
   Ow (Ty.enc e h1 p) t (putRow e (Go.Sort.ahead w q) g 0 ys.toArray) A (some ⟨g, 0, none⟩) n c ys /\ w.grownBy (putRow e (Go.Sort.ahead w q) g 0 ys.toArray) (some g) := by
 have := h.putR hl hp q #[]
 rwa [Sort.grow_empty] at this
theorem Eg {α : Type} {e : α -> Value} {h1 : ∀ x, (e x).oneCell' = true} {p : α -> Prop} {t : TypeId} {w : World} {B n : Nat} {v : Value} {xs : List α} (A : Bl) (h : w.ownsRow B t 1 v n (xs.map e)) (hn : n = xs.length) (hp : ∀ x ∈ xs, p x) :
   ∃ a c, v = .slice a n c /\ Ow (Ty.enc e h1 p) t w A a n c xs /\ bD B a := by
 rcases h.2 with ⟨rfl, h0⟩ | ⟨g, cap, cur, rfl, hb, hg, hle, hm, hs, ht⟩
 · have : xs = [] := List.eq_nil_of_length_eq_zero (by omega)
   subst this
   exact ⟨none, 0, by rw [h0], by rw [h0]; exact Ow.nil _ _ _ _, bD.none _⟩
 · refine ⟨_, cap, rfl, ⟨hn, hle, hm, .inr ⟨g, cur, (0, 0), rfl, hg, fun i _ => by simp, by simpa [Ty.enc] using hs, ?_⟩⟩, fun x hx => by simp [bE] at hx; omega⟩
   show gw _ _ _ (cur.toList.take (n * 1)) xs
   rw [ht]; exact fv hp
end Go.Pk
namespace Go.Proofs.YtpafoodmpjlkhaaGreatDoor
open Go.RowKit Go.Shelf Go.Pk
attribute [local go_sem] Oper.semAt_some
def upto {α : Type} (f : Nat -> α) (k : Nat) : List α := (List.range k).map f
theorem BH {α : Type} (f : Nat -> α) (k : Nat) : upto f (k + 1) = upto f k ++ [f k] := by simp [upto, List.range_succ]
theorem CQ {α : Type} (f : Nat -> α) (k : Nat) : (upto f k).length = k := by simp [upto]
theorem GO (zs : List (List UInt8)) : upto (fun j => zs[j]?.getD []) zs.length = zs := by
 apply List.ext_getElem
 · simp [upto]
 · intro i h1 h2
   simp [upto, h2]
theorem FV (zs : List (List UInt8)) {k : Nat} (hk : k <= zs.length) : upto (fun j => zs[j]?.getD []) k = zs.take k := by
 apply List.ext_getElem
 · simp [upto, hk]
 · intro i h1 h2
   have : i < zs.length := by simp [upto] at h1; omega
   simp [upto, this]
set_option maxRecDepth 100000 in
set_option maxHeartbeats 2000000 in
theorem Ep (F : Fence) (n : Nat) (h7 : F.fn 96) (hro : F.round = none) (hn : 1 <= n) (l Bs n₀ b off len cap : Nat) (zs : List (List UInt8)) (hreach : len * 16 <= 140737488351232) (hb : b < n₀) (J Jx : List (List UInt8) -> World -> Prop)
   (hY : ∀ pre x W, J pre W -> pre.length < len -> YieldAt F (n - 1) prog l #[.string (mkS x)] W fun e W' =>
     (e = .returned (.bool true) /\ J (pre ++ [x]) W' /\ Below n₀ W W') \/ (e = .returned (.bool false) /\ Jx (pre ++ [x]) W'))
   (W : World) (hBs : W.cell? ⟨Bs, 0, none⟩ = some (.slice (some ⟨b, off, none⟩) len cap)) (hc : ∀ j, j < len -> W.cell? ⟨b, off + j, none⟩ = some (.string (mkS (zs[j]?.getD [])))) (h0 : J [] W) :
   CallsIn F n prog 96 #[.func (.yield l) #[] #[], .pointer (some ⟨Bs, 0, none⟩)] W fun e W' => (∃ v, e = .returned v) /\
     ((∃ ys, ys = upto (fun j => zs[j]?.getD []) len /\ J ys W') \/ (∃ pre, (∃ k, k <= len /\ pre = upto (fun j => zs[j]?.getD []) k) /\ Jx pre W')) := by
 refine callsIn_of_wp Tryz.func96 rfl h7 ?_ hro
 simp only [Tryz.ntmps96, List.size_toArray, List.length_cons, List.length_nil, Nat.reduceAdd, Nat.reduceSub, Array.replicate_succ, Array.replicate_zero, List.push_toArray, List.append_toArray, List.nil_append, List.cons_append]
 gi_wp2
 gi_loopw [7] (fun i wr => ∃ k : Nat, k <= len /\ i = .int .i64 k /\ J (upto (fun j => zs[j]?.getD []) k) wr /\ Below n₀ W wr)
   (fun i _ => len - (RowKit.intOf i).toNat)
 case atStart => exact ⟨0, Nat.zero_le _, rfl, h0, Below.refl _ _⟩
 case round =>
   obtain ⟨k, hk, rfl, hJs, hnx⟩ := hrel
   have hcx : k < len -> wr.cell? ⟨b, off + k, none⟩ = some (.string (mkS (zs[k]?.getD []))) := fun h => (hnx.cell (p := ⟨b, off + k, none⟩) hb).trans (hc k h)
   by_cases hlt : k < len
   · obtain ⟨fn, tmps, assign, body, hy, hR⟩ := hY _ (zs[k]?.getD []) wr hJs (by rw [CQ]; exact hlt)
     have hcx' := hcx hlt
     gi_wp2
     refine hR.mono ?_
     rintro e W3 (⟨rfl, hJ3, hk3⟩ | ⟨rfl, hJx3⟩)
     · gi_wp2
       go_roundw
       case rel => exact ⟨k + 1, by omega, by simp, by rw [BH]; exact hJ3, hnx.trans hk3⟩
       case measure => simp [RowKit.intOf]; omega
     · gi_wp2
       refine bodyPost_ret (results_none rfl _ _ _) rfl ?_
       exact ⟨⟨_, rfl⟩, .inr ⟨_, ⟨k + 1, by omega, (BH _ _).symm⟩, hJx3⟩⟩
   · obtain rfl : k = len := by omega
     gi_wp2
     go_end0
     exact ⟨⟨_, rfl⟩, .inl ⟨_, rfl, hJs⟩⟩
def xE (n₀ : Nat) (W : World) (sv : Value) (zs : List (List UInt8)) : Prop :=
 (zs = [] /\ ∃ a c, sv = .slice a 0 c) \/ ∃ b off cap, sv = .slice (some ⟨b, off, none⟩) zs.length cap /\ b < n₀ /\ ∀ j, j < zs.length -> W.cell? ⟨b, off + j, none⟩ = some (.string (mkS (zs[j]?.getD [])))
theorem xE.below {n₀ : Nat} {A B : World} (h : Below n₀ A B) {sv : Value} {zs : List (List UInt8)} : xE n₀ A sv zs -> xE n₀ B sv zs
 | .inl e => .inl e
 | .inr ⟨b, off, cap, e, hb, hc⟩ => .inr ⟨b, off, cap, e, hb, fun j hj => (h.cell (p := ⟨b, off + j, none⟩) hb).trans (hc j hj)⟩
set_option maxRecDepth 100000 in
set_option maxHeartbeats 1000000 in
theorem yh (F : Fence) (n : Nat) (h7 : F.fn 96) (hro : F.round = none) (l Bs : Nat) (J : List (List UInt8) -> World -> Prop) (a : Option Addr) (c : Nat) (W : World) (hBs : W.cell? ⟨Bs, 0, none⟩ = some (.slice a 0 c)) (h0 : J [] W) :
   CallsIn F n prog 96 #[.func (.yield l) #[] #[], .pointer (some ⟨Bs, 0, none⟩)] W fun e W' => (∃ v, e = .returned v) /\ J [] W' := by
 refine callsIn_of_wp Tryz.func96 rfl h7 ?_ hro
 simp only [Tryz.ntmps96, List.size_toArray, List.length_cons, List.length_nil, Nat.reduceAdd, Nat.reduceSub, Array.replicate_succ, Array.replicate_zero, List.push_toArray, List.append_toArray, List.nil_append, List.cons_append]
 gi_wp2
 gi_loopw [7] (fun i wr => i = .int .i64 0 /\ J [] wr) (fun _ _ => 0)
 case atStart => exact ⟨rfl, h0⟩
 case round =>
   obtain ⟨rfl, hJs⟩ := hrel
   gi_wp2
   go_end0
   exact ⟨⟨_, rfl⟩, hJs⟩
theorem BJ (F : Fence) (n : Nat) (h7 : F.fn 96) (hro : F.round = none) (hn : 1 <= n) (Bs n₀ : Nat) (sv : Value) (zs : List (List UInt8)) (hreach : zs.length * 16 <= 140737488351232) (w : World) (hBs : Bs < w.heap.size) (hn₀ : n₀ <= w.heap.size)
   (hc : w.cell? ⟨Bs, 0, none⟩ = some sv) (hI : xE n₀ w sv zs) :
   SeqStopsK F n prog 96 #[.pointer (some ⟨Bs, 0, none⟩)] (fun x : List UInt8 => #[Value.string (mkS x)]) (Below n₀) (fun ys => ys = zs) (fun pre => pre <+: zs) zs.length w := fun l J Jx W hW _ _ hY h0 => by
 have hc' := (hW.cell (p := ⟨Bs, 0, none⟩) hBs).trans hc
 rcases hI.below (hW.mono hn₀) with ⟨rfl, a, c, rfl⟩ | ⟨b, off, cap, rfl, hb, hcs⟩
 · exact (yh F n h7 hro l Bs J a c W hc' h0).mono fun e W' ⟨he, hj⟩ => ⟨he, .inl ⟨_, rfl, hj⟩⟩
 · refine (Ep F n h7 hro hn l Bs n₀ b off zs.length cap zs hreach hb J Jx hY W hc' hcs h0).mono ?_
   rintro e W' ⟨he, ⟨ys, rfl, hj⟩ | ⟨pre, ⟨k, hk, rfl⟩, hj⟩⟩
   · exact ⟨he, .inl ⟨_, GO zs, hj⟩⟩
   · exact ⟨he, .inr ⟨_, by rw [FV zs hk]; exact List.take_prefix _ _, hj⟩⟩
theorem Cq : (prog.info? 9).map (fun i => (i.zero, i.size, i.bytes)) = some (some (.string (mkS [])), 1, 16) := by kernel_rfl
set_option maxRecDepth 100000 in
set_option maxHeartbeats 2000000 in
theorem As (F : Fence) (n : Nat) (h3 : F.fn 148) (h7 : F.fn 96) (hro : F.round = none) (hn : 3 <= n) (Bs : Nat) (sv : Value) (zs : List (List UInt8)) (hlen : zs.length <= maxLen) (hbytes : zs.length * 16 <= 140737488351232) (w : World) (hBs : Bs < w.heap.size)
   (hc : w.cell? ⟨Bs, 0, none⟩ = some sv) (hI : xE w.heap.size w sv zs) :
   CallsIn F n prog 148 #[.slice none 0 0, .func (.func 96) #[] #[.pointer (some ⟨Bs, 0, none⟩)]] w fun e W' => ∃ v, e = .returned v /\ W'.ownsRow w.heap.size 9 1 v zs.length (zs.map fun x => Value.string (mkS x)) /\ Below w.heap.size w W' := by
 have h1 : 1 <= n := by omega
 obtain ⟨i0, hi, hz0, hz1, hz2⟩ := info_parts Cq
 refine callsIn_of_wp_marks Tryz.func148 rfl h3 ?_ hro
 simp only [Tryz.ntmps148, List.size_toArray, List.length_cons, List.length_nil, Nat.reduceAdd, Nat.reduceSub, Array.replicate_succ, Array.replicate_zero, List.push_toArray, List.append_toArray, List.nil_append, List.cons_append]
 gi_wp2
 have bO := Boxed.new w 38 (.slice none 0 0)
 have hB0 : Below w.heap.size w (w.alloc (.cells #[.slice none 0 0] 38)) := (Below.refl _ w).alloc (Nat.le_refl _) _
 refine wpIn_rangeFunc_ownG hro h1 (gf := 96) (lb := #[.pointer (some ⟨Bs, 0, none⟩)]) rfl h7 (enters_of Tryz.func96 (by kernel_rfl) rfl)
   (BJ F (n - 1) h7 hro (by omega) Bs w.heap.size sv zs hbytes _ (by simp; omega) (by simp) ((hB0.cell (p := ⟨Bs, 0, none⟩) hBs).trans hc) (hI.below hB0)) belowK_t (belowK_b (by simp)) (Below.refl _ _) (fun _ => rfl)
   (fun (pre : List (List UInt8)) W => (∃ v, Boxed W w.heap.size 38 v /\ W.ownsRow w.heap.size 9 1 v pre.length (pre.map (fun x => Value.string (mkS x))) /\ (v = v)) /\ Below w.heap.size w W)
   (fun _ _ _ => False)
   (OwnFrom.and (Own.from (holdsRow_own w.heap.size w.heap.size 38 9 1 (fun pre : List (List UInt8) => pre.length) (fun pre : List (List UInt8) => pre.map (fun x => Value.string (mkS x))) (fun pre v => v = v)) _) (ownFrom_below (Nat.le_refl _) (by simp)))
   (fun _ _ _ _ _ hs _ _ => hs)
   ⟨⟨_, bO, World.ownsRow_nil _ _ _ _, rfl⟩, hB0⟩
   (fun x => { tmps := #[.slice none 0 0, .func (.func 96) #[] #[.pointer (some ⟨Bs, 0, none⟩)], .pointer (some ⟨w.heap.size, 0, none⟩), undef, .slice none 0 0, .string (mkS x), .func (.func 96) #[] #[.pointer (some ⟨Bs, 0, none⟩)], .string (mkS x), undef, undef, undef, undef, undef], defers := [] }) ?assign ?body ?done ?stop
 case assign =>
   intro l x W K hK
   gi_wp2
   exact hK
 case body =>
   rintro l pre x W ⟨⟨v, hv, hrow, -⟩, hB⟩ hlt
   have hc := hv.cell
   gi_wp2_with (gi_at_builtin; refine wpListIn_append_own _ rfl _ _ 38 rfl w.heap.size 9 i0 (.string (mkS [])) 1 16 Tryz.underlying38 hi hz0 hz1 hz2 rfl (by decide) _ _ _ rfl (hrow.alloc _) ⟨W.heap.size, 0, none⟩ 1 1 [.string (mkS x)] rfl rfl (cell_one_new _ _ _) (by simp [Value.oneCell']) (by omega) (by omega) (by have := hB.size; simp; omega) ?_; intro v' w1 hown' hgrow _; obtain ⟨g', cap', rfl⟩ := ownsRow_succ hown'; obtain ⟨hv1, hv2, hr2, hk2, hb2⟩ := hv.appended (by decide) hrow hB.size (Nat.le_refl _) hown' hgrow; have hc1 := hv1.cell; have hf1 := hv1.frozen)
   exact ⟨hk2.from _, hb2, ⟨_, hv2, by simpa using hr2⟩, hB.trans hb2⟩
 case done =>
   rintro D ys W hD rfl ⟨⟨v, hv, hrow, -⟩, hB⟩ hK
   have hc := hv.cell
   gi_wp2
   refine ⟨by simp, .inl ⟨_, _, rfl, run_takeDeferred hK, ?_⟩⟩
   exact ⟨_, Go.results_tmp rfl _ _ _, v, rfl, ownsRow_putObj hrow _ hK rfl, hB.trans (belowK_b (w := w) (Nat.le_refl _) W D _ _ (by simp at hD; omega) hK rfl rfl)⟩
 case stop =>
   rintro D c pre W _ _ h _
   exact h.elim
end Go.Proofs.YtpafoodmpjlkhaaGreatDoor
namespace Go.Pk
open Go.RowKit (Below)
def KV (es : List MapEntry) (kvs : List (List UInt8 × Int)) : Prop := es.map (fun e => (e.key, e.val)) = kvs.map fun p => (Value.string (mkS p.1), Value.int .i64 p.2)
def pA (w : World) (r : Nat) (kvs : List (List UInt8 × Int)) : Prop := ∃ es clock, w.heap[r]? = some (.map es clock) /\ KV es.toList kvs
def oH (k : List UInt8) : List (List UInt8 × Int) -> Option Int
 | [] => none
 | (k', v) :: l => if k = k' then some v else oH k l
def A0 (k : List UInt8) : List (List UInt8 × Int) -> Nat -> Option (Nat × Int)
 | [], _ => none
 | (k', v) :: l, i => if k = k' then some (i, v) else A0 k l (i + 1)
theorem tX (k : List UInt8) : ∀ (l : List (List UInt8 × Int)) (i : Nat), (A0 k l i).map (·.2) = oH k l
 | [], _ => rfl
 | (k', v) :: l, i => by
   unfold A0 oH
   split
   · rfl
   · exact tX k l (i + 1)
theorem HQ (a b : List UInt8) : (mkS a == mkS b) = (a == b) := by
 show ((mkS a).data == (mkS b).data) = _
 simp [mkS]
theorem HR {a b : List UInt8} : (mkS a == mkS b) = decide (a = b) := by
 rw [HQ, Bool.eq_iff_iff]; simp
theorem vZ (k : List UInt8) : ∀ (es : List MapEntry) (kvs : List (List UInt8 × Int)) (i : Nat), KV es kvs ->
   Instr.findNow .string (.string (mkS k)) es i = some ((A0 k kvs i).map fun p => (p.1, Value.int .i64 p.2))
 | [], kvs, i, h => by
   have : kvs = [] := by
     unfold KV at h; simp at h; exact h
   subst this; rfl
 | e :: es, [], i, h => by unfold KV at h; simp at h
 | e :: es, (k', v) :: kvs, i, h => by
   unfold KV at h
   simp only [List.map_cons, List.cons.injEq, Prod.mk.injEq] at h
   obtain ⟨⟨hk, hv⟩, ht⟩ := h
   unfold Instr.findNow A0
   rw [hk]
   simp only [Instr.sameNow, HR]
   by_cases e1 : k = k'
   · simp [e1, hv]
   · simp only [e1, decide_false, if_false]
     exact vZ k es kvs (i + 1) ht
theorem vY {P : Program} {kt : TypeId} (hk : P.underlying kt = some .string) {k : List UInt8} {es : List MapEntry} {kvs : List (List UInt8 × Int)} (h : KV es kvs) (w : World) :
   (Instr.findKey kt (.string (mkS k)) es).run P w = .ok ((A0 k kvs 0).map fun p => (p.1, Value.int .i64 p.2)) w := by
 unfold Instr.findKey
 rw [Sem.run_bind, br hk, Result.andThen_ok, vZ k es kvs 0 h]
 rfl
theorem uy {P : Program} {kt : TypeId} (hk : P.underlying kt = some .string) (b : Bool) (s : ByteArray) (w : World) : (Instr.checkKey b 10000 kt (.string s)).run P w = .ok () w := by
 show (Instr.checkKey b (9999 + 1) kt (.string s)).run P w = _
 unfold Instr.checkKey
 rw [Sem.run_bind, br hk, Result.andThen_ok]
 rfl
theorem yG {P : Program} {w : World} {r : Nat} {es : Array MapEntry} {c : Nat} (h : w.heap[r]? = some (.map es c)) : (getObj r).run P w = .ok (.map es c) w := by
 simp only [getObj, Sem.run, h]
theorem Bf {P : Program} {mt kt et : TypeId} {z : Value} (hm : P.underlying mt = some (.map kt et)) (hk : P.underlying kt = some .string) (he : TF P et 1 8 (.int .i64 0)) {w : World} {r : Nat} {kvs : List (List UInt8 × Int)} (h : pA w r kvs) (k : List UInt8) :
   (Instr.lookup mt (.map (some r)) (.string (mkS k)) true).run P w = .ok (.tuple #[.int .i64 ((oH k kvs).getD 0), .bool (oH k kvs).isSome]) w := by
 obtain ⟨es, c, hh, hkv⟩ := h
 obtain ⟨i, hi, _, _, hz⟩ := he.info
 unfold Instr.lookup
 simp only [Sem.run_bind, br hm, Result.andThen_ok, yG hh, Sem.run_pure, uy hk, vY hk hkv]
 rw [<- tX k kvs 0]
 cases A0 k kvs 0 with
 | none => simp [zeroValue, lw hi, hz]
 | some p => simp
theorem pA.below {w w' : World} {r : Nat} {kvs : List (List UInt8 × Int)} (h : pA w r kvs) (hb : Below w.heap.size w w') : pA w' r kvs := by
 obtain ⟨es, c, hh, hkv⟩ := h
 exact ⟨es, c, (hb.block r (Array.getElem?_eq_some_iff.1 hh).1).trans hh, hkv⟩
theorem pA.keep {w w' : World} {r : Nat} {kvs : List (List UInt8 × Int)} (h : pA w r kvs) (hb : w'.heap[r]? = w.heap[r]?) : pA w' r kvs := by
 obtain ⟨es, c, hh, hkv⟩ := h
 exact ⟨es, c, hb.trans hh, hkv⟩
theorem pA.new {w w' : World} {r : Nat} (hr : r = w.heap.size) (hw : w' = w.alloc (.map #[] 0)) : pA w' r [] := by
 subst hr hw
 exact ⟨#[], 0, heap_alloc_new w _, rfl⟩
theorem zJ {P : Program} {mt kt et : TypeId} (hm : P.underlying mt = some (.map kt et)) (hk : P.underlying kt = some .string) {w : World} {r : Nat} {kvs : List (List UInt8 × Int)} (h : pA w r kvs) {k : List UInt8} (hno : oH k kvs = none) (v : Int) :
   ∃ w', (Instr.mapUpdate mt (.map (some r)) (.string (mkS k)) (.int .i64 v)).run P w = .ok () w' /\ pA w' r (kvs ++ [(k, v)]) /\ w.grownBy w' (some r) := by
 obtain ⟨es, c, hh, hkv⟩ := h
 have hlt : r < w.heap.size := (Array.getElem?_eq_some_iff.1 hh).1
 have hnone : A0 k kvs 0 = none := by
   have := tX k kvs 0
   rw [hno] at this
   simpa using this
 refine ⟨{ w with heap := w.heap.setIfInBounds r (.map (es.push { key := .string (mkS k), val := .int .i64 v, born := c }) (c + 1)) }, ?_, ⟨es.push { key := .string (mkS k), val := .int .i64 v, born := c }, c + 1, by simp [hlt], ?_⟩, ⟨rfl, rfl, rfl, by simp, fun j hj hne => ?_⟩⟩
 · unfold Instr.mapUpdate
   simp only [Sem.run_bind, br hm, Result.andThen_ok, yG hh, uy hk, vY hk hkv, hnone, Option.map_none]
   simp only [setObj, Sem.run, hh]
 · unfold KV at hkv ⊢
   simp only [Array.toList_push, List.map_append, List.map_cons, List.map_nil, hkv]
 · have : r ≠ j := fun e => hne (by rw [e])
   simp [Array.getElem?_setIfInBounds_ne this]
end Go.Pk
namespace Go.Proofs
open Go.Shelf
def Tryz.sortS_ren : Go.Shelf.Ren := ⟨fun | 6 => 95 | 8 => 150 | 9 => 149 | 19 => 200 | 20 => 201 | 21 => 191 | 22 => 192 | 23 => 193 | 24 => 194 | 25 => 195 | 26 => 196 | 27 => 197 | 28 => 198 | 29 => 199 | 36 => 224 | 31 => 225 | 32 => 226 | 37 => 227 | 38 => 228 | 39 => 229 | 41 => 242 | n => n, fun | 27 => 38 | 29 => 9 | 3 => 3 | 32 => 191 | 26 => 38 | 0 => 0 | 44 => 244 | 46 => 246 | 4 => 4 | 36 => 238 | 35 => 237 | 41 => 122 | 5 => 5 | 9 => 9 | 53 => 278 | 57 => 282 | 63 => 291 | 64 => 231 | n => n, fun | n => n⟩
theorem Tryz.sortS : Go.Proofs.SlLaysM.n6 prog Tryz.sortS_ren := {
 mixed := by kernel_rfl
 f6 := ⟨Tryz.f95.name, by decide, Tryz.func95.trans (congrArg some (by kernel_rfl))⟩
 f8 := Tryz.func150.trans (congrArg some (by kernel_rfl))
 f9 := ⟨Tryz.f149.name, by decide, Tryz.func149.trans (congrArg some (by kernel_rfl))⟩
 f19 := Tryz.func200.trans (congrArg some (by kernel_rfl))
 f20 := Tryz.func201.trans (congrArg some (by kernel_rfl))
 f21 := ⟨Tryz.f191.name, by decide, Tryz.func191.trans (congrArg some (by kernel_rfl))⟩
 f22 := ⟨Tryz.f192.name, by decide, Tryz.func192.trans (congrArg some (by kernel_rfl))⟩
 f23 := ⟨Tryz.f193.name, by decide, Tryz.func193.trans (congrArg some (by kernel_rfl))⟩
 f24 := ⟨Tryz.f194.name, by decide, Tryz.func194.trans (congrArg some (by kernel_rfl))⟩
 f25 := ⟨Tryz.f195.name, by decide, Tryz.func195.trans (congrArg some (by kernel_rfl))⟩
 f26 := ⟨Tryz.f196.name, by decide, Tryz.func196.trans (congrArg some (by kernel_rfl))⟩
 f27 := ⟨Tryz.f197.name, by decide, Tryz.func197.trans (congrArg some (by kernel_rfl))⟩
 f28 := ⟨Tryz.f198.name, by decide, Tryz.func198.trans (congrArg some (by kernel_rfl))⟩
 f29 := ⟨Tryz.f199.name, by decide, Tryz.func199.trans (congrArg some (by kernel_rfl))⟩
 f31 := Tryz.func225.trans (congrArg some (by kernel_rfl))
 f32 := Tryz.func226.trans (congrArg some (by kernel_rfl))
 f36 := ⟨Tryz.f224.name, by decide, Tryz.func224.trans (congrArg some (by kernel_rfl))⟩
 f37 := ⟨Tryz.f227.name, by decide, Tryz.func227.trans (congrArg some (by kernel_rfl))⟩
 f38 := ⟨Tryz.f228.name, by decide, Tryz.func228.trans (congrArg some (by kernel_rfl))⟩
 f39 := ⟨Tryz.f229.name, by decide, Tryz.func229.trans (congrArg some (by kernel_rfl))⟩
 f41 := ⟨Tryz.f242.name, by decide, Tryz.func242.trans (congrArg some (by kernel_rfl))⟩
 t0 := Tryz.underlying0
 a0 := Tryz.isAgg0
 z0 := Tryz.sizeOf0
 v0 := Tryz.zeroValue0
 t3 := Tryz.underlying3
 a3 := Tryz.isAgg3
 z3 := Tryz.sizeOf3
 v3 := Tryz.zeroValue3
 t4 := Tryz.underlying4
 a4 := Tryz.isAgg4
 z4 := Tryz.sizeOf4
 v4 := Tryz.zeroValue4
 t5 := Tryz.underlying5
 a5 := Tryz.isAgg5
 z5 := Tryz.sizeOf5
 v5 := Tryz.zeroValue5
 t9 := Tryz.underlying9
 a9 := Tryz.isAgg9
 z9 := Tryz.sizeOf9
 v9 := Tryz.zeroValue9
 t26 := Tryz.underlying38
 a26 := Tryz.isAgg38
 z26 := Tryz.sizeOf38
 v26 := Tryz.zeroValue38
 t27 := Tryz.underlying38
 a27 := Tryz.isAgg38
 z27 := Tryz.sizeOf38
 v27 := Tryz.zeroValue38
 t29 := Tryz.underlying9
 a29 := Tryz.isAgg9
 z29 := Tryz.sizeOf9
 v29 := Tryz.zeroValue9
 t32 := Tryz.underlying191
 a32 := Tryz.isAgg191
 z32 := Tryz.sizeOf191
 v32 := Tryz.zeroValue191
 t35 := Tryz.underlying237
 a35 := Tryz.isAgg237
 z35 := Tryz.sizeOf237
 v35 := Tryz.zeroValue237
 t36 := Tryz.underlying238
 a36 := Tryz.isAgg238
 z36 := Tryz.sizeOf238
 v36 := Tryz.zeroValue238
 t41 := Tryz.underlying122
 a41 := Tryz.isAgg122
 z41 := Tryz.sizeOf122
 v41 := Tryz.zeroValue122
 t44 := Tryz.underlying244
 a44 := Tryz.isAgg244
 z44 := Tryz.sizeOf244
 v44 := Tryz.zeroValue244
 t46 := Tryz.underlying246
 a46 := Tryz.isAgg246
 z46 := Tryz.sizeOf246
 v46 := Tryz.zeroValue246
 t53 := Tryz.underlying278
 a53 := Tryz.isAgg278
 z53 := Tryz.sizeOf278
 v53 := Tryz.zeroValue278
 t57 := Tryz.underlying282
 a57 := Tryz.isAgg282
 z57 := Tryz.sizeOf282
 v57 := Tryz.zeroValue282
 t63 := Tryz.underlying291
 a63 := Tryz.isAgg291
 z63 := Tryz.sizeOf291
 v63 := Tryz.zeroValue291
 t64 := Tryz.underlying231
 a64 := Tryz.isAgg231
 z64 := Tryz.sizeOf231
 v64 := Tryz.zeroValue231 }
end Go.Proofs
set_option maxRecDepth 20000
namespace Go.Proofs.YtpafoodmpjlkhaaGreatDoor
open Go.Pk
open Go.RowKit (Below)
theorem Sl.texts {w : World} {a : Option Addr} {n c : Nat} {zs : List (List UInt8)} (h : Sl tS w gT a n c zs) : xE w.heap.size w (.slice a n c) zs := by
 obtain ⟨rfl, h2, h3, h4⟩ := h
 rcases h4 with rfl | ⟨b, off, rfl, hb, _, l, hl, hc⟩
 · exact .inl ⟨rfl, a, c, rfl⟩
 · refine .inr ⟨b, off, c, rfl, hb, fun j hj => ?_⟩
   have he := ee hl
   rw [hc j (by rw [he]; simpa using hj), he]
   simp [hj]
theorem Au (Bs : Nat) (sv : Value) (zs : List (List UInt8)) (hl : zs.length <= 1000000) (w : World) (hBs : Bs < w.heap.size) (hc : w.cell? ⟨Bs, 0, none⟩ = some sv) (hI : xE w.heap.size w sv zs) :
   Calls prog eI #[.slice none 0 0, .func (.func bp) #[] #[.pointer (some ⟨Bs, 0, none⟩)]] w
     (Ret fun v w' => ∃ a n c, v = .slice a n c /\ Ow tS ar w' NoB a n c zs /\ bD w.heap.size a /\ Below w.heap.size w w') := by
 refine (callsIn_wide (n := 3)).1 ?_
 have := As Fence.wide 3 trivial trivial rfl (by omega) Bs sv zs (by unfold maxLen; omega) (by omega) w hBs hc hI
 refine this.mono ?_
 rintro e W' ⟨v, rfl, hrow, hb⟩
 obtain ⟨a, c, rfl, ho, hf⟩ := Eg (e := fun s => Value.string (mkS s)) (h1 := fun _ => rfl) (p := fun _ => True) NoB hrow rfl (fun _ _ => trivial)
 exact ⟨_, rfl, a, _, c, rfl, ho, hf, hb⟩
theorem DN (Bs : Nat) (sv : Value) (zs : List (List UInt8)) (hl : zs.length <= 1000000) (w : World) (hBs : Bs < w.heap.size) (hc : w.cell? ⟨Bs, 0, none⟩ = some sv) (hI : xE w.heap.size w sv zs) :
   Calls prog fO #[.func (.func bp) #[] #[.pointer (some ⟨Bs, 0, none⟩)]] w
     (Ret fun v w' => ∃ a n c, v = .slice a n c /\ Ow tS ar w' NoB a n c zs /\ bD w.heap.size a /\ Below w.heap.size w w') := by
 apply nu
 unfold jd
 refine ax (Au Bs sv zs hl w hBs hc hI) ?_
 rintro _ w1 ⟨a, n, c, rfl, ho, hf, hb⟩
 exact ⟨a, n, c, rfl, a, n, c, rfl, ho, hf, hb⟩
abbrev srt (zs : List (List UInt8)) : List (List UInt8) := zs.mergeSort fun x y => decide (x <= y)
theorem HY (a : Option Addr) (n c : Nat) (zs : List (List UInt8)) (hl : zs.length <= 1000000) (w : World) (ho : Ow tS ar w NoB a n c zs) :
   Calls prog gF #[.slice a n c] w (Ret fun v w' => v = .tuple #[] /\ Ow tS ar w' NoB a n c (srt zs) /\ w.grownBy w' (bE a)) := by
 have hn := ho.len
 subst hn
 rcases ho.2.2.2 with ⟨rfl, rfl, rfl⟩ | ⟨g, cur, fr, rfl, _⟩
 · refine (Tryz.slices_Sort_string_none none 0 w).mono ?_
   rintro _ _ ⟨rfl, rfl⟩
   exact ⟨_, rfl, rfl, by simpa [srt] using ho, ⟨rfl, rfl, rfl, Nat.le_refl _, fun _ _ _ => rfl⟩⟩
 · have hh := ho.holds
   refine (Tryz.slices_Sort_string g 0 c zs w hh.1 hh.2 (by omega)).mono ?_
   rintro _ _ ⟨rfl, q, os, rfl⟩
   have := ho.putR (ys := srt zs) (by simp) (fun _ _ => trivial) q os
   exact ⟨_, rfl, rfl, this.1, this.2⟩
theorem FM (Bs : Nat) (sv : Value) (zs : List (List UInt8)) (hl : zs.length <= 1000000) (w : World) (hBs : Bs < w.heap.size) (hc : w.cell? ⟨Bs, 0, none⟩ = some sv) (hI : xE w.heap.size w sv zs) :
   Calls prog gm #[.func (.func bp) #[] #[.pointer (some ⟨Bs, 0, none⟩)]] w
     (Ret fun v w' => ∃ a n c, v = .slice a n c /\ Ow tS ar w' NoB a n c (srt zs) /\ bD w.heap.size a /\ Below w.heap.size w w') := by
 apply nQ
 unfold jH
 refine ax (DN Bs sv zs hl w hBs hc hI) ?_
 rintro _ w1 ⟨a, n, c, rfl, ho, hf, hb⟩
 refine ⟨a, n, c, rfl, ?_⟩
 refine ax (HY a n c zs hl w1 ho) ?_
 rintro _ w2 ⟨rfl, ho2, hg⟩
 exact ⟨rfl, a, n, c, rfl, ho2, hf, hb.grown hg hb.size hf⟩
theorem FZ (a : Option Addr) (n c : Nat) (w : World) : Calls prog df #[.slice a n c] w
   (Ret fun v w' => v = .func (.func bp) #[] #[.pointer (some ⟨w.heap.size, 0, none⟩)] /\ w' = w.alloc (.cells #[.slice a n c] aw)) := by
 apply j8
 unfold fu
 rintro _ _ rfl rfl
 exact ⟨rfl, rfl⟩
theorem DO (a : Option Addr) (n c : Nat) (zs : List (List UInt8)) (hl : zs.length <= 1000000) (w : World) (ho : Ow tS ar w NoB a n c zs) :
   Calls prog fm #[.slice a n c] w (Ret fun v w' => ∃ n', v = .slice a n' c /\ Ow tS ar w' NoB a n' c (Lib.compact zs) /\ w.grownBy w' (bE a)) := by
 have hn := ho.len
 subst hn
 rcases ho.2.2.2 with ⟨rfl, rfl, rfl⟩ | ⟨g, cur, fr, rfl, _⟩
 · refine (Tryz.slices_Compact_string_empty none 0 w).mono ?_
   rintro _ _ ⟨rfl, rfl⟩
   exact ⟨_, rfl, _, rfl, ho, ⟨rfl, rfl, rfl, Nat.le_refl _, fun _ _ _ => rfl⟩⟩
 · have hh := ho.holds
   refine (Tryz.slices_Compact_string g 0 c zs w hh.1 (by omega) ho.2.1).mono ?_
   rintro _ _ ⟨rfl, q, rfl⟩
   have hle := Lib.compact_length_le zs
   have := ho.put0 (ys := Lib.compact zs ++ List.replicate (zs.length - (Lib.compact zs).length) []) (by simp; omega) (fun _ _ => trivial) q
   exact ⟨_, rfl, _, rfl, this.1.trunc rfl, this.2⟩
end Go.Proofs.YtpafoodmpjlkhaaGreatDoor
namespace Go.Pk
abbrev Txt := List UInt8
def ky (l : List Txt) : List Txt := Lib.compact (l.mergeSort fun x y => decide (x <= y))
theorem xl {a b : Txt} (h : a <= b) (hne : a ≠ b) : a < b := by
 have := List.le_iff_lt_or_eq.1 h
 exact this.resolve_right hne
theorem G7 (l : List Txt) : (l.mergeSort fun x y => decide (x <= y)).Pairwise (· <= ·) := by
 have h := List.pairwise_mergeSort (le := fun (x y : Txt) => decide (x <= y)) (fun a b c h1 h2 => by simp only [dTx] at *; exact List.le_trans h1 h2)
   (fun a b => by simp only [Bool.or_eq_true, dTx]; exact List.le_total a b) l
 exact h.imp fun h => by simpa using h
theorem DC (d : List Txt) (hs : d.Pairwise (· <= ·)) : ∀ m, m <= d.length -> (Lib.compactUpTo d.toArray m).Pairwise (· < ·) /\ (∀ x, x ∈ Lib.compactUpTo d.toArray m ↔ x ∈ d.take m) := by
 intro m
 induction m with
 | zero => intro _; simp [Lib.compactUpTo]
 | succ m ih =>
   intro hm
   obtain ⟨h1, h2⟩ := ih (by omega)
   have hlt : m < d.length := by omega
   have hd : d.toArray[m]! = d[m] := by simp [hlt]
   rw [Lib.compactUpTo_succ, List.take_succ_eq_append_getElem hlt, hd]
   by_cases hk : Lib.keeps d.toArray m = true
   · rw [if_pos hk]
     refine ⟨List.pairwise_append.2 ⟨h1, by simp, ?_⟩, fun x => by rw [List.mem_append, h2, List.mem_append]⟩
     intro x hx y hy
     have hy' : y = d[m] := by simpa using hy
     subst hy'
     have hx' := (h2 x).1 hx
     obtain ⟨i, hi, rfl⟩ := List.getElem_of_mem hx'
     rw [List.length_take] at hi
     rw [List.getElem_take]
     have hm0 : m ≠ 0 := by omega
     simp only [Lib.keeps, dTx] at hk
     have hne := hk.resolve_left hm0
     have hd1 : d.toArray[m - 1]! = d[m - 1] := by simp [show m - 1 < d.length by omega]
     rw [hd, hd1] at hne
     have hle1 : d[m - 1] <= d[m] := List.pairwise_iff_getElem.1 hs (m - 1) m (by omega) hlt (by omega)
     have hlt1 := xl hle1 (fun e => hne e.symm)
     by_cases hi1 : i = m - 1
     · subst hi1; exact hlt1
     · have hle0 : d[i] <= d[m - 1] := List.pairwise_iff_getElem.1 hs i (m - 1) (by omega) (by omega) (by omega)
       exact List.lt_of_le_of_lt hle0 hlt1
   · rw [if_neg hk]
     refine ⟨by simpa using h1, fun x => ?_⟩
     rw [List.append_nil, h2, List.mem_append]
     refine ⟨.inl, fun h => h.elim id fun h => ?_⟩
     have hx : x = d[m] := by simpa using h
     subst hx
     simp only [Lib.keeps, dTx, not_or, Classical.not_not] at hk
     obtain ⟨hm0, he⟩ := hk
     have hd1 : d.toArray[m - 1]! = d[m - 1] := by simp [show m - 1 < d.length by omega]
     rw [hd, hd1] at he
     rw [he]
     exact List.mem_take_iff_getElem.2 ⟨m - 1, by omega, rfl⟩
theorem rZ (l : List Txt) : (ky l).Pairwise (· < ·) := (DC _ (G7 l) _ (Nat.le_refl _)).1
theorem qQ {l : List Txt} {x : Txt} : x ∈ ky l ↔ x ∈ l := by
 have := (DC _ (G7 l) _ (Nat.le_refl _)).2 x
 unfold ky Lib.compact
 rw [this, List.take_length, List.mem_mergeSort]
theorem nS (l : List Txt) : (ky l).Nodup := (rZ l).imp fun {a b} h e => by subst e; exact List.lt_irrefl a h
theorem z6 (l : List Txt) : (ky l).length <= l.length := by
 have := Lib.compact_length_le (l.mergeSort fun x y => decide (x <= y))
 rw [List.length_mergeSort] at this
 exact this
end Go.Pk
namespace Go.Proofs.YtpafoodmpjlkhaaGreatDoor
open Go.Pk
open Go.RowKit (Below)
def AW (ts : List Txt) : List (Txt × Int) := ts.zipIdx.map fun p => (p.1, ((p.2 : Nat) : Int))
theorem AX (ts : List Txt) (x : Txt) : AW (ts ++ [x]) = AW ts ++ [(x, (ts.length : Int))] := by
 unfold AW
 rw [List.zipIdx_append]
 simp
theorem qj (k : Txt) : ∀ (l m : List (Txt × Int)), oH k (l ++ m) = (oH k l).orElse fun _ => oH k m
 | [], m => by simp [oH]
 | (k', v) :: l, m => by
   simp only [List.cons_append, oH]
   split
   · rfl
   · exact qj k l m
theorem yC {k : Txt} : ∀ {ts : List Txt}, k ∉ ts -> ∀ (l : List (Txt × Int)), l.map (·.1) = ts -> oH k l = none
 | _, h, [], e => rfl
 | [], h, (k', v) :: l, e => by simp at e
 | t :: ts, h, (k', v) :: l, e => by
   simp only [List.map_cons, List.cons.injEq] at e
   obtain ⟨rfl, e⟩ := e
   simp only [List.mem_cons, not_or] at h
   unfold oH
   rw [if_neg h.1]
   exact yC h.2 l e
theorem Fi (ts : List Txt) : (AW ts).map (·.1) = ts := by
 unfold AW
 rw [List.map_map]
 exact List.zipIdx_map_fst 0 ts
theorem lR {ts : List Txt} {k : Txt} (h : k ∉ ts) : oH k (AW ts) = none := yC h _ (Fi ts)
theorem dm {α : Type} {l : List α} {k : Nat} (h : k < l.length) : l.take (k + 1) = l.take k ++ [l[k]] := List.take_succ_eq_append_getElem h
def gU (w : World) (p : Option Addr) (ts : List Txt) : Prop :=
 ∃ b a n c m cs fr, p = some ⟨b, 0, none⟩ /\ w.heap[b]? = some (.cells cs eW fr) /\ cs = #[.slice a n c, .map (some m)] /\ Sl tS w gT a n c ts /\ pA w m (AW ts) /\ ts.Pairwise (· < ·)
theorem gU.below {w w' : World} {p : Option Addr} {ts : List Txt} (h : gU w p ts) (hb : Below w.heap.size w w') : gU w' p ts := by
 obtain ⟨b, a, n, c, m, cs, fr, e1, e2, e3, e4, e5, e6⟩ := h
 exact ⟨b, a, n, c, m, cs, fr, e1, (hb.block b (Array.getElem?_eq_some_iff.1 e2).1).trans e2, e3, e4.below hb, e5.below hb, e6⟩
theorem jz (a : Option Addr) (n c : Nat) (l : List Txt) (hl : l.length <= 1000000) (w : World) (hs : Sl tS w gT a n c l) :
   Calls prog gG #[.slice a n c] w (Ret fun v w' => ∃ p, v = .pointer p /\ gU w' p (ky l) /\ Below w.heap.size w w') := by
 apply yd
 unfold tC
 refine ax (FZ a n c w) ?_
 rintro _ _ ⟨rfl, rfl⟩
 refine ⟨_, rfl, ?_⟩
 have hB0 : Below w.heap.size w (w.alloc (.cells #[.slice a n c] aw)) := ah _ _
 have hs0 := hs.below hB0
 have hc0 : (w.alloc (.cells #[.slice a n c] aw)).cell? ⟨w.heap.size, 0, none⟩ = some (.slice a n c) := by
   rw [eQ (heap_alloc_new w _)]; rfl
 refine ax (FM w.heap.size (.slice a n c) l hl _ (by simp) hc0 (Sl.texts hs0)) ?_
 rintro _ w1 ⟨a1, n1, c1, rfl, ho1, hf1, hb1⟩
 have hB1 := ab hB0 hb1 hB0.size
 refine ⟨a1, n1, c1, rfl, ?_⟩
 refine ax (DO a1 n1 c1 _ (by simpa [srt] using hl) w1 ho1) ?_
 rintro _ w2 ⟨n2, rfl, ho2, hg2⟩
 have hB2 : Below w.heap.size w w2 := hB1.grown hg2 hB1.size (hf1.mono hB0.size)
 refine ⟨a1, n2, c1, rfl, ?_⟩
 have ho2 : Ow tS ar w2 NoB a1 n2 c1 (ky l) := ho2
 intro k3 w3 hk3 hw3
 intro k4 w4 hk4 hw4
 have hB3 : Below w2.heap.size w2 w3 := hw3 ▸ ah _ _
 have hB4 : Below w3.heap.size w3 w4 := hw4 ▸ ah _ _
 have hs3 : w3.heap.size = w2.heap.size + 1 := by rw [hw3]; simp
 have hs4 : w4.heap.size = w3.heap.size + 1 := by rw [hw4]; simp
 have hBB : Below w2.heap.size w2 w4 := ab hB3 hB4 hB3.size
 have hm3 : pA w3 k3 [] := pA.new hk3 hw3
 have hm4 : pA w4 k3 [] := hm3.below hB4
 have hh4 : w4.heap[k4]? = some (.cells #[.slice a1 n2 c1, .map (some k3)] eW (0, 0)) := by
   rw [hw4, hk4]; exact heap_alloc_new w3 _
 have ho4 := ho2.below hBB
 have hn := ho4.len
 have hlen := z6 l
 have hlt1 := ho2.lt
 refine ⟨rfl, rfl, a1, n2, c1, ?_, ?_⟩
 · exact dJ bh rfl (by rw [eQ hh4]; rfl)
 refine ⟨fun m i w' => ∃ n : Nat, n <= (ky l).length /\ i = (n : Int) /\ m = (ky l).length - n /\ pA w' k3 (AW ((ky l).take n)) /\ w4.grownBy w' (some k3),
   ⟨_, 0, by omega, rfl, rfl, by simpa [AW] using hm4, ⟨rfl, rfl, rfl, Nat.le_refl _, fun _ _ _ => rfl⟩⟩, ?_⟩
 intro m i
 refine aE.of ?_ _
 rintro w' ⟨j, hj, rfl, rfl, hm, hg⟩
 have hk34 : k4 ≠ k3 := by omega
 have hh' : w'.heap[k4]? = some (.cells #[.slice a1 n2 c1, .map (some k3)] eW (0, 0)) := by
   rw [hg.block k4 (by omega) (fun e => hk34 (Option.some.inj e))]; exact hh4
 have ho' : Ow tS ar w' NoB a1 n2 c1 (ky l) := ho4.keep (hX hg fun b hb e => by
   rcases hb with hb | hb
   · exact hb
   · have := hlt1 b hb.symm
     simp at e; omega)
 refine af.of (fun h => ?_) (fun h => ?_) <;> simp at h
 · have hsl := ho'.all
   have hj' : j < (ky l).length := by omega
   refine ⟨⟨⟨by omega, by omega⟩, hsl.isSome hj'⟩, ?_⟩
   obtain ⟨v, hv, hrep⟩ := hsl.load1 (i := (j : Int)) aC rfl rfl (by simpa using hj')
   obtain ⟨rfl, -⟩ := i6 hrep
   simp only [Int.toNat_natCast] at hv
   refine ⟨_, hv, rfl, rfl, some k3, ?_, ?_⟩
   · exact dJ cN rfl (by rw [eQ hh']; rfl)
   have hno : oH (ky l)[j] (AW ((ky l).take j)) = none := lR fun hmem => by
     obtain ⟨i, hi, e⟩ := List.getElem_of_mem hmem
     rw [List.length_take] at hi
     rw [List.getElem_take] at e
     have := List.pairwise_iff_getElem.1 (rZ l) i j (by omega) hj' (by omega)
     rw [e] at this
     exact List.lt_irrefl _ this
   obtain ⟨w5, hr, hm5, hg5⟩ := zJ (P := prog) cN aC hm hno (j : Int)
   refine ⟨w5, hr, _, ?_, j + 1, by omega, ?_, rfl, ?_, ?_⟩
   · omega
   · rw [ak (by omega) (by omega)]; omega
   · rw [dm hj', AX, List.length_take, Nat.min_eq_left (by omega)]; exact hm5
   · exact ⟨hg5.os.trans hg.os, hg5.tape.trans hg.tape, hg5.output.trans hg.output, Nat.le_trans hg.size hg5.size, fun k hk hne => (hg5.block k (Nat.lt_of_lt_of_le hk hg.size) hne).trans (hg.block k hk hne)⟩
 · have : j = (ky l).length := by omega
   subst this
   rw [List.take_length] at hm
   refine ⟨_, rfl, ⟨k4, a1, n2, c1, k3, _, _, rfl, hh', rfl, ho'.all, hm, rZ l⟩, ?_⟩
   refine (ab hB2 hBB hB2.size).grown hg (by have := hB2.size; omega) fun k e => ?_
   cases e
   rw [hk3]; exact hB2.size
end Go.Proofs.YtpafoodmpjlkhaaGreatDoor
namespace Go.Pk
theorem sI {α : Type} [DecidableEq α] : ∀ {l m : List α}, l.Nodup -> (∀ x ∈ l, x ∈ m) -> l.length <= m.length
 | [], m, _, _ => Nat.zero_le _
 | x :: l, m, h, hs => by
   have hx := hs x List.mem_cons_self
   have h' := List.nodup_cons.1 h
   have := sI (l := l) (m := m.erase x) h'.2 fun y hy => (List.mem_erase_of_ne (fun e => h'.1 (by rw [<- e]; exact hy))).2 (hs y (List.mem_cons_of_mem _ hy))
   rw [List.length_erase_of_mem hx] at this
   have := List.length_pos_of_mem hx
   simp; omega
theorem gJ {α : Type} [DecidableEq α] {l m : List α} (h : l.Nodup) (k : m.Nodup) (hs : ∀ x, x ∈ l ↔ x ∈ m) : l.length = m.length :=
 Nat.le_antisymm (sI h fun x hx => (hs x).1 hx) (sI k fun x hx => (hs x).2 hx)
def zG : Txt := [97, 98, 99, 100, 101, 102, 103, 104, 105, 106, 107, 108, 109, 110, 111, 112, 113, 114, 115, 116, 117, 118, 119, 120, 121, 122, 48, 49, 50, 51, 52, 53, 54, 55, 56, 57, 45, 95]
def sD (i : Nat) : UInt8 := zG[i]?.getD 0
def Et (n : Nat) : Txt := if h : n = 0 then [] else sD ((n - 1) % 38) :: Et ((n - 1) / 38)
termination_by n
decreasing_by omega
theorem nG : Et 0 = [] := by rw [Et]; rfl
theorem ou {n : Nat} (h : n ≠ 0) : Et n = sD ((n - 1) % 38) :: Et ((n - 1) / 38) := by rw [Et, dif_neg h]
def iu (n : Nat) : Txt := (Et n).reverse
def Dp (c : UInt8) : Nat := zG.findIdx (· == c)
def Js : Txt -> Nat
 | [] => 0
 | c :: t => Dp c + 1 + 38 * Js t
theorem wD : ∀ i, i < 38 -> Dp (sD i) = i := by decide
theorem BI (n : Nat) : Js (Et n) = n := by
 induction n using Nat.strongRecOn with
 | _ n ih =>
   by_cases h : n = 0
   · subst h; rw [nG]; rfl
   · rw [ou h, Js, ih _ (by omega), wD _ (by omega)]; omega
theorem Fv {a b : Nat} (h : iu a = iu b) : a = b := by
 have := congrArg List.reverse h
 simp only [iu, List.reverse_reverse] at this
 rw [<- BI a, this, BI]
def tG (l : List Txt) (n : Nat) : Prop := 1 <= n /\ iu n ∉ l /\ ∀ k, 1 <= k -> k < n -> iu k ∈ l
theorem zo {l : List Txt} {n : Nat} (h : ∀ k, 1 <= k -> k < n -> iu k ∈ l) : n <= l.length + 1 := by
 have := sI (l := (List.range' 1 (n - 1)).map iu) (m := l) (by
   refine List.pairwise_map.2 ((List.nodup_range' (s := 1) (n := n - 1)).imp fun {a b} hab e => hab (Fv e)) ) (by
   intro x hx
   obtain ⟨k, hk, rfl⟩ := List.mem_map.1 hx
   rw [List.mem_range'_1] at hk
   exact h k (by omega) (by omega))
 simp at this; omega
theorem Di (l : List Txt) : ∃ n, tG l n := by
 have key : ∀ m, (∀ k, 1 <= k -> k <= m -> iu k ∈ l) \/ ∃ n, tG l n := by
   intro m
   induction m with
   | zero => exact .inl fun k h1 h2 => by omega
   | succ m ih =>
     rcases ih with ih | ih
     · by_cases h : iu (m + 1) ∈ l
       · refine .inl fun k h1 h2 => ?_
         by_cases hk : k = m + 1
         · rw [hk]; exact h
         · exact ih k h1 (by omega)
       · exact .inr ⟨m + 1, by omega, h, fun k h1 h2 => ih k h1 (by omega)⟩
     · exact .inr ih
 rcases key (l.length + 1) with h | h
 · have := zo (n := l.length + 2) fun k h1 h2 => h k h1 (by omega)
   omega
 · exact h
noncomputable def wh (l : List Txt) : Nat := Classical.choose (Di l)
theorem qM (l : List Txt) : tG l (wh l) := Classical.choose_spec (Di l)
theorem AY {l m : List Txt} (hs : ∀ x, x ∈ l ↔ x ∈ m) {a b : Nat} (h : tG l a) (k : tG m b) : a = b := by
 obtain ⟨h1, h2, h3⟩ := h
 obtain ⟨k1, k2, k3⟩ := k
 rcases Nat.lt_trichotomy a b with c | c | c
 · exact absurd ((hs _).2 (k3 a h1 c)) h2
 · exact c
 · exact absurd ((hs _).1 (h3 b k1 c)) k2
noncomputable def kU (l : List Txt) : Txt := iu (wh l)
theorem AN {l : List Txt} {n : Nat} (h : tG l n) : kU l = iu n := by
 unfold kU; rw [AY (fun _ => Iff.rfl) (qM l) h]
theorem DT (l : List Txt) : wh l <= l.length + 1 := zo (qM l).2.2
def ofT (ts : List Txt) (s : Txt) : Int := if s ∈ ts then ((ts.countP fun x => decide (x < s) : Nat) : Int) else (ts.length : Int)
theorem sm : ∀ {ts : List Txt}, ts.Pairwise (· < ·) -> ∀ (i : Nat) (h : i < ts.length), (ts.countP fun x => decide (x < ts[i])) = i
 | t :: ts, hp, i, h => by
   have hp' := List.pairwise_cons.1 hp
   cases i with
   | zero =>
     rw [List.countP_eq_zero]
     intro x hx
     simp only [dTx, List.getElem_cons_zero]
     intro hlt
     rcases List.mem_cons.1 hx with rfl | hx
     · exact List.lt_irrefl _ hlt
     · exact List.lt_irrefl _ (List.lt_trans hlt (hp'.1 x hx))
   | succ i =>
     have hi : i < ts.length := by simpa using h
     simp only [List.getElem_cons_succ]
     rw [List.countP_cons, sm hp'.2 i hi, if_pos]
     simp only [dTx]; exact hp'.1 _ (List.getElem_mem hi)
theorem zM {ts : List Txt} (hp : ts.Pairwise (· < ·)) {i : Nat} (h : i < ts.length) : ofT ts ts[i] = (i : Int) := by
 unfold ofT; rw [if_pos (List.getElem_mem h), sm hp i h]
noncomputable def py (ts : List Txt) (i : Int) : Txt := if i = (ts.length : Int) then kU ts else if 0 <= i /\ i < (ts.length : Int) then ts[i.toNat]?.getD [] else []
end Go.Pk
