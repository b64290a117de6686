/- What the law alone leans on: W, R, Law, Open, Names, V33, H, V3, V1, Split, DateP, DateN, HdrB, AddrA, AddrP, AddrB, AddrC, AddrF, AddrG, AddrI, HostA, HostC, V30, SymQ, HostD, V4, MatA, SufB, DfaR, HwP, HwQ, HwR, DaM, HosD, HosH, SymH, HosI, SymA, SymB, V34, HosK, OpenH, HosM; what is used. Its conditions: none. -/
import Derived.Test.YtpafoodmpjlkhaaGreatDoorKH
import Derived.Calls
import Derived.Scope
import Derived.Below
import Derived.Deep.Quiet
import Derived.StillTail
import Derived.Laws.Strings
import Derived.KernelRfl
import Derived.Laws.AppendOwn
import Derived.IntWalk
import Derived.Sort.Row
import Derived.SliceStrings
import Derived.ProofKit
import Derived.OpenShut
import Derived.Stop.LaidErr
import Derived.Lib.LaidTab
import Derived.Deep.DeepHandedRow
import Derived.Test.YtpafoodmpjlkhaaGreatDoorRows
import Derived.Lib.SplitLaws
import Derived.Lib.IndexMore
import Init
import Derived.Lib.ItoaLen
import Derived.Lib.LastIndexByte
import Derived.ChangeArms
import Derived.ChangeSame
import Derived.Deep.Slices
open Go.IntKind (i64)
open Go.Proofs.Tryz (prog)
set_option linter.unusedVariables false
set_option linter.unusedSimpArgs false
namespace Go.Pk
open Go.RowKit (Below)
theorem Cx (b : ByteArray) : mkS (toL b) = b := rfl
end Go.Pk
namespace Go.Pk
open Go.RowKit (Below)
theorem tJ {α : Type} {e : α -> Value} {h1 : ∀ x, (e x).oneCell' = true} {p : α -> Prop} {w : World} {A : Bl} {l : List Value} {xs : List α} (h : gw (Ty.enc e h1 p) w A l xs) : ∀ x ∈ xs, p x := fun x hx => by
 obtain ⟨i, hi, rfl⟩ := List.getElem_of_mem hx
 exact (h.rep i hi).2
end Go.Pk
namespace Go.Pk
open Go.RowKit (Below)
theorem HX {α : Type} {e : α -> Value} {h1 : ∀ x, (e x).oneCell' = true} {p : α -> Prop} {w : World} {a : Addr} {len cap : Nat} {xs : List α} (hlen : xs.length = len) (hp : ∀ x ∈ xs, p x) (hl : len <= cap) (hm : cap <= maxLen)
   (hc : ∀ i (h : i < xs.length), w.cell? (a.add i) = some (e xs[i])) : Sl (Ty.enc e h1 p) w gT (some a) len cap xs := by
 refine ⟨hlen.symm, hl, hm, ?_⟩
 by_cases h0 : xs.length = 0
 · exact .inl (List.eq_nil_of_length_eq_zero h0)
 · obtain ⟨b, off, spot⟩ := a
   have hc0 := hc 0 (by omega)
   have hspot : spot = none := by simpa [Addr.add] using World.cell?_spot hc0
   subst hspot
   rw [dp] at hc0
   obtain ⟨cs, t, fr, hh, _⟩ := Go.Sort.cells_of_cell? hc0
   refine .inr ⟨b, off, rfl, (Array.getElem?_eq_some_iff.1 hh).1, trivial, xs.map e, fv hp, fun j hj => ?_⟩
   have hj' : j < xs.length := by simpa using hj
   have := hc j hj'
   rw [dp] at this
   rw [this]; simp [hj']
theorem uk {α : Type} {e : α -> Value} {h1 : ∀ x, (e x).oneCell' = true} {p q : α -> Prop} {w : World} {A : Bl} {a : Option Addr} {n c : Nat} {xs : List α} (h : Sl (Ty.enc e h1 p) w A a n c xs) (hq : ∀ x ∈ xs, p x -> q x) : Sl (Ty.enc e h1 q) w A a n c xs := by
 obtain ⟨h1', h2, h3, h4⟩ := h
 refine ⟨h1', h2, h3, ?_⟩
 rcases h4 with h4 | ⟨b, off, e', hb, hab, l, hl, hc⟩
 · exact .inl h4
 · exact .inr ⟨b, off, e', hb, hab, l, ⟨hl.len, fun i hi => ⟨(hl.rep i hi).1, hq _ (List.getElem_mem hi) (hl.rep i hi).2⟩⟩, hc⟩
theorem uj {w : World} {a : Option Addr} {len cap : Nat} {ss : List ByteArray}
   (h : (a = none /\ len = 0 /\ cap = 0 /\ ss = []) \/ ∃ x, a = some x /\ len <= cap /\ cap <= maxLen /\ ss.length = cap /\ (∀ i, i < ss.length -> w.cell? (x.add i) = some (.string (ss.getD i ByteArray.empty))) /\ ∀ s ∈ ss, s.size <= maxLen) :
   Sl (G8 fun s => s.length <= maxLen) w gT a len cap ((ss.take len).map toL) := by
 rcases h with ⟨rfl, rfl, rfl, rfl⟩ | ⟨x, rfl, hl, hm, hz, hcell, hwf⟩
 · exact Sl.nil _ _ _ _ _ (Nat.zero_le _)
 · refine HX (by rw [List.length_map, List.length_take]; omega) (fun s hs => ?_) hl hm fun i hi => ?_
   · obtain ⟨b, hb, rfl⟩ := List.mem_map.1 hs
     exact hwf b (List.mem_of_mem_take hb)
   · rw [List.length_map, List.length_take] at hi
     rw [hcell i (by omega)]
     simp only [List.getElem_map, List.getElem_take, Cx]
     simp [List.getD, show i < ss.length by omega]
end Go.Pk
namespace Go.Pk
def BR {α : Type} (P : Program) (T : Ty α) (t : TypeId) : Prop :=
 ∀ (H : Type) (enc : TypeId × Value -> H) (w : World) (fuel : Nat) (cs : List Value) (x : DataW H × List MemPlace), DataW.trod enc P w 0 (fun _ => true) true fuel t cs = some x -> ∃ a, T.rep w gT cs a
theorem qk {P : Program} {k : IntKind} {t : TypeId} (ht : P.underlying t = some (.int k)) : BR P (IM k fun n => (Lit.int k n).wf = true) t := fun H enc w fuel cs x h => by
 obtain ⟨n, e, _, hw⟩ := DataW.trod_int ht h
 exact ⟨n, e, hw⟩
theorem wL {P : Program} {t : TypeId} (ht : P.underlying t = some .string) : BR P (G8 fun s => s.length <= maxLen) t := fun H enc w fuel cs x h => by
 obtain ⟨s, e, _, hs⟩ := DataW.trod_string ht h
 exact ⟨toL s, e, hs⟩
theorem wK {α : Type} {P : Program} {T : Ty α} {t e : TypeId} {n : Nat} (ht : P.underlying t = some (.array n e)) (he : BR P T e) (hk : P.cellsOf e = T.k) (hc : P.cellsOf t = n * T.k)
   {H : Type} {enc : TypeId × Value -> H} {w : World} {fuel : Nat} {cs : List Value} {x : DataW H × List MemPlace} (h : DataW.trod enc P w 0 (fun _ => true) true fuel t cs = some x) : ∃ xs : List α, xs.length = n /\ gw T w gT cs xs := by
 obtain ⟨ys, m, _, _, hl, hy, hel⟩ := DataW.trod_array ht h
 have hall : ∀ i, i < n -> ∃ a, T.rep w gT ((cs.drop (i * T.k)).take T.k) a := fun i hi => by
   have := hel i hi
   rw [hk, List.getElem?_eq_getElem (by omega)] at this
   exact he H enc w m _ _ this
 have build : ∀ j, j <= n -> ∃ xs : List α, xs.length = j /\ ∀ i (h : i < xs.length), T.rep w gT ((cs.drop (i * T.k)).take T.k) xs[i] := by
   intro j
   induction j with
   | zero => intro _; exact ⟨[], rfl, fun i h => by cases h⟩
   | succ j ih =>
     intro hj
     obtain ⟨xs, h1, h2⟩ := ih (by omega)
     obtain ⟨a, ha⟩ := hall j hj
     refine ⟨xs ++ [a], by simp [h1], fun i hi => ?_⟩
     by_cases c : i < xs.length
     · rw [List.getElem_append_left c]; exact h2 i c
     · have : i = xs.length := by simp at hi; omega
       subst this
       rw [List.getElem_append_right (Nat.le_refl _)]
       simp only [Nat.sub_self, List.getElem_cons_zero]
       rw [h1]; exact ha
 obtain ⟨xs, h1, h2⟩ := build n (Nat.le_refl _)
 exact ⟨xs, h1, by rw [hl, hc, h1], h2⟩
theorem qR {P : Program} {w : World} {r : Reach} {base : Nat} {t : TypeId} {v : Value} {d : TypeDesc} (ht : P.underlying t = some d) (ha : Ar d = true) (h : Value.okWide P w r base t v) : ∃ cs : List Value, v = .agg cs.toArray := by
 unfold Value.okWide at h
 rw [ht] at h
 cases d <;> first | (obtain ⟨cs, rfl, _⟩ := h; exact ⟨cs.toList, by simp⟩) | (cases ha; done)
end Go.Pk
namespace Go.Proofs.YtpafoodmpjlkhaaGreatDoor
open Go.Pk
abbrev kS : Nat := 4
abbrev cW : Nat := 18
abbrev fC : Nat := 19
abbrev fN : Nat := 21
abbrev d4 : Nat := 22
abbrev hU : Nat := 23
abbrev cf : Nat := 24
abbrev fM : Nat := 25
abbrev dZ : Nat := 26
abbrev m4 : Nat := 27
abbrev dY : Nat := 44
abbrev du : Nat := 58
abbrev gZ : Nat := 59
abbrev bX : Nat := 60
abbrev fI : Nat := 61
abbrev fE : Nat := 92
abbrev fF : Nat := 93
abbrev fK : Nat := 106
abbrev gE : Nat := 107
abbrev bQ : Nat := 108
abbrev jY : Nat := 109
abbrev fD : Nat := 110
abbrev cR : Nat := 111
abbrev jX : Nat := 112
abbrev fJ : Nat := 113
abbrev aM : Nat := 145
abbrev dq : Nat := 146
abbrev bJ : Nat := 147
abbrev dt : Nat := 167
abbrev eu : Nat := 168
abbrev fH : Nat := 190
abbrev fG : Nat := 211
abbrev ji : Nat := 106
end Go.Proofs.YtpafoodmpjlkhaaGreatDoor
set_option maxRecDepth 100000
namespace Go.Proofs.YtpafoodmpjlkhaaGreatDoor
open Go.Pk
open Go.RowKit (Below)
--  cracknel/cracknelref15.Right
def rA (n0_0 : Int) (n0_1 : Int) (a0_2 : Option Addr) (l0_2 c0_2 : Nat) (a0_3 : Option Addr) (l0_3 c0_3 : Nat) (w : World) (K : Value -> World -> Prop) : Prop :=
 ∀ k1 w1, k1 = w.heap.size -> w1 = w.alloc (.cells #[.int .i64 n0_0, .int .i64 n0_1, .slice a0_2 l0_2 c0_2, .slice a0_3 l0_3 c0_3] aj) ->
 (true = true) /\
 ∃ a7 l7 c7, Ld aS (some ⟨k1, 3, none⟩) w1 (.slice a7 l7 c7) /\
 ∃ J : FP [],
 ((true = true) /\
 ∃ n10, Ld az (some ⟨k1, 0, none⟩) w1 (.int .i64 n10) /\
 af (decide (n10 < (1 : Int)))
 (K (.bool false) w1)
 ((true = true) /\
 ∃ n14, Ld az (some ⟨k1, 0, none⟩) w1 (.int .i64 n14) /\
 af (decide (n14 > (512 : Int)))
 (K (.bool false) w1)
 (af (decide (((l7 : Nat) : Int) < (1 : Int)))
 (K (.bool false) w1)
 (af (decide (((l7 : Nat) : Int) > (65536 : Int)))
 (K (.bool false) w1)
 ((true = true) /\
 ∃ a27 l27 c27, Ld aA (some ⟨k1, 2, none⟩) w1 (.slice a27 l27 c27) /\
 (true = true) /\
 ∃ n31, Ld az (some ⟨k1, 0, none⟩) w1 (.int .i64 n31) /\
 af (((l27 : Nat) : Int) != (i64.wrap (((l7 : Nat) : Int) * n31)))
 (K (.bool false) w1)
 (J w1)))))) /\
 aE 27 (∀ wj, J wj ->
 (true = true) /\
 ∃ a36 l36 c36, Ld aA (some ⟨k1, 2, none⟩) wj (.slice a36 l36 c36) /\
 ∃ I : Nat -> FP [.one (.int .i64)],
 (∃ m, I m (0 : Int) wj) /\
 ∀ m n38, aE 13 (∀ wl, I m n38 wl ->
 af (decide (n38 < ((l36 : Nat) : Int)))
 (((0 <= n38 /\ n38 < ((l36 : Nat) : Int)) /\ Option.isSome a36 = true) /\
 ∃ n41, Ld az (ao a36 n38 1) wl (.int .i64 n41) /\
 af (decide (n41 < (0 : Int)))
 (K (.bool false) wl)
 (af (decide (n41 >= ((l7 : Nat) : Int)))
 (K (.bool false) wl)
 (∃ m' : Nat, m' < m /\ I m' (i64.wrap (n38 + (1 : Int))) wl)))
 ((true = true) /\
 ∃ n51, Ld az (some ⟨k1, 1, none⟩) wl (.int .i64 n51) /\
 af (decide (n51 >= (0 : Int)))
 ((true = true) /\
 ∃ n55, Ld az (some ⟨k1, 1, none⟩) wl (.int .i64 n55) /\
 K (.bool (decide (n55 < ((l7 : Nat) : Int)))) wl)
 (K (.bool false) wl))))
theorem wX (n0_0 : Int) (n0_1 : Int) (a0_2 : Option Addr) (l0_2 c0_2 : Nat) (a0_3 : Option Addr) (l0_3 c0_3 : Nat) {w : World} {K : Value -> World -> Prop} (h : rA n0_0 n0_1 a0_2 l0_2 c0_2 a0_3 l0_3 c0_3 w K) : Calls prog hU #[.agg #[.int .i64 n0_0, .int .i64 n0_1, .slice a0_2 l0_2 c0_2, .slice a0_3 l0_3 c0_3]] w (Ret K) :=
 au (c := ay Tryz.f23) (by kernel_rfl) Tryz.func23 (by kernel_rfl) [(4, []), (16, [(38, .one (.int .i64))])] [.agg #[.int .i64 n0_0, .int .i64 n0_1, .slice a0_2 l0_2 c0_2, .slice a0_3 l0_3 c0_3]] (of_decide_eq_true (by kernel_rfl)) _ (by kernel_rfl) h

--  cracknel/cracknelref15.Tells
def rB (n0_0 : Int) (n0_1 : Int) (a0_2 : Option Addr) (l0_2 c0_2 : Nat) (a0_3 : Option Addr) (l0_3 c0_3 : Nat) (a1 : Option Addr) (l1 c1 : Nat) (w : World) (K : Value -> World -> Prop) : Prop :=
 ∀ k2 w2, k2 = w.heap.size -> w2 = w.alloc (.cells #[.int .i64 n0_0, .int .i64 n0_1, .slice a0_2 l0_2 c0_2, .slice a0_3 l0_3 c0_3] aj) ->
 ∃ n8_0 n8_1 a8_2 l8_2 c8_2 a8_3 l8_3 c8_3, Ld aj (some ⟨k2, 0, none⟩) w2 (.agg #[.int .i64 n8_0, .int .i64 n8_1, .slice a8_2 l8_2 c8_2, .slice a8_3 l8_3 c8_3]) /\
 Calls prog hU #[.agg #[.int .i64 n8_0, .int .i64 n8_1, .slice a8_2 l8_2 c8_2, .slice a8_3 l8_3 c8_3]] w2 fun e9 w9 => ∃ b9, e9 = .returned (.bool b9) /\
 af (!b9)
 (K (.bool false) w9)
 ((true = true) /\
 ∃ n12, Ld az (some ⟨k2, 1, none⟩) w9 (.int .i64 n12) /\
 ∃ I : Nat -> FP [.one (.int .i64), .one (.int .i64)],
 (∃ m, I m n12 (0 : Int) w9) /\
 ∀ m n5 n15, aE 24 (∀ wl, I m n5 n15 wl ->
 af (decide (n15 < ((l1 : Nat) : Int)))
 (((0 <= n15 /\ n15 < ((l1 : Nat) : Int)) /\ Option.isSome a1 = true) /\
 ∃ n18, Ld az (ao a1 n15 1) wl (.int .i64 n18) /\
 ∃ J : FP [],
 (af (decide (n18 < (0 : Int)))
 (K (.bool false) wl)
 ((true = true) /\
 ∃ n24, Ld az (some ⟨k2, 0, none⟩) wl (.int .i64 n24) /\
 af (decide (n18 >= n24))
 (K (.bool false) wl)
 (J wl))) /\
 aE 9 (∀ wj, J wj ->
 (true = true) /\
 ∃ a28 l28 c28, Ld aA (some ⟨k2, 2, none⟩) wj (.slice a28 l28 c28) /\
 (true = true) /\
 ∃ n31, Ld az (some ⟨k2, 0, none⟩) wj (.int .i64 n31) /\
 ((0 <= (i64.wrap ((i64.wrap (n5 * n31)) + n18)) /\ (i64.wrap ((i64.wrap (n5 * n31)) + n18)) < ((l28 : Nat) : Int)) /\ Option.isSome a28 = true) /\
 ∃ n36, Ld az (ao a28 (i64.wrap ((i64.wrap (n5 * n31)) + n18)) 1) wj (.int .i64 n36) /\
 ∃ m' : Nat, m' < m /\ I m' n36 (i64.wrap (n15 + (1 : Int))) wj))
 ((true = true) /\
 ∃ a39 l39 c39, Ld aS (some ⟨k2, 3, none⟩) wl (.slice a39 l39 c39) /\
 ((0 <= n5 /\ n5 < ((l39 : Nat) : Int)) /\ Option.isSome a39 = true) /\
 ∃ b42, Ld eV (ao a39 n5 1) wl (.bool b42) /\
 K (.bool b42) wl)))
theorem wY (n0_0 : Int) (n0_1 : Int) (a0_2 : Option Addr) (l0_2 c0_2 : Nat) (a0_3 : Option Addr) (l0_3 c0_3 : Nat) (a1 : Option Addr) (l1 c1 : Nat) {w : World} {K : Value -> World -> Prop} (h : rB n0_0 n0_1 a0_2 l0_2 c0_2 a0_3 l0_3 c0_3 a1 l1 c1 w K) : Calls prog fM #[.agg #[.int .i64 n0_0, .int .i64 n0_1, .slice a0_2 l0_2 c0_2, .slice a0_3 l0_3 c0_3], .slice a1 l1 c1] w (Ret K) :=
 au (c := ay Tryz.f25) (by kernel_rfl) Tryz.func25 (by kernel_rfl) [(16, [(5, .one (.int .i64)), (15, .one (.int .i64))]), (27, [])] [.agg #[.int .i64 n0_0, .int .i64 n0_1, .slice a0_2 l0_2 c0_2, .slice a0_3 l0_3 c0_3], .slice a1 l1 c1] (of_decide_eq_true (by kernel_rfl)) _ (by kernel_rfl) h

--  cracknel/cracknelref15.has
def jF (a0 : Option Addr) (l0 c0 : Nat) (v1 : Value) (w : World) (K : Value -> World -> Prop) : Prop :=
 ∀ k3 w3, k3 = w.heap.size -> w3 = w.alloc (.cells (Value.cells v1) ae) ->
 ∀ k8 w8, k8 = w3.heap.size -> w8 = w3.alloc (.cells #[] az) ->
 ∃ v9, Ld ae (some ⟨k3, 0, none⟩) w8 v9 /\
 Calls prog cf #[v9] w8 fun e10 w10 => ∃ b10, e10 = .returned (.bool b10) /\
 af (!b10)
 (K (.slice (some ⟨k8, 0, none⟩) 0 0) w10)
 ((true = true) /\
 ∃ n14, Ld az (some ⟨k3, 0, none⟩) w10 (.int .i64 n14) /\
 af (n14 != (1 : Int))
 (∃ v17, Ld ae (some ⟨k3, 0, none⟩) w10 v17 /\
 Calls prog dY #[v17] w10 fun e18 w18 => ∃ s18, e18 = .returned (.string (mkS s18)) /\
 Calls prog gZ #[.slice a0 l0 c0, .string (mkS s18)] w18 fun e19 w19 => ∃ n19, e19 = .returned (.int .i64 n19) /\
 ∀ k20 w20, k20 = w19.heap.size -> w20 = w19.alloc (.cells #[.int .i64 n19] az) ->
 K (.slice (some ⟨k20, 0, none⟩) 1 1) w20)
 (∃ v21, Ld ae (some ⟨k3, 0, none⟩) w10 v21 /\
 Calls prog bX #[v21] w10 fun e22 w22 => ∃ a22 l22 c22, e22 = .returned (.slice a22 l22 c22) /\
 ∃ I : Nat -> FP [.one (.slice), .one (.int .i64)],
 (∃ m, I m (some ⟨k8, 0, none⟩) 0 0 (i64.wrap (((l22 : Nat) : Int) - (1 : Int))) w22) /\
 ∀ m a5 l5 c5 n7, aE 13 (∀ wl, I m a5 l5 c5 n7 wl ->
 af (decide (n7 >= (0 : Int)))
 (((0 <= n7 /\ n7 < ((l22 : Nat) : Int)) /\ Option.isSome a22 = true) /\
 ∃ s35, Ld ar (ao a22 n7 1) wl (.string (mkS s35)) /\
 Calls prog gZ #[.slice a0 l0 c0, .string (mkS s35)] wl fun e36 w36 => ∃ n36, e36 = .returned (.int .i64 n36) /\
 ∀ k37 w37, k37 = w36.heap.size -> w37 = w36.alloc (.cells #[.int .i64 n36] az) ->
 ∃ w38 a38 l38 c38, (Builtin.append_ #[aA, aA] aA #[.slice a5 l5 c5, .slice (some ⟨k37, 0, none⟩) 1 1]).run prog w37 = .ok (.slice a38 l38 c38) w38 /\
 ∃ m' : Nat, m' < m /\ I m' a38 l38 c38 (i64.wrap (n7 - (1 : Int))) w38)
 (K (.slice a5 l5 c5) wl))))
theorem nt (a0 : Option Addr) (l0 c0 : Nat) (v1 : Value) {w : World} {K : Value -> World -> Prop} (h : jF a0 l0 c0 v1 w K) : Calls prog d4 #[.slice a0 l0 c0, v1] w (Ret K) :=
 au (c := ay Tryz.f22) (by kernel_rfl) Tryz.func22 (by kernel_rfl) [(26, [(5, .one (.slice)), (7, .one (.int .i64))])] [.slice a0 l0 c0, v1] (of_decide_eq_true (by kernel_rfl)) _ (by kernel_rfl) h

--  cracknel/cracknelref18.Known
def iR (a0 : Option Addr) (l0 c0 : Nat) (v1 : Value) (w : World) (K : Value -> World -> Prop) : Prop :=
 ∀ k3 w3, k3 = w.heap.size -> w3 = w.alloc (.cells (Value.cells v1) ae) ->
 ∃ v9, Ld ae (some ⟨k3, 0, none⟩) w3 v9 /\
 Calls prog d4 #[.slice a0 l0 c0, v9] w3 fun e10 w10 => ∃ a10 l10 c10, e10 = .returned (.slice a10 l10 c10) /\
 ∃ I : Nat -> FP [.one (.int .i64)],
 (∃ m, I m (0 : Int) w10) /\
 ∀ m n13, aE 11 (∀ wl, I m n13 wl ->
 af (decide (n13 < ((l10 : Nat) : Int)))
 (((0 <= n13 /\ n13 < ((l10 : Nat) : Int)) /\ Option.isSome a10 = true) /\
 ∃ n16, Ld az (ao a10 n13 1) wl (.int .i64 n16) /\
 Calls prog du #[.slice a0 l0 c0] wl fun e19 w19 => ∃ a19 l19 c19, e19 = .returned (.slice a19 l19 c19) /\
 af (n16 == ((l19 : Nat) : Int))
 (K (.bool false) w19)
 (∃ m' : Nat, m' < m /\ I m' (i64.wrap (n13 + (1 : Int))) w19))
 (K (.bool (decide (((l10 : Nat) : Int) > (0 : Int)))) wl))
theorem mp (a0 : Option Addr) (l0 c0 : Nat) (v1 : Value) {w : World} {K : Value -> World -> Prop} (h : iR a0 l0 c0 v1 w K) : Calls prog fN #[.slice a0 l0 c0, v1] w (Ret K) :=
 au (c := ay Tryz.f21) (by kernel_rfl) Tryz.func21 (by kernel_rfl) [(8, [(13, .one (.int .i64))])] [.slice a0 l0 c0, v1] (of_decide_eq_true (by kernel_rfl)) _ (by kernel_rfl) h
end Go.Proofs.YtpafoodmpjlkhaaGreatDoor
namespace Go.Pk
open Go.RowKit (Below)
theorem HZ {n : Nat} {w : World} {R : List UInt8 -> World -> Prop} {B : (List UInt8 -> World -> Prop) -> Prop} (f : List UInt8) (hB : B (fun b w' => w' = w /\ b = f)) (h : R f w) :
   ∃ J : FP [.one (.str)], B J /\ ∀ b : List UInt8, aE n (∀ wj : World, J b wj -> R b wj) := by
 refine ⟨fun b w' => w' = w /\ b = f, hB, fun b => aE.of ?_ _⟩
 rintro wj ⟨rfl, rfl⟩; exact h
theorem Ht {n : Nat} {w : World} {c x : Bool} {R : Bool -> World -> Prop} (h : R (c && x) w) : ∃ J : FP [.one (.bool)], af c (J x w) (J false w) /\ ∀ b : Bool, aE n (∀ wj : World, J b wj -> R b wj) :=
 EN (B := fun J => af c (J x w) (J false w)) (c && x) (af.of (fun h => ⟨rfl, by rw [h]; rfl⟩) (fun h => ⟨rfl, by rw [h]; rfl⟩)) h
end Go.Pk
namespace Go.Proofs.YtpafoodmpjlkhaaGreatDoor
open Go.Pk
open Go.RowKit (Below)
--  cracknel/cracknelref03.Right
def iN (v0 : Value) (w : World) (K : Value -> World -> Prop) : Prop :=
 ∀ k1 w1, k1 = w.heap.size -> w1 = w.alloc (.cells (Value.cells v0) ae) ->
 ∃ v6, Ld ae (some ⟨k1, 0, none⟩) w1 v6 /\
 Calls prog dY #[v6] w1 fun e7 w7 => ∃ s7, e7 = .returned (.string (mkS s7)) /\
 Calls prog fI #[.string (mkS s7)] w7 fun e8 w8 => ∃ v8_0 n8_1, e8 = .returned (.tuple #[v8_0, .int .i64 n8_1]) /\
 ∀ k3 w3, k3 = w8.heap.size -> w3 = w8.alloc (.cells aL ae) ->
 ∃ wx, Sv ae (some ⟨k3, 0, none⟩) v8_0 w3 wx /\
 af (n8_1 == (0 : Int))
 (∃ v14, Ld ae (some ⟨k3, 0, none⟩) wx v14 /\
 ∃ v15, Ld ae (some ⟨k1, 0, none⟩) wx v15 /\
 ∃ b16, ((do eqGuard .eql ae (.tmp 14) (.tmp 15) v14 v15; binOp .eql ae v14 v15 : Sem Value)).run prog wx = .ok (.bool b16) wx /\
 K (.bool b16) wx)
 (K (.bool false) wx)
theorem mj (v0 : Value) {w : World} {K : Value -> World -> Prop} (h : iN v0 w K) : Calls prog cf #[v0] w (Ret K) :=
 au (c := ay Tryz.f24) (by kernel_rfl) Tryz.func24 (by kernel_rfl) [] [v0] (of_decide_eq_true (by kernel_rfl)) _ (by kernel_rfl) h

--  cracknel/cracknelref03.Under
def iO (v0 : Value) (v1 : Value) (w : World) (K : Value -> World -> Prop) : Prop :=
 ∀ k2 w2, k2 = w.heap.size -> w2 = w.alloc (.cells (Value.cells v0) ae) ->
 ∀ k3 w3, k3 = w2.heap.size -> w3 = w2.alloc (.cells (Value.cells v1) ae) ->
 ∃ J : FP [],
 (∃ v6, Ld ae (some ⟨k2, 0, none⟩) w3 v6 /\
 Calls prog bX #[v6] w3 fun e7 w7 => ∃ a7 l7 c7, e7 = .returned (.slice a7 l7 c7) /\
 af (((l7 : Nat) : Int) == (0 : Int))
 (K (.bool false) w7)
 (∃ v11, Ld ae (some ⟨k3, 0, none⟩) w7 v11 /\
 Calls prog bX #[v11] w7 fun e12 w12 => ∃ a12 l12 c12, e12 = .returned (.slice a12 l12 c12) /\
 af (((l12 : Nat) : Int) == (0 : Int))
 (K (.bool false) w12)
 (J w12))) /\
 aE 11 (∀ wj, J wj ->
 (true = true) /\
 ∃ s17, Ld ar (some ⟨k3, 1, none⟩) wj (.string (mkS s17)) /\
 ((((List.length [46] + List.length s17 : Nat) : Int) <= i64.max)) /\
 ∀ s18, s18 = ([46] ++ s17) ->
 (true = true) /\
 ∃ s20, Ld ar (some ⟨k2, 1, none⟩) wj (.string (mkS s20)) /\
 af (decide (((List.length s20 : Nat) : Int) > ((List.length s18 : Nat) : Int)))
 ((true = true) /\
 ∃ s27, Ld ar (some ⟨k2, 1, none⟩) wj (.string (mkS s27)) /\
 (true = true) /\
 ∃ s29, Ld ar (some ⟨k2, 1, none⟩) wj (.string (mkS s29)) /\
 ((0 <= (i64.wrap (((List.length s29 : Nat) : Int) - ((List.length s18 : Nat) : Int))) /\ (i64.wrap (((List.length s29 : Nat) : Int) - ((List.length s18 : Nat) : Int))) <= (((List.length s27) : Nat) : Int))) /\
 ∀ s34, s34 = (List.drop (Int.toNat (i64.wrap (((List.length s29 : Nat) : Int) - ((List.length s18 : Nat) : Int)))) s27) ->
 K (.bool (s34 == s18)) wj)
 (K (.bool false) wj))
theorem ml (v0 : Value) (v1 : Value) {w : World} {K : Value -> World -> Prop} (h : iO v0 v1 w K) : Calls prog dZ #[v0, v1] w (Ret K) :=
 au (c := ay Tryz.f26) (by kernel_rfl) Tryz.func26 (by kernel_rfl) [(2, [])] [v0, v1] (of_decide_eq_true (by kernel_rfl)) _ (by kernel_rfl) h

--  cracknel/cracknelref03.Text
def jD (v0 : Value) (w : World) (K : Value -> World -> Prop) : Prop :=
 ∀ k1 w1, k1 = w.heap.size -> w1 = w.alloc (.cells (Value.cells v0) ae) ->
 (true = true) /\
 ∃ n4, Ld az (some ⟨k1, 0, none⟩) w1 (.int .i64 n4) /\
 af (n4 == (1 : Int))
 ((true = true) /\
 ∃ s7, Ld ar (some ⟨k1, 1, none⟩) w1 (.string (mkS s7)) /\
 K (.string (mkS s7)) w1)
 ((true = true) /\
 ∃ n9, Ld az (some ⟨k1, 0, none⟩) w1 (.int .i64 n9) /\
 af (n9 == (2 : Int))
 ((true = true) /\
 ∃ v12, Ld ai (some ⟨k1, 2, none⟩) w1 v12 /\
 Calls prog fE #[v12] w1 fun e13 w13 => ∃ s13, e13 = .returned (.string (mkS s13)) /\
 K (.string (mkS s13)) w13)
 ((true = true) /\
 ∃ n15, Ld az (some ⟨k1, 0, none⟩) w1 (.int .i64 n15) /\
 af (n15 == (3 : Int))
 ((true = true) /\
 ∃ v18, Ld ai (some ⟨k1, 2, none⟩) w1 v18 /\
 Calls prog fF #[v18] w1 fun e19 w19 => ∃ s19, e19 = .returned (.string (mkS s19)) /\
 ((((List.length [91] + List.length s19 : Nat) : Int) <= i64.max)) /\
 ∀ s20, s20 = ([91] ++ s19) ->
 ((((List.length s20 + List.length [93] : Nat) : Int) <= i64.max)) /\
 ∀ s21, s21 = (s20 ++ [93]) ->
 K (.string (mkS s21)) w19)
 (K (.string (mkS [])) w1)))
theorem nr (v0 : Value) {w : World} {K : Value -> World -> Prop} (h : jD v0 w K) : Calls prog dY #[v0] w (Ret K) :=
 au (c := ay Tryz.f44) (by kernel_rfl) Tryz.func44 (by kernel_rfl) [] [v0] (of_decide_eq_true (by kernel_rfl)) _ (by kernel_rfl) h

--  cracknel/cracknelref03.Labels
def gQ (v0 : Value) (w : World) (K : Value -> World -> Prop) : Prop :=
 ∀ k1 w1, k1 = w.heap.size -> w1 = w.alloc (.cells (Value.cells v0) ae) ->
 ∃ J : FP [],
 ((true = true) /\
 ∃ n4, Ld az (some ⟨k1, 0, none⟩) w1 (.int .i64 n4) /\
 af (n4 != (1 : Int))
 (K (.slice none 0 0) w1)
 (∃ v7, Ld ae (some ⟨k1, 0, none⟩) w1 v7 /\
 Calls prog cf #[v7] w1 fun e8 w8 => ∃ b8, e8 = .returned (.bool b8) /\
 af (!b8)
 (K (.slice none 0 0) w8)
 (J w8))) /\
 aE 9 (∀ wj, J wj ->
 (true = true) /\
 ∃ s12, Ld ar (some ⟨k1, 1, none⟩) wj (.string (mkS s12)) /\
 Calls prog bQ #[.string (mkS s12), .int .u8 (46 : Int)] wj fun e13 w13 => ∃ a13 l13 c13, e13 = .returned (.slice a13 l13 c13) /\
 K (.slice a13 l13 c13) w13)
theorem kO (v0 : Value) {w : World} {K : Value -> World -> Prop} (h : gQ v0 w K) : Calls prog bX #[v0] w (Ret K) :=
 au (c := ay Tryz.f60) (by kernel_rfl) Tryz.func60 (by kernel_rfl) [(2, [])] [v0] (of_decide_eq_true (by kernel_rfl)) _ (by kernel_rfl) h

--  cracknel/cracknelref03.Parse
def iM (s0 : List UInt8) (w : World) (K : Value -> World -> Prop) : Prop :=
 ∀ k2 w2, k2 = w.heap.size -> w2 = w.alloc (.cells aL ae) ->
 ∃ J : FP [],
 (∃ J_1 : FP [.one (.bool)],
 (af (decide (((List.length s0 : Nat) : Int) > (0 : Int)))
 (((0 <= (0 : Int) /\ (0 : Int) < ((List.length s0 : Nat) : Int))) /\
 J_1 ((aP s0 (0 : Int)) == (91 : Int)) w2)
 (J_1 false w2)) /\
 ∀ b19, aE 7 (∀ wj, J_1 b19 wj ->
 af b19
 (((0 <= (i64.wrap (((List.length s0 : Nat) : Int) - (1 : Int))) /\ (i64.wrap (((List.length s0 : Nat) : Int) - (1 : Int))) < ((List.length s0 : Nat) : Int))) /\
 af ((aP s0 (i64.wrap (((List.length s0 : Nat) : Int) - (1 : Int)))) != (93 : Int))
 (∃ wx, Sv ae (some ⟨k2, 0, none⟩) (.agg aL) wj wx /\
 ∃ vr0, (bm ae (.pointer (some ⟨k2, 0, none⟩))).run prog wx = .ok vr0 wx /\
 K (.tuple #[vr0, .int .i64 (31 : Int)]) wx)
 ((((0 <= (i64.wrap (((List.length s0 : Nat) : Int) - (1 : Int))) /\ (i64.wrap (((List.length s0 : Nat) : Int) - (1 : Int))) <= (((List.length s0) : Nat) : Int)) /\ 0 <= (1 : Int) /\ (1 : Int) <= ((Int.toNat (i64.wrap (((List.length s0 : Nat) : Int) - (1 : Int))) : Nat) : Int))) /\
 ∀ s32, s32 = (List.drop (Int.toNat (1 : Int)) (List.take (Int.toNat (i64.wrap (((List.length s0 : Nat) : Int) - (1 : Int)))) s0)) ->
 Calls prog jY #[.string (mkS s32)] wj fun e33 w33 => ∃ v33_0 b33_1, e33 = .returned (.tuple #[v33_0, .bool b33_1]) /\
 ∀ k4 w4, k4 = w33.heap.size -> w4 = w33.alloc (.cells aG ai) ->
 ∃ wx_1, Sv ai (some ⟨k4, 0, none⟩) v33_0 w4 wx_1 /\
 af (!b33_1)
 (∃ wx_2, Sv ae (some ⟨k2, 0, none⟩) (.agg aL) wx_1 wx_2 /\
 ∃ vr0_1, (bm ae (.pointer (some ⟨k2, 0, none⟩))).run prog wx_2 = .ok vr0_1 wx_2 /\
 K (.tuple #[vr0_1, .int .i64 (31 : Int)]) wx_2)
 (∃ v39, Ld ai (some ⟨k4, 0, none⟩) wx_1 v39 /\
 ∃ v40, (Instr.build ae #[(0, .int .i64 (3 : Int)), (2, v39)]).run prog wx_1 = .ok v40 wx_1 /\
 ∃ wx_3, Sv ae (some ⟨k2, 0, none⟩) v40 wx_1 wx_3 /\
 ∃ vr0_2, (bm ae (.pointer (some ⟨k2, 0, none⟩))).run prog wx_3 = .ok vr0_2 wx_3 /\
 K (.tuple #[vr0_2, .int .i64 (0 : Int)]) wx_3)))
 (J wj))) /\
 aE 32 (∀ wj_1, J wj_1 ->
 Calls prog fD #[.string (mkS s0)] wj_1 fun e42 w42 => ∃ s42, e42 = .returned (.string (mkS s42)) /\
 Calls prog bQ #[.string (mkS s42), .int .u8 (46 : Int)] w42 fun e44 w44 => ∃ a44 l44 c44, e44 = .returned (.slice a44 l44 c44) /\
 ((0 <= (i64.wrap (((l44 : Nat) : Int) - (1 : Int))) /\ (i64.wrap (((l44 : Nat) : Int) - (1 : Int))) < ((l44 : Nat) : Int)) /\ Option.isSome a44 = true) /\
 ∃ s50, Ld ar (ao a44 (i64.wrap (((l44 : Nat) : Int) - (1 : Int))) 1) w44 (.string (mkS s50)) /\
 Calls prog cR #[.string (mkS s50)] w44 fun e51 w51 => ∃ b51, e51 = .returned (.bool b51) /\
 af b51
 (Calls prog jX #[.string (mkS s0)] w51 fun e54 w54 => ∃ v54_0 b54_1, e54 = .returned (.tuple #[v54_0, .bool b54_1]) /\
 ∀ k8 w8, k8 = w54.heap.size -> w8 = w54.alloc (.cells aG ai) ->
 ∃ wx_4, Sv ai (some ⟨k8, 0, none⟩) v54_0 w8 wx_4 /\
 af (!b54_1)
 (∃ wx_5, Sv ae (some ⟨k2, 0, none⟩) (.agg aL) wx_4 wx_5 /\
 ∃ vr0_3, (bm ae (.pointer (some ⟨k2, 0, none⟩))).run prog wx_5 = .ok vr0_3 wx_5 /\
 K (.tuple #[vr0_3, .int .i64 (31 : Int)]) wx_5)
 (∃ v60, Ld ai (some ⟨k8, 0, none⟩) wx_4 v60 /\
 ∃ v61, (Instr.build ae #[(0, .int .i64 (2 : Int)), (2, v60)]).run prog wx_4 = .ok v61 wx_4 /\
 ∃ wx_6, Sv ae (some ⟨k2, 0, none⟩) v61 wx_4 wx_6 /\
 ∃ vr0_4, (bm ae (.pointer (some ⟨k2, 0, none⟩))).run prog wx_6 = .ok vr0_4 wx_6 /\
 K (.tuple #[vr0_4, .int .i64 (0 : Int)]) wx_6))
 (∃ I : Nat -> FP [.one (.int .i64)],
 (∃ m, I m (0 : Int) w51) /\
 ∀ m n64, aE 10 (∀ wl, I m n64 wl ->
 af (decide (n64 < ((l44 : Nat) : Int)))
 (((0 <= n64 /\ n64 < ((l44 : Nat) : Int)) /\ Option.isSome a44 = true) /\
 ∃ s67, Ld ar (ao a44 n64 1) wl (.string (mkS s67)) /\
 Calls prog fJ #[.string (mkS s67)] wl fun e69 w69 => ∃ b69, e69 = .returned (.bool b69) /\
 af (!b69)
 (∃ wx_7, Sv ae (some ⟨k2, 0, none⟩) (.agg aL) w69 wx_7 /\
 ∃ vr0_5, (bm ae (.pointer (some ⟨k2, 0, none⟩))).run prog wx_7 = .ok vr0_5 wx_7 /\
 K (.tuple #[vr0_5, .int .i64 (31 : Int)]) wx_7)
 (∃ m' : Nat, m' < m /\ I m' (i64.wrap (n64 + (1 : Int))) w69))
 (af (decide (((List.length s0 : Nat) : Int) > (253 : Int)))
 (∃ wx_8, Sv ae (some ⟨k2, 0, none⟩) (.agg aL) wl wx_8 /\
 ∃ vr0_6, (bm ae (.pointer (some ⟨k2, 0, none⟩))).run prog wx_8 = .ok vr0_6 wx_8 /\
 K (.tuple #[vr0_6, .int .i64 (31 : Int)]) wx_8)
 (∃ wx_9, Sv ae (some ⟨k2, 0, none⟩) (.agg #[.int .i64 (1 : Int), .string (mkS s42), .int .u8 (0 : Int), .int .u8 (0 : Int), .int .u8 (0 : Int), .int .u8 (0 : Int), .int .u8 (0 : Int), .int .u8 (0 : Int), .int .u8 (0 : Int), .int .u8 (0 : Int), .int .u8 (0 : Int), .int .u8 (0 : Int), .int .u8 (0 : Int), .int .u8 (0 : Int), .int .u8 (0 : Int), .int .u8 (0 : Int), .int .u8 (0 : Int), .int .u8 (0 : Int)]) wl wx_9 /\
 ∃ vr0_7, (bm ae (.pointer (some ⟨k2, 0, none⟩))).run prog wx_9 = .ok vr0_7 wx_9 /\
 K (.tuple #[vr0_7, .int .i64 (0 : Int)]) wx_9)))))
theorem mi (s0 : List UInt8) {w : World} {K : Value -> World -> Prop} (h : iM s0 w K) : Calls prog fI #[.string (mkS s0)] w (Ret K) :=
 au (c := ay Tryz.f61) (by kernel_rfl) Tryz.func61 (by kernel_rfl) [(2, []), (3, [(19, .one (.bool))]), (54, [(64, .one (.int .i64))])] [.string (mkS s0)] (of_decide_eq_true (by kernel_rfl)) _ (by kernel_rfl) h

--  cracknel/host.Parse
def iI (v0 : Value) (w : World) (K : Value -> World -> Prop) : Prop :=
 ∀ k1 w1, k1 = w.heap.size -> w1 = w.alloc (.cells (Value.cells v0) ai) ->
 ((0 <= (12 : Int) /\ (12 : Int) < ((16 : Nat) : Int)) /\ true = true) /\
 ∃ n4, (∀ u4, Below w1.heap.size w1 u4 -> Ld aF (ao (some ⟨k1, 0, none⟩) (12 : Int) 1) u4 (.int .u8 n4)) /\
 ∃ s6, (∀ u6, Below w1.heap.size w1 u6 -> Calls prog aM #[.int .i64 (i64.wrap n4)] u6 fun e6 w6 => e6 = .returned (.string (mkS s6)) /\ Below w1.heap.size u6 w6) /\
 ((((List.length s6 + List.length [46] : Nat) : Int) <= i64.max)) /\
 ∀ s7, s7 = (s6 ++ [46]) ->
 ((0 <= (13 : Int) /\ (13 : Int) < ((16 : Nat) : Int)) /\ true = true) /\
 ∃ n9, (∀ u9, Below w1.heap.size w1 u9 -> Ld aF (ao (some ⟨k1, 0, none⟩) (13 : Int) 1) u9 (.int .u8 n9)) /\
 ∃ s11, (∀ u11, Below w1.heap.size w1 u11 -> Calls prog aM #[.int .i64 (i64.wrap n9)] u11 fun e11 w11 => e11 = .returned (.string (mkS s11)) /\ Below w1.heap.size u11 w11) /\
 ((((List.length s7 + List.length s11 : Nat) : Int) <= i64.max)) /\
 ∀ s12, s12 = (s7 ++ s11) ->
 ((((List.length s12 + List.length [46] : Nat) : Int) <= i64.max)) /\
 ∀ s13, s13 = (s12 ++ [46]) ->
 ((0 <= (14 : Int) /\ (14 : Int) < ((16 : Nat) : Int)) /\ true = true) /\
 ∃ n15, (∀ u15, Below w1.heap.size w1 u15 -> Ld aF (ao (some ⟨k1, 0, none⟩) (14 : Int) 1) u15 (.int .u8 n15)) /\
 ∃ s17, (∀ u17, Below w1.heap.size w1 u17 -> Calls prog aM #[.int .i64 (i64.wrap n15)] u17 fun e17 w17 => e17 = .returned (.string (mkS s17)) /\ Below w1.heap.size u17 w17) /\
 ((((List.length s13 + List.length s17 : Nat) : Int) <= i64.max)) /\
 ∀ s18, s18 = (s13 ++ s17) ->
 ((((List.length s18 + List.length [46] : Nat) : Int) <= i64.max)) /\
 ∀ s19, s19 = (s18 ++ [46]) ->
 ((0 <= (15 : Int) /\ (15 : Int) < ((16 : Nat) : Int)) /\ true = true) /\
 ∃ n21, (∀ u21, Below w1.heap.size w1 u21 -> Ld aF (ao (some ⟨k1, 0, none⟩) (15 : Int) 1) u21 (.int .u8 n21)) /\
 ∃ s23, (∀ u23, Below w1.heap.size w1 u23 -> Calls prog aM #[.int .i64 (i64.wrap n21)] u23 fun e23 w23 => e23 = .returned (.string (mkS s23)) /\ Below w1.heap.size u23 w23) /\
 ((((List.length s19 + List.length s23 : Nat) : Int) <= i64.max)) /\
 ∀ s24, s24 = (s19 ++ s23) ->
 ∀ wq, Below w1.heap.size w1 wq ->
 K (.string (mkS s24)) wq
theorem me (v0 : Value) {w : World} {K : Value -> World -> Prop} (h : iI v0 w K) : Calls prog fE #[v0] w (Ret K) :=
 au (c := ay Tryz.f92) (by kernel_rfl) Tryz.func92 (by kernel_rfl) [] [v0] (of_decide_eq_true (by kernel_rfl)) _ (by kernel_rfl) h

--  cracknel/cracknelref02.Text6
def iJ (v0 : Value) (w : World) (K : Value -> World -> Prop) : Prop :=
 ∀ k1 w1, k1 = w.heap.size -> w1 = w.alloc (.cells (Value.cells v0) ai) ->
 ∃ I : Nat -> FP [.one (.int .i64)],
 (∃ m, I m (8 : Int) w1) /\
 ∀ m n3, aE 40 (∀ wl, I m n3 wl ->
 af (decide (n3 >= (2 : Int)))
 (∃ I_1 : Nat -> FP [.one (.int .i64)],
 (∃ m_1, I_1 m_1 (0 : Int) wl) /\
 ∀ m_1 n4, aE 35 (∀ wl_1, I_1 m_1 n4 wl_1 ->
 af (decide ((i64.wrap (n4 + n3)) <= (8 : Int)))
 (∃ I_2 : Nat -> FP [.one (.bool), .one (.int .i64)],
 (∃ m_2, I_2 m_2 true n4 wl_1) /\
 ∀ m_2 b5 n6, aE 14 (∀ wl_2, I_2 m_2 b5 n6 wl_2 ->
 af (decide (n6 < (i64.wrap (n4 + n3))))
 (af b5
 (∃ v27, Ld ai (some ⟨k1, 0, none⟩) wl_2 v27 /\
 Calls prog dq #[v27, .int .i64 n6] wl_2 fun e29 w29 => ∃ n29, e29 = .returned (.int .i64 n29) /\
 ∃ m'_2 : Nat, m'_2 < m_2 /\ I_2 m'_2 (n29 == (0 : Int)) (i64.wrap (n6 + (1 : Int))) w29)
 (∃ m'_2 : Nat, m'_2 < m_2 /\ I_2 m'_2 false (i64.wrap (n6 + (1 : Int))) wl_2))
 (af b5
 (∃ v33, (∀ u33, Below wl_2.heap.size wl_2 u33 -> Ld ai (some ⟨k1, 0, none⟩) u33 v33) /\
 ∃ s35, (∀ u35, Below wl_2.heap.size wl_2 u35 -> Calls prog bJ #[v33, .int .i64 (0 : Int), .int .i64 n4] u35 fun e35 w35 => e35 = .returned (.string (mkS s35)) /\ Below wl_2.heap.size u35 w35) /\
 ((((List.length s35 + List.length [58, 58] : Nat) : Int) <= i64.max)) /\
 ∀ s36, s36 = (s35 ++ [58, 58]) ->
 ∃ v37, (∀ u37, Below wl_2.heap.size wl_2 u37 -> Ld ai (some ⟨k1, 0, none⟩) u37 v37) /\
 ∃ s41, (∀ u41, Below wl_2.heap.size wl_2 u41 -> Calls prog bJ #[v37, .int .i64 (i64.wrap (n4 + n3)), .int .i64 (8 : Int)] u41 fun e41 w41 => e41 = .returned (.string (mkS s41)) /\ Below wl_2.heap.size u41 w41) /\
 ((((List.length s36 + List.length s41 : Nat) : Int) <= i64.max)) /\
 ∀ s42, s42 = (s36 ++ s41) ->
 ∀ wq, Below wl_2.heap.size wl_2 wq ->
 K (.string (mkS s42)) wq)
 (∃ m'_1 : Nat, m'_1 < m_1 /\ I_1 m'_1 (i64.wrap (n4 + (1 : Int))) wl_2))))
 (∃ m' : Nat, m' < m /\ I m' (i64.wrap (n3 - (1 : Int))) wl_1)))
 (∃ v43, Ld ai (some ⟨k1, 0, none⟩) wl v43 /\
 Calls prog bJ #[v43, .int .i64 (0 : Int), .int .i64 (8 : Int)] wl fun e44 w44 => ∃ s44, e44 = .returned (.string (mkS s44)) /\
 K (.string (mkS s44)) w44))
theorem mf (v0 : Value) {w : World} {K : Value -> World -> Prop} (h : iJ v0 w K) : Calls prog fF #[v0] w (Ret K) :=
 au (c := ay Tryz.f93) (by kernel_rfl) Tryz.func93 (by kernel_rfl) [(6, [(3, .one (.int .i64))]), (18, [(4, .one (.int .i64))]), (33, [(5, .one (.bool)), (6, .one (.int .i64))])] [v0] (of_decide_eq_true (by kernel_rfl)) _ (by kernel_rfl) h

--  cracknel/cracknelref02.V6
def mA (s0 : List UInt8) (w : World) (K : Value -> World -> Prop) : Prop :=
 ∀ k2 w2, k2 = w.heap.size -> w2 = w.alloc (.cells aG ai) ->
 Calls prog dt #[.string (mkS s0)] w2 fun e15 w15 => ∃ v15_0 b15_1, e15 = .returned (.tuple #[v15_0, .bool b15_1]) /\
 ∀ k4 w4, k4 = w15.heap.size -> w4 = w15.alloc (.cells aG ai) ->
 ∃ wx, Sv ai (some ⟨k4, 0, none⟩) v15_0 w4 wx /\
 af b15_1
 (∃ v19, Ld ai (some ⟨k4, 0, none⟩) wx v19 /\
 ∃ wx_1, Sv ai (some ⟨k2, 0, none⟩) v19 wx wx_1 /\
 ∃ vr0, (bm ai (.pointer (some ⟨k2, 0, none⟩))).run prog wx_1 = .ok vr0 wx_1 /\
 K (.tuple #[vr0, .bool true]) wx_1)
 (∃ I : Nat -> FP [.one (.int .i64)],
 (∃ m, I m (0 : Int) wx) /\
 ∀ m n6, aE 57 (∀ wl, I m n6 wl ->
 af (decide ((i64.wrap (n6 + (2 : Int))) <= ((List.length s0 : Nat) : Int)))
 (∃ J : FP [],
 (((0 <= n6 /\ n6 < ((List.length s0 : Nat) : Int))) /\
 af ((aP s0 n6) != (58 : Int))
 (∃ m' : Nat, m' < m /\ I m' (i64.wrap (n6 + (1 : Int))) wl)
 (((0 <= (i64.wrap (n6 + (1 : Int))) /\ (i64.wrap (n6 + (1 : Int))) < ((List.length s0 : Nat) : Int))) /\
 af ((aP s0 (i64.wrap (n6 + (1 : Int)))) != (58 : Int))
 (∃ m' : Nat, m' < m /\ I m' (i64.wrap (n6 + (1 : Int))) wl)
 (J wl))) /\
 aE 11 (∀ wj, J wj ->
 ((0 <= n6 /\ n6 <= (((List.length s0) : Nat) : Int))) /\
 ∀ s40, s40 = (List.take (Int.toNat n6) s0) ->
 ((0 <= (i64.wrap (n6 + (2 : Int))) /\ (i64.wrap (n6 + (2 : Int))) <= (((List.length s0) : Nat) : Int))) /\
 ∀ s44, s44 = (List.drop (Int.toNat (i64.wrap (n6 + (2 : Int)))) s0) ->
 ∃ J_1 : FP [.one (.str)],
 (af (!(s40 == []))
 (((((List.length s40 + List.length [58] : Nat) : Int) <= i64.max)) /\
 ∀ s48, s48 = (s40 ++ [58]) ->
 J_1 s48 wj)
 (J_1 s40 wj)) /\
 ∀ s7, aE 4 (∀ wj_1, J_1 s7 wj_1 ->
 ∃ J_2 : FP [.one (.str)],
 (af (!(s44 == []))
 (((((List.length [58] + List.length s44 : Nat) : Int) <= i64.max)) /\
 ∀ s52, s52 = ([58] ++ s44) ->
 J_2 s52 wj_1)
 (J_2 s44 wj_1)) /\
 ∀ s8, aE 4 (∀ wj_2, J_2 s8 wj_2 ->
 ∃ I_1 : Nat -> FP [.one (.str), .one (.int .i64)],
 (∃ m_1, I_1 m_1 [48] (0 : Int) wj_2) /\
 ∀ m_1 s9 n10, aE 20 (∀ wl_1, I_1 m_1 s9 n10 wl_1 ->
 af (decide (n10 < (8 : Int)))
 (((((List.length s7 + List.length s9 : Nat) : Int) <= i64.max)) /\
 ∀ s60, s60 = (s7 ++ s9) ->
 ((((List.length s60 + List.length s8 : Nat) : Int) <= i64.max)) /\
 ∀ s62, s62 = (s60 ++ s8) ->
 Calls prog dt #[.string (mkS s62)] wl_1 fun e63 w63 => ∃ v63_0 b63_1, e63 = .returned (.tuple #[v63_0, .bool b63_1]) /\
 ∀ k11 w11, k11 = w63.heap.size -> w11 = w63.alloc (.cells aG ai) ->
 ∃ wx_2, Sv ai (some ⟨k11, 0, none⟩) v63_0 w11 wx_2 /\
 af b63_1
 (∃ v67, Ld ai (some ⟨k11, 0, none⟩) wx_2 v67 /\
 ∃ wx_3, Sv ai (some ⟨k2, 0, none⟩) v67 wx_2 wx_3 /\
 ∃ vr0_1, (bm ai (.pointer (some ⟨k2, 0, none⟩))).run prog wx_3 = .ok vr0_1 wx_3 /\
 K (.tuple #[vr0_1, .bool true]) wx_3)
 (((((List.length s9 + List.length [58, 48] : Nat) : Int) <= i64.max)) /\
 ∀ s69, s69 = (s9 ++ [58, 48]) ->
 ∃ m'_1 : Nat, m'_1 < m_1 /\ I_1 m'_1 s69 (i64.wrap (n10 + (1 : Int))) wx_2))
 (∃ m' : Nat, m' < m /\ I m' (i64.wrap (n6 + (1 : Int))) wl_1))))))
 (∃ wx_4, Sv ai (some ⟨k2, 0, none⟩) (.agg aG) wl wx_4 /\
 ∃ vr0_2, (bm ai (.pointer (some ⟨k2, 0, none⟩))).run prog wx_4 = .ok vr0_2 wx_4 /\
 K (.tuple #[vr0_2, .bool false]) wx_4)))
theorem qr (s0 : List UInt8) {w : World} {K : Value -> World -> Prop} (h : mA s0 w K) : Calls prog jY #[.string (mkS s0)] w (Ret K) :=
 au (c := ay Tryz.f109) (by kernel_rfl) Tryz.func109 (by kernel_rfl) [(16, [(6, .one (.int .i64))]), (25, []), (35, [(7, .one (.str))]), (41, [(8, .one (.str))]), (52, [(9, .one (.str)), (10, .one (.int .i64))])] [.string (mkS s0)] (of_decide_eq_true (by kernel_rfl)) _ (by kernel_rfl) h

--  cracknel/cracknelref02.V4
def mz (s0 : List UInt8) (w : World) (K : Value -> World -> Prop) : Prop :=
 ∀ k2 w2, k2 = w.heap.size -> w2 = w.alloc (.cells aG ai) ->
 ∀ k4 w4, k4 = w2.heap.size -> w4 = w2.alloc (.cells aG ai) ->
 ∃ wx, Sv ai (some ⟨k4, 0, none⟩) (.agg aG) w4 wx /\
 Calls prog bQ #[.string (mkS s0), .int .u8 (46 : Int)] wx fun e11 w11 => ∃ a11 l11 c11, e11 = .returned (.slice a11 l11 c11) /\
 af (((l11 : Nat) : Int) != (4 : Int))
 (∃ wx_1, Sv ai (some ⟨k2, 0, none⟩) (.agg aG) w11 wx_1 /\
 ∃ vr0, (bm ai (.pointer (some ⟨k2, 0, none⟩))).run prog wx_1 = .ok vr0 wx_1 /\
 K (.tuple #[vr0, .bool false]) wx_1)
 (∃ I : Nat -> FP [.one (.int .i64)],
 (∃ m, I m (0 : Int) w11) /\
 ∀ m n6, aE 27 (∀ wl, I m n6 wl ->
 af (decide (n6 < (4 : Int)))
 (((0 <= n6 /\ n6 < ((l11 : Nat) : Int)) /\ Option.isSome a11 = true) /\
 ∃ s24, Ld ar (ao a11 n6 1) wl (.string (mkS s24)) /\
 Calls prog eu #[.string (mkS s24)] wl fun e25 w25 => ∃ n25_0 b25_1, e25 = .returned (.tuple #[.int .i64 n25_0, .bool b25_1]) /\
 ∃ J : FP [],
 (∃ J_1 : FP [.one (.bool)],
 (af (!b25_1)
 (J_1 true w25)
 (J_1 (decide (n25_0 > (255 : Int))) w25)) /\
 ∀ b33, aE 5 (∀ wj, J_1 b33 wj ->
 af b33
 (∃ wx_2, Sv ai (some ⟨k2, 0, none⟩) (.agg aG) wj wx_2 /\
 ∃ vr0_1, (bm ai (.pointer (some ⟨k2, 0, none⟩))).run prog wx_2 = .ok vr0_1 wx_2 /\
 K (.tuple #[vr0_1, .bool false]) wx_2)
 (J wj))) /\
 aE 8 (∀ wj_1, J wj_1 ->
 ((0 <= (i64.wrap ((12 : Int) + n6)) /\ (i64.wrap ((12 : Int) + n6)) < ((16 : Nat) : Int)) /\ true = true) /\
 ∃ wx_3, Sv aF (ao (some ⟨k4, 0, none⟩) (i64.wrap ((12 : Int) + n6)) 1) (.int .u8 (IntKind.u8.wrap n25_0)) wj_1 wx_3 /\
 ∃ m' : Nat, m' < m /\ I m' (i64.wrap (n6 + (1 : Int))) wx_3))
 (∃ v40, Ld ai (some ⟨k4, 0, none⟩) wl v40 /\
 ∃ wx_4, Sv ai (some ⟨k2, 0, none⟩) v40 wl wx_4 /\
 ∃ vr0_2, (bm ai (.pointer (some ⟨k2, 0, none⟩))).run prog wx_4 = .ok vr0_2 wx_4 /\
 K (.tuple #[vr0_2, .bool true]) wx_4)))
theorem qp (s0 : List UInt8) {w : World} {K : Value -> World -> Prop} (h : mz s0 w K) : Calls prog jX #[.string (mkS s0)] w (Ret K) :=
 au (c := ay Tryz.f112) (by kernel_rfl) Tryz.func112 (by kernel_rfl) [(18, [(6, .one (.int .i64))]), (29, []), (30, [(33, .one (.bool))])] [.string (mkS s0)] (of_decide_eq_true (by kernel_rfl)) _ (by kernel_rfl) h

--  cracknel/cracknelref03.label
def iP (s0 : List UInt8) (w : World) (K : Value -> World -> Prop) : Prop :=
 ∃ I : Nat -> FP [.one (.int .i64)],
 (∃ m, I m (0 : Int) w) /\
 ∀ m n3, aE 33 (∀ wl, I m n3 wl ->
 af (decide (n3 < ((List.length s0 : Nat) : Int)))
 (((0 <= n3 /\ n3 < ((List.length s0 : Nat) : Int))) /\
 af (decide ((aP s0 n3) < (97 : Int)))
 (af (decide ((aP s0 n3) < (48 : Int)))
 (af ((aP s0 n3) != (45 : Int))
 (af ((aP s0 n3) != (95 : Int))
 (K (.bool false) wl)
 (∃ m' : Nat, m' < m /\ I m' (i64.wrap (n3 + (1 : Int))) wl))
 (∃ m' : Nat, m' < m /\ I m' (i64.wrap (n3 + (1 : Int))) wl))
 (af (decide ((aP s0 n3) > (57 : Int)))
 (af ((aP s0 n3) != (45 : Int))
 (af ((aP s0 n3) != (95 : Int))
 (K (.bool false) wl)
 (∃ m' : Nat, m' < m /\ I m' (i64.wrap (n3 + (1 : Int))) wl))
 (∃ m' : Nat, m' < m /\ I m' (i64.wrap (n3 + (1 : Int))) wl))
 (∃ m' : Nat, m' < m /\ I m' (i64.wrap (n3 + (1 : Int))) wl)))
 (af (decide ((aP s0 n3) > (122 : Int)))
 (af (decide ((aP s0 n3) < (48 : Int)))
 (af ((aP s0 n3) != (45 : Int))
 (af ((aP s0 n3) != (95 : Int))
 (K (.bool false) wl)
 (∃ m' : Nat, m' < m /\ I m' (i64.wrap (n3 + (1 : Int))) wl))
 (∃ m' : Nat, m' < m /\ I m' (i64.wrap (n3 + (1 : Int))) wl))
 (af (decide ((aP s0 n3) > (57 : Int)))
 (af ((aP s0 n3) != (45 : Int))
 (af ((aP s0 n3) != (95 : Int))
 (K (.bool false) wl)
 (∃ m' : Nat, m' < m /\ I m' (i64.wrap (n3 + (1 : Int))) wl))
 (∃ m' : Nat, m' < m /\ I m' (i64.wrap (n3 + (1 : Int))) wl))
 (∃ m' : Nat, m' < m /\ I m' (i64.wrap (n3 + (1 : Int))) wl)))
 (∃ m' : Nat, m' < m /\ I m' (i64.wrap (n3 + (1 : Int))) wl)))
 (af (decide (((List.length s0 : Nat) : Int) >= (1 : Int)))
 (K (.bool (decide (((List.length s0 : Nat) : Int) <= (63 : Int)))) wl)
 (K (.bool false) wl)))
theorem mn (s0 : List UInt8) {w : World} {K : Value -> World -> Prop} (h : iP s0 w K) : Calls prog fJ #[.string (mkS s0)] w (Ret K) :=
 au (c := ay Tryz.f113) (by kernel_rfl) Tryz.func113 (by kernel_rfl) [(6, [(3, .one (.int .i64))])] [.string (mkS s0)] (of_decide_eq_true (by kernel_rfl)) _ (by kernel_rfl) h

--  cracknel/addr.V6
def gg (n0 : Int) (w : World) (K : Value -> World -> Prop) : Prop :=
 af (decide (n0 < (10 : Int)))
 (∀ k8 w8, k8 = w.heap.size -> w8 = w.alloc (.cells #[.int .u8 (IntKind.u8.wrap (i64.wrap ((48 : Int) + n0)))] aF) ->
 ∃ s9, (convert aV ar (.slice (some ⟨k8, 0, none⟩) 1 1)).run prog w8 = .ok (.string (mkS s9)) w8 /\
 K (.string (mkS s9)) w8)
 (((10 : Int) ≠ 0) /\
 ∀ q11, q11 = (i64.wrap (Int.tdiv n0 (10 : Int))) ->
 ((10 : Int) ≠ 0) /\
 ∀ q14, q14 = (Int.tmod n0 (10 : Int)) ->
 (Calls prog aM #[.int .i64 q11] (World.drew w) fun e12 w12 => ∃ s12, e12 = .returned (.string (mkS s12)) /\
 ∀ k17 w17, k17 = w12.heap.size -> w17 = w12.alloc (.cells #[.int .u8 (IntKind.u8.wrap (i64.wrap ((48 : Int) + q14)))] aF) ->
 ∃ s18, (convert aV ar (.slice (some ⟨k17, 0, none⟩) 1 1)).run prog w17 = .ok (.string (mkS s18)) w17 /\
 ((((List.length s12 + List.length s18 : Nat) : Int) <= i64.max)) /\
 ∀ s19, s19 = (s12 ++ s18) ->
 K (.string (mkS s19)) w17) /\
 ∀ k17_1 w17_1, k17_1 = (World.drew w).heap.size -> w17_1 = (World.drew w).alloc (.cells #[.int .u8 (IntKind.u8.wrap (i64.wrap ((48 : Int) + q14)))] aF) ->
 (Calls prog aM #[.int .i64 q11] w17_1 fun e12_1 w12_1 => ∃ s12_1, e12_1 = .returned (.string (mkS s12_1)) /\
 ∃ s18_1, (convert aV ar (.slice (some ⟨k17_1, 0, none⟩) 1 1)).run prog w12_1 = .ok (.string (mkS s18_1)) w12_1 /\
 ((((List.length s12_1 + List.length s18_1 : Nat) : Int) <= i64.max)) /\
 ∀ s19_1, s19_1 = (s12_1 ++ s18_1) ->
 K (.string (mkS s19_1)) w12_1) /\
 ∃ s18_2, (convert aV ar (.slice (some ⟨k17_1, 0, none⟩) 1 1)).run prog w17_1 = .ok (.string (mkS s18_2)) w17_1 /\
 Calls prog aM #[.int .i64 q11] w17_1 fun e12_2 w12_2 => ∃ s12_2, e12_2 = .returned (.string (mkS s12_2)) /\
 ((((List.length s12_2 + List.length s18_2 : Nat) : Int) <= i64.max)) /\
 ∀ s19_2, s19_2 = (s12_2 ++ s18_2) ->
 K (.string (mkS s19_2)) w12_2)
theorem j7 (n0 : Int) {w : World} {K : Value -> World -> Prop} (h : gg n0 w K) : Calls prog aM #[.int .i64 n0] w (Ret K) :=
 au (c := ay Tryz.f145) (by kernel_rfl) Tryz.func145 (by kernel_rfl) [] [.int .i64 n0] (of_decide_eq_true (by kernel_rfl)) _ (by kernel_rfl) h

--  cracknel/cracknelref02.Group
def iH (v0 : Value) (n1 : Int) (w : World) (K : Value -> World -> Prop) : Prop :=
 ∀ k2 w2, k2 = w.heap.size -> w2 = w.alloc (.cells (Value.cells v0) ai) ->
 ((0 <= (i64.wrap ((2 : Int) * n1)) /\ (i64.wrap ((2 : Int) * n1)) < ((16 : Nat) : Int)) /\ true = true) /\
 ∃ n8, (∀ u8, Below w2.heap.size w2 u8 -> Ld aF (ao (some ⟨k2, 0, none⟩) (i64.wrap ((2 : Int) * n1)) 1) u8 (.int .u8 n8)) /\
 ((0 <= (i64.wrap ((i64.wrap ((2 : Int) * n1)) + (1 : Int))) /\ (i64.wrap ((i64.wrap ((2 : Int) * n1)) + (1 : Int))) < ((16 : Nat) : Int)) /\ true = true) /\
 ∃ n15, (∀ u15, Below w2.heap.size w2 u15 -> Ld aF (ao (some ⟨k2, 0, none⟩) (i64.wrap ((i64.wrap ((2 : Int) * n1)) + (1 : Int))) 1) u15 (.int .u8 n15)) /\
 ∀ wq, Below w2.heap.size w2 wq ->
 K (.int .i64 (i64.wrap ((i64.wrap ((i64.wrap n8) * (256 : Int))) + (i64.wrap n15)))) wq
theorem mc (v0 : Value) (n1 : Int) {w : World} {K : Value -> World -> Prop} (h : iH v0 n1 w K) : Calls prog dq #[v0, .int .i64 n1] w (Ret K) :=
 au (c := ay Tryz.f146) (by kernel_rfl) Tryz.func146 (by kernel_rfl) [] [v0, .int .i64 n1] (of_decide_eq_true (by kernel_rfl)) _ (by kernel_rfl) h

--  cracknel/cracknelref02.part
def jC (v0 : Value) (n1 : Int) (n2 : Int) (w : World) (K : Value -> World -> Prop) : Prop :=
 ∀ k3 w3, k3 = w.heap.size -> w3 = w.alloc (.cells (Value.cells v0) ai) ->
 ∃ I : Nat -> FP [.one (.str), .one (.int .i64)],
 (∃ m, I m [] n1 w3) /\
 ∀ m s7 n8, aE 16 (∀ wl, I m s7 n8 wl ->
 af (decide (n8 < n2))
 (∃ J : FP [.one (.str)],
 (af (decide (n8 > n1))
 (((((List.length s7 + List.length [58] : Nat) : Int) <= i64.max)) /\
 ∀ s19, s19 = (s7 ++ [58]) ->
 J s19 wl)
 (J s7 wl)) /\
 ∀ s7_1, aE 5 (∀ wj, J s7_1 wj ->
 ∃ v21, Ld ai (some ⟨k3, 0, none⟩) wj v21 /\
 Calls prog dq #[v21, .int .i64 n8] wj fun e23 w23 => ∃ n23, e23 = .returned (.int .i64 n23) /\
 Calls prog fH #[.int .i64 n23] w23 fun e24 w24 => ∃ s24, e24 = .returned (.string (mkS s24)) /\
 ((((List.length s7_1 + List.length s24 : Nat) : Int) <= i64.max)) /\
 ∀ s25, s25 = (s7_1 ++ s24) ->
 ∃ m' : Nat, m' < m /\ I m' s25 (i64.wrap (n8 + (1 : Int))) w24))
 (K (.string (mkS s7)) wl))
theorem nq (v0 : Value) (n1 : Int) (n2 : Int) {w : World} {K : Value -> World -> Prop} (h : jC v0 n1 n2 w K) : Calls prog bJ #[v0, .int .i64 n1, .int .i64 n2] w (Ret K) :=
 au (c := ay Tryz.f147) (by kernel_rfl) Tryz.func147 (by kernel_rfl) [(8, [(7, .one (.str)), (8, .one (.int .i64))]), (17, [(7, .one (.str))])] [v0, .int .i64 n1, .int .i64 n2] (of_decide_eq_true (by kernel_rfl)) _ (by kernel_rfl) h

--  cracknel/cracknelref02.eight
def iL (s0 : List UInt8) (w : World) (K : Value -> World -> Prop) : Prop :=
 ∀ k2 w2, k2 = w.heap.size -> w2 = w.alloc (.cells aG ai) ->
 ∀ k4 w4, k4 = w2.heap.size -> w4 = w2.alloc (.cells aG ai) ->
 ∃ wx, Sv ai (some ⟨k4, 0, none⟩) (.agg aG) w4 wx /\
 Calls prog bQ #[.string (mkS s0), .int .u8 (58 : Int)] wx fun e12 w12 => ∃ a12 l12 c12, e12 = .returned (.slice a12 l12 c12) /\
 af (((l12 : Nat) : Int) != (8 : Int))
 (∃ wx_1, Sv ai (some ⟨k2, 0, none⟩) (.agg aG) w12 wx_1 /\
 ∃ vr0, (bm ai (.pointer (some ⟨k2, 0, none⟩))).run prog wx_1 = .ok vr0 wx_1 /\
 K (.tuple #[vr0, .bool false]) wx_1)
 (∃ I : Nat -> FP [.one (.int .i64)],
 (∃ m, I m (0 : Int) w12) /\
 ∀ m n6, aE 59 (∀ wl, I m n6 wl ->
 af (decide (n6 < (8 : Int)))
 (∃ J : FP [],
 (∃ J_1 : FP [.one (.bool)],
 (((0 <= n6 /\ n6 < ((l12 : Nat) : Int)) /\ Option.isSome a12 = true) /\
 ∃ s24, Ld ar (ao a12 n6 1) wl (.string (mkS s24)) /\
 af (decide (((List.length s24 : Nat) : Int) < (1 : Int)))
 (J_1 true wl)
 (((0 <= n6 /\ n6 < ((l12 : Nat) : Int)) /\ Option.isSome a12 = true) /\
 ∃ s31, Ld ar (ao a12 n6 1) wl (.string (mkS s31)) /\
 J_1 (decide (((List.length s31 : Nat) : Int) > (4 : Int))) wl)) /\
 ∀ b34, aE 13 (∀ wj, J_1 b34 wj ->
 af b34
 (∃ wx_2, Sv ai (some ⟨k2, 0, none⟩) (.agg aG) wj wx_2 /\
 ∃ vr0_1, (bm ai (.pointer (some ⟨k2, 0, none⟩))).run prog wx_2 = .ok vr0_1 wx_2 /\
 K (.tuple #[vr0_1, .bool false]) wx_2)
 (J wj))) /\
 aE 16 (∀ wj_1, J wj_1 ->
 ∃ I_1 : Nat -> FP [.one (.int .i64), .one (.int .i64)],
 (∃ m_1, I_1 m_1 (0 : Int) (0 : Int) wj_1) /\
 ∀ m_1 n7 n8, aE 25 (∀ wl_1, I_1 m_1 n7 n8 wl_1 ->
 ((0 <= n6 /\ n6 < ((l12 : Nat) : Int)) /\ Option.isSome a12 = true) /\
 ∃ s40, Ld ar (ao a12 n6 1) wl_1 (.string (mkS s40)) /\
 af (decide (n8 < ((List.length s40 : Nat) : Int)))
 (((0 <= n6 /\ n6 < ((l12 : Nat) : Int)) /\ Option.isSome a12 = true) /\
 ∃ s48, Ld ar (ao a12 n6 1) wl_1 (.string (mkS s48)) /\
 ((0 <= n8 /\ n8 < ((List.length s48 : Nat) : Int))) /\
 Calls prog fG #[.int .u8 (aP s48 n8)] wl_1 fun e51 w51 => ∃ n51, e51 = .returned (.int .i64 n51) /\
 af (decide (n51 < (0 : Int)))
 (∃ wx_3, Sv ai (some ⟨k2, 0, none⟩) (.agg aG) w51 wx_3 /\
 ∃ vr0_2, (bm ai (.pointer (some ⟨k2, 0, none⟩))).run prog wx_3 = .ok vr0_2 wx_3 /\
 K (.tuple #[vr0_2, .bool false]) wx_3)
 (∃ m'_1 : Nat, m'_1 < m_1 /\ I_1 m'_1 (i64.wrap ((i64.wrap (n7 * (16 : Int))) + n51)) (i64.wrap (n8 + (1 : Int))) w51))
 (((256 : Int) ≠ 0) /\
 ∀ q62, q62 = (i64.wrap (Int.tdiv n7 (256 : Int))) ->
 ((0 <= (i64.wrap ((2 : Int) * n6)) /\ (i64.wrap ((2 : Int) * n6)) < ((16 : Nat) : Int)) /\ true = true) /\
 ∃ wx_4, Sv aF (ao (some ⟨k4, 0, none⟩) (i64.wrap ((2 : Int) * n6)) 1) (.int .u8 (IntKind.u8.wrap q62)) wl_1 wx_4 /\
 ((256 : Int) ≠ 0) /\
 ∀ q69, q69 = (Int.tmod n7 (256 : Int)) ->
 ((0 <= (i64.wrap ((i64.wrap ((2 : Int) * n6)) + (1 : Int))) /\ (i64.wrap ((i64.wrap ((2 : Int) * n6)) + (1 : Int))) < ((16 : Nat) : Int)) /\ true = true) /\
 ∃ wx_5, Sv aF (ao (some ⟨k4, 0, none⟩) (i64.wrap ((i64.wrap ((2 : Int) * n6)) + (1 : Int))) 1) (.int .u8 (IntKind.u8.wrap q69)) wx_4 wx_5 /\
 ∃ m' : Nat, m' < m /\ I m' (i64.wrap (n6 + (1 : Int))) wx_5))))
 (∃ v72, Ld ai (some ⟨k4, 0, none⟩) wl v72 /\
 ∃ wx_6, Sv ai (some ⟨k2, 0, none⟩) v72 wl wx_6 /\
 ∃ vr0_3, (bm ai (.pointer (some ⟨k2, 0, none⟩))).run prog wx_6 = .ok vr0_3 wx_6 /\
 K (.tuple #[vr0_3, .bool true]) wx_6)))
theorem mh (s0 : List UInt8) {w : World} {K : Value -> World -> Prop} (h : iL s0 w K) : Calls prog dt #[.string (mkS s0)] w (Ret K) :=
 au (c := ay Tryz.f167) (by kernel_rfl) Tryz.func167 (by kernel_rfl) [(18, [(6, .one (.int .i64))]), (29, []), (30, [(34, .one (.bool))]), (41, [(7, .one (.int .i64)), (8, .one (.int .i64))])] [.string (mkS s0)] (of_decide_eq_true (by kernel_rfl)) _ (by kernel_rfl) h

--  cracknel/addr.row
def kE (n0 : Int) (w : World) (K : Value -> World -> Prop) : Prop :=
 af (decide (n0 < (16 : Int)))
 ((((0 <= (i64.wrap (n0 + (1 : Int))) /\ (i64.wrap (n0 + (1 : Int))) <= (((List.length [48, 49, 50, 51, 52, 53, 54, 55, 56, 57, 97, 98, 99, 100, 101, 102]) : Nat) : Int)) /\ 0 <= n0 /\ n0 <= ((Int.toNat (i64.wrap (n0 + (1 : Int))) : Nat) : Int))) /\
 ∀ s8, s8 = (List.drop (Int.toNat n0) (List.take (Int.toNat (i64.wrap (n0 + (1 : Int)))) [48, 49, 50, 51, 52, 53, 54, 55, 56, 57, 97, 98, 99, 100, 101, 102])) ->
 K (.string (mkS s8)) w)
 (((16 : Int) ≠ 0) /\
 ∀ q10, q10 = (i64.wrap (Int.tdiv n0 (16 : Int))) ->
 ∃ s11, (∀ u11, Below w.heap.size w u11 -> Calls prog fH #[.int .i64 q10] u11 fun e11 w11 => e11 = .returned (.string (mkS s11)) /\ Below w.heap.size u11 w11) /\
 ((16 : Int) ≠ 0) /\
 ∀ q13, q13 = (Int.tmod n0 (16 : Int)) ->
 ((16 : Int) ≠ 0) /\
 ∀ q15, q15 = (Int.tmod n0 (16 : Int)) ->
 (((0 <= (i64.wrap (q15 + (1 : Int))) /\ (i64.wrap (q15 + (1 : Int))) <= (((List.length [48, 49, 50, 51, 52, 53, 54, 55, 56, 57, 97, 98, 99, 100, 101, 102]) : Nat) : Int)) /\ 0 <= q13 /\ q13 <= ((Int.toNat (i64.wrap (q15 + (1 : Int))) : Nat) : Int))) /\
 ∀ s17, s17 = (List.drop (Int.toNat q13) (List.take (Int.toNat (i64.wrap (q15 + (1 : Int)))) [48, 49, 50, 51, 52, 53, 54, 55, 56, 57, 97, 98, 99, 100, 101, 102])) ->
 ((((List.length s11 + List.length s17 : Nat) : Int) <= i64.max)) /\
 ∀ s18, s18 = (s11 ++ s17) ->
 ∀ wq, Below w.heap.size w wq ->
 K (.string (mkS s18)) wq)
theorem oN (n0 : Int) {w : World} {K : Value -> World -> Prop} (h : kE n0 w K) : Calls prog fH #[.int .i64 n0] w (Ret K) :=
 au (c := ay Tryz.f190) (by kernel_rfl) Tryz.func190 (by kernel_rfl) [] [.int .i64 n0] (of_decide_eq_true (by kernel_rfl)) _ (by kernel_rfl) h

--  cracknel/cracknelref02.digit
def iK (n0 : Int) (w : World) (K : Value -> World -> Prop) : Prop :=
 ∃ J : FP [],
 (∃ J_1 : FP [.one (.bool)],
 (af (decide (n0 >= (48 : Int)))
 (J_1 (decide (n0 <= (57 : Int))) w)
 (J_1 false w)) /\
 ∀ b8, aE 5 (∀ wj, J_1 b8 wj ->
 af b8
 (K (.int .i64 (i64.wrap ((i64.wrap n0) - (48 : Int)))) wj)
 (J wj))) /\
 aE 10 (∀ wj_1, J wj_1 ->
 ∃ J_2 : FP [],
 (∃ J_3 : FP [.one (.bool)],
 (af (decide (n0 >= (97 : Int)))
 (J_3 (decide (n0 <= (102 : Int))) wj_1)
 (J_3 false wj_1)) /\
 ∀ b17, aE 5 (∀ wj_2, J_3 b17 wj_2 ->
 af b17
 (K (.int .i64 (i64.wrap ((i64.wrap n0) - (87 : Int)))) wj_2)
 (J_2 wj_2))) /\
 aE 10 (∀ wj_3, J_2 wj_3 ->
 ∃ J_4 : FP [.one (.bool)],
 (af (decide (n0 >= (65 : Int)))
 (J_4 (decide (n0 <= (70 : Int))) wj_3)
 (J_4 false wj_3)) /\
 ∀ b26, aE 5 (∀ wj_4, J_4 b26 wj_4 ->
 af b26
 (K (.int .i64 (i64.wrap ((i64.wrap n0) - (55 : Int)))) wj_4)
 (K (.int .i64 (-1 : Int)) wj_4))))
theorem mg (n0 : Int) {w : World} {K : Value -> World -> Prop} (h : iK n0 w K) : Calls prog fG #[.int .u8 n0] w (Ret K) :=
 au (c := ay Tryz.f211) (by kernel_rfl) Tryz.func211 (by kernel_rfl) [(2, []), (3, [(8, .one (.bool))]), (10, []), (11, [(17, .one (.bool))]), (19, [(26, .one (.bool))])] [.int .u8 n0] (of_decide_eq_true (by kernel_rfl)) _ (by kernel_rfl) h

--  cracknel/addr.group
end Go.Proofs.YtpafoodmpjlkhaaGreatDoor
namespace Go.Proofs.YtpafoodmpjlkhaaGreatDoor
open Go.Pk
open Go.RowKit (Below)
--  cracknel/octet.Digits
def iG (s0 : List UInt8) (n1 : Int) (w : World) (K : Value -> World -> Prop) : Prop :=
 ∀ k8 w8, k8 = w.heap.size -> w8 = w.alloc (.cells #[] ar) ->
 ∃ I : Nat -> FP [.one (.slice), .one (.int .i64), .one (.int .i64)],
 (∃ m, I m (some ⟨k8, 0, none⟩) 0 0 (0 : Int) (0 : Int) w8) /\
 ∀ m a5 l5 c5 n6 n7, aE 20 (∀ wl, I m a5 l5 c5 n6 n7 wl ->
 af (decide (n7 < ((List.length s0 : Nat) : Int)))
 (((0 <= n7 /\ n7 < ((List.length s0 : Nat) : Int))) /\
 af ((aP s0 n7) == n1)
 ((((0 <= n7 /\ n7 <= (((List.length s0) : Nat) : Int)) /\ 0 <= n6 /\ n6 <= ((Int.toNat n7 : Nat) : Int))) /\
 ∀ s24, s24 = (List.drop (Int.toNat n6) (List.take (Int.toNat n7) s0)) ->
 ∀ k25 w25, k25 = wl.heap.size -> w25 = wl.alloc (.cells #[.string (mkS s24)] ar) ->
 ∃ w26 a26 l26 c26, (Builtin.append_ #[aw, aw] aw #[.slice a5 l5 c5, .slice (some ⟨k25, 0, none⟩) 1 1]).run prog w25 = .ok (.slice a26 l26 c26) w26 /\
 ∃ m' : Nat, m' < m /\ I m' a26 l26 c26 (i64.wrap (n7 + (1 : Int))) (i64.wrap (n7 + (1 : Int))) w26)
 (∃ m' : Nat, m' < m /\ I m' a5 l5 c5 n6 (i64.wrap (n7 + (1 : Int))) wl))
 (((0 <= n6 /\ n6 <= (((List.length s0) : Nat) : Int))) /\
 ∀ s32, s32 = (List.drop (Int.toNat n6) s0) ->
 ∀ k33 w33, k33 = wl.heap.size -> w33 = wl.alloc (.cells #[.string (mkS s32)] ar) ->
 ∃ w34 a34 l34 c34, (Builtin.append_ #[aw, aw] aw #[.slice a5 l5 c5, .slice (some ⟨k33, 0, none⟩) 1 1]).run prog w33 = .ok (.slice a34 l34 c34) w34 /\
 K (.slice a34 l34 c34) w34))
theorem ma (s0 : List UInt8) (n1 : Int) {w : World} {K : Value -> World -> Prop} (h : iG s0 n1 w K) : Calls prog bQ #[.string (mkS s0), .int .u8 n1] w (Ret K) :=
 au (c := ay Tryz.f108) (by kernel_rfl) Tryz.func108 (by kernel_rfl) [(10, [(5, .one (.slice)), (6, .one (.int .i64)), (7, .one (.int .i64))])] [.string (mkS s0), .int .u8 n1] (of_decide_eq_true (by kernel_rfl)) _ (by kernel_rfl) h

--  cracknel/cracknelref01.Lower
def iF (s0 : List UInt8) (w : World) (K : Value -> World -> Prop) : Prop :=
 ∃ I : Nat -> FP [.one (.str), .one (.int .i64)],
 (∃ m, I m [] (0 : Int) w) /\
 ∀ m s3 n4, aE 23 (∀ wl, I m s3 n4 wl ->
 af (decide (n4 < ((List.length s0 : Nat) : Int)))
 (((0 <= n4 /\ n4 < ((List.length s0 : Nat) : Int))) /\
 ∃ J : FP [.one (.int .u8)],
 (af (decide ((aP s0 n4) >= (65 : Int)))
 (af (decide ((aP s0 n4) <= (90 : Int)))
 (J (IntKind.u8.wrap ((aP s0 n4) + (32 : Int))) wl)
 (J (aP s0 n4) wl))
 (J (aP s0 n4) wl)) /\
 ∀ n5, aE 8 (∀ wj, J n5 wj ->
 ∀ k25 w25, k25 = wj.heap.size -> w25 = wj.alloc (.cells #[.int .u8 n5] aF) ->
 ∃ s26, (convert aV ar (.slice (some ⟨k25, 0, none⟩) 1 1)).run prog w25 = .ok (.string (mkS s26)) w25 /\
 ((((List.length s3 + List.length s26 : Nat) : Int) <= i64.max)) /\
 ∀ s27, s27 = (s3 ++ s26) ->
 ∃ m' : Nat, m' < m /\ I m' s27 (i64.wrap (n4 + (1 : Int))) w25))
 (K (.string (mkS s3)) wl))
theorem lZ (s0 : List UInt8) {w : World} {K : Value -> World -> Prop} (h : iF s0 w K) : Calls prog fD #[.string (mkS s0)] w (Ret K) :=
 au (c := ay Tryz.f110) (by kernel_rfl) Tryz.func110 (by kernel_rfl) [(8, [(3, .one (.str)), (4, .one (.int .i64))]), (19, [(5, .one (.int .u8))])] [.string (mkS s0)] (of_decide_eq_true (by kernel_rfl)) _ (by kernel_rfl) h

--  cracknel/cracknelref01.Digits
def gO (s0 : List UInt8) (w : World) (K : Value -> World -> Prop) : Prop :=
 ∃ I : Nat -> FP [.one (.int .i64)],
 (∃ m, I m (0 : Int) w) /\
 ∀ m n3, aE 17 (∀ wl, I m n3 wl ->
 af (decide (n3 < ((List.length s0 : Nat) : Int)))
 (((0 <= n3 /\ n3 < ((List.length s0 : Nat) : Int))) /\
 af (decide ((aP s0 n3) < (48 : Int)))
 (K (.bool false) wl)
 (((0 <= n3 /\ n3 < ((List.length s0 : Nat) : Int))) /\
 af (decide ((aP s0 n3) > (57 : Int)))
 (K (.bool false) wl)
 (∃ m' : Nat, m' < m /\ I m' (i64.wrap (n3 + (1 : Int))) wl)))
 (K (.bool (decide (((List.length s0 : Nat) : Int) > (0 : Int)))) wl))
theorem kM (s0 : List UInt8) {w : World} {K : Value -> World -> Prop} (h : gO s0 w K) : Calls prog cR #[.string (mkS s0)] w (Ret K) :=
 au (c := ay Tryz.f111) (by kernel_rfl) Tryz.func111 (by kernel_rfl) [(6, [(3, .one (.int .i64))])] [.string (mkS s0)] (of_decide_eq_true (by kernel_rfl)) _ (by kernel_rfl) h

--  cracknel/octet.Split
def gP (s0 : List UInt8) (w : World) (K : Value -> World -> Prop) : Prop :=
 ∃ J : FP [],
 (Calls prog cR #[.string (mkS s0)] w fun e7 w7 => ∃ b7, e7 = .returned (.bool b7) /\
 af (!b7)
 (K (.tuple #[.int .i64 (0 : Int), .bool false]) w7)
 (af (decide (((List.length s0 : Nat) : Int) > (18 : Int)))
 (K (.tuple #[.int .i64 (0 : Int), .bool false]) w7)
 (af (decide (((List.length s0 : Nat) : Int) > (1 : Int)))
 (((0 <= (0 : Int) /\ (0 : Int) < ((List.length s0 : Nat) : Int))) /\
 af ((aP s0 (0 : Int)) == (48 : Int))
 (K (.tuple #[.int .i64 (0 : Int), .bool false]) w7)
 (J w7))
 (J w7)))) /\
 aE 20 (∀ wj, J wj ->
 ∃ I : Nat -> FP [.one (.int .i64), .one (.int .i64)],
 (∃ m, I m (0 : Int) (0 : Int) wj) /\
 ∀ m n4 n5, aE 14 (∀ wl, I m n4 n5 wl ->
 af (decide (n5 < ((List.length s0 : Nat) : Int)))
 (((0 <= n5 /\ n5 < ((List.length s0 : Nat) : Int))) /\
 ∃ m' : Nat, m' < m /\ I m' (i64.wrap ((i64.wrap ((i64.wrap (n4 * (10 : Int))) + (i64.wrap (aP s0 n5)))) - (48 : Int))) (i64.wrap (n5 + (1 : Int))) wl)
 (K (.tuple #[.int .i64 n4, .bool true]) wl)))
theorem kN (s0 : List UInt8) {w : World} {K : Value -> World -> Prop} (h : gP s0 w K) : Calls prog eu #[.string (mkS s0)] w (Ret K) :=
 au (c := ay Tryz.f168) (by kernel_rfl) Tryz.func168 (by kernel_rfl) [(2, []), (16, [(4, .one (.int .i64)), (5, .one (.int .i64))])] [.string (mkS s0)] (of_decide_eq_true (by kernel_rfl)) _ (by kernel_rfl) h

--  cracknel/octet.Number
end Go.Proofs.YtpafoodmpjlkhaaGreatDoor
namespace Go.Pk
theorem Ce (c : UInt8) (s cur : List UInt8) (k : Nat) (h : k < s.length) : aZ c cur (s.drop k) = if s[k] = c then cur :: aZ c [] (s.drop (k + 1)) else aZ c (cur ++ [s[k]]) (s.drop (k + 1)) := by
 rw [List.drop_eq_getElem_cons h]; rfl
end Go.Pk
namespace Go.Pk
theorem oV {a b : Int} (h : 0 <= a) : Int.tmod a b = a % b := Int.tmod_eq_emod_of_nonneg h
theorem oT {a b : Int} (h : 0 <= a) : Int.tdiv a b = a / b := Int.tdiv_eq_ediv_of_nonneg h
end Go.Pk
set_option maxRecDepth 20000
namespace Go.Pk
theorem Ch {s : List UInt8} {k : Nat} (h : k < s.length) : qe s[k] = true ↔ 48 <= aP s (k : Int) /\ aP s (k : Int) <= 57 := by
 rw [eX (i := (k : Int)) (by simpa using h), sz]
 simp only [Int.toNat_natCast]; omega
end Go.Pk
namespace Go.Proofs.YtpafoodmpjlkhaaGreatDoor
open Go.Pk
open Go.RowKit (Below)
theorem ng (s : List UInt8) (hs : s.length <= 9223372036854775800) (w : World) : Calls prog fD #[.string (mkS s)] w (Ret fun v w' => v = .string (mkS (fU s)) /\ Below w.heap.size w w') := by
 apply lZ
 unfold iF
 refine ⟨fun m o i w' => ∃ k : Nat, k <= s.length /\ i = (k : Int) /\ o = fU (s.take k) /\ m = s.length - k /\ Below w.heap.size w w', ⟨_, 0, by omega, rfl, rfl, rfl, Below.refl _ _⟩, ?_⟩
 intro m o i
 refine aE.of ?_ _
 rintro w1 ⟨k, hk, rfl, rfl, rfl, hb⟩
 refine af.of (fun h => ?_) (fun h => ?_) <;> simp only [dTx, dFx] at h
 · have hlt : k < s.length := by omega
   have hlow := zH s[k]
   have hu := jP s[k]
   rw [eX (i := (k : Int)) (by simpa using hlt)]
   simp only [Int.toNat_natCast]
   refine ⟨⟨by omega, h⟩, IC (w := w1) ((Am s[k]).toNat : Nat) ?_ ?_⟩
   · refine af.of (fun h2 => ?_) (fun h2 => ?_) <;> simp only [ge_iff_le, dTx, dFx] at h2
     · refine af.of (fun h3 => ?_) (fun h3 => ?_) <;> simp only [ge_iff_le, dTx, dFx] at h3
       · rw [if_pos ⟨h2, h3⟩] at hlow
         exact ⟨rfl, by rw [jL (by omega) (by omega), hlow]⟩
       · rw [if_neg (fun e => h3 e.2)] at hlow
         exact ⟨rfl, hlow.symm⟩
     · rw [if_neg (fun e => h2 e.1)] at hlow
       exact ⟨rfl, hlow.symm⟩
   · intro k1 w2 hk1 hw2
     have ho : Ow tU8 aF w2 NoB (some ⟨k1, 0, none⟩) 1 1 [Am s[k]] := Ow.newF rN hk1 hw2 (gw.one (sK rfl)) (show 1 <= maxLen by decide)
     have hl : (fU (s.take k)).length = k := by simp [fU]; omega
     refine ⟨_, oU cD aC bF ho.all, by rw [hl]; simp [IntKind.max, IntKind.bits]; omega, ?_⟩
     rintro _ rfl
     refine ⟨s.length - (k + 1), by omega, k + 1, by omega, by rw [ak (by omega) (by omega)]; omega, ?_, rfl, ab hb (hw2 ▸ ah _ _) hb.size⟩
     unfold fU; rw [List.take_succ_eq_append_getElem hlt, List.map_append]; rfl
 · have : k = s.length := by omega
   subst this
   rw [List.take_length]; exact ⟨rfl, hb⟩
end Go.Proofs.YtpafoodmpjlkhaaGreatDoor
namespace Go.Proofs.YtpafoodmpjlkhaaGreatDoor
open Go.Pk
open Go.RowKit (Below)
theorem fA {s : List UInt8} {k : Nat} (h : k < s.length) : aP s (k : Int) = ((s[k].toNat : Nat) : Int) := by
 rw [eX (i := (k : Int)) (by simpa using h)]; simp only [Int.toNat_natCast]
theorem gK (s : List UInt8) (hs : s.length <= 9223372036854775807) (w : World) : Calls prog cR #[.string (mkS s)] w (Ret fun v w' => v = .bool (bU s) /\ w' = w) := by
 apply kM
 unfold gO
 refine ⟨fun m i w' => ∃ k : Nat, k <= s.length /\ i = (k : Int) /\ m = s.length - k /\ (s.take k).all qe = true /\ w' = w, ⟨_, 0, by omega, rfl, rfl, rfl, rfl⟩, ?_⟩
 intro m i
 refine aE.of ?_ _
 rintro w' ⟨k, hk, rfl, rfl, hall, rfl⟩
 refine af.of (fun h => ?_) (fun h => ?_) <;> simp only [dTx, dFx] at h
 · have hlt : k < s.length := by omega
   have hd := Ch hlt
   have bad : ¬ qe s[k] = true -> (.bool false : Value) = .bool (bU s) /\ w' = w' := fun hn => ⟨by
     congr 1
     symm
     unfold bU
     rw [Bool.and_eq_false_iff]
     right
     rw [Bool.eq_false_iff]
     intro hc
     exact hn (List.all_eq_true.1 hc _ (List.getElem_mem hlt)), rfl⟩
   refine ⟨⟨by omega, h⟩, ?_⟩
   refine af.of (fun h2 => ?_) (fun h2 => ?_) <;> simp only [dTx, dFx] at h2
   · exact bad fun hc => by have := (hd.1 hc).1; omega
   refine ⟨⟨by omega, h⟩, ?_⟩
   refine af.of (fun h3 => ?_) (fun h3 => ?_) <;> simp only [gt_iff_lt, dTx, dFx] at h3
   · exact bad fun hc => by have := (hd.1 hc).2; omega
   · refine ⟨s.length - (k + 1), by omega, k + 1, by omega, by rw [ak (by omega) (by omega)]; omega, rfl, ?_, rfl⟩
     rw [List.take_succ_eq_append_getElem hlt, List.all_append, hall]
     simp [hd.2 ⟨by omega, by omega⟩]
 · have : k = s.length := by omega
   subst this
   rw [List.take_length] at hall
   refine ⟨?_, rfl⟩
   congr 1
   unfold bU
   rw [hall, Bool.and_true]
   cases s <;> simp
theorem cU (s : List UInt8) (c : UInt8) (hs : s.length <= 100000000) (w : World) :
   Calls prog bQ #[.string (mkS s), .int .u8 ((c.toNat : Nat) : Int)] w (Ret fun v w' => ∃ a n cp, v = .slice a n cp /\ Ow tS ar w' NoB a n cp (aZ c [] s) /\ bD w.heap.size a /\ Below w.heap.size w w') := by
 apply ma
 unfold iG
 intro k8 w8 hk8 hw8
 have hB := (hw8 ▸ ah w _ : Below w.heap.size w w8)
 have ho8 : Ow tS ar w8 NoB (some ⟨k8, 0, none⟩) 0 0 [] := Ow.newF (dP _) hk8 hw8 (gw.nil _ _ _) (Nat.zero_le _)
 refine ⟨fun m a n cp fr i w' => ∃ (k j : Nat) (done : List (List UInt8)), k <= s.length /\ j <= k /\ i = (k : Int) /\ fr = (j : Int) /\ m = s.length - k /\ done.length <= k /\ aZ c [] s = done ++ aZ c ((s.take k).drop j) (s.drop k) /\
     Ow tS ar w' NoB a n cp done /\ bD w.heap.size a /\ Below w.heap.size w w',
   ⟨_, 0, 0, [], by omega, by omega, rfl, rfl, rfl, Nat.le_refl _, rfl, ho8, fZ hk8, hB⟩, ?_⟩
 intro m a n cp fr i
 refine aE.of ?_ _
 rintro w1 ⟨k, j, done, hk, hj, rfl, rfl, rfl, hdl, hcut, ho, hf, hb⟩
 refine af.of (fun h => ?_) (fun h => ?_) <;> simp only [dTx, dFx] at h
 · have hlt : k < s.length := by omega
   have ew : i64.wrap ((k : Int) + 1) = ((k + 1 : Nat) : Int) := by rw [ak (by omega) (by omega)]; omega
   rw [ew, fA hlt, pz]
   rw [Ce c s _ k hlt] at hcut
   refine ⟨⟨by omega, h⟩, ?_⟩
   refine af.of (fun h2 => ?_) (fun h2 => ?_)
   · rw [beq_iff_eq] at h2
     rw [if_pos h2] at hcut
     refine ⟨⟨⟨by omega, by omega⟩, by omega, by omega⟩, ?_⟩
     rintro _ rfl k3 w3 hk3 hw3
     simp only [Int.toNat_natCast] at hw3 ⊢
     obtain ⟨w4, a4, n4, c4, hr, ho4, hf4, hb4⟩ := xL (ty := aw) (w0 := w) (cm := 1) (vs := [_]) (dP _) bh iD (by decide) ho hf hb hk3 hw3 (nn trivial) (by omega)
     refine ⟨w4, a4, n4, c4, hr, s.length - (k + 1), by omega, k + 1, k + 1, _, by omega, Nat.le_refl _, rfl, rfl, rfl, ?_, ?_, ho4, hf4, hb4⟩
     · simp; omega
     · have hnil : (s.take (k + 1)).drop (k + 1) = [] := List.drop_eq_nil_of_le (by rw [List.length_take]; omega)
       rw [hcut, hnil]
       simp
   · rw [beq_eq_false_iff_ne] at h2
     rw [if_neg h2] at hcut
     refine ⟨s.length - (k + 1), by omega, k + 1, j, done, by omega, by omega, rfl, rfl, rfl, by omega, ?_, ho, hf, hb⟩
     rw [hcut, List.take_succ_eq_append_getElem hlt, List.drop_append_of_le_length (by rw [List.length_take]; omega)]
 · have : k = s.length := by omega
   subst this
   refine ⟨⟨by omega, by omega⟩, ?_⟩
   rintro _ rfl k3 w3 hk3 hw3
   simp only [Int.toNat_natCast] at hw3 ⊢
   obtain ⟨w4, a4, n4, c4, hr, ho4, hf4, hb4⟩ := xL (ty := aw) (w0 := w) (cm := 1) (vs := [_]) (dP _) bh iD (by decide) ho hf hb hk3 hw3 (nn trivial) (by omega)
   refine ⟨w4, a4, n4, c4, hr, _, _, _, rfl, ?_, hf4, hb4⟩
   rw [hcut]
   simpa [aZ] using ho4
end Go.Proofs.YtpafoodmpjlkhaaGreatDoor
namespace Go.Proofs.YtpafoodmpjlkhaaGreatDoor
open Go.Pk
open Go.RowKit (Below)
theorem lT (s : List UInt8) (hs : s.length <= 9223372036854775000) (w : World) :
   Calls prog eu #[.string (mkS s)] w (Ret fun v w' => v = (if tY s then .tuple #[.int .i64 (rI s), .bool true] else .tuple #[.int .i64 0, .bool false]) /\ w' = w) := by
 apply kN
 unfold gP
 refine jK (fun w' => tY s /\ w' = w) ?_ ?_
 · refine ax (gK s (by omega) w) ?_
   rintro _ w' ⟨rfl, hw⟩
   rw [hw]
   refine ⟨_, rfl, ?_⟩
   have bad : ¬ tY s -> (.tuple #[.int .i64 (0 : Int), .bool false] : Value) = (if tY s then .tuple #[.int .i64 (rI s), .bool true] else .tuple #[.int .i64 0, .bool false]) /\ w = w := fun hn => ⟨by rw [if_neg hn], rfl⟩
   refine af.of (fun h => bad fun hn => by rw [hn.1] at h; cases h) (fun h => ?_)
   have hd : bU s = true := by simpa using h
   refine af.of (fun h2 => bad fun hn => by have := hn.2.1; simp at h2; omega) (fun h2 => ?_)
   have hl : s.length <= 18 := by simp at h2; omega
   refine af.of (fun h3 => ?_) (fun h3 => ?_) <;> simp only [dTx, dFx] at h3
   · have hl1 : 1 < s.length := by omega
     refine ⟨⟨by decide, by omega⟩, ?_⟩
     have hb := fA (s := s) (k := 0) (by omega)
     rw [show ((0 : Nat) : Int) = 0 from rfl] at hb
     have hu := pz s[0] 48
     rw [show (((48 : UInt8).toNat : Nat) : Int) = 48 from rfl] at hu
     rw [hb, hu]
     have hhd : s.head? = some s[0] := by rw [List.head?_eq_getElem?, List.getElem?_eq_getElem]
     refine af.of (fun h4 => bad fun hn => hn.2.2 ⟨?_, hl1⟩) (fun h4 => ⟨⟨hd, hl, fun hn => ?_⟩, rfl⟩)
     · rw [beq_iff_eq] at h4; rw [hhd, h4]
     · rw [hhd] at hn
       rw [Option.some.inj hn.1] at h4; simp at h4
   · exact ⟨⟨hd, hl, fun hn => h3 (by omega)⟩, rfl⟩
 · rintro w' ⟨hn, hw⟩
   rw [hw]
   have hdg : ∀ c ∈ s, qe c = true := by
     have := hn.1
     unfold bU at this
     rw [Bool.and_eq_true] at this
     exact fun c hc => List.all_eq_true.1 this.2 c hc
   have hl := hn.2.1
   refine ⟨fun m v i w' => ∃ k : Nat, k <= s.length /\ i = (k : Int) /\ m = s.length - k /\ v = rI (s.take k) /\ w' = w, ⟨_, 0, by omega, rfl, rfl, rfl, rfl⟩, ?_⟩
   intro m v i
   refine aE.of ?_ _
   rintro w' ⟨k, hk, rfl, rfl, rfl, hw'⟩
   rw [hw']
   refine af.of (fun h => ?_) (fun h => ?_) <;> simp only [dTx, dFx] at h
   · have hlt : k < s.length := by omega
     rw [fA hlt]
     have hc := hdg s[k] (List.getElem_mem hlt)
     have hu := jP s[k]
     have hb := nF (s.take k) 0 (by decide) (fun c hc => hdg c (List.mem_of_mem_take hc))
     have hpow : (10 : Int) ^ (s.take k).length <= 10 ^ 17 := by
       have : (s.take k).length <= 17 := by rw [List.length_take]; omega
       exact_mod_cast Nat.pow_le_pow_right (by decide : 0 < 10) this
     have hb2 : 0 <= rI (s.take k) /\ rI (s.take k) < 10 ^ 17 := ⟨hb.1, by
       have h2 := hb.2
       have : rI (s.take k) < (0 + 1) * 10 ^ (s.take k).length := h2
       omega⟩
     refine ⟨⟨by omega, h⟩, s.length - (k + 1), by omega, k + 1, by omega, by rw [ak (by omega) (by omega)]; omega, rfl, ?_, rfl⟩
     rw [ak (n := rI (s.take k) * 10) (by omega) (by omega), ak (n := ((s[k].toNat : Nat) : Int)) (by omega) (by omega), ak (n := _ + _) (by omega) (by omega), ak (by omega) (by omega), List.take_succ_eq_append_getElem hlt]
     unfold rI
     rw [List.foldl_append]
     show _ = _ * 10 + (((s[k].toNat : Nat) : Int) - 48)
     omega
   · have : k = s.length := by omega
     subst this
     rw [List.take_length, if_pos hn]; exact ⟨rfl, rfl⟩
theorem rR (s : List UInt8) (hs : s.length <= 100000000) (w : World) : Calls prog jX #[.string (mkS s)] w (Ret fun v w' => v = adT (v4V s) /\ Below w.heap.size w w') := by
 apply qp
 unfold mz
 intro k2 w2 hk2 hw2
 have hB2 := (hw2 ▸ ah w _ : Below w.heap.size w w2)
 have h2 : am w2 k2 ai (adC ad0) := am.new hk2 hw2
 intro k5 w4 hk5 hw4
 have hb4 := (hw4 ▸ ah w2 _ : Below w2.heap.size w2 w4)
 have hB4 := ab hB2 hb4 hB2.size
 have h54 : am w4 k5 ai (adC ad0) := am.new hk5 hw4
 obtain ⟨w5, hs5, h55, hg5⟩ := aQ.store0 (cs := adC ad0) rfl (bT _) h54 rfl
 refine ⟨w5, hs5, ?_⟩
 have hk5w : w.heap.size <= k5 := by have := hB2.size; omega
 have hlt2 := h2.lt
 have h25 := (h2.below hb4).grown hg5 (gt (by omega))
 have hB5 := Below.put hB4 hg5 hk5w
 refine ax (cU s 46 hs w5) ?_
 rintro _ w3 ⟨a, n, c, rfl, ho, hf, hb3⟩
 have hB3 := ab hB5 hb3 hB5.size
 have h23 := h25.below hb3
 have h53 := h55.below hb3
 have hn := ho.len
 have hlens : ∀ x ∈ aZ 46 [] s, x.length <= s.length := fun x hx => by simpa using gW 46 s [] x hx
 have none_end : ∀ {wx : World}, v4V s = none -> am wx k2 ai (adC ad0) -> Below w.heap.size w wx -> _ := fun {wx} hv h2x hBx => aQ.fin (K := fun vr wy => (.tuple #[vr, .bool false] : Value) = adT (v4V s) /\ Below w.heap.size w wy) (cs := adC ad0) rfl (bT _) h2x rfl hBx (by omega) fun wy hb => ⟨by rw [hv]; rfl, hb⟩
 refine ⟨_, _, _, rfl, af.of (fun h4 => ?_) (fun h4 => ?_)⟩
 · refine none_end (FW fun hc => ?_) h23 hB3
   rw [bne_iff_ne] at h4; omega
 have hl4 : (aZ 46 [] s).length = 4 := by simp at h4; omega
 have hlt5 := h55.lt
 have hog : ∀ g, bE a = some g -> g ≠ k5 := fun g hg e => by have := hf g hg; omega
 obtain ⟨L, hL⟩ : ∃ L, L = aZ 46 [] s := ⟨_, rfl⟩
 rw [<- hL] at ho hl4 hlens hn
 have hv4 : v4V s = if L.length = 4 /\ ∀ x ∈ L, sy x then some (List.replicate 12 0 ++ L.map ipB) else none := by rw [hL]; rfl
 refine ⟨fun m i w' => ∃ k : Nat, k <= 4 /\ i = (k : Int) /\ m = 4 - k /\ (∀ j (hj : j < k) (h : j < L.length), sy L[j]) /\ am w' k5 ai (adC (v4S L k)) /\ am w' k2 ai (adC ad0) /\ Ow tS ar w' NoB a n c L /\ Below w.heap.size w w',
   ⟨_, 0, by omega, rfl, rfl, fun j hj => by omega, h53, h23, ho, hB3⟩, ?_⟩
 intro m i
 refine aE.of ?_ _
 rintro w6 ⟨k, hk, rfl, rfl, hok, h56, h26, ho6, hB6⟩
 refine af.of (fun h => ?_) (fun h => ?_) <;> simp only [dTx, dFx] at h
 · have hk4 : k < 4 := by omega
   have hkL : k < L.length := by omega
   refine ⟨⟨⟨by omega, by omega⟩, ho6.all.isSome (by omega)⟩, _, ho6.all.text aC hkL, ?_⟩
   have hlk := hlens L[k] (List.getElem_mem hkL)
   refine ax (lT L[k] (by omega) w6) ?_
   rintro _ w7 ⟨rfl, hw7⟩
   have hb7 : Below w6.heap.size w6 w7 := hw7 ▸ Below.refl _ _
   have hB7 := ab hB6 hb7 hB6.size
   have hnone : ¬ sy L[k] -> v4V s = none := fun hx => by
     rw [hv4, if_neg fun hc => hx (hc.2 _ (List.getElem_mem hkL))]
   refine ⟨if tY L[k] then rI L[k] else 0, if tY L[k] then true else false, by split <;> rfl, ?_⟩
   refine ⟨fun w' => w' = w7 /\ sy L[k], ?_, ?_⟩
   · refine EN (B := fun J => af _ (J true w7) (J _ w7)) (!decide (sy L[k])) (af.of (fun h1 => ⟨rfl, ?_⟩) (fun h1 => ⟨rfl, ?_⟩)) ?_
     · have : ¬ tY L[k] := fun hc => by rw [if_pos hc] at h1; cases h1
       have h2 : ¬ sy L[k] := fun hc => this hc.1
       simp [h2]
     · have hnp : tY L[k] := Decidable.byContradiction fun hc => by rw [if_neg hc] at h1; cases h1
       rw [if_pos hnp, Bool.eq_iff_iff]
       simp [sy, hnp]
     · refine af.of (fun h1 => none_end (hnone (by simpa using h1)) (h26.below hb7) hB7) (fun h1 => ⟨rfl, by simpa using h1⟩)
   · refine aE.of ?_ _
     rintro wj ⟨hwj, hip⟩
     rw [hwj]; clear hwj
     have e12 : i64.wrap (12 + (k : Int)) = ((12 + k : Nat) : Int) := by rw [ak (by omega) (by omega)]; omega
     rw [e12, dH, if_pos hip.1, Fl hip, Nat.zero_add]
     refine ⟨⟨⟨by omega, by omega⟩, rfl⟩, ?_⟩
     have h57 := h56.below hb7
     obtain ⟨w8, hs8, h58, hg8⟩ := h57.put (P := prog) gu (i := 12 + k) (v := .int .u8 (((ipB L[k]).toNat : Nat) : Int)) (by rw [bu, ur hl4 (by omega)]; omega) rfl rfl
     rw [mV, CR hl4 hk4] at h58
     refine ⟨w8, hs8, 4 - (k + 1), by omega, k + 1, by omega, by rw [ak (by omega) (by omega)]; omega, rfl, ?_, h58, (h26.below hb7).grown hg8 (gt (by omega)), (ho6.below hb7).put hog hg8, Below.put hB7 hg8 hk5w⟩
     intro j hj hjl
     by_cases e : j = k
     · subst e; exact hip
     · exact hok j (by omega) hjl
 · have : k = 4 := by omega
   subst this
   have hall : ∀ x ∈ L, sy x := fun x hx => by
     obtain ⟨j, hj, rfl⟩ := List.mem_iff_getElem.1 hx
     exact hok j (by omega) hj
   have hv : v4V s = some (v4S L 4) := by rw [hv4, if_pos ⟨hl4, hall⟩, H8 hl4]
   have hlen : (adC (v4S L 4)).length = 16 := by rw [bu, ur hl4 (by omega)]
   refine ⟨_, aQ.load0 h56 hlen, ?_⟩
   exact aQ.fin (K := fun vr wy => (.tuple #[vr, .bool true] : Value) = adT (v4V s) /\ Below w.heap.size w wy) hlen (bT _) h26 rfl hB6 (by omega) fun wy hb => ⟨by rw [hv]; rfl, hb⟩
end Go.Proofs.YtpafoodmpjlkhaaGreatDoor
namespace Go.Pk
theorem pE {s : List UInt8} {p : Nat} (h : at2 s p) : s = s.take p ++ 58 :: 58 :: s.drop (p + 2) := by
 obtain ⟨h1, h2⟩ := h
 obtain ⟨l1, e1⟩ := List.getElem?_eq_some_iff.1 h1
 obtain ⟨l2, e2⟩ := List.getElem?_eq_some_iff.1 h2
 conv => lhs; rw [<- List.take_append_drop p s, List.drop_eq_getElem_cons l1, List.drop_eq_getElem_cons l2, e1, e2]
theorem nE (c : UInt8) (r : List UInt8) (h : r = [] \/ ∃ t, r = c :: t) : ([] : List UInt8) ∈ aZ c [] r := by
 rcases h with rfl | ⟨t, rfl⟩
 · simp [aZ]
 · show _ ∈ (if c = c then _ else _)
   rw [if_pos rfl]; simp
theorem Fx {l : List (List UInt8)} (h : ([] : List UInt8) ∈ l) : l.all bK = false := by
 rw [Bool.eq_false_iff]
 intro hc
 have := List.all_eq_true.1 hc [] h
 revert this; decide
theorem Ck {s : List UInt8} (h : e8 s = true) (i : Nat) : ¬ at2 s i := by
 intro hi
 unfold e8 at h
 rw [Bool.and_eq_true] at h
 have hm : ([] : List UInt8) ∈ aZ 58 [] s := by
   rw [pE hi, bC]
   exact List.mem_append_right _ (nE 58 _ (.inr ⟨_, rfl⟩))
 rw [Fx hm] at h
 exact absurd h.2 (by decide)
theorem Jk {s : List UInt8} {p q : Nat} (h : at2 s p) (hq : p < q) (hq2 : at2 s q) : (bG (s.take q)).all bK = false := by
 have hl := (List.getElem?_eq_some_iff.1 hq2.1).1
 have hs := pE h
 have hp : p < s.length := by omega
 have hne : s.take q ≠ [] := by
   intro e
   have := congrArg List.length e
   rw [List.length_take, List.length_nil] at this
   omega
 unfold bG
 rw [if_neg hne]
 have e : s.take q = s.take p ++ 58 :: (58 :: s.drop (p + 2)).take (q - p - 1) := by
   conv => lhs; rw [hs]
   rw [List.take_append, List.length_take, Nat.min_eq_left (by omega), List.take_of_length_le (by rw [List.length_take]; omega)]
   rw [show q - p = (q - p - 1) + 1 by omega, List.take_succ_cons]; rfl
 rw [e, bC]
 refine Fx (List.mem_append_right _ (nE 58 _ ?_))
 cases hk : q - p - 1 with
 | zero => exact .inl rfl
 | succ k => exact .inr ⟨_, rfl⟩
def zsK : Nat -> List UInt8
 | 0 => [48]
 | k + 1 => zsK k ++ [58, 48]
theorem BM : ∀ k, (zsK k).length = 2 * k + 1
 | 0 => rfl
 | k + 1 => by rw [zsK, List.length_append, BM k]; simp; omega
theorem vL : ∀ k, aZ 58 [] (zsK k) = List.replicate (k + 1) [48]
 | 0 => rfl
 | k + 1 => by
   rw [zsK, bC, vL k, List.replicate_succ' (n := k + 1)]; rfl
def kr (f : List UInt8) : List UInt8 := if f = [] then [] else f ++ [58]
def rG (b : List UInt8) : List UInt8 := if b = [] then [] else 58 :: b
def sS (f b : List UInt8) (k : Nat) : List UInt8 := kr f ++ zsK k ++ rG b
theorem vK (f b : List UInt8) (k : Nat) : aZ 58 [] (sS f b k) = bG f ++ List.replicate (k + 1) [48] ++ bG b := by
 unfold sS kr rG bG
 have e : ∀ b : List UInt8, aZ 58 [] (zsK k ++ if b = [] then [] else 58 :: b) = List.replicate (k + 1) [48] ++ (if b = [] then [] else aZ 58 [] b) := by
   intro b
   split
   · rw [List.append_nil, List.append_nil, vL]
   · rw [bC, vL]
 by_cases hf : f = []
 · rw [if_pos hf, if_pos hf, List.nil_append, e, List.nil_append]
 · rw [if_neg hf, if_neg hf, List.append_assoc, List.append_assoc, List.singleton_append, bC, e, List.append_assoc]
theorem vT (f b : List UInt8) (k : Nat) : e8 (sS f b k) = true ↔ ((bG f).all bK = true /\ (bG b).all bK = true) /\ (bG f).length + (k + 1) + (bG b).length = 8 := by
 unfold e8
 rw [vK]
 have h0 : bK [48] = true := by decide
 have hz : (List.replicate (k + 1) ([48] : List UInt8)).all bK = true := List.all_eq_true.2 fun x hx => by rw [(List.mem_replicate.1 hx).2]; exact h0
 rw [List.all_append, List.all_append, hz, Bool.and_true, Bool.and_eq_true, Bool.and_eq_true, dTx, List.length_append, List.length_append, List.length_replicate]
 exact And.comm
theorem CT {f b : List UInt8} {k : Nat} (h : e8 (sS f b k) = true) : (aZ 58 [] (sS f b k)).map js = v6L (bG f) (bG b) := by
 have hk := ((vT f b k).1 h).2
 rw [vK, List.map_append, List.map_append, List.map_replicate, show js [48] = 0 by decide]
 unfold v6L
 rw [show 8 - (bG f).length - (bG b).length = k + 1 by omega]
theorem Ia {s : List UInt8} (h : e8 s = true) : v6V s = some ((aZ 58 [] s).map js) := by
 rcases lh s with ⟨h1, h2⟩ | ⟨p, h1, h2, h3⟩
 · unfold v6V
   have hc := h
   unfold e8 at hc
   rw [Bool.and_eq_true, dTx] at hc
   have hn : s ≠ [] := by rintro rfl; exact absurd hc.1 (by decide)
   have hr : bG s = aZ 58 [] s := by unfold bG; rw [if_neg hn]
   have hr0 : bG [] = [] := rfl
   rw [h1]
   simp only [hr, hr0]
   rw [if_pos]
   · unfold v6L
     rw [hc.1]
     simp
   · unfold Ak
     rw [hc.2]
     simp [hc.1]
 · exact absurd h2 (Ck h p)
theorem Ib {s : List UInt8} (h : e8 s = false) (hn : ∀ i, ¬ at2 s i) : v6V s = none := by
 rcases lh s with ⟨h1, h2⟩ | ⟨p, h1, h2, h3⟩
 · unfold v6V
   rw [h1]
   rw [if_neg]
   intro hc
   have hr0 : bG [] = [] := rfl
   unfold Ak at hc
   simp only [hr0, List.all_nil, Bool.and_true, Bool.and_eq_true, List.length_nil, Nat.add_zero] at hc
   have hc2 : (bG s).all bK = true /\ (bG s).length = 8 := by simpa using hc
   unfold bG at hc2
   split at hc2
   · exact absurd hc2.2 (by decide)
   · rw [<- Bool.not_eq_true] at h
     refine h ?_
     unfold e8
     rw [hc2.1, hc2.2]; rfl
 · exact absurd h2 (hn p)
theorem FX {s : List UInt8} {p : Nat} (h : at2 s p) (h2 : ∀ j, j < p -> ¬ at2 s j) :
   v6V s = if ((bG (s.take p)).all bK = true /\ (bG (s.drop (p + 2))).all bK = true) /\ (bG (s.take p)).length + (bG (s.drop (p + 2))).length < 8 then some (v6L (bG (s.take p)) (bG (s.drop (p + 2)))) else none := by
 rcases lh s with ⟨h1, h3⟩ | ⟨q, h1, h3, h4, h5⟩
 · exact absurd h (h3 p)
 · have e : q = p := by
     rcases Nat.lt_trichotomy q p with hl | hl | hl
     · exact absurd h3 (h2 q hl)
     · exact hl
     · exact absurd h (h4 p hl)
   subst e
   unfold v6V Ak
   rw [h1]
   simp only [if_true, Bool.and_eq_true, dTx]
end Go.Pk
namespace Go.Pk
def e8V (s : List UInt8) : Option (List UInt8) := if e8 s = true then some (jN ((aZ 58 [] s).map js)) else none
end Go.Pk
namespace Go.Proofs.YtpafoodmpjlkhaaGreatDoor
open Go.Pk
open Go.RowKit (Below)
theorem nj (c : UInt8) (w : World) : Calls prog fG #[.int .u8 ((c.toNat : Nat) : Int)] w (Ret fun v w' => v = .int .i64 (if lQ c = true then (pY c : Int) else -1) /\ w' = w) := by
 apply mg
 unfold iK
 have hu := jP c
 have h16 : lQ c = decide (pY c < 16) := rfl
 refine tN (w := w) (¬ (48 <= c.toNat /\ c.toNat <= 57)) (Ht (af.of (fun h => ?_) (fun h => ⟨rfl, by simp at h; omega⟩))) (fun h1 => ?_)
 · have : 48 <= c.toNat /\ c.toNat <= 57 := by simp at h; omega
   have e : pY c = c.toNat - 48 := by unfold pY; rw [if_pos this]
   rw [h16, e, if_pos (by simp; omega), ak (n := ((c.toNat : Nat) : Int)) (by omega) (by omega), ak (by omega) (by omega)]
   exact ⟨by congr 1; omega, rfl⟩
 refine tN (w := w) (¬ (97 <= c.toNat /\ c.toNat <= 102)) (Ht (af.of (fun h => ?_) (fun h => ⟨rfl, by simp at h; omega⟩))) (fun h2 => ?_)
 · have : 97 <= c.toNat /\ c.toNat <= 102 := by simp at h; omega
   have e : pY c = c.toNat - 87 := by unfold pY; rw [if_neg h1, if_pos this]
   rw [h16, e, if_pos (by simp; omega), ak (n := ((c.toNat : Nat) : Int)) (by omega) (by omega), ak (by omega) (by omega)]
   exact ⟨by congr 1; omega, rfl⟩
 refine Ht (af.of (fun h => ?_) (fun h => ?_))
 · have : 65 <= c.toNat /\ c.toNat <= 70 := by simp at h; omega
   have e : pY c = c.toNat - 55 := by unfold pY; rw [if_neg h1, if_neg h2, if_pos this]
   rw [h16, e, if_pos (by simp; omega), ak (n := ((c.toNat : Nat) : Int)) (by omega) (by omega), ak (by omega) (by omega)]
   exact ⟨by congr 1; omega, rfl⟩
 · have : ¬ (65 <= c.toNat /\ c.toNat <= 70) := by simp at h; omega
   have e : pY c = 16 := by unfold pY; rw [if_neg h1, if_neg h2, if_neg this]
   rw [h16, e, if_neg (by decide)]
   exact ⟨rfl, rfl⟩
theorem iy (s : List UInt8) (hs : s.length <= 100000000) (w : World) : Calls prog dt #[.string (mkS s)] w (Ret fun v w' => v = adT (e8V s) /\ Below w.heap.size w w') := by
 apply mh
 unfold iL
 intro k2 w2 hk2 hw2
 have hB2 := (hw2 ▸ ah w _ : Below w.heap.size w w2)
 have h2 : am w2 k2 ai (adC ad0) := am.new hk2 hw2
 intro k5 w4 hk5 hw4
 have hb4 := (hw4 ▸ ah w2 _ : Below w2.heap.size w2 w4)
 have hB4 := ab hB2 hb4 hB2.size
 have h54 : am w4 k5 ai (adC ad0) := am.new hk5 hw4
 obtain ⟨w5, hs5, h55, hg5⟩ := aQ.store0 (cs := adC ad0) rfl (bT _) h54 rfl
 refine ⟨w5, hs5, ?_⟩
 have hk5w : w.heap.size <= k5 := by have := hB2.size; omega
 have hlt2 := h2.lt
 have h25 := (h2.below hb4).grown hg5 (gt (by omega))
 have hB5 := Below.put hB4 hg5 hk5w
 refine ax (cU s 58 hs w5) ?_
 rintro _ w3 ⟨a, n, c, rfl, ho, hf, hb3⟩
 have hB3 := ab hB5 hb3 hB5.size
 have h23 := h25.below hb3
 have h53 := h55.below hb3
 have hn := ho.len
 have hlens : ∀ x ∈ aZ 58 [] s, x.length <= s.length := fun x hx => by simpa using gW 58 s [] x hx
 have none_end : ∀ {wx : World}, e8 s = false -> am wx k2 ai (adC ad0) -> Below w.heap.size w wx -> _ := fun {wx} hv h2x hBx => aQ.fin (K := fun vr wy => (.tuple #[vr, .bool false] : Value) = adT (e8V s) /\ Below w.heap.size w wy) (cs := adC ad0) rfl (bT _) h2x rfl hBx (by omega) fun wy hb => ⟨by unfold e8V; rw [hv]; rfl, hb⟩
 refine ⟨_, _, _, rfl, af.of (fun h4 => ?_) (fun h4 => ?_)⟩
 · refine none_end ?_ h23 hB3
   rw [bne_iff_ne] at h4
   unfold e8
   rw [decide_eq_false (by omega), Bool.false_and]
 have hl8 : (aZ 58 [] s).length = 8 := by simp at h4; omega
 have hlt5 := h55.lt
 have hog : ∀ g, bE a = some g -> g ≠ k5 := fun g hg e => by have := hf g hg; omega
 have he8 : e8 s = (aZ 58 [] s).all bK := by unfold e8; rw [decide_eq_true hl8, Bool.true_and]
 have he8V : e8 s = true -> e8V s = some (jN ((aZ 58 [] s).map js)) := fun h => if_pos h
 obtain ⟨L, hL⟩ : ∃ L, L = aZ 58 [] s := ⟨_, rfl⟩
 rw [<- hL] at ho hl8 hlens hn he8 he8V
 have hbad : ∀ {x}, x ∈ L -> bK x = false -> e8 s = false := fun {x} hx hg => by
   rw [he8, Bool.eq_false_iff]
   intro hc
   rw [List.all_eq_true.1 hc x hx] at hg; cases hg
 have hG : (L.map js).length = 8 := by simp [hl8]
 refine ⟨fun m i w' => ∃ k : Nat, k <= 8 /\ i = (k : Int) /\ m = 8 - k /\ (∀ j (hj : j < k) (h : j < L.length), bK L[j] = true) /\ am w' k5 ai (adC (Cn (L.map js) k)) /\ am w' k2 ai (adC ad0) /\ Ow tS ar w' NoB a n c L /\ Below w.heap.size w w',
   ⟨_, 0, by omega, rfl, rfl, fun j hj => by omega, h53, h23, ho, hB3⟩, ?_⟩
 intro m i
 refine aE.of ?_ _
 rintro w6 ⟨k, hk, rfl, rfl, hok, h56, h26, ho6, hB6⟩
 refine af.of (fun h => ?_) (fun h => ?_) <;> simp only [dTx, dFx] at h
 · have hk8 : k < 8 := by omega
   have hkL : k < L.length := by omega
   have hld := ho6.all.text (P := prog) aC hkL
   have hlk := hlens L[k] (List.getElem_mem hkL)
   have hin : (0 <= (k : Int) /\ (k : Int) < ((n : Nat) : Int)) /\ Option.isSome a = true := ⟨⟨by omega, by omega⟩, ho6.all.isSome (by omega)⟩
   have hmem : L[k] ∈ L := List.getElem_mem hkL
   refine tN (w := w6) (1 <= L[k].length /\ L[k].length <= 4) ?_ (fun hl4 => ?_)
   · refine ⟨fun b w' => w' = w6 /\ b = (!(decide (1 <= L[k].length) && decide (L[k].length <= 4))), ⟨hin, _, hld, af.of (fun h1 => ⟨rfl, ?_⟩) (fun h1 => ⟨hin, _, hld, rfl, ?_⟩)⟩, ?_⟩
     · have : ¬ 1 <= L[k].length := by simp at h1; omega
       simp [this]
     · have : 1 <= L[k].length := by simp at h1; omega
       rw [decide_eq_true this, Bool.true_and, Bool.eq_iff_iff]; simp; omega
     · intro b
       refine aE.of ?_ _
       rintro wj ⟨hwj, hb⟩
       rw [hwj, hb]; clear hwj hb
       refine af.of (fun h1 => none_end (hbad hmem ?_) h26 hB6) (fun h1 => ⟨rfl, by simpa using h1⟩)
       unfold bK
       have h1' : (decide (1 <= L[k].length) && decide (L[k].length <= 4)) = false := by simpa only [Bool.not_eq_true'] using h1
       rw [h1', Bool.false_and]
   · refine ⟨fun m v i w' => w' = w6 /\ ∃ j : Nat, j <= L[k].length /\ i = (j : Int) /\ m = L[k].length - j /\ v = ((js (L[k].take j) : Nat) : Int) /\ ∀ q (hq : q < j) (h : q < L[k].length), lQ (L[k][q]) = true,
       ⟨_, rfl, 0, by omega, rfl, rfl, rfl, fun q hq => by omega⟩, ?_⟩
     intro m v i
     refine aE.of ?_ _
     rintro wj ⟨hwj, j, hj, rfl, rfl, rfl, hx⟩
     rw [hwj]; clear hwj
     refine ⟨hin, _, hld, ?_⟩
     have hgl := rO hx (by omega)
     refine af.of (fun h5 => ?_) (fun h5 => ?_) <;> simp only [dTx, dFx] at h5
     · have hjl : j < L[k].length := by omega
       refine ⟨hin, _, hld, ⟨by omega, h5⟩, ?_⟩
       rw [fA hjl]
       refine ax (nj (L[k][j]) w6) ?_
       rintro _ w7 ⟨rfl, hw7⟩
       rw [hw7]
       refine ⟨_, rfl, ?_⟩
       by_cases hh : lQ (L[k][j]) = true
       · rw [if_pos hh]
         have h16 : pY (L[k][j]) < 16 := by simpa [lQ] using hh
         refine af.no (by simp) ⟨L[k].length - (j + 1), by omega, rfl, j + 1, by omega, by rw [ak (by omega) (by omega)]; omega, rfl, ?_, fun q hq hql => ?_⟩
         · rw [ak (n := _ * _) (by omega) (by omega), ak (by omega) (by omega), zt _ hjl]; omega
         · by_cases e : q = j
           · subst e; exact hh
           · exact hx q (by omega) hql
       · rw [if_neg hh]
         refine af.yes (by decide) (none_end (hbad hmem ?_) h26 hB6)
         unfold bK
         have : (L[k]).all lQ = false := by
           rw [Bool.eq_false_iff]
           intro hc
           exact hh (List.all_eq_true.1 hc _ (List.getElem_mem hjl))
         rw [this, Bool.and_false]
     · have : j = L[k].length := by omega
       subst this
       rw [List.take_length] at hgl ⊢
       have hg : bK L[k] = true := by
         unfold bK
         rw [decide_eq_true hl4.1, decide_eq_true hl4.2, Bool.true_and, Bool.true_and]
         exact List.all_eq_true.2 fun c hc => by
           obtain ⟨q, hq, rfl⟩ := List.mem_iff_getElem.1 hc
           exact hx q hq hq
       have hGk : (L.map js)[k]'(by omega) = js L[k] := by simp
       refine ⟨by decide, ?_⟩
       rintro _ rfl
       have e1 : i64.wrap (2 * (k : Int)) = ((2 * k : Nat) : Int) := by rw [ak (by omega) (by omega)]; omega
       have e2 : i64.wrap (((2 * k : Nat) : Int) + 1) = ((2 * k + 1 : Nat) : Int) := by rw [ak (by omega) (by omega)]; omega
       have e3 : IntKind.u8.wrap (i64.wrap (Int.tdiv ((js L[k] : Nat) : Int) 256)) = (((UInt8.ofNat (js L[k] / 256)).toNat : Nat) : Int) := by
         rw [oT (by omega), ak (by omega) (by omega), jL (by omega) (by omega), uK (by omega)]; omega
       have e4 : IntKind.u8.wrap (Int.tmod ((js L[k] : Nat) : Int) 256) = (((UInt8.ofNat (js L[k] % 256)).toNat : Nat) : Int) := by
         rw [oV (by omega), jL (by omega) (by omega), uK (by omega)]; omega
       rw [e1, e2, dH, dH, e3]
       simp only [Nat.zero_add]
       have hlen := qO hG hk
       obtain ⟨w8, hs8, h58, hg8⟩ := h56.put (P := prog) gu (i := 2 * k) (v := .int .u8 (((UInt8.ofNat (js L[k] / 256)).toNat : Nat) : Int)) (by rw [bu, hlen]; omega) rfl rfl
       rw [mV] at h58
       refine ⟨⟨⟨by omega, by omega⟩, trivial⟩, w8, hs8, by decide, ?_⟩
       rintro _ rfl
       rw [e4]
       obtain ⟨w9, hs9, h59, hg9⟩ := h58.put (P := prog) gu (i := 2 * k + 1) (v := .int .u8 (((UInt8.ofNat (js L[k] % 256)).toNat : Nat) : Int)) (by rw [bu, List.length_set, hlen]; omega) rfl rfl
       rw [mV, <- hGk, zr hG hk8] at h59
       refine ⟨⟨⟨by omega, by omega⟩, trivial⟩, w9, hs9, 8 - (k + 1), by omega, k + 1, by omega, by rw [ak (by omega) (by omega)]; omega, rfl, ?_, h59, (h26.grown hg8 (gt (by omega))).grown hg9 (gt (by omega)), (ho6.put hog hg8).put hog hg9, Below.put (Below.put hB6 hg8 hk5w) hg9 hk5w⟩
       intro q hq hql
       by_cases e : q = k
       · subst e; exact hg
       · exact hok q (by omega) hql
 · have : k = 8 := by omega
   subst this
   have hv : e8 s = true := by
     rw [he8]
     exact List.all_eq_true.2 fun x hx => by
       obtain ⟨j, hj, rfl⟩ := List.mem_iff_getElem.1 hx
       exact hok j (by omega) hj
   have hlen : (adC (Cn (L.map js) 8)).length = 16 := by rw [bu, qO hG (by omega)]
   refine ⟨_, aQ.load0 h56 hlen, ?_⟩
   exact aQ.fin (K := fun vr wy => (.tuple #[vr, .bool true] : Value) = adT (e8V s) /\ Below w.heap.size w wy) hlen (bT _) h26 rfl hB6 (by omega) fun wy hb => ⟨by rw [he8V hv, <- E7 hG]; rfl, hb⟩
end Go.Proofs.YtpafoodmpjlkhaaGreatDoor
namespace Go.Pk
theorem zh (s : List UInt8) : Ii (e8V s) := fun a h => by
 unfold e8V at h
 split at h
 · rename_i h8
   unfold e8 at h8
   rw [Bool.and_eq_true, dTx] at h8
   rw [<- Option.some.inj h, nK, List.length_map, h8.1]
 · cases h
end Go.Pk
namespace Go.Proofs.YtpafoodmpjlkhaaGreatDoor
open Go.Pk
open Go.RowKit (Below)
theorem rS (s : List UInt8) (hs : s.length <= 99999000) (w : World) : Calls prog jY #[.string (mkS s)] w (Ret fun v w' => v = adT (v6A s) /\ Below w.heap.size w w') := by
 apply qr
 unfold mA
 intro k2 w2 hk2 hw2
 have hB2 := (hw2 ▸ ah w _ : Below w.heap.size w w2)
 have h2 : am w2 k2 ai (adC ad0) := am.new hk2 hw2
 refine ax (iy s (by omega) w2) ?_
 rintro _ w3 ⟨rfl, hb3⟩
 have hB3 := ab hB2 hb3 hB2.size
 have h23 := h2.below hb3
 refine ⟨_, _, by rw [rc], ?_⟩
 refine aQ.new (zs := adC ad0) (cs := adC ((e8V s).getD ad0)) rfl (mL (zh s)) (bT _) w3 fun k4 w4 hk4 h44 hb4 => ?_
 have hB4 := ab hB3 hb4 hB3.size
 have h24 := h23.below hb4
 have zp : ∀ {x : List UInt8} {wx : World}, v6A s = some x -> am wx k2 ai (adC ad0) -> Below w.heap.size w wx -> _ := fun {x wx} hv h2x hBx => aQ.fin (K := fun vr wy => (.tuple #[vr, .bool true] : Value) = adT (v6A s) /\ Below w.heap.size w wy) (cs := adC x) (by rw [bu]; exact CS s _ hv) (bT _) h2x rfl hBx (by omega) fun wy hb => ⟨by rw [hv]; rfl, hb⟩
 refine af.of (fun h => ?_) (fun h => ?_)
 · have h8 : e8 s = true := by
     unfold e8V at h
     split at h
     · assumption
     · cases h
   refine ⟨_, aQ.load0 h44 (mL (zh s)), ?_⟩
   have he : e8V s = some (jN ((aZ 58 [] s).map js)) := if_pos h8
   rw [he]
   exact zp (x := jN ((aZ 58 [] s).map js)) (by unfold v6A; rw [Ia h8]; rfl) h24 hB4
 have h8 : e8 s = false := by
   unfold e8V at h
   split at h
   · cases h
   · rename_i hne; simpa using hne
 refine ⟨fun m i w' => ∃ k : Nat, k <= s.length /\ i = (k : Int) /\ m = s.length - k /\
     (∀ j, j < k -> at2 s j -> (∀ i, i < j -> ¬ at2 s i) -> ¬ (((bG (s.take j)).all bK = true /\ (bG (s.drop (j + 2))).all bK = true) /\ (bG (s.take j)).length + (bG (s.drop (j + 2))).length < 8)) /\
     am w' k2 ai (adC ad0) /\ Below w.heap.size w w', ⟨_, 0, by omega, rfl, rfl, fun j hj => by omega, h24, hB4⟩, ?_⟩
 intro m i
 refine aE.of ?_ _
 rintro w5 ⟨k, hk, rfl, rfl, hno, h25, hB5⟩
 have e2 : i64.wrap ((k : Int) + 2) = ((k + 2 : Nat) : Int) := by rw [ak (by omega) (by omega)]; omega
 have e1 : i64.wrap ((k : Int) + 1) = ((k + 1 : Nat) : Int) := by rw [ak (by omega) (by omega)]; omega
 rw [e2, e1]
 refine af.of (fun h => ?_) (fun h => ?_) <;> simp only [dTx, dFx] at h
 · have hk2' : k + 2 <= s.length := by omega
   have hk0 : k < s.length := by omega
   have hk1 : k + 1 < s.length := by omega
   have hstep : ∀ {wx : World}, (at2 s k -> (∀ i, i < k -> ¬ at2 s i) -> ¬ (((bG (s.take k)).all bK = true /\ (bG (s.drop (k + 2))).all bK = true) /\ (bG (s.take k)).length + (bG (s.drop (k + 2))).length < 8)) ->
       am wx k2 ai (adC ad0) -> Below w.heap.size w wx -> ∃ m' : Nat, m' < s.length - k /\ ∃ k' : Nat, k' <= s.length /\ ((k + 1 : Nat) : Int) = (k' : Int) /\ m' = s.length - k' /\
     (∀ j, j < k' -> at2 s j -> (∀ i, i < j -> ¬ at2 s i) -> ¬ (((bG (s.take j)).all bK = true /\ (bG (s.drop (j + 2))).all bK = true) /\ (bG (s.take j)).length + (bG (s.drop (j + 2))).length < 8)) /\
     am wx k2 ai (adC ad0) /\ Below w.heap.size w wx := fun {wx} hc h2x hBx => ⟨s.length - (k + 1), by omega, k + 1, by omega, rfl, rfl, fun j hj => by
       by_cases e : j = k
       · subst e; exact hc
       · exact hno j (by omega), h2x, hBx⟩
   have u0 := pz s[k] 58
   have u1 := pz s[k + 1] 58
   rw [show (((58 : UInt8).toNat : Nat) : Int) = 58 from rfl] at u0 u1
   refine tN (w := w5) (at2 s k) ⟨⟨by omega, by omega⟩, ?_⟩ (fun hat => ?_)
   · rw [fA hk0, bne, u0]
     refine af.of (fun hx => hstep (fun hat => ?_) h25 hB5) (fun hx => ⟨⟨by omega, by omega⟩, ?_⟩)
     · have := hat.1
       rw [List.getElem?_eq_getElem hk0] at this
       rw [Option.some.inj this] at hx; simp at hx
     · rw [fA hk1, bne, u1]
       refine af.of (fun hy => hstep (fun hat => ?_) h25 hB5) (fun hy => ⟨rfl, ?_⟩)
       · have := hat.2
         rw [List.getElem?_eq_getElem hk1] at this
         rw [Option.some.inj this] at hy; simp at hy
       · exact ⟨by rw [List.getElem?_eq_getElem hk0]; simp at hx; rw [hx], by rw [List.getElem?_eq_getElem hk1]; simp at hy; rw [hy]⟩
   · refine ⟨⟨by omega, by omega⟩, ?_⟩
     intro s40 e40
     refine ⟨⟨by omega, by omega⟩, ?_⟩
     intro s44 e44
     simp only [Int.toNat_natCast] at e40 e44
     have l40 : s40.length <= s.length := by rw [e40, List.length_take]; omega
     have l44 : s44.length <= s.length := by rw [e44, List.length_drop]; omega
     have l4 : s40.length + s44.length + 2 = s.length := by rw [e40, e44, List.length_take, List.length_drop]; omega
     refine HZ (B := fun J => af _ (_ /\ ∀ s48, s48 = (s40 ++ [58]) -> J s48 w5) (J s40 w5)) (kr s40) (af.of (fun hx => ⟨lB (by simp; omega), ?_⟩) (fun hx => ⟨rfl, ?_⟩)) ?_
     · rintro _ rfl
       exact ⟨rfl, by unfold kr; rw [if_neg (by simpa using hx)]⟩
     · unfold kr; rw [if_pos (by simpa using hx)]; simpa using hx
     refine HZ (B := fun J => af _ (_ /\ ∀ s48, s48 = ([58] ++ s44) -> J s48 w5) (J s44 w5)) (rG s44) (af.of (fun hx => ⟨lB (by simp; omega), ?_⟩) (fun hx => ⟨rfl, ?_⟩)) ?_
     · rintro _ rfl
       exact ⟨rfl, by unfold rG; rw [if_neg (by simpa using hx)]; rfl⟩
     · unfold rG; rw [if_pos (by simpa using hx)]; simpa using hx
     have lf : (kr s40).length <= s40.length + 1 := by unfold kr; split <;> simp
     have lb : (rG s44).length <= s44.length + 1 := by unfold rG; split <;> simp
     refine ⟨fun m z i w' => ∃ q : Nat, q <= 8 /\ i = (q : Int) /\ m = 8 - q /\ z = zsK q /\ (∀ j, j < q -> e8 (sS s40 s44 j) = false) /\ am w' k2 ai (adC ad0) /\ Below w.heap.size w w', ⟨_, 0, by omega, rfl, rfl, rfl, fun j hj => by omega, h25, hB5⟩, ?_⟩
     intro m z i
     refine aE.of ?_ _
     rintro w6 ⟨q, hq, rfl, rfl, rfl, hq8, h26, hB6⟩
     have hzl := BM q
     refine af.of (fun h5 => ?_) (fun h5 => ?_) <;> simp only [dTx, dFx] at h5
     · refine ⟨lB (by omega), ?_⟩
       intro s60 e60
       have l60 : s60.length = (kr s40).length + (zsK q).length := by rw [e60, List.length_append]
       refine ⟨lB (by omega), ?_⟩
       intro s62 e62
       have f62 : s62 = sS s40 s44 q := by rw [e62, e60]; rfl
       have l62 : s62.length <= 100000000 := by rw [e62, List.length_append]; omega
       refine ax (iy s62 l62 w6) ?_
       rintro _ w7 ⟨rfl, hb7⟩
       have hB7 := ab hB6 hb7 hB6.size
       rw [f62]
       refine ⟨_, _, by rw [rc], ?_⟩
       refine aQ.new (zs := adC ad0) (cs := adC ((e8V (sS s40 s44 q)).getD ad0)) rfl (mL (zh _)) (bT _) w7 fun k11 w8 hk11 h118 hb8 => ?_
       have hB8 := ab hB7 hb8 hB7.size
       have h28 := (h26.below hb7).below hb8
       by_cases ht : e8 (sS s40 s44 q) = true
       · have he : e8V (sS s40 s44 q) = some (jN ((aZ 58 [] (sS s40 s44 q)).map js)) := if_pos ht
         have hl := mL (zh (sS s40 s44 q))
         rw [he] at h118 hl ⊢
         refine af.yes rfl ⟨_, aQ.load0 h118 hl, ?_⟩
         refine zp (x := jN ((aZ 58 [] (sS s40 s44 q)).map js)) ?_ h28 hB8
         have ht2 := (vT s40 s44 q).1 ht
         rw [CT ht]
         have hfirst : ∀ j, j < k -> ¬ at2 s j := fun j hj hc => by
           have := Jk hc hj hat
           rw [<- e40, ht2.1.1] at this; cases this
         unfold v6A
         rw [FX hat hfirst, <- e40, <- e44, if_pos ⟨ht2.1, by omega⟩]; rfl
       · have he : e8V (sS s40 s44 q) = none := if_neg ht
         rw [he] at h118 ⊢
         refine af.no rfl ⟨lB (by simp; omega), ?_⟩
         rintro _ rfl
         refine ⟨8 - (q + 1), by omega, q + 1, by omega, by rw [ak (by omega) (by omega)]; omega, rfl, rfl, fun j hj => ?_, h28, hB8⟩
         by_cases e : j = q
         · subst e; simpa using ht
         · exact hq8 j (by omega)
     · have : q = 8 := by omega
       subst this
       refine hstep (fun _ hfirst hc => ?_) h26 hB6
       rw [<- e40, <- e44] at hc
       have := (vT s40 s44 (7 - (bG s40).length - (bG s44).length)).2 ⟨hc.1, by omega⟩
       rw [hq8 _ (by omega)] at this; cases this
 · have hv : v6A s = none := by
     unfold v6A
     rcases lh s with ⟨h1, h2⟩ | ⟨p, h1, h2, h3, h4⟩
     · rw [Ib h8 h2]; rfl
     · rw [FX h2 h3, if_neg (hno p (by omega) h2 h3)]; rfl
   exact aQ.fin (K := fun vr wy => (.tuple #[vr, .bool false] : Value) = adT (v6A s) /\ Below w.heap.size w wy) (cs := adC ad0) rfl (bT _) h25 rfl hB5 (by omega) fun wy hb => ⟨by rw [hv]; rfl, hb⟩
end Go.Proofs.YtpafoodmpjlkhaaGreatDoor
namespace Go.Pk
theorem zf {n : Nat} (h : n < 10) : xC n = [UInt8.ofNat (48 + n)] := Lib.decDigits_one h
theorem vM {n : Nat} (h : ¬ n < 10) : xC n = xC (n / 10) ++ [UInt8.ofNat (48 + n % 10)] := by
 show Lib.decDigits n = _
 rw [Lib.decDigits, dif_neg h]
end Go.Pk
namespace Go.Proofs.YtpafoodmpjlkhaaGreatDoor
open Go.Pk
open Go.RowKit (Below)
theorem gX {w w8 : World} {k8 : Nat} {d : Nat} (hd : d < 10) {x : Int} (hx : x = (d : Int)) (hk : k8 = w.heap.size) (hw : w8 = w.alloc (.cells #[.int .u8 (IntKind.u8.wrap (i64.wrap ((48 : Int) + x)))] aF)) :
   ∀ u, Below w8.heap.size w8 u -> (convert aV ar (.slice (some ⟨k8, 0, none⟩) 1 1)).run prog u = .ok (.string (mkS [UInt8.ofNat (48 + d)])) u := by
 intro u hu
 have e : IntKind.u8.wrap (i64.wrap ((48 : Int) + x)) = (((UInt8.ofNat (48 + d)).toNat : Nat) : Int) := by
   rw [hx, ak (by omega) (by omega), jL (by omega) (by omega), uK (by omega)]; omega
 rw [e] at hw
 have ho : Ow tU8 aF w8 NoB (some ⟨k8, 0, none⟩) 1 1 [UInt8.ofNat (48 + d)] := Ow.newF rN hk hw (gw.one (sK rfl)) (show 1 <= maxLen by decide)
 exact oU cD aC bF (ho.below hu).all
theorem cg : ∀ (n : Nat) (h : n <= 9223372036854775807) (w : World), Calls prog aM #[.int .i64 (n : Int)] w (Ret fun v w' => v = .string (mkS (xC n)) /\ Below w.heap.size w w')
 | n, hn, w => by
   apply j7
   unfold gg
   refine af.of (fun h => ?_) (fun h => ?_) <;> simp only [dTx, dFx] at h
   · intro k8 w8 hk8 hw8
     refine ⟨_, gX (d := n) (by omega) rfl hk8 hw8 w8 (Below.refl _ _), ?_⟩
     rw [zf (by omega)]
     exact ⟨rfl, hw8 ▸ ah _ _⟩
   · have hlt : n / 10 < n := by omega
     refine ⟨by decide, ?_⟩
     rintro _ rfl
     refine ⟨by decide, ?_⟩
     rintro _ rfl
     have e1 : i64.wrap (Int.tdiv (n : Int) 10) = ((n / 10 : Nat) : Int) := by rw [oT (by omega), ak (by omega) (by omega)]; omega
     have e2 : Int.tmod (n : Int) 10 = ((n % 10 : Nat) : Int) := by rw [oV (by omega)]; omega
     rw [e1, e2, vM (by omega)]
     have hd : Below w.heap.size w (World.drew w) := qN rfl rfl rfl (Nat.le_refl _) (fun _ _ => rfl)
     have hl := iT (n := n / 10) (by omega)
     refine ⟨?_, ?_⟩
     · refine ax (cg (n / 10) (by omega) (World.drew w)) ?_
       rintro _ w1 ⟨rfl, hb1⟩
       refine ⟨_, rfl, ?_⟩
       intro k8 w8 hk8 hw8
       refine ⟨_, gX (d := n % 10) (by omega) rfl hk8 hw8 w8 (Below.refl _ _), lB (by simp; omega), ?_⟩
       rintro _ rfl
       have hB1 := ab hd hb1 hd.size
       exact ⟨rfl, ab hB1 (hw8 ▸ ah _ _) hB1.size⟩
     · intro k8 w8 hk8 hw8
       have hb8 : Below (World.drew w).heap.size (World.drew w) w8 := hw8 ▸ ah _ _
       have hB8 := ab hd hb8 hd.size
       refine ⟨?_, _, gX (d := n % 10) (by omega) rfl hk8 hw8 w8 (Below.refl _ _), ?_⟩
       · refine ax (cg (n / 10) (by omega) w8) ?_
         rintro _ w1 ⟨rfl, hb1⟩
         refine ⟨_, rfl, _, gX (d := n % 10) (by omega) rfl hk8 hw8 w1 hb1, lB (by simp; omega), ?_⟩
         rintro _ rfl
         exact ⟨rfl, ab hB8 hb1 hB8.size⟩
       · refine ax (cg (n / 10) (by omega) w8) ?_
         rintro _ w1 ⟨rfl, hb1⟩
         refine ⟨_, rfl, lB (by simp; omega), ?_⟩
         rintro _ rfl
         exact ⟨rfl, ab hB8 hb1 hB8.size⟩
 termination_by n => n
theorem nh (a : List UInt8) (ha : a.length = 16) (w : World) : Calls prog fE #[adV a] w (Ret fun v w' => v = .string (mkS (uH a)) /\ Below w.heap.size w w') := by
 apply me
 unfold iI
 intro k1 w1 hk1 hw1
 have hB1 := (hw1 ▸ ah w _ : Below w.heap.size w w1)
 have h1 : am w1 k1 ai (adC a) := am.new hk1 hw1
 have ld : ∀ (i : Nat) (hi : i < a.length) (u : World), Below w1.heap.size w1 u -> (Instr.loadAt aF (.pointer (ao (some ⟨k1, 0, none⟩) (i : Int) 1))).run prog u = .ok (.int .u8 ((a[i].toNat : Nat) : Int)) u := fun i hi u hu => by
   rw [dH, Nat.zero_add]
   exact (h1.below hu).load1 bF rfl (pC hi)
 have dc : ∀ (c : UInt8) (u : World), Below w1.heap.size w1 u -> Calls prog aM #[.int .i64 (i64.wrap ((c.toNat : Nat) : Int))] u fun e w' => e = .returned (.string (mkS (xC c.toNat))) /\ Below w1.heap.size u w' := fun c u hu => by
   have := jP c
   rw [ak (by omega) (by omega)]
   exact iv (cg c.toNat (by omega) u) hu
 have l12 := iT (n := a[12].toNat) (by have := jP a[12]; omega)
 have l13 := iT (n := a[13].toNat) (by have := jP a[13]; omega)
 have l14 := iT (n := a[14].toNat) (by have := jP a[14]; omega)
 have l15 := iT (n := a[15].toNat) (by have := jP a[15]; omega)
 refine ⟨⟨⟨by decide, by decide⟩, rfl⟩, _, ld 12 (by omega), _, dc _, lB (by simp; omega), ?_⟩
 rintro _ rfl
 refine ⟨⟨⟨by decide, by decide⟩, rfl⟩, _, ld 13 (by omega), _, dc _, lB (by simp; omega), ?_⟩
 rintro _ rfl
 refine ⟨lB (by simp; omega), ?_⟩
 rintro _ rfl
 refine ⟨⟨⟨by decide, by decide⟩, rfl⟩, _, ld 14 (by omega), _, dc _, lB (by simp; omega), ?_⟩
 rintro _ rfl
 refine ⟨lB (by simp; omega), ?_⟩
 rintro _ rfl
 refine ⟨⟨⟨by decide, by decide⟩, rfl⟩, _, ld 15 (by omega), _, dc _, lB (by simp; omega), ?_⟩
 rintro _ rfl
 intro wq hwq
 rw [r8 ha]
 exact ⟨by simp only [List.append_assoc], ab hB1 hwq hB1.size⟩
end Go.Proofs.YtpafoodmpjlkhaaGreatDoor
namespace Go.Pk
theorem pX : ∀ d : Nat, d < 16 -> (([48, 49, 50, 51, 52, 53, 54, 55, 56, 57, 97, 98, 99, 100, 101, 102] : List UInt8).take (d + 1)).drop d = [Fc d] := by decide
end Go.Pk
namespace Go.Proofs.YtpafoodmpjlkhaaGreatDoor
open Go.Pk
open Go.RowKit (Below)
theorem ks : ∀ (n : Nat) (h : n < 65536) (w : World), Calls prog fH #[.int .i64 (n : Int)] w (Ret fun v w' => v = .string (mkS (tT n)) /\ Below w.heap.size w w')
 | n, hn, w => by
   apply oN
   unfold kE
   refine af.of (fun h => ?_) (fun h => ?_) <;> simp only [dTx, dFx] at h
   · have e : i64.wrap ((n : Int) + 1) = ((n + 1 : Nat) : Int) := by rw [ak (by omega) (by omega)]; omega
     rw [e]
     refine ⟨⟨⟨by omega, by simp; omega⟩, by omega, by omega⟩, ?_⟩
     rintro _ rfl
     simp only [Int.toNat_natCast]
     rw [pX n (by omega), sq (by omega)]
     exact ⟨rfl, Below.refl _ _⟩
   · have hlt : n / 16 < n := by omega
     have e1 : i64.wrap (Int.tdiv (n : Int) 16) = ((n / 16 : Nat) : Int) := by rw [oT (by omega), ak (by omega) (by omega)]; omega
     have e2 : Int.tmod (n : Int) 16 = ((n % 16 : Nat) : Int) := by rw [oV (by omega)]; omega
     refine ⟨by decide, ?_⟩
     rintro _ rfl
     rw [e1, e2]
     have hl := qP (n := n / 16) (by omega)
     refine ⟨_, fun u hu => iv (ks (n / 16) (by omega) u) hu, by decide, ?_⟩
     rintro _ rfl
     refine ⟨by decide, ?_⟩
     rintro _ rfl
     have e : i64.wrap (((n % 16 : Nat) : Int) + 1) = ((n % 16 + 1 : Nat) : Int) := by rw [ak (by omega) (by omega)]; omega
     rw [e]
     refine ⟨⟨⟨by omega, by simp; omega⟩, by omega, by omega⟩, ?_⟩
     rintro _ rfl
     simp only [Int.toNat_natCast]
     rw [pX (n % 16) (by omega)]
     refine ⟨lB (by simp; omega), ?_⟩
     rintro _ rfl
     intro wq hwq
     rw [lL (n := n) (by omega)]
     exact ⟨rfl, hwq⟩
 termination_by n => n
end Go.Proofs.YtpafoodmpjlkhaaGreatDoor
namespace Go.Pk
theorem pD (zs : List Bool) (p l : Nat) : BN zs p (l + 1) = (BN zs p l && zs.getD (p + l) false) := by
 unfold BN; rw [List.range_succ, List.all_append]; simp
theorem CW (a : List UInt8) {k : Nat} (h : k < 8) : (zsA a).getD k false = (qW a k == 0) := by
 unfold zsA
 rw [List.getD_eq_getElem?_getD, List.getElem?_map, List.getElem?_eq_getElem (by rw [pW]; exact h), yv]; rfl
theorem qf (sep : List UInt8) (r : List (List UInt8)) (y : List UInt8) : Lib.joinTail sep (r ++ [y]) = Lib.joinTail sep r ++ (sep ++ y) := by simp [Lib.joinTail]
theorem Ah (l : List Nat) (x : Nat) : wrL (l ++ [x]) = if l = [] then tT x else wrL l ++ [58] ++ tT x := by
 unfold wrL
 cases l with
 | nil => simp [Lib.join_one]
 | cons y r =>
   rw [if_neg (by simp), List.map_append, List.map_cons, List.cons_append, List.map_cons, List.map_nil, Lib.join_cons, Lib.join_cons, qf]
   simp
end Go.Pk
namespace Go.Proofs.YtpafoodmpjlkhaaGreatDoor
open Go.Pk
open Go.RowKit (Below)
theorem ix (a : List UInt8) (ha : a.length = 16) (k : Nat) (hk : k < 8) (w : World) : Calls prog dq #[adV a, .int .i64 (k : Int)] w (Ret fun v w' => v = .int .i64 ((qW a k : Nat) : Int) /\ Below w.heap.size w w') := by
 apply mc
 unfold iH
 intro k1 w1 hk1 hw1
 have hB1 := (hw1 ▸ ah w _ : Below w.heap.size w w1)
 have h1 : am w1 k1 ai (adC a) := am.new hk1 hw1
 have e1 : i64.wrap (2 * (k : Int)) = ((2 * k : Nat) : Int) := by rw [ak (by omega) (by omega)]; omega
 have e2 : i64.wrap (((2 * k : Nat) : Int) + 1) = ((2 * k + 1 : Nat) : Int) := by rw [ak (by omega) (by omega)]; omega
 rw [e1, e2, dH, dH, Nat.zero_add, Nat.zero_add]
 refine ⟨⟨⟨by omega, by omega⟩, rfl⟩, _, fun u hu => (h1.below hu).load1 bF rfl (pC (a := a) (i := 2 * k) (by omega)), ⟨⟨by omega, by omega⟩, rfl⟩, _, fun u hu => (h1.below hu).load1 bF rfl (pC (a := a) (i := 2 * k + 1) (by omega)), fun wq hwq => ⟨?_, ab hB1 hwq hB1.size⟩⟩
 have u1 := jP (a[2 * k]'(by omega))
 have u2 := jP (a[2 * k + 1]'(by omega))
 have hval : (a[2 * k]'(by omega)).toNat * 256 + (a[2 * k + 1]'(by omega)).toNat = qW a k := by
   unfold qW
   rw [List.getD_eq_getElem?_getD, List.getD_eq_getElem?_getD, List.getElem?_eq_getElem (by omega), List.getElem?_eq_getElem (by omega)]; rfl
 rw [<- hval, ak (n := (((a[2 * k]'(by omega)).toNat : Nat) : Int)) (by omega) (by omega), ak (n := (((a[2 * k + 1]'(by omega)).toNat : Nat) : Int)) (by omega) (by omega), ak (n := _ * _) (by omega) (by omega), ak (by omega) (by omega)]
 congr 1
theorem fS (a : List UInt8) (ha : a.length = 16) (p q : Nat) (hpq : p <= q) (hq : q <= 8) (w : World) : Calls prog bJ #[adV a, .int .i64 (p : Int), .int .i64 (q : Int)] w
   (Ret fun v w' => v = .string (mkS (wrL (((gL a).drop p).take (q - p)))) /\ Below w.heap.size w w') := by
 apply nq
 unfold jC
 intro k1 w1 hk1 hw1
 have hB1 := (hw1 ▸ ah w _ : Below w.heap.size w w1)
 have h1 : am w1 k1 ai (adC a) := am.new hk1 hw1
 have hgl := pW a
 have hbx : ∀ j, ∀ x ∈ ((gL a).drop p).take j, x < 65536 := fun j x hx => uY a x (List.mem_of_mem_drop (List.mem_of_mem_take hx))
 refine ⟨fun m s i w' => ∃ j : Nat, j <= q - p /\ i = ((p + j : Nat) : Int) /\ m = q - p - j /\ s = wrL (((gL a).drop p).take j) /\ Below w1.heap.size w1 w', ⟨_, 0, by omega, rfl, rfl, rfl, Below.refl _ _⟩, ?_⟩
 intro m s i
 refine aE.of ?_ _
 rintro w2 ⟨j, hj, rfl, rfl, rfl, hB2⟩
 have hl := kQ (hbx j)
 rw [List.length_take, List.length_drop] at hl
 refine af.of (fun h => ?_) (fun h => ?_) <;> simp only [dTx, dFx] at h
 · have hlt : p + j < q := by omega
   refine HZ (B := fun J => af _ (_ /\ ∀ s19, s19 = (_ ++ [58]) -> J s19 w2) (J _ w2)) (if j = 0 then [] else wrL (((gL a).drop p).take j) ++ [58]) (af.of (fun hx => ⟨lB (by simp; omega), ?_⟩) (fun hx => ⟨rfl, ?_⟩)) ?_
   · rintro _ rfl
     simp only [gt_iff_lt, dTx] at hx
     exact ⟨rfl, by rw [if_neg (by omega)]⟩
   · simp only [gt_iff_lt, dFx] at hx
     have : j = 0 := by omega
     subst this
     rw [if_pos rfl]; rfl
   · refine ⟨_, aQ.load0 (h1.below hB2) (by rw [bu, ha]), ?_⟩
     refine ax (ix a ha (p + j) (by omega) w2) ?_
     rintro _ w3 ⟨rfl, hb3⟩
     have hB3 := ab hB2 hb3 hB2.size
     refine ⟨_, rfl, ?_⟩
     refine ax (ks (qW a (p + j)) (wm _ _) w3) ?_
     rintro _ w4 ⟨rfl, hb4⟩
     have hB4 := ab hB3 hb4 hB3.size
     have hl4 := qP (wm a (p + j))
     refine ⟨_, rfl, lB (by split <;> simp <;> omega), ?_⟩
     rintro _ rfl
     refine ⟨q - p - (j + 1), by omega, j + 1, by omega, by rw [ak (by omega) (by omega)]; omega, rfl, ?_, hB4⟩
     have hjd : j < ((gL a).drop p).length := by rw [List.length_drop]; omega
     rw [List.take_succ_eq_append_getElem hjd, Ah, List.getElem_drop, yv]
     by_cases hj0 : j = 0
     · subst hj0; rfl
     · rw [if_neg hj0, if_neg]
       intro e
       have := congrArg List.length e
       rw [List.length_take] at this; simp at this; omega
 · have : j = q - p := by omega
   subst this
   exact ⟨rfl, ab hB1 hB2 hB1.size⟩
theorem ni (a : List UInt8) (ha : a.length = 16) (w : World) : Calls prog fF #[adV a] w (Ret fun v w' => v = .string (mkS (sQ a)) /\ Below w.heap.size w w') := by
 apply mf
 unfold iJ
 intro k1 w1 hk1 hw1
 have hB1 := (hw1 ▸ ah w _ : Below w.heap.size w w1)
 have h1 : am w1 k1 ai (adC a) := am.new hk1 hw1
 have ha16 : (adC a).length = 16 := by rw [bu, ha]
 have hgl := pW a
 obtain ⟨z1, z2, z3⟩ := uw (CX a)
 have ht : sQ a = if (bN (zsA a)).2 < 2 then wrL (gL a) else wrL ((gL a).take (bN (zsA a)).1) ++ [58, 58] ++ wrL ((gL a).drop ((bN (zsA a)).1 + (bN (zsA a)).2)) := rfl
 refine ⟨fun m i w' => ∃ L : Nat, 1 <= L /\ L <= 8 /\ i = (L : Int) /\ m = L /\ (∀ L' A, L < L' -> A + L' <= 8 -> BN (zsA a) A L' = false) /\ Below w1.heap.size w1 w', ⟨_, 8, by omega, by omega, rfl, rfl, fun L' A h1 h2 => by omega, Below.refl _ _⟩, ?_⟩
 intro m i
 refine aE.of ?_ _
 rintro w2 ⟨L, hL1, hL8, rfl, hm, hlong, hB2⟩
 obtain rfl : L = m := hm.symm
 refine af.of (fun h => ?_) (fun h => ?_) <;> simp only [ge_iff_le, dTx, dFx] at h
 · have hL2 : 2 <= L := by omega
   refine ⟨fun m i w' => ∃ A : Nat, A + L <= 9 /\ i = (A : Int) /\ m = 9 - A /\ (∀ A', A' < A -> BN (zsA a) A' L = false) /\ Below w1.heap.size w1 w', ⟨_, 0, by omega, rfl, rfl, fun A' h => by omega, hB2⟩, ?_⟩
   intro m i
   refine aE.of ?_ _
   rintro w3 ⟨A, hA, rfl, rfl, hearly, hB3⟩
   have eAL : i64.wrap ((A : Int) + (L : Int)) = ((A + L : Nat) : Int) := by rw [ak (by omega) (by omega)]; omega
   rw [eAL]
   refine af.of (fun h2 => ?_) (fun h2 => ?_) <;> simp only [dTx, dFx] at h2
   · have hAL : A + L <= 8 := by omega
     refine ⟨fun m b i w' => ∃ j : Nat, j <= L /\ i = ((A + j : Nat) : Int) /\ m = L - j /\ b = BN (zsA a) A j /\ Below w1.heap.size w1 w', ⟨_, 0, by omega, rfl, rfl, rfl, hB3⟩, ?_⟩
     intro m b i
     refine aE.of ?_ _
     rintro w4 ⟨j, hj, rfl, rfl, rfl, hB4⟩
     have ew : i64.wrap (((A + j : Nat) : Int) + 1) = ((A + (j + 1) : Nat) : Int) := by rw [ak (by omega) (by omega)]; omega
     rw [ew]
     refine af.of (fun h3 => ?_) (fun h3 => ?_) <;> simp only [dTx, dFx] at h3
     · have hjL : j < L := by omega
       refine af.of (fun h4 => ?_) (fun h4 => ?_)
       · refine ⟨_, aQ.load0 (h1.below hB4) ha16, ?_⟩
         refine ax (ix a ha (A + j) (by omega) w4) ?_
         rintro _ w5 ⟨rfl, hb5⟩
         refine ⟨_, rfl, L - (j + 1), by omega, j + 1, by omega, rfl, rfl, ?_, ab hB4 hb5 hB4.size⟩
         rw [pD, h4, Bool.true_and, CW a (by omega), Bool.eq_iff_iff]
         simp
       · exact ⟨L - (j + 1), by omega, j + 1, by omega, rfl, rfl, by rw [pD, h4, Bool.false_and], hB4⟩
     · have : j = L := by omega
       subst this
       refine af.of (fun h4 => ?_) (fun h4 => ?_)
       · have hu := z3 j A hL2 hAL h4
         have hAz : j = (bN (zsA a)).2 /\ A = (bN (zsA a)).1 := by
           rcases hu with hu | ⟨hu1, hu2⟩
           · exfalso
             have := z2 (by omega)
             rw [hlong _ _ hu z1] at this; cases this
           · refine ⟨hu1, ?_⟩
             rcases Nat.lt_or_ge (bN (zsA a)).1 A with hc | hc
             · exfalso
               have := z2 (by omega)
               rw [<- hu1, hearly _ hc] at this; cases this
             · omega
         have l1 := kQ (l := (gL a).take A) fun x hx => uY a x (List.mem_of_mem_take hx)
         have l2 := kQ (l := (gL a).drop (A + j)) fun x hx => uY a x (List.mem_of_mem_drop hx)
         rw [List.length_take] at l1
         rw [List.length_drop] at l2
         have hp1 : ∀ u, Below w4.heap.size w4 u -> Calls prog bJ #[adV a, .int .i64 (0 : Int), .int .i64 (A : Int)] u fun e w' => e = .returned (.string (mkS (wrL ((gL a).take A)))) /\ Below w4.heap.size u w' := fun u hu => by
           have := fS a ha 0 A (by omega) (by omega) u
           rw [List.drop_zero, Nat.sub_zero] at this
           exact iv this hu
         have hp2 : ∀ u, Below w4.heap.size w4 u -> Calls prog bJ #[adV a, .int .i64 ((A + j : Nat) : Int), .int .i64 (8 : Int)] u fun e w' => e = .returned (.string (mkS (wrL ((gL a).drop (A + j))))) /\ Below w4.heap.size u w' := fun u hu => by
           have := fS a ha (A + j) 8 (by omega) (by omega) u
           rw [List.take_of_length_le (by rw [List.length_drop]; omega)] at this
           exact iv this hu
         refine ⟨_, fun u hu => aQ.load0 ((h1.below hB4).below hu) ha16, _, hp1, lB (by simp; omega), ?_⟩
         rintro _ rfl
         refine ⟨_, fun u hu => aQ.load0 ((h1.below hB4).below hu) ha16, _, hp2, lB (by simp; omega), ?_⟩
         rintro _ rfl
         intro wq hwq
         have hq := ab hB4 hwq hB4.size
         refine ⟨?_, ab hB1 hq hB1.size⟩
         rw [ht, if_neg (by omega), <- hAz.1, <- hAz.2]
       · refine ⟨9 - (A + 1), by omega, A + 1, by omega, by rw [ak (by omega) (by omega)]; omega, rfl, fun A' hA' => ?_, hB4⟩
         by_cases e : A' = A
         · subst e; exact h4
         · exact hearly A' (by omega)
   · refine ⟨L - 1, by omega, L - 1, by omega, by omega, by rw [ak (by omega) (by omega)]; omega, rfl, fun L' A' hl ha' => ?_, hB3⟩
     by_cases e : L' = L
     · subst e; exact hearly A' (by omega)
     · exact hlong L' A' (by omega) ha'
 · refine ⟨_, aQ.load0 (h1.below hB2) ha16, ?_⟩
   have := fS a ha 0 8 (by omega) (by omega) w2
   rw [List.drop_zero, List.take_of_length_le (by omega)] at this
   refine ax this ?_
   rintro _ w5 ⟨rfl, hb5⟩
   have hq := ab hB2 hb5 hB2.size
   refine ⟨_, rfl, ?_, ab hB1 hq hB1.size⟩
   rw [ht, if_pos]
   refine Decidable.byContradiction fun hc => ?_
   have := z2 (by omega)
   rw [hlong _ _ (by omega) z1] at this; cases this
end Go.Proofs.YtpafoodmpjlkhaaGreatDoor
namespace Go.Proofs.YtpafoodmpjlkhaaGreatDoor
open Go.Pk
open Go.RowKit (Below)
theorem nl (s : List UInt8) (hs : s.length <= 9223372036854775800) (w : World) : Calls prog fJ #[.string (mkS s)] w (Ret fun v w' => v = .bool (aX s) /\ w' = w) := by
 apply mn
 unfold iP
 refine ⟨fun m i w' => ∃ k : Nat, k <= s.length /\ i = (k : Int) /\ m = s.length - k /\ (s.take k).all fQ = true /\ w' = w, ⟨_, 0, by omega, rfl, rfl, rfl, rfl⟩, ?_⟩
 intro m i
 refine aE.of ?_ _
 rintro w' ⟨k, hk, rfl, rfl, hno, hw'⟩
 rw [hw']; clear hw'
 refine af.of (fun h => ?_) (fun h => ?_) <;> simp only [dTx, dFx] at h
 · have hlt : k < s.length := by omega
   rw [fA hlt]
   have e45 := pz s[k] 45
   have e95 := pz s[k] 95
   rw [show (((45 : UInt8).toNat : Nat) : Int) = 45 from rfl] at e45
   rw [show (((95 : UInt8).toNat : Nat) : Int) = 95 from rfl] at e95
   simp only [bne, e45, e95]
   have zp : fQ s[k] = true -> ∃ m' : Nat, m' < s.length - k /\ ∃ k2 : Nat, k2 <= s.length /\ i64.wrap ((k : Int) + 1) = (k2 : Int) /\ m' = s.length - k2 /\ (s.take k2).all fQ = true /\ True := fun hc =>
     ⟨s.length - (k + 1), by omega, k + 1, by omega, by rw [ak (by omega) (by omega)]; omega, rfl, by rw [List.take_succ_eq_append_getElem hlt, List.all_append, hno]; simp [hc], trivial⟩
   have bad : fQ s[k] = false -> (.bool false : Value) = .bool (aX s) /\ True := fun hc => ⟨by
     have : s.all fQ = false := by
       rw [Bool.eq_false_iff]
       intro hx
       rw [List.all_eq_true.1 hx _ (List.getElem_mem hlt)] at hc; cases hc
     unfold aX; rw [this, Bool.and_false], trivial⟩
   refine ⟨⟨by omega, h⟩, ?_⟩
   generalize s[k] = c at *
   have tail : ¬ (97 <= c.toNat /\ c.toNat <= 122) -> ¬ (48 <= c.toNat /\ c.toNat <= 57) -> af (!(c == 45)) (af (!(c == 95)) ((.bool false : Value) = .bool (aX s) /\ True) (∃ m' : Nat, m' < s.length - k /\ ∃ k2 : Nat, k2 <= s.length /\ i64.wrap ((k : Int) + 1) = (k2 : Int) /\ m' = s.length - k2 /\ (s.take k2).all fQ = true /\ True)) (∃ m' : Nat, m' < s.length - k /\ ∃ k2 : Nat, k2 <= s.length /\ i64.wrap ((k : Int) + 1) = (k2 : Int) /\ m' = s.length - k2 /\ (s.take k2).all fQ = true /\ True) := fun n1 n2 => by
     have d1 : (decide (97 <= c.toNat) && decide (c.toNat <= 122)) = false := by rw [Bool.eq_false_iff]; intro hc; simp at hc; exact n1 hc
     have d2 : (decide (48 <= c.toNat) && decide (c.toNat <= 57)) = false := by rw [Bool.eq_false_iff]; intro hc; simp at hc; exact n2 hc
     have hc : fQ c = (c == 45 || c == 95) := by unfold fQ; rw [d1, d2]; simp
     rw [hc] at zp bad
     refine af.of (fun h4 => af.of (fun h5 => bad ?_) (fun h5 => zp ?_)) (fun h4 => zp ?_)
     · rw [Bool.not_eq_true'] at h4 h5; rw [h4, h5]; rfl
     · rw [Bool.not_eq_false'] at h5; rw [h5]; simp
     · rw [Bool.not_eq_false'] at h4; rw [h4]; simp
   refine af.of (fun h2 => ?_) (fun h2 => ?_) <;> simp only [dTx, dFx] at h2
   · refine af.of (fun h3 => tail (by omega) ?_) (fun h3 => ?_) <;> simp only [gt_iff_lt, dTx, dFx] at h3
     · omega
     · refine af.of (fun h4 => tail (by omega) ?_) (fun h4 => zp ?_) <;> simp only [gt_iff_lt, dTx, dFx] at h4
       · omega
       · unfold fQ; rw [decide_eq_true (p := 48 <= c.toNat) (by omega), decide_eq_true (p := c.toNat <= 57) (by omega)]; simp
   · refine af.of (fun h3 => ?_) (fun h3 => zp ?_) <;> simp only [gt_iff_lt, dTx, dFx] at h3
     · refine af.no (by simp; omega) (af.yes (by simp; omega) (tail (by omega) (by omega)))
     · unfold fQ; rw [decide_eq_true (p := 97 <= c.toNat) (by omega), decide_eq_true (p := c.toNat <= 122) (by omega)]; simp
 · have : k = s.length := by omega
   subst this
   rw [List.take_length] at hno
   unfold aX
   rw [hno, Bool.and_true]
   refine af.of (fun h2 => ⟨?_, rfl⟩) (fun h2 => ⟨?_, rfl⟩) <;> simp only [ge_iff_le, dTx, dFx] at h2
   · rw [decide_eq_true (p := 1 <= s.length) (by omega), Bool.true_and]; congr 1; rw [Bool.eq_iff_iff]; simp; omega
   · rw [decide_eq_false (p := 1 <= s.length) (by omega), Bool.false_and]
end Go.Proofs.YtpafoodmpjlkhaaGreatDoor
namespace Go.Proofs.YtpafoodmpjlkhaaGreatDoor
open Go.Pk
open Go.RowKit (Below)
theorem nk (s : List UInt8) (hs : s.length <= 90000000) (w : World) : Calls prog fI #[.string (mkS s)] w (Ret (kZ s w)) := by
 apply mi
 unfold iM
 intro k2 w2 hk2 hw2
 have hB2 := (hw2 ▸ ah w _ : Below w.heap.size w w2)
 have h2 : am w2 k2 ae gj.cells := am.new hk2 hw2
 have hk2w : w.heap.size <= k2 := by omega
 have fin : ∀ {wx : World} (o : Option Hst), (∀ x, o = some x -> x.ok) -> ct s = o -> am wx k2 ae gj.cells -> Below w.heap.size w wx ->
     ∃ wy, (Instr.storeAt ae (.pointer (some ⟨k2, 0, none⟩)) (o.getD gj).v).run prog wx = .ok () wy /\ ∃ vr : Value, (bm ae (.pointer (some ⟨k2, 0, none⟩))).run prog wy = .ok vr wy /\ kZ s w (.tuple #[vr, .int .i64 (if o.isSome then 0 else 31)]) wy := fun {wx} o ho hv h2x hBx =>
   aB.fin (K := fun vr wy => kZ s w (.tuple #[vr, .int .i64 (if o.isSome then 0 else 31)]) wy) (cs := (o.getD gj).cells) (Hst.len (tV ho)) (Hst.one _) h2x rfl hBx hk2w fun wy hb => ⟨by rw [hv, lr]; rfl, hb⟩
 have bad := fun {wx : World} (hv : ct s = none) (h2x : am wx k2 ae gj.cells) (hBx : Below w.heap.size w wx) => fin none (fun x hx => by cases hx) hv h2x hBx
 refine tN (w := w2) (¬ s.head? = some 91) ?_ (fun h91 => ?_)
 · refine ⟨fun b w' => w' = w2 /\ b = decide (s.head? = some 91), af.of (fun h => ⟨⟨by decide, by simpa using h⟩, rfl, ?_⟩) (fun h => ⟨rfl, ?_⟩), fun b => aE.of ?_ _⟩
   · have hl : 0 < s.length := by simpa using h
     have hb := fA (s := s) (k := 0) hl
     rw [show ((0 : Nat) : Int) = 0 from rfl] at hb
     have hu := pz s[0] 91
     rw [show (((91 : UInt8).toNat : Nat) : Int) = 91 from rfl] at hu
     rw [hb, hu, List.head?_eq_getElem?, List.getElem?_eq_getElem hl, Bool.eq_iff_iff]
     simp
   · have hl : s = [] := by
       simp only [gt_iff_lt, dFx] at h
       exact List.length_eq_zero_iff.1 (by omega)
     subst hl; rfl
   · rintro wj ⟨hwj, hb⟩
     rw [hwj, hb]; clear hwj hb
     refine af.of (fun h => ?_) (fun h => ⟨rfl, of_decide_eq_false h⟩)
     have h91 : s.head? = some 91 := of_decide_eq_true h
     have hne : s ≠ [] := by rintro rfl; cases h91
     have hl : 0 < s.length := List.length_pos_iff.2 hne
     have hv : ct s = if s.getLast? = some 93 then (v6A ((s.drop 1).take (s.length - 2))).map fun a => ⟨3, [], a⟩ else none := by unfold ct; rw [if_pos h91]
     have ei : i64.wrap (((s.length : Nat) : Int) - 1) = ((s.length - 1 : Nat) : Int) := by rw [ak (by omega) (by omega)]; omega
     rw [ei, fA (show s.length - 1 < s.length by omega)]
     have hgl : s.getLast? = some (s[s.length - 1]'(by omega)) := by rw [List.getLast?_eq_getElem?, List.getElem?_eq_getElem (by omega)]
     have hu := pz (s[s.length - 1]'(by omega)) 93
     rw [show (((93 : UInt8).toNat : Nat) : Int) = 93 from rfl] at hu
     refine ⟨⟨by omega, by omega⟩, ?_⟩
     simp only [bne, hu]
     refine af.of (fun hc => bad ?_ h2 hB2) (fun hc => ?_)
     · rw [hv, if_neg]
       rw [hgl]
       intro e
       rw [Option.some.inj e] at hc; simp at hc
     · have hlast : s.getLast? = some 93 := by rw [hgl]; simpa using hc
       have hl2 : 2 <= s.length := by
         refine Decidable.byContradiction fun hc2 => ?_
         have e1 : s.length = 1 := by omega
         obtain ⟨x, rfl⟩ := List.length_eq_one_iff.1 e1
         rw [Option.some.inj (show some x = some 91 from h91)] at hlast
         cases hlast
       rw [if_pos hlast] at hv
       simp only [Int.toNat_natCast]
       refine ⟨⟨⟨by omega, by omega⟩, by decide, by omega⟩, ?_⟩
       intro s32 e32
       have e33 : s32 = (s.drop 1).take (s.length - 2) := by
         rw [e32, show (Int.toNat 1) = 1 from rfl, List.drop_take, show s.length - 1 - 1 = s.length - 2 by omega]
       rw [<- e33] at hv
       have l32 : s32.length <= s.length := by rw [e33]; simp; omega
       refine ax (rS s32 (by omega) w2) ?_
       rintro _ w4 ⟨rfl, hb4⟩
       have hB4 := ab hB2 hb4 hB2.size
       refine ⟨_, _, by rw [rc], ?_⟩
       have hal := mL (CS s32)
       refine aQ.new (zs := adC ad0) (cs := adC ((v6A s32).getD ad0)) rfl hal (bT _) w4 fun k8 w8 hk8 h8 hb8 => ?_
       have hB8 := ab hB4 hb8 hB4.size
       have h28 := (h2.below hb4).below hb8
       cases ho : v6A s32 with
       | none => 
         exact af.yes rfl (bad (by rw [hv, ho]; rfl) h28 hB8)
       | some x =>
         rw [ho] at h8 hal
         refine af.no rfl ⟨_, aQ.load0 h8 hal, _, nB 3 (by rw [<- bu]; exact hal) w8, ?_⟩
         exact fin (some ⟨3, [], x⟩) (fun y hy => by cases hy; show x.length = 16; rw [<- bu]; exact hal) (by rw [hv, ho]; rfl) h28 hB8
 · have hv : ct s = if bU (po (aZ 46 [] (fU s))) = true then (v4V s).map fun a => ⟨2, [], a⟩ else if s.length <= 253 /\ (aZ 46 [] (fU s)).all aX = true then some ⟨1, fU s, ad0⟩ else none := by unfold ct; rw [if_neg h91]
   refine ax (ng s (by omega) w2) ?_
   rintro _ w3 ⟨rfl, hb3⟩
   have hB3 := ab hB2 hb3 hB2.size
   refine ⟨_, rfl, ?_⟩
   have ll : (fU s).length = s.length := by simp [fU]
   refine ax (cU (fU s) 46 (by omega) w3) ?_
   rintro _ w4 ⟨a, n, c, rfl, ho, hf, hb4⟩
   have hB4 := ab hB3 hb4 hB3.size
   have h24 := (h2.below hb3).below hb4
   have hn := ho.len
   subst hn
   have hlens : ∀ x ∈ aZ 46 [] (fU s), x.length <= s.length := fun x hx => by have := gW 46 (fU s) [] x hx; simp [ll] at this; omega
   have hcn := gi 46 (fU s) []
   have hnz : 0 < (aZ 46 [] (fU s)).length := List.length_pos_iff.2 (gy 46 (fU s) [])
   refine ⟨_, _, _, rfl, ?_⟩
   generalize aZ 46 [] (fU s) = L at *
   have ei : i64.wrap (((L.length : Nat) : Int) - 1) = ((L.length - 1 : Nat) : Int) := by rw [ak (by omega) (by omega)]; omega
   rw [ei]
   refine ⟨⟨⟨by omega, by omega⟩, ho.all.isSome hnz⟩, _, ho.all.text aC (by omega), ?_⟩
   rw [<- nN hnz]
   have hll : (po L).length <= s.length := by rw [nN hnz]; exact hlens _ (List.getElem_mem _)
   refine ax (gK (po L) (by omega) w4) ?_
   rintro _ w5 ⟨rfl, hw5⟩
   rw [hw5]; clear hw5
   refine ⟨_, rfl, af.of (fun hd => ?_) (fun hd => ?_)⟩
   · rw [if_pos hd] at hv
     refine ax (rR s (by omega) w4) ?_
     rintro _ w6 ⟨rfl, hb6⟩
     have hB6 := ab hB4 hb6 hB4.size
     refine ⟨_, _, by rw [rc], ?_⟩
     have hal := mL (GP s)
     refine aQ.new (zs := adC ad0) (cs := adC ((v4V s).getD ad0)) rfl hal (bT _) w6 fun k8 w8 hk8 h8 hb8 => ?_
     have hB8 := ab hB6 hb8 hB6.size
     have h28 := (h24.below hb6).below hb8
     cases ho : v4V s with
     | none =>
       rw [ho] at hv
       exact af.yes rfl (bad hv h28 hB8)
     | some x =>
       rw [ho] at hv h8 hal
       refine af.no rfl ⟨_, aQ.load0 h8 hal, _, nB 2 (by rw [<- bu]; exact hal) w8, ?_⟩
       exact fin (some ⟨2, [], x⟩) (fun y hy => by cases hy; show x.length = 16; rw [<- bu]; exact hal) hv h28 hB8
   · rw [if_neg (by rw [hd]; decide)] at hv
     have hbad : ¬ (s.length <= 253 /\ L.all aX = true) -> ct s = none := fun h => by rw [hv, if_neg h]
     refine ⟨fun m i w' => ∃ k : Nat, k <= L.length /\ i = (k : Int) /\ m = L.length - k /\ (L.take k).all aX = true /\ w' = w4, ⟨_, 0, by omega, rfl, rfl, rfl, rfl⟩, ?_⟩
     intro m i
     refine aE.of ?_ _
     rintro w5 ⟨k, hk, rfl, rfl, hno, hw5⟩
     rw [hw5]; clear hw5
     refine af.of (fun h => ?_) (fun h => ?_) <;> simp only [dTx, dFx] at h
     · have hlt : k < L.length := by omega
       refine ⟨⟨⟨by omega, h⟩, ho.all.isSome (by omega)⟩, _, ho.all.text aC hlt, ?_⟩
       refine ax (nl L[k] (by have := hlens _ (List.getElem_mem hlt); omega) w4) ?_
       rintro _ w6 ⟨rfl, hw6⟩
       rw [hw6]; clear hw6
       refine ⟨_, rfl, af.of (fun h3 => bad (hbad fun hc => ?_) h24 hB4) (fun h3 => ?_)⟩
       · rw [List.all_eq_true.1 hc.2 _ (List.getElem_mem hlt)] at h3; cases h3
       · refine ⟨L.length - (k + 1), by omega, k + 1, by omega, by rw [ak (by omega) (by omega)]; omega, rfl, ?_, rfl⟩
         rw [List.take_succ_eq_append_getElem hlt, List.all_append, hno]
         simpa using h3
     · have : k = L.length := by omega
       subst this
       rw [List.take_length] at hno
       refine af.of (fun h3 => bad (hbad fun hc => ?_) h24 hB4) (fun h3 => ?_) <;> simp only [gt_iff_lt, dTx, dFx] at h3
       · have := hc.1; omega
       · exact fin (some ⟨1, fU s, ad0⟩) (fun x hx => by cases hx; rfl) (by rw [hv, if_pos ⟨by omega, hno⟩]) h24 hB4
theorem ju {h : Hst} (o : h.ok) (w : World) : Calls prog dY #[h.v] w (Ret fun v w' => v = .string (mkS (cX h)) /\ Below w.heap.size w w') := by
 apply nr
 unfold jD
 intro k1 w1 hk1 hw1
 have hB1 := (hw1 ▸ ah w _ : Below w.heap.size w w1)
 have h1 : am w1 k1 ae h.cells := am.new hk1 hw1
 refine ⟨rfl, _, h1.load1 aI rfl rfl, ?_⟩
 unfold cX
 refine af.of (fun c1 => ?_) (fun c1 => ?_) <;> simp only [beq_iff_eq, beq_eq_false_iff_ne, ne_eq] at c1
 · rw [if_pos c1]
   exact ⟨rfl, _, h1.load1 aC rfl rfl, rfl, hB1⟩
 rw [if_neg c1]
 refine ⟨rfl, _, h1.load1 aI rfl rfl, ?_⟩
 refine af.of (fun c2 => ?_) (fun c2 => ?_) <;> simp only [beq_iff_eq, beq_eq_false_iff_ne, ne_eq] at c2
 · rw [if_pos c2]
   refine ⟨rfl, _, yx o h1, ?_⟩
   refine ax (nh h.ad o w1) ?_
   rintro _ w2 ⟨rfl, hb2⟩
   exact ⟨_, rfl, rfl, ab hB1 hb2 hB1.size⟩
 rw [if_neg c2]
 refine ⟨rfl, _, h1.load1 aI rfl rfl, ?_⟩
 refine af.of (fun c3 => ?_) (fun c3 => ?_) <;> simp only [beq_iff_eq, beq_eq_false_iff_ne, ne_eq] at c3
 · rw [if_pos c3]
   refine ⟨rfl, _, yx o h1, ?_⟩
   refine ax (ni h.ad o w1) ?_
   rintro _ w2 ⟨rfl, hb2⟩
   have h6 := sR h.ad
   refine ⟨_, rfl, lB (by simp; omega), ?_⟩
   rintro _ rfl
   refine ⟨lB (by simp; omega), ?_⟩
   rintro _ rfl
   exact ⟨rfl, ab hB1 hb2 hB1.size⟩
 · rw [if_neg c3]
   exact ⟨rfl, hB1⟩
theorem dC {h : Hst} (o : h.ok) (hn : h.name.length <= 80000000) (w : World) : Calls prog cf #[h.v] w (Ret fun v w' => v = .bool (aU h) /\ Below w.heap.size w w') := by
 apply mj
 unfold iN
 have hxl := nM o
 intro k1 w1 hk1 hw1
 have hB1 := (hw1 ▸ ah w _ : Below w.heap.size w w1)
 have h1 : am w1 k1 ae h.cells := am.new hk1 hw1
 refine ⟨_, aB.load0 h1 (Hst.len o), ?_⟩
 refine ax (ju o w1) ?_
 rintro _ w2 ⟨rfl, hb2⟩
 have hB2 := ab hB1 hb2 hB1.size
 refine ⟨_, rfl, ?_⟩
 refine ax (nk (cX h) (by omega) w2) ?_
 rintro _ w3 ⟨rfl, hb3⟩
 have hB3 := ab hB2 hb3 hB2.size
 refine ⟨_, _, by rw [lr], ?_⟩
 have hok : ((ct (cX h)).getD gj).ok := tV fun x hx => fP hx
 refine aB.new (zs := gj.cells) (cs := ((ct (cX h)).getD gj).cells) rfl (Hst.len hok) (Hst.one _) w3 fun k4 w4 hk4 h4 hb4 => ?_
 have hB4 := ab hB3 hb4 hB3.size
 have h14 := ((h1.below hb2).below hb3).below hb4
 unfold aU
 cases hv : ct (cX h) with
 | none => exact af.no rfl ⟨rfl, hB4⟩
 | some g =>
   rw [hv] at h4 hok
   exact af.yes rfl ⟨_, aB.load0 h4 (Hst.len hok), _, aB.load0 h14 (Hst.len o), _, yy hok o w4, rfl, hB4⟩
theorem dK {h : Hst} (o : h.ok) (hn : h.name.length <= 80000000) (w : World) : Calls prog bX #[h.v] w (Ret (tI h w)) := by
 apply kO
 unfold gQ
 intro k1 w1 hk1 hw1
 have hB1 := (hw1 ▸ ah w _ : Below w.heap.size w w1)
 have h1 : am w1 k1 ae h.cells := am.new hk1 hw1
 have none_end : ∀ {wx : World}, ¬ (h.kind = 1 /\ aU h = true) -> Below w.heap.size w wx -> tI h w (.slice none 0 0) wx := fun hc hb => ⟨none, 0, 0, rfl, by unfold aq; rw [if_neg hc]; exact Ow.nil _ _ _ _, bD.none _, hb⟩
 refine jK (fun w' => (h.kind = 1 /\ aU h = true) /\ Below w1.heap.size w1 w') ⟨rfl, _, h1.load1 aI rfl rfl, ?_⟩ ?_
 · refine af.of (fun c => none_end (fun hc => ?_) hB1) (fun c => ?_)
   · rw [hc.1] at c; simp at c
   · have hk : h.kind = 1 := by simpa using c
     refine ⟨_, aB.load0 h1 (Hst.len o), ?_⟩
     refine ax (dC o hn w1) ?_
     rintro _ w2 ⟨rfl, hb2⟩
     refine ⟨_, rfl, af.of (fun c2 => none_end (fun hc => ?_) (ab hB1 hb2 hB1.size)) (fun c2 => ⟨⟨hk, by simpa using c2⟩, hb2⟩)⟩
     rw [hc.2] at c2; cases c2
 · rintro w2 ⟨hc, hb2⟩
   have hB2 := ab hB1 hb2 hB1.size
   refine ⟨rfl, _, (h1.below hb2).load1 aC rfl rfl, ?_⟩
   refine ax (cU h.name 46 (by omega) w2) ?_
   rintro _ w3 ⟨a, n, c, rfl, ho, hf, hb3⟩
   exact ⟨_, _, _, rfl, _, _, _, rfl, by unfold aq; rw [if_pos hc]; exact ho, hf.mono hB2.size, ab hB2 hb3 hB2.size⟩
end Go.Proofs.YtpafoodmpjlkhaaGreatDoor
set_option maxRecDepth 100000
namespace Go.Proofs.YtpafoodmpjlkhaaGreatDoor
open Go.Pk
open Go.RowKit (Below)
--  cracknel/symbol.New
def iQ (a0 : Option Addr) (l0 c0 : Nat) (w : World) (K : Value -> World -> Prop) : Prop :=
 ∀ k6 w6, k6 = w.heap.size -> w6 = w.alloc (.cells #[] ar) ->
 ∃ I : Nat -> FP [.one (.slice), .one (.int .i64)],
 (∃ m, I m (some ⟨k6, 0, none⟩) 0 0 (0 : Int) w6) /\
 ∀ m a3 l3 c3 n9, aE 13 (∀ wl, I m a3 l3 c3 n9 wl ->
 af (decide (n9 < ((l0 : Nat) : Int)))
 (((0 <= n9 /\ n9 < ((l0 : Nat) : Int)) /\ Option.isSome a0 = true) /\
 ∃ s12, Ld ar (ao a0 n9 1) wl (.string (mkS s12)) /\
 Calls prog fK #[.slice a3 l3 c3, .string (mkS s12)] wl fun e15 w15 => ∃ b15, e15 = .returned (.bool b15) /\
 af (!b15)
 (∀ k19 w19, k19 = w15.heap.size -> w19 = w15.alloc (.cells #[.string (mkS s12)] ar) ->
 ∃ w20 a20 l20 c20, (Builtin.append_ #[aw, aw] aw #[.slice a3 l3 c3, .slice (some ⟨k19, 0, none⟩) 1 1]).run prog w19 = .ok (.slice a20 l20 c20) w20 /\
 ∃ m' : Nat, m' < m /\ I m' a20 l20 c20 (i64.wrap (n9 + (1 : Int))) w20)
 (∃ m' : Nat, m' < m /\ I m' a3 l3 c3 (i64.wrap (n9 + (1 : Int))) w15))
 (K (.slice a3 l3 c3) wl))
theorem mo (a0 : Option Addr) (l0 c0 : Nat) {w : World} {K : Value -> World -> Prop} (h : iQ a0 l0 c0 w K) : Calls prog du #[.slice a0 l0 c0] w (Ret K) :=
 au (c := ay Tryz.f58) (by kernel_rfl) Tryz.func58 (by kernel_rfl) [(8, [(3, .one (.slice)), (9, .one (.int .i64))])] [.slice a0 l0 c0] (of_decide_eq_true (by kernel_rfl)) _ (by kernel_rfl) h

--  cracknel/cracknelref14.Of
def mB (a0 : Option Addr) (l0 c0 : Nat) (s1 : List UInt8) (w : World) (K : Value -> World -> Prop) : Prop :=
 Calls prog du #[.slice a0 l0 c0] w fun e10 w10 => ∃ a10 l10 c10, e10 = .returned (.slice a10 l10 c10) /\
 Calls prog fK #[.slice a10 l10 c10, .string (mkS s1)] w10 fun e13 w13 => ∃ b13, e13 = .returned (.bool b13) /\
 af (!b13)
 (K (.int .i64 ((l10 : Nat) : Int)) w13)
 (∃ I : Nat -> FP [.one (.int .i64), .one (.int .i64)],
 (∃ m, I m (0 : Int) (0 : Int) w13) /\
 ∀ m n6 n19, aE 10 (∀ wl, I m n6 n19 wl ->
 af (decide (n19 < ((l10 : Nat) : Int)))
 (((0 <= n19 /\ n19 < ((l10 : Nat) : Int)) /\ Option.isSome a10 = true) /\
 ∃ s22, Ld ar (ao a10 n19 1) wl (.string (mkS s22)) /\
 Calls prog gE #[.string (mkS s22), .string (mkS s1)] wl fun e25 w25 => ∃ b25, e25 = .returned (.bool b25) /\
 af b25
 (∃ m' : Nat, m' < m /\ I m' (i64.wrap (n6 + (1 : Int))) (i64.wrap (n19 + (1 : Int))) w25)
 (∃ m' : Nat, m' < m /\ I m' n6 (i64.wrap (n19 + (1 : Int))) w25))
 (K (.int .i64 n6) wl)))
theorem qs (a0 : Option Addr) (l0 c0 : Nat) (s1 : List UInt8) {w : World} {K : Value -> World -> Prop} (h : mB a0 l0 c0 s1 w K) : Calls prog gZ #[.slice a0 l0 c0, .string (mkS s1)] w (Ret K) :=
 au (c := ay Tryz.f59) (by kernel_rfl) Tryz.func59 (by kernel_rfl) [(18, [(6, .one (.int .i64)), (19, .one (.int .i64))])] [.slice a0 l0 c0, .string (mkS s1)] (of_decide_eq_true (by kernel_rfl)) _ (by kernel_rfl) h

--  (*cracknel/symbol.Alphabet).Of
def kF (a0 : Option Addr) (l0 c0 : Nat) (s1 : List UInt8) (w : World) (K : Value -> World -> Prop) : Prop :=
 ∃ I : Nat -> FP [.one (.int .i64)],
 (∃ m, I m (0 : Int) w) /\
 ∀ m n9, aE 9 (∀ wl, I m n9 wl ->
 af (decide (n9 < ((l0 : Nat) : Int)))
 (((0 <= n9 /\ n9 < ((l0 : Nat) : Int)) /\ Option.isSome a0 = true) /\
 ∃ s12, Ld ar (ao a0 n9 1) wl (.string (mkS s12)) /\
 af (s12 == s1)
 (K (.bool true) wl)
 (∃ m' : Nat, m' < m /\ I m' (i64.wrap (n9 + (1 : Int))) wl))
 (K (.bool false) wl))
theorem oO (a0 : Option Addr) (l0 c0 : Nat) (s1 : List UInt8) {w : World} {K : Value -> World -> Prop} (h : kF a0 l0 c0 s1 w K) : Calls prog fK #[.slice a0 l0 c0, .string (mkS s1)] w (Ret K) :=
 au (c := ay Tryz.f106) (by kernel_rfl) Tryz.func106 (by kernel_rfl) [(6, [(9, .one (.int .i64))])] [.slice a0 l0 c0, .string (mkS s1)] (of_decide_eq_true (by kernel_rfl)) _ (by kernel_rfl) h

--  cracknel/cracknelref14.less
def jE (s0 : List UInt8) (s1 : List UInt8) (w : World) (K : Value -> World -> Prop) : Prop :=
 ∃ I : Nat -> FP [.one (.int .i64)],
 (∃ m, I m (0 : Int) w) /\
 ∀ m n5, aE 27 (∀ wl, I m n5 wl ->
 ∃ J : FP [],
 (af (decide (n5 < ((List.length s0 : Nat) : Int)))
 (af (decide (n5 < ((List.length s1 : Nat) : Int)))
 (J wl)
 (K (.bool (decide (((List.length s0 : Nat) : Int) < ((List.length s1 : Nat) : Int)))) wl))
 (K (.bool (decide (((List.length s0 : Nat) : Int) < ((List.length s1 : Nat) : Int)))) wl)) /\
 aE 10 (∀ wj, J wj ->
 ((0 <= n5 /\ n5 < ((List.length s0 : Nat) : Int))) /\
 ((0 <= n5 /\ n5 < ((List.length s1 : Nat) : Int))) /\
 ∀ wq, Below wj.heap.size wj wq ->
 af ((aP s0 n5) != (aP s1 n5))
 (((0 <= n5 /\ n5 < ((List.length s0 : Nat) : Int))) /\
 ((0 <= n5 /\ n5 < ((List.length s1 : Nat) : Int))) /\
 ∀ wq_1, Below wq.heap.size wq wq_1 ->
 K (.bool (decide ((aP s0 n5) < (aP s1 n5)))) wq_1)
 (∃ m' : Nat, m' < m /\ I m' (i64.wrap (n5 + (1 : Int))) wq)))
theorem ns (s0 : List UInt8) (s1 : List UInt8) {w : World} {K : Value -> World -> Prop} (h : jE s0 s1 w K) : Calls prog gE #[.string (mkS s0), .string (mkS s1)] w (Ret K) :=
 au (c := ay Tryz.f107) (by kernel_rfl) Tryz.func107 (by kernel_rfl) [(6, [(5, .one (.int .i64))]), (7, [])] [.string (mkS s0), .string (mkS s1)] (of_decide_eq_true (by kernel_rfl)) _ (by kernel_rfl) h

--  cracknel/symbol.bytes
end Go.Proofs.YtpafoodmpjlkhaaGreatDoor
namespace Go.Pk
theorem vG {α : Type} [DecidableEq α] {l m : List α} (h : l.Nodup) (k : m.Nodup) (hs : ∀ x, x ∈ l ↔ x ∈ m) (p : α -> Bool) : l.countP p = m.countP p := by
 rw [List.countP_eq_length_filter, List.countP_eq_length_filter]
 exact gJ (h.filter _) (k.filter _) fun x => by simp [List.mem_filter, hs]
def cH (l : List Txt) : List Txt := l.foldl (fun out s => if s ∈ out then out else out ++ [s]) []
theorem i8 (l : List Txt) (s : Txt) : cH (l ++ [s]) = if s ∈ cH l then cH l else cH l ++ [s] := by
 unfold cH; rw [List.foldl_append]; rfl
theorem Ac {α : Type} {P : List α -> Prop} (h0 : P []) (h1 : ∀ l x, P l -> P (l ++ [x])) : ∀ l, P l := by
 have key : ∀ m : List α, P m.reverse := by
   intro m
   induction m with
   | nil => exact h0
   | cons x m ih => rw [List.reverse_cons]; exact h1 _ _ ih
 intro l
 have := key l.reverse
 rwa [List.reverse_reverse] at this
theorem fh (l : List Txt) : (cH l).Nodup /\ (∀ x, x ∈ cH l ↔ x ∈ l) /\ (cH l).length <= l.length := by
 refine Ac (P := fun l => (cH l).Nodup /\ (∀ x, x ∈ cH l ↔ x ∈ l) /\ (cH l).length <= l.length) ?_ ?_ l
 · exact ⟨List.nodup_nil, fun x => Iff.rfl, Nat.le_refl _⟩
 · intro l s ih
   obtain ⟨h1, h2, h3⟩ := ih
   rw [i8]
   split
   · rename_i hm
     refine ⟨h1, fun x => ?_, by simp; omega⟩
     rw [h2, List.mem_append]
     refine ⟨.inl, fun h => h.elim id fun h => ?_⟩
     have : x = s := by simpa using h
     subst this; exact (h2 x).1 hm
   · rename_i hm
     refine ⟨List.nodup_append.2 ⟨h1, by simp, fun a ha b hb e => ?_⟩, fun x => by rw [List.mem_append, List.mem_append, h2], by simp; omega⟩
     have : b = s := by simpa using hb
     subst this; subst e; exact hm ha
theorem mx (l : List Txt) : ∀ x, x ∈ cH l ↔ x ∈ ky l := fun x => by rw [(fh l).2.1, qQ]
theorem un (l : List Txt) : (cH l).length = (ky l).length := gJ (fh l).1 (nS l) (mx l)
theorem Fy {ts us : List Txt} (h : ts.Nodup) (k : us.Nodup) (hs : ∀ x, x ∈ ts ↔ x ∈ us) (s : Txt) : ofT ts s = ofT us s := by
 unfold ofT; rw [vG h k hs, gJ h k hs]; simp only [hs]
end Go.Pk
set_option maxRecDepth 20000
namespace Go.Pk
def FR (L : List (List UInt8)) (n : Nat) : List UInt8 := Lib.join (L.drop (L.length - n)) [46]
def ge (h d : Hst) : Bool := if (aq d).length = 0 \/ (aq h).length <= (aq d).length then false else rP ⟨1, FR (aq h) (aq d).length, ad0⟩ d
def sW (h d : Hst) : Bool := if (aq h).length = 0 \/ (aq d).length = 0 then false else decide (d.name.length + 1 < h.name.length) && (h.name.drop (h.name.length - (d.name.length + 1)) == 46 :: d.name)
theorem sA (c : UInt8) (A B : List (List UInt8)) (hA : A ≠ []) (hB : B ≠ []) : Lib.join (A ++ B) [c] = Lib.join A [c] ++ c :: Lib.join B [c] := by
 cases A with
 | nil => exact absurd rfl hA
 | cons x A =>
   cases B with
   | nil => exact absurd rfl hB
   | cons y B =>
     rw [List.cons_append, Lib.join_cons, Lib.join_cons, Lib.join_cons]
     unfold Lib.joinTail
     simp
theorem nW {h d : Hst} (oh : h.ok) (od : d.ok) : ge h d = sW h d := by
 unfold ge sW
 by_cases hd0 : (aq d).length = 0
 · rw [if_pos (.inl hd0), if_pos (.inr hd0)]
 by_cases hh0 : (aq h).length = 0
 · rw [if_pos (.inr (by omega)), if_pos (.inl hh0)]
 rw [if_neg (show ¬ ((aq h).length = 0 \/ (aq d).length = 0) from fun h => h.elim hh0 hd0)]
 obtain ⟨⟨dk, dr⟩, dl⟩ := di od hd0
 obtain ⟨⟨hk, hr⟩, hl⟩ := di oh hh0
 obtain ⟨d1, -, d3, -, -, -⟩ := dV od dk dr
 obtain ⟨h1, -, h3, -, -, -⟩ := dV oh hk hr
 have hjh := d8 46 h.name []
 have hjd := d8 46 d.name []
 rw [List.nil_append] at hjh hjd
 rw [dl, hl]
 have hne := gy 46 h.name []
 have hpos : 0 < (aZ 46 [] h.name).length := List.length_pos_iff.2 hne
 have dpos : 0 < (aZ 46 [] d.name).length := List.length_pos_iff.2 (gy 46 d.name [])
 have eqn : ∀ x : List UInt8, rP ⟨1, x, ad0⟩ d = (x == d.name) := fun x => by
   rw [Bool.eq_iff_iff, d7 (show (⟨1, x, ad0⟩ : Hst).ok from rfl) od, beq_iff_eq]
   constructor
   · intro e; exact congrArg Hst.name e
   · intro e; rw [d1]; simp [e]
 rw [eqn, Bool.eq_iff_iff]
 by_cases hlt : (aZ 46 [] h.name).length <= (aZ 46 [] d.name).length
 · rw [if_pos (show (aZ 46 [] d.name).length = 0 \/ (aZ 46 [] h.name).length <= (aZ 46 [] d.name).length from .inr hlt)]
   refine ⟨(fun h => by cases h), fun hx => ?_⟩
   rw [Bool.and_eq_true, dTx, beq_iff_eq] at hx
   exfalso
   have hs : h.name = h.name.take (h.name.length - (d.name.length + 1)) ++ 46 :: d.name := by rw [<- hx.2, List.take_append_drop]
   have hc := congrArg (fun s => (aZ 46 [] s).length) hs
   simp only [bC, List.length_append] at hc
   have : 0 < (aZ 46 [] (h.name.take (h.name.length - (d.name.length + 1)))).length := List.length_pos_iff.2 (gy 46 _ [])
   omega
 · rw [if_neg (show ¬ ((aZ 46 [] d.name).length = 0 \/ (aZ 46 [] h.name).length <= (aZ 46 [] d.name).length) from fun h => h.elim (fun h => by omega) hlt), beq_iff_eq, Bool.and_eq_true, dTx, beq_iff_eq]
   unfold FR
   constructor
   · intro hj
     have hA : (aZ 46 [] h.name).take ((aZ 46 [] h.name).length - (aZ 46 [] d.name).length) ≠ [] := by
       intro e
       have := congrArg List.length e
       rw [List.length_take, List.length_nil] at this; omega
     have hB : (aZ 46 [] h.name).drop ((aZ 46 [] h.name).length - (aZ 46 [] d.name).length) ≠ [] := by
       intro e
       have := congrArg List.length e
       rw [List.length_drop, List.length_nil] at this; omega
     have ha := sA 46 _ _ hA hB
     rw [List.take_append_drop, hjh, hj] at ha
     have hp : Lib.join ((aZ 46 [] h.name).take ((aZ 46 [] h.name).length - (aZ 46 [] d.name).length)) [46] ≠ [] := by
       cases hc : (aZ 46 [] h.name).take ((aZ 46 [] h.name).length - (aZ 46 [] d.name).length) with
       | nil => exact absurd hc hA
       | cons x A =>
         rw [Lib.join_cons]
         intro e
         have hx : x ∈ aZ 46 [] h.name := List.mem_of_mem_take (by rw [hc]; exact List.mem_cons_self)
         have := List.all_eq_true.1 h3 x hx
         rw [(List.append_eq_nil_iff.1 e).1] at this
         cases this
     generalize Lib.join ((aZ 46 [] h.name).take ((aZ 46 [] h.name).length - (aZ 46 [] d.name).length)) [46] = p at *
     have hpl : 0 < p.length := List.length_pos_iff.2 hp
     have hlen := congrArg List.length ha
     rw [List.length_append, List.length_cons] at hlen
     refine ⟨by omega, ?_⟩
     rw [show h.name.length - (d.name.length + 1) = p.length by omega, ha]
     simp
   · rintro ⟨hl', hdr⟩
     have hs : h.name = h.name.take (h.name.length - (d.name.length + 1)) ++ 46 :: d.name := by rw [<- hdr, List.take_append_drop]
     have hc : aZ 46 [] h.name = aZ 46 [] (h.name.take (h.name.length - (d.name.length + 1))) ++ aZ 46 [] d.name := by
       conv => lhs; rw [hs]
       exact bC 46 _ _ _
     rw [hc, List.length_append, Nat.add_sub_cancel, List.drop_left]
     exact hjd
end Go.Pk
namespace Go.Proofs.YtpafoodmpjlkhaaGreatDoor
open Go.Pk
open Go.RowKit (Below)
theorem ki {h d : Hst} (oh : h.ok) (od : d.ok) (hn : h.name.length <= 80000000) (dn : d.name.length <= 80000000) (w : World) : Calls prog dZ #[h.v, d.v] w (Ret fun v w' => v = .bool (ge h d) /\ Below w.heap.size w w') := by
 rw [nW oh od]
 apply ml
 unfold iO
 intro k2 w2 hk2 hw2
 have hB2 := (hw2 ▸ ah w _ : Below w.heap.size w w2)
 have h2 : am w2 k2 ae h.cells := am.new hk2 hw2
 intro k3 w3 hk3 hw3
 have hb3 := (hw3 ▸ ah w2 _ : Below w2.heap.size w2 w3)
 have hB3 := ab hB2 hb3 hB2.size
 have h3 : am w3 k3 ae d.cells := am.new hk3 hw3
 have h23 := h2.below hb3
 have u : sW h d = if (aq h).length = 0 \/ (aq d).length = 0 then false else decide (d.name.length + 1 < h.name.length) && (h.name.drop (h.name.length - (d.name.length + 1)) == 46 :: d.name) := rfl
 refine jK (fun w' => ¬ ((aq h).length = 0 \/ (aq d).length = 0) /\ Below w3.heap.size w3 w') ?_ ?_
 · refine ⟨_, aB.load0 h23 (Hst.len oh), ?_⟩
   refine ax (dK oh hn w3) ?_
   rintro _ w4 ⟨a, l, c, rfl, ho, -, hb4⟩
   have hB4 := ab hB3 hb4 hB3.size
   refine ⟨_, _, _, rfl, ?_⟩
   rw [ho.len]
   refine af.of (fun c1 => ⟨?_, hB4⟩) (fun c1 => ?_)
   · rw [u, if_pos (.inl (by simp at c1; simp [c1]))]
   refine ⟨_, aB.load0 (h3.below hb4) (Hst.len od), ?_⟩
   refine ax (dK od dn w4) ?_
   rintro _ w5 ⟨a5, l5, c5, rfl, ho5, -, hb5⟩
   have hB5 := ab hB4 hb5 hB4.size
   refine ⟨_, _, _, rfl, ?_⟩
   rw [ho5.len]
   refine af.of (fun c2 => ⟨?_, hB5⟩) (fun c2 => ⟨?_, ab hb4 hb5 hb4.size⟩)
   · rw [u, if_pos (.inr (by simp at c2; simp [c2]))]
   · simp at c1 c2
     rintro (hx | hx)
     · exact c1 (List.length_eq_zero_iff.1 hx)
     · exact c2 (List.length_eq_zero_iff.1 hx)
 · rintro w4 ⟨hc, hb4⟩
   have hB4 := ab hB3 hb4 hB3.size
   have l2 := (h23.below hb4).load1 (P := prog) (i := 1) (v := .string (mkS h.name)) aC rfl rfl
   refine ⟨rfl, _, (h3.below hb4).load1 aC rfl rfl, lB (by simp; omega), ?_⟩
   rintro _ rfl
   refine ⟨rfl, _, l2, ?_⟩
   rw [u, if_neg hc]
   refine af.of (fun c1 => ?_) (fun c1 => ⟨?_, hB4⟩)
   · have hl : d.name.length + 1 < h.name.length := by simp at c1; omega
     have e : i64.wrap (((h.name.length : Nat) : Int) - ((([46] ++ d.name).length : Nat) : Int)) = ((h.name.length - (d.name.length + 1) : Nat) : Int) := by
       rw [ak (by simp; omega) (by simp; omega)]; simp; omega
     refine ⟨rfl, _, l2, rfl, _, l2, ?_⟩
     rw [e]
     simp only [Int.toNat_natCast]
     refine ⟨⟨by omega, by omega⟩, ?_⟩
     rintro _ rfl
     rw [decide_eq_true hl, Bool.true_and]
     exact ⟨rfl, hB4⟩
   · have : ¬ d.name.length + 1 < h.name.length := by simp at c1; omega
     rw [decide_eq_false this, Bool.false_and]
end Go.Proofs.YtpafoodmpjlkhaaGreatDoor
set_option maxRecDepth 100000
namespace Go.Proofs.YtpafoodmpjlkhaaGreatDoor
open Go.Pk
open Go.RowKit (Below)
--  cracknel/cracknelref09.Domain
def qE (v0 : Value) (v1 : Value) (w : World) (K : Value -> World -> Prop) : Prop :=
 ∀ k2 w2, k2 = w.heap.size -> w2 = w.alloc (.cells (Value.cells v0) ae) ->
 ∀ k3 w3, k3 = w2.heap.size -> w3 = w2.alloc (.cells (Value.cells v1) ae) ->
 ∃ J : FP [],
 (∃ v5, Ld ae (some ⟨k2, 0, none⟩) w3 v5 /\
 Calls prog cf #[v5] w3 fun e6 w6 => ∃ b6, e6 = .returned (.bool b6) /\
 af (!b6)
 (K (.bool false) w6)
 (∃ v9, Ld ae (some ⟨k3, 0, none⟩) w6 v9 /\
 Calls prog cf #[v9] w6 fun e10 w10 => ∃ b10, e10 = .returned (.bool b10) /\
 af (!b10)
 (K (.bool false) w10)
 (J w10))) /\
 aE 9 (∀ wj, J wj ->
 ∃ v13, Ld ae (some ⟨k2, 0, none⟩) wj v13 /\
 ∃ v14, Ld ae (some ⟨k3, 0, none⟩) wj v14 /\
 ∃ b15, ((do eqGuard .eql ae (.tmp 13) (.tmp 14) v13 v14; binOp .eql ae v13 v14 : Sem Value)).run prog wj = .ok (.bool b15) wj /\
 af b15
 (K (.bool true) wj)
 (∃ v17, Ld ae (some ⟨k2, 0, none⟩) wj v17 /\
 ∃ v18, Ld ae (some ⟨k3, 0, none⟩) wj v18 /\
 Calls prog dZ #[v17, v18] wj fun e19 w19 => ∃ b19, e19 = .returned (.bool b19) /\
 K (.bool b19) w19))
theorem vh (v0 : Value) (v1 : Value) {w : World} {K : Value -> World -> Prop} (h : qE v0 v1 w K) : Calls prog m4 #[v0, v1] w (Ret K) :=
 au (c := ay Tryz.f27) (by kernel_rfl) Tryz.func27 (by kernel_rfl) [(2, [])] [v0, v1] (of_decide_eq_true (by kernel_rfl)) _ (by kernel_rfl) h

--  cracknel/cracknelref09.Sends
end Go.Proofs.YtpafoodmpjlkhaaGreatDoor
set_option maxRecDepth 20000
namespace Go.Pk
open Go.RowKit (Below)
def Gk (h d : Hst) : Bool := aU h && (aU d && (rP h d || ge h d))
end Go.Pk
namespace Go.Proofs.YtpafoodmpjlkhaaGreatDoor
open Go.Pk
open Go.RowKit (Below)
theorem wN {h d : Hst} (oh : h.ok) (od : d.ok) (hn : h.name.length <= 80000000) (dn : d.name.length <= 80000000) (w : World) : Calls prog m4 #[h.v, d.v] w (Ret fun v w' => v = .bool (Gk h d) /\ Below w.heap.size w w') := by
 apply vh
 unfold qE
 intro k2 w2 hk2 hw2
 have hB2 := (hw2 ▸ ah w _ : Below w.heap.size w w2)
 have h2 : am w2 k2 ae h.cells := am.new hk2 hw2
 intro k3 w3 hk3 hw3
 have hb3 := (hw3 ▸ ah w2 _ : Below w2.heap.size w2 w3)
 have hB3 := ab hB2 hb3 hB2.size
 have h3 : am w3 k3 ae d.cells := am.new hk3 hw3
 have h23 := h2.below hb3
 unfold Gk
 refine jK (fun w' => aU h = true /\ aU d = true /\ Below w3.heap.size w3 w') ?_ ?_
 · refine ⟨_, aB.load0 h23 (Hst.len oh), ?_⟩
   refine ax (dC oh hn w3) ?_
   rintro _ w4 ⟨rfl, hb4⟩
   have hB4 := ab hB3 hb4 hB3.size
   refine ⟨_, rfl, af.of (fun c => ⟨?_, hB4⟩) (fun c => ?_)⟩
   · rw [Bool.not_eq_true'] at c; rw [c]; rfl
   rw [Bool.not_eq_false'] at c
   refine ⟨_, aB.load0 (h3.below hb4) (Hst.len od), ?_⟩
   refine ax (dC od dn w4) ?_
   rintro _ w5 ⟨rfl, hb5⟩
   refine ⟨_, rfl, af.of (fun c2 => ⟨?_, ab hB4 hb5 hB4.size⟩) (fun c2 => ⟨c, ?_, ab hb4 hb5 hb4.size⟩)⟩
   · rw [Bool.not_eq_true'] at c2; rw [c, c2]; rfl
   · rwa [Bool.not_eq_false'] at c2
 · rintro w4 ⟨r1, r2, hb4⟩
   have hB4 := ab hB3 hb4 hB3.size
   rw [r1, r2, Bool.true_and, Bool.true_and]
   refine ⟨_, aB.load0 (h23.below hb4) (Hst.len oh), _, aB.load0 (h3.below hb4) (Hst.len od), _, yy oh od w4, ?_⟩
   refine af.of (fun c1 => ⟨by rw [c1]; rfl, hB4⟩) (fun c1 => ?_)
   refine ⟨_, aB.load0 (h23.below hb4) (Hst.len oh), _, aB.load0 (h3.below hb4) (Hst.len od), ?_⟩
   refine ax (ki oh od hn dn w4) ?_
   rintro _ w5 ⟨rfl, hb5⟩
   exact ⟨_, rfl, by rw [c1]; rfl, ab hB4 hb5 hB4.size⟩
end Go.Proofs.YtpafoodmpjlkhaaGreatDoor
namespace Go.Pk
open Go.RowKit (Below)
theorem xp {h d : Hst} (oh : h.ok) (od : d.ok) (rh : (aq h).length ≠ 0) (rd : (aq d).length ≠ 0) :
   ge h d = true ↔ (aq d).length < (aq h).length /\ (aq d).reverse = (aq h).reverse.take (aq d).length := by
 rw [nW oh od]
 unfold sW
 rw [if_neg (fun hx => hx.elim rh rd), Bool.and_eq_true, dTx, beq_iff_eq]
 obtain ⟨⟨hk, hr⟩, hl⟩ := di oh rh
 obtain ⟨⟨dk, dr⟩, dl⟩ := di od rd
 obtain ⟨-, -, h3, -, -, -⟩ := dV oh hk hr
 have key : (aq d).reverse = (aq h).reverse.take (aq d).length /\ (aq d).length < (aq h).length ↔ ∃ A, A ≠ [] /\ aq h = A ++ aq d := by
   constructor
   · rintro ⟨h1, h2⟩
     rw [List.take_reverse] at h1
     have h1 := List.reverse_inj.1 h1
     refine ⟨(aq h).take ((aq h).length - (aq d).length), ?_, ?_⟩
     · intro e
       have := congrArg List.length e
       rw [List.length_take, List.length_nil] at this; omega
     · conv => rhs; rhs; rw [h1]
       rw [List.take_append_drop]
   · rintro ⟨A, hA, e⟩
     have hp := List.length_pos_iff.2 hA
     rw [e]
     refine ⟨?_, by simp; omega⟩
     rw [List.reverse_append, List.take_append_of_le_length (by simp), List.take_of_length_le (by simp)]
 rw [and_comm (a := (aq d).length < _), key, hl, dl]
 constructor
 · rintro ⟨h1, h2⟩
   have hs : h.name = h.name.take (h.name.length - (d.name.length + 1)) ++ 46 :: d.name := by rw [<- h2, List.take_append_drop]
   refine ⟨aZ 46 [] (h.name.take (h.name.length - (d.name.length + 1))), gy 46 _ [], ?_⟩
   conv => lhs; rw [hs]
   exact bC 46 _ _ _
 · rintro ⟨A, hA, e⟩
   have hj := d8 46 h.name []
   have hjd := d8 46 d.name []
   rw [List.nil_append] at hj hjd
   rw [e, sA 46 A _ hA (gy 46 d.name []), hjd] at hj
   have hp : 0 < (Lib.join A [46]).length := by
     cases A with
     | nil => exact absurd rfl hA
     | cons x A =>
       rw [Lib.join_cons, List.length_append]
       have hx : x ∈ aZ 46 [] h.name := by rw [e]; simp
       have := List.all_eq_true.1 h3 x hx
       unfold aX at this
       rw [Bool.and_eq_true, Bool.and_eq_true, dTx] at this
       have := this.1.1
       omega
   rw [<- hj]
   refine ⟨by simp; omega, ?_⟩
   rw [List.length_append, List.length_cons, Nat.add_sub_cancel, List.drop_left]
theorem Is {h d : Hst} (oh : h.ok) (od : d.ok) (rh : (aq h).length ≠ 0) (rd : (aq d).length ≠ 0) : rP h d = true ↔ aq h = aq d := by
 rw [d7 oh od]
 refine ⟨fun e => by rw [e], fun e => ?_⟩
 obtain ⟨⟨hk, hr⟩, hl⟩ := di oh rh
 obtain ⟨⟨dk, dr⟩, dl⟩ := di od rd
 obtain ⟨h1, -⟩ := dV oh hk hr
 obtain ⟨d1, -⟩ := dV od dk dr
 rw [hl, dl] at e
 have hj := d8 46 h.name []
 have hjd := d8 46 d.name []
 rw [List.nil_append] at hj hjd
 rw [h1, d1, <- hj, <- hjd, e]
end Go.Pk
namespace Go.Pk
theorem vm {k : Nat} (v : List Nat) (s : Nat) : ¬ (noD k).Lang s v := by
 rintro ⟨_, h⟩
 unfold DA.acc noD at h
 generalize ((⟨(k : Int), 0, List.replicate k 0, [false]⟩ : DA).run s v) = t at h
 cases t <;> simp at h
end Go.Pk
namespace Go.Pk
theorem nc {ts : List Txt} (hp : ts.Pairwise (· < ·)) {s : Txt} (h : s ∈ ts) : ∃ i, ∃ hi : i < ts.length, ts[i] = s /\ ofT ts s = (i : Int) := by
 obtain ⟨i, hi, e⟩ := List.mem_iff_getElem.1 h
 exact ⟨i, hi, e, by rw [<- e]; exact zM hp hi⟩
theorem tZ {ts : List Txt} {s : Txt} (h : s ∉ ts) : ofT ts s = (ts.length : Int) := by unfold ofT; rw [if_neg h]
theorem CA {ts : List Txt} (hp : ts.Pairwise (· < ·)) {s : Txt} : ofT ts s ≠ (ts.length : Int) ↔ s ∈ ts := by
 refine ⟨fun h => ?_, fun h => ?_⟩
 · by_cases hm : s ∈ ts
   · exact hm
   · exact absurd (tZ hm) h
 · obtain ⟨i, hi, _, e⟩ := nc hp h
   rw [e]; omega
theorem CB {ts : List Txt} (hp : ts.Pairwise (· < ·)) {s t : Txt} (h : s ∈ ts) (e : ofT ts t = ofT ts s) : t = s := by
 obtain ⟨i, hi, es, e1⟩ := nc hp h
 have ht : t ∈ ts := (CA hp).1 (by rw [e, e1]; omega)
 obtain ⟨j, hj, et, e2⟩ := nc hp ht
 have : i = j := by omega
 subst this
 rw [<- es, <- et]
theorem j4 {ts : List Txt} (hp : ts.Pairwise (· < ·)) : ∀ {l m : List Txt}, (∀ s ∈ l, s ∈ ts) -> m.map (ofT ts) = l.map (ofT ts) -> m = l
 | [], m, _, e => by simpa using e
 | s :: l, [], _, e => by simp at e
 | s :: l, t :: m, h, e => by
   simp only [List.map_cons, List.cons.injEq] at e
   rw [CB hp (h s List.mem_cons_self) e.1, j4 hp (fun x hx => h x (List.mem_cons_of_mem _ hx)) e.2]
def mH (ts : List Txt) (h : Hst) : Prop := bL h ≠ [] /\ ∀ s ∈ bL h, s ∈ ts
theorem F2 {h d : Hst} (oh : h.ok) (od : d.ok) (rh : aU h = true) (rd : aU d = true) (e : bL h = bL d) : h = d := by
 unfold bL at e
 rw [if_pos rh, if_pos rd] at e
 by_cases hk : h.kind = 1
 · have hl := dv oh hk rh
   by_cases dk : d.kind = 1
   · have dl := dv od dk rd
     rw [if_pos hk, if_pos dk] at e
     have e' := List.reverse_inj.1 e
     refine (d7 oh od).1 ((Is oh od ?_ ?_).2 e')
     · exact fun h0 => hl.2 (List.eq_nil_of_length_eq_zero h0)
     · exact fun h0 => dl.2 (List.eq_nil_of_length_eq_zero h0)
   · rw [if_pos hk, if_neg dk] at e
     have hm : cX d ∈ aq h := by
       have : cX d ∈ (aq h).reverse := by rw [e]; exact List.mem_singleton.2 rfl
       simpa using this
     have := lD oh _ hm
     rw [mW od rd dk] at this; cases this
 · by_cases dk : d.kind = 1
   · rw [if_neg hk, if_pos dk] at e
     have hm : cX h ∈ aq d := by
       have : cX h ∈ (aq d).reverse := by rw [<- e]; exact List.mem_singleton.2 rfl
       simpa using this
     have := lD od _ hm
     rw [mW oh rh hk] at this; cases this
   · rw [if_neg hk, if_neg dk] at e
     have e' := (List.cons.inj e).1
     have h1 := lM oh rh
     rw [e', lM od rd] at h1
     exact (Option.some.inj h1).symm
theorem HL {ts : List Txt} (hp : ts.Pairwise (· < ·)) {h d : Hst} (oh : h.ok) (od : d.ok) (rh : aU h = true) (kd : mH ts d) : hwV ts h = hwV ts d ↔ h = d := by
 refine ⟨fun e => ?_, fun e => by rw [e]⟩
 exact F2 oh od rh ((iV od).1 kd.1) (j4 hp kd.2 e)
theorem ww {ts : List Txt} (hp : ts.Pairwise (· < ·)) {h d : Hst} (oh : h.ok) (od : d.ok) (rh : aU h = true) (kd : mH ts d) (dk : d.kind = 1) :
   (hwV ts d <+: hwV ts h /\ (hwV ts d).length < (hwV ts h).length) ↔ ge h d = true := by
 have rd := (iV od).1 kd.1
 have dl := dv od dk rd
 have ed : bL d = (aq d).reverse := by unfold bL; rw [if_pos rd, if_pos dk]
 have hd0 : (aq d).length ≠ 0 := fun h0 => dl.2 (List.eq_nil_of_length_eq_zero h0)
 by_cases hk : h.kind = 1
 · have hl := dv oh hk rh
   have eh : bL h = (aq h).reverse := by unfold bL; rw [if_pos rh, if_pos hk]
   have hh0 : (aq h).length ≠ 0 := fun h0 => hl.2 (List.eq_nil_of_length_eq_zero h0)
   rw [xp oh od hh0 hd0]
   unfold hwV
   rw [List.length_map, List.length_map, eh, ed, List.length_reverse, List.length_reverse, and_comm]
   refine and_congr_right fun hlt => ?_
   rw [List.prefix_iff_eq_take, List.length_map, List.length_reverse, <- List.map_take]
   constructor
   · intro e
     exact (j4 hp (by rw [<- ed]; exact kd.2) e.symm).symm
   · intro e; rw [<- e]
 · have eh : bL h = [cX h] := by unfold bL; rw [if_pos rh, if_neg hk]
   have hu : ge h d = false := by
     unfold ge
     rw [if_pos]
     right
     rw [show aq h = [] from if_neg (fun c => hk c.1)]
     exact Nat.zero_le _
   rw [hu]
   simp only [Bool.false_eq_true, iff_false, not_and]
   intro _
   unfold hwV
   rw [List.length_map, List.length_map, eh, ed, List.length_reverse]
   simp only [List.length_singleton]
   omega
theorem yP {h d : Hst} (dk : d.kind ≠ 1) : ge h d = false := by
 unfold ge
 rw [if_pos]
 left
 rw [show aq d = [] from if_neg (fun c => dk c.1)]
 rfl
end Go.Pk
namespace Go.Pk
theorem sC {ts : List Txt} (hp : ts.Pairwise (· < ·)) (h : Hst) : mH ts h ↔ be ts h ≠ [] /\ ts.length ∉ be ts h := by
 unfold mH be
 refine and_congr (not_congr List.map_eq_nil_iff.symm) ?_
 constructor
 · intro H hm
   obtain ⟨s, hs, e⟩ := List.mem_map.1 hm
   obtain ⟨i, hi, _, e2⟩ := nc hp (H s hs)
   omega
 · intro H s hs
   by_cases hm : s ∈ ts
   · exact hm
   · exact absurd (List.mem_map.2 ⟨s, hs, by rw [tZ hm]; simp⟩) H
end Go.Pk
namespace Go.Pk
theorem GQ {ts : List Txt} {h d : Hst} : be ts h = be ts d ↔ hwV ts h = hwV ts d := by
 rw [qa, qa]
 constructor
 · intro e; rw [e]
 · intro e
   have := congrArg (List.map Int.toNat) e
   rw [List.map_map, List.map_map] at this
   have id' : ∀ l : List Nat, l.map (Int.toNat ∘ fun (x : Nat) => (x : Int)) = l := fun l => by
     conv => rhs; rw [<- List.map_id l]
     exact List.map_congr_left fun x _ => Int.toNat_natCast x
   rwa [id', id'] at this
theorem gI : ∀ {u v : List Nat}, (u.map fun (x : Nat) => (x : Int)) <+: (v.map fun (x : Nat) => (x : Int)) ↔ u <+: v
 | [], v => by simp
 | x :: u, [] => by simp
 | x :: u, y :: v => by
   simp only [List.map_cons, List.cons_prefix_cons]
   rw [gI]
   constructor
   · rintro ⟨h1, h2⟩; exact ⟨by omega, h2⟩
   · rintro ⟨h1, h2⟩; exact ⟨by rw [h1], h2⟩
theorem FA {ts : List Txt} (hp : ts.Pairwise (· < ·)) {h d : Hst} (oh : h.ok) (od : d.ok) (rh : aU h = true) (kd : mH ts d) : sd 0 (be ts d) (be ts h) ↔ h = d := by
 unfold sd
 rw [if_pos rfl, GQ]
 exact HL hp oh od rh kd
theorem sX {ts : List Txt} (hp : ts.Pairwise (· < ·)) {h d : Hst} (oh : h.ok) (od : d.ok) (rh : aU h = true) (kd : mH ts d) (dk : d.kind = 1) : sd 2 (be ts d) (be ts h) ↔ ge h d = true := by
 unfold sd
 rw [if_neg (by omega), if_neg (by omega), <- ww hp oh od rh kd dk, qa, qa, gI, List.length_map, List.length_map]
theorem DQ {ts : List Txt} (hp : ts.Pairwise (· < ·)) {h d : Hst} (oh : h.ok) (od : d.ok) (rh : aU h = true) (kd : mH ts d) (dk : d.kind = 1) : sd 1 (be ts d) (be ts h) ↔ Gk h d = true := by
 have h1 := FA hp oh od rh kd
 have h2 := sX hp oh od rh kd dk
 have rd := (iV od).1 kd.1
 unfold Gk
 rw [rh, rd]
 simp only [Bool.true_and, Bool.or_eq_true]
 rw [d7 oh od, <- h1, <- h2]
 unfold sd
 simp only [if_true, show (1 : Nat) ≠ 0 by omega, show (2 : Nat) ≠ 0 by omega, show (2 : Nat) ≠ 1 by omega, if_false]
 constructor
 · intro hpre
   rcases Nat.lt_or_ge (be ts d).length (be ts h).length with hl | hl
   · exact .inr ⟨hpre, hl⟩
   · exact .inl (hpre.eq_of_length (by have := hpre.length_le; omega)).symm
 · rintro (e | ⟨e, _⟩)
   · rw [e]; exact List.prefix_refl _
   · exact e
theorem Cj {h d : Hst} (oh : h.ok) (od : d.ok) (rh : aU h = true) (rd : aU d = true) (dk : d.kind ≠ 1) : Gk h d = true ↔ h = d := by
 unfold Gk
 rw [rh, rd, yP dk]
 simp only [Bool.true_and, Bool.or_false]
 exact d7 oh od
theorem Io {m : Nat} {w : List Nat} (h : w ≠ []) : ¬ sd m w [] := by
 unfold sd
 split
 · exact fun e => h e.symm
 · split
   · intro e; exact h (List.prefix_nil.1 e)
   · rintro ⟨e, _⟩; exact h (List.prefix_nil.1 e)
end Go.Pk
namespace Go.Pk
open Go.RowKit (Below)
def FO (k : Int) (w : List Int) : Bool := w.all fun x => decide (0 <= x) && decide (x < k)
def mw (d : DA) (w : List Int) : Bool := okD d && (FO d.k w && d.acc (d.run d.s (w.map Int.toNat)))
theorem um {d : DA} (h : d.Ok) (w : List Nat) : mw d (w.map fun (x : Nat) => (x : Int)) = true ↔ d.Lang d.s w := by
 have e : (w.map fun (x : Nat) => (x : Int)).map Int.toNat = w := by
   rw [List.map_map]
   conv => rhs; rw [<- List.map_id w]
   exact List.map_congr_left fun x _ => Int.toNat_natCast x
 unfold mw DA.Lang FO
 rw [e, ff.2 h, Bool.true_and, Bool.and_eq_true, List.all_eq_true]
 refine and_congr ?_ Iff.rfl
 constructor
 · intro H x hx
   have := H (x : Int) (List.mem_map.2 ⟨x, hx, rfl⟩)
   simp only [Bool.and_eq_true, dTx] at this
   have := h.kk
   omega
 · intro H y hy
   obtain ⟨x, hx, rfl⟩ := List.mem_map.1 hy
   have := H x hx
   have := h.kk
   simp only [Bool.and_eq_true, dTx]
   omega
end Go.Pk
namespace Go.Proofs.YtpafoodmpjlkhaaGreatDoor
open Go.Pk
open Go.RowKit (Below)
theorem sB {ts : List Txt} (hp : ts.Pairwise (· < ·)) (h : Hst) : kB ts h = true ↔ mH ts h := by
 rw [sC hp]
 unfold kB
 rw [Bool.and_eq_true, qa]
 simp only [Bool.not_eq_true', dFx, List.map_eq_nil_iff, List.mem_map, not_exists, not_and]
 refine and_congr Iff.rfl ⟨fun h hm => h _ hm rfl, fun h x hx e => h ?_⟩
 have : x = ts.length := by omega
 rwa [<- this]
end Go.Proofs.YtpafoodmpjlkhaaGreatDoor
namespace Go.Proofs.YtpafoodmpjlkhaaGreatDoor
open Go.Pk
open Go.RowKit (Below)
theorem kj {w : World} {a b : Option Addr} {n c m e : Nat} {d : DA} (h : DaS w a n c b m e d) :
   Calls prog hU #[daV a n c b m e d] w (Ret fun v w' => v = .bool (okD d) /\ Below w.heap.size w w') := by
 apply wX
 unfold rA
 intro k1 w1 hk1 hw1
 have hb := (hw1 ▸ ah w _ : Below w.heap.size w w1)
 have A1 : am w1 k1 aj [.int .i64 d.k, .int .i64 d.st, .slice a n c, .slice b m e] := am.new hk1 hw1
 have hx := h.below hb
 have hm := hx.ac.len
 have hn := hx.nx.len
 have hml := hx.ac.le
 have hnl := hx.nx.le
 have l0 : (Instr.loadAt az (.pointer (some ⟨k1, 0, none⟩))).run prog w1 = .ok (.int .i64 d.k) w1 := A1.load1 aI rfl rfl
 have l1 : (Instr.loadAt az (.pointer (some ⟨k1, 1, none⟩))).run prog w1 = .ok (.int .i64 d.st) w1 := A1.load1 aI rfl rfl
 have l2 : (Instr.loadAt aA (.pointer (some ⟨k1, 2, none⟩))).run prog w1 = .ok (.slice a n c) w1 := A1.load1 bi rfl rfl
 have no : ¬ d.Ok -> Value.bool false = Value.bool (okD d) := fun hno => by
   cases ho : okD d with
   | false => rfl
   | true => exact absurd (ff.1 ho) hno
 refine ⟨rfl, b, m, e, A1.load1 bg rfl rfl, fun w' => w' = w1 /\ 1 <= d.k /\ d.k <= 512 /\ 1 <= m /\ m <= 65536 /\ (n : Int) = (m : Int) * d.k, ⟨rfl, _, l0, ?_⟩, aE.of ?_ _⟩
 · refine af.of (fun h1 => ⟨no fun o => ?_, hb⟩) (fun h1 => ⟨rfl, _, l0, ?_⟩) <;> simp only [dTx, dFx] at h1
   · have := o.k1; omega
   refine af.of (fun h2 => ⟨no fun o => ?_, hb⟩) (fun h2 => ?_) <;> simp only [dTx, dFx] at h2
   · have := o.k2; omega
   refine af.of (fun h3 => ⟨no fun o => ?_, hb⟩) (fun h3 => ?_) <;> simp only [dTx, dFx] at h3
   · have := o.n1; omega
   refine af.of (fun h4 => ⟨no fun o => ?_, hb⟩) (fun h4 => ?_) <;> simp only [dTx, dFx] at h4
   · have := o.n2; omega
   have hmul : 0 <= (m : Int) * d.k /\ (m : Int) * d.k <= 65536 * 512 := ⟨Int.mul_nonneg (by omega) (by omega), Int.mul_le_mul (by omega) (by omega) (by omega) (by omega)⟩
   refine ⟨rfl, a, n, c, l2, rfl, _, l0, ?_⟩
   rw [show i64.wrap (((m : Nat) : Int) * d.k) = (m : Int) * d.k from ak (by omega) (by omega)]
   refine af.of (fun h5 => ⟨no fun o => ?_, hb⟩) (fun h5 => ⟨rfl, by omega, by omega, by omega, by omega, by simpa using h5⟩)
   have h5 : ((n : Nat) : Int) ≠ (m : Int) * d.k := by simpa using h5
   have := o.len
   rw [<- hn, <- hm] at this
   exact h5 this
 rintro wj ⟨hwj, h1, h2, h3, h4, h5⟩
 rw [hwj]; clear hwj wj
 refine ⟨rfl, a, n, c, l2, fun M i w' => ∃ j : Nat, j <= d.nx.length /\ i = (j : Int) /\ M = d.nx.length - j /\ (d.nx.take j).all (inR (m : Int)) = true /\ w' = w1, ⟨_, 0, by omega, rfl, rfl, rfl, rfl⟩, ?_⟩
 intro M i
 refine aE.of ?_ _
 rintro w' ⟨j, hj, rfl, rfl, hall, hw'⟩
 rw [hw']; clear hw' w'
 refine af.of (fun h6 => ?_) (fun h6 => ?_) <;> simp only [dTx, dFx] at h6
 · have hlt : j < d.nx.length := by omega
   have bad : ¬ (0 <= d.nx[j] /\ d.nx[j] < (m : Int)) -> ¬ d.Ok := fun hno o => by
     have := o.nx0 _ (List.getElem_mem hlt)
     rw [<- hm] at this
     exact hno this
   refine ⟨⟨⟨by omega, h6⟩, hx.nx.isSome hlt⟩, _, hx.nx.num aI hlt, af.of (fun h7 => ⟨no (bad ?_), hb⟩) (fun h7 => af.of (fun h8 => ⟨no (bad ?_), hb⟩) (fun h8 => ?_))⟩
   · simp only [dTx] at h7; omega
   · simp only [dTx] at h8; omega
   · simp only [dFx] at h7 h8
     refine ⟨d.nx.length - (j + 1), by omega, j + 1, by omega, by rw [ak (by omega) (by omega)]; omega, rfl, ?_, rfl⟩
     rw [List.take_succ_eq_append_getElem hlt, List.all_append, hall]
     unfold inR
     rw [List.all_cons, List.all_nil, decide_eq_true (show 0 <= d.nx[j] by omega), decide_eq_true (show d.nx[j] < (m : Int) by omega)]; rfl
 · have : j = d.nx.length := by omega
   subst this
   rw [List.take_length] at hall
   refine ⟨rfl, _, l1, af.of (fun h7 => ⟨rfl, _, l1, ?_, hb⟩) (fun h7 => ⟨no fun o => ?_, hb⟩)⟩
   · simp only [ge_iff_le, dTx] at h7
     congr 1
     unfold okD
     rw [<- hm, <- hn, decide_eq_true h1, decide_eq_true h2, decide_eq_true h3, decide_eq_true h4, decide_eq_true h5, decide_eq_true h7]
     unfold inR at hall
     rw [hall]
     simp
   · simp only [ge_iff_le, dFx] at h7
     have := o.s0; omega
theorem iA {w : World} {a b a1 : Option Addr} {n c m e l1 c1 : Nat} {d : DA} {ws : List Int} (h : DaS w a n c b m e d) (hs : Sl i7 w gT a1 l1 c1 ws) :
   Calls prog fM #[daV a n c b m e d, .slice a1 l1 c1] w (Ret fun v w' => v = .bool (mw d ws) /\ Below w.heap.size w w') := by
 apply wY
 unfold rB
 intro k2 w2 hk2 hw2
 have hb2 := (hw2 ▸ ah w _ : Below w.heap.size w w2)
 have A2 : am w2 k2 aj [.int .i64 d.k, .int .i64 d.st, .slice a n c, .slice b m e] := am.new hk2 hw2
 refine ⟨_, _, a, n, c, b, m, e, bs.load0 (cs := [.int .i64 d.k, .int .i64 d.st, .slice a n c, .slice b m e]) A2 rfl, ?_⟩
 refine ax (kj (h.below hb2)) ?_
 rintro _ w9 ⟨rfl, hb9⟩
 have hB := ab hb2 hb9 hb2.size
 have A9 := A2.below hb9
 have hx := h.below hB
 have hy := hs.below hB
 have hl1 := hy.len
 have hl1' := hy.le
 subst hl1
 refine ⟨_, rfl, af.of (fun h1 => ⟨?_, hB⟩) (fun h1 => ⟨rfl, d.st, A9.load1 aI rfl rfl, ?_⟩)⟩
 · unfold mw
   rw [show okD d = false by simpa using h1]; rfl
 have hok : okD d = true := by simpa using h1
 have o := ff.1 hok
 have hkk := o.kk
 have hm := hx.ac.len
 have hn := hx.nx.len
 refine ⟨fun M s i w' => ∃ j : Nat, j <= ws.length /\ i = (j : Int) /\ M = ws.length - j /\ FO d.k (ws.take j) = true /\ s = ((d.run d.s ((ws.take j).map Int.toNat) : Nat) : Int) /\ w' = w9, ⟨_, 0, by omega, rfl, rfl, rfl, by have := o.s0; show d.st = ((d.st.toNat : Nat) : Int); omega, rfl⟩, ?_⟩
 intro M s i
 refine aE.of ?_ _
 rintro w' ⟨j, hj, rfl, rfl, hsy, rfl, hw'⟩
 rw [hw']; clear hw' w'
 have hsl : ∀ x ∈ (ws.take j).map Int.toNat, x < d.K := by
   intro x hx'
   obtain ⟨y, hy', rfl⟩ := List.mem_map.1 hx'
   have := List.all_eq_true.1 hsy y hy'
   simp only [Bool.and_eq_true, dTx] at this
   omega
 have hrl := o.run_lt o.s_lt hsl
 refine af.of (fun h6 => ?_) (fun h6 => ?_) <;> simp only [dTx, dFx] at h6
 · have hlt : j < ws.length := by omega
   have bad : ¬ (0 <= ws[j] /\ ws[j] < d.k) -> mw d ws = false := fun hno => by
     unfold mw
     have : FO d.k ws = false := by
       rw [Bool.eq_false_iff]
       intro hc
       have := List.all_eq_true.1 hc _ (List.getElem_mem hlt)
       simp only [Bool.and_eq_true, dTx] at this
       exact hno this
     rw [this, Bool.false_and, Bool.and_false]
   refine ⟨⟨⟨by omega, h6⟩, hy.isSome hlt⟩, _, hy.num aI hlt, fun w' => w' = w9 /\ 0 <= ws[j] /\ ws[j] < d.k, ?_, aE.of ?_ _⟩
   · refine af.of (fun h7 => ⟨?_, hB⟩) (fun h7 => ⟨rfl, _, A9.load1 aI rfl rfl, af.of (fun h8 => ⟨?_, hB⟩) (fun h8 => ?_)⟩)
     · rw [bad (by simp only [dTx] at h7; omega)]
     · rw [bad (by simp only [dTx] at h8; omega)]
     · simp only [dFx] at h7 h8
       exact ⟨rfl, by omega, by omega⟩
   · rintro wj ⟨hwj, h7, h8⟩
     rw [hwj]; clear hwj wj
     obtain ⟨x, hxx⟩ : ∃ x : Nat, ws[j] = (x : Int) := ⟨ws[j].toNat, by omega⟩
     have hxk : x < d.K := by omega
     have hN := o.n2
     have hK := o.k2
     obtain ⟨e1, e2⟩ := nH (s := d.run d.s ((ws.take j).map Int.toNat)) (x := x) (k := d.K) (N := d.n) hrl hxk hN (by omega)
     have hnl := o.lenN
     obtain ⟨v, hv, hv0, hv1, hto⟩ := o.at hrl hxk
     rw [hkk] at e1
     refine ⟨rfl, a, n, c, A9.load1 bi rfl rfl, rfl, d.k, A9.load1 aI rfl rfl, ?_⟩
     rw [hxx, e1]
     have hidx : d.run d.s ((ws.take j).map Int.toNat) * d.K + x < d.nx.length := by omega
     have hgv : d.nx[d.run d.s ((ws.take j).map Int.toNat) * d.K + x] = v := by
       rw [List.getElem?_eq_getElem hidx] at hv; exact Option.some.inj hv
     refine ⟨⟨⟨by omega, by omega⟩, hx.nx.isSome hidx⟩, v, by rw [<- hgv]; exact hx.nx.num aI hidx, ws.length - (j + 1), by omega, j + 1, by omega, by rw [ak (by omega) (by omega)]; omega, rfl, ?_, ?_, rfl⟩
     · unfold FO at hsy ⊢
       rw [List.take_succ_eq_append_getElem hlt, List.all_append, hsy]
       rw [List.all_cons, List.all_nil, decide_eq_true h7, decide_eq_true h8]; rfl
     · rw [List.take_succ_eq_append_getElem hlt, List.map_append, qT, List.map_cons, List.map_nil, hxx, Int.toNat_natCast]
       show v = ((d.to _ x : Nat) : Int)
       rw [hto]; omega
 · have : j = ws.length := by omega
   subst this
   rw [List.take_length] at hsy hrl ⊢
   have hidx : d.run d.s (ws.map Int.toNat) < d.ac.length := hrl
   obtain ⟨v, hv, hrep⟩ := hx.ac.load1 (P := prog) (i := ((d.run d.s (ws.map Int.toNat) : Nat) : Int)) qw rfl rfl (by rw [Int.toNat_natCast]; exact hidx)
   have hb := zb hrep
   subst hb
   refine ⟨rfl, b, m, e, A9.load1 bg rfl rfl, ⟨⟨by omega, by omega⟩, hx.ac.isSome hidx⟩, _, hv, ?_, hB⟩
   unfold mw
   rw [hok, hsy, Bool.true_and, Bool.true_and]
   congr 1
   simp only [Int.toNat_natCast]
   exact vt hidx
end Go.Proofs.YtpafoodmpjlkhaaGreatDoor
namespace Go.Proofs.YtpafoodmpjlkhaaGreatDoor
open Go.Pk
open Go.RowKit (Below)
theorem wF : ∀ (p a b : Txt), p ++ a < p ++ b ↔ a < b
 | [], a, b => Iff.rfl
 | x :: p, a, b => by
   rw [List.cons_append, List.cons_append, List.cons_lt_cons_iff, wF p a b]
   simp
theorem Cw {s t : Txt} {n : Nat} (hs : n < s.length) (ht : n < t.length) (e : s.take n = t.take n) (hne : s[n] ≠ t[n]) : (s < t ↔ s[n] < t[n]) := by
 have e1 : s = s.take n ++ s[n] :: s.drop (n + 1) := by rw [<- List.drop_eq_getElem_cons hs, List.take_append_drop]
 have e2 : t = s.take n ++ t[n] :: t.drop (n + 1) := by rw [e, <- List.drop_eq_getElem_cons ht, List.take_append_drop]
 have e3 : (s < t) = (s.take n ++ s[n] :: s.drop (n + 1) < s.take n ++ t[n] :: t.drop (n + 1)) := by rw [<- e1, <- e2]
 rw [e3, wF, List.cons_lt_cons_iff]
 simp [hne]
theorem sF {s t : Txt} {n : Nat} (hs : n <= s.length) (ht : n <= t.length) (he : n = s.length \/ n = t.length) (e : s.take n = t.take n) : (s < t ↔ s.length < t.length) := by
 have e1 : s = s.take n ++ s.drop n := (List.take_append_drop n s).symm
 have e2 : t = s.take n ++ t.drop n := by rw [e, List.take_append_drop]
 have e3 : (s < t) = (s.take n ++ s.drop n < s.take n ++ t.drop n) := by rw [<- e1, <- e2]
 rw [e3, wF]
 by_cases h1 : n = s.length
 · have : s.drop n = [] := List.drop_eq_nil_iff.2 (by omega)
   rw [this]
   cases hd : t.drop n with
   | nil =>
     have := List.drop_eq_nil_iff.1 hd
     constructor
     · intro h; exact absurd h (List.lt_irrefl _)
     · intro h; omega
   | cons y ys =>
     have h2 : ¬ t.length <= n := fun h => by rw [List.drop_eq_nil_iff.2 h] at hd; cases hd
     constructor
     · intro _; omega
     · intro _; exact List.nil_lt_cons _ _
 · have h2 : n = t.length := he.resolve_left h1
   have : t.drop n = [] := List.drop_eq_nil_iff.2 (by omega)
   rw [this]
   constructor
   · intro h; exact absurd h (List.not_lt_nil _)
   · intro h; omega
theorem oI (s t : Txt) (hs : s.length <= 1000000) (ht : t.length <= 1000000) (w : World) :
   Calls prog gE #[.string (mkS s), .string (mkS t)] w (Ret fun v w' => v = .bool (decide (s < t)) /\ Below w.heap.size w w') := by
 apply ns
 unfold jE
 refine ⟨fun m i w' => ∃ n : Nat, n <= s.length /\ n <= t.length /\ i = (n : Int) /\ m = s.length - n /\ s.take n = t.take n /\ Below w.heap.size w w', ⟨_, 0, by omega, by omega, rfl, rfl, rfl, Below.refl _ _⟩, ?_⟩
 intro m i
 refine aE.of ?_ _
 rintro w' ⟨n, hn1, hn2, rfl, rfl, he, hb⟩
 refine ⟨fun w'' => w'' = w' /\ n < s.length /\ n < t.length, ?_, ?_⟩
 · refine af.of (fun h => ?_) (fun h => ?_) <;> simp at h
   · refine af.of (fun h2 => ?_) (fun h2 => ?_) <;> simp at h2
     · exact ⟨rfl, h, h2⟩
     · refine ⟨?_, hb⟩
       congr 1
       rw [Bool.eq_iff_iff, dTx, dTx, sF hn1 hn2 (.inr (by omega)) he]; omega
   · refine ⟨?_, hb⟩
     congr 1
     rw [Bool.eq_iff_iff, dTx, dTx, sF hn1 hn2 (.inl (by omega)) he]; omega
 · refine aE.of ?_ _
   rintro _ ⟨rfl, h1, h2⟩
   refine ⟨⟨by omega, by omega⟩, ⟨by omega, by omega⟩, ?_⟩
   intro wq hq
   rw [eX (by simpa using h1), eX (by simpa using h2)]
   simp only [Int.toNat_natCast]
   have hB := ab hb hq hb.size
   refine af.of (fun h => ?_) (fun h => ?_) <;> simp at h
   · refine ⟨⟨by omega, by omega⟩, ⟨by omega, by omega⟩, ?_⟩
     intro wq2 hq2
     have hne : s[n] ≠ t[n] := fun e => h (by rw [e])
     refine ⟨?_, ab hB hq2 hB.size⟩
     congr 1
     rw [Bool.eq_iff_iff, dTx, dTx, Cw h1 h2 he hne]
     rw [UInt8.lt_iff_toNat_lt]; omega
   · have heq : s[n] = t[n] := UInt8.toNat_inj.1 (by omega)
     refine ⟨s.length - (n + 1), by omega, n + 1, by omega, by omega, ?_, rfl, ?_, hB⟩
     · rw [ak (by omega) (by omega)]; omega
     · rw [dm h1, dm h2, he, heq]
theorem ku (a : Option Addr) (n c : Nat) (l : List Txt) (s : Txt) (w : World) (hs : Sl tS w gT a n c l) :
   Calls prog fK #[.slice a n c, .string (mkS s)] w (Ret fun v w' => v = .bool (decide (s ∈ l)) /\ w' = w) := by
 apply oO
 unfold kF
 have hn := hs.len
 have hle := hs.le
 subst hn
 refine ⟨fun m i w' => w' = w /\ ∃ k : Nat, k <= l.length /\ i = (k : Int) /\ m = l.length - k /\ s ∉ l.take k, ⟨_, rfl, 0, by omega, rfl, rfl, by simp⟩, ?_⟩
 intro m i
 refine aE.of ?_ _
 rintro _ ⟨rfl, k, hk, rfl, rfl, hno⟩
 refine af.of (fun h => ?_) (fun h => ?_) <;> simp at h
 · obtain ⟨v, hv, hrep⟩ := hs.load1 (i := (k : Int)) aC rfl rfl (by simpa using h)
   obtain ⟨rfl, -⟩ := i6 hrep
   simp only [Int.toNat_natCast] at hv
   refine ⟨⟨⟨by omega, by omega⟩, hs.isSome h⟩, _, hv, ?_⟩
   refine af.of (fun h2 => ?_) (fun h2 => ?_) <;> simp at h2
   · refine ⟨?_, rfl⟩
     rw [<- h2]; simp
   · refine ⟨l.length - (k + 1), by omega, rfl, k + 1, by omega, ?_, rfl, ?_⟩
     · rw [ak (by omega) (by omega)]; omega
     · rw [dm h, List.mem_append]
       rintro (h3 | h3)
       · exact hno h3
       · simp at h3; exact h2 h3.symm
 · have : k = l.length := by omega
   subst this
   rw [List.take_length] at hno
   exact ⟨by simp [hno], rfl⟩
theorem iz (a : Option Addr) (n c : Nat) (l : List Txt) (hl : l.length <= 1000000) (w : World) (hs : Sl tS w gT a n c l) :
   Calls prog du #[.slice a n c] w (Ret fun v w' => ∃ a' n' c', v = .slice a' n' c' /\ Ow tS ar w' NoB a' n' c' (cH l) /\ bD w.heap.size a' /\ Below w.heap.size w w') := by
 apply mo
 unfold iQ
 have hn := hs.len
 subst hn
 intro k0 w0 hk0 hw0
 have hB0 : Below w.heap.size w w0 := hw0 ▸ ah _ _
 have ho0 : Ow tS ar w0 NoB (some ⟨k0, 0, none⟩) 0 0 [] := Ow.newF (dP _) hk0 hw0 (gw.nil _ _ _) (Nat.zero_le _)
 refine ⟨fun m a' n' c' i w' => ∃ k : Nat, k <= l.length /\ i = (k : Int) /\ m = l.length - k /\ Ow tS ar w' NoB a' n' c' (cH (l.take k)) /\ bD w.heap.size a' /\ Below w.heap.size w w',
   ⟨_, 0, by omega, rfl, rfl, ho0, fZ hk0, hB0⟩, ?_⟩
 intro m a' n' c' i
 refine aE.of ?_ _
 rintro w' ⟨k, hk, rfl, rfl, ho, hf, hb⟩
 refine af.of (fun h => ?_) (fun h => ?_) <;> simp at h
 · have hs' := hs.below hb
   obtain ⟨v, hv, hrep⟩ := hs'.load1 (i := (k : Int)) aC rfl rfl (by simpa using h)
   obtain ⟨rfl, -⟩ := i6 hrep
   simp only [Int.toNat_natCast] at hv
   refine ⟨⟨⟨by omega, by omega⟩, hs.isSome h⟩, _, hv, ?_⟩
   refine ax (ku a' n' c' _ _ w' ho.all) ?_
   rintro _ w' ⟨rfl, rfl⟩
   refine ⟨_, rfl, ?_⟩
   have e1 : i64.wrap ((k : Int) + 1) = ((k + 1 : Nat) : Int) := by rw [ak (by omega) (by omega)]; omega
   rw [e1]
   have hlen := (fh (l.take k)).2.2
   rw [List.length_take] at hlen
   refine af.of (fun h2 => ?_) (fun h2 => ?_) <;> simp at h2
   · intro k1 w3 hk1 hw3
     have ho3 := ho.below (hw3 ▸ ah w' (.cells #[.string (mkS l[k])] ar) : Below w'.heap.size w' w3)
     have hsrc : Src tS w3 NoB (some ⟨k1, 0, none⟩) 1 [l[k]] := Src.new1F (dP _) hk1 hw3 (nn trivial)
     obtain ⟨w4, a4, n4, c4, hr, ho4, hgr, hfr⟩ := cJ (ty := aw) bh iD (by decide) ho3 (fun _ _ h => h) (cm := 1) hsrc (by simp; omega)
     refine ⟨w4, a4, n4, c4, hr, l.length - (k + 1), by omega, k + 1, by omega, rfl, rfl, ?_, ?_, ?_⟩
     · rw [dm h, i8, if_neg h2]; exact ho4
     · subst hw3; exact hf.app (by have := hb.size; simp; omega) hfr
     · subst hw3; exact (ab hb (ah _ _) hb.size).grown hgr (by have := hb.size; simp; omega) hf
   · refine ⟨l.length - (k + 1), by omega, k + 1, by omega, rfl, rfl, ?_, hf, hb⟩
     rw [dm h, i8, if_pos h2]; exact ho
 · have : k = l.length := by omega
   subst this
   rw [List.take_length] at ho
   exact ⟨_, _, _, rfl, ho, hf, hb⟩
theorem lV (a : Option Addr) (n c : Nat) (l : List Txt) (s : Txt) (hl : l.length <= 1000000) (hx : ∀ x ∈ l, x.length <= 1000000) (hs1 : s.length <= 1000000) (w : World) (hs : Sl tS w gT a n c l) :
   Calls prog gZ #[.slice a n c, .string (mkS s)] w (Ret fun v w' => v = .int .i64 (ofT (cH l) s) /\ Below w.heap.size w w') := by
 apply qs
 unfold mB
 refine ax (iz a n c l hl w hs) ?_
 rintro _ w1 ⟨a1, n1, c1, rfl, ho, hf, hb⟩
 refine ⟨_, _, _, rfl, ?_⟩
 refine ax (ku a1 n1 c1 _ s w1 ho.all) ?_
 rintro _ w1 ⟨rfl, rfl⟩
 have hn1 := ho.len
 obtain ⟨hT1, hT2, hT3⟩ := fh l
 generalize cH l = t at *
 subst hn1
 refine ⟨_, rfl, ?_⟩
 refine af.of (fun h => ?_) (fun h => ?_) <;> simp at h
 · refine ⟨?_, hb⟩
   unfold ofT; rw [if_neg h]
 · refine ⟨fun m q i w' => ∃ k : Nat, k <= t.length /\ i = (k : Int) /\ q = (((t.take k).countP fun x => decide (x < s) : Nat) : Int) /\ m = t.length - k /\ Below w1.heap.size w1 w',
     ⟨_, 0, by omega, rfl, rfl, rfl, Below.refl _ _⟩, ?_⟩
   intro m q i
   refine aE.of ?_ _
   rintro w' ⟨k, hk, rfl, rfl, rfl, hb'⟩
   have hsl := (ho.below hb').all
   refine af.of (fun h2 => ?_) (fun h2 => ?_) <;> simp at h2
   · obtain ⟨v, hv, hrep⟩ := hsl.load1 (i := (k : Int)) aC rfl rfl (by simpa using h2)
     obtain ⟨rfl, -⟩ := i6 hrep
     simp only [Int.toNat_natCast] at hv
     refine ⟨⟨⟨by omega, by omega⟩, hsl.isSome h2⟩, _, hv, ?_⟩
     refine ax (oI _ s (hx _ ((hT2 _).1 (List.getElem_mem h2))) hs1 w') ?_
     rintro _ w3 ⟨rfl, hb3⟩
     refine ⟨_, rfl, ?_⟩
     have hc := List.countP_le_length (p := fun x => decide (x < s)) (l := t.take k)
     rw [List.length_take] at hc
     have e1 : i64.wrap ((k : Int) + 1) = ((k + 1 : Nat) : Int) := by rw [ak (by omega) (by omega)]; omega
     rw [e1]
     refine af.of (fun h4 => ?_) (fun h4 => ?_) <;> simp only [dTx, dFx] at h4
     · refine ⟨t.length - (k + 1), by omega, k + 1, by omega, rfl, ?_, rfl, ab hb' hb3 hb'.size⟩
       rw [ak (by omega) (by omega), dm h2, List.countP_append]
       simp [h4]
     · refine ⟨t.length - (k + 1), by omega, k + 1, by omega, rfl, ?_, rfl, ab hb' hb3 hb'.size⟩
       rw [dm h2, List.countP_append]
       simp [h4]
   · have : k = t.length := by omega
     subst this
     rw [List.take_length]
     refine ⟨?_, ab hb hb' hb.size⟩
     unfold ofT; rw [if_pos h]
end Go.Proofs.YtpafoodmpjlkhaaGreatDoor
namespace Go.Pk
theorem nU (l : List Txt) (s : Txt) : ofT (cH l) s = ofT (ky l) s := Fy (fh l).1 (nS l) (mx l) s
theorem qg {h : Hst} (hn : h.name.length <= 100000) : (aq h).length <= 100001 := by
 unfold aq
 split
 · have := gi 46 h.name []; omega
 · simp
theorem tW {h : Hst} : ∀ x ∈ aq h, x.length <= h.name.length := by
 unfold aq
 split
 · intro x hx; have := gW 46 h.name [] x hx; simpa using this
 · intro x hx; cases hx
end Go.Pk
namespace Go.Proofs.YtpafoodmpjlkhaaGreatDoor
open Go.Pk
open Go.RowKit (Below)
theorem jv {a : Option Addr} {n c : Nat} {l : List Txt} (hl : l.length <= 1000000) (hx : ∀ x ∈ l, x.length <= 1000000) {h : Hst} (o : h.ok) (hn : h.name.length <= 100000) {w : World} (hs : Sl tS w gT a n c l) :
   Calls prog d4 #[.slice a n c, h.v] w (Ret (yU (ky l) h w)) := by
 apply nt
 unfold jF
 intro k3 w3 hk3 hw3 k8 w8 hk8 hw8
 have hb3 := (hw3 ▸ ah w _ : Below w.heap.size w w3)
 have hb8 := (hw8 ▸ ah w3 _ : Below w3.heap.size w3 w8)
 have A3 : am w3 k3 ae h.cells := am.new hk3 hw3
 have O8 : Ow i7 az w8 NoB (some ⟨k8, 0, none⟩) 0 0 ([] : List Int) := Ow.newF (l := []) jr hk8 hw8 (gw.nil _ _ _) (by decide)
 have hB8 := ab hb3 hb8 hb3.size
 have F8 : bD w.heap.size (some ⟨k8, 0, none⟩) := (fZ hk8).mono hb3.size
 refine ⟨_, aB.load0 (A3.below hb8) (Hst.len o), ?_⟩
 refine ax (dC o (by omega) w8) ?_
 rintro _ w10 ⟨rfl, hb10⟩
 have hB10 := ab hB8 hb10 hB8.size
 have A10 := (A3.below hb8).below hb10
 refine ⟨_, rfl, af.of (fun h1 => ?_) (fun h1 => ⟨rfl, h.kind, A10.load1 aI rfl rfl, af.of (fun h2 => ?_) (fun h2 => ?_)⟩)⟩
 · have hr : aU h = false := by simpa using h1
   refine ⟨_, _, _, rfl, ?_, F8, hB10⟩
   have : hwV (ky l) h = [] := by unfold hwV bL; rw [if_neg (by rw [hr]; simp)]; rfl
   rw [this]; exact O8.below hb10
 · have hr : aU h = true := by simpa using h1
   have hk : h.kind ≠ 1 := by simpa using h2
   refine ⟨_, aB.load0 A10 (Hst.len o), ?_⟩
   refine ax (ju o w10) ?_
   rintro _ w18 ⟨rfl, hb18⟩
   have hB18 := ab hB10 hb18 hB10.size
   have hxl := nM o
   refine ⟨_, rfl, ?_⟩
   refine ax (lV a n c l (cX h) hl hx (by omega) w18 (hs.below hB18)) ?_
   rw [nU]
   rintro _ w19 ⟨rfl, hb19⟩
   have hB19 := ab hB18 hb19 hB18.size
   refine ⟨_, rfl, ?_⟩
   intro k20 w20 hk20 hw20
   have hb20 := (hw20 ▸ ah w19 _ : Below w19.heap.size w19 w20)
   have e : hwV (ky l) h = [ofT (ky l) (cX h)] := by unfold hwV bL; rw [if_pos hr, if_neg hk]; rfl
   refine ⟨_, _, _, rfl, ?_, (fZ hk20).mono hB19.size, ab hB19 hb20 hB19.size⟩
   rw [e]
   exact Ow.newF (l := [.int .i64 (ofT (ky l) (cX h))]) jr hk20 hw20 (gw.one iY) (by show 1 <= maxLen; decide)
 · have hr : aU h = true := by simpa using h1
   have hk : h.kind = 1 := by simpa using h2
   refine ⟨_, aB.load0 A10 (Hst.len o), ?_⟩
   refine ax (dK o (by omega) w10) ?_
   rintro _ w22 ⟨a2, n2, c2, rfl, oL, fL0, hb22⟩
   have hB22 := ab hB10 hb22 hB10.size
   have hLl := qg (h := h) hn
   have hn2 := oL.len
   subst hn2
   have ew : hwV (ky l) h = (aq h).reverse.map (ofT (ky l)) := by unfold hwV bL; rw [if_pos hr, if_pos hk]
   have k8l : k8 < w8.heap.size := (am.new (vs := []) hk8 hw8 : am w8 k8 az []).lt
   have oLs : Sl tS w22 (fun g => bE a2 = some g) a2 (aq h).length c2 (aq h) := oL.sl (fun b _ hb => hb.elim) fun g hg => hg
   have fL : ∀ g, bE a2 = some g -> w10.heap.size <= g /\ g < w22.heap.size := fun g hg => ⟨fL0 g hg, oL.lt g hg⟩
   have s10 := hb10.size
   refine ⟨a2, _, c2, rfl, fun M aa ll cc i W => ∃ j : Nat, j <= (aq h).length /\ i = ((aq h).length : Int) - 1 - (j : Int) /\ M = (aq h).length - j /\ Ow i7 az W NoB aa ll cc (((aq h).reverse.take j).map (ofT (ky l))) /\ (∀ g, bE aa = some g -> g = k8 \/ w22.heap.size <= g) /\ Sl tS W (fun g => bE a2 = some g) a2 (aq h).length c2 (aq h) /\ Below w.heap.size w W /\ w22.heap.size <= W.heap.size,
     ⟨_, 0, by omega, by rw [ak (by omega) (by omega)]; omega, rfl, by rw [List.take_zero]; exact (O8.below hb10).below hb22, fun g hg => .inl (by simp [bE] at hg; exact hg.symm), oLs, hB22, Nat.le_refl _⟩, ?_⟩
   intro M aa ll cc i
   refine aE.of ?_ _
   rintro wl ⟨j, hj, rfl, rfl, hO, hF, hL, hBw, hsz⟩
   have hFw : bD w.heap.size aa := fun g hg => by
     rcases hF g hg with h1 | h1
     · have := F8 k8 (by simp [bE]); omega
     · have := hB22.size; omega
   refine af.of (fun h3 => ?_) (fun h3 => ?_) <;> simp only [ge_iff_le, dTx, dFx] at h3
   · have hjk : j < (aq h).length := by omega
     obtain ⟨q, hq⟩ : ∃ q : Nat, q = (aq h).length - 1 - j := ⟨_, rfl⟩
     have hqi : ((aq h).length : Int) - 1 - (j : Int) = (q : Int) := by omega
     have hql : q < (aq h).length := by omega
     rw [hqi]
     obtain ⟨v, hv, hrep⟩ := hL.load1 (P := prog) (i := (q : Int)) aC rfl rfl (by rw [Int.toNat_natCast]; exact hql)
     obtain ⟨rfl, _⟩ := i6 hrep
     simp only [Int.toNat_natCast] at hv
     have hrev : (aq h).reverse[j]? = some (aq h)[q] := by
       rw [List.getElem?_reverse hjk, <- hq, List.getElem?_eq_getElem hql]
     refine ⟨⟨⟨by omega, by omega⟩, hL.isSome hql⟩, _, hv, ?_⟩
     refine ax (lV a n c l (aq h)[q] hl hx (by have := tW (h := h) _ (List.getElem_mem hql); omega) wl (hs.below hBw)) ?_
     rw [nU]
     rintro _ w36 ⟨rfl, hb36⟩
     refine ⟨_, rfl, ?_⟩
     intro k37 w37 hk37 hw37
     have hb37 := (hw37 ▸ ah w36 _ : Below w36.heap.size w36 w37)
     have s36 := hb36.size
     have s37 := hb37.size
     have b37 := ab hb36 hb37 hb36.size
     have hsrc : Src i7 w37 NoB (some ⟨k37, 0, none⟩) 1 [ofT (ky l) (aq h)[q]] := Src.new1F jr hk37 hw37 iY
     obtain ⟨w38, a', n', c', r38, o38, g38, f38⟩ := cJ (ty := aA) bi jA (by decide) (hO.below b37) (fun _ _ h => h) (cm := 1) hsrc (by rw [List.length_map, List.length_take]; simp; omega)
     have B37 := ab hBw b37 hBw.size
     refine ⟨w38, a', n', c', r38, (aq h).length - (j + 1), by omega, j + 1, by omega, by rw [ak (by omega) (by omega)]; omega, rfl, ?_, fun g hg => ?_, (hL.below b37).keep (hX g38 fun b hb e => ?_), B37.grown g38 B37.size fun g hg => hFw g hg, by have := g38.size; omega⟩
     · have hlt : j < (aq h).reverse.length := by rw [List.length_reverse]; exact hjk
       rw [List.getElem?_eq_getElem hlt] at hrev
       rw [List.take_succ_eq_append_getElem hlt, List.map_append, Option.some.inj hrev]
       exact o38
     · rcases f38 g hg with h1 | h1
       · exact hF g h1
       · right; omega
     · have h1 := fL b hb
       rcases hF b e.symm with h2 | h2 <;> omega
   · have hjk : j = (aq h).length := by omega
     subst hjk
     refine ⟨aa, ll, cc, rfl, ?_, hFw, hBw⟩
     rw [ew]
     rwa [List.take_of_length_le (by rw [List.length_reverse]; exact Nat.le_refl _)] at hO
theorem nm {a : Option Addr} {n c : Nat} {l : List Txt} (hl : l.length <= 1000000) (hx : ∀ x ∈ l, x.length <= 1000000) {h : Hst} (o : h.ok) (hn : h.name.length <= 100000) {w : World} (hs : Sl tS w gT a n c l) :
   Calls prog fN #[.slice a n c, h.v] w (Ret fun v w' => v = .bool (kB (ky l) h) /\ Below w.heap.size w w') := by
 apply mp
 unfold iR
 intro k3 w3 hk3 hw3
 have hb3 := (hw3 ▸ ah w _ : Below w.heap.size w w3)
 have A3 : am w3 k3 ae h.cells := am.new hk3 hw3
 refine ⟨_, aB.load0 A3 (Hst.len o), ?_⟩
 refine ax (jv hl hx o hn (hs.below hb3)) ?_
 rintro _ w10 ⟨a1, n1, c1, rfl, hO, _, hb10⟩
 have hB10 := ab hb3 hb10 hb3.size
 have hn1 := hO.len
 subst hn1
 have hle := hO.all.le
 obtain ⟨W, hW⟩ : ∃ W, W = hwV (ky l) h := ⟨_, rfl⟩
 rw [<- hW] at hO hle ⊢
 refine ⟨a1, _, c1, rfl, fun M i w' => ∃ j : Nat, j <= W.length /\ i = (j : Int) /\ M = W.length - j /\ (((ky l).length : Nat) : Int) ∉ W.take j /\ Below w.heap.size w w' /\ Sl i7 w' gT a1 W.length c1 W, ⟨_, 0, by omega, rfl, rfl, by simp, hB10, hO.all⟩, ?_⟩
 intro M i
 refine aE.of ?_ _
 rintro wl ⟨j, hj, rfl, rfl, hno, hBl, hS⟩
 refine af.of (fun h3 => ?_) (fun h3 => ?_) <;> simp only [dTx, dFx] at h3
 · have hlt : j < W.length := by omega
   refine ⟨⟨⟨by omega, h3⟩, hS.isSome hlt⟩, _, hS.num aI hlt, ?_⟩
   refine ax (iz a n c l hl wl (hs.below hBl)) ?_
   rintro _ w19 ⟨a2, n2, c2, rfl, hT, _, hb19⟩
   have hn2 := hT.len
   have hB19 := ab hBl hb19 hBl.size
   rw [un] at hn2
   refine ⟨a2, n2, c2, rfl, af.of (fun h4 => ⟨?_, hB19⟩) (fun h4 => ?_)⟩
   · have h4 : W[j] = ((n2 : Nat) : Int) := by simpa using h4
     unfold kB
     rw [<- hW, decide_eq_true (p := (((ky l).length : Nat) : Int) ∈ W) (by rw [<- hn2, <- h4]; exact List.getElem_mem hlt)]
     simp
   · have h4 : W[j] ≠ ((n2 : Nat) : Int) := by simpa using h4
     refine ⟨W.length - (j + 1), by omega, j + 1, by omega, by rw [ak (by omega) (by omega)]; omega, rfl, ?_, hB19, hS.below hb19⟩
     rw [List.take_succ_eq_append_getElem hlt, List.mem_append]
     rintro (h5 | h5)
     · exact hno h5
     · exact h4 (by rw [<- hn2] at h5; exact (by simpa using h5 : ((n2 : Nat) : Int) = W[j]).symm)
 · have : j = W.length := by omega
   subst this
   rw [List.take_length] at hno
   refine ⟨?_, hBl⟩
   unfold kB
   rw [<- hW, decide_eq_false hno]
   congr 1
   by_cases e : W = []
   · rw [e]; rfl
   · rw [decide_eq_false e]
     have : 0 < W.length := List.length_pos_iff.2 e
     simp; omega
end Go.Proofs.YtpafoodmpjlkhaaGreatDoor
namespace Go.Proofs.YtpafoodmpjlkhaaGreatDoor
open Go.Pk
open Go.RowKit (Below)
def cnt (k : Int) : Int := if k <= 35 then k - 33 else if k <= 63 then k - 34 else k - 35
def H5 (c : Int) : Int := if c < 33 \/ c > 126 \/ c = 35 \/ c = 63 then -1 else cnt c
end Go.Proofs.YtpafoodmpjlkhaaGreatDoor
namespace Go.Proofs.YtpafoodmpjlkhaaGreatDoor
open Go.Pk
open Go.RowKit (Below)
def sym (c : UInt8) : Int := H5 (c.toNat : Nat)
def zp (s : List UInt8) : Bool := s.all fun c => decide (0 <= sym c)
end Go.Proofs.YtpafoodmpjlkhaaGreatDoor
set_option maxRecDepth 100000
namespace Go.Proofs.YtpafoodmpjlkhaaGreatDoor
open Go.Pk
open Go.RowKit (Below)
--  cracknel/cracknellaw18.HostsetNames
def kC (a0 : Option Addr) (l0 c0 : Nat) (v1 : Value) (v2 : Value) (w : World) (K : Value -> World -> Prop) : Prop :=
 ∀ k4 w4, k4 = w.heap.size -> w4 = w.alloc (.cells (Value.cells v1) ae) ->
 ∀ k5 w5, k5 = w4.heap.size -> w5 = w4.alloc (.cells (Value.cells v2) ae) ->
 Calls prog dj #[] w5 fun e16 w16 => ∃ b16, e16 = .returned (.bool b16) /\
 af (!b16)
 (K (.bool false) w16)
 (∃ v19, Ld ae (some ⟨k4, 0, none⟩) w16 v19 /\
 ∃ v20, Ld ae (some ⟨k5, 0, none⟩) w16 v20 /\
 ∃ w21 a21 l21 c21, (Instr.buildSlice ji 2 #[(0, v19), (1, v20)]).run prog w16 = .ok (.slice a21 l21 c21) w21 /\
 Calls prog fC #[.slice a0 l0 c0, .slice a21 l21 c21] w21 fun e22 w22 => ∃ b22, e22 = .returned (.bool b22) /\
 af b22
 (K (.bool true) w22)
 (Calls prog gG #[.slice a0 l0 c0] w22 fun e24 w24 => ∃ p24, e24 = .returned (.pointer p24) /\
 ∃ v27, Ld ae (some ⟨k4, 0, none⟩) w24 v27 /\
 Calls prog jm #[.pointer p24, v27] w24 fun e28 w28 => ∃ n28_0_0 n28_0_1 a28_0_2 l28_0_2 c28_0_2 a28_0_3 l28_0_3 c28_0_3 n28_1, e28 = .returned (.tuple #[.agg #[.int .i64 n28_0_0, .int .i64 n28_0_1, .slice a28_0_2 l28_0_2 c28_0_2, .slice a28_0_3 l28_0_3 c28_0_3], .int .i64 n28_1]) /\
 ∀ k8 w8, k8 = w28.heap.size -> w8 = w28.alloc (.cells #[.int .i64 (0 : Int), .int .i64 (0 : Int), .slice none 0 0, .slice none 0 0] aj) ->
 ∃ wx, Sv aj (some ⟨k8, 0, none⟩) (.agg #[.int .i64 n28_0_0, .int .i64 n28_0_1, .slice a28_0_2 l28_0_2 c28_0_2, .slice a28_0_3 l28_0_3 c28_0_3]) w8 wx /\
 ∃ v33, Ld ae (some ⟨k4, 0, none⟩) wx v33 /\
 Calls prog gB #[.pointer p24, v33] wx fun e34 w34 => ∃ n34_0_0 n34_0_1 a34_0_2 l34_0_2 c34_0_2 a34_0_3 l34_0_3 c34_0_3 n34_1, e34 = .returned (.tuple #[.agg #[.int .i64 n34_0_0, .int .i64 n34_0_1, .slice a34_0_2 l34_0_2 c34_0_2, .slice a34_0_3 l34_0_3 c34_0_3], .int .i64 n34_1]) /\
 ∀ k10 w10, k10 = w34.heap.size -> w10 = w34.alloc (.cells #[.int .i64 (0 : Int), .int .i64 (0 : Int), .slice none 0 0, .slice none 0 0] aj) ->
 ∃ wx_1, Sv aj (some ⟨k10, 0, none⟩) (.agg #[.int .i64 n34_0_0, .int .i64 n34_0_1, .slice a34_0_2 l34_0_2 c34_0_2, .slice a34_0_3 l34_0_3 c34_0_3]) w10 wx_1 /\
 ∃ v39, Ld ae (some ⟨k4, 0, none⟩) wx_1 v39 /\
 Calls prog fX #[.pointer p24, v39] wx_1 fun e40 w40 => ∃ n40_0_0 n40_0_1 a40_0_2 l40_0_2 c40_0_2 a40_0_3 l40_0_3 c40_0_3 n40_1, e40 = .returned (.tuple #[.agg #[.int .i64 n40_0_0, .int .i64 n40_0_1, .slice a40_0_2 l40_0_2 c40_0_2, .slice a40_0_3 l40_0_3 c40_0_3], .int .i64 n40_1]) /\
 ∀ k12 w12, k12 = w40.heap.size -> w12 = w40.alloc (.cells #[.int .i64 (0 : Int), .int .i64 (0 : Int), .slice none 0 0, .slice none 0 0] aj) ->
 ∃ wx_2, Sv aj (some ⟨k12, 0, none⟩) (.agg #[.int .i64 n40_0_0, .int .i64 n40_0_1, .slice a40_0_2 l40_0_2 c40_0_2, .slice a40_0_3 l40_0_3 c40_0_3]) w12 wx_2 /\
 ∃ v44, Ld ae (some ⟨k4, 0, none⟩) wx_2 v44 /\
 Calls prog fN #[.slice a0 l0 c0, v44] wx_2 fun e45 w45 => ∃ b45, e45 = .returned (.bool b45) /\
 af (!b45)
 (af (n28_1 == (181 : Int))
 (af (n34_1 == (181 : Int))
 (af (n40_1 == (181 : Int))
 (∃ n58_0 n58_1 a58_2 l58_2 c58_2 a58_3 l58_3 c58_3, Ld aj (some ⟨k8, 0, none⟩) w45 (.agg #[.int .i64 n58_0, .int .i64 n58_1, .slice a58_2 l58_2 c58_2, .slice a58_3 l58_3 c58_3]) /\
 Calls prog cW #[.agg #[.int .i64 n58_0, .int .i64 n58_1, .slice a58_2 l58_2 c58_2, .slice a58_3 l58_3 c58_3]] w45 fun e59 w59 => ∃ b59, e59 = .returned (.bool b59) /\
 af b59
 (∃ n62_0 n62_1 a62_2 l62_2 c62_2 a62_3 l62_3 c62_3, Ld aj (some ⟨k10, 0, none⟩) w59 (.agg #[.int .i64 n62_0, .int .i64 n62_1, .slice a62_2 l62_2 c62_2, .slice a62_3 l62_3 c62_3]) /\
 Calls prog cW #[.agg #[.int .i64 n62_0, .int .i64 n62_1, .slice a62_2 l62_2 c62_2, .slice a62_3 l62_3 c62_3]] w59 fun e63 w63 => ∃ b63, e63 = .returned (.bool b63) /\
 af b63
 (∃ n66_0 n66_1 a66_2 l66_2 c66_2 a66_3 l66_3 c66_3, Ld aj (some ⟨k12, 0, none⟩) w63 (.agg #[.int .i64 n66_0, .int .i64 n66_1, .slice a66_2 l66_2 c66_2, .slice a66_3 l66_3 c66_3]) /\
 Calls prog cW #[.agg #[.int .i64 n66_0, .int .i64 n66_1, .slice a66_2 l66_2 c66_2, .slice a66_3 l66_3 c66_3]] w63 fun e67 w67 => ∃ b67, e67 = .returned (.bool b67) /\
 K (.bool b67) w67)
 (K (.bool false) w63))
 (K (.bool false) w59))
 (K (.bool false) w45))
 (K (.bool false) w45))
 (K (.bool false) w45))
 (∃ v70, Ld ae (some ⟨k4, 0, none⟩) w45 v70 /\
 Calls prog d4 #[.slice a0 l0 c0, v70] w45 fun e71 w71 => ∃ a71 l71 c71, e71 = .returned (.slice a71 l71 c71) /\
 ∃ J : FP [],
 (af (n28_1 != (0 : Int))
 (K (.bool false) w71)
 (af (n34_1 != (0 : Int))
 (K (.bool false) w71)
 (af (n40_1 != (0 : Int))
 (K (.bool false) w71)
 (∃ n85_0 n85_1 a85_2 l85_2 c85_2 a85_3 l85_3 c85_3, Ld aj (some ⟨k8, 0, none⟩) w71 (.agg #[.int .i64 n85_0, .int .i64 n85_1, .slice a85_2 l85_2 c85_2, .slice a85_3 l85_3 c85_3]) /\
 Calls prog hU #[.agg #[.int .i64 n85_0, .int .i64 n85_1, .slice a85_2 l85_2 c85_2, .slice a85_3 l85_3 c85_3]] w71 fun e86 w86 => ∃ b86, e86 = .returned (.bool b86) /\
 af (!b86)
 (K (.bool false) w86)
 (∃ n90_0 n90_1 a90_2 l90_2 c90_2 a90_3 l90_3 c90_3, Ld aj (some ⟨k10, 0, none⟩) w86 (.agg #[.int .i64 n90_0, .int .i64 n90_1, .slice a90_2 l90_2 c90_2, .slice a90_3 l90_3 c90_3]) /\
 Calls prog hU #[.agg #[.int .i64 n90_0, .int .i64 n90_1, .slice a90_2 l90_2 c90_2, .slice a90_3 l90_3 c90_3]] w86 fun e91 w91 => ∃ b91, e91 = .returned (.bool b91) /\
 af (!b91)
 (K (.bool false) w91)
 (∃ n95_0 n95_1 a95_2 l95_2 c95_2 a95_3 l95_3 c95_3, Ld aj (some ⟨k12, 0, none⟩) w91 (.agg #[.int .i64 n95_0, .int .i64 n95_1, .slice a95_2 l95_2 c95_2, .slice a95_3 l95_3 c95_3]) /\
 Calls prog hU #[.agg #[.int .i64 n95_0, .int .i64 n95_1, .slice a95_2 l95_2 c95_2, .slice a95_3 l95_3 c95_3]] w91 fun e96 w96 => ∃ b96, e96 = .returned (.bool b96) /\
 af (!b96)
 (K (.bool false) w96)
 ((true = true) /\
 ∃ a101 l101 c101, Ld aS (some ⟨k8, 3, none⟩) w96 (.slice a101 l101 c101) /\
 af (decide (((l101 : Nat) : Int) > (i64.wrap (((l71 : Nat) : Int) + (3 : Int)))))
 (K (.bool false) w96)
 ((true = true) /\
 ∃ a108 l108 c108, Ld aS (some ⟨k10, 3, none⟩) w96 (.slice a108 l108 c108) /\
 af (decide (((l108 : Nat) : Int) > (i64.wrap (((l71 : Nat) : Int) + (3 : Int)))))
 (K (.bool false) w96)
 ((true = true) /\
 ∃ a115 l115 c115, Ld aS (some ⟨k12, 3, none⟩) w96 (.slice a115 l115 c115) /\
 af (decide (((l115 : Nat) : Int) > (i64.wrap (((l71 : Nat) : Int) + (3 : Int)))))
 (K (.bool false) w96)
 (J w96)))))))))) /\
 aE 47 (∀ wj, J wj ->
 ∃ v121, Ld ae (some ⟨k5, 0, none⟩) wj v121 /\
 Calls prog d4 #[.slice a0 l0 c0, v121] wj fun e122 w122 => ∃ a122 l122 c122, e122 = .returned (.slice a122 l122 c122) /\
 ∃ v123, Ld ae (some ⟨k5, 0, none⟩) w122 v123 /\
 Calls prog cf #[v123] w122 fun e124 w124 => ∃ b124, e124 = .returned (.bool b124) /\
 af (!b124)
 (∃ n126_0 n126_1 a126_2 l126_2 c126_2 a126_3 l126_3 c126_3, Ld aj (some ⟨k8, 0, none⟩) w124 (.agg #[.int .i64 n126_0, .int .i64 n126_1, .slice a126_2 l126_2 c126_2, .slice a126_3 l126_3 c126_3]) /\
 Calls prog fM #[.agg #[.int .i64 n126_0, .int .i64 n126_1, .slice a126_2 l126_2 c126_2, .slice a126_3 l126_3 c126_3], .slice a122 l122 c122] w124 fun e128 w128 => ∃ b128, e128 = .returned (.bool b128) /\
 af (!b128)
 (∃ n131_0 n131_1 a131_2 l131_2 c131_2 a131_3 l131_3 c131_3, Ld aj (some ⟨k12, 0, none⟩) w128 (.agg #[.int .i64 n131_0, .int .i64 n131_1, .slice a131_2 l131_2 c131_2, .slice a131_3 l131_3 c131_3]) /\
 Calls prog fM #[.agg #[.int .i64 n131_0, .int .i64 n131_1, .slice a131_2 l131_2 c131_2, .slice a131_3 l131_3 c131_3], .slice a122 l122 c122] w128 fun e133 w133 => ∃ b133, e133 = .returned (.bool b133) /\
 K (.bool (!b133)) w133)
 (K (.bool false) w128))
 (∃ n136_0 n136_1 a136_2 l136_2 c136_2 a136_3 l136_3 c136_3, (∀ u136, Below w124.heap.size w124 u136 -> Ld aj (some ⟨k8, 0, none⟩) u136 (.agg #[.int .i64 n136_0, .int .i64 n136_1, .slice a136_2 l136_2 c136_2, .slice a136_3 l136_3 c136_3])) /\
 ∃ b138, (∀ u138, Below w124.heap.size w124 u138 -> Calls prog fM #[.agg #[.int .i64 n136_0, .int .i64 n136_1, .slice a136_2 l136_2 c136_2, .slice a136_3 l136_3 c136_3], .slice a122 l122 c122] u138 fun e138 w138 => e138 = .returned (.bool b138) /\ Below w124.heap.size u138 w138) /\
 ∃ v139, (∀ u139, Below w124.heap.size w124 u139 -> Ld ae (some ⟨k5, 0, none⟩) u139 v139) /\
 ∃ v140, (∀ u140, Below w124.heap.size w124 u140 -> Ld ae (some ⟨k4, 0, none⟩) u140 v140) /\
 ∃ b141, (∀ u141, Below w124.heap.size w124 u141 -> ((do eqGuard .eql ae (.tmp 139) (.tmp 140) v139 v140; binOp .eql ae v139 v140 : Sem Value)).run prog u141 = .ok (.bool b141) u141) /\
 af (b138 == b141)
 (∃ n144_0 n144_1 a144_2 l144_2 c144_2 a144_3 l144_3 c144_3, (∀ u144, Below w124.heap.size w124 u144 -> Ld aj (some ⟨k10, 0, none⟩) u144 (.agg #[.int .i64 n144_0, .int .i64 n144_1, .slice a144_2 l144_2 c144_2, .slice a144_3 l144_3 c144_3])) /\
 ∃ b146, (∀ u146, Below w124.heap.size w124 u146 -> Calls prog fM #[.agg #[.int .i64 n144_0, .int .i64 n144_1, .slice a144_2 l144_2 c144_2, .slice a144_3 l144_3 c144_3], .slice a122 l122 c122] u146 fun e146 w146 => e146 = .returned (.bool b146) /\ Below w124.heap.size u146 w146) /\
 ∃ v147, (∀ u147, Below w124.heap.size w124 u147 -> Ld ae (some ⟨k5, 0, none⟩) u147 v147) /\
 ∃ v148, (∀ u148, Below w124.heap.size w124 u148 -> Ld ae (some ⟨k4, 0, none⟩) u148 v148) /\
 ∃ b149, (∀ u149, Below w124.heap.size w124 u149 -> Calls prog dZ #[v147, v148] u149 fun e149 w149 => e149 = .returned (.bool b149) /\ Below w124.heap.size u149 w149) /\
 af (b146 == b149)
 (∃ n153_0 n153_1 a153_2 l153_2 c153_2 a153_3 l153_3 c153_3, (∀ u153, Below w124.heap.size w124 u153 -> Ld aj (some ⟨k12, 0, none⟩) u153 (.agg #[.int .i64 n153_0, .int .i64 n153_1, .slice a153_2 l153_2 c153_2, .slice a153_3 l153_3 c153_3])) /\
 ∃ b155, (∀ u155, Below w124.heap.size w124 u155 -> Calls prog fM #[.agg #[.int .i64 n153_0, .int .i64 n153_1, .slice a153_2 l153_2 c153_2, .slice a153_3 l153_3 c153_3], .slice a122 l122 c122] u155 fun e155 w155 => e155 = .returned (.bool b155) /\ Below w124.heap.size u155 w155) /\
 ∃ v156, (∀ u156, Below w124.heap.size w124 u156 -> Ld ae (some ⟨k5, 0, none⟩) u156 v156) /\
 ∃ v157, (∀ u157, Below w124.heap.size w124 u157 -> Ld ae (some ⟨k4, 0, none⟩) u157 v157) /\
 ∃ b158, (∀ u158, Below w124.heap.size w124 u158 -> Calls prog m4 #[v156, v157] u158 fun e158 w158 => e158 = .returned (.bool b158) /\ Below w124.heap.size u158 w158) /\
 ∀ wq, Below w124.heap.size w124 wq ->
 K (.bool (b155 == b158)) wq)
 (∀ wq_1, Below w124.heap.size w124 wq_1 ->
 K (.bool false) wq_1))
 (∀ wq_2, Below w124.heap.size w124 wq_2 ->
 K (.bool false) wq_2))))))
theorem pr (a0 : Option Addr) (l0 c0 : Nat) (v1 : Value) (v2 : Value) {w : World} {K : Value -> World -> Prop} (h : kC a0 l0 c0 v1 v2 w K) : Calls prog kS #[.slice a0 l0 c0, v1, v2] w (Ret K) :=
 au (c := ay Tryz.f4) (by kernel_rfl) Tryz.func4 (by kernel_rfl) [(36, [])] [.slice a0 l0 c0, v1, v2] (of_decide_eq_true (by kernel_rfl)) _ (by kernel_rfl) h

--  cracknel/cracknellaw18.HostsetBack
def jB (n0_0 : Int) (n0_1 : Int) (a0_2 : Option Addr) (l0_2 c0_2 : Nat) (a0_3 : Option Addr) (l0_3 c0_3 : Nat) (w : World) (K : Value -> World -> Prop) : Prop :=
 ∀ k1 w1, k1 = w.heap.size -> w1 = w.alloc (.cells #[.int .i64 n0_0, .int .i64 n0_1, .slice a0_2 l0_2 c0_2, .slice a0_3 l0_3 c0_3] aj) ->
 (true = true) /\
 ∃ n4, Ld az (some ⟨k1, 0, none⟩) w1 (.int .i64 n4) /\
 af (n4 == (0 : Int))
 ((true = true) /\
 ∃ n8, Ld az (some ⟨k1, 1, none⟩) w1 (.int .i64 n8) /\
 af (n8 == (0 : Int))
 ((true = true) /\
 ∃ a13 l13 c13, Ld aA (some ⟨k1, 2, none⟩) w1 (.slice a13 l13 c13) /\
 af (((l13 : Nat) : Int) == (0 : Int))
 ((true = true) /\
 ∃ a19 l19 c19, Ld aS (some ⟨k1, 3, none⟩) w1 (.slice a19 l19 c19) /\
 K (.bool (((l19 : Nat) : Int) == (0 : Int))) w1)
 (K (.bool false) w1))
 (K (.bool false) w1))
 (K (.bool false) w1)
theorem np (n0_0 : Int) (n0_1 : Int) (a0_2 : Option Addr) (l0_2 c0_2 : Nat) (a0_3 : Option Addr) (l0_3 c0_3 : Nat) {w : World} {K : Value -> World -> Prop} (h : jB n0_0 n0_1 a0_2 l0_2 c0_2 a0_3 l0_3 c0_3 w K) : Calls prog cW #[.agg #[.int .i64 n0_0, .int .i64 n0_1, .slice a0_2 l0_2 c0_2, .slice a0_3 l0_3 c0_3]] w (Ret K) :=
 au (c := ay Tryz.f18) (by kernel_rfl) Tryz.func18 (by kernel_rfl) [] [.agg #[.int .i64 n0_0, .int .i64 n0_1, .slice a0_2 l0_2 c0_2, .slice a0_3 l0_3 c0_3]] (of_decide_eq_true (by kernel_rfl)) _ (by kernel_rfl) h

--  cracknel/cracknellaw18.great
def iE (a0 : Option Addr) (l0 c0 : Nat) (a1 : Option Addr) (l1 c1 : Nat) (w : World) (K : Value -> World -> Prop) : Prop :=
 ∃ I : Nat -> FP [.one (.int .i64)],
 (∃ m, I m (0 : Int) w) /\
 ∀ m n11, aE 9 (∀ wl, I m n11 wl ->
 af (decide (n11 < ((l0 : Nat) : Int)))
 (((0 <= n11 /\ n11 < ((l0 : Nat) : Int)) /\ Option.isSome a0 = true) /\
 ∃ s14, Ld ar (ao a0 n11 1) wl (.string (mkS s14)) /\
 af (decide (((List.length s14 : Nat) : Int) > (70 : Int)))
 (K (.bool true) wl)
 (∃ m' : Nat, m' < m /\ I m' (i64.wrap (n11 + (1 : Int))) wl))
 (∃ I_1 : Nat -> FP [.one (.int .i64)],
 (∃ m_1, I_1 m_1 (0 : Int) wl) /\
 ∀ m_1 n21, aE 10 (∀ wl_1, I_1 m_1 n21 wl_1 ->
 af (decide (n21 < ((l1 : Nat) : Int)))
 (((0 <= n21 /\ n21 < ((l1 : Nat) : Int)) /\ Option.isSome a1 = true) /\
 ∃ v24, Ld ae (ao a1 n21 18) wl_1 v24 /\
 ∀ k8 w8, k8 = wl_1.heap.size -> w8 = wl_1.alloc (.cells aL ae) ->
 ∃ wx, Sv ae (some ⟨k8, 0, none⟩) v24 w8 wx /\
 (true = true) /\
 ∃ s26, Ld ar (some ⟨k8, 1, none⟩) wx (.string (mkS s26)) /\
 af (decide (((List.length s26 : Nat) : Int) > (300 : Int)))
 (K (.bool true) wx)
 (∃ m'_1 : Nat, m'_1 < m_1 /\ I_1 m'_1 (i64.wrap (n21 + (1 : Int))) wx))
 (K (.bool (decide (((l0 : Nat) : Int) > (24 : Int)))) wl_1))))
theorem lX (a0 : Option Addr) (l0 c0 : Nat) (a1 : Option Addr) (l1 c1 : Nat) {w : World} {K : Value -> World -> Prop} (h : iE a0 l0 c0 a1 l1 c1 w K) : Calls prog fC #[.slice a0 l0 c0, .slice a1 l1 c1] w (Ret K) :=
 au (c := ay Tryz.f19) (by kernel_rfl) Tryz.func19 (by kernel_rfl) [(6, [(11, .one (.int .i64))]), (29, [(21, .one (.int .i64))])] [.slice a0 l0 c0, .slice a1 l1 c1] (of_decide_eq_true (by kernel_rfl)) _ (by kernel_rfl) h
end Go.Proofs.YtpafoodmpjlkhaaGreatDoor
set_option maxRecDepth 20000
namespace Go.Pk
open Go.RowKit (Below)
def Eu : Ty Hst where
 k := 18
 pos := by decide
 rep := fun _ _ vs c => vs = c.cells /\ c.ok
 len := fun h => by rw [h.1]; exact Hst.len h.2
 one := fun {_ _ _ x} h v hv => by rw [h.1] at hv; exact Hst.one x v hv
 keep := fun h _ => h
 mono := fun h _ => h
theorem zl : BP Eu := fun _ _ _ _ _ _ h => h
end Go.Pk
namespace Go.Proofs.YtpafoodmpjlkhaaGreatDoor
open Go.Pk
open Go.RowKit (Below)
theorem fR (w : World) : Calls prog cW #[daV none 0 0 none 0 0 ⟨0, 0, [], []⟩] w (Ret fun v w' => v = .bool true /\ Below w.heap.size w w') := by
 apply np
 unfold jB
 intro k1 w1 hk1 hw1
 have hb := (hw1 ▸ ah w _ : Below w.heap.size w w1)
 have A1 : am w1 k1 aj [.int .i64 0, .int .i64 0, .slice none 0 0, .slice none 0 0] := am.new hk1 hw1
 exact ⟨rfl, 0, A1.load1 aI rfl rfl, af.yes rfl ⟨rfl, 0, A1.load1 aI rfl rfl, af.yes rfl ⟨rfl, none, 0, 0, A1.load1 bi rfl rfl, af.yes rfl ⟨rfl, none, 0, 0, A1.load1 bg rfl rfl, rfl, hb⟩⟩⟩⟩
def mN (l : List Txt) (hs : List Hst) : Bool := (l.any fun s => decide (70 < s.length)) || ((hs.any fun h => decide (300 < h.name.length)) || decide (24 < l.length))
theorem m9 {w : World} {a : Option Addr} {n c : Nat} {l : List Txt} (hs : Sl tS w gT a n c l) {a1 : Option Addr} {n1 c1 : Nat} {hl : List Hst} (hh : Sl Eu w gT a1 n1 c1 hl) :
   Calls prog fC #[.slice a n c, .slice a1 n1 c1] w (Ret fun v w' => v = .bool (mN l hl) /\ Below w.heap.size w w') := by
 have hn := hs.len
 have hn1 := hh.len
 subst hn hn1
 have hle := hs.le
 have hle1 := hh.le
 apply lX
 unfold iE
 refine ⟨fun m i w' => ∃ j : Nat, j <= l.length /\ i = (j : Int) /\ m = l.length - j /\ ((l.take j).any fun s => decide (70 < s.length)) = false /\ w' = w, ⟨_, 0, by omega, rfl, rfl, rfl, rfl⟩, ?_⟩
 intro m i
 refine aE.of ?_ _
 rintro w' ⟨j, hj, rfl, rfl, hno, hw'⟩
 rw [hw']; clear hw' w'
 refine af.of (fun h => ?_) (fun h => ?_) <;> simp only [dTx, dFx] at h
 · have hlt : j < l.length := by omega
   obtain ⟨v, hv, hrep⟩ := hs.load1 (P := prog) (i := (j : Int)) aC rfl rfl (by simpa using hlt)
   obtain ⟨rfl, _⟩ := i6 hrep
   simp only [Int.toNat_natCast] at hv
   refine ⟨⟨⟨by omega, h⟩, hs.isSome hlt⟩, _, hv, af.of (fun h2 => ⟨?_, Below.refl _ _⟩) (fun h2 => ?_)⟩
   · unfold mN
     have : (l.any fun s => decide (70 < s.length)) = true := List.any_eq_true.2 ⟨_, List.getElem_mem hlt, by simp only [gt_iff_lt, dTx] at h2 ⊢; omega⟩
     rw [this]; rfl
   · refine ⟨l.length - (j + 1), by omega, j + 1, by omega, by rw [ak (by omega) (by omega)]; omega, rfl, ?_, rfl⟩
     simp only [gt_iff_lt, dFx] at h2
     rw [List.take_succ_eq_append_getElem hlt, List.any_append, hno, List.any_cons, List.any_nil, decide_eq_false (show ¬ 70 < (l[j]).length by omega)]; rfl
 · have : j = l.length := by omega
   subst this
   rw [List.take_length] at hno
   refine ⟨fun m i w' => ∃ j : Nat, j <= hl.length /\ i = (j : Int) /\ m = hl.length - j /\ ((hl.take j).any fun h => decide (300 < h.name.length)) = false /\ Below w.heap.size w w', ⟨_, 0, by omega, rfl, rfl, rfl, Below.refl _ _⟩, ?_⟩
   intro m i
   refine aE.of ?_ _
   rintro w' ⟨j, hj', rfl, rfl, hno', hB⟩
   refine af.of (fun h => ?_) (fun h => ⟨?_, hB⟩) <;> simp only [dTx, dFx] at h
   · have hlt : j < hl.length := by omega
     have hh' := hh.below hB
     obtain ⟨vs, hv, hrep, oh⟩ := aB.elem (T := Eu) rfl hh' hlt
     subst hrep
     refine ⟨⟨⟨by omega, h⟩, hh'.isSome hlt⟩, _, hv, ?_⟩
     intro k8 w8 hk8 hw8
     have hb8 := (hw8 ▸ ah w' _ : Below w'.heap.size w' w8)
     have A8 : am w8 k8 ae gj.cells := am.new hk8 hw8
     obtain ⟨wx, s1, v1, g1⟩ := aB.store0 (P := prog) (cs := (hl[j]).cells) (Hst.len oh) (Hst.one _) A8 rfl
     have hBx := ab hB (Below.put hb8 g1 (by omega)) hB.size
     refine ⟨wx, s1, rfl, _, v1.load1 aC rfl rfl, af.of (fun h2 => ⟨?_, hBx⟩) (fun h2 => ?_)⟩
     · unfold mN
       have : (hl.any fun h => decide (300 < h.name.length)) = true := List.any_eq_true.2 ⟨_, List.getElem_mem hlt, by simp only [gt_iff_lt, dTx] at h2 ⊢; omega⟩
       rw [this, Bool.true_or, Bool.or_true]
     · refine ⟨hl.length - (j + 1), by omega, j + 1, by omega, by rw [ak (by omega) (by omega)]; omega, rfl, ?_, hBx⟩
       simp only [gt_iff_lt, dFx] at h2
       rw [List.take_succ_eq_append_getElem hlt, List.any_append, hno', List.any_cons, List.any_nil, decide_eq_false (show ¬ 300 < (hl[j]).name.length by omega)]; rfl
   · have : j = hl.length := by omega
     subst this
     rw [List.take_length] at hno'
     unfold mN
     rw [hno, hno', Bool.false_or, Bool.false_or]
     congr 1
     rw [Bool.eq_iff_iff, dTx, dTx]
     omega
end Go.Proofs.YtpafoodmpjlkhaaGreatDoor
namespace Go.Pk
open Go.ChangeShapes Go.WideShapes
theorem vX {H : Type} {enc : TypeId × Value -> H} {P : Program} {w : World} {fuel : Nat} {t : TypeId} {fs : Array Field} {cs : List Value} {x : DataW H × List MemPlace} (ht : P.underlying t = some (.struct fs))
   (h : DataW.trod enc P w 0 (fun _ => true) true fuel t cs = some x) :
   ∃ n, cs.length = P.cellsOf t /\ ∀ (i : Nat) (u : TypeId) (o k : Nat), (∃ f : Field, fs[i]? = some f /\ f.type = u /\ f.offset = o) -> P.cellsOf u = k -> ∃ y, DataW.trod enc P w 0 (fun _ => true) true n u ((cs.drop o).take k) = some y := by
 obtain ⟨xs, n, _, _, hl, hlen, hf⟩ := DataW.trod_struct ht h
 refine ⟨n, hl, ?_⟩
 rintro i _ _ _ ⟨f, hi, rfl, rfl⟩ rfl
 have hlt : i < xs.length := by rw [hlen]; exact (Array.getElem?_eq_some_iff.1 hi).1
 exact ⟨xs[i], by rw [hf i f hi, List.getElem?_eq_getElem hlt]⟩
theorem xb {α : Type} (cs : List α) (a b : Nat) : cs.drop a = (cs.drop a).take b ++ cs.drop (a + b) := by
 rw [<- List.drop_drop, List.take_append_drop]
theorem CE {α : Type} (cs : List α) (n : Nat) (h : cs.length = n) : cs.drop n = [] := List.drop_of_length_le (by omega)
theorem CO {n : Int} (h : (Lit.int .u8 n).wf = true) : ∃ c : UInt8, n = ((c.toNat : Nat) : Int) := by
 have := bounds_u8 h
 refine ⟨UInt8.ofNat n.toNat, ?_⟩
 rw [UInt8.toNat_ofNat', Nat.mod_eq_of_lt (by omega)]; omega
theorem vu : ∀ {zs : List Int}, (∀ n ∈ zs, (Lit.int .u8 n).wf = true) -> ∃ a : List UInt8, a.length = zs.length /\ (zs.map fun n => Value.int .u8 n) = adC a
 | [], _ => ⟨[], rfl, rfl⟩
 | z :: zs, h => by
   obtain ⟨c, rfl⟩ := CO (h z (List.mem_cons_self ..))
   obtain ⟨a, ha, hb⟩ := vu (zs := zs) fun n hn => h n (List.mem_cons_of_mem _ hn)
   exact ⟨c :: a, by rw [List.length_cons, List.length_cons, ha], by rw [List.map_cons, hb]; rfl⟩
end Go.Pk
namespace Go.Proofs.YtpafoodmpjlkhaaGreatDoor
open Go.Pk
open Go.ChangeShapes Go.WideShapes
theorem qS {H : Type} {enc : TypeId × Value -> H} {w : World} {fuel : Nat} {cs : List Value} {x : DataW H × List MemPlace} (h : DataW.trod enc prog w 0 (fun _ => true) true fuel ae cs = some x) : ∃ u : Hst, u.ok /\ cs = u.cells := by
 obtain ⟨n, hl, hf⟩ := vX Tryz.underlying34 h
 have hl18 : cs.length = 18 := hl.trans (by kernel_rfl)
 obtain ⟨y0, h0⟩ := hf 0 az 0 1 ⟨_, rfl, rfl, rfl⟩ (by kernel_rfl)
 obtain ⟨y1, h1⟩ := hf 1 ar 1 1 ⟨_, rfl, rfl, rfl⟩ (by kernel_rfl)
 obtain ⟨y2, h2⟩ := hf 2 32 2 16 ⟨_, rfl, rfl, rfl⟩ (by kernel_rfl)
 obtain ⟨k, e0, _⟩ := qk aI H enc w n _ _ h0
 obtain ⟨s, e1, _⟩ := wL aC H enc w n _ _ h1
 obtain ⟨zs, hz, hr⟩ := wK Tryz.underlying32 (qk bF) (by kernel_rfl) (by kernel_rfl) h2
 have e2 := ee hr
 obtain ⟨a, ha, hb⟩ := vu (tJ hr)
 refine ⟨⟨k, s, a⟩, ha.trans hz, ?_⟩
 have s0 := xb cs 0 1
 have s1 := xb cs 1 1
 have s2 := xb cs 2 16
 rw [e0] at s0
 rw [e1] at s1
 rw [e2, hb, CE cs (2 + 16) hl18, List.append_nil] at s2
 rw [List.drop_zero] at s0
 rw [s0, s1, s2]; rfl
theorem t6 {H : Type} {enc : TypeId × Value -> H} {w : World} {fuel : Nat} {v : Value} {x : DataW H × List MemPlace} (h : DataW.trod enc prog w 0 (fun _ => true) true fuel aw [v] = some x) :
   ∃ (a : Option Addr) (len cap : Nat) (rs : List (List UInt8)), v = .slice a len cap /\ Sl tS w gT a len cap rs /\ rs.length <= 9223372036854775807 := by
 rcases open_strings bh aC (by kernel_rfl) h with ⟨e, _⟩ | ⟨a, len, cap, ss, e, _, hlc, hcm, hm, _, hx, hs⟩
 · obtain rfl : v = _ := by injection e
   exact ⟨none, 0, 0, [], rfl, Sl.nil _ _ _ _ _ (Nat.zero_le _), Nat.zero_le _⟩
 · obtain rfl : v = _ := by injection e
   have hS := uk (uj (.inr ⟨a, rfl, hlc, hcm, by simpa using hm, hx, hs⟩)) (q := fun _ => True) fun _ _ _ => trivial
   exact ⟨some a, len, cap, _, rfl, hS, hS.le⟩
end Go.Proofs.YtpafoodmpjlkhaaGreatDoor
set_option linter.unusedSectionVars false
namespace Go.Proofs.YtpafoodmpjlkhaaGreatDoor
open Go.Pk
open Go.RowKit (Below)
section
variable {ts : List Txt} (hp : ts.Pairwise (· < ·)) (htl : ts.length <= 511) {h d : Hst} (oh : h.ok) (od : d.ok) (kd : kB ts d = true)
include hp htl oh od kd
theorem sO : (be ts d).length <= 127 := by
 unfold be
 rw [List.length_map]
 refine uv od ((iV od).1 ((sB hp d).1 kd).1)
theorem Dx : (mw (chD (ts.length + 1) (be ts d) 0) (hwV ts h) = true ↔ be ts h = be ts d) := by
 have hl := sO hp htl oh od kd
 have hc := Bi htl od hl
 have hK : (chD (ts.length + 1) (be ts d) 0).K = ts.length + 1 := by simp [DA.K, chD]
 rw [qa, um hc.ok, hc.lang, hK]
 unfold sd
 rw [if_pos rfl]
 exact ⟨fun h => h.2, fun h2 => ⟨iU ts h, h2⟩⟩
theorem z7 (k1 : d.kind = 1) (b : Bool) : (mw (jM ts d b) (hwV ts h) = true ↔ sd (if b = true then 1 else 2) (be ts d) (be ts h)) := by
 have hl := sO hp htl oh od kd
 have hc := yk htl od hl k1 b
 have hK : (jM ts d b).K = ts.length + 1 := by unfold DA.K; rw [vz]; omega
 rw [qa, um hc.ok, hc.lang, hK]
 exact ⟨fun h => h.2, fun h2 => ⟨iU ts h, h2⟩⟩
theorem BD (rh : aU h = true) : mw (chD (ts.length + 1) (be ts d) 0) (hwV ts h) = rP h d := by
 rw [Bool.eq_iff_iff, Dx hp htl oh od kd, d7 oh od, <- FA hp oh od rh ((sB hp d).1 kd)]
 unfold sd
 rw [if_pos rfl]
theorem CI (rh : aU h = true) : mw (jM ts d false) (hwV ts h) = ge h d := by
 by_cases k1 : d.kind = 1
 · rw [Bool.eq_iff_iff, z7 hp htl oh od kd k1, <- sX hp oh od rh ((sB hp d).1 kd) k1]
   rw [if_neg (by simp)]
 · rw [(oo k1).2, yP k1]
   rw [Bool.eq_false_iff, qa]
   intro hc
   exact vm _ _ ((um (G4 (by omega) (by omega)) _).1 hc)
theorem BC (rh : aU h = true) : mw (jM ts d true) (hwV ts h) = Gk h d := by
 by_cases k1 : d.kind = 1
 · rw [Bool.eq_iff_iff, z7 hp htl oh od kd k1, <- DQ hp oh od rh ((sB hp d).1 kd) k1]
   rw [if_pos rfl]
 · rw [(oo k1).1, BD hp htl oh od kd rh, Bool.eq_iff_iff, d7 oh od, Cj oh od rh ((iV od).1 ((sB hp d).1 kd).1) k1]
theorem GN (rh : aU h = false) : mw (chD (ts.length + 1) (be ts d) 0) (hwV ts h) = false /\ mw (jM ts d true) (hwV ts h) = false := by
 have hne : be ts d ≠ [] := ((sC hp d).1 ((sB hp d).1 kd)).1
 have hn : be ts h = [] := by
   unfold be bL
   rw [if_neg (by rw [rh]; simp)]; rfl
 have h1 : mw (chD (ts.length + 1) (be ts d) 0) (hwV ts h) = false := by
   rw [Bool.eq_false_iff]
   intro hc
   have := (Dx hp htl oh od kd).1 hc
   exact hne (by rw [<- this, hn])
 refine ⟨h1, ?_⟩
 by_cases k1 : d.kind = 1
 · rw [Bool.eq_false_iff]
   intro hc
   have := (z7 hp htl oh od kd k1 true).1 hc
   rw [hn] at this
   exact Io hne this
 · rw [(oo k1).1]; exact h1
end
theorem GC {h g : Hst} (o : h.ok) (p : g.ok) (w : World) : (Instr.buildSlice ji 2 #[(0, h.v), (1, g.v)]).run prog w = .ok (.slice (some ⟨w.heap.size, 0, none⟩) 2 2) (w.alloc (.cells (h.cells ++ g.cells).toArray ae)) := by
 obtain ⟨k, n, a⟩ := h
 obtain ⟨k', n', a'⟩ := g
 obtain ⟨x0, x1, x2, x3, x4, x5, x6, x7, x8, x9, x10, x11, x12, x13, x14, x15, rfl⟩ := yA a o
 obtain ⟨y0, y1, y2, y3, y4, y5, y6, y7, y8, y9, y10, y11, y12, y13, y14, y15, rfl⟩ := yA a' p
 kernel_rfl
theorem zq {l : List Txt} {hs : List Hst} (h : mN l hs = false) : (∀ x ∈ l, x.length <= 70) /\ (∀ g ∈ hs, g.name.length <= 300) /\ l.length <= 24 := by
 unfold mN at h
 rw [Bool.or_eq_false_iff, Bool.or_eq_false_iff, List.any_eq_false, List.any_eq_false, dFx] at h
 refine ⟨fun x hx => ?_, fun g hg => ?_, by omega⟩
 · have := h.1 x hx; simp only [dTx] at this; omega
 · have := h.2.1 g hg; simp only [dTx] at this; omega
set_option maxHeartbeats 4000000 in
theorem qi {w : World} (he : Env w) {a : Option Addr} {n c : Nat} {l : List Txt} (hs : Sl tS w gT a n c l) {d h : Hst} (od : d.ok) (oh : h.ok) :
   Calls prog kS #[.slice a n c, d.v, h.v] w (Ret fun v w' => v = .bool true /\ Below w.heap.size w w') := by
 apply pr
 unfold kC
 intro k4 w4 hk4 hw4 k5 w5 hk5 hw5
 have b4 := (hw4 ▸ ah w _ : Below w.heap.size w w4)
 have b5 := (hw5 ▸ ah w4 _ : Below w4.heap.size w4 w5)
 have A4 : am w4 k4 ae d.cells := am.new hk4 hw4
 have A5 : am w5 k5 ae h.cells := am.new hk5 hw5
 have B5 := ab b4 b5 b4.size
 have A4' := A4.below b5
 refine ax (lO w5 (he.step B5)) ?_
 rintro _ w16 ⟨rfl, b16⟩
 have B16 := ab B5 b16 B5.size
 refine ⟨_, rfl, af.no rfl ⟨_, aB.load0 (A4'.below b16) (Hst.len od), _, aB.load0 (A5.below b16) (Hst.len oh), ?_⟩⟩
 have b21 : Below w16.heap.size w16 (w16.alloc (.cells (d.cells ++ h.cells).toArray ae)) := ah w16 _
 have B21 := ab B16 b21 B16.size
 refine ⟨_, _, _, _, GC od oh w16, ?_⟩
 have S21 : Sl Eu (w16.alloc (.cells (d.cells ++ h.cells).toArray ae)) gT (some ⟨w16.heap.size, 0, none⟩) 2 2 [d, h] := by
   have r1 : gw Eu w16 NoB d.cells [d] := gw.one ⟨rfl, od⟩
   have r2 : gw Eu w16 NoB h.cells [h] := gw.one ⟨rfl, oh⟩
   exact (Ow.newF zl rfl rfl (r1.append r2) (by show 2 <= maxLen; decide)).all
 refine ax (m9 (hs.below B21) S21) ?_
 rintro _ w22 ⟨rfl, b22⟩
 have B22 := ab B21 b22 B21.size
 refine ⟨_, rfl, af.of (fun hg => ⟨rfl, B22⟩) (fun hg => ?_)⟩
 obtain ⟨hlx, hhx, hll⟩ := zq hg
 have hdn := hhx d (by simp)
 have hhn := hhx h (by simp)
 obtain ⟨ts, hts⟩ : ∃ ts, ts = ky l := ⟨_, rfl⟩
 have hp : ts.Pairwise (· < ·) := by rw [hts]; exact rZ l
 have htl : ts.length <= 24 := by rw [hts]; exact Nat.le_trans (z6 l) hll
 have b22' := ab (ab (ab b16 b21 b16.size) b22 (by have := b16.size; have := b21.size; omega)) (Below.refl _ _) (by have := b16.size; have := b21.size; have := b22.size; omega)
 refine ax (jz a n c l (by omega) w22 (hs.below B22)) ?_
 rintro _ w24 ⟨p, rfl, hA, b24⟩
 rw [<- hts] at hA
 have B24 := ab B22 b24 B22.size
 have b24' := ab b22' b24 b22'.size
 have A4c := A4'.below b24'
 have A5c := A5.below b24'
 refine ⟨p, rfl, _, aB.load0 A4c (Hst.len od), ?_⟩
 refine ax (m8 od (by omega) (he.step B24) hA (by omega)) ?_
 intro v1 w28 hS1
 -- a set, stored
 have setK : ∀ {u u' : World} {D : DA} {v : Value}, eU (kB ts d) D u v u' -> ∃ (a1 : Option Addr) (n1 c1 : Nat) (b1 : Option Addr) (m1 e1 : Nat) (D' : DA) (er : Int), v = .tuple #[daV a1 n1 c1 b1 m1 e1 D', .int .i64 er] /\ Below u.heap.size u u' /\ (kB ts d = true -> D' = D /\ er = 0 /\ Ai u.heap.size u' a1 n1 c1 b1 m1 e1 D) /\ (kB ts d = false -> er = 181 /\ daV a1 n1 c1 b1 m1 e1 D' = daV none 0 0 none 0 0 ⟨0, 0, [], []⟩ /\ D' = ⟨0, 0, [], []⟩ /\ a1 = none /\ n1 = 0 /\ c1 = 0 /\ b1 = none /\ m1 = 0 /\ e1 = 0) /\
     ∀ (k : Nat) (u2 : World), k = u'.heap.size -> u2 = u'.alloc (.cells #[.int .i64 0, .int .i64 0, .slice none 0 0, .slice none 0 0] aj) -> ∃ wx, (Instr.storeAt aj (.pointer (some ⟨k, 0, none⟩)) (daV a1 n1 c1 b1 m1 e1 D')).run prog u2 = .ok () wx /\ am wx k aj (daL a1 n1 c1 b1 m1 e1 D') /\ Below u'.heap.size u' wx := by
   intro u u' D v hS
   have st : ∀ (a1 : Option Addr) (n1 c1 : Nat) (b1 : Option Addr) (m1 e1 : Nat) (D' : DA) (k : Nat) (u2 : World), k = u'.heap.size -> u2 = u'.alloc (.cells #[.int .i64 0, .int .i64 0, .slice none 0 0, .slice none 0 0] aj) -> ∃ wx, (Instr.storeAt aj (.pointer (some ⟨k, 0, none⟩)) (daV a1 n1 c1 b1 m1 e1 D')).run prog u2 = .ok () wx /\ am wx k aj (daL a1 n1 c1 b1 m1 e1 D') /\ Below u'.heap.size u' wx := by
     intro a1 n1 c1 b1 m1 e1 D' k u2 hk hu
     have bb := (hu ▸ ah u' _ : Below u'.heap.size u' u2)
     have AA : am u2 k aj [.int .i64 0, .int .i64 0, .slice none 0 0, .slice none 0 0] := am.new hk hu
     obtain ⟨wx, s1, v1, g1⟩ := bs.store0 (P := prog) (cs := daL a1 n1 c1 b1 m1 e1 D') rfl (kJ _ _ _ _ _ _ _) AA rfl
     exact ⟨wx, s1, v1, Below.put bb g1 (by omega)⟩
   cases hk : kB ts d with
   | false =>
     rw [hk] at hS
     obtain ⟨rfl, hb⟩ := hS
     exact ⟨none, 0, 0, none, 0, 0, ⟨0, 0, [], []⟩, 181, rfl, hb, (fun h => by cases h), (fun _ => ⟨rfl, rfl, rfl, rfl, rfl, rfl, rfl, rfl, rfl⟩), st _ _ _ _ _ _ _⟩
   | true =>
     rw [hk] at hS
     obtain ⟨a1, n1, c1, b1, m1, e1, rfl, O, hb⟩ := hS
     exact ⟨a1, n1, c1, b1, m1, e1, D, 0, rfl, hb, (fun _ => ⟨rfl, rfl, O⟩), (fun h => by cases h), st _ _ _ _ _ _ _⟩
 obtain ⟨a1, n1, c1, b1, m1, e1, D1, r1, rfl, b28, y1, z1, st1⟩ := setK hS1
 have B28 := ab B24 b28 B24.size
 refine ⟨_, _, a1, n1, c1, b1, m1, e1, _, rfl, ?_⟩
 intro k8 w8 hk8 hw8
 obtain ⟨wx, s8, v8, bx⟩ := st1 k8 w8 hk8 hw8
 have Bx := ab B28 bx B28.size
 have cx := ab b28 bx b28.size
 have A4x := A4c.below cx
 have A5x := A5c.below cx
 have hAx := hA.below cx
 refine ⟨wx, s8, _, aB.load0 A4x (Hst.len od), ?_⟩
 refine ax (kK od (by omega) (he.step Bx) hAx (by omega)) ?_
 intro v2 w34 hS2
 obtain ⟨a2, n2, c2, b2, m2, e2, D2, r2, rfl, b34, y2, z2, st2⟩ := setK hS2
 have B34 := ab Bx b34 Bx.size
 refine ⟨_, _, a2, n2, c2, b2, m2, e2, _, rfl, ?_⟩
 intro k10 w10 hk10 hw10
 obtain ⟨wy, s10, v10, by_⟩ := st2 k10 w10 hk10 hw10
 have By := ab B34 by_ B34.size
 have cy := ab b34 by_ b34.size
 have A4y := A4x.below cy
 have A5y := A5x.below cy
 have hAy := hAx.below cy
 have v8y := v8.below cy
 refine ⟨wy, s10, _, aB.load0 A4y (Hst.len od), ?_⟩
 refine ax (j3 od (by omega) (he.step By) hAy (by omega)) ?_
 intro v3 w40 hS3
 obtain ⟨a3, n3, c3, b3, m3, e3, D3, r3, rfl, b40, y3, z3, st3⟩ := setK hS3
 have B40 := ab By b40 By.size
 refine ⟨_, _, a3, n3, c3, b3, m3, e3, _, rfl, ?_⟩
 intro k12 w12 hk12 hw12
 obtain ⟨wz, s12, v12, bz⟩ := st3 k12 w12 hk12 hw12
 have Bz := ab B40 bz B40.size
 have cz := ab b40 bz b40.size
 have A4z := A4y.below cz
 have A5z := A5y.below cz
 have v8z := v8y.below cz
 have v10z := v10.below cz
 refine ⟨wz, s12, _, aB.load0 A4z (Hst.len od), ?_⟩
 have hlx' : ∀ x ∈ l, x.length <= 1000000 := fun x hx => by have := hlx x hx; omega
 refine ax (nm (by omega) hlx' od (by omega) (hs.below Bz)) ?_
 rw [<- hts]
 rintro _ w45 ⟨rfl, b45⟩
 have B45 := ab Bz b45 Bz.size
 refine ⟨_, rfl, ?_⟩
 cases hk : kB ts d with
 | false =>
   obtain ⟨rfl, _, rfl, rfl, rfl, rfl, rfl, rfl, rfl⟩ := z1 hk
   obtain ⟨rfl, _, rfl, rfl, rfl, rfl, rfl, rfl, rfl⟩ := z2 hk
   obtain ⟨rfl, _, rfl, rfl, rfl, rfl, rfl, rfl, rfl⟩ := z3 hk
   refine af.yes rfl (af.yes rfl (af.yes rfl (af.yes rfl ⟨_, _, none, 0, 0, none, 0, 0, bs.load0 (cs := daL none 0 0 none 0 0 ⟨0, 0, [], []⟩) (v8z.below b45) rfl, ?_⟩)))
   refine ax (fR w45) ?_
   rintro _ w59 ⟨rfl, b59⟩
   have B59 := ab B45 b59 B45.size
   refine ⟨_, rfl, af.yes rfl ⟨_, _, none, 0, 0, none, 0, 0, bs.load0 (cs := daL none 0 0 none 0 0 ⟨0, 0, [], []⟩) ((v10z.below b45).below b59) rfl, ?_⟩⟩
   refine ax (fR w59) ?_
   rintro _ w63 ⟨rfl, b63⟩
   have B63 := ab B59 b63 B59.size
   refine ⟨_, rfl, af.yes rfl ⟨_, _, none, 0, 0, none, 0, 0, bs.load0 (cs := daL none 0 0 none 0 0 ⟨0, 0, [], []⟩) (((v12.below b45).below b59).below b63) rfl, ?_⟩⟩
   refine ax (fR w63) ?_
   rintro _ w67 ⟨rfl, b67⟩
   exact ⟨_, rfl, rfl, ab B63 b67 B63.size⟩
 | true =>
   obtain ⟨rfl, rfl, O1⟩ := y1 hk
   obtain ⟨rfl, rfl, O2⟩ := y2 hk
   obtain ⟨rfl, rfl, O3⟩ := y3 hk
   have hwl := sO hp (by omega) oh od hk
   have ok1 : (chD (ts.length + 1) (be ts d) 0).Ok := (Bi (by omega) od hwl).ok
   obtain ⟨ok2, hn2⟩ := Av (ts := ts) (by omega) od hwl false
   obtain ⟨ok3, hn3⟩ := Av (ts := ts) (by omega) od hwl true
   have S1 : DaS w45 a1 n1 c1 b1 m1 e1 (chD (ts.length + 1) (be ts d) 0) := ((((O1.das.below bx).below cy).below cz).below b45)
   have S2 : DaS w45 a2 n2 c2 b2 m2 e2 (jM ts d false) := (((O2.das.below by_).below cz).below b45)
   have S3 : DaS w45 a3 n3 c3 b3 m3 e3 (jM ts d true) := ((O3.das.below bz).below b45)
   have u8 := v8z.below b45
   have u10 := v10z.below b45
   have u12 := v12.below b45
   have A45 := A4z.below b45
   have A55 := A5z.below b45
   refine af.no rfl ⟨_, aB.load0 A45 (Hst.len od), ?_⟩
   refine ax (jv (by omega) hlx' od (by omega) (hs.below B45)) ?_
   rw [<- hts]
   rintro _ w71 ⟨a4, n4, c4, rfl, O4, _, b71⟩
   have B71 := ab B45 b71 B45.size
   have hn4 : n4 = (be ts d).length := by rw [O4.len, qa, List.length_map]
   refine ⟨a4, n4, c4, rfl, fun W => Below w71.heap.size w71 W, af.no rfl (af.no rfl (af.no rfl ⟨_, _, a1, n1, c1, b1, m1, e1, bs.load0 (cs := daL a1 n1 c1 b1 m1 e1 _) (u8.below b71) rfl, ?_⟩)), aE.of ?_ _⟩
   · refine ax (kj (S1.below b71)) ?_
     rintro _ w86 ⟨rfl, b86⟩
     refine ⟨_, rfl, af.no (by rw [ff.2 ok1]; rfl) ⟨_, _, a2, n2, c2, b2, m2, e2, bs.load0 (cs := daL a2 n2 c2 b2 m2 e2 _) ((u10.below b71).below b86) rfl, ?_⟩⟩
     have c86 := ab b71 b86 b71.size
     refine ax (kj (S2.below c86)) ?_
     rintro _ w91 ⟨rfl, b91⟩
     have c91 := ab c86 b91 c86.size
     refine ⟨_, rfl, af.no (by rw [ff.2 ok2]; rfl) ⟨_, _, a3, n3, c3, b3, m3, e3, bs.load0 (cs := daL a3 n3 c3 b3 m3 e3 _) (u12.below c91) rfl, ?_⟩⟩
     refine ax (kj (S3.below c91)) ?_
     rintro _ w96 ⟨rfl, b96⟩
     have c96 := ab c91 b96 c91.size
     have hm1 : m1 = (be ts d).length + 2 := by rw [O1.ac.len]; exact gq _
     have hm2 : m2 <= (be ts d).length + 3 := by rw [O2.ac.len]; exact hn2
     have hm3 : m3 <= (be ts d).length + 3 := by rw [O3.ac.len]; exact hn3
     have hwr : i64.wrap (((n4 : Nat) : Int) + 3) = ((be ts d).length : Int) + 3 := by rw [hn4, ak (by omega) (by omega)]
     rw [hwr]
     refine ⟨_, rfl, af.no (by rw [ff.2 ok3]; rfl) ⟨rfl, b1, m1, e1, (u8.below c96).load1 bg rfl rfl, af.no (decide_eq_false (by omega)) ⟨rfl, b2, m2, e2, (u10.below c96).load1 bg rfl rfl, af.no (decide_eq_false (by omega)) ⟨rfl, b3, m3, e3, (u12.below c96).load1 bg rfl rfl, af.no (decide_eq_false (by omega)) ?_⟩⟩⟩⟩
     exact ab (ab b86 b91 b86.size) b96 (by have := b86.size; have := b91.size; omega)
   · intro wj bj
     have c71 := ab b71 bj b71.size
     have Bj := ab B71 bj B71.size
     refine ⟨_, aB.load0 (A55.below c71) (Hst.len oh), ?_⟩
     refine ax (jv (by omega) hlx' oh (by omega) (hs.below Bj)) ?_
     rw [<- hts]
     rintro _ w122 ⟨a5, n5, c5, rfl, O5, _, b122⟩
     have c122 := ab c71 b122 c71.size
     have B122 := ab Bj b122 Bj.size
     refine ⟨a5, n5, c5, rfl, _, aB.load0 (A55.below c122) (Hst.len oh), ?_⟩
     refine ax (dC oh (by omega) w122) ?_
     rintro _ w124 ⟨rfl, b124⟩
     have c124 := ab c122 b124 c122.size
     have B124 := ab B122 b124 B122.size
     have T5 : ∀ {u : World}, Below w124.heap.size w124 u -> Sl i7 u gT a5 n5 c5 (hwV ts h) := fun hu => ((O5.below b124).below hu).all
     have L1 : ∀ {u : World}, Below w124.heap.size w124 u -> DaS u a1 n1 c1 b1 m1 e1 _ := fun hu => (S1.below c124).below hu
     have L2 : ∀ {u : World}, Below w124.heap.size w124 u -> DaS u a2 n2 c2 b2 m2 e2 _ := fun hu => (S2.below c124).below hu
     have L3 : ∀ {u : World}, Below w124.heap.size w124 u -> DaS u a3 n3 c3 b3 m3 e3 _ := fun hu => (S3.below c124).below hu
     have q8 : ∀ {u : World}, Below w124.heap.size w124 u -> am u k8 aj (daL a1 n1 c1 b1 m1 e1 _) := fun hu => (u8.below c124).below hu
     have q10 : ∀ {u : World}, Below w124.heap.size w124 u -> am u k10 aj (daL a2 n2 c2 b2 m2 e2 _) := fun hu => (u10.below c124).below hu
     have q12 : ∀ {u : World}, Below w124.heap.size w124 u -> am u k12 aj (daL a3 n3 c3 b3 m3 e3 _) := fun hu => (u12.below c124).below hu
     have q4 : ∀ {u : World}, Below w124.heap.size w124 u -> (Instr.loadAt ae (.pointer (some ⟨k4, 0, none⟩))).run prog u = .ok d.v u := fun hu => aB.load0 ((A45.below c124).below hu) (Hst.len od)
     have q5 : ∀ {u : World}, Below w124.heap.size w124 u -> (Instr.loadAt ae (.pointer (some ⟨k5, 0, none⟩))).run prog u = .ok h.v u := fun hu => aB.load0 ((A55.below c124).below hu) (Hst.len oh)
     have r0 := Below.refl w124.heap.size w124
     refine ⟨_, rfl, af.of (fun hr => ?_) (fun hr => ?_)⟩
     · have hr : aU h = false := by simpa using hr
       obtain ⟨t1, t2⟩ := GN hp (by omega) oh od hk hr
       refine ⟨_, _, a1, n1, c1, b1, m1, e1, bs.load0 (cs := daL a1 n1 c1 b1 m1 e1 _) (q8 r0) rfl, ?_⟩
       refine ax (iA (L1 r0) (T5 r0)) ?_
       rintro _ w128 ⟨rfl, b128⟩
       refine ⟨_, rfl, af.yes (by rw [t1]; rfl) ⟨_, _, a3, n3, c3, b3, m3, e3, bs.load0 (cs := daL a3 n3 c3 b3 m3 e3 _) (q12 b128) rfl, ?_⟩⟩
       refine ax (iA (L3 b128) (T5 b128)) ?_
       rintro _ w133 ⟨rfl, b133⟩
       exact ⟨_, rfl, by rw [t2]; rfl, ab B124 (ab b128 b133 b128.size) B124.size⟩
     · have hr : aU h = true := by simpa using hr
       have t1 := BD hp (by omega) oh od hk hr
       have t2 := CI hp (by omega) oh od hk hr
       have t3 := BC hp (by omega) oh od hk hr
       refine ⟨_, _, a1, n1, c1, b1, m1, e1, fun u hu => bs.load0 (cs := daL a1 n1 c1 b1 m1 e1 _) (q8 hu) rfl, rP h d, fun u hu => ?_, h.v, fun u hu => q5 hu, d.v, fun u hu => q4 hu, rP h d, fun u hu => yy oh od u, af.yes (by simp) ?_⟩
       · refine (iA (L1 hu) (T5 hu)).mono ?_
         rintro e w' ⟨v, rfl, rfl, hb⟩
         exact ⟨by rw [t1], hb.mono hu.size⟩
       refine ⟨_, _, a2, n2, c2, b2, m2, e2, fun u hu => bs.load0 (cs := daL a2 n2 c2 b2 m2 e2 _) (q10 hu) rfl, ge h d, fun u hu => ?_, h.v, fun u hu => q5 hu, d.v, fun u hu => q4 hu, ge h d, fun u hu => ?_, af.yes (by simp) ?_⟩
       · refine (iA (L2 hu) (T5 hu)).mono ?_
         rintro e w' ⟨v, rfl, rfl, hb⟩
         exact ⟨by rw [t2], hb.mono hu.size⟩
       · refine (ki oh od (by omega) (by omega) u).mono ?_
         rintro e w' ⟨v, rfl, rfl, hb⟩
         exact ⟨rfl, hb.mono hu.size⟩
       refine ⟨_, _, a3, n3, c3, b3, m3, e3, fun u hu => bs.load0 (cs := daL a3 n3 c3 b3 m3 e3 _) (q12 hu) rfl, Gk h d, fun u hu => ?_, h.v, fun u hu => q5 hu, d.v, fun u hu => q4 hu, Gk h d, fun u hu => ?_, fun wq hq => ⟨by simp, ab B124 hq B124.size⟩⟩
       · refine (iA (L3 hu) (T5 hu)).mono ?_
         rintro e w' ⟨v, rfl, rfl, hb⟩
         exact ⟨by rw [t3], hb.mono hu.size⟩
       · refine (wN oh od (by omega) (by omega) u).mono ?_
         rintro e w' ⟨v, rfl, rfl, hb⟩
         exact ⟨rfl, hb.mono hu.size⟩
end Go.Proofs.YtpafoodmpjlkhaaGreatDoor
