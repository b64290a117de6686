/- What the law alone leans on: Names, HdrN, AdmD, AdmX, V5_6, AdmH; what is used. Its conditions: none. -/
import Derived.Test.YtndbpedpdbjkpaaGreatDoorKI
import Derived.Test.YtndbpedpdbjkpaaGreatDoorRows
open Go.IntKind (i64)
open Go.Proofs.Tryz (prog)
namespace Go.Proofs.YtndbpedpdbjkpaaGreatDoor
open Go.Pk
abbrev qeA : Nat := 6
end Go.Proofs.YtndbpedpdbjkpaaGreatDoor
set_option linter.unusedVariables false
set_option linter.unusedSimpArgs false
set_option maxRecDepth 20000
namespace Go.Pk
open Go.RowKit (Below)
theorem right_good {h : Hdr} (hr : qaT h = true) : Good h := by
 unfold qaT at hr
 rw [Bool.and_eq_true, dTx, qcP] at hr
 exact parse_good (s := jp h) (Prod.ext hr.2 hr.1)
end Go.Pk

namespace Go.Proofs.YtndbpedpdbjkpaaGreatDoor
open Go.Pk
open Go.RowKit (Below)
theorem quX {c d : Cky} (o : c.ok) (p : d.ok) {x y : Operand} (w : World) : ((do eqGuard .neq qa x y c.v d.v; binOp .neq qa c.v d.v : Sem Value)).run prog w = .ok (.bool (!qrA c d)) w :=
 qpq qpt (qrW o p) w
end Go.Proofs.YtndbpedpdbjkpaaGreatDoor
namespace Go.Pk
open Go.RowKit (Below)
theorem qeO : qda hdr0 := ⟨by decide, by decide, by decide, by decide, by decide, by decide⟩
theorem qb7 {s : List UInt8} (h : (qM s).2 ≠ 0) : (qM s).1 = hdr0 := by
 unfold qM at h ⊢
 split
 · rfl
 split
 · rfl
 split
 · rfl
 · rename_i h1 h2 h3
   rw [if_neg h1, if_neg h2, if_neg h3] at h
   exact absurd rfl h
theorem qdk (s : List UInt8) : qda (qM s).1 := by
 by_cases h : (qM s).2 = 0
 · exact qih (parse_good (s := s) (Prod.ext rfl h))
 · rw [qb7 h]; exact qeO
end Go.Pk
set_option maxRecDepth 100000
namespace Go.Proofs.YtndbpedpdbjkpaaGreatDoor
open Go.Pk
open Go.RowKit (Below)
--  cracknel/cracknellaw10.AdmitNames
def qd3  (w : World) (K : Value -> World -> Prop) : Prop :=
 Calls prog zT #[] w fun e19 w19 => ∃ b19, e19 = .returned (.bool b19) /\
 BCase (!b19)
 (K (.bool false) w19)
 (∀ k22 w22, k22 = w19.heap.size -> w22 = w19.alloc (.cells #[.int .i64 (1 : Int), .string (mkS [99, 111, 109])] ql) ->
 Calls prog qp #[.slice (some ⟨k22, 0, none⟩) 1 1] w22 fun e23 w23 => ∃ p23, e23 = .returned (.pointer p23) /\
 ∀ k24 w24, k24 = w23.heap.size -> w24 = w23.alloc (.cells #[.string (mkS [97, 61, 98, 59, 32, 68, 111, 109, 97, 105, 110, 61, 97, 46, 49]), .string (mkS [97, 61, 98, 59, 32, 68, 111, 109, 97, 105, 110, 61, 99, 111, 109]), .string (mkS [97, 61, 98, 59, 32, 68, 111, 109, 97, 105, 110, 61, 121, 46, 99, 111, 109]), .string (mkS [97, 61, 98, 59, 32, 83, 101, 99, 117, 114, 101]), .string (mkS [97, 61, 98, 59, 32, 83, 97, 109, 101, 83, 105, 116, 101, 61, 78, 111, 110, 101]), .string (mkS [95, 95, 83, 101, 99, 117, 114, 101, 45, 97, 61, 98])] qe) ->
 ∃ I : Nat -> FP [.one (.int .i64)],
 (∃ m, I m (0 : Int) w24) /\
 ∀ m n27, AllJ 39 (∀ wl, I m n27 wl ->
 BCase (decide (n27 < ((6 : Nat) : Int)))
 (((0 <= n27 /\ n27 < ((6 : Nat) : Int)) /\ true = true) /\
 ∃ s31, Ld qe (qn (some ⟨k24, 0, none⟩) n27 1) wl (.string (mkS s31)) /\
 Calls prog qae #[.string (mkS [104, 116, 116, 112, 58, 47, 47, 120, 46, 99, 111, 109]), .string (mkS s31)] wl fun e34 w34 => ∃ v34_0 s34_1_0 s34_1_1 s34_1_2 s34_1_3 b34_1_4 n34_1_5 b34_1_6 n34_1_7 b34_1_8 b34_1_9 n34_1_10 b34_2, e34 = .returned (.tuple #[v34_0, (hV s34_1_0 s34_1_1 s34_1_2 s34_1_3 b34_1_4 n34_1_5 b34_1_6 n34_1_7 b34_1_8 b34_1_9 n34_1_10), .bool b34_2]) /\
 ∀ k5 w5, k5 = w34.heap.size -> w5 = w34.alloc (.cells z7 qg) ->
 ∀ k6 w6, k6 = w5.heap.size -> w6 = w5.alloc (.cells #[.string (mkS []), .string (mkS []), .string (mkS []), .string (mkS []), .bool false, .int .i64 (0 : Int), .bool false, .int .i64 (0 : Int), .bool false, .bool false, .int .i64 (0 : Int)] qd) ->
 ∃ wx, Sv qg (some ⟨k5, 0, none⟩) v34_0 w6 wx /\
 ∃ wx_1, Sv qd (some ⟨k6, 0, none⟩) (hV s34_1_0 s34_1_1 s34_1_2 s34_1_3 b34_1_4 n34_1_5 b34_1_6 n34_1_7 b34_1_8 b34_1_9 n34_1_10) wx wx_1 /\
 ∃ v40, Ld qg (some ⟨k5, 0, none⟩) wx_1 v40 /\
 ∃ s41_0 s41_1 s41_2 s41_3 b41_4 n41_5 b41_6 n41_7 b41_8 b41_9 n41_10, Ld qd (some ⟨k6, 0, none⟩) wx_1 (hV s41_0 s41_1 s41_2 s41_3 b41_4 n41_5 b41_6 n41_7 b41_8 b41_9 n41_10) /\
 Calls prog qh #[.pointer p23, v40, (hV s41_0 s41_1 s41_2 s41_3 b41_4 n41_5 b41_6 n41_7 b41_8 b41_9 n41_10), .int .i64 (0 : Int)] wx_1 fun e42 w42 => ∃ v42_0 n42_1, e42 = .returned (.tuple #[v42_0, .int .i64 n42_1]) /\
 ∀ k8 w8, k8 = w42.heap.size -> w8 = w42.alloc (.cells qj qa) ->
 ∃ wx_2, Sv qa (some ⟨k8, 0, none⟩) v42_0 w8 wx_2 /\
 BCase (!b34_2)
 (K (.bool false) wx_2)
 (BCase (n42_1 != (i64.wrap ((101 : Int) + n27)))
 (K (.bool false) wx_2)
 (∃ v54, Ld qa (some ⟨k8, 0, none⟩) wx_2 v54 /\
 ∃ b56, ((do eqGuard .neq qa (.tmp 54) (.tmp 55) v54 (.agg qj); binOp .neq qa v54 (.agg qj) : Sem Value)).run prog wx_2 = .ok (.bool b56) wx_2 /\
 BCase b56
 (K (.bool false) wx_2)
 (∃ m' : Nat, m' < m /\ I m' (i64.wrap (n27 + (1 : Int))) wx_2))))
 (Calls prog qae #[.string (mkS [104, 116, 116, 112, 58, 47, 47, 120, 46, 99, 111, 109]), .string (mkS [97, 61, 98])] wl fun e60 w60 => ∃ v60_0 s60_1_0 s60_1_1 s60_1_2 s60_1_3 b60_1_4 n60_1_5 b60_1_6 n60_1_7 b60_1_8 b60_1_9 n60_1_10 b60_2, e60 = .returned (.tuple #[v60_0, (hV s60_1_0 s60_1_1 s60_1_2 s60_1_3 b60_1_4 n60_1_5 b60_1_6 n60_1_7 b60_1_8 b60_1_9 n60_1_10), .bool b60_2]) /\
 ∀ k10 w10, k10 = w60.heap.size -> w10 = w60.alloc (.cells z7 qg) ->
 ∀ k11 w11, k11 = w10.heap.size -> w11 = w10.alloc (.cells #[.string (mkS []), .string (mkS []), .string (mkS []), .string (mkS []), .bool false, .int .i64 (0 : Int), .bool false, .int .i64 (0 : Int), .bool false, .bool false, .int .i64 (0 : Int)] qd) ->
 ∃ wx_3, Sv qg (some ⟨k10, 0, none⟩) v60_0 w11 wx_3 /\
 ∃ wx_4, Sv qd (some ⟨k11, 0, none⟩) (hV s60_1_0 s60_1_1 s60_1_2 s60_1_3 b60_1_4 n60_1_5 b60_1_6 n60_1_7 b60_1_8 b60_1_9 n60_1_10) wx_3 wx_4 /\
 ∃ s67_0 s67_1 s67_2 s67_3 b67_4 n67_5 b67_6 n67_7 b67_8 b67_9 n67_10, Ld qd (some ⟨k11, 0, none⟩) wx_4 (hV s67_0 s67_1 s67_2 s67_3 b67_4 n67_5 b67_6 n67_7 b67_8 b67_9 n67_10) /\
 Calls prog qh #[.pointer p23, (.agg z7), (hV s67_0 s67_1 s67_2 s67_3 b67_4 n67_5 b67_6 n67_7 b67_8 b67_9 n67_10), .int .i64 (0 : Int)] wx_4 fun e68 w68 => ∃ v68_0 n68_1, e68 = .returned (.tuple #[v68_0, .int .i64 n68_1]) /\
 ∀ k13 w13, k13 = w68.heap.size -> w13 = w68.alloc (.cells qj qa) ->
 ∃ wx_5, Sv qa (some ⟨k13, 0, none⟩) v68_0 w13 wx_5 /\
 ∃ v73, Ld qg (some ⟨k10, 0, none⟩) wx_5 v73 /\
 Calls prog qh #[.pointer p23, v73, (hV [] [] [] [] false (0 : Int) false (0 : Int) false false (0 : Int)), .int .i64 (0 : Int)] wx_5 fun e75 w75 => ∃ v75_0 n75_1, e75 = .returned (.tuple #[v75_0, .int .i64 n75_1]) /\
 ∀ k15 w15, k15 = w75.heap.size -> w15 = w75.alloc (.cells qj qa) ->
 ∃ wx_6, Sv qa (some ⟨k15, 0, none⟩) v75_0 w15 wx_6 /\
 ∃ v80, Ld qg (some ⟨k10, 0, none⟩) wx_6 v80 /\
 ∃ s81_0 s81_1 s81_2 s81_3 b81_4 n81_5 b81_6 n81_7 b81_8 b81_9 n81_10, Ld qd (some ⟨k11, 0, none⟩) wx_6 (hV s81_0 s81_1 s81_2 s81_3 b81_4 n81_5 b81_6 n81_7 b81_8 b81_9 n81_10) /\
 Calls prog qh #[.pointer p23, v80, (hV s81_0 s81_1 s81_2 s81_3 b81_4 n81_5 b81_6 n81_7 b81_8 b81_9 n81_10), .int .i64 (-1 : Int)] wx_6 fun e82 w82 => ∃ v82_0 n82_1, e82 = .returned (.tuple #[v82_0, .int .i64 n82_1]) /\
 ∀ k17 w17, k17 = w82.heap.size -> w17 = w82.alloc (.cells qj qa) ->
 ∃ wx_7, Sv qa (some ⟨k17, 0, none⟩) v82_0 w17 wx_7 /\
 BCase (n68_1 == (41 : Int))
 (BCase (n75_1 == (82 : Int))
 (K (.bool (n82_1 == (122 : Int))) wx_7)
 (K (.bool false) wx_7))
 (K (.bool false) wx_7))))
theorem qha  {w : World} {K : Value -> World -> Prop} (h : qd3  w K) : Calls prog qeA #[] w (Ret K) :=
 qo (c := qr Tryz.f6) (by kernel_rfl) Tryz.func6 (by kernel_rfl) [(18, [(27, .one (.int .i64))])] [] (of_decide_eq_true (by kernel_rfl)) _ (by kernel_rfl) h
end Go.Proofs.YtndbpedpdbjkpaaGreatDoor
set_option maxRecDepth 20000
namespace Go.Pk
open Go.RowKit (Below)
def nmTs : List (List UInt8) := [[97, 61, 98, 59, 32, 68, 111, 109, 97, 105, 110, 61, 97, 46, 49], [97, 61, 98, 59, 32, 68, 111, 109, 97, 105, 110, 61, 99, 111, 109], [97, 61, 98, 59, 32, 68, 111, 109, 97, 105, 110, 61, 121, 46, 99, 111, 109], [97, 61, 98, 59, 32, 83, 101, 99, 117, 114, 101], [97, 61, 98, 59, 32, 83, 97, 109, 101, 83, 105, 116, 101, 61, 78, 111, 110, 101], [95, 95, 83, 101, 99, 117, 114, 101, 45, 97, 61, 98]]
def uNm : Url := ⟨false, ⟨1, [120, 46, 99, 111, 109], ad0⟩, 80, [47]⟩
def rNm : List Rul := [(1, [99, 111, 109])]
theorem qud : urlV [104, 116, 116, 112, 58, 47, 47, 120, 46, 99, 111, 109] = (uNm, 0) := by kernel_rfl
theorem qoN : uRight uNm = true := by kernel_rfl
theorem qu6 : rNm.filter rulR = rNm := by kernel_rfl
def hNm (n v d : List UInt8) (s : Bool) (m : Int) : Hdr := ⟨n, v, d, [], false, 0, false, 0, s, false, m⟩
theorem quQ : ∀ k : Nat, (hk : k < 6) -> (qM (nmTs[k]'hk)).2 = 0 /\ takV rNm uNm (qM (nmTs[k]'hk)).1 0 = (cky0, 101 + (k : Int))
 | 0, _ => have hp : qM nmTs[0] = (hNm [97] [98] [97, 46, 49] false 0, 0) := by kernel_rfl
   ⟨by rw [hp], by rw [hp]; exact qin (qnT qoN (right_of_good (parse_good hp)) (by decide) (by decide)) (by kernel_rfl) (by decide)⟩
 | 1, _ => have hp : qM nmTs[1] = (hNm [97] [98] [99, 111, 109] false 0, 0) := by kernel_rfl
   ⟨by rw [hp], by rw [hp]; exact qin (qnT qoN (right_of_good (parse_good hp)) (by decide) (by decide)) (by kernel_rfl) (by decide)⟩
 | 2, _ => have hp : qM nmTs[2] = (hNm [97] [98] [121, 46, 99, 111, 109] false 0, 0) := by kernel_rfl
   ⟨by rw [hp], by rw [hp]; exact qin (qnT qoN (right_of_good (parse_good hp)) (by decide) (by decide)) (by kernel_rfl) (by decide)⟩
 | 3, _ => have hp : qM nmTs[3] = (hNm [97] [98] [] true 0, 0) := by kernel_rfl
   ⟨by rw [hp], by rw [hp]; exact qin (qnT qoN (right_of_good (parse_good hp)) (by decide) (by decide)) (by kernel_rfl) (by decide)⟩
 | 4, _ => have hp : qM nmTs[4] = (hNm [97] [98] [] false 1, 0) := by kernel_rfl
   ⟨by rw [hp], by rw [hp]; exact qin (qnT qoN (right_of_good (parse_good hp)) (by decide) (by decide)) (by kernel_rfl) (by decide)⟩
 | 5, _ => have hp : qM nmTs[5] = (hNm [95, 95, 83, 101, 99, 117, 114, 101, 45, 97] [98] [] false 0, 0) := by kernel_rfl
   ⟨by rw [hp], by rw [hp]; exact qin (qnT qoN (right_of_good (parse_good hp)) (by decide) (by decide)) (by kernel_rfl) (by decide)⟩
 | k + 6, h => absurd h (by omega)
theorem quh : qM [97, 61, 98] = (hNm [97] [98] [] false 0, 0) := by kernel_rfl
theorem quS : uRight url0 = false := by kernel_rfl
theorem quO : qaT hdr0 = false := by
 rw [Bool.eq_false_iff]
 intro h
 exact (right_good h).nz rfl
theorem tak_giv {rs : List Rul} {u : Url} {h : Hdr} {now : Int} {e : Int} (hg : givV u h now = e) (hne : e ≠ 0) : takV rs u h now = (cky0, e) := by
 unfold takV; rw [hg, if_pos hne]
theorem nm_1 (h : Hdr) : takV rNm url0 h 0 = (cky0, 41) := tak_giv (by unfold givV; rw [quS]; rfl) (by decide)
theorem nm_2 : takV rNm uNm hdr0 0 = (cky0, 82) := tak_giv (by unfold givV; rw [qoN, quO]; rfl) (by decide)
theorem nm_3 {h : Hdr} (hr : qaT h = true) : takV rNm uNm h (-1) = (cky0, 122) := tak_giv (by unfold givV; rw [qoN, hr]; rfl) (by decide)
theorem quG : ∀ t ∈ nmTs, t.length <= 10000000 := by decide
end Go.Pk
namespace Go.Proofs.YtndbpedpdbjkpaaGreatDoor
open Go.Pk
open Go.RowKit (Below)
theorem qtB {u : Url} (ou : u.ok) (h : Hdr) (w : World) {R : Nat -> Nat -> World -> Prop} (H : ∀ k k' wx, qm wx k qg u.cells -> qm wx k' qd h.cells -> Below w.heap.size w wx -> R k k' wx) :
   ∀ (k : Nat) (w1 : World), k = w.heap.size -> w1 = w.alloc (.cells z7 qg) -> ∀ (k' : Nat) (w2 : World), k' = w1.heap.size -> w2 = w1.alloc (.cells #[.string (mkS []), .string (mkS []), .string (mkS []), .string (mkS []), .bool false, .int .i64 (0 : Int), .bool false, .int .i64 (0 : Int), .bool false, .bool false, .int .i64 (0 : Int)] qd) ->
     ∃ wx : World, (Instr.storeAt qg (.pointer (some ⟨k, 0, none⟩)) u.v).run prog w2 = .ok () wx /\ ∃ wy : World, (Instr.storeAt qd (.pointer (some ⟨k', 0, none⟩)) h.v).run prog wx = .ok () wy /\ R k k' wy := by
 intro k9 w9 hk9 hw9 k10 w10 hk10 hw10
 have hb9 := (hw9 ▸ qf w _ : Below w.heap.size w w9)
 have h9 : qm w9 k9 qg url0.cells := qm.new hk9 hw9
 have hb10 := (hw10 ▸ qf w9 _ : Below w9.heap.size w9 w10)
 have h10 : qm w10 k10 qd hdr0.cells := qm.new hk10 hw10
 have lt9 := h9.lt
 have hb810 := qb hb9 hb10 hb9.size
 have sz9 := hb9.size
 obtain ⟨w11, hs11, h911, hg11⟩ := qas.store0 (P := prog) (cs := u.cells) (Url.len ou) (Url.one u) (h9.below hb10) rfl
 have hb811 : Below w.heap.size w w11 := Below.put hb810 hg11 (by omega)
 refine ⟨w11, hs11, ?_⟩
 obtain ⟨w12, hs12, h1012, hg12⟩ := qbR h (h10.grown hg11 (qP (by omega))) rfl
 exact ⟨w12, hs12, H _ _ _ (h911.grown hg12 (qP (by omega))) h1012 (Below.put hb811 hg12 (by omega))⟩
theorem qib (w : World) (he : Env w) : Calls prog qeA #[] w (Ret (Says w)) := by
 apply qha
 unfold qd3
 refine callK (qb0 w he) ?_
 rintro _ w1 ⟨rfl, hB1⟩
 refine ⟨_, rfl, BCase.no rfl ?_⟩
 intro k2 w2 hk2 hw2
 have hb2 := (hw2 ▸ qf w1 _ : Below w1.heap.size w1 w2)
 have hB2 := qb hB1 hb2 hB1.size
 have hs2 : Sl tRul w2 AllB (some ⟨k2, 0, none⟩) 1 1 rNm := (Ow.newF (T := tRul) (A := NoB) (l := rulC (1, [99, 111, 109])) (xs := rNm) (fun _ _ _ _ _ _ h => h) hk2 hw2 (RepL.one rfl) (by decide)).all
 refine callK (qbh hs2 (by decide) (by decide) (he.step hB2)) ?_
 rintro _ w3 ⟨kt, km, a, n, c, ps, kvs, es, rfl, T⟩
 rw [qu6] at T
 have he2 := he.step hB2
 have hB3 := qb hB2 T.hb hB2.size
 refine ⟨_, rfl, ?_⟩
 intro k4 w4 hk4 hw4
 have hb4 := (hw4 ▸ qf w3 _ : Below w3.heap.size w3 w4)
 have hB4 := qb hB3 hb4 hB3.size
 have h4 : qm w4 k4 qe (nmTs.map fun s => Value.string (mkS s)) := qm.new hk4 hw4
 have T4 := T.below hb4
 refine ⟨fun m i w' => ∃ k : Nat, k <= 6 /\ i = (k : Int) /\ m = 6 - k /\ Below w4.heap.size w4 w', ⟨_, 0, by omega, rfl, rfl, Below.refl _ _⟩, ?_⟩
 intro m i
 refine AllJ.of ?_ _
 rintro w5 ⟨k, hk, rfl, rfl, hb5⟩
 have hB5 := qb hB4 hb5 hB4.size
 have T5 := T4.below hb5
 refine BCase.of (fun hi => ?_) (fun hi => ?_) <;> simp only [dTx, dFx] at hi
 · have hlt : k < 6 := by omega
   obtain ⟨hp, ht⟩ := quQ k hlt
   rw [z8]
   refine ⟨⟨⟨by omega, hi⟩, rfl⟩, nmTs[k], (h4.below hb5).load1 un_string rfl (by rw [Nat.zero_add, List.getElem?_map, List.getElem?_eq_getElem hlt]; rfl), ?_⟩
   refine callK (qaC _ _ (by decide) (quG _ (List.getElem_mem hlt)) w5) ?_
   rintro _ w6 ⟨rfl, hb6⟩
   have T6 := T5.below hb6
   have hb56 := qb hb5 hb6 hb5.size
   have ho := qdk nmTs[k]
   have hok : okB2 [104, 116, 116, 112, 58, 47, 47, 120, 46, 99, 111, 109] nmTs[k] = true := by unfold okB2; rw [qud, hp]; rfl
   rw [hok, qud]
   generalize (qM nmTs[k]).1 = h at *
   refine ⟨_, _, _, _, _, _, _, _, _, _, _, _, _, rfl, ?_⟩
   refine qtB (u := uNm) rfl h w6 fun k7 k8 w7 h7 h8 hb7 => ?_
   have T7 := T6.below hb7
   have hb57 := qb hb56 hb7 hb56.size
   refine ⟨_, qas.load0 h7 rfl, _, _, _, _, _, _, _, _, _, _, _, zo h h8, ?_⟩
   refine callK (jv he2 T7 (u := uNm) rfl (by decide) (by decide) h ho 0) ?_
   rintro _ w8 ⟨rfl, hb8⟩
   have hb58 := qb hb57 hb8 hb57.size
   rw [ht]
   refine ⟨_, _, rfl, ?_⟩
   refine qS.new (zs := cky0.cells) (cs := cky0.cells) rfl rfl (Cky.one _) w8 fun k9 w9 hk9 h9 hb9 => ?_
   have hb59 := qb hb58 hb9 hb58.size
   have ew : i64.wrap ((101 : Int) + (k : Int)) = 101 + (k : Int) := wrap_i64 (by omega) (by omega)
   refine BCase.no rfl (BCase.no (by rw [ew]; simp) ⟨_, qS.load0 h9 rfl, _, quX (c := cky0) (d := cky0) rfl rfl w9, BCase.no (by rw [qe0 (c := cky0) rfl]; rfl) ?_⟩)
   exact ⟨6 - (k + 1), by omega, k + 1, by omega, by rw [wrap_i64 (by omega) (by omega)]; omega, rfl, hb59⟩
 · have ho := qdk [97, 61, 98]
   refine callK (qaC _ _ (by decide) (by decide) w5) ?_
   rintro _ w6 ⟨rfl, hb6⟩
   have T6 := T5.below hb6
   have hr : qaT (hNm [97] [98] [] false 0) = true := right_of_good (parse_good quh)
   rw [quh] at ho
   rw [qud, quh]
   refine ⟨_, _, _, _, _, _, _, _, _, _, _, _, _, rfl, ?_⟩
   refine qtB (u := uNm) rfl (hNm [97] [98] [] false 0) w6 fun k7 k8 w7 h7 h8 hb7 => ?_
   have T7 := T6.below hb7
   refine ⟨_, _, _, _, _, _, _, _, _, _, _, zo _ h8, ?_⟩
   refine callK (jv he2 T7 (u := url0) rfl (by decide) (by decide) _ ho 0) ?_
   rintro _ w8 ⟨rfl, hb8⟩
   rw [nm_1]
   refine ⟨_, _, rfl, ?_⟩
   have T8 := T7.below hb8
   refine qS.new (zs := cky0.cells) (cs := cky0.cells) rfl rfl (Cky.one _) w8 fun k9 w9 hk9 h9 hb9 => ?_
   have T9 := T8.below hb9
   have h79 := (h7.below hb8).below hb9
   have h89 := (h8.below hb8).below hb9
   refine ⟨_, qas.load0 h79 rfl, ?_⟩
   refine callK (jv he2 T9 (u := uNm) rfl (by decide) (by decide) hdr0 qeO 0) ?_
   rintro _ w10 ⟨rfl, hb10⟩
   rw [nm_2]
   refine ⟨_, _, rfl, ?_⟩
   have T10 := T9.below hb10
   refine qS.new (zs := cky0.cells) (cs := cky0.cells) rfl rfl (Cky.one _) w10 fun k11 w11 hk11 h11 hb11 => ?_
   have T11 := T10.below hb11
   have h711 := (h79.below hb10).below hb11
   have h811 := (h89.below hb10).below hb11
   refine ⟨_, qas.load0 h711 rfl, _, _, _, _, _, _, _, _, _, _, _, zo _ h811, ?_⟩
   refine callK (jv he2 T11 (u := uNm) rfl (by decide) (by decide) _ ho (-1)) ?_
   rintro _ w12 ⟨rfl, hb12⟩
   rw [nm_3 hr]
   refine ⟨_, _, rfl, ?_⟩
   have T12 := T11.below hb12
   refine qS.new (zs := cky0.cells) (cs := cky0.cells) rfl rfl (Cky.one _) w12 fun k13 w13 hk13 h13 hb13 => ?_
   have T13 := T12.below hb13
   exact BCase.yes rfl (BCase.yes rfl ⟨rfl, qb hB2 T13.hb hB2.size⟩)
end Go.Proofs.YtndbpedpdbjkpaaGreatDoor
