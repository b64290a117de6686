/- What the laws lean on: AdmE; what is used. Its conditions: none. -/
import Derived.Test.YtndbpedpdbjkpaaGreatDoorKH
open Go.IntKind (i64)
open Go.Proofs.Tryz (prog)
set_option linter.unusedVariables false
set_option linter.unusedSimpArgs false
set_option maxRecDepth 20000
namespace Go.Pk
open Go.RowKit (Below)
def uAl : Url := ⟨true, ⟨1, [120, 46, 99, 111, 109], ad0⟩, 443, [47]⟩
def hAl : Hdr := ⟨[95, 95, 72, 111, 115, 116, 45, 97], [98], [], [47], false, 0, false, 0, true, false, 0⟩
def gAl : Hdr := ⟨[95, 95, 72, 111, 115, 116, 45, 97], [98], [120, 46, 99, 111, 109], [47], false, 0, false, 0, true, false, 0⟩
def cAl : Cky := ⟨[95, 95, 72, 111, 115, 116, 45, 97], [98], ⟨1, [120, 46, 99, 111, 109], ad0⟩, true, [47], true, false, 0, 9223372036854775807, 5, 5, 0⟩
theorem quN : urlV [104, 116, 116, 112, 115, 58, 47, 47, 120, 46, 99, 111, 109] = (uAl, 0) := by kernel_rfl
theorem qtO : qM [95, 95, 72, 111, 115, 116, 45, 97, 61, 98, 59, 32, 83, 101, 99, 117, 114, 101, 59, 32, 80, 97, 116, 104, 61, 47] = (hAl, 0) := by kernel_rfl
theorem qtL : qM [95, 95, 72, 111, 115, 116, 45, 97, 61, 98, 59, 32, 83, 101, 99, 117, 114, 101, 59, 32, 80, 97, 116, 104, 61, 47, 59, 32, 68, 111, 109, 97, 105, 110, 61, 120, 46, 99, 111, 109] = (gAl, 0) := by kernel_rfl
theorem quW : uRight uAl = true := by kernel_rfl
theorem qnT {u : Url} {h : Hdr} {now : Int} (hu : uRight u = true) (hh : qaT h = true) (h0 : 0 <= now) (h1 : now <= 1099511627776) : givV u h now = 0 := by
 unfold givV; rw [hu, hh, if_neg (by decide), if_neg (by decide), if_neg (by omega), if_neg (by omega)]
theorem qtG {rs : List Rul} {u : Url} {h : Hdr} {now : Int} {c : Cky} (hg : givV u h now = 0) (he : errV u h (domV rs u.host h.domain) = 0) (hc : ckyV u h (domV rs u.host h.domain) now = c) : takV rs u h now = (c, 0) := by
 unfold takV; rw [hg, if_neg (by decide), he, if_neg (by decide), hc]
theorem qin {rs : List Rul} {u : Url} {h : Hdr} {now : Int} {e : Int} (hg : givV u h now = 0) (he : errV u h (domV rs u.host h.domain) = e) (hne : e ≠ 0) : takV rs u h now = (cky0, e) := by
 unfold takV; rw [hg, if_neg (by decide), he, if_pos hne]
theorem quZ : takV [] uAl hAl 5 = (cAl, 0) := qtG (qnT quW (right_of_good (parse_good qtO)) (by decide) (by decide)) (by kernel_rfl) (by kernel_rfl)
theorem qu9 : takV [] uAl gAl 5 = (cky0, 106) := qin (qnT quW (right_of_good (parse_good qtL)) (by decide) (by decide)) (by kernel_rfl) (by decide)
end Go.Pk
namespace Go.Proofs.YtndbpedpdbjkpaaGreatDoor
open Go.Pk
open Go.RowKit (Below)
theorem qsl (w : World) : (Instr.build qa #[(0, .string (mkS [95, 95, 72, 111, 115, 116, 45, 97])), (1, .string (mkS [98])), (2, uAl.host.v), (3, .bool true), (4, .string (mkS [47])), (5, .bool true), (8, .int .i64 (9223372036854775807 : Int)), (9, .int .i64 (5 : Int)), (10, .int .i64 (5 : Int))]).run prog w = .ok cAl.v w := by kernel_rfl
theorem qb0 (w : World) (he : Env w) : Calls prog zT #[] w (Ret (Says w)) := by
 apply qhn
 unfold qeh
 refine callK (qbh (Sl.nil tRul w AllB none 0 (Nat.zero_le _)) (by decide) (fun r hr => by cases hr) he) ?_
 rintro _ w1 ⟨kt, km, a, n, c, ps, kvs, es, rfl, T⟩
 have T : qbF w qq qt kt km a n c ps kvs es [] w1 := T
 refine ⟨_, rfl, ?_⟩
 refine callK (qaC _ _ (by decide) (by decide) w1) ?_
 rintro _ w2 ⟨rfl, hb2⟩
 have T2 := T.below hb2
 rw [quN, qtO]
 refine ⟨_, _, _, _, _, _, _, _, _, _, _, _, _, rfl, ?_⟩
 intro k2 w3 hk2 hw3
 have hb3 := (hw3 ▸ qf w2 _ : Below w2.heap.size w2 w3)
 have h3 : qm w3 k2 qg url0.cells := qm.new hk2 hw3
 intro k3 w4 hk3 hw4
 have hb4 := (hw4 ▸ qf w3 _ : Below w3.heap.size w3 w4)
 have h4 : qm w4 k3 qd hdr0.cells := qm.new hk3 hw4
 have lt3 := h3.lt
 obtain ⟨w5, hs5, h35, hg5⟩ := qas.store0 (P := prog) (cs := uAl.cells) rfl (Url.one _) (h3.below hb4) rfl
 have hb24 := qb hb3 hb4 hb3.size
 have hb25 : Below w2.heap.size w2 w5 := Below.put hb24 hg5 (by omega)
 refine ⟨w5, hs5, ?_⟩
 obtain ⟨w6, hs6, h46, hg6⟩ := qbR hAl (h4.grown hg5 (qP (by omega))) rfl
 have hb26 : Below w2.heap.size w2 w6 := Below.put hb25 hg6 (by have := hb3.size; omega)
 have h36 := h35.grown hg6 (qP (by omega))
 refine ⟨w6, hs6, ?_⟩
 have T6 := T2.below hb26
 clear hb3 hb4 hb24 hb25 h3 h4 h35 hs5 hs6 hg5 hg6 hw3 hw4 hk2 hk3
 refine callK (qaC _ _ (by decide) (by decide) w6) ?_
 rintro _ w7 ⟨rfl, hb7⟩
 have T7 := T6.below hb7
 have h37 := h36.below hb7
 have h47 := h46.below hb7
 rw [quN, qtL]
 refine ⟨_, _, _, _, _, _, _, _, _, _, _, _, _, rfl, ?_⟩
 intro k5 w8 hk5 hw8
 have hb8 := (hw8 ▸ qf w7 _ : Below w7.heap.size w7 w8)
 have h8 : qm w8 k5 qg url0.cells := qm.new hk5 hw8
 intro k6 w9 hk6 hw9
 have hb9 := (hw9 ▸ qf w8 _ : Below w8.heap.size w8 w9)
 have h9 : qm w9 k6 qd hdr0.cells := qm.new hk6 hw9
 have lt8 := h8.lt
 obtain ⟨w10, hs10, h810, hg10⟩ := qas.store0 (P := prog) (cs := uAl.cells) rfl (Url.one _) (h8.below hb9) rfl
 have hb79 := qb hb8 hb9 hb8.size
 have hb710 : Below w7.heap.size w7 w10 := Below.put hb79 hg10 (by omega)
 refine ⟨w10, hs10, ?_⟩
 obtain ⟨w11, hs11, h911, hg11⟩ := qbR gAl (h9.grown hg10 (qP (by omega))) rfl
 have hb711 : Below w7.heap.size w7 w11 := Below.put hb710 hg11 (by have := hb8.size; omega)
 refine ⟨w11, hs11, ?_⟩
 have T11 := T7.below hb711
 have h311 := h37.below hb711
 have h411 := h47.below hb711
 refine ⟨_, qas.load0 h311 rfl, _, _, _, _, _, _, _, _, _, _, _, zo hAl h411, ?_⟩
 refine callK (jv he T11 (u := uAl) rfl (by decide) (by decide) hAl (qih (parse_good qtO)) 5) ?_
 rintro _ w12 ⟨rfl, hb12⟩
 rw [quZ]
 refine ⟨_, _, rfl, ?_⟩
 have T12 := T11.below hb12
 refine qS.new (zs := cky0.cells) (cs := cAl.cells) rfl rfl (Cky.one _) w12 fun k8 w13 hk8 h13 hb13 => ?_
 have T13 := T12.below hb13
 have h313 := (h311.below hb12).below hb13
 have h913 := (h911.below hb12).below hb13
 refine ⟨_, qas.load0 h313 rfl, _, _, _, _, _, _, _, _, _, _, _, zo gAl h913, ?_⟩
 refine callK (jv he T13 (u := uAl) rfl (by decide) (by decide) gAl (qih (parse_good qtL)) 5) ?_
 rintro _ w14 ⟨rfl, hb14⟩
 rw [qu9]
 refine ⟨_, _, rfl, ?_⟩
 have T14 := T13.below hb14
 refine qS.new (zs := cky0.cells) (cs := cky0.cells) rfl rfl (Cky.one _) w14 fun k10 w15 hk10 h15 hb15 => ?_
 have T15 := T14.below hb15
 have h1315 := (h13.below hb14).below hb15
 have h315 := (h313.below hb14).below hb15
 refine BCase.yes rfl ⟨_, qS.load0 h1315 rfl, rfl, _, qs.load h315 (i := 1) (us := uAl.host.cells) rfl (fun j hj => qdj (u := uAl) rfl hj), _, qsl w15, _, qqt (c := cAl) (d := cAl) rfl rfl w15, BCase.yes (qe0 rfl) ⟨rfl, T15.hb⟩⟩
end Go.Proofs.YtndbpedpdbjkpaaGreatDoor
