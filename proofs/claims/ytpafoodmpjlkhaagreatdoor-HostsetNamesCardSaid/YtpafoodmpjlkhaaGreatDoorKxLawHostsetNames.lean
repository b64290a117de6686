/- What the law alone leans on: Names, HosF, V34, HosK, HwM, HosL; what is used. Its conditions: none. -/
import Derived.Test.YtpafoodmpjlkhaaGreatDoorKH
import Derived.Test.YtpafoodmpjlkhaaGreatDoorRows
open Go.IntKind (i64)
open Go.Proofs.Tryz (prog)
namespace Go.Proofs.YtpafoodmpjlkhaaGreatDoor
open Go.Pk
abbrev kR : Nat := 3
abbrev cW : Nat := 18
end Go.Proofs.YtpafoodmpjlkhaaGreatDoor
set_option linter.unusedVariables false
set_option linter.unusedSimpArgs false
set_option maxRecDepth 20000
namespace Go.Proofs.YtpafoodmpjlkhaaGreatDoor
open Go.Pk
open Go.RowKit (Below)
def Ga (w : World) (v : Value) (w' : World) : Prop := v = .tuple #[daV none 0 0 none 0 0 ⟨0, 0, [], []⟩, .int .i64 151] /\ Below w.heap.size w w'
theorem sw {w : World} {p : Option Addr} {ts : List Txt} (hA : gU w p ts) (htl : ts.length <= 100000) (hm : 512 <= ts.length) : Calls prog gA #[.pointer p] w (Ret (Ga w)) := by
 apply nO
 unfold kP
 intro k2 w2 hk2 hw2
 have hb2 := (hw2 ▸ ah w _ : Below w.heap.size w w2)
 have A2 : am w2 k2 aj [.int .i64 0, .int .i64 0, .slice none 0 0, .slice none 0 0] := am.new hk2 hw2
 refine ax (ci p ts (by omega) w2 (hA.below hb2)) ?_
 rintro _ w9 ⟨rfl, rfl⟩
 refine ⟨_, rfl, af.yes (decide_eq_true (by omega)) ?_⟩
 obtain ⟨wx, s1, s2, g1⟩ := fT A2 rfl none 0 0 none 0 0 ⟨0, 0, [], []⟩
 exact ⟨wx, s1, _, _, none, 0, 0, none, 0, 0, s2, rfl, Below.put hb2 g1 (by omega)⟩
end Go.Proofs.YtpafoodmpjlkhaaGreatDoor
set_option maxRecDepth 100000
namespace Go.Proofs.YtpafoodmpjlkhaaGreatDoor
open Go.Pk
open Go.RowKit (Below)
--  cracknel/cracknellaw18.HostsetNames
def kA  (w : World) (K : Value -> World -> Prop) : Prop :=
 ∀ k13 w13, k13 = w.heap.size -> w13 = w.alloc (.cells #[.string (mkS [97])] ar) ->
 Calls prog gG #[.slice (some ⟨k13, 0, none⟩) 1 1] w13 fun e14 w14 => ∃ p14, e14 = .returned (.pointer p14) /\
 Calls prog jb #[.string (mkS [98])] w14 fun e17 w17 => ∃ v17, e17 = .returned v17 /\
 Calls prog jm #[.pointer p14, v17] w17 fun e18 w18 => ∃ n18_0_0 n18_0_1 a18_0_2 l18_0_2 c18_0_2 a18_0_3 l18_0_3 c18_0_3 n18_1, e18 = .returned (.tuple #[.agg #[.int .i64 n18_0_0, .int .i64 n18_0_1, .slice a18_0_2 l18_0_2 c18_0_2, .slice a18_0_3 l18_0_3 c18_0_3], .int .i64 n18_1]) /\
 ∀ k2 w2, k2 = w18.heap.size -> w2 = w18.alloc (.cells #[.int .i64 (0 : Int), .int .i64 (0 : Int), .slice none 0 0, .slice none 0 0] aj) ->
 ∃ wx, Sv aj (some ⟨k2, 0, none⟩) (.agg #[.int .i64 n18_0_0, .int .i64 n18_0_1, .slice a18_0_2 l18_0_2 c18_0_2, .slice a18_0_3 l18_0_3 c18_0_3]) w2 wx /\
 Calls prog fX #[.pointer p14, (.agg aL)] wx fun e24 w24 => ∃ n24_0_0 n24_0_1 a24_0_2 l24_0_2 c24_0_2 a24_0_3 l24_0_3 c24_0_3 n24_1, e24 = .returned (.tuple #[.agg #[.int .i64 n24_0_0, .int .i64 n24_0_1, .slice a24_0_2 l24_0_2 c24_0_2, .slice a24_0_3 l24_0_3 c24_0_3], .int .i64 n24_1]) /\
 ∀ k4 w4, k4 = w24.heap.size -> w4 = w24.alloc (.cells #[.int .i64 (0 : Int), .int .i64 (0 : Int), .slice none 0 0, .slice none 0 0] aj) ->
 ∃ wx_1, Sv aj (some ⟨k4, 0, none⟩) (.agg #[.int .i64 n24_0_0, .int .i64 n24_0_1, .slice a24_0_2 l24_0_2 c24_0_2, .slice a24_0_3 l24_0_3 c24_0_3]) w4 wx_1 /\
 Calls prog dI #[.pointer p14, .agg #[.int .i64 (0 : Int), .int .i64 (0 : Int), .slice none 0 0, .slice none 0 0]] wx_1 fun e30 w30 => ∃ v30_0 b30_1 n30_2, e30 = .returned (.tuple #[v30_0, .bool b30_1, .int .i64 n30_2]) /\
 ∀ k6 w6, k6 = w30.heap.size -> w6 = w30.alloc (.cells aL ae) ->
 ∃ wx_2, Sv ae (some ⟨k6, 0, none⟩) v30_0 w6 wx_2 /\
 ∀ k34 w34, k34 = wx_2.heap.size -> w34 = wx_2.alloc (.cells #[] ar) ->
 ∃ I : Nat -> FP [.one (.slice), .one (.int .i64)],
 (∃ m, I m (some ⟨k34, 0, none⟩) 0 0 (0 : Int) w34) /\
 ∀ m a9 l9 c9 n10, aE 17 (∀ wl, I m a9 l9 c9 n10 wl ->
 af (decide (n10 < (512 : Int)))
 (((26 : Int) ≠ 0) /\
 ∀ q41, q41 = (i64.wrap (Int.tdiv n10 (26 : Int))) ->
 ((26 : Int) ≠ 0) /\
 ∀ q45, q45 = (Int.tmod n10 (26 : Int)) ->
 ∀ k48 w48, k48 = wl.heap.size -> w48 = wl.alloc (.cells #[.int .u8 (IntKind.u8.wrap (i64.wrap ((97 : Int) + q41))), .int .u8 (IntKind.u8.wrap (i64.wrap ((97 : Int) + q45)))] aF) ->
 ∃ s49, (convert aV ar (.slice (some ⟨k48, 0, none⟩) 2 2)).run prog w48 = .ok (.string (mkS s49)) w48 /\
 ∀ k50 w50, k50 = w48.heap.size -> w50 = w48.alloc (.cells #[.string (mkS s49)] ar) ->
 ∃ w51 a51 l51 c51, (Builtin.append_ #[aw, aw] aw #[.slice a9 l9 c9, .slice (some ⟨k50, 0, none⟩) 1 1]).run prog w50 = .ok (.slice a51 l51 c51) w51 /\
 ∃ m' : Nat, m' < m /\ I m' a51 l51 c51 (i64.wrap (n10 + (1 : Int))) w51)
 (Calls prog gG #[.slice a9 l9 c9] wl fun e54 w54 => ∃ p54, e54 = .returned (.pointer p54) /\
 Calls prog gA #[.pointer p54] w54 fun e55 w55 => ∃ n55_0_0 n55_0_1 a55_0_2 l55_0_2 c55_0_2 a55_0_3 l55_0_3 c55_0_3 n55_1, e55 = .returned (.tuple #[.agg #[.int .i64 n55_0_0, .int .i64 n55_0_1, .slice a55_0_2 l55_0_2 c55_0_2, .slice a55_0_3 l55_0_3 c55_0_3], .int .i64 n55_1]) /\
 ∀ k11 w11, k11 = w55.heap.size -> w11 = w55.alloc (.cells #[.int .i64 (0 : Int), .int .i64 (0 : Int), .slice none 0 0, .slice none 0 0] aj) ->
 ∃ wx_3, Sv aj (some ⟨k11, 0, none⟩) (.agg #[.int .i64 n55_0_0, .int .i64 n55_0_1, .slice a55_0_2 l55_0_2 c55_0_2, .slice a55_0_3 l55_0_3 c55_0_3]) w11 wx_3 /\
 Calls prog dj #[] wx_3 fun e58 w58 => ∃ b58, e58 = .returned (.bool b58) /\
 af (cond b58 true false)
 (af (n18_1 == (181 : Int))
 (af (n24_1 == (181 : Int))
 (af (n30_2 == (151 : Int))
 (af (!b30_1)
 (af (n55_1 == (151 : Int))
 (∃ n82_0 n82_1 a82_2 l82_2 c82_2 a82_3 l82_3 c82_3, Ld aj (some ⟨k2, 0, none⟩) w58 (.agg #[.int .i64 n82_0, .int .i64 n82_1, .slice a82_2 l82_2 c82_2, .slice a82_3 l82_3 c82_3]) /\
 Calls prog cW #[.agg #[.int .i64 n82_0, .int .i64 n82_1, .slice a82_2 l82_2 c82_2, .slice a82_3 l82_3 c82_3]] w58 fun e83 w83 => ∃ b83, e83 = .returned (.bool b83) /\
 af b83
 (∃ n86_0 n86_1 a86_2 l86_2 c86_2 a86_3 l86_3 c86_3, Ld aj (some ⟨k4, 0, none⟩) w83 (.agg #[.int .i64 n86_0, .int .i64 n86_1, .slice a86_2 l86_2 c86_2, .slice a86_3 l86_3 c86_3]) /\
 Calls prog cW #[.agg #[.int .i64 n86_0, .int .i64 n86_1, .slice a86_2 l86_2 c86_2, .slice a86_3 l86_3 c86_3]] w83 fun e87 w87 => ∃ b87, e87 = .returned (.bool b87) /\
 af b87
 (∃ n90_0 n90_1 a90_2 l90_2 c90_2 a90_3 l90_3 c90_3, Ld aj (some ⟨k11, 0, none⟩) w87 (.agg #[.int .i64 n90_0, .int .i64 n90_1, .slice a90_2 l90_2 c90_2, .slice a90_3 l90_3 c90_3]) /\
 Calls prog cW #[.agg #[.int .i64 n90_0, .int .i64 n90_1, .slice a90_2 l90_2 c90_2, .slice a90_3 l90_3 c90_3]] w87 fun e91 w91 => ∃ b91, e91 = .returned (.bool b91) /\
 K (.bool b91) w91)
 (K (.bool false) w87))
 (K (.bool false) w83))
 (K (.bool false) w58))
 (K (.bool false) w58))
 (K (.bool false) w58))
 (K (.bool false) w58))
 (K (.bool false) w58))
 (K (.bool false) w58)))
theorem pq  {w : World} {K : Value -> World -> Prop} (h : kA  w K) : Calls prog kR #[] w (Ret K) :=
 au (c := ay Tryz.f3) (by kernel_rfl) Tryz.func3 (by kernel_rfl) [(16, [(9, .one (.slice)), (10, .one (.int .i64))])] [] (of_decide_eq_true (by kernel_rfl)) _ (by kernel_rfl) h

--  cracknel/cracknellaw18.HostsetTells
def jB (n0_0 : Int) (n0_1 : Int) (a0_2 : Option Addr) (l0_2 c0_2 : Nat) (a0_3 : Option Addr) (l0_3 c0_3 : Nat) (w : World) (K : Value -> World -> Prop) : Prop :=
 ∀ k1 w1, k1 = w.heap.size -> w1 = w.alloc (.cells #[.int .i64 n0_0, .int .i64 n0_1, .slice a0_2 l0_2 c0_2, .slice a0_3 l0_3 c0_3] aj) ->
 (true = true) /\
 ∃ n4, Ld az (some ⟨k1, 0, none⟩) w1 (.int .i64 n4) /\
 af (n4 == (0 : Int))
 ((true = true) /\
 ∃ n8, Ld az (some ⟨k1, 1, none⟩) w1 (.int .i64 n8) /\
 af (n8 == (0 : Int))
 ((true = true) /\
 ∃ a13 l13 c13, Ld aA (some ⟨k1, 2, none⟩) w1 (.slice a13 l13 c13) /\
 af (((l13 : Nat) : Int) == (0 : Int))
 ((true = true) /\
 ∃ a19 l19 c19, Ld aS (some ⟨k1, 3, none⟩) w1 (.slice a19 l19 c19) /\
 K (.bool (((l19 : Nat) : Int) == (0 : Int))) w1)
 (K (.bool false) w1))
 (K (.bool false) w1))
 (K (.bool false) w1)
theorem np (n0_0 : Int) (n0_1 : Int) (a0_2 : Option Addr) (l0_2 c0_2 : Nat) (a0_3 : Option Addr) (l0_3 c0_3 : Nat) {w : World} {K : Value -> World -> Prop} (h : jB n0_0 n0_1 a0_2 l0_2 c0_2 a0_3 l0_3 c0_3 w K) : Calls prog cW #[.agg #[.int .i64 n0_0, .int .i64 n0_1, .slice a0_2 l0_2 c0_2, .slice a0_3 l0_3 c0_3]] w (Ret K) :=
 au (c := ay Tryz.f18) (by kernel_rfl) Tryz.func18 (by kernel_rfl) [] [.agg #[.int .i64 n0_0, .int .i64 n0_1, .slice a0_2 l0_2 c0_2, .slice a0_3 l0_3 c0_3]] (of_decide_eq_true (by kernel_rfl)) _ (by kernel_rfl) h

--  cracknel/cracknellaw18.great
end Go.Proofs.YtpafoodmpjlkhaaGreatDoor
set_option maxRecDepth 20000
namespace Go.Proofs.YtpafoodmpjlkhaaGreatDoor
open Go.Pk
open Go.RowKit (Below)
theorem fR (w : World) : Calls prog cW #[daV none 0 0 none 0 0 ⟨0, 0, [], []⟩] w (Ret fun v w' => v = .bool true /\ Below w.heap.size w w') := by
 apply np
 unfold jB
 intro k1 w1 hk1 hw1
 have hb := (hw1 ▸ ah w _ : Below w.heap.size w w1)
 have A1 : am w1 k1 aj [.int .i64 0, .int .i64 0, .slice none 0 0, .slice none 0 0] := am.new hk1 hw1
 exact ⟨rfl, 0, A1.load1 aI rfl rfl, af.yes rfl ⟨rfl, 0, A1.load1 aI rfl rfl, af.yes rfl ⟨rfl, none, 0, 0, A1.load1 bi rfl rfl, af.yes rfl ⟨rfl, none, 0, 0, A1.load1 bg rfl rfl, rfl, hb⟩⟩⟩⟩
end Go.Proofs.YtpafoodmpjlkhaaGreatDoor
namespace Go.Pk
def ri (i : Nat) : Txt := [UInt8.ofNat (97 + i / 26), UInt8.ofNat (97 + i % 26)]
def wG (j : Nat) : List Txt := (List.range j).map ri
theorem Ed (j : Nat) : wG (j + 1) = wG j ++ [ri j] := by
 unfold wG
 rw [List.range_succ, List.map_append]; rfl
theorem wH (j : Nat) : (wG j).length = j := by simp [wG]
theorem Ec {i j : Nat} (hi : i < 512) (hj : j < 512) (e : ri i = ri j) : i = j := by
 unfold ri at e
 obtain ⟨e1, e2⟩ := List.cons.inj e
 have e2 := (List.cons.inj e2).1
 have d1 : i / 26 < 20 := Nat.div_lt_of_lt_mul (by omega)
 have d2 : j / 26 < 20 := Nat.div_lt_of_lt_mul (by omega)
 have m1 : i % 26 < 26 := Nat.mod_lt _ (by omega)
 have m2 : j % 26 < 26 := Nat.mod_lt _ (by omega)
 have a1 := congrArg UInt8.toNat e1
 have a2 := congrArg UInt8.toNat e2
 rw [UInt8.toNat_ofNat', UInt8.toNat_ofNat'] at a1 a2
 omega
theorem Ee : (wG 512).Nodup := by
 unfold wG
 rw [List.Nodup, List.pairwise_map]
 exact List.Pairwise.imp_of_mem (fun {a b} ha hb hne e => hne (Ec (List.mem_range.1 ha) (List.mem_range.1 hb) e)) List.nodup_range
theorem Dr : (ky (wG 512)).length = 512 := by
 have := gJ Ee (nS (wG 512)) fun x => qQ.symm
 rw [<- this, wH]
end Go.Pk
namespace Go.Proofs.YtpafoodmpjlkhaaGreatDoor
open Go.Pk
open Go.RowKit (Below)
theorem Jp : ky [[97]] = [[97]] := FC (rZ _) (by decide) fun x => by rw [qQ]
theorem Jn : kB [[97]] (hwn [98]) = false := by
 have e : bL (hwn [98]) = [[98]] := (m7 (L := [[98]]) (by rw [Lib.join_one]) (by simp) (by decide) (by decide) (by decide)).2
 unfold kB hwV
 rw [e]
 decide
theorem GG (ts : List Txt) : kB ts gj = false := by
 have e : bL gj = [] := by
   unfold bL
   rw [if_neg ?_]
   have h : aU gj = false := by decide +kernel
   rw [h]; simp
 unfold kB hwV
 rw [e]
 rfl
set_option maxHeartbeats 4000000 in
theorem qh (w : World) (he : Env w) : Calls prog kR #[] w (Ret fun v w' => v = .bool true /\ Below w.heap.size w w') := by
 apply pq
 unfold kA
 intro k13 w13 hk13 hw13
 have b13 := (hw13 ▸ ah w _ : Below w.heap.size w w13)
 have O13 : Ow tS ar w13 NoB (some ⟨k13, 0, none⟩) 1 1 [[97]] :=
   Ow.newF (l := [Value.string (mkS [97])]) (T := tS) (dP _) hk13 hw13 (fv (e := fun s => Value.string (mkS s)) (h1 := fun _ => rfl) (p := fun _ => True) (xs := [[97]]) (fun _ _ => trivial)) (by decide)
 refine ax (jz _ _ _ _ (by decide) w13 O13.all) ?_
 rintro _ w14 ⟨p, rfl, hA, b14⟩
 rw [Jp] at hA
 have B14 := ab b13 b14 b13.size
 refine ⟨p, rfl, ?_⟩
 refine ax (lv _ w14) ?_
 rintro _ w17 ⟨rfl, b17⟩
 have B17 := ab B14 b17 B14.size
 have hA17 := hA.below b17
 refine ⟨_, rfl, ?_⟩
 refine ax (m8 (h := hwn [98]) rfl (by decide) (he.step B17) hA17 (by decide)) ?_
 intro v w18 hS
 rw [Jn] at hS
 obtain ⟨rfl, b18⟩ := hS
 have B18 := ab B17 b18 B17.size
 refine ⟨_, _, none, 0, 0, none, 0, 0, _, rfl, ?_⟩
 intro k2 w2 hk2 hw2
 have b2 := (hw2 ▸ ah w18 _ : Below w18.heap.size w18 w2)
 have A2 : am w2 k2 aj [.int .i64 0, .int .i64 0, .slice none 0 0, .slice none 0 0] := am.new hk2 hw2
 obtain ⟨wx, s1, v1, g1⟩ := bs.store0 (P := prog) (cs := daL none 0 0 none 0 0 ⟨0, 0, [], []⟩) rfl (kJ _ _ _ _ _ _ _) A2 rfl
 have Bx := ab B18 (Below.put b2 g1 (by omega)) B18.size
 have hAx := hA17.below (ab b18 (Below.put b2 g1 (by omega)) b18.size)
 refine ⟨wx, s1, ?_⟩
 refine ax (j3 (h := gj) rfl (by decide) (he.step Bx) hAx (by decide)) ?_
 intro v w24 hS
 rw [GG] at hS
 obtain ⟨rfl, b24⟩ := hS
 have B24 := ab Bx b24 Bx.size
 refine ⟨_, _, none, 0, 0, none, 0, 0, _, rfl, ?_⟩
 intro k4 w4 hk4 hw4
 have b4 := (hw4 ▸ ah w24 _ : Below w24.heap.size w24 w4)
 have A4 : am w4 k4 aj [.int .i64 0, .int .i64 0, .slice none 0 0, .slice none 0 0] := am.new hk4 hw4
 obtain ⟨wx1, s2, v2, g2⟩ := bs.store0 (P := prog) (cs := daL none 0 0 none 0 0 ⟨0, 0, [], []⟩) rfl (kJ _ _ _ _ _ _ _) A4 rfl
 have b4x := ab b24 (Below.put b4 g2 (by omega)) b24.size
 have Bx1 := ab Bx b4x Bx.size
 refine ⟨wx1, s2, ?_⟩
 have D0 : DaS wx1 none 0 0 none 0 0 ⟨0, 0, [], []⟩ := ⟨Sl.nil _ _ _ _ _ (Nat.zero_le _), Sl.nil _ _ _ _ _ (Nat.zero_le _)⟩
 have ok0 : okD ⟨0, 0, [], []⟩ = false := by decide
 have hL := f0 (he.step Bx1) (hAx.below b4x) (by decide) (by decide) D0 (fun h1 => by rw [ff.2 h1] at ok0; cases ok0)
 refine ax hL ?_
 clear hL
 rintro v w30 ⟨b30, hv⟩
 rw [if_neg (by unfold hB; rw [ok0]; simp)] at hv
 subst hv
 have B30 := ab Bx1 b30 Bx1.size
 refine ⟨_, _, _, rfl, ?_⟩
 intro k6 w6 hk6 hw6
 have b6 := (hw6 ▸ ah w30 _ : Below w30.heap.size w30 w6)
 have A6 : am w6 k6 ae gj.cells := am.new hk6 hw6
 obtain ⟨wx2, s3, v3, g3⟩ := aB.store0 (P := prog) (cs := gj.cells) rfl (Hst.one _) A6 rfl
 have b6x := ab b30 (Below.put b6 g3 (by omega)) b30.size
 have Bx2 := ab Bx1 b6x Bx1.size
 refine ⟨wx2, s3, ?_⟩
 intro k34 w34 hk34 hw34
 have b34 := (hw34 ▸ ah wx2 _ : Below wx2.heap.size wx2 w34)
 have O34 : Ow tS ar w34 NoB (some ⟨k34, 0, none⟩) 0 0 (wG 0) := Ow.newF (l := []) (dP _) hk34 hw34 (gw.nil _ _ _) (by decide)
 refine ⟨fun M aa ll cc i W => ∃ j : Nat, j <= 512 /\ i = (j : Int) /\ M = 512 - j /\ Ow tS ar W NoB aa ll cc (wG j) /\ bD wx2.heap.size aa /\ Below wx2.heap.size wx2 W, ⟨_, 0, by omega, rfl, rfl, O34, fZ hk34, b34⟩, ?_⟩
 intro M aa ll cc i
 refine aE.of ?_ _
 rintro wl ⟨j, hj, rfl, rfl, hO, hF, hBl⟩
 refine af.of (fun h3 => ?_) (fun h3 => ?_) <;> simp only [dTx, dFx] at h3
 · have hjk : j < 512 := by omega
   have hd : j / 26 < 20 := Nat.div_lt_of_lt_mul (by omega)
   have hm : j % 26 < 26 := Nat.mod_lt _ (by omega)
   refine ⟨by decide, ?_⟩
   rintro q rfl
   refine ⟨by decide, ?_⟩
   rintro q rfl
   have e1 : i64.wrap (Int.tdiv (j : Int) 26) = ((j / 26 : Nat) : Int) := by
     rw [show Int.tdiv (j : Int) 26 = ((j / 26 : Nat) : Int) from rfl, ak (by omega) (by omega)]
   have e2 : Int.tmod (j : Int) 26 = ((j % 26 : Nat) : Int) := rfl
   rw [e1, e2]
   have e3 : ∀ x : Nat, x < 26 -> IntKind.u8.wrap (i64.wrap ((97 : Int) + (x : Int))) = (((UInt8.ofNat (97 + x)).toNat : Nat) : Int) := by
     intro x hx
     rw [ak (by omega) (by omega), jL (by omega) (by omega), r9 (by omega)]; omega
   rw [e3 _ (by omega), e3 _ hm]
   intro k48 w48 hk48 hw48
   have b48 := (hw48 ▸ ah wl _ : Below wl.heap.size wl w48)
   have R48 : gw tU8 wl NoB [Value.int .u8 (((UInt8.ofNat (97 + j / 26)).toNat : Nat) : Int), .int .u8 (((UInt8.ofNat (97 + j % 26)).toNat : Nat) : Int)] (ri j) :=
     fv (e := fun c : UInt8 => Value.int .u8 ((c.toNat : Nat) : Int)) (h1 := fun _ => rfl) (p := fun _ => True) (xs := ri j) (fun _ _ => trivial)
   have O48 : Ow tU8 aF w48 NoB (some ⟨k48, 0, none⟩) 2 2 (ri j) := Ow.newF rN hk48 hw48 R48 (by show 2 <= maxLen; decide)
   refine ⟨ri j, oU cD aC bF O48.all, ?_⟩
   intro k50 w50 hk50 hw50
   obtain ⟨w51, a', n', c', r51, o51, f51, B51⟩ := xL (ty := aw) (dP _) bh iD (by decide) (hO.below b48) hF (ab hBl b48 hBl.size) (x := ri j) hk50 hw50 (nn trivial) (cm := 1) (by rw [wH]; omega)
   refine ⟨w51, a', n', c', r51, 512 - (j + 1), by omega, j + 1, by omega, by rw [ak (by omega) (by omega)]; omega, rfl, ?_, f51, B51⟩
   rw [Ed]; exact o51
 · have hjk : j = 512 := by omega
   subst hjk
   have Bl := ab Bx2 hBl Bx2.size
   refine ax (jz _ _ _ _ (by rw [wH]; omega) wl hO.all) ?_
   rintro _ w54 ⟨p2, rfl, hA2, b54⟩
   have B54 := ab Bl b54 Bl.size
   refine ⟨p2, rfl, ?_⟩
   refine ax (sw hA2 (by rw [Dr]; omega) (by rw [Dr]; omega)) ?_
   rintro _ w55 ⟨rfl, b55⟩
   have B55 := ab B54 b55 B54.size
   refine ⟨_, _, none, 0, 0, none, 0, 0, _, rfl, ?_⟩
   intro k11 w11 hk11 hw11
   have b11 := (hw11 ▸ ah w55 _ : Below w55.heap.size w55 w11)
   have A11 : am w11 k11 aj [.int .i64 0, .int .i64 0, .slice none 0 0, .slice none 0 0] := am.new hk11 hw11
   obtain ⟨wx3, s4, v4, g4⟩ := bs.store0 (P := prog) (cs := daL none 0 0 none 0 0 ⟨0, 0, [], []⟩) rfl (kJ _ _ _ _ _ _ _) A11 rfl
   have b11x := ab (ab b54 b55 b54.size) (Below.put b11 g4 (by omega)) (by have := b54.size; have := b55.size; omega)
   have Bx3 := ab Bl b11x Bl.size
   refine ⟨wx3, s4, ?_⟩
   refine ax (lO wx3 (he.step Bx3)) ?_
   rintro _ w58 ⟨rfl, b58⟩
   have B58 := ab Bx3 b58 Bx3.size
   have b11y := ab b11x b58 b11x.size
   have hx2l := ab hBl b11y hBl.size
   have v2' := v2.below (ab b6x hx2l b6x.size)
   have v1' := (v1.below b4x).below (ab b6x hx2l b6x.size)
   have v4' := v4.below b58
   refine ⟨_, rfl, af.yes rfl (af.yes rfl (af.yes rfl (af.yes rfl (af.yes rfl (af.yes rfl ⟨_, _, none, 0, 0, none, 0, 0, bs.load0 (cs := daL none 0 0 none 0 0 ⟨0, 0, [], []⟩) v1' rfl, ?_⟩)))))⟩
   refine ax (fR w58) ?_
   rintro _ w83 ⟨rfl, b83⟩
   have B83 := ab B58 b83 B58.size
   refine ⟨_, rfl, af.yes rfl ⟨_, _, none, 0, 0, none, 0, 0, bs.load0 (cs := daL none 0 0 none 0 0 ⟨0, 0, [], []⟩) (v2'.below b83) rfl, ?_⟩⟩
   refine ax (fR w83) ?_
   rintro _ w87 ⟨rfl, b87⟩
   have B87 := ab B83 b87 B83.size
   refine ⟨_, rfl, af.yes rfl ⟨_, _, none, 0, 0, none, 0, 0, bs.load0 (cs := daL none 0 0 none 0 0 ⟨0, 0, [], []⟩) ((v4'.below b83).below b87) rfl, ?_⟩⟩
   refine ax (fR w87) ?_
   rintro _ w91 ⟨rfl, b91⟩
   exact ⟨_, rfl, rfl, ab B87 b91 B87.size⟩
end Go.Proofs.YtpafoodmpjlkhaaGreatDoor
