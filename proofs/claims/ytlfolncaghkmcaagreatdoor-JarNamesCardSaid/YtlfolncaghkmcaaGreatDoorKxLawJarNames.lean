/- What the law alone leans on: Names, V11, JarA, JlwT, V15, JlwA, JlwB; what is used. Its conditions: none. -/
import Derived.Test.YtlfolncaghkmcaaGreatDoorKJ
import Derived.Test.YtlfolncaghkmcaaGreatDoorRows
open Go.IntKind (i64)
open Go.Proofs.Tryz (prog)
namespace Go.Proofs.YtlfolncaghkmcaaGreatDoor
open Go.Pk
abbrev qmE : Nat := 3
abbrev zH : Nat := 15
end Go.Proofs.YtlfolncaghkmcaaGreatDoor
set_option linter.unusedVariables false
set_option maxRecDepth 100000
namespace Go.Proofs.YtlfolncaghkmcaaGreatDoor
open Go.Pk
open Go.RowKit (Below)
--  cracknel/jar.New
def qc7 (p0 : Option Addr) (w : World) (K : Value -> World -> Prop) : Prop :=
 (Option.isSome p0 = true) /\
 (Option.isSome p0 = true) /\
 ∃ n6, Ld qA (Option.map (fun x => x.add 0) p0) w (.int .i64 n6) /\
 K (.int .i64 n6) w
theorem qf1 (p0 : Option Addr) {w : World} {K : Value -> World -> Prop} (h : qc7 p0 w K) : Calls prog zH #[.pointer p0] w (Ret K) :=
 qm (c := qq Tryz.f15) (by kernel_rfl) Tryz.func15 (by kernel_rfl) [] [.pointer p0] (of_decide_eq_true (by kernel_rfl)) _ (by kernel_rfl) h

--  (*cracknel/jar.Jar).Cookies
end Go.Proofs.YtlfolncaghkmcaaGreatDoor
set_option linter.unusedSectionVars false
set_option linter.unusedSimpArgs false
set_option maxRecDepth 20000
namespace Go.Proofs.YtlfolncaghkmcaaGreatDoor
open Go.Pk
open Go.RowKit (Below)
section
variable {w0 : World} {pj : Nat} {F : List Nat} {rs : List Rul} {s : JS} {w : World}
theorem qlv (J : JarN w0 pj F rs s w) : Calls prog zH #[.pointer (some ⟨pj, 0, none⟩)] w (Ret fun v w' => v = .int .i64 s.now /\ w' = w) := by
 obtain ⟨p, ma, ms, kt, km, a, n, c, ps, kvs, es, rfl, J⟩ := J
 apply qf1
 unfold qc7
 exact ⟨rfl, rfl, _, J.cell.load1 un_int64 rfl (i := 0) rfl, rfl, rfl⟩
end
end Go.Proofs.YtlfolncaghkmcaaGreatDoor
namespace Go.Proofs.YtlfolncaghkmcaaGreatDoor
open Go.Pk
theorem n32 : setV [] jn1 up quV [97, 61, 49, 59, 32, 83, 101, 99, 117, 114, 101] = (jn1, 104) := by kernel_rfl
theorem n61 : jn1.now = 0 := by kernel_rfl
theorem n71 : (qcj (qcj jn1 1099511627776).1 1).2 = 122 := by kernel_rfl
end Go.Proofs.YtlfolncaghkmcaaGreatDoor
set_option maxRecDepth 100000
namespace Go.Proofs.YtlfolncaghkmcaaGreatDoor
open Go.Pk
open Go.RowKit (Below)
--  cracknel/cracknellaw12.JarNames
def qlL  (w : World) (K : Value -> World -> Prop) : Prop :=
 Calls prog qe3 #[.slice none 0 0] w fun e8 w8 => ∃ p8, e8 = .returned (.pointer p8) /\
 Calls prog qiD #[.pointer p8] w8 fun e9 w9 => ∃ p9, e9 = .returned (.pointer p9) /\
 ∃ J : FP [],
 (Calls prog qdQ #[] w9 fun e10 w10 => ∃ b10, e10 = .returned (.bool b10) /\
 BCase (!b10)
 (K (.bool false) w10)
 (BCase (Option.isNone p9)
 (K (.bool false) w10)
 (J w10))) /\
 AllJ 7 (∀ wj, J wj ->
 Calls prog qee #[.string (mkS [104, 116, 116, 112, 115, 58, 47, 47, 104, 47])] wj fun e17 w17 => ∃ v17, e17 = .returned v17 /\
 Calls prog qS #[.pointer p9, v17, .string (mkS [97, 61, 49, 59, 32, 83, 101, 99, 117, 114, 101])] w17 fun e18 w18 => ∃ n18, e18 = .returned (.int .i64 n18) /\
 Calls prog qee #[.string (mkS [104, 116, 116, 112, 58, 47, 47, 104, 47])] w18 fun e20 w20 => ∃ v20, e20 = .returned v20 /\
 Calls prog qS #[.pointer p9, v20, .string (mkS [97, 61, 50])] w20 fun e21 w21 => ∃ n21, e21 = .returned (.int .i64 n21) /\
 Calls prog z7 #[.pointer p9, .int .i64 (-1 : Int)] w21 fun e23 w23 => ∃ n23, e23 = .returned (.int .i64 n23) /\
 Calls prog qee #[.string (mkS [104, 116, 116, 112, 58, 47, 47, 104, 47])] w23 fun e25 w25 => ∃ v25, e25 = .returned v25 /\
 Calls prog qS #[.pointer p9, v25, .string (mkS [])] w25 fun e26 w26 => ∃ n26, e26 = .returned (.int .i64 n26) /\
 Calls prog qS #[.pointer p9, (.agg qgM), .string (mkS [97, 61, 49])] w26 fun e29 w29 => ∃ n29, e29 = .returned (.int .i64 n29) /\
 Calls prog qee #[.string (mkS [104, 116, 116, 112, 58, 47, 47, 104, 47])] w29 fun e31 w31 => ∃ v31, e31 = .returned v31 /\
 Calls prog qS #[.pointer p9, v31, .string (mkS [97, 61, 49, 59, 32, 83, 101, 99, 117, 114, 101])] w31 fun e32 w32 => ∃ n32, e32 = .returned (.int .i64 n32) /\
 BCase (n18 == (0 : Int))
 (BCase (n21 == (121 : Int))
 (BCase (n23 == (122 : Int))
 (BCase (n26 == (82 : Int))
 (BCase (n29 == (41 : Int))
 (BCase (n32 == (104 : Int))
 ((Option.isSome p9 = true) /\
 (Option.isSome p9 = true) /\
 Calls prog zH #[.pointer (Option.map (fun x => x.add 0) p9)] w32 fun e61 w61 => ∃ n61, e61 = .returned (.int .i64 n61) /\
 BCase (n61 == (0 : Int))
 (Calls prog z7 #[.pointer p9, .int .i64 (1099511627776 : Int)] w61 fun e66 w66 => ∃ n66, e66 = .returned (.int .i64 n66) /\
 BCase (n66 == (0 : Int))
 (Calls prog z7 #[.pointer p9, .int .i64 (1 : Int)] w66 fun e71 w71 => ∃ n71, e71 = .returned (.int .i64 n71) /\
 BCase (n71 == (122 : Int))
 ((Option.isSome p9 = true) /\
 (Option.isSome p9 = true) /\
 Calls prog zH #[.pointer (Option.map (fun x => x.add 0) p9)] w71 fun e78 w78 => ∃ n78, e78 = .returned (.int .i64 n78) /\
 K (.bool (n78 == (1099511627776 : Int))) w78)
 (K (.bool false) w71))
 (K (.bool false) w66))
 (K (.bool false) w61))
 (K (.bool false) w32))
 (K (.bool false) w32))
 (K (.bool false) w32))
 (K (.bool false) w32))
 (K (.bool false) w32))
 (K (.bool false) w32))
theorem qqv  {w : World} {K : Value -> World -> Prop} (h : qlL  w K) : Calls prog qmE #[] w (Ret K) :=
 qm (c := qq Tryz.f3) (by kernel_rfl) Tryz.func3 (by kernel_rfl) [(4, [])] [] (of_decide_eq_true (by kernel_rfl)) _ (by kernel_rfl) h

--  cracknel/cracknellaw12.JarFull
end Go.Proofs.YtlfolncaghkmcaaGreatDoor
set_option maxRecDepth 20000
namespace Go.Proofs.YtlfolncaghkmcaaGreatDoor
open Go.Pk
open Go.RowKit (Below)
section
variable {wb : World} {pj : Nat} {rs : List Rul} {s : JS} {w : World}
theorem qxI (J : JarL wb pj rs s w) {m : Nat} (ji : JI s m) (hm : m <= 1000000) (n : Int) (hn : n <= 9223372036854775807) :
   Calls prog z7 #[.pointer (some ⟨pj, 0, none⟩), .int .i64 n] w (Ret fun v w' => v = .int .i64 (qcj s n).2 /\ JarL wb pj rs (qcj s n).1 w') := by
 obtain ⟨w0, F, he, J, hb, hF⟩ := J
 refine (qkh J ji hm n hn).mono ?_
 rintro e w' ⟨v, rfl, rfl, h⟩
 exact ⟨_, rfl, rfl, JarL.step he hb hF h⟩
theorem qu7 (J : JarL wb pj rs s w) : Calls prog zH #[.pointer (some ⟨pj, 0, none⟩)] w (Ret fun v w' => v = .int .i64 s.now /\ w' = w) := by
 obtain ⟨w0, F, he, J, hb, hF⟩ := J
 exact qlv J
end
end Go.Proofs.YtlfolncaghkmcaaGreatDoor
namespace Go.Proofs.YtlfolncaghkmcaaGreatDoor
open Go.Pk
open Go.RowKit (Below)
theorem us_n : us.host.name.length <= 1000000 := of_decide_eq_true (by kernel_rfl)
theorem us_p : us.path.length <= 1000000 := of_decide_eq_true (by kernel_rfl)
theorem up_n : up.host.name.length <= 1000000 := of_decide_eq_true (by kernel_rfl)
theorem up_p : up.path.length <= 1000000 := of_decide_eq_true (by kernel_rfl)
theorem u0_n : url0.host.name.length <= 1000000 := of_decide_eq_true (by kernel_rfl)
theorem u0_p : url0.path.length <= 1000000 := of_decide_eq_true (by kernel_rfl)
theorem qrb (w : World) (he : Env w) : Calls prog qmE #[] w (Ret (Says w)) := by
 apply qqv
 unfold qlL
 refine callK (qly (wb := w) (Below.refl _ w) he (Sl.nil tRul w AllB none 0 (Nat.zero_le _)) (by decide) (fun r hr => by cases hr)) ?_
 rintro _ w2 ⟨kt, rfl, hb2, hnew⟩
 refine ⟨_, rfl, ?_⟩
 refine callK hnew ?_
 rintro _ w3 ⟨pj, rfl, J, hb3⟩
 rw [List.filter_nil] at J
 refine ⟨_, rfl, fun wj => JarL w pj [] (js0 0) wj, ?_, AllJ.of ?_ _⟩
 · obtain ⟨w0, F, _, _, hb, _⟩ := id J
   refine callK (qkg w3 (he.step hb)) ?_
   rintro _ w10 ⟨rfl, hb10⟩
   exact ⟨_, rfl, BCase.no rfl (BCase.no rfl (J.below hb10))⟩
 · intro wj Jj
   have ji1 : JI jn1 1 := jA.set us qBU _ us_p
   refine callK (qeo _ (by decide) wj) ?_
   rintro _ w17 ⟨rfl, hb17⟩
   refine ⟨_, rfl, ?_⟩
   refine callK (qrB (Jj.below hb17) jA (by decide) (u := us) qBU us_n us_p [97, 61, 49, 59, 32, 83, 101, 99, 117, 114, 101] (by decide)) ?_
   rintro _ w18 ⟨rfl, J18⟩
   refine ⟨_, rfl, ?_⟩
   have J18 : JarL w pj [] jn1 w18 := J18
   refine callK (qeo _ (by decide) w18) ?_
   rintro _ w20 ⟨rfl, hb20⟩
   refine ⟨_, rfl, ?_⟩
   refine callK (qrB (J18.below hb20) ji1 (by decide) (u := up) quV up_n up_p [97, 61, 50] (by decide)) ?_
   rw [n21]
   rintro _ w21 ⟨rfl, J21⟩
   refine ⟨_, rfl, ?_⟩
   refine callK (qxI J21 ji1 (by decide) (-1) (by decide)) ?_
   rw [n23]
   rintro _ w23 ⟨rfl, J23⟩
   refine ⟨_, rfl, ?_⟩
   refine callK (qeo _ (by decide) w23) ?_
   rintro _ w25 ⟨rfl, hb25⟩
   refine ⟨_, rfl, ?_⟩
   refine callK (qrB (J23.below hb25) ji1 (by decide) (u := up) quV up_n up_p [] (by decide)) ?_
   rw [n26]
   rintro _ w26 ⟨rfl, J26⟩
   refine ⟨_, rfl, ?_⟩
   refine callK (qrB J26 ji1 (by decide) (u := url0) qBQ u0_n u0_p [97, 61, 49] (by decide)) ?_
   rw [n29]
   rintro _ w29 ⟨rfl, J29⟩
   refine ⟨_, rfl, ?_⟩
   refine callK (qeo _ (by decide) w29) ?_
   rintro _ w31 ⟨rfl, hb31⟩
   refine ⟨_, rfl, ?_⟩
   refine callK (qrB (J29.below hb31) ji1 (by decide) (u := up) quV up_n up_p [97, 61, 49, 59, 32, 83, 101, 99, 117, 114, 101] (by decide)) ?_
   rw [n32]
   rintro _ w32 ⟨rfl, J32⟩
   refine ⟨_, rfl, BCase.yes (by rw [n18]; rfl) (BCase.yes rfl (BCase.yes rfl (BCase.yes rfl (BCase.yes rfl (BCase.yes rfl ⟨rfl, rfl, ?_⟩)))))⟩
   refine callK (qu7 J32) ?_
   rintro _ w61 ⟨rfl, hw61⟩
   rw [hw61]
   refine ⟨_, rfl, BCase.yes (by rw [n61]; rfl) ?_⟩
   refine callK (qxI J32 ji1 (by decide) 1099511627776 (by decide)) ?_
   rintro _ w66 ⟨rfl, J66⟩
   refine ⟨_, rfl, BCase.yes (by rw [n66]; rfl) ?_⟩
   refine callK (qxI J66 (ji1.tick _) (by decide) 1 (by decide)) ?_
   rintro _ w71 ⟨rfl, J71⟩
   refine ⟨_, rfl, BCase.yes (by rw [n71]; rfl) ⟨rfl, rfl, ?_⟩⟩
   refine callK (qu7 J71) ?_
   rintro _ w78 ⟨rfl, hw78⟩
   obtain ⟨w0, F, _, _, hb, _⟩ := J71
   exact ⟨_, rfl, by rw [n78]; rfl, by rw [hw78]; exact hb⟩
end Go.Proofs.YtlfolncaghkmcaaGreatDoor
