/- What the laws lean on: HdrE, HdrF, V2, HdrG, HdrH, DateV, DateX, HdrI, HdrJ, AdmA, AdmB, ShS, V10, ShT, ShU, ShV; what is used. Its conditions: none. -/
import Derived.Test.YtlfolncaghkmcaaGreatDoorKG
import Derived.Lib.ItoaLen
import Derived.Lib.Join
open Go.IntKind (i64)
open Go.Proofs.Tryz (prog)
set_option linter.unusedVariables false
set_option linter.unusedSimpArgs false
set_option maxRecDepth 20000
namespace Go.Proofs.YtlfolncaghkmcaaGreatDoor
open Go.Pk
open Go.RowKit (Below)
def qhP (s : List UInt8) (w : World) (v : Value) (w' : World) : Prop := v = .tuple #[(qR s).1.v, .int .i64 (qR s).2] /\ Below w.heap.size w w'
theorem qkb (s : List UInt8) : (cutC 59 [] s).length ≠ 0 /\ ∀ h : 0 < (cutC 59 [] s).length, (cutC 59 [] s)[0] = (cutC 59 [] s).headD [] := by
 have h := qcw 59 s []
 cases hc : cutC 59 [] s with
 | nil => exact absurd hc h
 | cons x l => exact ⟨by simp, fun _ => rfl⟩
theorem qc8 {w : World} {A : Bl} {a : Option Addr} {n c : Nat} {xs : List (List UInt8)} (h : Sl tS w A a n c xs) {i : Nat} (hi : i < xs.length) : (Instr.loadAt qh (.pointer (ql a (i : Int) 1))).run prog w = .ok (.string (mkS xs[i])) w := by
 obtain ⟨v, hv, hrep⟩ := h.load1 (i := (i : Int)) un_string rfl rfl (by simpa using hi)
 obtain ⟨rfl, -⟩ := qeY hrep
 simpa using hv
theorem qnt (s : List UInt8) (hs : s.length <= 2000000000) (w : World) (he : Env w) : Calls prog qjb #[.string (mkS s)] w (Ret (qhP s w)) := by
 apply qr7
 unfold qn7
 intro k2 w2 hk2 hw2
 have hB2 := (hw2 ▸ qj w _ : Below w.heap.size w w2)
 have ha2 : qk w2 k2 qi hdr0.cells := qk.new hk2 hw2
 have hk2w : w.heap.size <= k2 := by omega
 have hs2 : w2.heap.size = w.heap.size + 1 := by rw [hw2]; simp
 refine callK (qq7 s (by omega) w2) ?_
 rintro _ w3 ⟨rfl, hb3⟩
 have hB3 := qd hB2 hb3 hB2.size
 have ha3 := ha2.below hb3
 refine ⟨_, rfl, ?_⟩
 have post : ∀ {h : Hdr} {e : Int}, qR s = (h, e) -> ∀ wx, Below w.heap.size w wx -> qhP s w (.tuple #[h.v, .int .i64 e]) wx := fun hp wx hb => ⟨by rw [hp], hb⟩
 refine BCase.of (fun h1 => ?_) (fun h1 => ?_)
 · exact qfU hdr0 ha3 rfl hB3 hk2w (post (by unfold qR; rw [if_pos h1]))
 have h1' : ¬ s.any qcn = true := by rw [h1]; decide
 refine callK (qgV s 59 (by omega) w3 (he.step hB3)) ?_
 rintro _ w4 ⟨a, n, c, rfl, ho4, hf4, hb4⟩
 have hB4 := qd hB3 hb4 hB3.size
 have ha4 := ha3.below hb4
 refine ⟨_, _, _, rfl, ?_⟩
 intro k5 w5 hk5 hw5
 have hb5 := (hw5 ▸ qj w4 _ : Below w4.heap.size w4 w5)
 have hB5 := qd hB4 hb5 hB4.size
 have ha5 := ha4.below hb5
 have hh5 : qk w5 k5 qi hdr0.cells := qk.new hk5 hw5
 have ho5 := ho4.below hb5
 have hlt2 := ha4.lt
 have hne : k2 ≠ k5 := by omega
 have hk5w : w.heap.size <= k5 := by have := hB4.size; omega
 have hog : ∀ g, ownB a = some g -> g ≠ k5 := fun g hg e => by have := ho4.lt g hg; omega
 have hn := ho5.len
 obtain ⟨hl0, hhead⟩ := qkb s
 have hlens : ∀ x ∈ cutC 59 [] s, x.length <= s.length := fun x hx => by simpa using qhE 59 s [] x hx
 have hpar : qR s = if (nameOf ((cutC 59 [] s).headD [])).1 ++ (nameOf ((cutC 59 [] s).headD [])).2 = [] then (hdr0, 82)
   else if 4096 < (nameOf ((cutC 59 [] s).headD [])).1.length + (nameOf ((cutC 59 [] s).headD [])).2.length then (hdr0, 83)
   else (((cutC 59 [] s).drop 1).foldl zU { hdr0 with name := (nameOf ((cutC 59 [] s).headD [])).1, value := (nameOf ((cutC 59 [] s).headD [])).2 }, 0) := by
   unfold qR; rw [if_neg h1']
 have hcl := qbH 59 s []
 generalize cutC 59 [] s = L at *
 have hl1 : 0 < L.length := by omega
 subst hn
 have l0 := qc8 ho5.all hl1
 rw [hhead hl1] at l0
 have hx0 := hlens _ (List.getElem_mem hl1)
 rw [hhead hl1] at hx0
 generalize L.headD [] = x0 at *
 refine ⟨⟨⟨by decide, by omega⟩, ho5.all.isSome hl1⟩, x0, l0, ?_⟩
 refine callK (qoO x0 (by omega) w5 (he.step hB5)) ?_
 rintro _ w6 ⟨rfl, hb6⟩
 have hB6 := qd hB5 hb6 hB5.size
 refine ⟨_, _, _, rfl, ?_⟩
 have hp1 := qhR x0
 have hp2 := qhQ x0
 refine ⟨fun a b w' => w' = w6 /\ a = (nameOf x0).1 /\ b = (nameOf x0).2, ?_, ?_⟩
 · unfold nameOf
   cases qld x0
   · exact BCase.yes rfl ⟨rfl, rfl, rfl⟩
   · exact BCase.no rfl ⟨rfl, rfl, rfl⟩
 intro nm vl
 refine AllJ.of ?_ _
 rintro w6' ⟨hw6, hnm, hvl⟩
 subst hw6
 have hnl : nm.length <= s.length /\ vl.length <= s.length := by
   rw [hnm, hvl]; unfold nameOf
   split
   · exact ⟨by simp only; omega, by simp only; omega⟩
   · exact ⟨by simp, by simp only; omega⟩
 rw [<- hnm, <- hvl] at hpar
 refine ⟨fits (by omega), ?_⟩
 rintro _ rfl
 have ha6 := ha5.below hb6
 have hh6 := hh5.below hb6
 have ho6 := ho5.below hb6
 refine BCase.of (fun h2 => ?_) (fun h2 => ?_)
 · rw [beq_iff_eq] at h2
   rw [if_pos h2] at hpar
   exact qfU hdr0 ha6 rfl hB6 hk2w (post hpar)
 rw [beq_eq_false_iff_ne] at h2
 rw [if_neg h2] at hpar
 rw [wrap_i64 (by omega) (by omega)]
 refine BCase.of (fun h3 => ?_) (fun h3 => ?_) <;> simp only [gt_iff_lt, dTx, dFx] at h3
 · rw [if_pos (by omega)] at hpar
   exact qfU hdr0 ha6 rfl hB6 hk2w (post hpar)
 rw [if_neg (by omega)] at hpar
 refine ⟨rfl, ?_⟩
 obtain ⟨w7, hs7, hh7, hg7⟩ := hh6.put (P := prog) ze (i := 0) (v := .string (mkS nm)) (by simp [Hdr.cells]) rfl rfl
 refine ⟨w7, hs7, rfl, ?_⟩
 obtain ⟨w8, hs8, hh8, hg8⟩ := hh7.put (P := prog) ze (i := 1) (v := .string (mkS vl)) (by simp [Hdr.cells]) rfl rfl
 have hgg := jW hg7 hg8
 have hh8' : qk w8 k5 qi ({ hdr0 with name := nm, value := vl } : Hdr).cells := hh8
 have hk5r : ∀ x, some k5 = some x -> w.heap.size <= x := fun x e => by cases e; exact hk5w
 refine ⟨w8, hs8, ⟨by decide, by omega⟩, ?_⟩
 have keepO : ∀ {u u' : World}, Ow tS qh u NoB a L.length c L -> u.grownBy u' (some k5) -> Ow tS qh u' NoB a L.length c L := fun ho hg => ho.keep (qbI hg fun b hb e => by
   rcases hb with hb | hb
   · exact hb
   · exact hog b hb.symm (Option.some.inj e))
 have e1 : Int.toNat (1 : Int) = 1 := rfl
 rw [e1]
 refine ⟨fun m i w' => ∃ j : Nat, j <= (L.drop 1).length /\ i = (j : Int) /\ m = (L.drop 1).length - j /\ qk w' k5 qi (((L.drop 1).take j).foldl zU { hdr0 with name := nm, value := vl }).cells /\
     qk w' k2 qi hdr0.cells /\ Ow tS qh w' NoB a L.length c L /\ Below w.heap.size w w',
   ⟨_, 0, by omega, rfl, rfl, hh8', ha6.grown hgg (fun e => hne (Option.some.inj e)), keepO ho6 hgg, hB6.grown hgg hB6.size hk5r⟩, ?_⟩
 intro m i
 refine AllJ.of ?_ _
 rintro w9 ⟨j, hj, rfl, rfl, hh9, ha9, ho9, hB9⟩
 have hdl : (L.drop 1).length = L.length - 1 := List.length_drop ..
 refine BCase.of (fun h4 => ?_) (fun h4 => ?_) <;> simp only [dTx, dFx] at h4
 · have hjl : j < (L.drop 1).length := by omega
   have hsl := ho9.all.from 1 hl1 (k := 1) rfl
   have ew : i64.wrap ((j : Int) + 1) = ((j + 1 : Nat) : Int) := by rw [wrap_i64 (by omega) (by omega)]; omega
   rw [ew]
   have hnext : ((L.drop 1).take (j + 1)).foldl zU { hdr0 with name := nm, value := vl } = zU (((L.drop 1).take j).foldl zU { hdr0 with name := nm, value := vl }) (L.drop 1)[j] := by
     rw [List.take_succ_eq_append_getElem hjl, List.foldl_append]; rfl
   have hxl := hlens _ (List.mem_of_mem_drop (List.getElem_mem hjl))
   refine ⟨⟨⟨by omega, h4⟩, hsl.isSome hjl⟩, _, qc8 hsl hjl, ?_⟩
   generalize (L.drop 1)[j] = x at *
   generalize ((L.drop 1).take j).foldl zU { hdr0 with name := nm, value := vl } = H at *
   have hq1 := qhR x
   have hq2 := qhQ x
   refine callK (qoO x (by omega) w9 (he.step hB9)) ?_
   rintro _ w10 ⟨rfl, hb10⟩
   have hB10 := qd hB9 hb10 hB9.size
   refine ⟨_, _, _, rfl, ?_⟩
   refine BCase.of (fun h5 => ?_) (fun h5 => ?_) <;> simp only [dTx, dFx] at h5
   · refine callK (octet_Lower_ok _ (by omega) w10) ?_
     rintro _ w11 ⟨rfl, hb11⟩
     have hB11 := qd hB10 hb11 hB10.size
     refine ⟨_, rfl, ?_⟩
     refine callK (qpz k5 H _ (jg x) (by omega) w11 ((hh9.below hb10).below hb11)) ?_
     rintro _ w12 ⟨rfl, hh12, hg12⟩
     refine ⟨rfl, (L.drop 1).length - (j + 1), by omega, j + 1, by omega, rfl, rfl, ?_, ((ha9.below hb10).below hb11).grown hg12 (fun e => hne (Option.some.inj e)), keepO ((ho9.below hb10).below hb11) hg12, hB11.grown hg12 hB11.size hk5r⟩
     rw [hnext]; unfold zU
     rw [if_pos (by omega)]; exact hh12
   · refine ⟨(L.drop 1).length - (j + 1), by omega, j + 1, by omega, rfl, rfl, ?_, ha9.below hb10, ho9.below hb10, hB10⟩
     rw [hnext]; unfold zU
     rw [if_neg (by omega)]; exact hh9.below hb10
 · have : j = (L.drop 1).length := by omega
   subst this
   rw [List.take_length] at hh9
   refine ⟨_, _, _, _, _, _, _, _, _, _, _, qaK _ hh9, ?_⟩
   exact qfU _ ha9 rfl hB9 hk2w (post hpar)
end Go.Proofs.YtlfolncaghkmcaaGreatDoor
namespace Go.Pk
open Go.RowKit (Below)
abbrev kE : List UInt8 := [101, 120, 112, 105, 114, 101, 115]
abbrev kA : List UInt8 := [109, 97, 120, 45, 97, 103, 101]
abbrev kD : List UInt8 := [100, 111, 109, 97, 105, 110]
abbrev kP : List UInt8 := [112, 97, 116, 104]
abbrev kS : List UInt8 := [115, 101, 99, 117, 114, 101]
abbrev kH : List UInt8 := [104, 116, 116, 112, 111, 110, 108, 121]
abbrev kM : List UInt8 := [115, 97, 109, 101, 115, 105, 116, 101]
def a1 (key v : List UInt8) (h : Hdr) : Hdr := if key = kE then (if qjw (qf2 v) then { h with hasE := true, exp := qgh (qf2 v) } else h) else h
def a2 (key v : List UInt8) (h : Hdr) : Hdr := if key = kA then (match ageV v with | some n => { h with hasA := true, age := n } | none => h) else h
def a3 (key v : List UInt8) (h : Hdr) : Hdr := if key = kD then { h with domain := lowL (if v.head? = some 46 then v.drop 1 else v) } else h
def a4 (key v : List UInt8) (h : Hdr) : Hdr := if key = kP then { h with path := if v.head? = some 47 then v else [] } else h
def a5 (key : List UInt8) (h : Hdr) : Hdr := if key = kS then { h with sec := true } else h
def a6 (key : List UInt8) (h : Hdr) : Hdr := if key = kH then { h with http := true } else h
def a7 (key v : List UInt8) (h : Hdr) : Hdr := if key = kM then { h with same := qpQ v } else h
end Go.Pk

set_option maxRecDepth 100000
namespace Go.Proofs.YtlfolncaghkmcaaGreatDoor
open Go.Pk
open Go.RowKit (Below)
--  strconv.FormatInt
def qjE (n0 : Int) (n1 : Int) (w : World) (K : Value -> World -> Prop) : Prop :=
 Calls prog qjJ #[.int .i64 n0, .int .i64 n1] w fun e7 w7 => ∃ s7, e7 = .returned (.string (mkS s7)) /\
 K (.string (mkS s7)) w7
theorem qnR (n0 : Int) (n1 : Int) {w : World} {K : Value -> World -> Prop} (h : qjE n0 n1 w K) : Calls prog qem #[.int .i64 n0, .int .i64 n1] w (Ret K) :=
 qm (c := qq Tryz.f242) (by kernel_rfl) Tryz.func242 (by kernel_rfl) [] [.int .i64 n0, .int .i64 n1] (of_decide_eq_true (by kernel_rfl)) _ (by kernel_rfl) h
end Go.Proofs.YtlfolncaghkmcaaGreatDoor
set_option maxRecDepth 20000
namespace Go.Pk
open Go.RowKit (Below)
def dotV (s : List UInt8) : List UInt8 := if zo s = s /\ s.head? ≠ some 46 then s else 46 :: s
def pE : List UInt8 := [69, 120, 112, 105, 114, 101, 115, 61]
def pA : List UInt8 := [77, 97, 120, 45, 65, 103, 101, 61]
def pD : List UInt8 := [68, 111, 109, 97, 105, 110, 61]
def pP : List UInt8 := [80, 97, 116, 104, 61]
def pS : List UInt8 := [83, 101, 99, 117, 114, 101]
def pH : List UInt8 := [72, 116, 116, 112, 79, 110, 108, 121]
def pM : List UInt8 := [83, 97, 109, 101, 83, 105, 116, 101, 61]
def opt (b : Bool) (x : List UInt8) : List (List UInt8) := if b then [x] else []
noncomputable def wparts (h : Hdr) : List (List UInt8) :=
 [h.name ++ [61] ++ h.value] ++ opt h.hasE (pE ++ qdm h.exp) ++ opt h.hasA (pA ++ Lib.itoa h.age) ++ opt (!(h.domain == [])) (pD ++ dotV h.domain) ++ opt (!(h.path == [])) (pP ++ h.path) ++ opt h.sec pS ++ opt h.http pH ++
   opt (decide (0 < h.same) && decide (h.same <= 3)) (pM ++ nmL[h.same.toNat]?.getD [])
noncomputable def zM (h : Hdr) : List UInt8 := Lib.join (wparts h) [59, 32]
structure qm1 (h : Hdr) : Prop where
 name : h.name.length <= 20000
 value : h.value.length <= 20000
 domain : h.domain.length <= 20000
 path : h.path.length <= 20000
 exp : -9223372036854775808 <= h.exp /\ h.exp <= 9223372036854775807
 age : -9223372036854775808 <= h.age /\ h.age <= 9223372036854775807
theorem qvH (s : List UInt8) : (dotV s).length <= s.length + 1 := by unfold dotV; split <;> simp
theorem qhY (t : Int) : (qdm t).length <= 29 := by
 by_cases hr : t / 86400 < -134774 \/ 2932896 < t / 86400
 · rw [qjW hr]; simp
 · obtain ⟨y, m, d, hd, he⟩ := qu0 (n := t / 86400) (by omega) (by omega)
   rw [qmz hd he]
   have h1 : ∀ k : Nat, k < 7 -> (qhC (k : Int)).length = 3 := by decide
   have h2 : ∀ k : Nat, k < 12 -> (monN ((k : Int) + 1)).length = 3 := by decide
   have e1 := h1 (t / 86400 % 7).toNat (by omega)
   have e2 := h2 (m - 1).toNat (by have := hd.2.2.1; have := hd.2.2.2.1; omega)
   rw [show (((t / 86400 % 7).toNat : Nat) : Int) = t / 86400 % 7 by omega] at e1
   rw [show (((m - 1).toNat : Nat) : Int) + 1 = m by have := hd.2.2.1; omega] at e2
   unfold qkN qg0
   simp only [List.length_append, qC, e1, e2, List.length_cons, List.length_nil]
   omega
def qpy (h g : Hdr) : Bool := (h.name == g.name) && ((h.value == g.value) && ((h.domain == g.domain) && ((h.path == g.path) && ((h.hasE == g.hasE) && ((h.exp == g.exp) && ((h.hasA == g.hasA) && ((h.age == g.age) && ((h.sec == g.sec) && ((h.http == g.http) && ((h.same == g.same) && true))))))))))
structure Accu (w0 : World) (tl ts th : TypeId) (k1 k3 : Nat) (h : Hdr) (xs : List (List UInt8)) (w : World) : Prop where
 slot : ∃ a l c, qk w k3 tl [.slice a l c] /\ Ow tS ts w NoB a l c xs /\ zq w0.heap.size a /\ ∀ g, ownB a = some g -> g ≠ k3 /\ g ≠ k1
 hdr : qk w k1 th h.cells
 hb : Below w0.heap.size w0 w
 hk1 : w0.heap.size <= k1
 hk3 : w0.heap.size <= k3
 hne : k1 ≠ k3
theorem Accu.below {w0 : World} {tl ts th : TypeId} {k1 k3 : Nat} {h : Hdr} {xs : List (List UInt8)} {w w' : World} (S : Accu w0 tl ts th k1 k3 h xs w) (hb : Below w.heap.size w w') : Accu w0 tl ts th k1 k3 h xs w' := by
 obtain ⟨a, l, c, h1, h2, h3, h4⟩ := S.slot
 exact ⟨⟨a, l, c, h1.below hb, h2.below hb, h3, h4⟩, S.hdr.below hb, qd S.hb hb S.hb.size, S.hk1, S.hk3, S.hne⟩
theorem Accu.get {P : Program} {u : TypeId} {d : TypeDesc} (hu : P.underlying u = some d) (ha : aggD d = false) {w0 : World} {tl ts th : TypeId} {k1 k3 : Nat} {h : Hdr} {xs : List (List UInt8)} {w : World} (S : Accu w0 tl ts th k1 k3 h xs w)
   {i : Nat} {v : Value} (hv : h.cells[i]? = some v) : (Instr.loadAt u (.pointer (some ⟨k1, i, none⟩))).run P w = .ok v w := S.hdr.load1 hu ha hv
end Go.Pk
namespace Go.Proofs.YtlfolncaghkmcaaGreatDoor
open Go.Pk
open Go.RowKit (Below)
abbrev AccH (w0 : World) (k1 k3 : Nat) (h : Hdr) (xs : List (List UInt8)) (w : World) : Prop := Accu w0 qV qh qi k1 k3 h xs w
theorem header_c1_ok {w0 : World} {k1 k3 : Nat} {h : Hdr} {xs : List (List UInt8)} {w : World} (S : AccH w0 k1 k3 h xs w) (hx : xs.length <= 1000) (b : Bool) (s : List UInt8) :
   Calls prog zp #[.bool b, .string (mkS s), .pointer (some ⟨k3, 0, none⟩)] w (Ret fun v w' => v = .tuple #[] /\ AccH w0 k1 k3 h (xs ++ opt b s) w') := by
 apply qnO
 unfold qjC
 refine BCase.of (fun hb => ?_) (fun hb => ?_)
 · subst hb
   obtain ⟨a, l, c, h1, h2, h3, h4⟩ := S.slot
   refine ⟨a, l, c, h1.load1 qc6 rfl rfl, ?_⟩
   intro k8 w8 hk8 hw8
   have hB8 := (hw8 ▸ qj w _ : Below w.heap.size w w8)
   have hsrc : Src tS w8 NoB (some ⟨k8, 0, none⟩) 1 [s] := Src.new1F (qaS _) hk8 hw8 (qgz trivial)
   obtain ⟨w9, a9, l9, c9, hr, ho9, hg9, hf9⟩ := qdb (ty := qV) qc6 ze (by decide) (h2.below hB8) (fun _ _ h => h) (cm := 1) hsrc (by simp; omega)
   have hlt1 := S.hdr.lt
   have hlt3 := h1.lt
   have h1' := (h1.below hB8).grown hg9 (fun e => (h4 k3 e.symm).1 rfl)
   have hh' := (S.hdr.below hB8).grown hg9 (fun e => (h4 k1 e.symm).2 rfl)
   have hbb := qd S.hb hB8 S.hb.size
   have h49 : ∀ g, ownB a9 = some g -> g ≠ k3 /\ g ≠ k1 := fun g hg => by
     rcases hf9 g hg with e | e
     · exact h4 g e
     · have := hB8.size; exact ⟨by omega, by omega⟩
   refine ⟨w9, a9, l9, c9, hr, ?_⟩
   obtain ⟨wx, hsx, hax, hgx⟩ := h1'.put (P := prog) qrG (i := 0) (v := .slice a9 l9 c9) (by simp) rfl rfl
   refine ⟨wx, hsx, rfl, ⟨a9, l9, c9, hax, ho9.keep (qbI hgx fun g hg e => ?_), ?_, h49⟩, hh'.grown hgx (fun e => S.hne (Option.some.inj e)), (hbb.grown hg9 hbb.size h3).grown hgx ?_ ?_, S.hk1, S.hk3, S.hne⟩
   · rcases hg with hg | hg
     · exact hg
     · exact (h49 g hg.symm).1 (Option.some.inj e)
   · exact h3.app hbb.size hf9
   · exact (hbb.grown hg9 hbb.size h3).size
   · intro x e; cases e; exact S.hk3
 · subst hb
   refine ⟨rfl, ?_⟩
   show AccH w0 k1 k3 h (xs ++ []) w
   rw [List.append_nil]; exact S
theorem header_dotted_ok (s : List UInt8) (hs : s.length <= 1000000) (w : World) : Calls prog qhc #[.string (mkS s)] w (Ret fun v w' => v = .string (mkS (dotV s)) /\ Below w.heap.size w w') := by
 apply qrf
 unfold qmK
 refine callK (qjO s (by omega) w) ?_
 rintro _ w1 ⟨rfl, hb⟩
 refine ⟨_, rfl, ?_⟩
 refine BCase.of (fun h => ?_) (fun h => ?_)
 · refine ⟨fits (by simp; omega), ?_⟩
   rintro _ rfl
   refine ⟨?_, hb⟩
   unfold dotV
   rw [if_neg (fun hc => by rw [hc.1] at h; simp at h)]; rfl
 · have ht : zo s = s := by simpa using h
   refine (Tryz.strings_HasPrefix (mkS s) (mkS [46]) w1).mono ?_
   rintro _ _ ⟨rfl, rfl⟩
   have e : Lib.hasPrefix (mkS s).data.toList (mkS [46]).data.toList = decide (s.head? = some 46) := (qkW s 46).1
   rw [e]
   refine ⟨_, rfl, ?_⟩
   refine BCase.of (fun h2 => ?_) (fun h2 => ?_) <;> simp only [dTx, dFx] at h2
   · refine ⟨fits (by simp; omega), ?_⟩
     rintro _ rfl
     refine ⟨?_, hb⟩
     unfold dotV
     rw [if_neg (fun hc => hc.2 h2)]; rfl
   · refine ⟨?_, hb⟩
     unfold dotV
     rw [if_pos ⟨ht, h2⟩]
theorem format10_ok (n : Int) (h0 : -9223372036854775808 <= n) (h1 : n <= 9223372036854775807) (w : World) (ht : qpW prog w) : Calls prog qem #[.int .i64 n, .int .i64 10] w (Ret fun v w' => v = .string (mkS (Lib.itoa n)) /\ Below w.heap.size w w') := by
 apply qnR
 unfold qjE
 refine (Tryz.internal_strconv_FormatInt_10 n h0 h1 w ht).mono ?_
 rintro _ _ ⟨rfl, k, os, rfl⟩
 exact ⟨Lib.itoa n, rfl, rfl, qpm w k os⟩
theorem qs2 (xs : List (List UInt8)) {w0 : World} {k1 k3 : Nat} {h : Hdr} {w : World} (S : AccH w0 k1 k3 h xs w) (hx : xs.length <= 1000) (hl : (Lib.join xs [59, 32]).length <= 1000000) (K : Value -> World -> Prop) (hK : ∀ w', Below w0.heap.size w0 w' -> K (.string (mkS (Lib.join xs [59, 32]))) w') :
   ∃ (a : Option Addr) (l c : Nat), (Instr.loadAt qV (.pointer (some ⟨k3, 0, none⟩))).run prog w = .ok (.slice a l c) w /\
     Calls prog qct #[.slice a l c, .string (mkS [59, 32])] w fun e w' => ∃ (s : List UInt8), e = .returned (.string (mkS s)) /\ K (.string (mkS s)) w' := by
 obtain ⟨a, l, c, h1, h2, _, _⟩ := S.slot
 refine ⟨a, l, c, h1.load1 qc6 rfl rfl, ?_⟩
 obtain ⟨hn, hnc, hcm, h4⟩ := h2.all
 subst hn
 rcases h4 with h4 | ⟨b, off, rfl, hbl, _, cs, hcs, hcell⟩
 · subst h4
   refine (Tryz.strings_Join_none a c (mkS [59, 32]) w).mono ?_
   rintro _ _ ⟨rfl, rfl⟩
   exact ⟨[], rfl, hK _ S.hb⟩
 · have he := qh2 hcs
   have hj := Tryz.strings_Join b off c (xs.map mkS) (mkS [59, 32]) w (fun j x hx => by
     rw [List.getElem?_map] at hx
     cases hxj : xs[j]? with
     | none => rw [hxj] at hx; cases hx
     | some y =>
       rw [hxj] at hx
       cases hx
       have hjl := (List.getElem?_eq_some_iff.1 hxj).1
       rw [hcell j (by rw [he]; simpa using hjl), he, List.getElem?_map, hxj]; rfl) hbl (by rw [List.length_map]; omega) (by rw [List.length_map]; exact hnc) (by
       have e : (xs.map mkS).map (fun s => s.data.toList) = xs := by rw [List.map_map]; exact List.map_id xs
       rw [e]; show (Lib.join xs [59, 32]).length <= _; omega)
   rw [List.length_map] at hj
   refine hj.mono ?_
   rintro _ w' ⟨rfl, hb'⟩
   have e : (xs.map mkS).map (fun s => s.data.toList) = xs := by rw [List.map_map]; exact List.map_id xs
   rw [e]
   exact ⟨_, rfl, hK _ (qd S.hb hb' S.hb.size)⟩
theorem qBv (xs : List (List UInt8)) (M : Nat) (h : ∀ x ∈ xs, x.length <= M) : (Lib.join xs [59, 32]).length <= xs.length * (M + 2) := by
 cases xs with
 | nil => simp [Lib.join_nil]
 | cons x r =>
   rw [Lib.join_cons]
   have : ∀ r : List (List UInt8), (∀ x ∈ r, x.length <= M) -> (Lib.joinTail [59, 32] r).length <= r.length * (M + 2) := by
     intro r
     induction r with
     | nil => intro _; simp [Lib.joinTail]
     | cons y r ih =>
       intro hr
       have h1 := ih fun x hx => hr x (List.mem_cons_of_mem _ hx)
       have h2 := hr y List.mem_cons_self
       have e : Lib.joinTail [59, 32] (y :: r) = [59, 32] ++ y ++ Lib.joinTail [59, 32] r := by simp [Lib.joinTail]
       rw [e]
       simp only [List.length_append, List.length_cons, List.length_nil, Nat.add_mul]; omega
   have h1 := this r fun y hy => h y (List.mem_cons_of_mem _ hy)
   have h2 := h x List.mem_cons_self
   simp only [List.length_append, List.length_cons, Nat.add_mul]; omega
theorem qAK (b : Bool) (x : List UInt8) : (opt b x).length <= 1 := by unfold opt; split <;> simp
theorem qpF {b : Bool} {x y : List UInt8} (h : y ∈ opt b x) : y = x := by unfold opt at h; split at h <;> simp_all
theorem wlen (h : Hdr) (ho : qm1 h) : (Lib.join (wparts h) [59, 32]).length <= 1000000 := by
 have hl1 := ho.name; have hl2 := ho.value; have hl3 := ho.domain; have hl4 := ho.path
 have tl := qhY h.exp
 have il := Lib.itoa_length_le h.age ho.age.1 ho.age.2
 have dl := qvH h.domain
 have ol := qAK
 have h1 : (wparts h).length <= 8 := by
   unfold wparts
   simp only [List.length_append]
   exact Nat.add_le_add (Nat.add_le_add (Nat.add_le_add (Nat.add_le_add (Nat.add_le_add (Nat.add_le_add (Nat.add_le_add (Nat.le_refl 1) (ol _ _)) (ol _ _)) (ol _ _)) (ol _ _)) (ol _ _)) (ol _ _)) (ol _ _)
 have h2 := qBv (wparts h) 41000 fun x hx => by
   unfold wparts at hx
   simp only [List.mem_append] at hx
   rcases hx with ((((((hx | hx) | hx) | hx) | hx) | hx) | hx) | hx
   · rw [List.mem_singleton.1 hx]; simp; omega
   · rw [qpF hx]; simp [pE]; omega
   · rw [qpF hx]; simp [pA]; omega
   · rw [qpF hx]; simp [pD]; omega
   · rw [qpF hx]; simp [pP]; omega
   · rw [qpF hx]; simp [pS]
   · rw [qpF hx]; simp [pH]
   · rw [qpF hx]
     have nl : ∀ k : Nat, (nmL[k]?.getD []).length <= 6 := fun k => by
       by_cases hk : k < 4
       · have : ∀ k : Nat, k < 4 -> (nmL[k]?.getD []).length <= 6 := by decide
         exact this k hk
       · rw [List.getElem?_eq_none (by simp [nmL]; omega)]; simp
     have := nl h.same.toNat
     simp only [List.length_append]; simp only [pM, List.length_cons, List.length_nil]; omega
 have : (wparts h).length * (41000 + 2) <= 8 * (41000 + 2) := Nat.mul_le_mul_right _ h1
 omega
theorem qq8 (h : Hdr) (ho : qm1 h) (w : World) (he : Env w) : Calls prog qjy #[h.v] w (Ret fun v w' => v = .string (mkS (zM h)) /\ Below w.heap.size w w') := by
 refine qqs h.name h.value h.domain h.path h.hasE h.exp h.hasA h.age h.sec h.http h.same ?_
 unfold qlJ
 have hl1 := ho.name; have hl2 := ho.value; have hl3 := ho.domain; have hl4 := ho.path
 intro k1 w1 hk1 hw1
 have hB1 := (hw1 ▸ qj w _ : Below w.heap.size w w1)
 have hh1 : qk w1 k1 qi h.cells := qk.new hk1 hw1
 refine ⟨rfl, _, hh1.load1 un_string rfl rfl, fits (by simp; omega), ?_⟩
 rintro _ rfl
 refine ⟨rfl, _, hh1.load1 un_string rfl rfl, fits (by simp; omega), ?_⟩
 rintro _ rfl
 intro k11 w11 hk11 hw11 k3 w3 hk3 hw3
 have hB11 := (hw11 ▸ qj w1 _ : Below w1.heap.size w1 w11)
 have hB3 := (hw3 ▸ qj w11 _ : Below w11.heap.size w11 w3)
 have ho11 : Ow tS qh w11 NoB (some ⟨k11, 0, none⟩) 1 1 [h.name ++ [61] ++ h.value] := Ow.newF (l := [_]) (qaS _) hk11 hw11 (RepL.one (qgz trivial)) (show 1 <= maxLen by decide)
 have ha3 : qk w3 k3 qV [.slice none 0 0] := qk.new hk3 hw3
 have hs1 : w1.heap.size = w.heap.size + 1 := by rw [hw1]; simp
 have hs11 : w11.heap.size = w1.heap.size + 1 := by rw [hw11]; simp
 obtain ⟨wx, hsx, hax, hgx⟩ := ha3.put (P := prog) qrG (i := 0) (v := .slice (some ⟨k11, 0, none⟩) 1 1) (by simp) rfl rfl
 refine ⟨wx, hsx, ?_⟩
 have hB13 := qd (qd hB1 hB11 hB1.size) hB3 (qd hB1 hB11 hB1.size).size
 have S0 : AccH w k1 k3 h [h.name ++ [61] ++ h.value] wx := by
   refine ⟨⟨_, _, _, hax, (ho11.below hB3).keep (qbI hgx fun g hg e => ?_), fun g hg => ?_, fun g hg => ?_⟩, ((hh1.below hB11).below hB3).grown hgx (fun e => by cases e; omega), hB13.grown hgx hB13.size (fun x e => by cases e; omega), by omega, by omega, by omega⟩
   · rcases hg with hg | hg
     · exact hg
     · have hg' : g = k11 := by simpa [ownB] using hg
       cases e; omega
   · have hg' : g = k11 := by simpa [ownB] using hg.symm
     omega
   · have hg' : g = k11 := by simpa [ownB] using hg.symm
     exact ⟨by omega, by omega⟩
 have htab : ∀ {u : World} {xs : List (List UInt8)}, AccH w k1 k3 h xs u -> qpW prog u := fun S => (he.step S.hb).tab
 have htr : true = true := rfl
 clear hax hgx hsx ha3 ho11 hh1 hB13 hB3 hB11 hB1 hw3 hw11 hw1
 have ol := qAK
 have tl := qhY h.exp
 have il := Lib.itoa_length_le h.age ho.age.1 ho.age.2
 have dl := qvH h.domain
 obtain ⟨x0, e0⟩ : ∃ x, x = [h.name ++ [61] ++ h.value] := ⟨_, rfl⟩
 rw [<- e0] at S0
 have n0 : x0.length <= 1 := by rw [e0]; simp
 -- Expires
 refine worldJ (fun w' => AccH w k1 k3 h (x0 ++ opt h.hasE (pE ++ qdm h.exp)) w') ?_ ?_
 · have Sd := S0.below (qT _)
   repeat' (first
     | exact htr
     | refine Exists.intro _ (And.intro (Accu.get un_bool rfl (by assumption) rfl) ?_)
     | refine Exists.intro _ (And.intro (Accu.get un_int64 rfl (by assumption) rfl) ?_)
     | (refine callK (date_Text_ok _ ho.exp.1 ho.exp.2 _ (htab (by assumption))) ?_
        rintro _ u ⟨rfl, hbu⟩
        have Su := Accu.below (by assumption) hbu
        refine Exists.intro _ (And.intro rfl ?_)
        refine And.intro (fits (by simp only [List.length_cons, List.length_nil]; omega)) ?_
        rintro _ rfl)
     | (refine callK (header_c1_ok (by assumption) (by omega) _ _) ?_
        rintro _ u ⟨rfl, Su⟩
        exact And.intro rfl Su)
     | refine And.intro ?_ ?_)
 intro w4 S1
 clear S0
 obtain ⟨x1, e1⟩ : ∃ x, x = x0 ++ opt h.hasE (pE ++ qdm h.exp) := ⟨_, rfl⟩
 have n1 : x1.length <= 2 := by rw [e1, List.length_append]; exact Nat.add_le_add n0 (ol _ _)
 rw [<- e1] at S1
 -- Max-Age
 refine worldJ (fun w' => AccH w k1 k3 h (x1 ++ opt h.hasA (pA ++ Lib.itoa h.age)) w') ?_ ?_
 · have Sd := S1.below (qT _)
   repeat' (first
     | exact htr
     | refine Exists.intro _ (And.intro (Accu.get un_bool rfl (by assumption) rfl) ?_)
     | refine Exists.intro _ (And.intro (Accu.get un_int64 rfl (by assumption) rfl) ?_)
     | (refine callK (format10_ok _ ho.age.1 ho.age.2 _ (htab (by assumption))) ?_
        rintro _ u ⟨rfl, hbu⟩
        have Su := Accu.below (by assumption) hbu
        refine Exists.intro _ (And.intro rfl ?_)
        refine And.intro (fits (by simp only [List.length_cons, List.length_nil]; omega)) ?_
        rintro _ rfl)
     | (refine callK (header_c1_ok (by assumption) (by omega) _ _) ?_
        rintro _ u ⟨rfl, Su⟩
        exact And.intro rfl Su)
     | refine And.intro ?_ ?_)
 intro w5 S2
 clear S1
 obtain ⟨x2, e2⟩ : ∃ x, x = x1 ++ opt h.hasA (pA ++ Lib.itoa h.age) := ⟨_, rfl⟩
 have n2 : x2.length <= 3 := by rw [e2, List.length_append]; exact Nat.add_le_add n1 (ol _ _)
 rw [<- e2] at S2
 -- Domain
 refine worldJ (fun w' => AccH w k1 k3 h (x2 ++ opt (!(h.domain == [])) (pD ++ dotV h.domain)) w') ?_ ?_
 · have Sd := S2.below (qT _)
   repeat' (first
     | exact htr
     | refine Exists.intro _ (And.intro (Accu.get un_string rfl (by assumption) rfl) ?_)
     | (refine callK (header_dotted_ok _ (by omega) _) ?_
        rintro _ u ⟨rfl, hbu⟩
        have Su := Accu.below (by assumption) hbu
        refine Exists.intro _ (And.intro rfl ?_)
        refine And.intro (fits (by simp only [List.length_cons, List.length_nil]; omega)) ?_
        rintro _ rfl)
     | (refine callK (header_c1_ok (by assumption) (by omega) _ _) ?_
        rintro _ u ⟨rfl, Su⟩
        exact And.intro rfl Su)
     | refine And.intro ?_ ?_)
 intro w6 S3
 clear S2
 obtain ⟨x3, e3⟩ : ∃ x, x = x2 ++ opt (!(h.domain == [])) (pD ++ dotV h.domain) := ⟨_, rfl⟩
 have n3 : x3.length <= 4 := by rw [e3, List.length_append]; exact Nat.add_le_add n2 (ol _ _)
 rw [<- e3] at S3
 refine ⟨rfl, _, Accu.get un_string rfl S3 rfl, ?_⟩
 refine ⟨rfl, _, Accu.get un_string rfl S3 rfl, fits (by simp only [List.length_cons, List.length_nil]; omega), ?_⟩
 rintro _ rfl
 refine callK (header_c1_ok S3 (by omega) _ _) ?_
 rintro _ w7 ⟨rfl, S4⟩
 refine ⟨rfl, ?_⟩
 obtain ⟨x4, e4⟩ : ∃ x, x = x3 ++ opt (!(h.path == [])) (pP ++ h.path) := ⟨_, rfl⟩
 have n4 : x4.length <= 5 := by rw [e4, List.length_append]; exact Nat.add_le_add n3 (ol _ _)
 replace S4 : AccH w k1 k3 h x4 w7 := by rw [e4]; exact S4
 clear S3
 refine ⟨rfl, _, Accu.get un_bool rfl S4 rfl, ?_⟩
 refine callK (header_c1_ok S4 (by omega) _ _) ?_
 rintro _ w8 ⟨rfl, S5⟩
 refine ⟨rfl, ?_⟩
 obtain ⟨x5, e5⟩ : ∃ x, x = x4 ++ opt h.sec pS := ⟨_, rfl⟩
 have n5 : x5.length <= 6 := by rw [e5, List.length_append]; exact Nat.add_le_add n4 (ol _ _)
 replace S5 : AccH w k1 k3 h x5 w8 := by rw [e5]; exact S5
 clear S4
 refine ⟨rfl, _, Accu.get un_bool rfl S5 rfl, ?_⟩
 refine callK (header_c1_ok S5 (by omega) _ _) ?_
 rintro _ w9 ⟨rfl, S6⟩
 refine ⟨rfl, ?_⟩
 obtain ⟨x6, e6⟩ : ∃ x, x = x5 ++ opt h.http pH := ⟨_, rfl⟩
 have n6 : x6.length <= 7 := by rw [e6, List.length_append]; exact Nat.add_le_add n5 (ol _ _)
 replace S6 : AccH w k1 k3 h x6 w9 := by rw [e6]; exact S6
 clear S5
 obtain ⟨x7, e7⟩ : ∃ x, x = x6 ++ opt (decide (0 < h.same) && decide (h.same <= 3)) (pM ++ nmL[h.same.toNat]?.getD []) := ⟨_, rfl⟩
 have n7 : x7.length <= 8 := by rw [e7, List.length_append]; exact Nat.add_le_add n6 (ol _ _)
 have ew : wparts h = x7 := by subst e7; subst e6; subst e5; subst e4; subst e3; subst e2; subst e1; subst e0; rfl
 have hJ : (Lib.join x7 [59, 32]).length <= 1000000 := by rw [<- ew]; exact wlen h ho
 refine qgN (fun b w' => b = (decide (0 < h.same) && decide (h.same <= 3)) /\ AccH w k1 k3 h x6 w') ?_ ?_
 · refine ⟨rfl, _, Accu.get qK rfl S6 rfl, ?_⟩
   refine BCase.of (fun hc => ?_) (fun hc => ?_) <;> simp only [dTx, dFx, gt_iff_lt] at hc
   · exact ⟨rfl, _, Accu.get qK rfl S6 rfl, by rw [decide_eq_true hc]; rfl, S6⟩
   · exact ⟨by rw [decide_eq_false hc]; rfl, S6⟩
 rintro b w10 ⟨hb, S⟩
 refine BCase.of (fun hc => ?_) (fun hc => ?_)
 · rw [hb] at hc
   have hc' : 0 < h.same /\ h.same <= 3 := by simpa using hc
   have hx : x7 = x6 ++ opt true (pM ++ nmL[h.same.toNat]?.getD []) := by rw [e7, hc]
   have hn : ((h.same.toNat : Nat) : Int) = h.same := by omega
   have hi : ∀ u, (Instr.index qb9 nmV (.int .i64 h.same)).run prog u = .ok (.string (mkS (nmL[h.same.toNat]?.getD []))) u := fun u => by
     have := qyy u h.same.toNat (by omega)
     rwa [hn] at this
   have nl : (nmL[h.same.toNat]?.getD []).length <= 6 := by
     have : ∀ k : Nat, k < 4 -> (nmL[k]?.getD []).length <= 6 := by decide
     exact this _ (by omega)
   have Sd := S.below (qT _)
   clear S6
   refine ⟨rfl, ?_, ?_⟩
   · refine callK (qkd _) ?_
     rintro _ u ⟨rfl, hbu⟩
     have Su := Sd.below hbu
     refine ⟨_, _, _, _, rfl, _, Accu.get qK rfl Su rfl, _, hi u, fits (by simp only [List.length_cons, List.length_nil]; omega), ?_⟩
     rintro _ rfl
     refine callK (header_c1_ok Su (by omega) _ _) ?_
     rintro _ u2 ⟨rfl, S7⟩
     have S7' : AccH w k1 k3 h x7 u2 := by rw [hx]; exact S7
     refine ⟨rfl, ?_⟩
     exact qs2 x7 S7' (by omega) hJ (fun v w' => v = .string (mkS (zM h)) /\ Below w.heap.size w w') fun w' hb' => ⟨by rw [zM, ew], hb'⟩
   · refine ⟨_, Accu.get qK rfl Sd rfl, ?_⟩
     refine callK (qkd _) ?_
     rintro _ u ⟨rfl, hbu⟩
     have Su := Sd.below hbu
     refine ⟨_, _, _, _, rfl, _, hi u, fits (by simp only [List.length_cons, List.length_nil]; omega), ?_⟩
     rintro _ rfl
     refine callK (header_c1_ok Su (by omega) _ _) ?_
     rintro _ u2 ⟨rfl, S7⟩
     have S7' : AccH w k1 k3 h x7 u2 := by rw [hx]; exact S7
     refine ⟨rfl, ?_⟩
     exact qs2 x7 S7' (by omega) hJ (fun v w' => v = .string (mkS (zM h)) /\ Below w.heap.size w w') fun w' hb' => ⟨by rw [zM, ew], hb'⟩
 · rw [hb] at hc
   have hx : x7 = x6 := by rw [e7, hc]; exact List.append_nil _
   have S7' : AccH w k1 k3 h x7 w10 := by rw [hx]; exact S
   exact qs2 x7 S7' (by omega) hJ (fun v w' => v = .string (mkS (zM h)) /\ Below w.heap.size w w') fun w' hb' => ⟨by rw [zM, ew], hb'⟩
end Go.Proofs.YtlfolncaghkmcaaGreatDoor
namespace Go.Pk
open Go.RowKit (Below)
noncomputable def qbB (h : Hdr) : Bool := decide ((qR (zM h)).2 = 0) && qpy (qR (zM h)).1 h
end Go.Pk
namespace Go.Proofs.YtlfolncaghkmcaaGreatDoor
open Go.Pk
open Go.RowKit (Below)
theorem qle (h : Hdr) (w : World) {R : Nat -> World -> Prop} (H : ∀ k wx, k = w.heap.size -> qk wx k qi h.cells -> Below w.heap.size w wx -> R k wx) :
   ∀ (k : Nat) (w1 : World), k = w.heap.size -> w1 = w.alloc (.cells #[.string (mkS []), .string (mkS []), .string (mkS []), .string (mkS []), .bool false, .int .i64 (0 : Int), .bool false, .int .i64 (0 : Int), .bool false, .bool false, .int .i64 (0 : Int)] qi) ->
     ∃ (wx : World), (Instr.storeAt qi (.pointer (some ⟨k, 0, none⟩)) h.v).run prog w1 = .ok () wx /\ R k wx := by
 intro k w1 hk hw
 have hB := (hw ▸ qj w _ : Below w.heap.size w w1)
 obtain ⟨wx, hs, h3, hg⟩ := qls h (qk.new hk hw : qk w1 k qi hdr0.cells) rfl
 exact ⟨wx, hs, H k wx hk h3 (hB.grown hg hB.size fun x e => by cases e; omega)⟩
theorem qi4 (h : Hdr) (w : World) {k : Nat} {w1 : World} (hk : k = w.heap.size) (hw : w1 = w.alloc (.cells h.cells.toArray qi)) : qk w1 k qi h.cells /\ Below w.heap.size w w1 :=
 ⟨qk.new hk hw, hw ▸ qj w _⟩
theorem qsO (h g : Hdr) : eqV prog 10000 qi h.v g.v = some (qpy h g) := by kernel_rfl
theorem qns : prog.eqGuardType prog.depth qi = false := by kernel_rfl
theorem qDv (h g : Hdr) {x y : Operand} (w : World) : ((do eqGuard .eql qi x y h.v g.v; binOp .eql qi h.v g.v : Sem Value)).run prog w = .ok (.bool (qpy h g)) w :=
 qyM qns (qsO h g) w
theorem qsZ (h : Hdr) (ho : qm1 h) (w : World) (he : Env w) : Calls prog qk9 #[h.v] w (Ret fun v w' => v = .bool (qbB h) /\ Below w.heap.size w w') := by
 refine qr8 h.name h.value h.domain h.path h.hasE h.exp h.hasA h.age h.sec h.http h.same ?_
 unfold qn8
 intro k1 w1 hk1 hw1
 obtain ⟨hh1, hB1⟩ := qi4 h w hk1 hw1
 refine ⟨h.name, h.value, h.domain, h.path, h.hasE, h.exp, h.hasA, h.age, h.sec, h.http, h.same, qaK h hh1, ?_⟩
 refine callK (qq8 h ho w1 (he.step hB1)) ?_
 rintro _ w2 ⟨rfl, hb2⟩
 have hB2 := qd hB1 hb2 hB1.size
 have hh2 := hh1.below hb2
 refine ⟨_, rfl, ?_⟩
 refine callK (qnt (zM h) (by have := wlen h ho; unfold zM; omega) w2 (he.step hB2)) ?_
 rintro _ w3 ⟨rfl, hb3⟩
 have hB3 := qd hB2 hb3 hB2.size
 have hh3 := hh2.below hb3
 refine ⟨_, _, _, _, _, _, _, _, _, _, _, _, rfl, ?_⟩
 refine qle (qR (zM h)).1 w3 fun k3 w4 hk3 h4 hb4 => ?_
 have hB4 := qd hB3 hb4 hB3.size
 have hh4 := hh3.below hb4
 refine BCase.of (fun hc => ?_) (fun hc => ?_)
 · rw [beq_iff_eq] at hc
   refine ⟨_, _, _, _, _, _, _, _, _, _, _, qaK _ h4, _, _, _, _, _, _, _, _, _, _, _, qaK _ hh4, _, qDv _ _ _, ?_, hB4⟩
   rw [qbB, decide_eq_true hc]; rfl
 · rw [beq_eq_false_iff_ne] at hc
   refine ⟨?_, hB4⟩
   rw [qbB, decide_eq_false hc]; rfl
end Go.Proofs.YtlfolncaghkmcaaGreatDoor
namespace Go.Proofs.YtlfolncaghkmcaaGreatDoor
open Go.Pk
open Go.RowKit (Below)
abbrev Says (w : World) (v : Value) (w' : World) : Prop := v = .bool true /\ Below w.heap.size w w'
end Go.Proofs.YtlfolncaghkmcaaGreatDoor
namespace Go.Pk
theorem qoo : ∀ (a cur r : List UInt8) (c : UInt8), (∀ x ∈ a, qiH x = false) -> qiH c = true -> cutP cur (a ++ c :: r) = (cur ++ a) :: cutP [] r
 | [], cur, r, c, _, hc => by
   show (if qiH c = true then _ else _) = _
   rw [if_pos hc, List.append_nil]
 | x :: a, cur, r, c, ha, hc => by
   have hx := ha x List.mem_cons_self
   show (if qiH x = true then _ else _) = _
   rw [if_neg (by rw [hx]; decide)]
   exact (qoo a (cur ++ [x]) r c (fun y hy => ha y (List.mem_cons_of_mem _ hy)) hc).trans (by simp)
theorem qyq : ∀ (a r : List UInt8), (∀ x ∈ a, qaL x = true) -> digP (a ++ r) = a ++ digP r
 | [], r, _ => rfl
 | x :: a, r, h => by
   unfold digP
   rw [List.cons_append, List.takeWhile_cons, if_pos (h x List.mem_cons_self)]
   show x :: digP (a ++ r) = _
   rw [qyq a r fun y hy => h y (List.mem_cons_of_mem _ hy)]; rfl
theorem qkz (n : Int) : ∀ x ∈ twoL n, qaL x = true := by
 intro x hx
 simp only [twoL, List.mem_cons, List.mem_nil_iff, or_false] at hx
 rcases hx with rfl | rfl
 · exact (qhJ _).1
 · exact (qhJ _).1
theorem qwC : ∀ n, n < 256 -> qaL (UInt8.ofNat n) = true -> qiH (UInt8.ofNat n) = false := by decide +kernel
theorem qp3 {x : UInt8} (h : qaL x = true) : qiH x = false := by
 have := qwC x.toNat (by have := x.toNat_lt; omega)
 rw [UInt8.ofNat_toNat] at this; exact this h
theorem dec2 {n : Int} (h0 : 0 <= n) (h1 : n < 100) : decV (twoL n) = n := by
 have h := (qhJ (n / 10)).2
 have h2 := (qhJ n).2
 show (0 * 10 + (((dig1 (n / 10)).toNat : Int) - 48)) * 10 + (((dig1 n).toNat : Int) - 48) = n
 omega
theorem dec4 {n : Int} (h0 : 0 <= n) (h1 : n < 10000) : decV (twoL (n / 100) ++ twoL (n % 100)) = n := by
 have h := (qhJ (n / 100 / 10)).2
 have h2 := (qhJ (n / 100)).2
 have h3 := (qhJ (n % 100 / 10)).2
 have h4 := (qhJ (n % 100)).2
 show (((0 * 10 + (((dig1 (n / 100 / 10)).toNat : Int) - 48)) * 10 + (((dig1 (n / 100)).toNat : Int) - 48)) * 10 + (((dig1 (n % 100 / 10)).toNat : Int) - 48)) * 10 + (((dig1 (n % 100)).toNat : Int) - 48) = n
 omega
theorem qtM {i : Nat} {s u : List UInt8} (hc : colon i s = some u) {n : Int} {r : List UInt8} (hu : u = twoL n ++ r) (hr : digP r = []) (h0 : 0 <= n) (h1 : n < 100) : qsj i s = some (n, r) := by
 unfold qsj
 have hd : digP u = twoL n := by rw [hu, qyq _ _ (qkz n), hr, List.append_nil]
 rw [hc, Option.bind_some, hd, if_pos ⟨by rw [qC]; decide, by rw [qC]; decide⟩, dec2 h0 h1, hu]
 rfl
theorem qy9 {s : Int} (h0 : 0 <= s) (h1 : s < 86400) : qck (qg0 s) = some [s / 3600, s / 60 % 60, s % 60] := by
 have e : qg0 s = twoL (s / 3600) ++ (58 :: (twoL (s / 60 % 60) ++ (58 :: twoL (s % 60)))) := by simp [qg0]
 unfold qck
 rw [e]
 unfold qah
 rw [qtM (u := _) (n := s / 3600) rfl rfl rfl (by omega) (by omega), Option.bind_some]
 unfold qah
 rw [qtM (i := 1) (u := twoL (s / 60 % 60) ++ (58 :: twoL (s % 60))) rfl rfl rfl (by omega) (by omega), Option.bind_some]
 unfold qah
 rw [qtM (i := 2) (u := twoL (s % 60)) (r := []) rfl (List.append_nil _).symm rfl (by omega) (by omega), Option.bind_some]
 rfl
theorem qu2 {s : List UInt8} (h : ∀ c r, s.drop (digP s).length = c :: r -> c ≠ 58) : qck s = none := by
 unfold qck qah
 have e0 : qsj 0 s = qid s := rfl
 rw [e0]
 unfold qid
 split
 · rw [Option.bind_some]
   have : qah 2 (0 + 1) (s.drop (digP s).length) = none := by
     rw [qdo]
     have hc : colon (0 + 1) (s.drop (digP s).length) = none := by
       unfold colon
       rw [if_neg (by decide)]
       cases hs : s.drop (digP s).length with
       | nil => rfl
       | cons c r => rw [if_neg (by have := h c r hs; simpa using this)]
     rw [hc]; rfl
   show (qah 2 (0 + 1) (s.drop (digP s).length)).map _ = none
   rw [this]; rfl
 · rfl
theorem qC8 {f : Fnd} {d : Int} (h0 : 0 <= d) (h1 : d < 100) (hf : f.day = false) : tokV f (twoL d) = { f with d := d, day := true } := by
 have hd : digP (twoL d) = twoL d := by have := qyq (twoL d) [] (qkz d); rw [List.append_nil] at this; rw [this]; exact List.append_nil _
 have hc : qck (twoL d) = none := qu2 fun c r h => by rw [hd, List.drop_length] at h; cases h
 rcases qjX f (twoL d) with ⟨_, _, _, h, _⟩ | ⟨_, e⟩
 · rw [hc] at h; cases h
 · rw [e, if_pos ⟨by unfold qep; rw [hd]; rfl, hf⟩, hd, dec2 h0 h1]
theorem qwO : ∀ k : Nat, k < 12 -> qck (monN ((k : Int) + 1)) = none /\ qep (monN ((k : Int) + 1)) 1 2 = false /\ qd9 (monN ((k : Int) + 1)) = (k : Int) + 1 /\ (monN ((k : Int) + 1)).all (fun x => !qiH x) = true := by decide +kernel
theorem qC9 {f : Fnd} {m : Int} (h0 : 1 <= m) (h1 : m <= 12) (hf : f.month = false) : tokV f (monN m) = { f with m := m, month := true } := by
 have h := qwO (m - 1).toNat (by omega)
 rw [show (((m - 1).toNat : Nat) : Int) + 1 = m by omega] at h
 obtain ⟨h2, h3, h4, _⟩ := h
 rcases qjX f (monN m) with ⟨_, _, _, h, _⟩ | ⟨_, e⟩
 · rw [h2] at h; cases h
 · rw [e, if_neg (fun h => by rw [h3] at h; cases h.1), if_pos ⟨by omega, hf⟩, h4]
theorem qBN {f : Fnd} {y : Int} (h0 : 0 <= y) (h1 : y < 10000) (hm : f.month = true) (hf : f.year = false) : tokV f (twoL (y / 100) ++ twoL (y % 100)) = { f with y := y, year := true } := by
 have hall : ∀ x ∈ twoL (y / 100) ++ twoL (y % 100), qaL x = true := fun x hx => (List.mem_append.1 hx).elim (qkz _ x) (qkz _ x)
 have hd : digP (twoL (y / 100) ++ twoL (y % 100)) = twoL (y / 100) ++ twoL (y % 100) := by have := qyq _ [] hall; rw [List.append_nil] at this; rw [this]; exact List.append_nil _
 have hc : qck (twoL (y / 100) ++ twoL (y % 100)) = none := qu2 fun c r h => by rw [hd, List.drop_length] at h; cases h
 rcases qjX f (twoL (y / 100) ++ twoL (y % 100)) with ⟨_, _, _, h, _⟩ | ⟨_, e⟩
 · rw [hc] at h; cases h
 · have hn : qep (twoL (y / 100) ++ twoL (y % 100)) 1 2 = false := by unfold qep; rw [hd]; rfl
   have hn2 : qep (twoL (y / 100) ++ twoL (y % 100)) 2 4 = true := by unfold qep; rw [hd]; rfl
   rw [e, if_neg (fun h => by rw [hn] at h; cases h.1), if_neg (fun h => by rw [hm] at h; cases h.2), if_pos ⟨hn2, hf⟩, hd, dec4 h0 h1]
theorem qA5 {f : Fnd} {s : Int} (h0 : 0 <= s) (h1 : s < 86400) (hf : f.time = false) : tokV f (qg0 s) = { f with s0 := s / 3600, s1 := s / 60 % 60, s2 := s % 60, time := true } := tokV_time' (qy9 h0 h1) hf
where tokV_time' {f : Fnd} {s : List UInt8} {a b c : Int} (h : qck s = some [a, b, c]) (ht : f.time = false) : tokV f s = { f with s0 := a, s1 := b, s2 := c, time := true } := by
       unfold tokV; rw [h, ht]
theorem qBM {f : Fnd} {s : List UInt8} (h1 : f.day = true) (h2 : f.month = true) (h3 : f.year = true) (h4 : f.time = true) : tokV f s = f := by
 rcases qjX f s with ⟨_, _, _, _, h, _⟩ | ⟨_, e⟩
 · rw [h4] at h; cases h
 · rw [e, if_neg (fun h => by rw [h1] at h; cases h.2), if_neg (fun h => by rw [h2] at h; cases h.2), if_neg (fun h => by rw [h3] at h; cases h.2)]
theorem qzz : ∀ k : Nat, k < 7 -> (qhC (k : Int)).all (fun x => !qiH x) = true := by decide
theorem qBZ : ∀ k : Nat, k < 7 -> tokV fnd0 (qhC (k : Int)) = fnd0
 | 0, _ => by kernel_rfl
 | 1, _ => by kernel_rfl
 | 2, _ => by kernel_rfl
 | 3, _ => by kernel_rfl
 | 4, _ => by kernel_rfl
 | 5, _ => by kernel_rfl
 | 6, _ => by kernel_rfl
 | n + 7, h => by omega
def qx5 (c : UInt8) (y m d s : Int) : List UInt8 := twoL d ++ c :: (monN m ++ c :: ((twoL (y / 100) ++ twoL (y % 100)) ++ c :: (qg0 s ++ c :: [71, 77, 84])))
def qxD (y m d s : Int) : Fnd := ⟨true, true, true, true, s / 3600, s / 60 % 60, s % 60, y, m, d⟩
theorem qy8 {s : Int} (x : UInt8) (h : x ∈ qg0 s) : qiH x = false := by
 unfold qg0 at h
 simp only [List.mem_append, List.mem_singleton] at h
 rcases h with (((h | h) | h) | h) | h
 · exact qp3 (qkz _ x h)
 · subst h; decide
 · exact qp3 (qkz _ x h)
 · subst h; decide
 · exact qp3 (qkz _ x h)
theorem qA0 {c : UInt8} (hc : qiH c = true) {y m d s : Int} (h : zz y m d) (h0 : 0 <= s) (h1 : s < 86400) (r : List UInt8) (hr : r = [] \/ ∃ r', r = c :: r') :
   (cutP [] (qx5 c y m d s ++ r)).foldl tokV fnd0 = qxD y m d s := by
 obtain ⟨g1, g2, g3, g4, g5, g6⟩ := h
 have hl := qfX y m
 have hm := qwO (m - 1).toNat (by omega)
 rw [show (((m - 1).toNat : Nat) : Int) + 1 = m by omega] at hm
 have hmp : ∀ x ∈ monN m, qiH x = false := fun x hx => by have := List.all_eq_true.1 hm.2.2.2 x hx; simpa using this
 have e : qx5 c y m d s ++ r = twoL d ++ c :: (monN m ++ c :: ((twoL (y / 100) ++ twoL (y % 100)) ++ c :: (qg0 s ++ c :: ([71, 77, 84] ++ r)))) := by simp [qx5]
 rw [e, qoo _ _ _ _ (fun x hx => qp3 (qkz _ x hx)) hc, qoo _ _ _ _ hmp hc,
   qoo _ _ _ _ (fun x hx => qp3 ((List.mem_append.1 hx).elim (qkz _ x) (qkz _ x))) hc, qoo _ _ _ _ qy8 hc]
 simp only [List.nil_append, List.foldl_cons]
 rw [qC8 (by omega) (by omega) rfl, qC9 g3 g4 rfl, qBN (by omega) (by omega) rfl rfl, qA5 h0 h1 rfl]
 have fullk : ∀ l : List (List UInt8), l.foldl tokV (qxD y m d s) = qxD y m d s := by
   intro l
   induction l with
   | nil => rfl
   | cons x l ih => rw [List.foldl_cons, qBM rfl rfl rfl rfl, ih]
 exact fullk _
theorem qAg {t y m d : Int} (h : zz y m d) (he : jZ y m d = t / 86400) : qiT (qxD y m d (t % 86400)) = .tuple #[.int .i64 t, .bool true] := by
 have h1 := h.1
 have hy : qen y = y := by unfold qen; rw [if_neg (by omega), if_neg (by omega)]
 have hc : qjw (qxD y m d (t % 86400)) := by
   refine ⟨?_, rfl, rfl, ?_, ?_, ?_⟩
   · show zz (qen y) m d
     rw [hy]; exact h
   · show t % 86400 / 3600 <= 23; omega
   · show t % 86400 / 60 % 60 <= 59; omega
   · show t % 86400 % 60 <= 59; omega
 unfold qiT
 rw [if_pos hc]
 have : qgh (qxD y m d (t % 86400)) = t := by
   show jZ (qen y) m d * 86400 + t % 86400 / 3600 * 3600 + t % 86400 / 60 % 60 * 60 + t % 86400 % 60 = t
   rw [hy, he]; omega
 rw [this]
theorem qzv (n y m d s : Int) : qkN n y m d s = qhC (n % 7) ++ 44 :: 32 :: qx5 32 y m d s := by simp [qkN, qx5]
theorem qA3 {n y m d s : Int} (h : zz y m d) (h0 : 0 <= s) (h1 : s < 86400) : qf2 (qkN n y m d s) = qxD y m d s := by
 have hw := qzz (n % 7).toNat (by omega)
 have hw2 := qBZ (n % 7).toNat (by omega)
 rw [show (((n % 7).toNat : Nat) : Int) = n % 7 by omega] at hw hw2
 unfold qf2
 rw [qzv, qoo _ _ _ _ (fun x hx => by have := List.all_eq_true.1 hw x hx; simpa using this) (by decide)]
 have e : cutP [] (32 :: qx5 32 y m d s) = [] :: cutP [] (qx5 32 y m d s) := rfl
 rw [e, List.foldl_cons, List.foldl_cons, List.nil_append, hw2, qyQ]
 have := qA0 (c := 32) (by decide) h h0 h1 [] (.inl rfl)
 rwa [List.append_nil] at this
end Go.Pk
namespace Go.Pk
def Lok (s : List UInt8) : Prop := stripR isBl s = s
def Hok (s : List UInt8) : Prop := s.dropWhile isBl = s
theorem qxA (p : UInt8 -> Bool) : ∀ s : List UInt8, (s.dropWhile p).dropWhile p = s.dropWhile p
 | [] => rfl
 | x :: s => by
   by_cases h : p x = true
   · rw [List.dropWhile_cons, if_pos h]; exact qxA p s
   · rw [List.dropWhile_cons, if_neg h, List.dropWhile_cons, if_neg h]
theorem qyR (s : List UInt8) : Hok (zo s) := by unfold Hok zo; rw [<- qow]; exact qxA _ _
theorem qyS (s : List UInt8) : Lok (zo s) := by unfold Lok zo stripB stripR; rw [List.reverse_reverse, qxA]
theorem trim_id {s : List UInt8} (h : Hok s) (l : Lok s) : zo s = s := by
 unfold zo stripB
 rw [show s.dropWhile isBl = s from h]; exact l
theorem qmA {s : List UInt8} : zo s = s ↔ Hok s /\ Lok s := ⟨fun h => ⟨h ▸ qyR s, h ▸ qyS s⟩, fun h => trim_id h.1 h.2⟩
theorem hok_cons {c : UInt8} {s : List UInt8} (h : isBl c = false) : Hok (c :: s) := by unfold Hok; rw [List.dropWhile_cons, if_neg (by rw [h]; decide)]
theorem lok_cons {c : UInt8} {s : List UInt8} (h : Lok s) (hn : s ≠ [] \/ isBl c = false) : Lok (c :: s) := by
 unfold Lok
 rw [qkx, show stripR isBl s = s from h]
 by_cases hs : s = []
 · subst hs
   have : isBl c = false := hn.resolve_left fun h => h rfl
   rw [this]; rfl
 · rw [if_neg hs]
theorem qAA : ∀ (a : List UInt8) {s : List UInt8}, Lok s -> s ≠ [] -> Lok (a ++ s)
 | [], _, h, _ => h
 | c :: a, s, h, hn => lok_cons (qAA a h hn) (.inl fun e => hn (List.append_eq_nil_iff.1 e).2)
theorem qBB {c : UInt8} {s : List UInt8} (h : Lok (c :: s)) : Lok s := by
 unfold Lok at h ⊢
 rw [qkx] at h
 split at h
 · rename_i h1
   split at h
   · cases h
   · injection h with _ h2; rw [h1]; exact h2
 · injection h
theorem low_bl_all : ∀ n, n < 256 -> isBl (lowC (UInt8.ofNat n)) = isBl (UInt8.ofNat n) := by decide +kernel
theorem qDz (c : UInt8) : isBl (lowC c) = isBl c := by
 have := low_bl_all c.toNat (by have := c.toNat_lt; omega)
 rwa [UInt8.ofNat_toNat] at this
theorem qxL : ∀ n, n < 256 -> lowC (lowC (UInt8.ofNat n)) = lowC (UInt8.ofNat n) := by decide +kernel
theorem qCW (s : List UInt8) : lowL (lowL s) = lowL s := by
 unfold lowL
 rw [List.map_map]
 refine List.map_congr_left fun c _ => ?_
 have := qxL c.toNat (by have := c.toNat_lt; omega)
 rw [UInt8.ofNat_toNat] at this
 exact this
theorem qz5 : ∀ s : List UInt8, (lowL s).dropWhile isBl = lowL (s.dropWhile isBl)
 | [] => rfl
 | c :: s => by
   show (lowC c :: lowL s).dropWhile isBl = _
   rw [List.dropWhile_cons, List.dropWhile_cons, qDz]
   split
   · exact qz5 s
   · rfl
theorem qAD (s : List UInt8) : (lowL s).reverse = lowL s.reverse := by unfold lowL; rw [List.map_reverse]
theorem qAB {s : List UInt8} (h : Lok s) : Lok (lowL s) := by
 unfold Lok stripR at *
 rw [qAD, qz5, qAD, h]
def qbJ (s : List UInt8) : Prop := ∀ c ∈ s, qcn c = false /\ c ≠ 59
def okB (c : UInt8) : Bool := !qcn c && !(c == 59)
theorem qtd {c : UInt8} : okB c = true ↔ qcn c = false /\ c ≠ 59 := by simp [okB]
theorem qaQ {s : List UInt8} (h : s.all okB = true) : qbJ s := fun c hc => qtd.1 (List.all_eq_true.1 h c hc)
theorem qp0 : qbJ [] := fun _ h => by cases h
theorem qag {a b : List UInt8} (h : qbJ a) (k : qbJ b) : qbJ (a ++ b) := fun c hc => (List.mem_append.1 hc).elim (h c) (k c)
theorem qp1 {a b : List UInt8} (h : qbJ b) (k : ∀ c ∈ a, c ∈ b) : qbJ a := fun c hc => h c (k c hc)
theorem qu1 {s : List UInt8} (h : qbJ s) : qbJ (zo s) := qp1 h (qvf _ _)
theorem qvZ : ∀ n, n < 256 -> okB (UInt8.ofNat n) = true -> okB (lowC (UInt8.ofNat n)) = true := by decide +kernel
theorem qzQ {s : List UInt8} (h : qbJ s) : qbJ (lowL s) := by
 intro c hc
 obtain ⟨d, hd, rfl⟩ := List.mem_map.1 hc
 have := qvZ d.toNat (by have := d.toNat_lt; omega)
 rw [UInt8.ofNat_toNat] at this
 exact qtd.1 (this (qtd.2 (h d hd)))
theorem qvG : ∀ n, n < 256 -> qaL (UInt8.ofNat n) = true -> okB (UInt8.ofNat n) = true /\ isBl (UInt8.ofNat n) = false := by decide +kernel
theorem qfQ {c : UInt8} (h : qaL c = true) : (qcn c = false /\ c ≠ 59) /\ isBl c = false := by
 have := qvG c.toNat (by have := c.toNat_lt; omega)
 rw [UInt8.ofNat_toNat] at this
 exact ⟨qtd.1 (this h).1, (this h).2⟩
theorem qsG {s : List UInt8} (h : qbJ s) : qbJ (jm s) := qu1 (qp1 h fun c hc => (List.takeWhile_sublist _).subset hc)
theorem clean_after {s : List UInt8} (h : qbJ s) : qbJ (jg s) := qu1 (qp1 h fun c hc => (List.dropWhile_sublist _).subset (List.mem_of_mem_drop hc))
theorem qDf : ∀ k : Nat, k < 7 -> (qhC (k : Int)).all (fun c => okB c && !isBl c) = true /\ qhC (k : Int) ≠ [] := by decide
theorem qDA : ∀ k : Nat, k < 12 -> (monN ((k : Int) + 1)).all okB = true := by decide
theorem qzw {f : Fnd} (hf : qqX f) (hc : qjw f) : qf2 (qdm (qgh f)) = qf2 (qdm (qgh f)) /\ qjw (qf2 (qdm (qgh f))) /\ qgh (qf2 (qdm (qgh f))) = qgh f /\ zo (qdm (qgh f)) = qdm (qgh f) /\ qbJ (qdm (qgh f)) /\ (-9223372036854775808 <= qgh f /\ qgh f <= 9223372036854775807) := by
 obtain ⟨hd, -, -, c1, c2, c3⟩ := hc
 have hr := qsI hd
 have e1 : qgh f / 86400 = jZ (qen f.y) f.m f.d := by
   unfold qgh; have := hf.s0; have := hf.s1; have := hf.s2; omega
 have ht := qmz hd e1.symm
 have htl := qA3 (n := qgh f / 86400) (s := qgh f % 86400) hd (by omega) (by omega)
 have hfc := qAg hd e1.symm
 rw [<- ht] at htl
 rw [<- htl] at hfc
 unfold qiT at hfc
 by_cases hp : qjw (qf2 (qdm (qgh f)))
 · rw [if_pos hp] at hfc
   injection hfc with hfc
   have hn : qgh (qf2 (qdm (qgh f))) = qgh f := by
     have := congrArg (fun a : Array Value => a[0]?) hfc
     simpa using this
   have hw := qDf (qgh f / 86400 % 7).toNat (by omega)
   rw [show (((qgh f / 86400 % 7).toNat : Nat) : Int) = qgh f / 86400 % 7 by omega] at hw
   have hm := qDA (f.m - 1).toNat (by have := hd.2.2.1; have := hd.2.2.2.1; omega)
   rw [show (((f.m - 1).toNat : Nat) : Int) + 1 = f.m by have := hd.2.2.1; omega] at hm
   refine ⟨rfl, hp, hn, ?_, ?_, ?_⟩
   · rw [ht]
     refine trim_id ?_ ?_
     · unfold qkN
       cases hc : qhC (qgh f / 86400 % 7) with
       | nil => exact absurd hc hw.2
       | cons c r =>
         have := List.all_eq_true.1 hw.1 c (by rw [hc]; exact List.mem_cons_self)
         simp only [List.cons_append]
         exact hok_cons (by rw [Bool.and_eq_true] at this; simpa using this.2)
     · unfold qkN
       exact qAA _ (show Lok [32, 71, 77, 84] from rfl) (by simp)
   · rw [ht]
     have two : ∀ n, qbJ (twoL n) := fun n c hc => (qfQ (qkz n c hc)).1
     unfold qkN qg0
     refine qag (qag (qag (qag (qag (qag (qag (qag (qag ?_ ?_) (two _)) ?_) ?_) ?_) (qag (two _) (two _))) ?_) (qag (qag (qag (qag (two _) ?_) (two _)) ?_) (two _))) ?_
     · intro c hc
       have := List.all_eq_true.1 hw.1 c hc
       rw [Bool.and_eq_true] at this
       exact qtd.1 this.1
     · exact qaQ (by decide)
     · exact qaQ (by decide)
     · exact qaQ hm
     · exact qaQ (by decide)
     · exact qaQ (by decide)
     · exact qaQ (by decide)
     · exact qaQ (by decide)
     · exact qaQ (by decide)
   · have := hf.s0; have := hf.s1; have := hf.s2
     unfold qgh; omega
 · rw [if_neg hp] at hfc
   have := congrArg (fun v : Value => match v with | .tuple a => a[1]? | _ => none) hfc
   simp at this
structure Good (h : Hdr) : Prop where
 nc : qbJ h.name
 vc : qbJ h.value
 nt : zo h.name = h.name
 vt : zo h.value = h.value
 ne : ∀ c ∈ h.name, c ≠ 61
 nz : h.name ++ h.value ≠ []
 nl : h.name.length + h.value.length <= 4096
 dc : qbJ h.domain
 de : Lok h.domain
 dl : lowL h.domain = h.domain
 dn : (dotV h.domain).length <= 1024
 pc : qbJ h.path
 pt : zo h.path = h.path
 ph : h.path = [] \/ h.path.head? = some 47
 pl : h.path.length <= 1024
 ex : if h.hasE = true then qjw (qf2 (qdm h.exp)) /\ qgh (qf2 (qdm h.exp)) = h.exp /\ zo (qdm h.exp) = qdm h.exp /\ qbJ (qdm h.exp) /\ (-9223372036854775808 <= h.exp /\ h.exp <= 9223372036854775807) else h.exp = 0
 ag : 0 <= h.age /\ h.age <= 34560000 /\ (h.hasA = false -> h.age = 0)
 sm : 0 <= h.same /\ h.same <= 3
theorem qyX {s : List UInt8} {n : Int} (h : ageV s = some n) : 0 <= n /\ n <= 34560000 := by
 unfold ageV at h
 split at h
 · split at h
   · cases h; decide
   · cases h
 · split at h
   · rename_i hd
     have := (qdc s 0 (by decide) (fun c hc => by
       unfold jS at hd
       rw [Bool.and_eq_true] at hd
       exact List.all_eq_true.1 hd.2 c hc)).1
     have h2 : min (decV s) 34560000 = n := Option.some.inj h
     have h3 : 0 <= decV s := this
     omega
   · cases h
theorem qx0 (v : List UInt8) : 0 <= qpQ v /\ qpQ v <= 3 := by unfold qpQ; split; decide; split; decide; split <;> decide
theorem qBn {v : List UInt8} (hv : zo v = v) (hl : v.length <= 1024) : (dotV (lowL (if v.head? = some 46 then v.drop 1 else v))).length <= 1024 := by
 split
 · rename_i h
   have h1 := qvH (lowL (v.drop 1))
   have h2 : (lowL (v.drop 1)).length = v.length - 1 := by unfold lowL; simp
   have h3 : 0 < v.length := by cases v with
     | nil => cases h
     | cons => simp
   omega
 · rename_i h
   have h1 : zo (lowL v) = lowL v := by
     obtain ⟨a, b⟩ := qmA.1 hv
     refine trim_id ?_ (qAB b)
     unfold Hok; rw [qz5, show v.dropWhile isBl = v from a]
   have h2 : (lowL v).head? ≠ some 46 := by
     intro e
     cases v with
     | nil => cases e
     | cons c v =>
       have e' : lowC c = 46 := Option.some.inj e
       have hall : ∀ n, n < 256 -> lowC (UInt8.ofNat n) = 46 -> UInt8.ofNat n = 46 := by decide +kernel
       have := hall c.toNat (by have := c.toNat_lt; omega)
       rw [UInt8.ofNat_toNat] at this
       exact h (by rw [this e']; rfl)
   unfold dotV
   rw [if_pos ⟨h1, h2⟩]
   unfold lowL; simpa using hl
theorem attr_good {h : Hdr} (g : Good h) (key : List UInt8) {v : List UInt8} (hv : zo v = v) (hc : qbJ v) (hl : v.length <= 1024) : Good (qcv h key v) := by
 unfold qcv
 split
 · split
   · rename_i hk
     have hf : qqX (qf2 v) := qrq _ qq5
     obtain ⟨-, h1, h2, h3, h4, h5⟩ := qzw hf hk
     exact { g with ex := by show if true = true then _ else _; rw [if_pos rfl]; exact ⟨h1, h2, h3, h4, h5⟩ }
   · exact g
 split
 · split
   · rename_i n hn
     have := qyX hn
     exact { g with ag := ⟨this.1, this.2, fun h => by cases h⟩ }
   · exact g
 split
 · refine { g with dc := qzQ ?_, de := qAB ?_, dl := qCW _, dn := qBn hv hl }
   · split
     · exact qp1 hc fun c hc => List.mem_of_mem_drop hc
     · exact hc
   · have := (qmA.1 hv).2
     split
     · cases v with
       | nil => exact this
       | cons c v => exact qBB this
     · exact this
 split
 · by_cases h47 : v.head? = some 47
   · rw [if_pos h47]
     exact { g with pc := hc, pt := hv, ph := .inr h47, pl := hl }
   · rw [if_neg h47]
     exact { g with pc := qp0, pt := rfl, ph := .inl rfl, pl := (show ([] : List UInt8).length <= 1024 by decide) }
 split
 · exact { g with }
 split
 · exact { g with }
 split
 · exact { g with sm := qx0 v }
 · exact g
theorem trim_trim (s : List UInt8) : zo (zo s) = zo s := qmA.2 ⟨qyR s, qyS s⟩
theorem qAX {h : Hdr} (g : Good h) {x : List UInt8} (hc : qbJ x) : Good (zU h x) := by
 unfold zU
 split
 · rename_i hl
   exact attr_good g _ (trim_trim _) (clean_after hc) hl
 · exact g
theorem fold_good : ∀ (l : List (List UInt8)) {h : Hdr}, Good h -> (∀ x ∈ l, qbJ x) -> Good (l.foldl zU h)
 | [], _, g, _ => g
 | x :: l, _, g, hc => fold_good l (qAX g (hc x List.mem_cons_self)) fun y hy => hc y (List.mem_cons_of_mem _ hy)
theorem parse_good {s : List UInt8} {h : Hdr} (hp : qR s = (h, 0)) : Good h := by
 unfold qR at hp
 split at hp
 · cases hp
 split at hp
 · cases hp
 split at hp
 · cases hp
 rename_i h1 h2 h3
 obtain ⟨rfl, -⟩ := Prod.mk.inj hp
 have hcs : ∀ x ∈ cutC 59 [] s, qbJ x := fun x hx c hc => by
   obtain ⟨k1, k2⟩ := qvB 59 s [] x hx (fun _ h => by cases h) c hc
   refine ⟨?_, k2⟩
   rcases k1 with k1 | k1
   · cases k1
   · cases hcc : qcn c
     · rfl
     · exact absurd (List.any_eq_true.2 ⟨c, k1, hcc⟩) h1
 have hx0 : qbJ ((cutC 59 [] s).headD []) := by
   have := qcw 59 s []
   cases hcc : cutC 59 [] s with
   | nil => exact absurd hcc this
   | cons x l => exact hcs x (by rw [hcc]; exact List.mem_cons_self)
 refine fold_good _ ?_ fun x hx => hcs x (List.mem_of_mem_drop hx)
 generalize (cutC 59 [] s).headD [] = x at *
 have hn : qbJ (nameOf x).1 /\ qbJ (nameOf x).2 /\ zo (nameOf x).1 = (nameOf x).1 /\ zo (nameOf x).2 = (nameOf x).2 /\ ∀ c ∈ (nameOf x).1, c ≠ 61 := by
   unfold nameOf
   split
   · refine ⟨qsG hx0, clean_after hx0, trim_trim _, trim_trim _, fun c hc => ?_⟩
     have h1 : c ∈ x.takeWhile (· != 61) := qvf _ _ c hc
     have := List.all_eq_true.1 (List.all_takeWhile (p := (· != (61 : UInt8))) (l := x)) c h1
     simpa using this
   · exact ⟨qp0, qsG hx0, rfl, trim_trim _, fun c hc => by cases hc⟩
 exact { nc := hn.1, vc := hn.2.1, nt := hn.2.2.1, vt := hn.2.2.2.1, ne := hn.2.2.2.2, nz := h2, nl := by show (nameOf x).1.length + (nameOf x).2.length <= 4096; omega,
         dc := qp0, de := rfl, dl := rfl, dn := by show (dotV []).length <= 1024; decide, pc := qp0, pt := rfl, ph := .inl rfl, pl := (show ([] : List UInt8).length <= 1024 by decide), ex := rfl, ag := ⟨Int.le_refl 0, (show (0 : Int) <= 34560000 by decide), fun _ => rfl⟩, sm := ⟨Int.le_refl 0, (show (0 : Int) <= 3 by decide)⟩ }
end Go.Pk
namespace Go.Pk
theorem qCN {h : Hdr} (g : Good h) : qm1 h := by
 have := g.nl; have := g.pl
 have hd : h.domain.length <= (dotV h.domain).length := by unfold dotV; split <;> simp
 have := g.dn
 refine ⟨by omega, by omega, by omega, by omega, ?_, by have := g.ag; omega⟩
 have hx := g.ex
 by_cases he : h.hasE = true
 · rw [if_pos he] at hx; exact hx.2.2.2.2
 · rw [if_neg he] at hx; omega
end Go.Pk
namespace Go.Pk
open Go.RowKit (Below)
def pSec : List UInt8 := [95, 95, 115, 101, 99, 117, 114, 101, 45]
def pHos : List UInt8 := [95, 95, 104, 111, 115, 116, 45]
def qeg (s : List UInt8) : Int := if lowL (s.take 9) = pSec then 1 else if lowL (s.take 7) = pHos then 2 else 0
def domV (rs : List Rul) (u : Hst) (t : List UInt8) : Hst × Bool × Int := if t = [] then (u, true, 0) else match jl t with
 | none => (hst0, false, 101)
 | some d => if (pubB rs d && !qbA d u) = true then (d, false, 102) else if (!domB u d) = true then (d, false, 103) else (d, pubB rs d, 0)
def expV (h : Hdr) (now : Int) : Int := if h.hasA = true then i64.wrap (now + h.age) else if h.hasE = true then (if i64.wrap (now + 34560000) < h.exp then i64.wrap (now + 34560000) else h.exp) else 9223372036854775807
def qgL (h : Hdr) : List UInt8 := if h.name = [] then h.value else h.name
def qhI (h : Hdr) (only : Bool) : Bool := if qeg (qgL h) = 1 then !h.sec else if qeg (qgL h) = 2 then (!h.sec || (!only || !(h.path == [47]))) else false
noncomputable def givV (u : Url) (h : Hdr) (now : Int) : Int := if (!qec u) = true then 41 else if (!qbB h) = true then 82 else if now < 0 then 122 else if 1099511627776 < now then 122 else 0
def errV (u : Url) (h : Hdr) (d : Hst × Bool × Int) : Int :=
 if d.2.2 ≠ 0 then d.2.2 else if (h.sec && !u.sec) = true then 104 else if (decide (h.same = 1) && !h.sec) = true then 105 else if qhI h d.2.1 = true then 106 else 0
def ckyV (u : Url) (h : Hdr) (d : Hst × Bool × Int) (now : Int) : Cky := ⟨h.name, h.value, d.1, d.2.1, if h.path = [] then defV u.path else h.path, h.sec, h.http, h.same, expV h now, now, now, 0⟩
noncomputable def takV (rs : List Rul) (u : Url) (h : Hdr) (now : Int) : Cky × Int :=
 if givV u h now ≠ 0 then (cky0, givV u h now) else if errV u h (domV rs u.host h.domain) ≠ 0 then (cky0, errV u h (domV rs u.host h.domain)) else (ckyV u h (domV rs u.host h.domain) now, 0)
def ckyT (x : Cky × Int) : Value := .tuple #[x.1.v, .int .i64 x.2]
theorem qz1 {rs : List Rul} {u : Hst} (o : u.ok) (t : List UInt8) : (domV rs u t).1.ok := by
 unfold domV
 split
 · exact o
 split
 · rfl
 · rename_i d hd
   have := qdN hd
   split
   · exact this
   split <;> exact this
theorem qnW {rs : List Rul} {u : Url} (o : u.ok) (h : Hdr) (now : Int) : (takV rs u h now).1.ok := by
 unfold takV
 split
 · rfl
 split
 · rfl
 · exact qz1 o _
end Go.Pk
namespace Go.Proofs.YtlfolncaghkmcaaGreatDoor
open Go.Pk
open Go.RowKit (Below)
theorem qsw (s : List UInt8) (w : World) : Calls prog qk6 #[.string (mkS s)] w (Ret fun v w' => v = .int .i64 (qeg s) /\ Below w.heap.size w w') := by
 apply qr4
 unfold qn4
 refine ⟨fun m i w' => Below w.heap.size w w' /\ (m = 3 /\ i = 0 \/ m = 2 /\ i = 1 \/ m = 1 /\ i = 2 /\ lowL (s.take 9) ≠ pSec \/ m = 0 /\ i = 3 /\ lowL (s.take 9) ≠ pSec /\ lowL (s.take 7) ≠ pHos), ⟨3, Below.refl _ _, .inl ⟨rfl, rfl⟩⟩, ?_⟩
 intro m i
 refine AllJ.of ?_ _
 rintro w1 ⟨hB, h⟩
 rcases h with ⟨rfl, rfl⟩ | ⟨rfl, rfl⟩ | ⟨rfl, rfl, h1⟩ | ⟨rfl, rfl, h1, h2⟩
 · exact BCase.yes (by decide) ⟨[], by kernel_rfl, BCase.no (by decide) ⟨2, by decide, hB, .inr (.inl ⟨rfl, rfl⟩)⟩⟩
 · refine BCase.yes (by decide) ⟨pSec, by kernel_rfl, BCase.yes (by decide) (BCase.of (fun c => ?_) (fun c => ⟨1, by decide, hB, .inr (.inr (.inl ⟨rfl, rfl, ?_⟩))⟩))⟩
   · refine ⟨⟨by omega, by simpa using c⟩, ?_⟩
     rintro _ rfl
     refine callK (octet_Lower_ok _ (by show (s.take 9).length <= _; rw [List.length_take]; omega) w1) ?_
     rintro _ w2 ⟨rfl, hb2⟩
     have hB2 := qd hB hb2 hB.size
     refine ⟨_, rfl, BCase.of (fun c2 => ⟨?_, hB2⟩) (fun c2 => ⟨1, by decide, hB2, .inr (.inr (.inl ⟨rfl, rfl, beq_eq_false_iff_ne.1 c2⟩))⟩)⟩
     have c2 : lowL (s.take 9) = pSec := eq_of_beq c2
     unfold qeg; rw [if_pos c2]
   · intro e
     have := congrArg List.length e
     simp [lowL, pSec] at this c; omega
 · refine BCase.yes (by decide) ⟨pHos, by kernel_rfl, BCase.yes (by decide) (BCase.of (fun c => ?_) (fun c => ⟨0, by decide, hB, .inr (.inr (.inr ⟨rfl, rfl, h1, ?_⟩))⟩))⟩
   · refine ⟨⟨by omega, by simpa using c⟩, ?_⟩
     rintro _ rfl
     refine callK (octet_Lower_ok _ (by show (s.take 7).length <= _; rw [List.length_take]; omega) w1) ?_
     rintro _ w2 ⟨rfl, hb2⟩
     have hB2 := qd hB hb2 hB.size
     refine ⟨_, rfl, BCase.of (fun c2 => ⟨?_, hB2⟩) (fun c2 => ⟨0, by decide, hB2, .inr (.inr (.inr ⟨rfl, rfl, h1, beq_eq_false_iff_ne.1 c2⟩))⟩)⟩
     have c2 : lowL (s.take 7) = pHos := eq_of_beq c2
     unfold qeg; rw [if_neg h1, if_pos c2]
   · intro e
     have := congrArg List.length e
     simp [lowL, pHos] at this c; omega
 · refine BCase.no (by decide) ⟨?_, hB⟩
   unfold qeg; rw [if_neg h1, if_neg h2]
theorem qrU (h : Hdr) (now : Int) (w : World) : Calls prog qj4 #[h.v, .int .i64 now] w (Ret fun v w' => v = .int .i64 (expV h now) /\ Below w.heap.size w w') := by
 refine qrd h.name h.value h.domain h.path h.hasE h.exp h.hasA h.age h.sec h.http h.same now ?_
 unfold qmJ
 intro k1 w1 hk1 hw1
 obtain ⟨hh1, hB1⟩ := qi4 h w hk1 hw1
 unfold expV
 refine ⟨rfl, _, hh1.load1 un_bool rfl rfl, BCase.of (fun c => ?_) (fun c => ?_)⟩
 · rw [if_pos c]
   exact ⟨rfl, _, hh1.load1 un_int64 rfl rfl, rfl, hB1⟩
 rw [if_neg (by rw [c]; decide)]
 refine ⟨rfl, _, hh1.load1 un_bool rfl rfl, BCase.of (fun c => ?_) (fun c => ?_)⟩
 · rw [if_pos c]
   exact ⟨rfl, _, hh1.load1 un_int64 rfl rfl, _, run_min_int2 _ _ _ _ _ _ _, rfl, hB1⟩
 · rw [if_neg (by rw [c]; decide)]
   exact ⟨rfl, hB1⟩
theorem qsx (h : Hdr) (only : Bool) (w : World) : Calls prog qk7 #[h.v, .bool only] w (Ret fun v w' => v = .bool (qhI h only) /\ Below w.heap.size w w') := by
 refine qr5 h.name h.value h.domain h.path h.hasE h.exp h.hasA h.age h.sec h.http h.same only ?_
 unfold qn5
 intro k1 w1 hk1 hw1
 obtain ⟨hh1, hB1⟩ := qi4 h w hk1 hw1
 refine ⟨rfl, _, hh1.load1 un_string rfl rfl, ?_⟩
 refine strJ (w := w1) (qgL h) ?_ ?_
 · unfold qgL
   exact BCase.of (fun c => ⟨rfl, _, hh1.load1 un_string rfl rfl, rfl, by rw [if_pos (eq_of_beq c)]⟩) (fun c => ⟨rfl, by rw [if_neg (beq_eq_false_iff_ne.1 c)]⟩)
 refine callK (qsw (qgL h) w1) ?_
 rintro _ w2 ⟨rfl, hb2⟩
 have hB2 := qd hB1 hb2 hB1.size
 have hh2 := hh1.below hb2
 unfold qhI
 refine ⟨_, rfl, BCase.of (fun c => ?_) (fun c => ?_)⟩
 · rw [if_pos (eq_of_beq c)]
   exact ⟨rfl, _, hh2.load1 un_bool rfl rfl, rfl, hB2⟩
 rw [if_neg (beq_eq_false_iff_ne.1 c)]
 refine BCase.of (fun c => ?_) (fun c => ?_)
 · rw [if_pos (eq_of_beq c)]
   refine ⟨rfl, _, hh2.load1 un_bool rfl rfl, BCase.of (fun c2 => ⟨by rw [c2]; rfl, hB2⟩) (fun c2 => ?_)⟩
   rw [c2, Bool.false_or]
   refine BCase.of (fun c3 => ⟨by rw [c3]; rfl, hB2⟩) (fun c3 => ?_)
   rw [c3, Bool.false_or]
   exact ⟨rfl, _, hh2.load1 un_string rfl rfl, rfl, hB2⟩
 · rw [if_neg (beq_eq_false_iff_ne.1 c)]
   exact ⟨rfl, hB2⟩
theorem qt9 {u : Url} (o : u.ok) (hn : u.host.name.length <= 1000000000) (h : Hdr) (ho : qm1 h) (now : Int) (w : World) (he : Env w) : Calls prog qlZ #[u.v, h.v, .int .i64 now] w (Ret fun v w' => v = .int .i64 (givV u h now) /\ Below w.heap.size w w') := by
 refine qtl u.v h.name h.value h.domain h.path h.hasE h.exp h.hasA h.age h.sec h.http h.same now ?_
 unfold qoW
 intro k3 w3 hk3 hw3
 have hB3 := (hw3 ▸ qj w _ : Below w.heap.size w w3)
 have h3 : qk w3 k3 qw u.cells := qk.new hk3 hw3
 intro k4 w4 hk4 hw4
 obtain ⟨hh4, hb4⟩ := qi4 h w3 hk4 hw4
 have hB4 := qd hB3 hb4 hB3.size
 unfold givV
 refine ⟨_, qd7.load0 (h3.below hb4) (Url.len o), ?_⟩
 refine callK (qrI o hn w4 (he.step hB4)) ?_
 rintro _ w5 ⟨rfl, hb5⟩
 have hB5 := qd hB4 hb5 hB4.size
 have hh5 := hh4.below hb5
 refine ⟨_, rfl, BCase.of (fun c => ⟨by rw [if_pos c], hB5⟩) (fun c => ?_)⟩
 rw [if_neg (by rw [c]; decide)]
 refine ⟨_, _, _, _, _, _, _, _, _, _, _, qaK h hh5, ?_⟩
 refine callK (qsZ h ho w5 (he.step hB5)) ?_
 rintro _ w6 ⟨rfl, hb6⟩
 have hB6 := qd hB5 hb6 hB5.size
 refine ⟨_, rfl, BCase.of (fun c => ⟨by rw [if_pos c], hB6⟩) (fun c => ?_)⟩
 rw [if_neg (by rw [c]; decide)]
 refine BCase.of (fun c => ⟨by rw [if_pos (of_decide_eq_true c)], hB6⟩) (fun c => ?_)
 rw [if_neg (of_decide_eq_false c)]
 exact BCase.of (fun c => ⟨by rw [if_pos (show 1099511627776 < now from of_decide_eq_true c)], hB6⟩) (fun c => ⟨by rw [if_neg (show ¬ 1099511627776 < now from of_decide_eq_false c)], hB6⟩)
theorem qCG {h : Hst} (o : h.ok) {w w' : World} {k2 : Nat} (h2 : qk w' k2 qf hst0.cells) (hb : Below w.heap.size w w') (hk : w.heap.size <= k2) {b : Bool} {e : Int} {K : Value -> World -> Prop}
   (hK : ∀ wx, Below w.heap.size w wx -> K (.tuple #[h.v, .bool b, .int .i64 e]) wx) :
   ∃ (wx : World), (Instr.storeAt qf (.pointer (some ⟨k2, 0, none⟩)) h.v).run prog w' = .ok () wx /\ ∃ vr : Value, (qs qf (.pointer (some ⟨k2, 0, none⟩))).run prog wx = .ok vr wx /\ K (.tuple #[vr, .bool b, .int .i64 e]) wx :=
 qv.fin (K := fun vr wx => K (.tuple #[vr, .bool b, .int .i64 e]) wx) (cs := h.cells) (Hst.len o) (Hst.one h) h2 rfl hb hk fun wx hbx => hK wx hbx
def domT (x : Hst × Bool × Int) : Value := .tuple #[x.1.v, .bool x.2.1, .int .i64 x.2.2]
theorem qsy {w0 : World} (he : Env w0) {kt km : Nat} {a : Option Addr} {n c : Nat} {ps : List Pth} {kvs : List (qjj × Int)} {es : List (List Bool)} {rs : List Rul} {w : World} (S : qjH w0 zj zF kt km a n c ps kvs es rs w) {u : Hst} (o : u.ok) (hn : u.name.length <= 1000000000) (t : List UInt8) (ht : t.length <= 100000000) :
   Calls prog qk8 #[.pointer (some ⟨kt, 0, none⟩), u.v, .string (mkS t)] w (Ret fun v w' => v = domT (domV rs u t) /\ Below w.heap.size w w') := by
 apply qr6
 unfold qn6
 intro k4 w4 hk4 hw4
 have hB4 := (hw4 ▸ qj w _ : Below w.heap.size w w4)
 have h4 : qk w4 k4 qf u.cells := qk.new hk4 hw4
 intro k6 w6 hk6 hw6
 have hb6 := (hw6 ▸ qj w4 _ : Below w4.heap.size w4 w6)
 have hB6 := qd hB4 hb6 hB4.size
 have h6 : qk w6 k6 qf hst0.cells := qk.new hk6 hw6
 have h46 := h4.below hb6
 have hk6w : w.heap.size <= k6 := by have := hB4.size; omega
 have fin : ∀ {wx : World} {h : Hst} {b : Bool} {e : Int}, h.ok -> domV rs u t = (h, b, e) -> Below w6.heap.size w6 wx -> ∃ wy, (Instr.storeAt qf (.pointer (some ⟨k6, 0, none⟩)) h.v).run prog wx = .ok () wy /\ ∃ vr : Value, (qs qf (.pointer (some ⟨k6, 0, none⟩))).run prog wy = .ok vr wy /\
     ((.tuple #[vr, .bool b, .int .i64 e] : Value) = domT (domV rs u t) /\ Below w.heap.size w wy) := fun {wx h b e} oh hv hbx =>
   qCG oh (h6.below hbx) (qd hB6 hbx hB6.size) hk6w (K := fun v wy => v = domT (domV rs u t) /\ Below w.heap.size w wy) fun wy hb => ⟨by rw [hv]; rfl, hb⟩
 refine BCase.of (fun c1 => ?_) (fun c1 => ?_)
 · have c1 : t = [] := eq_of_beq c1
   exact ⟨_, qv.load0 h46 (Hst.len o), fin o (by unfold domV; rw [if_pos c1]) (Below.refl _ _)⟩
 have c1 : t ≠ [] := beq_eq_false_iff_ne.1 c1
 have hV : domV rs u t = match jl t with
     | none => (hst0, false, 101)
     | some d => if (pubB rs d && !qbA d u) = true then (d, false, 102) else if (!domB u d) = true then (d, false, 103) else (d, pubB rs d, 0) := if_neg c1
 refine callK (qmh t (by omega) w6 (he.step (S.below hB6).hb)) ?_
 rintro _ w7 ⟨rfl, hb7⟩
 rw [qdq]
 refine ⟨_, _, rfl, ?_⟩
 have hok := qgX fun x hx => qdN (s := t) hx
 refine qv.new (zs := hst0.cells) (cs := ((jl t).getD hst0).cells) rfl (Hst.len hok) (Hst.one _) w7 fun k9 w9 hk9 h9 hb9 => ?_
 have hb69 := qd hb7 hb9 hb7.size
 cases hd : jl t with
 | none =>
   rw [hd] at hV h9
   refine worldJ (fun _ => False) (BCase.yes rfl ⟨_, qv.load0 h9 rfl, fin rfl hV hb69⟩) (fun w hf => hf.elim)
 | some d =>
   rw [hd] at hV h9 hok
   simp only [Option.getD_some] at h9 hok
   have hdn : d.name.length <= 1000000000 := by have := qgT hd; omega
   have l9 : ∀ {wx}, Below w9.heap.size w9 wx -> (Instr.loadAt qf (.pointer (some ⟨k9, 0, none⟩))).run prog wx = .ok d.v wx := fun hb => qv.load0 (h9.below hb) (Hst.len hok)
   have l4 : ∀ {wx}, Below w6.heap.size w6 wx -> (Instr.loadAt qf (.pointer (some ⟨k4, 0, none⟩))).run prog wx = .ok u.v wx := fun hb => qv.load0 (h46.below hb) (Hst.len o)
   have hV : domV rs u t = if (pubB rs d && !qbA d u) = true then (d, false, 102) else if (!domB u d) = true then (d, false, 103) else (d, pubB rs d, 0) := hV
   refine worldJ (fun w' => domV rs u t = (d, pubB rs d, 0) /\ Below w9.heap.size w9 w') ?_ ?_
   · refine BCase.no rfl ?_
     refine qgN (fun b w' => b = (pubB rs d && !qbA d u) /\ Below w9.heap.size w9 w') ?_ ?_
     · refine ⟨_, l9 (Below.refl _ _), ?_⟩
       refine callK (qmH he (S.below (qd hB6 hb69 hB6.size)) hok hdn) ?_
       rintro _ w10 ⟨rfl, hb10⟩
       refine ⟨_, rfl, BCase.of (fun c2 => ?_) (fun c2 => ⟨by rw [c2]; rfl, hb10⟩)⟩
       exact ⟨_, l9 hb10, _, l4 (qd hb69 hb10 hb69.size), _, qqa hok o w10, by rw [c2]; rfl, hb10⟩
     · rintro b w10 ⟨rfl, hb10⟩
       have hb610 := qd hb69 hb10 hb69.size
       refine BCase.of (fun c2 => ⟨_, l9 hb10, fin hok (by rw [hV, if_pos c2]) hb610⟩) (fun c2 => ?_)
       rw [if_neg (by rw [c2]; decide)] at hV
       refine ⟨_, l4 hb610, _, l9 hb10, ?_⟩
       refine callK (qiK o hok hn hdn w10 (he.step (S.below (qd hB6 hb610 hB6.size)).hb)) ?_
       rintro _ w11 ⟨rfl, hb11⟩
       have hb911 := qd hb10 hb11 hb10.size
       refine ⟨_, rfl, BCase.of (fun c3 => ⟨_, l9 hb911, fin hok (by rw [hV, if_pos c3]) (qd hb69 hb911 hb69.size)⟩) (fun c3 => ⟨?_, hb911⟩)⟩
       rw [hV, if_neg (by rw [c3]; decide)]
   · rintro w10 ⟨hV, hb10⟩
     have hd10 := qT w10
     have hb910 := qd hb10 hd10 hb10.size
     have hb610 := qd hb69 hb910 hb69.size
     have pub := qmH he (S.below (qd hB6 hb610 hB6.size)) hok hdn
     refine ⟨⟨_, l9 hb910, _, l9 hb910, ?_⟩, _, l9 hb910, ⟨_, l9 hb910, ?_⟩, ?_⟩
     · refine callK pub ?_
       rintro _ w11 ⟨rfl, hb11⟩
       exact ⟨_, rfl, fin hok hV (qd hb610 hb11 hb610.size)⟩
     · refine callK pub ?_
       rintro _ w11 ⟨rfl, hb11⟩
       exact ⟨_, rfl, fin hok hV (qd hb610 hb11 hb610.size)⟩
     · refine callK pub ?_
       rintro _ w11 ⟨rfl, hb11⟩
       exact ⟨_, rfl, _, l9 (qd hb910 hb11 hb910.size), fin hok hV (qd hb610 hb11 hb610.size)⟩
end Go.Proofs.YtlfolncaghkmcaaGreatDoor
namespace Go.Proofs.YtlfolncaghkmcaaGreatDoor
open Go.Pk
open Go.RowKit (Below)
theorem qm5 (name value : List UInt8) {d : Hst} (o : d.ok) (only : Bool) (path : List UInt8) (sec http : Bool) (same exp born used : Int) (w : World) :
   (Instr.build qe #[(0, .string (mkS name)), (1, .string (mkS value)), (2, d.v), (3, .bool only), (4, .string (mkS path)), (5, .bool sec), (6, .bool http), (7, .int .i64 same), (8, .int .i64 exp), (9, .int .i64 born), (10, .int .i64 used)]).run prog w =
     .ok (Cky.v ⟨name, value, d, only, path, sec, http, same, exp, born, used, 0⟩) w := by
 obtain ⟨k, n, a⟩ := d
 obtain ⟨x0, x1, x2, x3, x4, x5, x6, x7, x8, x9, x10, x11, x12, x13, x14, x15, rfl⟩ := qfY a o
 kernel_rfl
def qej (rs : List Rul) (u : Url) (h : Hdr) (now : Int) (w : World) (v : Value) (w' : World) : Prop := v = ckyT (takV rs u h now) /\ Below w.heap.size w w'
theorem qvv {w0 : World} (he : Env w0) {kt km : Nat} {a : Option Addr} {n c : Nat} {ps : List Pth} {kvs : List (qjj × Int)} {es : List (List Bool)} {rs : List Rul} {w : World} (S : qjH w0 zj zF kt km a n c ps kvs es rs w)
   {u : Url} (o : u.ok) (hn : u.host.name.length <= 1000000000) (hp : u.path.length <= 1000000000) (h : Hdr) (ho : qm1 h) (now : Int) :
   Calls prog qkP #[.pointer (some ⟨kt, 0, none⟩), u.v, h.v, .int .i64 now] w (Ret (qej rs u h now w)) := by
 refine quw _ u.v h.name h.value h.domain h.path h.hasE h.exp h.hasA h.age h.sec h.http h.same now ?_
 unfold qqG
 intro k5 w5 hk5 hw5
 have hB5 := (hw5 ▸ qj w _ : Below w.heap.size w w5)
 have h5 : qk w5 k5 qw u.cells := qk.new hk5 hw5
 intro k6 w6 hk6 hw6
 obtain ⟨hh6, hb6⟩ := qi4 h w5 hk6 hw6
 have hB6 := qd hB5 hb6 hB5.size
 intro k8 w8 hk8 hw8
 have hb8 := (hw8 ▸ qj w6 _ : Below w6.heap.size w6 w8)
 have hB8 := qd hB6 hb8 hB6.size
 have h8 : qk w8 k8 qe cky0.cells := qk.new hk8 hw8
 have h58 := (h5.below hb6).below hb8
 have h68 := hh6.below hb8
 have hk8w : w.heap.size <= k8 := by have := hB6.size; omega
 have hE8 := he.step (S.below hB8).hb
 clear h5 hh6 hb6 hb8 hk5 hw5 hk6 hw6 hk8 hw8 hB5 hB6
 have fin : ∀ {wx : World} {c : Cky} {e : Int}, c.ok -> takV rs u h now = (c, e) -> Below w8.heap.size w8 wx -> ∃ wy, (Instr.storeAt qe (.pointer (some ⟨k8, 0, none⟩)) c.v).run prog wx = .ok () wy /\ ∃ vr : Value, (qs qe (.pointer (some ⟨k8, 0, none⟩))).run prog wy = .ok vr wy /\
     qej rs u h now w (.tuple #[vr, .int .i64 e]) wy := fun {wx c e} oc hv hbx =>
   qn.fin (K := fun vr wy => qej rs u h now w (.tuple #[vr, .int .i64 e]) wy) (cs := c.cells) (Cky.len oc) (Cky.one c) (h8.below hbx) rfl (qd hB8 hbx hB8.size) hk8w fun wy hb => ⟨by rw [hv]; rfl, hb⟩
 refine ⟨_, qd7.load0 h58 (Url.len o), _, _, _, _, _, _, _, _, _, _, _, qaK h h68, ?_⟩
 refine callK (qt9 o hn h ho now w8 hE8) ?_
 rintro _ w9 ⟨rfl, hb9⟩
 refine ⟨_, rfl, BCase.of (fun c1 => ?_) (fun c1 => ?_)⟩
 · have c1 : givV u h now ≠ 0 := by simpa using c1
   exact fin (c := cky0) rfl (by unfold takV; rw [if_pos c1]) hb9
 have c1 : ¬ givV u h now ≠ 0 := by simpa using c1
 have hT : takV rs u h now = if errV u h (domV rs u.host h.domain) ≠ 0 then (cky0, errV u h (domV rs u.host h.domain)) else (ckyV u h (domV rs u.host h.domain) now, 0) := by unfold takV; rw [if_neg c1]
 have hB9 := qd hB8 hb9 hB8.size
 refine ⟨rfl, _, qv.load (h58.below hb9) (i := 1) (us := u.host.cells) (Hst.len o) (fun j hj => qeV o hj), rfl, _, (h68.below hb9).load1 un_string rfl rfl, ?_⟩
 refine callK (qsy he (S.below hB9) o hn h.domain (by have := ho.domain; omega)) ?_
 rintro _ w10 ⟨rfl, hb10⟩
 have hb810 := qd hb9 hb10 hb9.size
 have hdo := qz1 (rs := rs) o h.domain
 have herr : errV u h (domV rs u.host h.domain) = if (domV rs u.host h.domain).2.2 ≠ 0 then (domV rs u.host h.domain).2.2 else if (h.sec && !u.sec) = true then 104 else if (decide (h.same = 1) && !h.sec) = true then 105 else if qhI h (domV rs u.host h.domain).2.1 = true then 106 else 0 := rfl
 have hck : ckyV u h (domV rs u.host h.domain) now = ⟨h.name, h.value, (domV rs u.host h.domain).1, (domV rs u.host h.domain).2.1, if h.path = [] then defV u.path else h.path, h.sec, h.http, h.same, expV h now, now, now, 0⟩ := rfl
 unfold domT
 generalize domV rs u.host h.domain = D at *
 obtain ⟨d, only, e⟩ := D
 simp only at hdo herr hck
 refine ⟨_, _, _, rfl, ?_⟩
 refine qv.new (zs := hst0.cells) (cs := d.cells) rfl (Hst.len hdo) (Hst.one d) w10 fun k11 w11 hk11 h11 hb11 => ?_
 have hb811 := qd hb810 hb11 hb810.size
 have h5B := h58.below hb811
 have h6B := h68.below hb811
 refine ⟨fun n w' => n = errV u h (d, only, e) /\ Below w11.heap.size w11 w', ?_, ?_⟩
 · refine BCase.of (fun c2 => ⟨?_, Below.refl _ _⟩) (fun c2 => ?_)
   · have c2 : e ≠ 0 := by simpa using c2
     rw [herr, if_pos c2]
   have c2 : ¬ e ≠ 0 := by simpa using c2
   rw [if_neg c2] at herr
   refine j3 (w := w11) (h.sec && !u.sec) ?_ ?_
   · exact ⟨rfl, _, h6B.load1 un_bool rfl rfl, BCase.of (fun c3 => ⟨rfl, _, h5B.load1 un_bool rfl (i := 0) rfl, rfl, by rw [c3]; rfl⟩) (fun c3 => ⟨rfl, by rw [c3]; rfl⟩)⟩
   refine BCase.of (fun c3 => ⟨by rw [herr, if_pos c3], Below.refl _ _⟩) (fun c3 => ?_)
   rw [if_neg (by rw [c3]; decide)] at herr
   refine j3 (w := w11) (decide (h.same = 1) && !h.sec) ?_ ?_
   · exact ⟨rfl, _, h6B.load1 qK rfl rfl, BCase.of (fun c4 => ⟨rfl, _, h6B.load1 un_bool rfl rfl, rfl, by rw [decide_eq_true (eq_of_beq c4)]; rfl⟩) (fun c4 => ⟨rfl, by rw [decide_eq_false (beq_eq_false_iff_ne.1 c4)]; rfl⟩)⟩
   refine BCase.of (fun c4 => ⟨by rw [herr, if_pos c4], Below.refl _ _⟩) (fun c4 => ?_)
   rw [if_neg (by rw [c4]; decide)] at herr
   refine ⟨_, _, _, _, _, _, _, _, _, _, _, qaK h h6B, ?_⟩
   refine callK (qsx h only w11) ?_
   rintro _ w12 ⟨rfl, hb12⟩
   refine ⟨_, rfl, BCase.of (fun c5 => ⟨by rw [herr, if_pos c5], hb12⟩) (fun c5 => ⟨?_, hb12⟩)⟩
   rw [herr, if_neg (by rw [c5]; decide)]
   exact Decidable.not_not.1 c2
 intro e2
 refine AllJ.of ?_ _
 rintro w12 ⟨rfl, hb12⟩
 have hb812 := qd hb811 hb12 hb811.size
 refine BCase.of (fun c2 => ?_) (fun c2 => ?_)
 · have c2 : errV u h (d, only, e) ≠ 0 := by simpa using c2
   exact fin (c := cky0) rfl (by rw [hT, if_pos c2]) hb812
 have c2 : ¬ errV u h (d, only, e) ≠ 0 := by simpa using c2
 rw [if_neg c2] at hT
 have h5C := h5B.below hb12
 have h6C := h6B.below hb12
 have h11C := h11.below hb12
 refine ⟨rfl, _, h6C.load1 un_string rfl rfl, ?_⟩
 refine strJ (w := w12) (if h.path = [] then defV u.path else h.path) ?_ ?_
 · refine BCase.of (fun c3 => ?_) (fun c3 => ⟨rfl, by rw [if_neg (beq_eq_false_iff_ne.1 c3)]⟩)
   refine ⟨rfl, _, h5C.load1 un_string rfl (qg5 o), ?_⟩
   refine callK (qr1 u.path (by omega) w12) ?_
   rintro _ w13 ⟨rfl, hw13⟩
   exact ⟨_, rfl, hw13, by rw [if_pos (eq_of_beq c3)]⟩
 refine ⟨rfl, _, fun v hv => (h6C.below hv).load1 un_string rfl rfl, rfl, _, fun v hv => (h6C.below hv).load1 un_string rfl rfl, _, fun v hv => qv.load0 (h11C.below hv) (Hst.len hdo), rfl, _, fun v hv => (h6C.below hv).load1 un_bool rfl rfl, rfl, _, fun v hv => (h6C.below hv).load1 un_bool rfl rfl, rfl, _, fun v hv => (h6C.below hv).load1 qK rfl rfl, _, _, _, _, _, _, _, _, _, _, _, fun v hv => qaK h (h6C.below hv), _, fun v hv => qaF (qrU h now v) hv, _, fun v hv => qm5 _ _ hdo _ _ _ _ _ _ _ _ v, ?_⟩
 intro wq hq
 exact fin hdo (by rw [hT, hck]) (qd hb812 hq hb812.size)
end Go.Proofs.YtlfolncaghkmcaaGreatDoor
set_option linter.unusedSectionVars false
namespace Go.Pk
open Go.RowKit (Below)
def evS (s : List UInt8) : Value := .string (mkS s)
def evN (n : Int) : Value := .int .i64 n
theorem qpk.str {P : Program} {kt : TypeId} (hu : P.underlying kt = some .string) : qpk P kt evS where
 check := by
   intro b k w
   unfold Instr.checkKey
   rw [Sem.run_bind, jE hu, Result.andThen_ok]
   rfl
 find := by
   intro β ev k es kvs w h
   have now : ∀ (es : List MapEntry) (kvs : List (List UInt8 × β)) (i : Nat), KVg evS ev es kvs -> Instr.findNow .string (evS k) es i = some ((qfZ k kvs i).map fun p => (p.1, ev p.2)) := by
     intro es
     induction es with
     | nil =>
       intro kvs i h
       have : kvs = [] := by unfold KVg at h; simp at h; exact h
       subst this; rfl
     | cons e es ih =>
       intro kvs i h
       cases kvs with
       | nil => unfold KVg at h; simp at h
       | cons p kvs =>
         obtain ⟨k', v⟩ := p
         unfold KVg at h
         simp only [List.map_cons, List.cons.injEq, Prod.mk.injEq] at h
         obtain ⟨⟨hk, hv⟩, ht⟩ := h
         unfold Instr.findNow qfZ
         rw [hk]
         have he : Instr.sameNow .string (evS k) (evS k') = some (decide (k = k')) := by
           have e2 : (mkS k == mkS k') = (k == k') := by
             show ((mkS k).data == (mkS k').data) = _
             simp [mkS]
           show some (mkS k == mkS k') = _
           rw [e2]
           congr 1
           rw [Bool.eq_iff_iff]; simp
         rw [he]
         by_cases e1 : k = k'
         · simp [e1, hv]
         · simp only [e1, decide_false, if_false]
           exact ih kvs (i + 1) ht
   unfold Instr.findKey
   rw [Sem.run_bind, jE hu, Result.andThen_ok, now es kvs 0 h]
   rfl
theorem qyC (s : List UInt8) : (mkS s == mkS s) = true := by
 show ((mkS s).data == (mkS s).data) = true
 simp
theorem qBK (s : List UInt8) : Instr.sameBits 10000 (evS s) (evS s) = true := by
 simp [Instr.sameBits, evS, qyC]
def Plc.tail (p : Plc) : List Value := [.bool p.only, .string (mkS p.path)]
def Plc.cells (p : Plc) : List Value := .string (mkS p.name) :: (p.host.cells ++ p.tail)
def Plc.v (p : Plc) : Value := .agg p.cells.toArray
theorem Plc.len (p : Plc) : p.cells.length = 21 := by unfold Plc.cells; rw [List.length_cons, List.length_append, Hst.len p.hk]; rfl
theorem Plc.one (p : Plc) : One1 p.cells := qx rfl (qnz (Hst.one _) (qx rfl (qx rfl zT)))
def Kpt.cells (k : Kpt) : List Value := k.c.cells ++ [.string (mkS k.site)]
def Kpt.v (k : Kpt) : Value := .agg k.cells.toArray
theorem Kpt.len (k : Kpt) : k.cells.length = 30 := by unfold Kpt.cells; rw [List.length_append, Cky.len k.ok]; rfl
theorem Kpt.one (k : Kpt) : One1 k.cells := qnz (Cky.one _) (qx rfl zT)
def kpt0 : Kpt := ⟨cky0, [], rfl⟩
theorem qfg (k : Kpt) {j : Nat} (h : j < 29) : k.cells[j]? = k.c.cells[j]? := by
 unfold Kpt.cells
 rw [List.getElem?_append_left (by rw [Cky.len k.ok]; exact h)]
theorem qh1 (k : Kpt) : k.cells[29]? = some (.string (mkS k.site)) := by
 unfold Kpt.cells
 rw [List.getElem?_append_right (by rw [Cky.len k.ok]; decide), Cky.len k.ok]; rfl
structure Shf (t : TypeId) (p ma ms : Nat) (L : List Kpt) (last : Int) (w : World) : Prop where
 cell : qk w p t [.map (some ma), .map (some ms), .int .i64 last]
 ex : ∃ M S, MapS Plc.v Kpt.v w ma M /\ MapS evS evN w ms S /\ MRep M L /\ SRep S L
 inv : ShI L last
 n1 : p ≠ ma
 n2 : p ≠ ms
 n3 : ma ≠ ms
theorem Shf.lts {t : TypeId} {p ma ms : Nat} {L : List Kpt} {last : Int} {w : World} (h : Shf t p ma ms L last w) : p < w.heap.size /\ ma < w.heap.size /\ ms < w.heap.size := by
 obtain ⟨M, S, h1, h2, _⟩ := h.ex
 exact ⟨h.cell.lt, h1.lt, h2.lt⟩
theorem Shf.keep {t : TypeId} {p ma ms : Nat} {L : List Kpt} {last : Int} {w w' : World} (h : Shf t p ma ms L last w) (hk : ∀ k ∈ [p, ma, ms], w'.heap[k]? = w.heap[k]?) : Shf t p ma ms L last w' := by
 obtain ⟨M, S, h1, h2, h3⟩ := h.ex
 exact ⟨h.cell.block (hk p (by simp)), ⟨M, S, h1.keep (hk ma (by simp)), h2.keep (hk ms (by simp)), h3⟩, h.inv, h.n1, h.n2, h.n3⟩
theorem Shf.below {t : TypeId} {p ma ms : Nat} {L : List Kpt} {last : Int} {w w' : World} (h : Shf t p ma ms L last w) (hb : Below w.heap.size w w') : Shf t p ma ms L last w' :=
 h.keep fun k hk => hb.block k (by have := h.lts; simp at hk; rcases hk with rfl | rfl | rfl <;> omega)
theorem Shf.put {t : TypeId} {p ma ms : Nat} {L : List Kpt} {last : Int} {w w' : World} {r : Nat} (h : Shf t p ma ms L last w) (hg : w.grownBy w' (some r)) (hr : r ∉ [p, ma, ms]) : Shf t p ma ms L last w' :=
 h.keep fun k hk => hg.block k (by have := h.lts; simp at hk; rcases hk with rfl | rfl | rfl <;> omega) (fun e => hr (by cases e; exact hk))
theorem Shf.chg {S : List Nat} {t : TypeId} {p ma ms : Nat} {L : List Kpt} {last : Int} {w w' : World} (h : Shf t p ma ms L last w) (hc : Chg S w w') (hr : ∀ k ∈ [p, ma, ms], k ∉ S) : Shf t p ma ms L last w' :=
 h.keep fun k hk => hc.block k (by have := h.lts; simp at hk; rcases hk with rfl | rfl | rfl <;> omega) (hr k hk)
end Go.Pk
namespace Go.Proofs.YtlfolncaghkmcaaGreatDoor
open Go.Pk
open Go.RowKit (Below)
theorem qBR : ∃ fs, prog.underlying j6 = some (.struct fs) := ⟨_, rfl⟩
theorem qz9 (a b : Plc) : eqV prog 10000 j6 a.v b.v = some (decide (a = b)) := by
 have e : eqV prog 10000 j6 a.v b.v = some ((a.name == b.name) && (qbA a.host b.host && ((a.only == b.only) && ((a.path == b.path) && true)))) := by
   obtain ⟨a1, ⟨k, n, a⟩, a4, a5, o⟩ := a
   obtain ⟨b1, ⟨k', n', b⟩, b4, b5, p⟩ := b
   obtain ⟨x0, x1, x2, x3, x4, x5, x6, x7, x8, x9, x10, x11, x12, x13, x14, x15, rfl⟩ := qfY a o
   obtain ⟨y0, y1, y2, y3, y4, y5, y6, y7, y8, y9, y10, y11, y12, y13, y14, y15, rfl⟩ := qfY b p
   kernel_rfl
 rw [e]
 congr 1
 rw [Bool.eq_iff_iff]
 simp only [Bool.and_eq_true, beq_iff_eq, qaD a.hk b.hk, dTx, and_true]
 obtain ⟨a1, a2, a4, a5, o⟩ := a
 obtain ⟨b1, b2, b4, b5, p⟩ := b
 simp
theorem qs5 : qpk prog j6 Plc.v := by
 obtain ⟨fs, h⟩ := qBR
 refine qpk.struct h qz9 (fun b k w => ?_)
 obtain ⟨a1, ⟨k, n, a⟩, a4, a5, o⟩ := k
 obtain ⟨x0, x1, x2, x3, x4, x5, x6, x7, x8, x9, x10, x11, x12, x13, x14, x15, rfl⟩ := qfY a o
 kernel_rfl
theorem qzt (k : Plc) : Instr.sameBits 10000 k.v k.v = true := by
 obtain ⟨a1, ⟨k, n, a⟩, a4, a5, o⟩ := k
 obtain ⟨x0, x1, x2, x3, x4, x5, x6, x7, x8, x9, x10, x11, x12, x13, x14, x15, rfl⟩ := qfY a o
 simp [Plc.v, Plc.cells, Plc.tail, Hst.cells, adC, Instr.sameBits, qyC]
theorem qvW : qpk prog qh evS := qpk.str un_string
theorem qB0 : Whl prog j6 21 := ⟨⟨_, _, quS⟩, by kernel_rfl⟩
theorem qhO : Whl prog qL 30 := ⟨⟨_, _, qqA⟩, by kernel_rfl⟩
end Go.Proofs.YtlfolncaghkmcaaGreatDoor
set_option maxRecDepth 100000
namespace Go.Proofs.YtlfolncaghkmcaaGreatDoor
open Go.Pk
open Go.RowKit (Below)
--  cracknel/shelf.New
def qrS  (w : World) (K : Value -> World -> Prop) : Prop :=
 ∀ k1 w1, k1 = w.heap.size -> w1 = w.alloc (.map #[] 0) ->
 ∀ k2 w2, k2 = w1.heap.size -> w2 = w1.alloc (.map #[] 0) ->
 ∀ k4 w4, k4 = w2.heap.size -> w4 = w2.alloc (.cells #[.map (some k1), .map (some k2), .int .i64 (0 : Int)] qY) ->
 K (.pointer (some ⟨k4, 0, none⟩)) w4
theorem qwe  {w : World} {K : Value -> World -> Prop} (h : qrS  w K) : Calls prog qh5 #[] w (Ret K) :=
 qm (c := qq Tryz.f26) (by kernel_rfl) Tryz.func26 (by kernel_rfl) [] [] (of_decide_eq_true (by kernel_rfl)) _ (by kernel_rfl) h

--  (*cracknel/shelf.Shelf).Put
def qk2 (p0 : Option Addr) (v1 : Value) (s2 : List UInt8) (w : World) (K : Value -> World -> Prop) : Prop :=
 ∀ k4 w4, k4 = w.heap.size -> w4 = w.alloc (.cells (Value.cells v1) qe) ->
 (Option.isSome p0 = true) /\
 (Option.isSome p0 = true) /\
 ∃ (m13 : Option Nat), (∀ u13, Below w4.heap.size w4 u13 -> Ld qz (Option.map (fun x => x.add 0) p0) u13 (.map m13)) /\
 ∃ v14, (∀ u14, Below w4.heap.size w4 u14 -> Ld qe (some ⟨k4, 0, none⟩) u14 v14) /\
 ∃ v15, (∀ u15, Below w4.heap.size w4 u15 -> Calls prog qii #[v14] u15 fun e15 w15 => e15 = .returned v15 /\ Below u15.heap.size u15 w15) /\
 ∃ v16_0 b16_1, (∀ u16, Below w4.heap.size w4 u16 -> (Instr.lookup qz (.map m13) v15 true).run prog u16 = .ok (.tuple #[v16_0, .bool b16_1]) u16) /\
 ∀ k7, w4.heap.size <= k7 ->
 ∀ wq, Below w4.heap.size w4 wq ->
 wq.heap[k7]? = some (.cells qf7 qL) ->
 ∃ wx, Sv qL (some ⟨k7, 0, none⟩) v16_0 wq wx /\
 ∃ J : FP [],
 (BCase b16_1
 (∃ v21, Ld qe (some ⟨k4, 0, none⟩) wx v21 /\
 Calls prog qdM #[.pointer p0, v21] wx fun e22 w22 => ∃ b22, e22 = .returned (.bool b22) /\
 (true = true) /\
 (true = true) /\
 (true = true) /\
 (true = true) /\
 (∃ n25, Ld qA (some ⟨k7, 26, none⟩) (World.drew w22) (.int .i64 n25) /\
 (true = true) /\
 (∃ n28, Ld qt (some ⟨k7, 28, none⟩) (World.drew w22) (.int .i64 n28) /\
 ∃ wx_1, Sv qA (some ⟨k4, 26, none⟩) (.int .i64 n25) (World.drew w22) wx_1 /\
 (true = true) /\
 ∃ wx_2, Sv qt (some ⟨k4, 28, none⟩) (.int .i64 n28) wx_1 wx_2 /\
 J wx_2) /\
 ∃ wx_3, Sv qA (some ⟨k4, 26, none⟩) (.int .i64 n25) (World.drew w22) wx_3 /\
 ∃ n28_1, Ld qt (some ⟨k7, 28, none⟩) wx_3 (.int .i64 n28_1) /\
 (true = true) /\
 ∃ wx_4, Sv qt (some ⟨k4, 28, none⟩) (.int .i64 n28_1) wx_3 wx_4 /\
 J wx_4) /\
 ∃ n28_2, Ld qt (some ⟨k7, 28, none⟩) (World.drew w22) (.int .i64 n28_2) /\
 ∃ n25_1, Ld qA (some ⟨k7, 26, none⟩) (World.drew w22) (.int .i64 n25_1) /\
 (true = true) /\
 ∃ wx_5, Sv qA (some ⟨k4, 26, none⟩) (.int .i64 n25_1) (World.drew w22) wx_5 /\
 (true = true) /\
 ∃ wx_6, Sv qt (some ⟨k4, 28, none⟩) (.int .i64 n28_2) wx_5 wx_6 /\
 J wx_6)
 ((Option.isSome p0 = true) /\
 (Option.isSome p0 = true) /\
 ∃ n34, Ld qt (Option.map (fun x => x.add 2) p0) wx (.int .i64 n34) /\
 (Option.isSome p0 = true) /\
 (Option.isSome p0 = true) /\
 ∃ wx_7, Sv qt (Option.map (fun x => x.add 2) p0) (.int .i64 (i64.wrap (n34 + (1 : Int)))) wx wx_7 /\
 (Option.isSome p0 = true) /\
 (Option.isSome p0 = true) /\
 ∃ n41, Ld qt (Option.map (fun x => x.add 2) p0) wx_7 (.int .i64 n41) /\
 (true = true) /\
 ∃ wx_8, Sv qt (some ⟨k4, 28, none⟩) (.int .i64 n41) wx_7 wx_8 /\
 J wx_8)) /\
 AllJ 24 (∀ wj, J wj ->
 (Option.isSome p0 = true) /\
 (Option.isSome p0 = true) /\
 ∃ (m46 : Option Nat), (∀ u46, Below wj.heap.size wj u46 -> Ld qz (Option.map (fun x => x.add 0) p0) u46 (.map m46)) /\
 ∃ v47, (∀ u47, Below wj.heap.size wj u47 -> Ld qe (some ⟨k4, 0, none⟩) u47 v47) /\
 ∃ v48, (∀ u48, Below wj.heap.size wj u48 -> Calls prog qii #[v47] u48 fun e48 w48 => e48 = .returned v48 /\ Below u48.heap.size u48 w48) /\
 ∃ v49, (∀ u49, Below wj.heap.size wj u49 -> Ld qe (some ⟨k4, 0, none⟩) u49 v49) /\
 ∃ v51, (∀ u51, Below wj.heap.size wj u51 -> (Instr.build qL #[(0, v49), (1, .string (mkS s2))]).run prog u51 = .ok v51 u51) /\
 ∀ wq_1, Below wj.heap.size wj wq_1 ->
 ∃ wx_9, (Instr.mapUpdate qz (.map m46) v48 v51).run prog wq_1 = .ok () wx_9 /\
 (Option.isSome p0 = true) /\
 (Option.isSome p0 = true) /\
 ∃ (m55 : Option Nat), Ld zu (Option.map (fun x => x.add 1) p0) wx_9 (.map m55) /\
 ∃ n57, (Instr.lookup zu (.map m55) (.string (mkS s2)) false).run prog wx_9 = .ok (.int .i64 n57) wx_9 /\
 ∃ wx_10, (Instr.mapUpdate zu (.map m55) (.string (mkS s2)) (.int .i64 (i64.wrap (n57 + (1 : Int))))).run prog wx_9 = .ok () wx_10 /\
 K (.bool b16_1) wx_10)
theorem qpO (p0 : Option Addr) (v1 : Value) (s2 : List UInt8) {w : World} {K : Value -> World -> Prop} (h : qk2 p0 v1 s2 w K) : Calls prog qi2 #[.pointer p0, v1, .string (mkS s2)] w (Ret K) :=
 qm (c := qq Tryz.f35) (by kernel_rfl) Tryz.func35 (by kernel_rfl) [(3000003, [(0, .one (.bool)), (1, .one (.bool)), (2, .one (.bool)), (3, .one (.bool)), (4, .one (.bool)), (5, .one (.bool)), (6, .one (.bool)), (7, .one (.bool)), (8, .one (.bool)), (9, .one (.bool)), (10, .one (.bool))]), (4, []), (3000015, [(0, .one (.bool)), (1, .one (.bool)), (2, .one (.bool)), (7, .one (.bool)), (3, .one (.bool)), (4, .one (.bool)), (5, .one (.bool)), (6, .one (.bool)), (8, .one (.bool))])] [.pointer p0, v1, .string (mkS s2)] (of_decide_eq_true (by kernel_rfl)) _ (by kernel_rfl) h

--  (*cracknel/shelf.Shelf).Expire
def qjs (p0 : Option Addr) (n1 : Int) (w : World) (K : Value -> World -> Prop) : Prop :=
 (Option.isSome p0 = true) /\
 (Option.isSome p0 = true) /\
 ∃ (m13 : Option Nat), Ld qz (Option.map (fun x => x.add 0) p0) w (.map m13) /\
 ∃ w14 p14, (Instr.range qz (.map m13)).run prog w = .ok (.pointer p14) w14 /\
 ∃ I : Nat -> FP [.one (.slice)],
 (∃ m, I m none 0 0 w14) /\
 ∀ m a5 l5 c5, AllJ 15 (∀ wl, I m a5 l5 c5 wl ->
 ((∃ w15, (Instr.next (.pointer p14) false qjk).run prog wl = .ok (.tuple #[.bool false]) w15 /\
 ∃ I_1 : Nat -> FP [.one (.int .i64)],
 (∃ m_1, I_1 m_1 (0 : Int) w15) /\
 ∀ m_1 n31, AllJ 8 (∀ wl_1, I_1 m_1 n31 wl_1 ->
 BCase (decide (n31 < ((l5 : Nat) : Int)))
 (((0 <= n31 /\ n31 < ((l5 : Nat) : Int)) /\ Option.isSome a5 = true) /\
 ∃ v34, Ld qe (ql a5 n31 29) wl_1 v34 /\
 ∀ k9 w9, k9 = wl_1.heap.size -> w9 = wl_1.alloc (.cells qG qe) ->
 ∃ wx, Sv qe (some ⟨k9, 0, none⟩) v34 w9 wx /\
 ∃ v36, Ld qe (some ⟨k9, 0, none⟩) wx v36 /\
 Calls prog qdM #[.pointer p0, v36] wx fun e37 w37 => ∃ b37, e37 = .returned (.bool b37) /\
 ∃ m'_1 : Nat, m'_1 < m_1 /\ I_1 m'_1 (i64.wrap (n31 + (1 : Int))) w37)
 (K (.int .i64 ((l5 : Nat) : Int)) wl_1))) \/
 (∃ w15_1 k15 v15, (Instr.next (.pointer p14) false qjk).run prog wl = .ok (.tuple #[.bool true, k15, v15]) w15_1 /\
 ∃ v17_0 v17_1, (Instr.entry (.pointer p14)).run prog w15_1 = .ok (.tuple #[v17_0, v17_1]) w15_1 /\
 ∀ k7 w7, k7 = w15_1.heap.size -> w7 = w15_1.alloc (.cells qf7 qL) ->
 ∃ wx_1, Sv qL (some ⟨k7, 0, none⟩) v17_1 w7 wx_1 /\
 (true = true) /\
 (true = true) /\
 ∃ n21, Ld qA (some ⟨k7, 25, none⟩) wx_1 (.int .i64 n21) /\
 BCase (decide (n21 <= n1))
 ((true = true) /\
 ∃ v26, Ld qe (some ⟨k7, 0, none⟩) wx_1 v26 /\
 ∃ w27 a27 l27 c27, (Instr.buildSlice qu 1 #[(0, v26)]).run prog wx_1 = .ok (.slice a27 l27 c27) w27 /\
 ∃ w28 a28 l28 c28, (Builtin.append_ #[qu, qu] qu #[.slice a5 l5 c5, .slice a27 l27 c27]).run prog w27 = .ok (.slice a28 l28 c28) w28 /\
 ∃ m' : Nat, m' < m /\ I m' a28 l28 c28 w28)
 (∃ m' : Nat, m' < m /\ I m' a5 l5 c5 wx_1))))
theorem qmY (p0 : Option Addr) (n1 : Int) {w : World} {K : Value -> World -> Prop} (h : qjs p0 n1 w K) : Calls prog qfN #[.pointer p0, .int .i64 n1] w (Ret K) :=
 qm (c := qq Tryz.f36) (by kernel_rfl) Tryz.func36 (by kernel_rfl) [(8, [(5, .one (.slice))]), (27, [(31, .one (.int .i64))])] [.pointer p0, .int .i64 n1] (of_decide_eq_true (by kernel_rfl)) _ (by kernel_rfl) h

--  (*cracknel/shelf.Shelf).Use
def qk3 (p0 : Option Addr) (v1 : Value) (n2 : Int) (w : World) (K : Value -> World -> Prop) : Prop :=
 ∀ k4 w4, k4 = w.heap.size -> w4 = w.alloc (.cells (Value.cells v1) qe) ->
 (Option.isSome p0 = true) /\
 (Option.isSome p0 = true) /\
 ∃ (m13 : Option Nat), (∀ u13, Below w4.heap.size w4 u13 -> Ld qz (Option.map (fun x => x.add 0) p0) u13 (.map m13)) /\
 ∃ v14, (∀ u14, Below w4.heap.size w4 u14 -> Ld qe (some ⟨k4, 0, none⟩) u14 v14) /\
 ∃ v15, (∀ u15, Below w4.heap.size w4 u15 -> Calls prog qii #[v14] u15 fun e15 w15 => e15 = .returned v15 /\ Below u15.heap.size u15 w15) /\
 ∃ v16_0 b16_1, (∀ u16, Below w4.heap.size w4 u16 -> (Instr.lookup qz (.map m13) v15 true).run prog u16 = .ok (.tuple #[v16_0, .bool b16_1]) u16) /\
 ∀ k7, w4.heap.size <= k7 ->
 ∀ wq, Below w4.heap.size w4 wq ->
 wq.heap[k7]? = some (.cells qf7 qL) ->
 ∃ wx, Sv qL (some ⟨k7, 0, none⟩) v16_0 wq wx /\
 BCase b16_1
 ((true = true) /\
 (true = true) /\
 ∃ wx_1, Sv qA (some ⟨k7, 27, none⟩) (.int .i64 n2) wx wx_1 /\
 (Option.isSome p0 = true) /\
 (Option.isSome p0 = true) /\
 ∃ (m26 : Option Nat), (∀ u26, Below wx_1.heap.size wx_1 u26 -> Ld qz (Option.map (fun x => x.add 0) p0) u26 (.map m26)) /\
 ∃ v27, (∀ u27, Below wx_1.heap.size wx_1 u27 -> Ld qe (some ⟨k4, 0, none⟩) u27 v27) /\
 ∃ v28, (∀ u28, Below wx_1.heap.size wx_1 u28 -> Calls prog qii #[v27] u28 fun e28 w28 => e28 = .returned v28 /\ Below u28.heap.size u28 w28) /\
 ∃ v29, (∀ u29, Below wx_1.heap.size wx_1 u29 -> Ld qL (some ⟨k7, 0, none⟩) u29 v29) /\
 ∀ wq_1, Below wx_1.heap.size wx_1 wq_1 ->
 ∃ wx_2, (Instr.mapUpdate qz (.map m26) v28 v29).run prog wq_1 = .ok () wx_2 /\
 K (.bool b16_1) wx_2)
 (K (.bool b16_1) wx)
theorem qpP (p0 : Option Addr) (v1 : Value) (n2 : Int) {w : World} {K : Value -> World -> Prop} (h : qk3 p0 v1 n2 w K) : Calls prog qi3 #[.pointer p0, v1, .int .i64 n2] w (Ret K) :=
 qm (c := qq Tryz.f47) (by kernel_rfl) Tryz.func47 (by kernel_rfl) [(3000003, [(0, .one (.bool)), (1, .one (.bool)), (2, .one (.bool)), (3, .one (.bool)), (4, .one (.bool)), (5, .one (.bool)), (6, .one (.bool)), (7, .one (.bool)), (8, .one (.bool)), (9, .one (.bool)), (10, .one (.bool))]), (3000010, [(0, .one (.bool)), (1, .one (.bool)), (2, .one (.bool)), (3, .one (.bool)), (4, .one (.bool)), (5, .one (.bool)), (6, .one (.bool))])] [.pointer p0, v1, .int .i64 n2] (of_decide_eq_true (by kernel_rfl)) _ (by kernel_rfl) h

--  cracknel/shelf.at
def qt2 (v0 : Value) (w : World) (K : Value -> World -> Prop) : Prop :=
 ∀ k1 w1, k1 = w.heap.size -> w1 = w.alloc (.cells (Value.cells v0) qe) ->
 ∀ k2 w2, k2 = w1.heap.size -> w2 = w1.alloc (.cells qvq j6) ->
 (true = true) /\
 ∃ s4, Ld qh (some ⟨k1, 0, none⟩) w2 (.string (mkS s4)) /\
 (true = true) /\
 ∃ v6, Ld qf (some ⟨k1, 2, none⟩) w2 v6 /\
 (true = true) /\
 ∃ b8, Ld qN (some ⟨k1, 20, none⟩) w2 (.bool b8) /\
 (true = true) /\
 ∃ s10, Ld qh (some ⟨k1, 21, none⟩) w2 (.string (mkS s10)) /\
 ∃ v11, (Instr.build j6 #[(0, .string (mkS s4)), (1, v6), (2, .bool b8), (3, .string (mkS s10))]).run prog w2 = .ok v11 w2 /\
 ∃ wx, Sv j6 (some ⟨k2, 0, none⟩) v11 w2 wx /\
 ∃ vr0, (qs j6 (.pointer (some ⟨k2, 0, none⟩))).run prog wx = .ok vr0 wx /\
 K vr0 wx
theorem qw4 (v0 : Value) {w : World} {K : Value -> World -> Prop} (h : qt2 v0 w K) : Calls prog qii #[v0] w (Ret K) :=
 qm (c := qq Tryz.f77) (by kernel_rfl) Tryz.func77 (by kernel_rfl) [] [v0] (of_decide_eq_true (by kernel_rfl)) _ (by kernel_rfl) h

--  (*cracknel/shelf.Shelf).Drop
def qkF (p0 : Option Addr) (v1 : Value) (w : World) (K : Value -> World -> Prop) : Prop :=
 ∀ k3 w3, k3 = w.heap.size -> w3 = w.alloc (.cells (Value.cells v1) qe) ->
 (Option.isSome p0 = true) /\
 (Option.isSome p0 = true) /\
 ∃ (m11 : Option Nat), (∀ u11, Below w3.heap.size w3 u11 -> Ld qz (Option.map (fun x => x.add 0) p0) u11 (.map m11)) /\
 ∃ v12, (∀ u12, Below w3.heap.size w3 u12 -> Ld qe (some ⟨k3, 0, none⟩) u12 v12) /\
 ∃ v13, (∀ u13, Below w3.heap.size w3 u13 -> Calls prog qii #[v12] u13 fun e13 w13 => e13 = .returned v13 /\ Below u13.heap.size u13 w13) /\
 ∃ v14_0 b14_1, (∀ u14, Below w3.heap.size w3 u14 -> (Instr.lookup qz (.map m11) v13 true).run prog u14 = .ok (.tuple #[v14_0, .bool b14_1]) u14) /\
 ∀ k5, w3.heap.size <= k5 ->
 ∀ wq, Below w3.heap.size w3 wq ->
 wq.heap[k5]? = some (.cells qf7 qL) ->
 ∃ wx, Sv qL (some ⟨k5, 0, none⟩) v14_0 wq wx /\
 BCase (!b14_1)
 (K (.bool false) wx)
 ((Option.isSome p0 = true) /\
 (Option.isSome p0 = true) /\
 ∃ (m22 : Option Nat), (∀ u22, Below wx.heap.size wx u22 -> Ld qz (Option.map (fun x => x.add 0) p0) u22 (.map m22)) /\
 ∃ v23, (∀ u23, Below wx.heap.size wx u23 -> Ld qe (some ⟨k3, 0, none⟩) u23 v23) /\
 ∃ v24, (∀ u24, Below wx.heap.size wx u24 -> Calls prog qii #[v23] u24 fun e24 w24 => e24 = .returned v24 /\ Below u24.heap.size u24 w24) /\
 ∀ wq_1, Below wx.heap.size wx wq_1 ->
 ∃ wx_1, (Builtin.delete_ #[qz, j6] qjk #[.map m22, v24]).run prog wq_1 = .ok (.tuple #[]) wx_1 /\
 (Option.isSome p0 = true) /\
 (Option.isSome p0 = true) /\
 (true = true) /\
 ∃ (m28 : Option Nat), (∀ u28, Below wx_1.heap.size wx_1 u28 -> Ld zu (Option.map (fun x => x.add 1) p0) u28 (.map m28)) /\
 ∃ s30, (∀ u30, Below wx_1.heap.size wx_1 u30 -> Ld qh (some ⟨k5, 29, none⟩) u30 (.string (mkS s30))) /\
 ∃ n31, (∀ u31, Below wx_1.heap.size wx_1 u31 -> (Instr.lookup zu (.map m28) (.string (mkS s30)) false).run prog u31 = .ok (.int .i64 n31) u31) /\
 ∀ wq_2, Below wx_1.heap.size wx_1 wq_2 ->
 ∃ wx_2, (Instr.mapUpdate zu (.map m28) (.string (mkS s30)) (.int .i64 (i64.wrap (n31 - (1 : Int))))).run prog wq_2 = .ok () wx_2 /\
 (Option.isSome p0 = true) /\
 (Option.isSome p0 = true) /\
 ∃ (m36 : Option Nat), (∀ u36, Below wx_2.heap.size wx_2 u36 -> Ld zu (Option.map (fun x => x.add 1) p0) u36 (.map m36)) /\
 (true = true) /\
 ∃ s38, (∀ u38, Below wx_2.heap.size wx_2 u38 -> Ld qh (some ⟨k5, 29, none⟩) u38 (.string (mkS s38))) /\
 ∃ n39, (∀ u39, Below wx_2.heap.size wx_2 u39 -> (Instr.lookup zu (.map m36) (.string (mkS s38)) false).run prog u39 = .ok (.int .i64 n39) u39) /\
 ∀ wq_3, Below wx_2.heap.size wx_2 wq_3 ->
 BCase (n39 == (0 : Int))
 ((Option.isSome p0 = true) /\
 (Option.isSome p0 = true) /\
 (true = true) /\
 ∃ (m44 : Option Nat), (∀ u44, Below wq_3.heap.size wq_3 u44 -> Ld zu (Option.map (fun x => x.add 1) p0) u44 (.map m44)) /\
 ∃ s46, (∀ u46, Below wq_3.heap.size wq_3 u46 -> Ld qh (some ⟨k5, 29, none⟩) u46 (.string (mkS s46))) /\
 ∀ wq_4, Below wq_3.heap.size wq_3 wq_4 ->
 ∃ wx_3, (Builtin.delete_ #[zu, qh] qjk #[.map m44, .string (mkS s46)]).run prog wq_4 = .ok (.tuple #[]) wx_3 /\
 K (.bool true) wx_3)
 (K (.bool true) wq_3))
theorem qoI (p0 : Option Addr) (v1 : Value) {w : World} {K : Value -> World -> Prop} (h : qkF p0 v1 w K) : Calls prog qdM #[.pointer p0, v1] w (Ret K) :=
 qm (c := qq Tryz.f78) (by kernel_rfl) Tryz.func78 (by kernel_rfl) [(3000003, [(0, .one (.bool)), (1, .one (.bool)), (2, .one (.bool)), (3, .one (.bool)), (4, .one (.bool)), (5, .one (.bool)), (6, .one (.bool)), (7, .one (.bool)), (8, .one (.bool)), (9, .one (.bool)), (10, .one (.bool))]), (3000013, [(0, .one (.bool)), (1, .one (.bool)), (2, .one (.bool)), (3, .one (.bool)), (4, .one (.bool)), (5, .one (.bool))]), (3000016, [(0, .one (.bool)), (1, .one (.bool)), (2, .one (.bool)), (4, .one (.bool)), (3, .one (.bool)), (5, .one (.bool)), (6, .one (.bool)), (7, .one (.bool))]), (3000020, [(0, .one (.bool)), (1, .one (.bool)), (2, .one (.bool)), (4, .one (.bool)), (3, .one (.bool)), (5, .one (.bool))])] [.pointer p0, v1] (of_decide_eq_true (by kernel_rfl)) _ (by kernel_rfl) h

--  (*cracknel/shelf.Shelf).Count
def qjD (p0 : Option Addr) (s1 : List UInt8) (w : World) (K : Value -> World -> Prop) : Prop :=
 (Option.isSome p0 = true) /\
 (Option.isSome p0 = true) /\
 ∃ (m8 : Option Nat), Ld zu (Option.map (fun x => x.add 1) p0) w (.map m8) /\
 ∃ n10, (Instr.lookup zu (.map m8) (.string (mkS s1)) false).run prog w = .ok (.int .i64 n10) w /\
 K (.int .i64 n10) w
theorem qnQ (p0 : Option Addr) (s1 : List UInt8) {w : World} {K : Value -> World -> Prop} (h : qjD p0 s1 w K) : Calls prog qh6 #[.pointer p0, .string (mkS s1)] w (Ret K) :=
 qm (c := qq Tryz.f79) (by kernel_rfl) Tryz.func79 (by kernel_rfl) [] [.pointer p0, .string (mkS s1)] (of_decide_eq_true (by kernel_rfl)) _ (by kernel_rfl) h

--  (*cracknel/shelf.Shelf).Oldest
def qjt (p0 : Option Addr) (s1 : List UInt8) (w : World) (K : Value -> World -> Prop) : Prop :=
 ∀ k3 w3, k3 = w.heap.size -> w3 = w.alloc (.cells #[.string (mkS s1)] qh) ->
 ∀ k4 w4, k4 = w3.heap.size -> w4 = w3.alloc (.cells qG qe) ->
 Calls prog qc3 #[.pointer p0, .func (.func qau) #[] #[.pointer (some ⟨k3, 0, none⟩)]] w4 fun e8 w8 => ∃ v8_0 b8_1, e8 = .returned (.tuple #[v8_0, .bool b8_1]) /\
 ∃ wx, Sv qe (some ⟨k4, 0, none⟩) v8_0 w8 wx /\
 ∃ vr0, (qs qe (.pointer (some ⟨k4, 0, none⟩))).run prog wx = .ok vr0 wx /\
 K (.tuple #[vr0, .bool b8_1]) wx
theorem qmZ (p0 : Option Addr) (s1 : List UInt8) {w : World} {K : Value -> World -> Prop} (h : qjt p0 s1 w K) : Calls prog qhL #[.pointer p0, .string (mkS s1)] w (Ret K) :=
 qm (c := qq Tryz.f80) (by kernel_rfl) Tryz.func80 (by kernel_rfl) [] [.pointer p0, .string (mkS s1)] (of_decide_eq_true (by kernel_rfl)) _ (by kernel_rfl) h

--  (*cracknel/shelf.Shelf).Len
def qk1 (p0 : Option Addr) (w : World) (K : Value -> World -> Prop) : Prop :=
 (Option.isSome p0 = true) /\
 (Option.isSome p0 = true) /\
 ∃ (m6 : Option Nat), Ld qz (Option.map (fun x => x.add 0) p0) w (.map m6) /\
 ∃ n7, (Builtin.len_ #[qz] qt #[.map m6]).run prog w = .ok (.int .i64 n7) w /\
 K (.int .i64 n7) w
theorem qpN (p0 : Option Addr) {w : World} {K : Value -> World -> Prop} (h : qk1 p0 w K) : Calls prog qi1 #[.pointer p0] w (Ret K) :=
 qm (c := qq Tryz.f81) (by kernel_rfl) Tryz.func81 (by kernel_rfl) [] [.pointer p0] (of_decide_eq_true (by kernel_rfl)) _ (by kernel_rfl) h

--  (*cracknel/shelf.Shelf).OldestOfAll
def qhH (p0 : Option Addr) (w : World) (K : Value -> World -> Prop) : Prop :=
 ∀ k2 w2, k2 = w.heap.size -> w2 = w.alloc (.cells qG qe) ->
 Calls prog qc3 #[.pointer p0, .func (.func ju) #[] #[]] w2 fun e5 w5 => ∃ v5_0 b5_1, e5 = .returned (.tuple #[v5_0, .bool b5_1]) /\
 ∃ wx, Sv qe (some ⟨k2, 0, none⟩) v5_0 w5 wx /\
 ∃ vr0, (qs qe (.pointer (some ⟨k2, 0, none⟩))).run prog wx = .ok vr0 wx /\
 K (.tuple #[vr0, .bool b5_1]) wx
theorem qkv (p0 : Option Addr) {w : World} {K : Value -> World -> Prop} (h : qhH p0 w K) : Calls prog qff #[.pointer p0] w (Ret K) :=
 qm (c := qq Tryz.f82) (by kernel_rfl) Tryz.func82 (by kernel_rfl) [] [.pointer p0] (of_decide_eq_true (by kernel_rfl)) _ (by kernel_rfl) h

--  maps.Values[map[cracknel/shelf.place]cracknel/shelf.kept,cracknel/shelf.place,cracknel/shelf.kept]
def qcs (m0 : Option Nat) (w : World) (K : Value -> World -> Prop) : Prop :=
 ∀ k1 w1, k1 = w.heap.size -> w1 = w.alloc (.cells #[.map m0] qz) ->
 K (.func (.func jF) #[] #[.pointer (some ⟨k1, 0, none⟩)]) w1
theorem qcp (m0 : Option Nat) {w : World} {K : Value -> World -> Prop} (h : qcs m0 w K) : Calls prog qcz #[.map m0] w (Ret K) :=
 qm (c := qq Tryz.f91) (by kernel_rfl) Tryz.func91 (by kernel_rfl) [] [.map m0] (of_decide_eq_true (by kernel_rfl)) _ (by kernel_rfl) h

--  (*cracknel/shelf.Shelf).All$1
def qoi (v0 : Value) (v1 : Value) (w : World) (K : Value -> World -> Prop) : Prop :=
 ∀ k2 w2, k2 = w.heap.size -> w2 = w.alloc (.cells (Value.cells v0) qe) ->
 ∀ k3 w3, k3 = w2.heap.size -> w3 = w2.alloc (.cells (Value.cells v1) qe) ->
 (true = true) /\
 ∃ n6, Ld qt (some ⟨k2, 28, none⟩) w3 (.int .i64 n6) /\
 (true = true) /\
 ∃ n8, Ld qt (some ⟨k3, 28, none⟩) w3 (.int .i64 n8) /\
 K (.int .i64 (i64.wrap (n6 - n8))) w3
theorem qmX (v0 : Value) (v1 : Value) {w : World} {K : Value -> World -> Prop} (h : qoi v0 v1 w K) : Calls prog qhK #[v0, v1] w (Ret K) :=
 qm (c := qq Tryz.f92) (by kernel_rfl) Tryz.func92 (by kernel_rfl) [] [v0, v1] (of_decide_eq_true (by kernel_rfl)) _ (by kernel_rfl) h

--  (*cracknel/shelf.Shelf).Oldest$1
def qim (v0 : Value) (p1 : Option Addr) (w : World) (K : Value -> World -> Prop) : Prop :=
 ∀ k2 w2, k2 = w.heap.size -> w2 = w.alloc (.cells (Value.cells v0) qL) ->
 (true = true) /\
 ∃ s5, Ld qh (some ⟨k2, 29, none⟩) w2 (.string (mkS s5)) /\
 ∃ s6, Ld qh p1 w2 (.string (mkS s6)) /\
 K (.bool (s5 == s6)) w2
theorem qlj (v0 : Value) (p1 : Option Addr) {w : World} {K : Value -> World -> Prop} (h : qim v0 p1 w K) : Calls prog qau #[v0, .pointer p1] w (Ret K) :=
 qm (c := qq Tryz.f136) (by kernel_rfl) Tryz.func136 (by kernel_rfl) [] [v0, .pointer p1] (of_decide_eq_true (by kernel_rfl)) _ (by kernel_rfl) h

--  (*cracknel/shelf.Shelf).OldestOfAll$1
def qgQ (v0 : Value) (w : World) (K : Value -> World -> Prop) : Prop :=
 ∀ k1 w1, k1 = w.heap.size -> w1 = w.alloc (.cells (Value.cells v0) qL) ->
 K (.bool true) w1
theorem qjp (v0 : Value) {w : World} {K : Value -> World -> Prop} (h : qgQ v0 w K) : Calls prog ju #[v0] w (Ret K) :=
 qm (c := qq Tryz.f137) (by kernel_rfl) Tryz.func137 (by kernel_rfl) [] [v0] (of_decide_eq_true (by kernel_rfl)) _ (by kernel_rfl) h

--  (*cracknel/shelf.Shelf).oldest
def qc1 (p0 : Option Addr) (q0 : Option Addr) (w : World) (K : Value -> World -> Prop) : Prop :=
 ∀ k4 w4, k4 = w.heap.size -> w4 = w.alloc (.cells qG qe) ->
 ∀ k6 w6, k6 = w4.heap.size -> w6 = w4.alloc (.cells qf7 qL) ->
 (Option.isSome p0 = true) /\
 (Option.isSome p0 = true) /\
 ∃ (m14 : Option Nat), Ld qz (Option.map (fun x => x.add 0) p0) w6 (.map m14) /\
 ∃ w15 p15, (Instr.range qz (.map m14)).run prog w6 = .ok (.pointer p15) w15 /\
 ∃ I : Nat -> FP [.one (.bool)],
 (∃ m, I m false w15) /\
 ∀ m b7, AllJ 42 (∀ wl, I m b7 wl ->
 ((∃ w16, (Instr.next (.pointer p15) false qjk).run prog wl = .ok (.tuple #[.bool false]) w16 /\
 (true = true) /\
 ∃ v57, Ld qe (some ⟨k6, 0, none⟩) w16 v57 /\
 ∃ wx, Sv qe (some ⟨k4, 0, none⟩) v57 w16 wx /\
 ∃ vr0, (qs qe (.pointer (some ⟨k4, 0, none⟩))).run prog wx = .ok vr0 wx /\
 K (.tuple #[vr0, .bool b7]) wx) \/
 (∃ w16_1 k16 v16, (Instr.next (.pointer p15) false qjk).run prog wl = .ok (.tuple #[.bool true, k16, v16]) w16_1 /\
 ∃ v18_0 v18_1, (Instr.entry (.pointer p15)).run prog w16_1 = .ok (.tuple #[v18_0, v18_1]) w16_1 /\
 ∀ k9 w9, k9 = w16_1.heap.size -> w9 = w16_1.alloc (.cells qf7 qL) ->
 ∃ wx_1, Sv qL (some ⟨k9, 0, none⟩) v18_1 w9 wx_1 /\
 ∃ J : FP [.one (.bool)],
 (BCase (!b7)
 (J true wx_1)
 ((true = true) /\
 (true = true) /\
 ∃ n25, Ld qA (some ⟨k9, 27, none⟩) wx_1 (.int .i64 n25) /\
 (true = true) /\
 (true = true) /\
 ∃ n28, Ld qA (some ⟨k6, 27, none⟩) wx_1 (.int .i64 n28) /\
 BCase (decide (n25 < n28))
 (J true wx_1)
 ((true = true) /\
 (true = true) /\
 ∃ n34, Ld qA (some ⟨k9, 27, none⟩) wx_1 (.int .i64 n34) /\
 (true = true) /\
 (true = true) /\
 ∃ n37, Ld qA (some ⟨k6, 27, none⟩) wx_1 (.int .i64 n37) /\
 BCase (n34 == n37)
 ((true = true) /\
 (true = true) /\
 ∃ n42, Ld qt (some ⟨k9, 28, none⟩) wx_1 (.int .i64 n42) /\
 (true = true) /\
 (true = true) /\
 ∃ n45, Ld qt (some ⟨k6, 28, none⟩) wx_1 (.int .i64 n45) /\
 J (decide (n42 < n45)) wx_1)
 (J false wx_1)))) /\
 ∀ b10, AllJ 29 (∀ wj, J b10 wj ->
 ∃ J_1 : FP [.one (.bool)],
 (∃ v50, Ld qL (some ⟨k9, 0, none⟩) wj v50 /\
 Calls prog qau #[v50, .pointer q0] wj fun e51 w51 => ∃ b51, e51 = .returned (.bool b51) /\
 BCase b51
 (J_1 b10 w51)
 (J_1 false w51)) /\
 ∀ b54, AllJ 5 (∀ wj_1, J_1 b54 wj_1 ->
 BCase b54
 (∃ v55, Ld qL (some ⟨k9, 0, none⟩) wj_1 v55 /\
 ∃ wx_2, Sv qL (some ⟨k6, 0, none⟩) v55 wj_1 wx_2 /\
 ∃ m' : Nat, m' < m /\ I m' true wx_2)
 (∃ m' : Nat, m' < m /\ I m' b7 wj_1))))))
theorem qf5 (p0 : Option Addr) (q0 : Option Addr) {w : World} {K : Value -> World -> Prop} (h : qc1 p0 q0 w K) : Calls prog qc3 #[.pointer p0, .func (.func qau) #[] #[.pointer q0]] w (Ret K) :=
 qm (c := qq Tryz.f135) (by kernel_rfl) Tryz.func135 (by kernel_rfl) [(10, [(7, .one (.bool))]), (20, [(10, .one (.bool))]), (22, [(54, .one (.bool))])] [.pointer p0, .func (.func qau) #[] #[.pointer q0]] (of_decide_eq_true (by kernel_rfl)) _ (by kernel_rfl) h

--  (*cracknel/shelf.Shelf).oldest
def qbG (p0 : Option Addr) (w : World) (K : Value -> World -> Prop) : Prop :=
 ∀ k4 w4, k4 = w.heap.size -> w4 = w.alloc (.cells qG qe) ->
 ∀ k6 w6, k6 = w4.heap.size -> w6 = w4.alloc (.cells qf7 qL) ->
 (Option.isSome p0 = true) /\
 (Option.isSome p0 = true) /\
 ∃ (m14 : Option Nat), Ld qz (Option.map (fun x => x.add 0) p0) w6 (.map m14) /\
 ∃ w15 p15, (Instr.range qz (.map m14)).run prog w6 = .ok (.pointer p15) w15 /\
 ∃ I : Nat -> FP [.one (.bool)],
 (∃ m, I m false w15) /\
 ∀ m b7, AllJ 42 (∀ wl, I m b7 wl ->
 ((∃ w16, (Instr.next (.pointer p15) false qjk).run prog wl = .ok (.tuple #[.bool false]) w16 /\
 (true = true) /\
 ∃ v57, Ld qe (some ⟨k6, 0, none⟩) w16 v57 /\
 ∃ wx, Sv qe (some ⟨k4, 0, none⟩) v57 w16 wx /\
 ∃ vr0, (qs qe (.pointer (some ⟨k4, 0, none⟩))).run prog wx = .ok vr0 wx /\
 K (.tuple #[vr0, .bool b7]) wx) \/
 (∃ w16_1 k16 v16, (Instr.next (.pointer p15) false qjk).run prog wl = .ok (.tuple #[.bool true, k16, v16]) w16_1 /\
 ∃ v18_0 v18_1, (Instr.entry (.pointer p15)).run prog w16_1 = .ok (.tuple #[v18_0, v18_1]) w16_1 /\
 ∀ k9 w9, k9 = w16_1.heap.size -> w9 = w16_1.alloc (.cells qf7 qL) ->
 ∃ wx_1, Sv qL (some ⟨k9, 0, none⟩) v18_1 w9 wx_1 /\
 ∃ J : FP [.one (.bool)],
 (BCase (!b7)
 (J true wx_1)
 ((true = true) /\
 (true = true) /\
 ∃ n25, Ld qA (some ⟨k9, 27, none⟩) wx_1 (.int .i64 n25) /\
 (true = true) /\
 (true = true) /\
 ∃ n28, Ld qA (some ⟨k6, 27, none⟩) wx_1 (.int .i64 n28) /\
 BCase (decide (n25 < n28))
 (J true wx_1)
 ((true = true) /\
 (true = true) /\
 ∃ n34, Ld qA (some ⟨k9, 27, none⟩) wx_1 (.int .i64 n34) /\
 (true = true) /\
 (true = true) /\
 ∃ n37, Ld qA (some ⟨k6, 27, none⟩) wx_1 (.int .i64 n37) /\
 BCase (n34 == n37)
 ((true = true) /\
 (true = true) /\
 ∃ n42, Ld qt (some ⟨k9, 28, none⟩) wx_1 (.int .i64 n42) /\
 (true = true) /\
 (true = true) /\
 ∃ n45, Ld qt (some ⟨k6, 28, none⟩) wx_1 (.int .i64 n45) /\
 J (decide (n42 < n45)) wx_1)
 (J false wx_1)))) /\
 ∀ b10, AllJ 29 (∀ wj, J b10 wj ->
 ∃ J_1 : FP [.one (.bool)],
 (∃ v50, Ld qL (some ⟨k9, 0, none⟩) wj v50 /\
 Calls prog ju #[v50] wj fun e51 w51 => ∃ b51, e51 = .returned (.bool b51) /\
 BCase b51
 (J_1 b10 w51)
 (J_1 false w51)) /\
 ∀ b54, AllJ 5 (∀ wj_1, J_1 b54 wj_1 ->
 BCase b54
 (∃ v55, Ld qL (some ⟨k9, 0, none⟩) wj_1 v55 /\
 ∃ wx_2, Sv qL (some ⟨k6, 0, none⟩) v55 wj_1 wx_2 /\
 ∃ m' : Nat, m' < m /\ I m' true wx_2)
 (∃ m' : Nat, m' < m /\ I m' b7 wj_1))))))
theorem qeX (p0 : Option Addr) {w : World} {K : Value -> World -> Prop} (h : qbG p0 w K) : Calls prog qc3 #[.pointer p0, .func (.func ju) #[] #[]] w (Ret K) :=
 qm (c := qq Tryz.f135) (by kernel_rfl) Tryz.func135 (by kernel_rfl) [(10, [(7, .one (.bool))]), (20, [(10, .one (.bool))]), (22, [(54, .one (.bool))])] [.pointer p0, .func (.func ju) #[] #[]] (of_decide_eq_true (by kernel_rfl)) _ (by kernel_rfl) h
end Go.Proofs.YtlfolncaghkmcaaGreatDoor
set_option maxRecDepth 20000
namespace Go.Proofs.YtlfolncaghkmcaaGreatDoor
open Go.Pk
open Go.RowKit (Below)
theorem qoE {P : Program} {f : FuncId} {args : Array Value} {u : World} {v : Value} (h : Calls P f args u (Ret fun v' w' => v' = v /\ Below u.heap.size u w')) : Calls P f args u fun e w' => e = .returned v /\ Below u.heap.size u w' :=
 h.mono (by rintro e w' ⟨v', rfl, rfl, hb⟩; exact ⟨rfl, hb⟩)
def plc0 : Plc := ⟨[], hst0, false, [], rfl⟩
theorem qxr {c : Cky} (o : c.ok) (w : World) : (Instr.build j6 #[(0, .string (mkS c.name)), (1, c.host.v), (2, .bool c.only), (3, .string (mkS c.path))]).run prog w = .ok (c.plc o).v w := by
 obtain ⟨nm, val, ⟨kd, hn, a⟩, only, path, sec, http, same, exp, born, used, seq⟩ := c
 obtain ⟨x0, x1, x2, x3, x4, x5, x6, x7, x8, x9, x10, x11, x12, x13, x14, x15, rfl⟩ := qfY a o
 kernel_rfl
theorem qy2 (k : Kpt) (w : World) : (Instr.build qL #[(0, k.c.v), (1, .string (mkS k.site))]).run prog w = .ok k.v w := by
 obtain ⟨⟨nm, val, ⟨kd, hn, a⟩, only, path, sec, http, same, exp, born, used, seq⟩, s, o⟩ := k
 obtain ⟨x0, x1, x2, x3, x4, x5, x6, x7, x8, x9, x10, x11, x12, x13, x14, x15, rfl⟩ := qfY a o
 kernel_rfl
theorem qi8 {c : Cky} (o : c.ok) (w : World) : Calls prog qii #[c.v] w (Ret fun v w' => v = (c.plc o).v /\ Below w.heap.size w w') := by
 apply qw4
 unfold qt2
 intro k1 w1 hk1 hw1 k2 w2 hk2 hw2
 have hB1 := (hw1 ▸ qj w _ : Below w.heap.size w w1)
 have hb2 := (hw2 ▸ qj w1 _ : Below w1.heap.size w1 w2)
 have a1 : qk w2 k1 qe c.cells := (qk.new hk1 hw1 : qk w1 k1 qe c.cells).below hb2
 have a2 : qk w2 k2 j6 plc0.cells := qk.new hk2 hw2
 have hB2 := qd hB1 hb2 hB1.size
 refine ⟨rfl, _, a1.load1 un_string rfl (i := 0) rfl, rfl, _, qv.load a1 (i := 2) (us := c.host.cells) (Hst.len o) (fun j hj => qaP o hj), rfl, _, a1.load1 un_bool rfl (i := 20) (qE o 0), rfl, _, a1.load1 un_string rfl (i := 21) (qE o 1), _, qxr o w2, ?_⟩
 exact qB0.fin (Plc.len _) (Plc.one _) a2 (Plc.len _) hB2 (by rw [hk2]; exact hB1.size) fun wx hb => ⟨rfl, hb⟩
structure SS (w0 : World) (p ma ms : Nat) (M : List (Plc × Kpt)) (S : List (List UInt8 × Int)) (last : Int) (w : World) : Prop where
 ch : Chg [p, ma, ms] w0 w
 cell : qk w p qY [.map (some ma), .map (some ms), .int .i64 last]
 mM : MapS Plc.v Kpt.v w ma M
 mS : MapS evS evN w ms S
 n1 : p ≠ ma
 n2 : p ≠ ms
 n3 : ma ≠ ms
 l1 : p < w0.heap.size
 l2 : ma < w0.heap.size
 l3 : ms < w0.heap.size
section
variable {w0 w : World} {p ma ms : Nat} {M : List (Plc × Kpt)} {S : List (List UInt8 × Int)} {last : Int} {L : List Kpt}
theorem SS.of (h : Shf qY p ma ms L last w) : ∃ M S, SS w p ma ms M S last w /\ MRep M L /\ SRep S L := by
 obtain ⟨l1, l2, l3⟩ := h.lts
 obtain ⟨M, S, h1, h2, h3, h4⟩ := h.ex
 exact ⟨M, S, ⟨Chg.refl _ _, h.cell, h1, h2, h.n1, h.n2, h.n3, l1, l2, l3⟩, h3, h4⟩
theorem SS.shf (h : SS w0 p ma ms M S last w) (hM : MRep M L) (hS : SRep S L) (hi : ShI L last) : Shf qY p ma ms L last w := ⟨h.cell, ⟨M, S, h.mM, h.mS, hM, hS⟩, hi, h.n1, h.n2, h.n3⟩
theorem SS.below (h : SS w0 p ma ms M S last w) {w' : World} (hb : Below w.heap.size w w') : SS w0 p ma ms M S last w' :=
 ⟨h.ch.step hb, h.cell.below hb, h.mM.below hb, h.mS.below hb, h.n1, h.n2, h.n3, h.l1, h.l2, h.l3⟩
theorem SS.size (h : SS w0 p ma ms M S last w) : w0.heap.size <= w.heap.size := h.ch.size
theorem SS.put (h : SS w0 p ma ms M S last w) {w' : World} {r : Nat} (hg : w.grownBy w' (some r)) (hr : w0.heap.size <= r) : SS w0 p ma ms M S last w' := by
 have l1 := h.l1
 have l2 := h.l2
 have l3 := h.l3
 exact ⟨h.ch.put hg hr, h.cell.grown hg (qP (by omega)), h.mM.grown hg (by omega), h.mS.grown hg (by omega), h.n1, h.n2, h.n3, l1, l2, l3⟩
theorem SS.arr {w' : World} {k r : Nat} {t : TypeId} {vs : List Value} (ha : qk w k t vs) (hk : w0.heap.size <= k) (hg : w.grownBy w' (some r)) (hr : r < w0.heap.size) : qk w' k t vs := ha.grown hg (qP (by omega))
theorem SS.upM (h : SS w0 p ma ms M S last w) (k : Plc) (v : Kpt) : ∃ w', (Instr.mapUpdate qz (.map (some ma)) k.v v.v).run prog w = .ok () w' /\ SS w0 p ma ms (upG k v M) S last w' /\ w.grownBy w' (some ma) := by
 obtain ⟨w', hr, hm, hg⟩ := h.mM.up zw qs5 qzt k v
 exact ⟨w', hr, ⟨h.ch.trans (Chg.grown hg (by simp)), h.cell.grown hg (qP h.n1), hm, h.mS.grown hg (Ne.symm h.n3), h.n1, h.n2, h.n3, h.l1, h.l2, h.l3⟩, hg⟩
theorem SS.delM (h : SS w0 p ma ms M S last w) (k : Plc) : ∃ w', (Builtin.delete_ #[qz, j6] qjk #[.map (some ma), k.v]).run prog w = .ok (.tuple #[]) w' /\ SS w0 p ma ms (delK k M) S last w' /\ w.grownBy w' (some ma) := by
 obtain ⟨w', hr, hm, hg⟩ := h.mM.del zw qs5 k #[qz, j6] qjk rfl
 exact ⟨w', hr, ⟨h.ch.trans (Chg.grown hg (by simp)), h.cell.grown hg (qP h.n1), hm, h.mS.grown hg (Ne.symm h.n3), h.n1, h.n2, h.n3, h.l1, h.l2, h.l3⟩, hg⟩
theorem SS.upS (h : SS w0 p ma ms M S last w) (k : List UInt8) (v : Int) : ∃ w', (Instr.mapUpdate zu (.map (some ms)) (.string (mkS k)) (.int .i64 v)).run prog w = .ok () w' /\ SS w0 p ma ms M (upG k v S) last w' /\ w.grownBy w' (some ms) := by
 obtain ⟨w', hr, hm, hg⟩ := h.mS.up qf3 qvW qBK k v
 exact ⟨w', hr, ⟨h.ch.trans (Chg.grown hg (by simp)), h.cell.grown hg (qP h.n2), h.mM.grown hg h.n3, hm, h.n1, h.n2, h.n3, h.l1, h.l2, h.l3⟩, hg⟩
theorem SS.delS (h : SS w0 p ma ms M S last w) (k : List UInt8) : ∃ w', (Builtin.delete_ #[zu, qh] qjk #[.map (some ms), .string (mkS k)]).run prog w = .ok (.tuple #[]) w' /\ SS w0 p ma ms M (delK k S) last w' /\ w.grownBy w' (some ms) := by
 obtain ⟨w', hr, hm, hg⟩ := h.mS.del qf3 qvW k #[zu, qh] qjk rfl
 exact ⟨w', hr, ⟨h.ch.trans (Chg.grown hg (by simp)), h.cell.grown hg (qP h.n2), h.mM.grown hg h.n3, hm, h.n1, h.n2, h.n3, h.l1, h.l2, h.l3⟩, hg⟩
theorem SS.num (h : SS w0 p ma ms M S last w) (n : Int) : ∃ w', (Instr.storeAt qt (.pointer (some ⟨p, 2, none⟩)) (.int .i64 n)).run prog w = .ok () w' /\ SS w0 p ma ms M S n w' /\ w.grownBy w' (some p) := by
 obtain ⟨w', hr, ha, hg⟩ := h.cell.put qab (i := 2) (v := .int .i64 n) (show 2 < 3 by decide) rfl rfl
 exact ⟨w', hr, ⟨h.ch.trans (Chg.grown hg (by simp)), ha, h.mM.grown hg (Ne.symm h.n1), h.mS.grown hg (Ne.symm h.n2), h.n1, h.n2, h.n3, h.l1, h.l2, h.l3⟩, hg⟩
theorem qoS (h : SS w0 p ma ms M S last w) : (Instr.loadAt qz (.pointer (Option.map (fun x : Addr => x.add 0) (some (⟨p, 0, none⟩ : Addr))))).run prog w = .ok (.map (some ma)) w := h.cell.load1 zw rfl (i := 0) rfl
theorem qqx (h : SS w0 p ma ms M S last w) : (Instr.loadAt zu (.pointer (Option.map (fun x : Addr => x.add 1) (some (⟨p, 0, none⟩ : Addr))))).run prog w = .ok (.map (some ms)) w := h.cell.load1 qf3 rfl (i := 1) rfl
theorem qAW (h : SS w0 p ma ms M S last w) : (Instr.loadAt qt (.pointer (Option.map (fun x : Addr => x.add 2) (some (⟨p, 0, none⟩ : Addr))))).run prog w = .ok (.int .i64 last) w := h.cell.load1 qK rfl (i := 2) rfl
theorem qx4 (h : SS w0 p ma ms M S last w) (hM : MRep M L) (hi : ShI L last) (k : Plc) : (Instr.lookup qz (.map (some ma)) k.v true).run prog w = .ok (.tuple #[((atK L k).getD kpt0).v, .bool (atK L k).isSome]) w := by
 have := h.mM.g.look2 zw qs5 qqA k
 rw [hM.look hi k] at this
 rw [this]
 cases atK L k <;> rfl
theorem qAV (h : SS w0 p ma ms M S last w) (hS : SRep S L) (s : List UInt8) : (Instr.lookup zu (.map (some ms)) (.string (mkS s)) false).run prog w = .ok (.int .i64 ((cntK L s : Nat) : Int)) w := by
 have := h.mS.g.look1 qf3 qvW qab s
 rw [<- hS.val s]
 rw [show (Value.string (mkS s)) = evS s from rfl, this]
 cases qfL s S <;> rfl
theorem qDG (h : SS w0 p ma ms M S last w) (s : List UInt8) : (Instr.lookup zu (.map (some ms)) (.string (mkS s)) false).run prog w = .ok (.int .i64 ((qfL s S).getD 0)) w := by
 have := h.mS.g.look1 qf3 qvW qab s
 rw [show (Value.string (mkS s)) = evS s from rfl, this]
 cases qfL s S <;> rfl
end
theorem qDq (L : List Kpt) (s : List UInt8) (h : L.length <= 4611686018427387904) : ((cntK L s : Nat) : Int) <= 4611686018427387904 := by
 have : cntK L s <= L.length := List.countP_le_length
 omega
def NewP (w : World) (v : Value) (w' : World) : Prop := ∃ p ma ms, v = .pointer (some ⟨p, 0, none⟩) /\ Shf qY p ma ms [] 0 w' /\ w.heap.size <= p /\ w.heap.size <= ma /\ w.heap.size <= ms /\ Below w.heap.size w w'
theorem qjq (w : World) : Calls prog qh5 #[] w (Ret (NewP w)) := by
 apply qwe
 unfold qrS
 intro k1 w1 hk1 hw1 k2 w2 hk2 hw2 k4 w4 hk4 hw4
 have hB1 := (hw1 ▸ qj w _ : Below w.heap.size w w1)
 have hb2 := (hw2 ▸ qj w1 _ : Below w1.heap.size w1 w2)
 have hb4 := (hw4 ▸ qj w2 _ : Below w2.heap.size w2 w4)
 have m1 : MapS Plc.v Kpt.v w1 k1 [] := MapS.new hk1 hw1
 have m2 : MapS evS evN w2 k2 [] := MapS.new hk2 hw2
 have l1 := m1.lt
 have l2 := m2.lt
 have s1 := hb2.size
 have s0 := hB1.size
 exact ⟨k4, k1, k2, rfl, ⟨qk.new hk4 hw4, ⟨[], [], (m1.below hb2).below hb4, m2.below hb4, MRep.nil, SRep.nil⟩, ShI.nil, by omega, by omega, by omega⟩, by omega, by omega, by omega, qd (qd hB1 hb2 hB1.size) hb4 (Nat.le_trans s0 s1)⟩
theorem qw7 {p ma ms : Nat} {L : List Kpt} {last : Int} {w : World} (h : Shf qY p ma ms L last w) : Calls prog qi1 #[.pointer (some ⟨p, 0, none⟩)] w (Ret fun v w' => v = .int .i64 ((L.length : Nat) : Int) /\ w' = w) := by
 obtain ⟨M, S, s, hM, hS⟩ := SS.of h
 apply qpN
 unfold qk1
 refine ⟨rfl, rfl, _, qoS s, ((L.length : Nat) : Int), ?_, rfl, rfl⟩
 obtain ⟨es, c, hh, hkv, _⟩ := s.mM
 have hl := qxJ hkv
 have h2 := hM.perm.length_eq
 rw [List.length_map] at h2
 rw [<- h2, <- hl]
 simp [Builtin.len_, jE zw, qme hh, goInt]
theorem quM {p ma ms : Nat} {L : List Kpt} {last : Int} {w : World} (h : Shf qY p ma ms L last w) (t : List UInt8) : Calls prog qh6 #[.pointer (some ⟨p, 0, none⟩), .string (mkS t)] w (Ret fun v w' => v = .int .i64 ((cntK L t : Nat) : Int) /\ w' = w) := by
 obtain ⟨M, S, s, hM, hS⟩ := SS.of h
 apply qnQ
 unfold qjD
 exact ⟨rfl, rfl, _, qqx s, _, qAV s hS t, rfl, rfl⟩
end Go.Proofs.YtlfolncaghkmcaaGreatDoor
namespace Go.Pk
theorem qj3 {L : List Kpt} {p : Plc} (h : atK L p = none) : dropK L p = L := by
 unfold dropK
 exact List.filter_eq_self.2 fun k hk => by simpa using qhD h k hk
theorem qqB {L : List Kpt} {p : Plc} {now : Int} (h : atK L p = none) : useK L p now = L := by
 unfold useK
 have : (L.map fun k => if k.plc = p then (⟨{ k.c with used := now }, k.site, k.ok⟩ : Kpt) else k) = L.map fun k => k := List.map_congr_left fun k hk => by
   rw [if_neg (qhD h k hk)]
 rw [this]; simp
def qiU (x : Kpt) (now : Int) : Kpt := ⟨{ x.c with used := now }, x.site, x.ok⟩
theorem qBV {L : List Kpt} {last : Int} (s : ShI L last) {p : Plc} {x : Kpt} (h : atK L p = some x) (now : Int) : useK L p now = L.map fun y => if y.plc = (qiU x now).plc then qiU x now else y := by
 obtain ⟨hx, hp⟩ := qgf h
 have e : (qiU x now).plc = p := hp
 rw [e]
 unfold useK
 exact List.map_congr_left fun y hy => by
   by_cases c : y.plc = p
   · rw [if_pos c, if_pos c, s.one hy hx (c.trans hp.symm)]; rfl
   · rw [if_neg c, if_neg c]
theorem qCC (L : List Kpt) (p : Plc) (now : Int) (s : List UInt8) : cntK (useK L p now) s = cntK L s := by
 unfold cntK useK
 rw [List.countP_map]
 exact List.countP_congr fun k _ => by
   show decide _ = true ↔ _
   simp only [Function.comp_apply, dTx]
   split <;> rfl
theorem qdL {c : Cky} (o : c.ok) (j : Nat) (v : Value) : c.cells.set (20 + j) v = .string (mkS c.name) :: .string (mkS c.value) :: (c.host.cells ++ c.tail.set j v) := by
 unfold Cky.cells
 rw [show 20 + j = (18 + j) + 1 + 1 by omega, List.set_cons_succ, List.set_cons_succ, List.set_append_right _ _ (by rw [Hst.len o]; omega), Hst.len o]
 congr 4; omega
theorem qs6 {k : Kpt} {j : Nat} (h : j < 29) (v : Value) : k.cells.set j v = k.c.cells.set j v ++ [.string (mkS k.site)] := by
 unfold Kpt.cells
 rw [List.set_append_left _ _ (by rw [Cky.len k.ok]; exact h)]
end Go.Pk
namespace Go.Proofs.YtlfolncaghkmcaaGreatDoor
open Go.Pk
open Go.RowKit (Below)
def qDj (p ma ms : Nat) (L : List Kpt) (last : Int) (pl : Plc) (w : World) (v : Value) (w' : World) : Prop := v = .bool (atK L pl).isSome /\ Shf qY p ma ms (dropK L pl) last w' /\ Chg [p, ma, ms] w w'
theorem qjS {p ma ms : Nat} {L : List Kpt} {last : Int} {w : World} (h : Shf qY p ma ms L last w) (hl : L.length <= 4611686018427387904) {c : Cky} (o : c.ok) :
   Calls prog qdM #[.pointer (some ⟨p, 0, none⟩), c.v] w (Ret (qDj p ma ms L last (c.plc o) w)) := by
 obtain ⟨M, S, s, hM, hS⟩ := SS.of h
 have hi := h.inv
 apply qoI
 unfold qkF
 intro k3 w3 hk3 hw3
 have hb3 := (hw3 ▸ qj w _ : Below w.heap.size w w3)
 have a3 : qk w3 k3 qe c.cells := qk.new hk3 hw3
 have s3 := s.below hb3
 refine ⟨rfl, rfl, some ma, fun u hu => qoS (s3.below hu), c.v, fun u hu => qn.load0 (a3.below hu) (Cky.len o), (c.plc o).v, fun u hu => qoE (qi8 o u), _, _, fun u hu => qx4 (s3.below hu) hM hi _, ?_⟩
 intro k5 hk5 wq hq hz
 have a5 : qk wq k5 qL kpt0.cells := hz
 have s4 := s3.below hq
 have a4 := a3.below hq
 obtain ⟨wx, hst, a5x, hg⟩ := qhO.store0 (Kpt.len ((atK L (c.plc o)).getD kpt0)) (Kpt.one _) a5 (Kpt.len _)
 refine ⟨wx, hst, ?_⟩
 have hk5' : w.heap.size <= k5 := Nat.le_trans hb3.size hk5
 have hk3' : w.heap.size <= k3 := by omega
 have s5 := s4.put hg hk5'
 have a3x : qk wx k3 qe c.cells := a4.grown hg (qP (by have := a3.lt; omega))
 have l2 := s.l2
 have l3 := s.l3
 unfold qDj
 cases hat : atK L (c.plc o) with
 | none =>
   refine BCase.yes rfl ⟨rfl, ?_, s5.ch⟩
   rw [qj3 hat]; exact s5.shf hM hS hi
 | some x =>
   rw [hat] at a5x
   have a5x : qk wx k5 qL x.cells := a5x
   refine BCase.no rfl ?_
   refine ⟨rfl, rfl, some ma, fun u hu => qoS (s5.below hu), c.v, fun u hu => qn.load0 (a3x.below hu) (Cky.len o), (c.plc o).v, fun u hu => qoE (qi8 o u), ?_⟩
   intro wq1 hq1
   obtain ⟨wy, hd, s6, hg6⟩ := (s5.below hq1).delM (c.plc o)
   have a6 : qk wy k5 qL x.cells := SS.arr (a5x.below hq1) hk5' hg6 l2
   refine ⟨wy, hd, rfl, rfl, rfl, some ms, fun u hu => qqx (s6.below hu), x.site, fun u hu => (a6.below hu).load1 un_string rfl (i := 29) (qh1 x), ((cntK L x.site : Nat) : Int), fun u hu => qAV (s6.below hu) hS _, ?_⟩
   have hcd := qBh hi hat
   have hn := hcd x.site
   rw [if_pos rfl] at hn
   have hb := qDq L x.site hl
   have hw : i64.wrap (((cntK L x.site : Nat) : Int) - 1) = ((cntK L x.site : Nat) : Int) - 1 := wrap_i64 (by omega) (by omega)
   intro wq2 hq2
   obtain ⟨wz, hu7, s7, hg7⟩ := (s6.below hq2).upS x.site (((cntK L x.site : Nat) : Int) - 1)
   have a7 : qk wz k5 qL x.cells := SS.arr (a6.below hq2) hk5' hg7 l3
   rw [hw]
   refine ⟨wz, hu7, rfl, rfl, some ms, fun u hu => qqx (s7.below hu), rfl, x.site, fun u hu => (a7.below hu).load1 un_string rfl (i := 29) (qh1 x), ((cntK L x.site : Nat) : Int) - 1, fun u hu => ?_, ?_⟩
   · rw [qDG (s7.below hu), qsq, if_pos rfl]; rfl
   intro wq3 hq3
   have s8 := s7.below hq3
   have a8 := a7.below hq3
   have hM' : MRep (delK (c.plc o) M) (dropK L (c.plc o)) := by rw [qpp (hM.nodup hi)]; exact hM.drop _
   have hi' : ShI (dropK L (c.plc o)) last := hi.filter _
   refine BCase.of (fun e => ?_) (fun e => ?_)
   · have h0 : cntK (dropK L (c.plc o)) x.site = 0 := by
       have := eq_of_beq e
       omega
     refine ⟨rfl, rfl, rfl, some ms, fun u hu => qqx (s8.below hu), x.site, fun u hu => (a8.below hu).load1 un_string rfl (i := 29) (qh1 x), ?_⟩
     intro wq4 hq4
     obtain ⟨wv, hd9, s9, _⟩ := (s8.below hq4).delS x.site
     exact ⟨wv, hd9, rfl, s9.shf hM' (hS.last hcd h0 _) hi', s9.ch⟩
   · have h0 : cntK (dropK L (c.plc o)) x.site ≠ 0 := by
       have : ¬ (((cntK L x.site : Nat) : Int) - 1 = 0) := fun x => by rw [x] at e; cases e
       omega
     exact ⟨rfl, s8.shf hM' (hS.dec hcd h0) hi', s8.ch⟩
def UseP (p ma ms : Nat) (L : List Kpt) (last : Int) (pl : Plc) (now : Int) (w : World) (v : Value) (w' : World) : Prop := v = .bool (atK L pl).isSome /\ Shf qY p ma ms (useK L pl now) last w' /\ Chg [p, ma, ms] w w'
theorem qw9 {p ma ms : Nat} {L : List Kpt} {last : Int} {w : World} (h : Shf qY p ma ms L last w) {c : Cky} (o : c.ok) (now : Int) :
   Calls prog qi3 #[.pointer (some ⟨p, 0, none⟩), c.v, .int .i64 now] w (Ret (UseP p ma ms L last (c.plc o) now w)) := by
 obtain ⟨M, S, s, hM, hS⟩ := SS.of h
 have hi := h.inv
 apply qpP
 unfold qk3
 intro k3 w3 hk3 hw3
 have hb3 := (hw3 ▸ qj w _ : Below w.heap.size w w3)
 have a3 : qk w3 k3 qe c.cells := qk.new hk3 hw3
 have s3 := s.below hb3
 refine ⟨rfl, rfl, some ma, fun u hu => qoS (s3.below hu), c.v, fun u hu => qn.load0 (a3.below hu) (Cky.len o), (c.plc o).v, fun u hu => qoE (qi8 o u), _, _, fun u hu => qx4 (s3.below hu) hM hi _, ?_⟩
 intro k5 hk5 wq hq hz
 have a5 : qk wq k5 qL kpt0.cells := hz
 have s4 := s3.below hq
 have a4 := a3.below hq
 obtain ⟨wx, hst, a5x, hg⟩ := qhO.store0 (Kpt.len ((atK L (c.plc o)).getD kpt0)) (Kpt.one _) a5 (Kpt.len _)
 refine ⟨wx, hst, ?_⟩
 have hk5' : w.heap.size <= k5 := Nat.le_trans hb3.size hk5
 have hk3' : w.heap.size <= k3 := by omega
 have s5 := s4.put hg hk5'
 have n35 : k3 ≠ k5 := by have := a3.lt; omega
 have a3x : qk wx k3 qe c.cells := a4.grown hg (qP n35)
 unfold UseP
 cases hat : atK L (c.plc o) with
 | none =>
   refine BCase.no rfl ⟨rfl, ?_, s5.ch⟩
   rw [qqB hat]; exact s5.shf hM hS hi
 | some x =>
   rw [hat] at a5x
   have a5x : qk wx k5 qL x.cells := a5x
   refine BCase.yes rfl ?_
   obtain ⟨wy, hp, a6, hg6⟩ := a5x.put j8 (i := 27) (v := .int .i64 now) (by rw [Kpt.len]; decide) rfl rfl
   have s6 := s5.put hg6 hk5'
   have a3y := a3x.grown hg6 (qP n35)
   have e6 : x.cells.set 27 (.int .i64 now) = (qiU x now).cells := by
     rw [qs6 (by decide), show (27 : Nat) = 20 + 7 from rfl, qdL x.ok]; rfl
   rw [e6] at a6
   refine ⟨rfl, rfl, wy, hp, rfl, rfl, some ma, fun u hu => qoS (s6.below hu), c.v, fun u hu => qn.load0 (a3y.below hu) (Cky.len o), (c.plc o).v, fun u hu => qoE (qi8 o u), (qiU x now).v, fun u hu => qhO.load0 (a6.below hu) (Kpt.len _), ?_⟩
   intro wq1 hq1
   have epl : (qiU x now).plc = c.plc o := (qgf hat).2
   obtain ⟨wz, hu7, s7, hg7⟩ := (s6.below hq1).upM (c.plc o) (qiU x now)
   refine ⟨wz, hu7, rfl, ?_, s7.ch⟩
   have hM' := hM.over hi (k := qiU x now) (o := x) (by rw [epl]; exact hat)
   rw [epl] at hM'
   have e := qBV hi hat now
   rw [epl] at e
   rw [<- e] at hM'
   exact s7.shf hM' (hS.perm fun t => qCC L _ now t) (hi.use _ _)
end Go.Proofs.YtlfolncaghkmcaaGreatDoor
namespace Go.Pk
theorem ShI.up_to {L : List Kpt} {last last' : Int} (h : ShI L last) (hl : last <= last') : ShI L last' :=
 ⟨h.up, fun k hk => ⟨(h.lo k hk).1, by have := (h.lo k hk).2; omega⟩, h.key, by have := h.l0; omega⟩
theorem MRep.perm' {M : List (Plc × Kpt)} {L L' : List Kpt} (h : MRep M L) (hp : L.Perm L') : MRep M L' := ⟨h.perm.trans hp, h.own⟩
theorem qBe (L : List Kpt) (p : Plc) : atK (dropK L p) p = none := by
 unfold atK dropK
 rw [List.find?_eq_none]
 intro k hk
 simpa using (List.mem_filter.1 hk).2
theorem over_perm {L : List Kpt} {last : Int} (s : ShI L last) {p : Plc} {x k : Kpt} (h : atK L p = some x) : (dropK L p ++ [k]).Perm (L.map fun y => if y.plc = p then k else y) := by
 obtain ⟨hx, hp⟩ := qgf h
 clear h
 revert s hx
 induction L with
 | nil => intro _ hx; cases hx
 | cons a L ih =>
   intro s hx
   have hak := (List.pairwise_cons.1 s.key).1
   have sL : ShI L last := ⟨(List.pairwise_cons.1 s.up).2, fun k hk => s.lo k (List.mem_cons_of_mem _ hk), (List.pairwise_cons.1 s.key).2, s.l0⟩
   by_cases e : a.plc = p
   · have hno : ∀ y ∈ L, y.plc ≠ p := fun y hy c => hak y hy (e.trans c.symm)
     have e1 : dropK (a :: L) p = L := by
       unfold dropK
       rw [List.filter_cons, if_neg (by simp [e])]
       exact List.filter_eq_self.2 fun y hy => by simpa using hno y hy
     have e2 : (L.map fun y => if y.plc = p then k else y) = L := by
       have : (L.map fun y => if y.plc = p then k else y) = L.map fun y => y := List.map_congr_left fun y hy => by rw [if_neg (hno y hy)]
       rw [this]; simp
     rw [e1, List.map_cons, if_pos e, e2]
     exact List.perm_append_singleton k L
   · have hx' : x ∈ L := by
       rcases List.mem_cons.1 hx with c | c
       · exact absurd (c ▸ hp) e
       · exact c
     have e1 : dropK (a :: L) p = a :: dropK L p := by
       unfold dropK
       rw [List.filter_cons, if_pos (by simpa using e)]
     rw [e1, List.map_cons, if_neg e, List.cons_append]
     exact (ih sL hx').cons a
theorem qBi {L L' : List Kpt} (h : L.Perm L') (s : List UInt8) : cntK L s = cntK L' s := h.countP_eq _
def putC (L : List Kpt) (last : Int) (c : Kpt) : Kpt := match atK L c.plc with
 | some o => ⟨{ c.c with born := o.c.born, seq := o.c.seq }, c.site, c.ok⟩
 | none => ⟨{ c.c with seq := last + 1 }, c.site, c.ok⟩
theorem qBJ {L : List Kpt} {last : Int} (s : ShI L last) (c : Kpt) : (dropK L c.plc ++ [putC L last c]).Perm (putK L last c).1 := by
 unfold putC putK
 cases h : atK L c.plc with
 | none => rw [qj3 h]
 | some x => exact over_perm s h
theorem qBI (L : List Kpt) (last : Int) (c : Kpt) : (putC L last c).plc = c.plc := by
 unfold putC
 split <;> rfl
end Go.Pk
namespace Go.Proofs.YtlfolncaghkmcaaGreatDoor
open Go.Pk
open Go.RowKit (Below)
def PutP (p ma ms : Nat) (L : List Kpt) (last : Int) (c : Kpt) (w : World) (v : Value) (w' : World) : Prop := v = .bool (atK L c.plc).isSome /\ Shf qY p ma ms (putK L last c).1 (putK L last c).2 w' /\ Chg [p, ma, ms] w w'
theorem qw8 {p ma ms : Nat} {L : List Kpt} {last : Int} {w : World} (h : Shf qY p ma ms L last w) (hl : L.length <= 4611686018427387904) (hla : last <= 4611686018427387904) (c : Kpt) :
   Calls prog qi2 #[.pointer (some ⟨p, 0, none⟩), c.c.v, .string (mkS c.site)] w (Ret (PutP p ma ms L last c w)) := by
 obtain ⟨M, S, s, hM, hS⟩ := SS.of h
 have hi := h.inv
 have o := c.ok
 apply qpO
 unfold qk2
 intro k3 w3 hk3 hw3
 have hb3 := (hw3 ▸ qj w _ : Below w.heap.size w w3)
 have a3 : qk w3 k3 qe c.c.cells := qk.new hk3 hw3
 have s3 := s.below hb3
 refine ⟨rfl, rfl, some ma, fun u hu => qoS (s3.below hu), c.c.v, fun u hu => qn.load0 (a3.below hu) (Cky.len o), c.plc.v, fun u hu => qoE (qi8 o u), _, _, fun u hu => qx4 (s3.below hu) hM hi _, ?_⟩
 intro k5 hk5 wq hq hz
 have a5 : qk wq k5 qL kpt0.cells := hz
 have s4 := s3.below hq
 have a4 := a3.below hq
 obtain ⟨wx, hst, a5x, hg⟩ := qhO.store0 (Kpt.len ((atK L c.plc).getD kpt0)) (Kpt.one _) a5 (Kpt.len _)
 refine ⟨wx, hst, ?_⟩
 have hk5' : w.heap.size <= k5 := Nat.le_trans hb3.size hk5
 have hk3' : w.heap.size <= k3 := by omega
 have s5 := s4.put hg hk5'
 have n35 : k3 ≠ k5 := by have := a3.lt; omega
 have a3x : qk wx k3 qe c.c.cells := a4.grown hg (qP n35)
 have ll := s.l1
 refine worldJ (fun wj => ∃ la, qk wj k3 qe (putC L last c).c.cells /\ Shf qY p ma ms (dropK L c.plc) la wj /\ Chg [p, ma, ms] w wj /\ la = (putK L last c).2) ?_ ?_
 · cases hat : atK L c.plc with
   | some x =>
     rw [hat] at a5x
     have a5x : qk wx k5 qL x.cells := a5x
     have hsh : Shf qY p ma ms L last wx := s5.shf hM hS hi
     refine BCase.yes rfl ⟨c.c.v, qn.load0 a3x (Cky.len o), ?_⟩
     refine callK (qjS hsh hl o) ?_
     rintro _ w22 ⟨rfl, hsh2, hc2⟩
     have c2 := s5.ch.trans hc2
     have hno : ∀ k, w.heap.size <= k -> k ∉ [p, ma, ms] := fun k hk hm => by
       have l1 := s.l1
       have l2 := s.l2
       have l3 := s.l3
       simp only [List.mem_cons, List.not_mem_nil, or_false] at hm
       omega
     have a3y := hc2.arr a3x (hno _ hk3')
     have a5y := hc2.arr a5x (hno _ hk5')
     have ex : putC L last c = ⟨{ c.c with born := x.c.born, seq := x.c.seq }, c.site, c.ok⟩ := by unfold putC; rw [hat]
     have el : (putK L last c).2 = last := by unfold putK; rw [hat]
     have e1 : x.cells[26]? = some (.int .i64 x.c.born) := (qfg x (by decide)).trans (qE x.ok 6)
     have e2 : x.cells[28]? = some (.int .i64 x.c.seq) := (qfg x (by decide)).trans (qE x.ok 8)
     -- the two stores, at whatever world
     have two : ∀ wa, qk wa k3 qe c.c.cells -> qk wa k5 qL x.cells -> Shf qY p ma ms (dropK L c.plc) last wa -> Chg [p, ma, ms] w wa ->
         ∃ wb, (Instr.storeAt qA (.pointer (some ⟨k3, 26, none⟩)) (.int .i64 x.c.born)).run prog wa = .ok () wb /\ (qk wb k5 qL x.cells) /\
         ∃ wc, (Instr.storeAt qt (.pointer (some ⟨k3, 28, none⟩)) (.int .i64 x.c.seq)).run prog wb = .ok () wc /\
           qk wc k3 qe (putC L last c).c.cells /\ Shf qY p ma ms (dropK L c.plc) last wc /\ Chg [p, ma, ms] w wc := by
       intro wa b3 b5 bs bc
       obtain ⟨wb, r1, b3b, g1⟩ := b3.put j8 (i := 26) (v := .int .i64 x.c.born) (by rw [Cky.len o]; decide) rfl rfl
       obtain ⟨wc, r2, b3c, g2⟩ := b3b.put qab (i := 28) (v := .int .i64 x.c.seq) (by rw [List.length_set, Cky.len o]; decide) rfl rfl
       refine ⟨wb, r1, b5.grown g1 (qP (Ne.symm n35)), wc, r2, ?_, (bs.put g1 (hno _ hk3')).put g2 (hno _ hk3'), (bc.put g1 hk3').put g2 hk3'⟩
       have e : (c.c.cells.set 26 (.int .i64 x.c.born)).set 28 (.int .i64 x.c.seq) = (putC L last c).c.cells := by
         rw [ex, show (26 : Nat) = 20 + 6 from rfl, qdL o]
         have := qdL (c := { c.c with born := x.c.born }) o 8 (.int .i64 x.c.seq)
         exact this
       rw [e] at b3c
       exact b3c
     refine ⟨_, rfl, ?_⟩
     have dd := qT w22
     have a5d := a5y.below dd
     obtain ⟨wb, r1, b5, wc, r2, b3, bs, bc⟩ := two (World.drew w22) (a3y.below dd) a5d (hsh2.below dd) (c2.step dd)
     have fin : ∃ la, qk wc k3 qe (putC L last c).c.cells /\ Shf qY p ma ms (dropK L c.plc) la wc /\ Chg [p, ma, ms] w wc /\ la = (putK L last c).2 := ⟨last, b3, bs, bc, el.symm⟩
     repeat' (first
       | exact fin
       | exact rfl
       | refine And.intro ?_ ?_
       | refine ⟨_, a5d.load1 un_int64 rfl (i := 26) e1, ?_⟩
       | refine ⟨_, a5d.load1 qK rfl (i := 28) e2, ?_⟩
       | refine ⟨_, b5.load1 qK rfl (i := 28) e2, ?_⟩
       | refine ⟨wb, r1, ?_⟩
       | refine ⟨wc, r2, ?_⟩)
   | none =>
     have ex : putC L last c = ⟨{ c.c with seq := last + 1 }, c.site, c.ok⟩ := by unfold putC; rw [hat]
     have el : (putK L last c).2 = last + 1 := by unfold putK; rw [hat]
     have h0 := hi.l0
     have hw : i64.wrap (last + 1) = last + 1 := wrap_i64 (by omega) (by omega)
     obtain ⟨wy, r1, s6, g1⟩ := s5.num (last + 1)
     have a3y : qk wy k3 qe c.c.cells := SS.arr a3x hk3' g1 ll
     obtain ⟨wz, r2, b3, g2⟩ := a3y.put qab (i := 28) (v := .int .i64 (last + 1)) (by rw [Cky.len o]; decide) rfl rfl
     have s7 := s6.put g2 hk3'
     have e : c.c.cells.set 28 (.int .i64 (last + 1)) = (putC L last c).c.cells := by
       rw [ex, show (28 : Nat) = 20 + 8 from rfl, qdL o]; rfl
     rw [e] at b3
     refine BCase.no rfl ⟨rfl, rfl, _, qAW s5, rfl, rfl, wy, by rw [hw]; exact r1, rfl, rfl, _, qAW s6, rfl, wz, r2, last + 1, b3, ?_, s7.ch, el.symm⟩
     rw [qj3 hat]
     exact s7.shf hM hS (hi.up_to (by omega))
 · rintro wj ⟨la, b3, hsh, hc, el⟩
   obtain ⟨M1, S1, t, hM1, hS1⟩ := SS.of hsh
   have op := (putC L last c).ok
   have epl := qBI L last c
   refine ⟨rfl, rfl, some ma, fun u hu => qoS (t.below hu), (putC L last c).c.v, fun u hu => qn.load0 (b3.below hu) (Cky.len op), c.plc.v, fun u hu => ?_, (putC L last c).c.v, fun u hu => qn.load0 (b3.below hu) (Cky.len op), (putC L last c).v, fun u hu => ?_, ?_⟩
   · have := qoE (qi8 op u)
     rw [show (putC L last c).c.plc op = c.plc from epl] at this
     exact this
   · have := qy2 (putC L last c) u
     rw [show (putC L last c).site = c.site by unfold putC; split <;> rfl] at this
     exact this
   intro wq2 hq2
   have t2 := t.below hq2
   obtain ⟨wy, r1, t3, _⟩ := t2.upM c.plc (putC L last c)
   have hno : atK (dropK L c.plc) (putC L last c).plc = none := by rw [epl]; exact qBe L _
   have hM2 := hM1.new hno
   rw [epl] at hM2
   have hcd : cntK (dropK L c.plc) c.site <= L.length := Nat.le_trans List.countP_le_length (List.length_filter_le ..)
   have hw : i64.wrap (((cntK (dropK L c.plc) c.site : Nat) : Int) + 1) = ((cntK (dropK L c.plc) c.site : Nat) : Int) + 1 := wrap_i64 (by omega) (by omega)
   obtain ⟨wz, r2, t4, _⟩ := t3.upS c.site (((cntK (dropK L c.plc) c.site : Nat) : Int) + 1)
   refine ⟨wy, r1, rfl, rfl, some ms, qqx t3, _, qAV t3 hS1 _, wz, by rw [hw]; exact r2, rfl, ?_, hc.trans t4.ch⟩
   have hp := qBJ hi c
   subst el
   refine t4.shf (hM2.perm' hp) (hS1.inc fun s => ?_) (hi.put c)
   rw [<- qBi hp, qCB]
   rw [show (putC L last c).site = c.site by unfold putC; split <;> rfl]
end Go.Proofs.YtlfolncaghkmcaaGreatDoor
