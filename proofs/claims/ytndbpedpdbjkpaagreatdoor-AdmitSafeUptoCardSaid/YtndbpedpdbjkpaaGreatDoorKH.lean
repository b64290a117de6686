/- What the laws lean on: HdrF, V2, HdrG, HdrH, DateV, DateX, HdrI, HdrJ, HdrN, AdmA, AdmB, V5, AdmD; what is used. Its conditions: none. -/
import Derived.Test.YtndbpedpdbjkpaaGreatDoorKG
import Derived.Lib.ItoaLen
import Derived.Lib.Join
open Go.IntKind (i64)
open Go.Proofs.Tryz (prog)
set_option linter.unusedVariables false
set_option linter.unusedSimpArgs false
set_option maxRecDepth 20000
namespace Go.Pk
open Go.RowKit (Below)
abbrev kE : List UInt8 := [101, 120, 112, 105, 114, 101, 115]
abbrev kA : List UInt8 := [109, 97, 120, 45, 97, 103, 101]
abbrev kD : List UInt8 := [100, 111, 109, 97, 105, 110]
abbrev kP : List UInt8 := [112, 97, 116, 104]
abbrev kS : List UInt8 := [115, 101, 99, 117, 114, 101]
abbrev kH : List UInt8 := [104, 116, 116, 112, 111, 110, 108, 121]
abbrev kM : List UInt8 := [115, 97, 109, 101, 115, 105, 116, 101]
def a1 (key v : List UInt8) (h : Hdr) : Hdr := if key = kE then (if qhi (qdo v) then { h with hasE := true, exp := qcb (qdo v) } else h) else h
def a2 (key v : List UInt8) (h : Hdr) : Hdr := if key = kA then (match ageV v with | some n => { h with hasA := true, age := n } | none => h) else h
def a3 (key v : List UInt8) (h : Hdr) : Hdr := if key = kD then { h with domain := lowL (if v.head? = some 46 then v.drop 1 else v) } else h
def a4 (key v : List UInt8) (h : Hdr) : Hdr := if key = kP then { h with path := if v.head? = some 47 then v else [] } else h
def a5 (key : List UInt8) (h : Hdr) : Hdr := if key = kS then { h with sec := true } else h
def a6 (key : List UInt8) (h : Hdr) : Hdr := if key = kH then { h with http := true } else h
def a7 (key v : List UInt8) (h : Hdr) : Hdr := if key = kM then { h with same := qoh v } else h
theorem qs3 (key v : List UInt8) (h : Hdr) : a7 key v (a6 key (a5 key (a4 key v (a3 key v (a2 key v (a1 key v h)))))) = qdZ h key v := by
 unfold qdZ a7 a6 a5 a4 a3 a2 a1
 by_cases h1 : key = kE
 · have g2 : ¬ key = kA := by rw [h1]; decide
   have g3 : ¬ key = kD := by rw [h1]; decide
   have g4 : ¬ key = kP := by rw [h1]; decide
   have g5 : ¬ key = kS := by rw [h1]; decide
   have g6 : ¬ key = kH := by rw [h1]; decide
   have g7 : ¬ key = kM := by rw [h1]; decide
   simp only [if_neg g2, if_neg g3, if_neg g4, if_neg g5, if_neg g6, if_neg g7, if_pos h1]
 by_cases h2 : key = kA
 · have g3 : ¬ key = kD := by rw [h2]; decide
   have g4 : ¬ key = kP := by rw [h2]; decide
   have g5 : ¬ key = kS := by rw [h2]; decide
   have g6 : ¬ key = kH := by rw [h2]; decide
   have g7 : ¬ key = kM := by rw [h2]; decide
   simp only [if_neg g3, if_neg g4, if_neg g5, if_neg g6, if_neg g7, if_neg h1, if_pos h2]
   cases ageV v <;> rfl
 by_cases h3 : key = kD
 · have g4 : ¬ key = kP := by rw [h3]; decide
   have g5 : ¬ key = kS := by rw [h3]; decide
   have g6 : ¬ key = kH := by rw [h3]; decide
   have g7 : ¬ key = kM := by rw [h3]; decide
   simp only [if_neg g4, if_neg g5, if_neg g6, if_neg g7, if_neg h1, if_neg h2, if_pos h3]
 by_cases h4 : key = kP
 · have g5 : ¬ key = kS := by rw [h4]; decide
   have g6 : ¬ key = kH := by rw [h4]; decide
   have g7 : ¬ key = kM := by rw [h4]; decide
   simp only [if_neg g5, if_neg g6, if_neg g7, if_neg h1, if_neg h2, if_neg h3, if_pos h4]
 by_cases h5 : key = kS
 · have g6 : ¬ key = kH := by rw [h5]; decide
   have g7 : ¬ key = kM := by rw [h5]; decide
   simp only [if_neg g6, if_neg g7, if_neg h1, if_neg h2, if_neg h3, if_neg h4, if_pos h5]
 by_cases h6 : key = kH
 · have g7 : ¬ key = kM := by rw [h6]; decide
   simp only [if_neg g7, if_neg h1, if_neg h2, if_neg h3, if_neg h4, if_neg h5, if_pos h6]
 by_cases h7 : key = kM
 · simp only [if_neg h1, if_neg h2, if_neg h3, if_neg h4, if_neg h5, if_neg h6, if_pos h7]
 simp only [if_neg h1, if_neg h2, if_neg h3, if_neg h4, if_neg h5, if_neg h6, if_neg h7]
theorem qsS (v : List UInt8) : (lowL v).head? = some 46 ↔ v.head? = some 46 := by
 cases v with
 | nil => simp [lowL]
 | cons c r =>
   have h : ∀ n, n < 256 -> (lowC (UInt8.ofNat n) = 46 ↔ UInt8.ofNat n = 46) := by decide +kernel
   have := h c.toNat (by have := c.toNat_lt; omega)
   rw [UInt8.ofNat_toNat] at this
   simpa [lowL] using this
theorem qsZ (v : List UInt8) (k : Nat) : (lowL v).drop k = lowL (v.drop k) := by unfold lowL; rw [List.map_drop]
theorem qlH (v : List UInt8) : (lowL v).length = v.length := by simp [lowL]
structure Stg (w0 : World) (t ts : TypeId) (k6 k2 : Nat) (a : Option Addr) (n c : Nat) (L : List (List UInt8)) (h : Hdr) (w : World) : Prop where
 hh : qm w k6 t h.cells
 h2 : qm w k2 t hdr0.cells
 ho : Ow tS ts w NoB a n c L
 hb : Below w0.heap.size w0 w
 hne : k2 ≠ k6
 hog : ∀ g, ownB a = some g -> g ≠ k6
 hk6 : w0.heap.size <= k6
theorem Stg.below {w0 : World} {t ts : TypeId} {k6 k2 : Nat} {a : Option Addr} {n c : Nat} {L : List (List UInt8)} {h : Hdr} {w w' : World} (S : Stg w0 t ts k6 k2 a n c L h w) (hb : Below w.heap.size w w') : Stg w0 t ts k6 k2 a n c L h w' :=
 ⟨S.hh.below hb, S.h2.below hb, S.ho.below hb, qb S.hb hb S.hb.size, S.hne, S.hog, S.hk6⟩
theorem Stg.put {P : Program} {u : TypeId} {bytes : Nat} {z : Value} (tf : TF P u 1 bytes z) {w0 : World} {t ts : TypeId} {k6 k2 : Nat} {a : Option Addr} {n c : Nat} {L : List (List UInt8)} {h h' : Hdr} {w : World} (S : Stg w0 t ts k6 k2 a n c L h w)
   {i : Nat} {v : Value} (hi : i < 11) (h1 : v.oneCell' = true) (hc : v.cells = #[v]) (e : h'.cells = h.cells.set i v) :
   ∃ wx, (Instr.storeAt u (.pointer (some ⟨k6, i, none⟩)) v).run P w = .ok () wx /\ Stg w0 t ts k6 k2 a n c L h' wx := by
 obtain ⟨wx, hs, ha, hg⟩ := S.hh.put tf (i := i) (v := v) (by simpa [Hdr.cells] using hi) h1 hc
 refine ⟨wx, hs, e ▸ ha, S.h2.grown hg (fun e => S.hne (Option.some.inj e)), S.ho.keep (qby hg fun b hb e => ?_), S.hb.grown hg S.hb.size (fun x e => by cases e; exact S.hk6), S.hne, S.hog, S.hk6⟩
 rcases hb with hb | hb
 · exact hb
 · exact S.hog b hb.symm (Option.some.inj e)
theorem Stg.get {P : Program} {u : TypeId} {d : TypeDesc} (hu : P.underlying u = some d) (ha : aggD d = false) {w0 : World} {t ts : TypeId} {k6 k2 : Nat} {a : Option Addr} {n c : Nat} {L : List (List UInt8)} {h : Hdr} {w : World} (S : Stg w0 t ts k6 k2 a n c L h w)
   {i : Nat} {v : Value} (hv : h.cells[i]? = some v) : (Instr.loadAt u (.pointer (some ⟨k6, i, none⟩))).run P w = .ok v w := S.hh.load1 hu ha hv
end Go.Pk
namespace Go.Proofs.YtndbpedpdbjkpaaGreatDoor
open Go.Pk
open Go.RowKit (Below)
theorem qeT (s : List UInt8) (hs : s.length <= 10000000) (w : World) : Calls prog qcy #[.string (mkS s)] w (Ret (qiV s w)) := by
 apply qlU
 unfold qhs
 intro k2 w2 hk2 hw2
 have hB2 := (hw2 ▸ qf w _ : Below w.heap.size w w2)
 have ha2 : qm w2 k2 qd hdr0.cells := qm.new hk2 hw2
 have hk2w : w.heap.size <= k2 := by omega
 have hs2 : w2.heap.size = w.heap.size + 1 := by rw [hw2]; simp
 have post : ∀ {h : Hdr} {e : Int}, qM s = (h, e) -> ∀ wx, Below w.heap.size w wx -> qiV s w (.tuple #[h.v, .int .i64 e]) wx := fun hp wx hb => ⟨by rw [hp], hb⟩
 refine ⟨fun m i w' => ∃ k : Nat, k <= s.length /\ i = (k : Int) /\ m = s.length - k /\ (s.take k).any qcM = false /\ w' = w2, ⟨_, 0, by omega, rfl, rfl, rfl, rfl⟩, ?_⟩
 intro m i
 refine AllJ.of ?_ _
 rintro w' ⟨k, hk, rfl, rfl, hno, rfl⟩
 refine BCase.of (fun h => ?_) (fun h => ?_) <;> simp only [dTx, dFx] at h
 · have hlt : k < s.length := by omega
   have hin : (0 <= (k : Int) /\ (k : Int) < ((s.length : Nat) : Int)) := ⟨by omega, h⟩
   rw [zJ hlt]
   have e9 := qau s[k] 9
   have e127 := qau s[k] 127
   have e127' : ((((s[k].toNat : Nat) : Int)) == (127 : Int)) = (s[k] == 127) := e127
   have hctl : qcM s[k] = ((decide (((s[k].toNat : Nat) : Int) <= 8) || (decide (((s[k].toNat : Nat) : Int) >= 10) && decide (((s[k].toNat : Nat) : Int) <= 31))) || (s[k] == 127)) := by
     unfold qcM
     congr 1
     rw [<- e9, Bool.eq_iff_iff]
     simp only [Bool.and_eq_true, Bool.or_eq_true, dTx, Bool.not_eq_true', beq_eq_false_iff_ne]
     have : ((UInt8.toNat 9 : Nat) : Int) = 9 := rfl
     rw [this]
     omega
   refine qav (w := w') (qcM s[k]) ?_ ?_
   · rw [hctl]
     refine ⟨hin, BCase.of (fun h2 => ?_) (fun h2 => ?_)⟩
     · exact ⟨rfl, by rw [h2]; rfl⟩
     · refine ⟨hin, BCase.of (fun h3 => ?_) (fun h3 => ?_)⟩
       · refine ⟨hin, BCase.of (fun h4 => ?_) (fun h4 => ?_)⟩
         · exact ⟨rfl, by rw [h2, h3, h4]; rfl⟩
         · exact ⟨hin, rfl, by rw [h2, h3, h4, e127']; rfl⟩
       · exact ⟨hin, rfl, by rw [h2, h3, e127']; rfl⟩
   · refine BCase.of (fun h2 => ?_) (fun h2 => ?_)
     · refine qgC hdr0 ha2 rfl hB2 hk2w (post ?_)
       have : s.any qcM = true := List.any_eq_true.2 ⟨_, List.getElem_mem hlt, h2⟩
       unfold qM; rw [if_pos this]
     · exact ⟨s.length - (k + 1), by omega, k + 1, by omega, by rw [wrap_i64 (by omega) (by omega)]; omega, rfl, by rw [List.take_succ_eq_append_getElem hlt, List.any_append, hno]; simp [h2], rfl⟩
 · have : k = s.length := by omega
   subst this
   rw [List.take_length] at hno
   have h1' : ¬ s.any qcM = true := by rw [hno]; decide
   clear hno hk h
   refine callK (ja s 59 (by omega) w') ?_
   rintro _ w4 ⟨a, n, c, rfl, ho4, hf4, hb4⟩
   have hB4 := qb hB2 hb4 hB2.size
   have ha4 := ha2.below hb4
   refine ⟨_, _, _, rfl, ?_⟩
   have hn := ho4.len
   obtain ⟨hl0, hhead⟩ := qlG s
   have hlens : ∀ x ∈ cutC 59 [] s, x.length <= s.length := fun x hx => by simpa using qdf 59 s [] x hx
   have hpar : qM s = if (nameOf ((cutC 59 [] s).headD [])).1 ++ (nameOf ((cutC 59 [] s).headD [])).2 = [] then (hdr0, 82)
     else if 4096 < (nameOf ((cutC 59 [] s).headD [])).1.length + (nameOf ((cutC 59 [] s).headD [])).2.length then (hdr0, 83)
     else (((cutC 59 [] s).drop 1).foldl qbE { hdr0 with name := (nameOf ((cutC 59 [] s).headD [])).1, value := (nameOf ((cutC 59 [] s).headD [])).2 }, 0) := by
     unfold qM; rw [if_neg h1']
   have hcl := j0 59 s []
   generalize cutC 59 [] s = L at *
   have hl1 : 0 < L.length := by omega
   subst hn
   have hsome := ho4.all.isSome hl1
   have hld : ∀ {u : World}, Below w4.heap.size w4 u -> (Instr.loadAt qe (.pointer (qn a (0 : Int) 1))).run prog u = .ok (.string (mkS (L.headD []))) u := fun hu => by
     have := qfd (ho4.below hu).all hl1
     rw [hhead hl1] at this; exact this
   have hx0 := hlens _ (List.getElem_mem hl1)
   rw [hhead hl1] at hx0
   generalize L.headD [] = x0 at *
   have hp1 := qiH x0
   have hp2 := qiP x0
   have hin0 : (0 <= (0 : Int) /\ (0 : Int) < ((L.length : Nat) : Int)) /\ Option.isSome a = true := ⟨⟨by decide, by omega⟩, hsome⟩
   have hlt2 := ha4.lt
   refine ⟨fun p w' => ∃ k6 : Nat, p = some ⟨k6, 0, none⟩ /\ Stg w qd qe k6 k2 a L.length c L { hdr0 with name := qcg x0, value := qbW x0 } w', ?_, ?_⟩
   · -- whatever the order
     have fin : ∀ {k6 : Nat} {u : World}, qm u k6 qd hdr0.cells -> w4.heap.size <= k6 -> Below w4.heap.size w4 u -> ∃ wx : World, (Instr.storeAt qd (.pointer (some ⟨k6, 0, none⟩)) ({ hdr0 with name := qcg x0, value := qbW x0 } : Hdr).v).run prog u = .ok () wx /\
         ∃ k7 : Nat, (some ⟨k6, 0, none⟩ : Option Addr) = some ⟨k7, 0, none⟩ /\ Stg w qd qe k7 k2 a L.length c L { hdr0 with name := qcg x0, value := qbW x0 } wx := by
       intro k6 u hh6 hk6 hu
       have hBu := qb hB4 hu hB4.size
       have hB4s := hB4.size
       have hne : k2 ≠ k6 := by omega
       have hog : ∀ g, ownB a = some g -> g ≠ k6 := fun g hg e => by have := ho4.lt g hg; omega
       obtain ⟨wx, hsx, hhx, hgx⟩ := qbR { hdr0 with name := qcg x0, value := qbW x0 } hh6 rfl
       refine ⟨wx, hsx, k6, rfl, hhx, (ha4.below hu).grown hgx (fun e => hne (Option.some.inj e)), (ho4.below hu).keep (qby hgx fun b hb e => ?_), hBu.grown hgx hBu.size (fun x e => by cases e; omega), hne, hog, by omega⟩
       rcases hb with hb | hb
       · exact hb
       · exact hog b hb.symm (Option.some.inj e)
     have hd4 := zV w4
     refine ⟨hin0, hin0, ?_⟩
     repeat' (first
       | exact fin (by assumption) (by assumption) (by assumption)
       | refine And.intro ?_ ?_
       | refine Exists.intro _ (And.intro (hld (by assumption)) ?_)
       | (refine callK (ref08_ahead_ok x0 (by omega) _) ?_; rintro _ _ ⟨rfl, rfl⟩; refine Exists.intro _ (And.intro rfl ?_))
       | (refine callK (ref08_after_ok x0 (by omega) _) ?_; rintro _ _ ⟨rfl, rfl⟩; refine Exists.intro _ (And.intro rfl ?_))
       | (intro k6 w6 hk6 hw6
          have hh6 : qm w6 k6 qd hdr0.cells := qm.new hk6 hw6
          have hk6s : w4.heap.size <= k6 := by rw [hk6]; exact Nat.le_refl _
          have hb6 : Below w4.heap.size w4 w6 := by rw [hw6]; exact qb hd4 (qf _ _) hd4.size
          clear hk6 hw6))
   · intro p6
     refine AllJ.of ?_ _
     rintro w5 ⟨k6, rfl, S5⟩
     simp only [qjG]
     have htr : Option.isSome (some (⟨k6, 0, none⟩ : Addr)) = true := rfl
     clear hld
     refine worldJ (fun w' => Stg w qd qe k6 k2 a L.length c L { hdr0 with name := (nameOf x0).1, value := (nameOf x0).2 } w') ?_ ?_
     · have hld : ∀ {u : World}, Stg w qd qe k6 k2 a L.length c L { hdr0 with name := qcg x0, value := qbW x0 } u -> ∀ {u' : World}, Below u.heap.size u u' -> (Instr.loadAt qe (.pointer (qn a (0 : Int) 1))).run prog u' = .ok (.string (mkS x0)) u' := fun {u} S {u'} hu => by
         have := qfd (S.ho.below hu).all hl1
         rw [hhead hl1] at this; exact this
       have htw := jz (· != (61 : UInt8)) x0
       refine ⟨hin0, x0, fun u hu => hld S5 hu, ((x0.takeWhile (· != 61)).length : Nat), fun u hu => ?_, hin0, x0, fun u hu => hld S5 hu, ?_⟩
       · refine (qgw x0 (by omega) u).mono ?_
         rintro _ u' ⟨_, rfl, rfl, rfl⟩
         exact ⟨rfl, Below.refl _ _⟩
       · intro wq hq
         have Sq := S5.below hq
         refine BCase.of (fun h2 => ?_) (fun h2 => ?_)
         · rw [beq_iff_eq] at h2
           have hno : (61 : UInt8) ∉ x0 := fun hm => by have := qph hm; omega
           have hnm : nameOf x0 = ([], qcg x0) := by unfold nameOf qnR; rw [decide_eq_false hno]; rfl
           have hae : qcg x0 = zt x0 := by unfold qcg; rw [(qrm hno).1]
           obtain ⟨w6, hs6, S6⟩ := Sq.put (P := prog) zl (i := 0) (v := .string (mkS [])) (by decide) rfl rfl (h' := { hdr0 with name := [], value := qbW x0 }) rfl
           refine ⟨htr, w6, hs6, hin0, x0, ?_, ?_⟩
           · have := qfd S6.ho.all hl1
             rw [hhead hl1] at this; exact this
           · refine callK (ref01_Trim_ok x0 (by omega) w6) ?_
             rintro _ w6 ⟨rfl, rfl⟩
             refine ⟨_, rfl, htr, ?_⟩
             rw [hnm, hae]
             exact S6.put (P := prog) zl (i := 1) (v := .string (mkS (zt x0))) (by decide) rfl rfl rfl
         · rw [beq_eq_false_iff_ne] at h2
           have hyes : (61 : UInt8) ∈ x0 := by
             by_cases hm : (61 : UInt8) ∈ x0
             · exact hm
             · exact absurd (by rw [(qrm hm).1]) h2
           have hnm : nameOf x0 = (qcg x0, qbW x0) := by unfold nameOf qnR; rw [decide_eq_true hyes]; rfl
           rw [hnm]; exact Sq
     · intro w6 S6
       clear S5
       have hnl : (nameOf x0).1.length <= s.length /\ (nameOf x0).2.length <= s.length := by
         unfold nameOf
         split
         · exact ⟨by simp only; omega, by simp only; omega⟩
         · exact ⟨by simp, by simp only; omega⟩
       generalize (nameOf x0).1 = nm at *
       generalize (nameOf x0).2 = vl at *
       have lnm := S6.get (P := prog) un_string rfl (i := 0) (v := .string (mkS nm)) rfl
       have lvl := S6.get (P := prog) un_string rfl (i := 1) (v := .string (mkS vl)) rfl
       refine factJ (w := w6) (¬ nm ++ vl = []) ?_ ?_
       · refine qav (w := w6) ((nm == []) && (vl == [])) ?_ ?_
         · refine ⟨htr, nm, lnm, ?_⟩
           refine BCase.of (fun h2 => ?_) (fun h2 => ?_)
           · exact ⟨htr, vl, lvl, rfl, by rw [h2]; rfl⟩
           · exact ⟨rfl, by rw [h2]; rfl⟩
         · refine BCase.of (fun h2 => ?_) (fun h2 => ?_)
           · rw [Bool.and_eq_true, beq_iff_eq, beq_iff_eq] at h2
             rw [if_pos (by rw [h2.1, h2.2]; rfl)] at hpar
             exact qgC hdr0 S6.h2 rfl S6.hb hk2w (post hpar)
           · refine ⟨rfl, fun e => ?_⟩
             have := List.append_eq_nil_iff.1 e
             rw [this.1, this.2] at h2; cases h2
       · intro h2
         rw [if_neg h2] at hpar
         refine ⟨htr, nm, lnm, htr, vl, lvl, ?_⟩
         rw [wrap_i64 (by omega) (by omega)]
         refine BCase.of (fun h3 => ?_) (fun h3 => ?_) <;> simp only [gt_iff_lt, dTx, dFx] at h3
         · rw [if_pos (by omega)] at hpar
           exact qgC hdr0 S6.h2 rfl S6.hb hk2w (post hpar)
         rw [if_neg (by omega)] at hpar
         have hdl : (L.drop 1).length = L.length - 1 := List.length_drop ..
         refine ⟨fun m i w' => ∃ j : Nat, 1 <= j /\ j <= L.length /\ i = (j : Int) /\ m = L.length - j /\ Stg w qd qe k6 k2 a L.length c L (((L.drop 1).take (j - 1)).foldl qbE { hdr0 with name := nm, value := vl }) w',
           ⟨_, 1, by omega, by omega, rfl, rfl, S6⟩, ?_⟩
         intro m i
         refine AllJ.of ?_ _
         rintro w7 ⟨j, hj1, hj, rfl, rfl, S7⟩
         refine BCase.of (fun h4 => ?_) (fun h4 => ?_) <;> simp only [dTx, dFx] at h4
         · have hjl : j < L.length := by omega
           have hjd : j - 1 < (L.drop 1).length := by omega
           have ew : i64.wrap ((j : Int) + 1) = ((j + 1 : Nat) : Int) := by rw [wrap_i64 (by omega) (by omega)]; omega
           rw [ew]
           have hxe : (L.drop 1)[j - 1] = L[j] := by rw [List.getElem_drop]; congr 1; omega
           have hnext : ((L.drop 1).take (j + 1 - 1)).foldl qbE { hdr0 with name := nm, value := vl } = qbE (((L.drop 1).take (j - 1)).foldl qbE { hdr0 with name := nm, value := vl }) L[j] := by
             rw [show j + 1 - 1 = (j - 1) + 1 by omega, List.take_succ_eq_append_getElem hjd, List.foldl_append, hxe]; rfl
           have hxl := hlens _ (List.getElem_mem hjl)
           have hinj : (0 <= (j : Int) /\ (j : Int) < ((L.length : Nat) : Int)) /\ Option.isSome a = true := ⟨⟨by omega, h4⟩, hsome⟩
           have hld : ∀ {u : World}, Below w7.heap.size w7 u -> (Instr.loadAt qe (.pointer (qn a (j : Int) 1))).run prog u = .ok (.string (mkS L[j])) u := fun hu => qfd (S7.ho.below hu).all hjl
           refine ⟨hinj, _, hld (Below.refl _ _), ?_⟩
           generalize L[j] = x at *
           generalize ((L.drop 1).take (j - 1)).foldl qbE { hdr0 with name := nm, value := vl } = H at *
           have hq1 := qiH x
           have hq2 := qiP x
           refine callK (ref08_ahead_ok x (by omega) w7) ?_
           rintro _ w7 ⟨rfl, rfl⟩
           refine ⟨_, rfl, ?_⟩
           refine callK (ref01_Lower_ok _ (by omega) w7) ?_
           rintro _ w8 ⟨rfl, hb8⟩
           refine ⟨_, rfl, hinj, x, hld hb8, ?_⟩
           refine callK (ref08_after_ok x (by omega) w8) ?_
           rintro _ w8 ⟨rfl, rfl⟩
           refine ⟨_, rfl, ?_⟩
           refine callK (ref01_Lower_ok _ (by omega) w8) ?_
           rintro _ w9 ⟨rfl, hb9⟩
           refine ⟨_, rfl, ?_⟩
           have S9 := (S7.below hb8).below hb9
           clear hld S7 S6 lnm lvl
           have next : ∀ {w' : World}, Stg w qd qe k6 k2 a L.length c L (qbE H x) w' -> ∃ q : Nat, q < L.length - j /\ ∃ j2 : Nat, 1 <= j2 /\ j2 <= L.length /\ ((j + 1 : Nat) : Int) = (j2 : Int) /\ q = L.length - j2 /\
               Stg w qd qe k6 k2 a L.length c L (((L.drop 1).take (j2 - 1)).foldl qbE { hdr0 with name := nm, value := vl }) w' := fun S => ⟨L.length - (j + 1), by omega, j + 1, by omega, by omega, rfl, rfl, by rw [hnext]; exact S⟩
           refine BCase.of (fun h5 => ?_) (fun h5 => ?_) <;> simp only [gt_iff_lt, dTx, dFx] at h5
           · refine next ?_
             unfold qbE; rw [if_neg (by omega)]; exact S9
           have hstep : qbE H x = qdZ H (lowL (qcg x)) (qbW x) := by unfold qbE; rw [if_pos (by omega)]
           rw [hstep, <- qs3] at next
           have hvl : (qbW x).length <= 1024 := by omega
           generalize lowL (qcg x) = key at *
           generalize qbW x = v at *
           -- expires
           refine worldJ (fun w' => Stg w qd qe k6 k2 a L.length c L (a1 key v H) w') ?_ ?_
           · unfold a1
             refine BCase.of (fun h6 => ?_) (fun h6 => ?_)
             · rw [beq_iff_eq] at h6
               refine callK (qk8 v (by omega) w9) ?_
               rintro _ w10 ⟨rfl, hb10⟩
               have S10 := S9.below hb10
               rw [if_pos h6]
               unfold qjP
               by_cases hc : qhi (qdo v)
               · rw [if_pos hc, if_pos hc]
                 refine ⟨_, _, rfl, BCase.yes rfl ⟨htr, ?_⟩⟩
                 obtain ⟨w11, hs11, S11⟩ := S10.put (P := prog) qca (i := 4) (v := .bool true) (by decide) rfl rfl (h' := { H with hasE := true }) rfl
                 exact ⟨w11, hs11, htr, S11.put (P := prog) qew (i := 5) (v := .int .i64 (qcb (qdo v))) (by decide) rfl rfl rfl⟩
               · rw [if_neg hc, if_neg hc]
                 exact ⟨_, _, rfl, BCase.no rfl S10⟩
             · rw [beq_eq_false_iff_ne] at h6
               rw [if_neg h6]; exact S9
           intro w10 S10
           clear S9
           -- max-age
           refine worldJ (fun w' => Stg w qd qe k6 k2 a L.length c L (a2 key v (a1 key v H)) w') ?_ ?_
           · unfold a2
             generalize a1 key v H = G at *
             refine BCase.of (fun h6 => ?_) (fun h6 => ?_)
             · rw [beq_iff_eq] at h6
               refine callK (qoZ v (by omega) w10) ?_
               rintro _ w10 ⟨rfl, rfl⟩
               rw [if_pos h6]
               unfold ageT
               cases ageV v with
               | none => exact ⟨_, _, rfl, BCase.no rfl S10⟩
               | some q =>
                 refine ⟨_, _, rfl, BCase.yes rfl ⟨htr, ?_⟩⟩
                 obtain ⟨w11, hs11, S11⟩ := S10.put (P := prog) qca (i := 6) (v := .bool true) (by decide) rfl rfl (h' := { G with hasA := true }) rfl
                 exact ⟨w11, hs11, htr, S11.put (P := prog) qew (i := 7) (v := .int .i64 q) (by decide) rfl rfl rfl⟩
             · rw [beq_eq_false_iff_ne] at h6
               rw [if_neg h6]; exact S10
           intro w11 S11
           clear S10
           -- domain
           refine worldJ (fun w' => Stg w qd qe k6 k2 a L.length c L (a3 key v (a2 key v (a1 key v H))) w') ?_ ?_
           · unfold a3
             generalize a2 key v (a1 key v H) = G at *
             refine BCase.of (fun h6 => ?_) (fun h6 => ?_)
             · rw [beq_iff_eq] at h6
               rw [if_pos h6]
               refine ⟨htr, ?_⟩
               obtain ⟨w12, hs12, S12⟩ := S11.put (P := prog) zl (i := 2) (v := .string (mkS (lowL v))) (by decide) rfl rfl (h' := { G with domain := lowL v }) rfl
               refine ⟨w12, hs12, ?_⟩
               refine qav (w := w12) (decide (v.head? = some 46)) ?_ ?_
               · rw [qlH]
                 refine BCase.of (fun h7 => ?_) (fun h7 => ?_) <;> simp only [gt_iff_lt, dTx, dFx] at h7
                 · have hv0 : 0 < v.length := by omega
                   have hl0' : 0 < (lowL v).length := by rw [qlH]; exact hv0
                   refine ⟨⟨by decide, by omega⟩, rfl, ?_⟩
                   have eb : qA (lowL v) 0 = (((lowL v)[0].toNat : Nat) : Int) := zJ hl0'
                   rw [eb]
                   have e46 := qau (lowL v)[0] 46
                   rw [show ((((lowL v)[0].toNat : Nat) : Int) == (46 : Int)) = ((lowL v)[0] == 46) from e46, Bool.eq_iff_iff, beq_iff_eq, dTx, <- qsS, List.head?_eq_getElem?, List.getElem?_eq_getElem hl0']
                   simp
                 · have : v = [] := List.eq_nil_of_length_eq_zero (by omega)
                   subst this
                   exact ⟨rfl, rfl⟩
               · refine BCase.of (fun h7 => ?_) (fun h7 => ?_) <;> simp only [dTx, dFx] at h7
                 · have hv1 : 1 <= v.length := by
                     cases v with
                     | nil => cases h7
                     | cons y r => simp
                   refine ⟨⟨by decide, by rw [qlH]; omega⟩, ?_⟩
                   rintro _ rfl
                   have e1 : Int.toNat (1 : Int) = 1 := rfl
                   rw [e1, qsZ]
                   refine ⟨htr, ?_⟩
                   rw [if_pos h7]
                   exact S12.put (P := prog) zl (i := 2) (v := .string (mkS (lowL (v.drop 1)))) (by decide) rfl rfl rfl
                 · rw [if_neg h7]; exact S12
             · rw [beq_eq_false_iff_ne] at h6
               rw [if_neg h6]; exact S11
           intro w12 S12
           clear S11
           -- path
           refine worldJ (fun w' => Stg w qd qe k6 k2 a L.length c L (a4 key v (a3 key v (a2 key v (a1 key v H)))) w') ?_ ?_
           · unfold a4
             generalize a3 key v (a2 key v (a1 key v H)) = G at *
             refine BCase.of (fun h6 => ?_) (fun h6 => ?_)
             · rw [beq_iff_eq] at h6
               rw [if_pos h6]
               refine ⟨htr, ?_⟩
               obtain ⟨w13, hs13, S13⟩ := S12.put (P := prog) zl (i := 3) (v := .string (mkS v)) (by decide) rfl rfl (h' := { G with path := v }) rfl
               refine ⟨w13, hs13, ?_⟩
               refine qav (w := w13) (!(v == []) && !decide (v.head? = some 47)) ?_ ?_
               · refine BCase.of (fun h7 => ?_) (fun h7 => ?_)
                 · match v, h7 with
                   | y :: r, h7 =>
                     refine ⟨⟨by decide, by simp only [List.length_cons]; omega⟩, rfl, ?_⟩
                     have hx : qA (y :: r) 0 = ((y.toNat : Nat) : Int) := rfl
                     have e47 := qau y 47
                     rw [hx, h7, Bool.true_and]
                     show (!((((y.toNat : Nat) : Int)) == ((UInt8.toNat 47 : Nat) : Int))) = _
                     rw [e47]
                     congr 1
                     rw [Bool.eq_iff_iff]; simp
                 · exact ⟨rfl, by rw [h7]; rfl⟩
               · refine BCase.of (fun h7 => ?_) (fun h7 => ?_)
                 · simp only [Bool.and_eq_true, Bool.not_eq_true', beq_eq_false_iff_ne, dFx] at h7
                   refine ⟨htr, ?_⟩
                   rw [if_neg h7.2]
                   exact S13.put (P := prog) zl (i := 3) (v := .string (mkS [])) (by decide) rfl rfl rfl
                 · by_cases h8 : v.head? = some 47
                   · rw [if_pos h8]; exact S13
                   · rw [decide_eq_false h8, Bool.not_false, Bool.and_true] at h7
                     have hv : v = [] := by simpa using h7
                     rw [if_neg h8]
                     have : ({ G with path := v } : Hdr) = { G with path := [] } := by rw [hv]
                     rw [<- this]; exact S13
             · rw [beq_eq_false_iff_ne] at h6
               rw [if_neg h6]; exact S12
           intro w13 S13
           clear S12
           -- secure
           refine worldJ (fun w' => Stg w qd qe k6 k2 a L.length c L (a5 key (a4 key v (a3 key v (a2 key v (a1 key v H))))) w') ?_ ?_
           · unfold a5
             generalize a4 key v (a3 key v (a2 key v (a1 key v H))) = G at *
             refine BCase.of (fun h6 => ?_) (fun h6 => ?_)
             · rw [beq_iff_eq] at h6
               rw [if_pos h6]
               exact ⟨htr, S13.put (P := prog) qca (i := 8) (v := .bool true) (by decide) rfl rfl rfl⟩
             · rw [beq_eq_false_iff_ne] at h6
               rw [if_neg h6]; exact S13
           intro w14 S14
           clear S13
           -- httponly
           refine worldJ (fun w' => Stg w qd qe k6 k2 a L.length c L (a6 key (a5 key (a4 key v (a3 key v (a2 key v (a1 key v H)))))) w') ?_ ?_
           · unfold a6
             generalize a5 key (a4 key v (a3 key v (a2 key v (a1 key v H)))) = G at *
             refine BCase.of (fun h6 => ?_) (fun h6 => ?_)
             · rw [beq_iff_eq] at h6
               rw [if_pos h6]
               exact ⟨htr, S14.put (P := prog) qca (i := 9) (v := .bool true) (by decide) rfl rfl rfl⟩
             · rw [beq_eq_false_iff_ne] at h6
               rw [if_neg h6]; exact S14
           intro w15 S15
           clear S14
           -- samesite
           generalize a6 key (a5 key (a4 key v (a3 key v (a2 key v (a1 key v H))))) = G at *
           unfold a7 at next
           refine BCase.of (fun h6 => ?_) (fun h6 => ?_)
           · rw [beq_iff_eq] at h6
             rw [if_pos h6] at next
             refine ⟨htr, ?_⟩
             obtain ⟨w16, hs16, S16⟩ := S15.put (P := prog) qbr (i := 10) (v := .int .i64 0) (by decide) rfl rfl (h' := { G with same := 0 }) rfl
             refine ⟨w16, hs16, ?_⟩
             unfold qoh at next
             generalize lowL v = lv at *
             refine worldJ (fun w' => Stg w qd qe k6 k2 a L.length c L { G with same := if lv = [110, 111, 110, 101] then 1 else 0 } w') ?_ ?_
             · refine BCase.of (fun h7 => ?_) (fun h7 => ?_)
               · rw [beq_iff_eq] at h7
                 rw [if_pos h7]
                 exact ⟨htr, S16.put (P := prog) qbr (i := 10) (v := .int .i64 1) (by decide) rfl rfl rfl⟩
               · rw [beq_eq_false_iff_ne] at h7
                 rw [if_neg h7]; exact S16
             intro w17 S17
             refine worldJ (fun w' => Stg w qd qe k6 k2 a L.length c L { G with same := if lv = [110, 111, 110, 101] then 1 else if lv = [108, 97, 120] then 2 else 0 } w') ?_ ?_
             · refine BCase.of (fun h7 => ?_) (fun h7 => ?_)
               · rw [beq_iff_eq] at h7
                 rw [if_neg (by rw [h7]; decide), if_pos h7]
                 exact ⟨htr, S17.put (P := prog) qbr (i := 10) (v := .int .i64 2) (by decide) rfl rfl rfl⟩
               · rw [beq_eq_false_iff_ne] at h7
                 rw [if_neg h7]; exact S17
             intro w18 S18
             refine BCase.of (fun h7 => ?_) (fun h7 => ?_)
             · rw [beq_iff_eq] at h7
               rw [if_neg (by rw [h7]; decide), if_neg (by rw [h7]; decide), if_pos h7] at next
               refine ⟨htr, ?_⟩
               obtain ⟨w19, hs19, S19⟩ := S18.put (P := prog) qbr (i := 10) (v := .int .i64 3) (by decide) rfl rfl (h' := { G with same := 3 }) rfl
               exact ⟨w19, hs19, next S19⟩
             · rw [beq_eq_false_iff_ne] at h7
               rw [if_neg h7] at next
               exact next S18
           · rw [beq_eq_false_iff_ne] at h6
             rw [if_neg h6] at next
             exact next S15
         · have : j = L.length := by omega
           subst this
           rw [List.take_of_length_le (by omega)] at S7
           refine ⟨_, _, _, _, _, _, _, _, _, _, _, zo _ S7.hh, ?_⟩
           exact qgC _ S7.h2 rfl S7.hb hk2w (post hpar)
end Go.Proofs.YtndbpedpdbjkpaaGreatDoor
set_option maxRecDepth 100000
namespace Go.Proofs.YtndbpedpdbjkpaaGreatDoor
open Go.Pk
open Go.RowKit (Below)
--  strconv.FormatInt
def qdF (n0 : Int) (n1 : Int) (w : World) (K : Value -> World -> Prop) : Prop :=
 Calls prog qdM #[.int .i64 n0, .int .i64 n1] w fun e7 w7 => ∃ s7, e7 = .returned (.string (mkS s7)) /\
 K (.string (mkS s7)) w7
theorem qgc (n0 : Int) (n1 : Int) {w : World} {K : Value -> World -> Prop} (h : qdF n0 n1 w K) : Calls prog qaq #[.int .i64 n0, .int .i64 n1] w (Ret K) :=
 qo (c := qr Tryz.f259) (by kernel_rfl) Tryz.func259 (by kernel_rfl) [] [.int .i64 n0, .int .i64 n1] (of_decide_eq_true (by kernel_rfl)) _ (by kernel_rfl) h
end Go.Proofs.YtndbpedpdbjkpaaGreatDoor
set_option maxRecDepth 20000
namespace Go.Pk
open Go.RowKit (Below)
def dotV (s : List UInt8) : List UInt8 := if zt s = s /\ s.head? ≠ some 46 then s else 46 :: s
def pE : List UInt8 := [69, 120, 112, 105, 114, 101, 115, 61]
def pA : List UInt8 := [77, 97, 120, 45, 65, 103, 101, 61]
def pD : List UInt8 := [68, 111, 109, 97, 105, 110, 61]
def pP : List UInt8 := [80, 97, 116, 104, 61]
def pS : List UInt8 := [83, 101, 99, 117, 114, 101]
def pH : List UInt8 := [72, 116, 116, 112, 79, 110, 108, 121]
def pM : List UInt8 := [83, 97, 109, 101, 83, 105, 116, 101, 61]
def opt (b : Bool) (x : List UInt8) : List (List UInt8) := if b then [x] else []
noncomputable def wparts (h : Hdr) : List (List UInt8) :=
 [h.name ++ [61] ++ h.value] ++ opt h.hasE (pE ++ qb6 h.exp) ++ opt h.hasA (pA ++ Lib.itoa h.age) ++ opt (!(h.domain == [])) (pD ++ dotV h.domain) ++ opt (!(h.path == [])) (pP ++ h.path) ++ opt h.sec pS ++ opt h.http pH ++
   opt (decide (0 < h.same) && decide (h.same <= 3)) (pM ++ nmL[h.same.toNat]?.getD [])
noncomputable def jp (h : Hdr) : List UInt8 := Lib.join (wparts h) [59, 32]
structure qda (h : Hdr) : Prop where
 name : h.name.length <= 20000
 value : h.value.length <= 20000
 domain : h.domain.length <= 20000
 path : h.path.length <= 20000
 exp : -9223372036854775808 <= h.exp /\ h.exp <= 9223372036854775807
 age : -9223372036854775808 <= h.age /\ h.age <= 9223372036854775807
theorem qnK (s : List UInt8) : (dotV s).length <= s.length + 1 := by unfold dotV; split <;> simp
theorem qgS (t : Int) : (qb6 t).length <= 29 := by
 by_cases hr : t / 86400 < -134774 \/ 2932896 < t / 86400
 · rw [qg4 hr]; simp
 · obtain ⟨y, m, d, hd, he⟩ := qqL (n := t / 86400) (by omega) (by omega)
   rw [qi2 hd he]
   have h1 : ∀ k : Nat, k < 7 -> (qem (k : Int)).length = 3 := by decide
   have h2 : ∀ k : Nat, k < 12 -> (monN ((k : Int) + 1)).length = 3 := by decide
   have e1 := h1 (t / 86400 % 7).toNat (by omega)
   have e2 := h2 (m - 1).toNat (by have := hd.2.2.1; have := hd.2.2.2.1; omega)
   rw [show (((t / 86400 % 7).toNat : Nat) : Int) = t / 86400 % 7 by omega] at e1
   rw [show (((m - 1).toNat : Nat) : Int) + 1 = m by have := hd.2.2.1; omega] at e2
   unfold qhf qcX
   simp only [List.length_append, qv, e1, e2, List.length_cons, List.length_nil]
   omega
def qpv (h g : Hdr) : Bool := (h.name == g.name) && ((h.value == g.value) && ((h.domain == g.domain) && ((h.path == g.path) && ((h.hasE == g.hasE) && ((h.exp == g.exp) && ((h.hasA == g.hasA) && ((h.age == g.age) && ((h.sec == g.sec) && ((h.http == g.http) && ((h.same == g.same) && true))))))))))
theorem qcP (h g : Hdr) : qpv h g = true ↔ h = g := by
 unfold qpv
 simp only [Bool.and_eq_true, beq_iff_eq, and_true]
 constructor
 · rintro ⟨h1, h2, h3, h4, h5, h6, h7, h8, h9, h10, h11⟩
   cases h; cases g; simp_all
 · rintro rfl; simp
structure Accu (w0 : World) (tl ts th : TypeId) (k1 k3 : Nat) (h : Hdr) (xs : List (List UInt8)) (w : World) : Prop where
 slot : ∃ a l c, qm w k3 tl [.slice a l c] /\ Ow tS ts w NoB a l c xs /\ qb9 w0.heap.size a /\ ∀ g, ownB a = some g -> g ≠ k3 /\ g ≠ k1
 hdr : qm w k1 th h.cells
 hb : Below w0.heap.size w0 w
 hk1 : w0.heap.size <= k1
 hk3 : w0.heap.size <= k3
 hne : k1 ≠ k3
theorem Accu.below {w0 : World} {tl ts th : TypeId} {k1 k3 : Nat} {h : Hdr} {xs : List (List UInt8)} {w w' : World} (S : Accu w0 tl ts th k1 k3 h xs w) (hb : Below w.heap.size w w') : Accu w0 tl ts th k1 k3 h xs w' := by
 obtain ⟨a, l, c, h1, h2, h3, h4⟩ := S.slot
 exact ⟨⟨a, l, c, h1.below hb, h2.below hb, h3, h4⟩, S.hdr.below hb, qb S.hb hb S.hb.size, S.hk1, S.hk3, S.hne⟩
theorem Accu.get {P : Program} {u : TypeId} {d : TypeDesc} (hu : P.underlying u = some d) (ha : aggD d = false) {w0 : World} {tl ts th : TypeId} {k1 k3 : Nat} {h : Hdr} {xs : List (List UInt8)} {w : World} (S : Accu w0 tl ts th k1 k3 h xs w)
   {i : Nat} {v : Value} (hv : h.cells[i]? = some v) : (Instr.loadAt u (.pointer (some ⟨k1, i, none⟩))).run P w = .ok v w := S.hdr.load1 hu ha hv
end Go.Pk
namespace Go.Proofs.YtndbpedpdbjkpaaGreatDoor
open Go.Pk
open Go.RowKit (Below)
abbrev AccH (w0 : World) (k1 k3 : Nat) (h : Hdr) (xs : List (List UInt8)) (w : World) : Prop := Accu w0 qD qe qd k1 k3 h xs w
theorem header_c1_ok {w0 : World} {k1 k3 : Nat} {h : Hdr} {xs : List (List UInt8)} {w : World} (S : AccH w0 k1 k3 h xs w) (hx : xs.length <= 1000) (b : Bool) (s : List UInt8) :
   Calls prog qH #[.bool b, .string (mkS s), .pointer (some ⟨k3, 0, none⟩)] w (Ret fun v w' => v = .tuple #[] /\ AccH w0 k1 k3 h (xs ++ opt b s) w') := by
 apply qgF
 unfold qdE
 refine BCase.of (fun hb => ?_) (fun hb => ?_)
 · subst hb
   obtain ⟨a, l, c, h1, h2, h3, h4⟩ := S.slot
   refine ⟨a, l, c, h1.load1 qa2 rfl rfl, ?_⟩
   intro k8 w8 hk8 hw8
   have hB8 := (hw8 ▸ qf w _ : Below w.heap.size w w8)
   have hsrc : Src tS w8 NoB (some ⟨k8, 0, none⟩) 1 [s] := Src.new1F (jY _) hk8 hw8 (qfI trivial)
   obtain ⟨w9, a9, l9, c9, hr, ho9, hg9, hf9⟩ := qjR (ty := qD) qa2 zl (by decide) (h2.below hB8) (fun _ _ h => h) (cm := 1) hsrc (by simp; omega)
   have hlt1 := S.hdr.lt
   have hlt3 := h1.lt
   have h1' := (h1.below hB8).grown hg9 (fun e => (h4 k3 e.symm).1 rfl)
   have hh' := (S.hdr.below hB8).grown hg9 (fun e => (h4 k1 e.symm).2 rfl)
   have hbb := qb S.hb hB8 S.hb.size
   have h49 : ∀ g, ownB a9 = some g -> g ≠ k3 /\ g ≠ k1 := fun g hg => by
     rcases hf9 g hg with e | e
     · exact h4 g e
     · have := hB8.size; exact ⟨by omega, by omega⟩
   refine ⟨w9, a9, l9, c9, hr, ?_⟩
   obtain ⟨wx, hsx, hax, hgx⟩ := h1'.put (P := prog) qj6 (i := 0) (v := .slice a9 l9 c9) (by simp) rfl rfl
   refine ⟨wx, hsx, rfl, ⟨a9, l9, c9, hax, ho9.keep (qby hgx fun g hg e => ?_), ?_, h49⟩, hh'.grown hgx (fun e => S.hne (Option.some.inj e)), (hbb.grown hg9 hbb.size h3).grown hgx ?_ ?_, S.hk1, S.hk3, S.hne⟩
   · rcases hg with hg | hg
     · exact hg
     · exact (h49 g hg.symm).1 (Option.some.inj e)
   · exact h3.app hbb.size hf9
   · exact (hbb.grown hg9 hbb.size h3).size
   · intro x e; cases e; exact S.hk3
 · subst hb
   refine ⟨rfl, ?_⟩
   show AccH w0 k1 k3 h (xs ++ []) w
   rw [List.append_nil]; exact S
theorem header_dotted_ok (s : List UInt8) (hs : s.length <= 1000000) (w : World) : Calls prog qbU #[.string (mkS s)] w (Ret fun v w' => v = .string (mkS (dotV s)) /\ Below w.heap.size w w') := by
 apply qjJ
 unfold qfY
 refine callK (qdG s (by omega) w) ?_
 rintro _ w1 ⟨rfl, hb⟩
 refine ⟨_, rfl, ?_⟩
 refine BCase.of (fun h => ?_) (fun h => ?_)
 · refine ⟨fits (by simp; omega), ?_⟩
   rintro _ rfl
   refine ⟨?_, hb⟩
   unfold dotV
   rw [if_neg (fun hc => by rw [hc.1] at h; simp at h)]; rfl
 · have ht : zt s = s := by simpa using h
   refine (Tryz.strings_HasPrefix (mkS s) (mkS [46]) w1).mono ?_
   rintro _ _ ⟨rfl, rfl⟩
   have e : Lib.hasPrefix (mkS s).data.toList (mkS [46]).data.toList = decide (s.head? = some 46) := (qfq s 46).1
   rw [e]
   refine ⟨_, rfl, ?_⟩
   refine BCase.of (fun h2 => ?_) (fun h2 => ?_) <;> simp only [dTx, dFx] at h2
   · refine ⟨fits (by simp; omega), ?_⟩
     rintro _ rfl
     refine ⟨?_, hb⟩
     unfold dotV
     rw [if_neg (fun hc => hc.2 h2)]; rfl
   · refine ⟨?_, hb⟩
     unfold dotV
     rw [if_pos ⟨ht, h2⟩]
theorem format10_ok (n : Int) (h0 : -9223372036854775808 <= n) (h1 : n <= 9223372036854775807) (w : World) (ht : qg9 prog w) : Calls prog qaq #[.int .i64 n, .int .i64 10] w (Ret fun v w' => v = .string (mkS (Lib.itoa n)) /\ Below w.heap.size w w') := by
 apply qgc
 unfold qdF
 refine (Tryz.internal_strconv_FormatInt_10 n h0 h1 w ht).mono ?_
 rintro _ _ ⟨rfl, k, os, rfl⟩
 exact ⟨Lib.itoa n, rfl, rfl, qh8 w k os⟩
theorem qlW (xs : List (List UInt8)) {w0 : World} {k1 k3 : Nat} {h : Hdr} {w : World} (S : AccH w0 k1 k3 h xs w) (hx : xs.length <= 1000) (hl : (Lib.join xs [59, 32]).length <= 1000000) (K : Value -> World -> Prop) (hK : ∀ w', Below w0.heap.size w0 w' -> K (.string (mkS (Lib.join xs [59, 32]))) w') :
   ∃ (a : Option Addr) (l c : Nat), (Instr.loadAt qD (.pointer (some ⟨k3, 0, none⟩))).run prog w = .ok (.slice a l c) w /\
     Calls prog jJ #[.slice a l c, .string (mkS [59, 32])] w fun e w' => ∃ (s : List UInt8), e = .returned (.string (mkS s)) /\ K (.string (mkS s)) w' := by
 obtain ⟨a, l, c, h1, h2, _, _⟩ := S.slot
 refine ⟨a, l, c, h1.load1 qa2 rfl rfl, ?_⟩
 obtain ⟨hn, hnc, hcm, h4⟩ := h2.all
 subst hn
 rcases h4 with h4 | ⟨b, off, rfl, hbl, _, cs, hcs, hcell⟩
 · subst h4
   refine (Tryz.strings_Join_none a c (mkS [59, 32]) w).mono ?_
   rintro _ _ ⟨rfl, rfl⟩
   exact ⟨[], rfl, hK _ S.hb⟩
 · have he := qd0 hcs
   have hj := Tryz.strings_Join b off c (xs.map mkS) (mkS [59, 32]) w (fun j x hx => by
     rw [List.getElem?_map] at hx
     cases hxj : xs[j]? with
     | none => rw [hxj] at hx; cases hx
     | some y =>
       rw [hxj] at hx
       cases hx
       have hjl := (List.getElem?_eq_some_iff.1 hxj).1
       rw [hcell j (by rw [he]; simpa using hjl), he, List.getElem?_map, hxj]; rfl) hbl (by rw [List.length_map]; omega) (by rw [List.length_map]; exact hnc) (by
       have e : (xs.map mkS).map (fun s => s.data.toList) = xs := by rw [List.map_map]; exact List.map_id xs
       rw [e]; show (Lib.join xs [59, 32]).length <= _; omega)
   rw [List.length_map] at hj
   refine hj.mono ?_
   rintro _ w' ⟨rfl, hb'⟩
   have e : (xs.map mkS).map (fun s => s.data.toList) = xs := by rw [List.map_map]; exact List.map_id xs
   rw [e]
   exact ⟨_, rfl, hK _ (qb S.hb hb' S.hb.size)⟩
theorem qto (xs : List (List UInt8)) (M : Nat) (h : ∀ x ∈ xs, x.length <= M) : (Lib.join xs [59, 32]).length <= xs.length * (M + 2) := by
 cases xs with
 | nil => simp [Lib.join_nil]
 | cons x r =>
   rw [Lib.join_cons]
   have : ∀ r : List (List UInt8), (∀ x ∈ r, x.length <= M) -> (Lib.joinTail [59, 32] r).length <= r.length * (M + 2) := by
     intro r
     induction r with
     | nil => intro _; simp [Lib.joinTail]
     | cons y r ih =>
       intro hr
       have h1 := ih fun x hx => hr x (List.mem_cons_of_mem _ hx)
       have h2 := hr y List.mem_cons_self
       have e : Lib.joinTail [59, 32] (y :: r) = [59, 32] ++ y ++ Lib.joinTail [59, 32] r := by simp [Lib.joinTail]
       rw [e]
       simp only [List.length_append, List.length_cons, List.length_nil, Nat.add_mul]; omega
   have h1 := this r fun y hy => h y (List.mem_cons_of_mem _ hy)
   have h2 := h x List.mem_cons_self
   simp only [List.length_append, List.length_cons, Nat.add_mul]; omega
theorem qsw (b : Bool) (x : List UInt8) : (opt b x).length <= 1 := by unfold opt; split <;> simp
theorem qh9 {b : Bool} {x y : List UInt8} (h : y ∈ opt b x) : y = x := by unfold opt at h; split at h <;> simp_all
theorem wlen (h : Hdr) (ho : qda h) : (Lib.join (wparts h) [59, 32]).length <= 1000000 := by
 have hl1 := ho.name; have hl2 := ho.value; have hl3 := ho.domain; have hl4 := ho.path
 have tl := qgS h.exp
 have il := Lib.itoa_length_le h.age ho.age.1 ho.age.2
 have dl := qnK h.domain
 have ol := qsw
 have h1 : (wparts h).length <= 8 := by
   unfold wparts
   simp only [List.length_append]
   exact Nat.add_le_add (Nat.add_le_add (Nat.add_le_add (Nat.add_le_add (Nat.add_le_add (Nat.add_le_add (Nat.add_le_add (Nat.le_refl 1) (ol _ _)) (ol _ _)) (ol _ _)) (ol _ _)) (ol _ _)) (ol _ _)) (ol _ _)
 have h2 := qto (wparts h) 41000 fun x hx => by
   unfold wparts at hx
   simp only [List.mem_append] at hx
   rcases hx with ((((((hx | hx) | hx) | hx) | hx) | hx) | hx) | hx
   · rw [List.mem_singleton.1 hx]; simp; omega
   · rw [qh9 hx]; simp [pE]; omega
   · rw [qh9 hx]; simp [pA]; omega
   · rw [qh9 hx]; simp [pD]; omega
   · rw [qh9 hx]; simp [pP]; omega
   · rw [qh9 hx]; simp [pS]
   · rw [qh9 hx]; simp [pH]
   · rw [qh9 hx]
     have nl : ∀ k : Nat, (nmL[k]?.getD []).length <= 6 := fun k => by
       by_cases hk : k < 4
       · have : ∀ k : Nat, k < 4 -> (nmL[k]?.getD []).length <= 6 := by decide
         exact this k hk
       · rw [List.getElem?_eq_none (by simp [nmL]; omega)]; simp
     have := nl h.same.toNat
     simp only [List.length_append]; simp only [pM, List.length_cons, List.length_nil]; omega
 have : (wparts h).length * (41000 + 2) <= 8 * (41000 + 2) := Nat.mul_le_mul_right _ h1
 omega
theorem qjY (h : Hdr) (ho : qda h) (w : World) (he : Env w) : Calls prog qdw #[h.v] w (Ret fun v w' => v = .string (mkS (jp h)) /\ Below w.heap.size w w') := by
 refine qiK h.name h.value h.domain h.path h.hasE h.exp h.hasA h.age h.sec h.http h.same ?_
 unfold qe9
 have hl1 := ho.name; have hl2 := ho.value; have hl3 := ho.domain; have hl4 := ho.path
 intro k1 w1 hk1 hw1
 have hB1 := (hw1 ▸ qf w _ : Below w.heap.size w w1)
 have hh1 : qm w1 k1 qd h.cells := qm.new hk1 hw1
 refine ⟨rfl, _, hh1.load1 un_string rfl rfl, fits (by simp; omega), ?_⟩
 rintro _ rfl
 refine ⟨rfl, _, hh1.load1 un_string rfl rfl, fits (by simp; omega), ?_⟩
 rintro _ rfl
 intro k11 w11 hk11 hw11 k3 w3 hk3 hw3
 have hB11 := (hw11 ▸ qf w1 _ : Below w1.heap.size w1 w11)
 have hB3 := (hw3 ▸ qf w11 _ : Below w11.heap.size w11 w3)
 have ho11 : Ow tS qe w11 NoB (some ⟨k11, 0, none⟩) 1 1 [h.name ++ [61] ++ h.value] := Ow.newF (l := [_]) (jY _) hk11 hw11 (RepL.one (qfI trivial)) (show 1 <= maxLen by decide)
 have ha3 : qm w3 k3 qD [.slice none 0 0] := qm.new hk3 hw3
 have hs1 : w1.heap.size = w.heap.size + 1 := by rw [hw1]; simp
 have hs11 : w11.heap.size = w1.heap.size + 1 := by rw [hw11]; simp
 obtain ⟨wx, hsx, hax, hgx⟩ := ha3.put (P := prog) qj6 (i := 0) (v := .slice (some ⟨k11, 0, none⟩) 1 1) (by simp) rfl rfl
 refine ⟨wx, hsx, ?_⟩
 have hB13 := qb (qb hB1 hB11 hB1.size) hB3 (qb hB1 hB11 hB1.size).size
 have S0 : AccH w k1 k3 h [h.name ++ [61] ++ h.value] wx := by
   refine ⟨⟨_, _, _, hax, (ho11.below hB3).keep (qby hgx fun g hg e => ?_), fun g hg => ?_, fun g hg => ?_⟩, ((hh1.below hB11).below hB3).grown hgx (fun e => by cases e; omega), hB13.grown hgx hB13.size (fun x e => by cases e; omega), by omega, by omega, by omega⟩
   · rcases hg with hg | hg
     · exact hg
     · have hg' : g = k11 := by simpa [ownB] using hg
       cases e; omega
   · have hg' : g = k11 := by simpa [ownB] using hg.symm
     omega
   · have hg' : g = k11 := by simpa [ownB] using hg.symm
     exact ⟨by omega, by omega⟩
 have htab : ∀ {u : World} {xs : List (List UInt8)}, AccH w k1 k3 h xs u -> qg9 prog u := fun S => (he.step S.hb).tab
 have htr : true = true := rfl
 clear hax hgx hsx ha3 ho11 hh1 hB13 hB3 hB11 hB1 hw3 hw11 hw1
 have ol := qsw
 have tl := qgS h.exp
 have il := Lib.itoa_length_le h.age ho.age.1 ho.age.2
 have dl := qnK h.domain
 obtain ⟨x0, e0⟩ : ∃ x, x = [h.name ++ [61] ++ h.value] := ⟨_, rfl⟩
 rw [<- e0] at S0
 have n0 : x0.length <= 1 := by rw [e0]; simp
 -- Expires
 refine worldJ (fun w' => AccH w k1 k3 h (x0 ++ opt h.hasE (pE ++ qb6 h.exp)) w') ?_ ?_
 · have Sd := S0.below (zV _)
   repeat' (first
     | exact htr
     | refine Exists.intro _ (And.intro (Accu.get un_bool rfl (by assumption) rfl) ?_)
     | refine Exists.intro _ (And.intro (Accu.get un_int64 rfl (by assumption) rfl) ?_)
     | (refine callK (date_Text_ok _ ho.exp.1 ho.exp.2 _ (htab (by assumption))) ?_
        rintro _ u ⟨rfl, hbu⟩
        have Su := Accu.below (by assumption) hbu
        refine Exists.intro _ (And.intro rfl ?_)
        refine And.intro (fits (by simp only [List.length_cons, List.length_nil]; omega)) ?_
        rintro _ rfl)
     | (refine callK (header_c1_ok (by assumption) (by omega) _ _) ?_
        rintro _ u ⟨rfl, Su⟩
        exact And.intro rfl Su)
     | refine And.intro ?_ ?_)
 intro w4 S1
 clear S0
 obtain ⟨x1, e1⟩ : ∃ x, x = x0 ++ opt h.hasE (pE ++ qb6 h.exp) := ⟨_, rfl⟩
 have n1 : x1.length <= 2 := by rw [e1, List.length_append]; exact Nat.add_le_add n0 (ol _ _)
 rw [<- e1] at S1
 -- Max-Age
 refine worldJ (fun w' => AccH w k1 k3 h (x1 ++ opt h.hasA (pA ++ Lib.itoa h.age)) w') ?_ ?_
 · have Sd := S1.below (zV _)
   repeat' (first
     | exact htr
     | refine Exists.intro _ (And.intro (Accu.get un_bool rfl (by assumption) rfl) ?_)
     | refine Exists.intro _ (And.intro (Accu.get un_int64 rfl (by assumption) rfl) ?_)
     | (refine callK (format10_ok _ ho.age.1 ho.age.2 _ (htab (by assumption))) ?_
        rintro _ u ⟨rfl, hbu⟩
        have Su := Accu.below (by assumption) hbu
        refine Exists.intro _ (And.intro rfl ?_)
        refine And.intro (fits (by simp only [List.length_cons, List.length_nil]; omega)) ?_
        rintro _ rfl)
     | (refine callK (header_c1_ok (by assumption) (by omega) _ _) ?_
        rintro _ u ⟨rfl, Su⟩
        exact And.intro rfl Su)
     | refine And.intro ?_ ?_)
 intro w5 S2
 clear S1
 obtain ⟨x2, e2⟩ : ∃ x, x = x1 ++ opt h.hasA (pA ++ Lib.itoa h.age) := ⟨_, rfl⟩
 have n2 : x2.length <= 3 := by rw [e2, List.length_append]; exact Nat.add_le_add n1 (ol _ _)
 rw [<- e2] at S2
 -- Domain
 refine worldJ (fun w' => AccH w k1 k3 h (x2 ++ opt (!(h.domain == [])) (pD ++ dotV h.domain)) w') ?_ ?_
 · have Sd := S2.below (zV _)
   repeat' (first
     | exact htr
     | refine Exists.intro _ (And.intro (Accu.get un_string rfl (by assumption) rfl) ?_)
     | (refine callK (header_dotted_ok _ (by omega) _) ?_
        rintro _ u ⟨rfl, hbu⟩
        have Su := Accu.below (by assumption) hbu
        refine Exists.intro _ (And.intro rfl ?_)
        refine And.intro (fits (by simp only [List.length_cons, List.length_nil]; omega)) ?_
        rintro _ rfl)
     | (refine callK (header_c1_ok (by assumption) (by omega) _ _) ?_
        rintro _ u ⟨rfl, Su⟩
        exact And.intro rfl Su)
     | refine And.intro ?_ ?_)
 intro w6 S3
 clear S2
 obtain ⟨x3, e3⟩ : ∃ x, x = x2 ++ opt (!(h.domain == [])) (pD ++ dotV h.domain) := ⟨_, rfl⟩
 have n3 : x3.length <= 4 := by rw [e3, List.length_append]; exact Nat.add_le_add n2 (ol _ _)
 rw [<- e3] at S3
 refine ⟨rfl, _, Accu.get un_string rfl S3 rfl, ?_⟩
 refine ⟨rfl, _, Accu.get un_string rfl S3 rfl, fits (by simp only [List.length_cons, List.length_nil]; omega), ?_⟩
 rintro _ rfl
 refine callK (header_c1_ok S3 (by omega) _ _) ?_
 rintro _ w7 ⟨rfl, S4⟩
 refine ⟨rfl, ?_⟩
 obtain ⟨x4, e4⟩ : ∃ x, x = x3 ++ opt (!(h.path == [])) (pP ++ h.path) := ⟨_, rfl⟩
 have n4 : x4.length <= 5 := by rw [e4, List.length_append]; exact Nat.add_le_add n3 (ol _ _)
 replace S4 : AccH w k1 k3 h x4 w7 := by rw [e4]; exact S4
 clear S3
 refine ⟨rfl, _, Accu.get un_bool rfl S4 rfl, ?_⟩
 refine callK (header_c1_ok S4 (by omega) _ _) ?_
 rintro _ w8 ⟨rfl, S5⟩
 refine ⟨rfl, ?_⟩
 obtain ⟨x5, e5⟩ : ∃ x, x = x4 ++ opt h.sec pS := ⟨_, rfl⟩
 have n5 : x5.length <= 6 := by rw [e5, List.length_append]; exact Nat.add_le_add n4 (ol _ _)
 replace S5 : AccH w k1 k3 h x5 w8 := by rw [e5]; exact S5
 clear S4
 refine ⟨rfl, _, Accu.get un_bool rfl S5 rfl, ?_⟩
 refine callK (header_c1_ok S5 (by omega) _ _) ?_
 rintro _ w9 ⟨rfl, S6⟩
 refine ⟨rfl, ?_⟩
 obtain ⟨x6, e6⟩ : ∃ x, x = x5 ++ opt h.http pH := ⟨_, rfl⟩
 have n6 : x6.length <= 7 := by rw [e6, List.length_append]; exact Nat.add_le_add n5 (ol _ _)
 replace S6 : AccH w k1 k3 h x6 w9 := by rw [e6]; exact S6
 clear S5
 obtain ⟨x7, e7⟩ : ∃ x, x = x6 ++ opt (decide (0 < h.same) && decide (h.same <= 3)) (pM ++ nmL[h.same.toNat]?.getD []) := ⟨_, rfl⟩
 have n7 : x7.length <= 8 := by rw [e7, List.length_append]; exact Nat.add_le_add n6 (ol _ _)
 have ew : wparts h = x7 := by subst e7; subst e6; subst e5; subst e4; subst e3; subst e2; subst e1; subst e0; rfl
 have hJ : (Lib.join x7 [59, 32]).length <= 1000000 := by rw [<- ew]; exact wlen h ho
 refine qhz (fun b w' => b = (decide (0 < h.same) && decide (h.same <= 3)) /\ AccH w k1 k3 h x6 w') ?_ ?_
 · refine ⟨rfl, _, Accu.get qN rfl S6 rfl, ?_⟩
   refine BCase.of (fun hc => ?_) (fun hc => ?_) <;> simp only [dTx, dFx, gt_iff_lt] at hc
   · exact ⟨rfl, _, Accu.get qN rfl S6 rfl, by rw [decide_eq_true hc]; rfl, S6⟩
   · exact ⟨by rw [decide_eq_false hc]; rfl, S6⟩
 rintro b w10 ⟨hb, S⟩
 refine BCase.of (fun hc => ?_) (fun hc => ?_)
 · rw [hb] at hc
   have hc' : 0 < h.same /\ h.same <= 3 := by simpa using hc
   have hx : x7 = x6 ++ opt true (pM ++ nmL[h.same.toNat]?.getD []) := by rw [e7, hc]
   have hn : ((h.same.toNat : Nat) : Int) = h.same := by omega
   have hi : ∀ u, (Instr.index je nmV (.int .i64 h.same)).run prog u = .ok (.string (mkS (nmL[h.same.toNat]?.getD []))) u := fun u => by
     have := qqH u h.same.toNat (by omega)
     rwa [hn] at this
   have nl : (nmL[h.same.toNat]?.getD []).length <= 6 := by
     have : ∀ k : Nat, k < 4 -> (nmL[k]?.getD []).length <= 6 := by decide
     exact this _ (by omega)
   have Sd := S.below (zV _)
   clear S6
   refine ⟨rfl, ?_, ?_⟩
   · refine callK (qel _) ?_
     rintro _ u ⟨rfl, hbu⟩
     have Su := Sd.below hbu
     refine ⟨_, _, _, _, rfl, _, Accu.get qN rfl Su rfl, _, hi u, fits (by simp only [List.length_cons, List.length_nil]; omega), ?_⟩
     rintro _ rfl
     refine callK (header_c1_ok Su (by omega) _ _) ?_
     rintro _ u2 ⟨rfl, S7⟩
     have S7' : AccH w k1 k3 h x7 u2 := by rw [hx]; exact S7
     refine ⟨rfl, ?_⟩
     exact qlW x7 S7' (by omega) hJ (fun v w' => v = .string (mkS (jp h)) /\ Below w.heap.size w w') fun w' hb' => ⟨by rw [jp, ew], hb'⟩
   · refine ⟨_, Accu.get qN rfl Sd rfl, ?_⟩
     refine callK (qel _) ?_
     rintro _ u ⟨rfl, hbu⟩
     have Su := Sd.below hbu
     refine ⟨_, _, _, _, rfl, _, hi u, fits (by simp only [List.length_cons, List.length_nil]; omega), ?_⟩
     rintro _ rfl
     refine callK (header_c1_ok Su (by omega) _ _) ?_
     rintro _ u2 ⟨rfl, S7⟩
     have S7' : AccH w k1 k3 h x7 u2 := by rw [hx]; exact S7
     refine ⟨rfl, ?_⟩
     exact qlW x7 S7' (by omega) hJ (fun v w' => v = .string (mkS (jp h)) /\ Below w.heap.size w w') fun w' hb' => ⟨by rw [jp, ew], hb'⟩
 · rw [hb] at hc
   have hx : x7 = x6 := by rw [e7, hc]; exact List.append_nil _
   have S7' : AccH w k1 k3 h x7 w10 := by rw [hx]; exact S
   exact qlW x7 S7' (by omega) hJ (fun v w' => v = .string (mkS (jp h)) /\ Below w.heap.size w w') fun w' hb' => ⟨by rw [jp, ew], hb'⟩
end Go.Proofs.YtndbpedpdbjkpaaGreatDoor
namespace Go.Pk
open Go.RowKit (Below)
noncomputable def qaT (h : Hdr) : Bool := decide ((qM (jp h)).2 = 0) && qpv (qM (jp h)).1 h
end Go.Pk
namespace Go.Proofs.YtndbpedpdbjkpaaGreatDoor
open Go.Pk
open Go.RowKit (Below)
theorem qoB (h : Hdr) (w : World) {R : Nat -> World -> Prop} (H : ∀ k wx, k = w.heap.size -> qm wx k qd h.cells -> Below w.heap.size w wx -> R k wx) :
   ∀ (k : Nat) (w1 : World), k = w.heap.size -> w1 = w.alloc (.cells #[.string (mkS []), .string (mkS []), .string (mkS []), .string (mkS []), .bool false, .int .i64 (0 : Int), .bool false, .int .i64 (0 : Int), .bool false, .bool false, .int .i64 (0 : Int)] qd) ->
     ∃ (wx : World), (Instr.storeAt qd (.pointer (some ⟨k, 0, none⟩)) h.v).run prog w1 = .ok () wx /\ R k wx := by
 intro k w1 hk hw
 have hB := (hw ▸ qf w _ : Below w.heap.size w w1)
 obtain ⟨wx, hs, h3, hg⟩ := qbR h (qm.new hk hw : qm w1 k qd hdr0.cells) rfl
 exact ⟨wx, hs, H k wx hk h3 (hB.grown hg hB.size fun x e => by cases e; omega)⟩
theorem qeE (h : Hdr) (w : World) {k : Nat} {w1 : World} (hk : k = w.heap.size) (hw : w1 = w.alloc (.cells h.cells.toArray qd)) : qm w1 k qd h.cells /\ Below w.heap.size w w1 :=
 ⟨qm.new hk hw, hw ▸ qf w _⟩
theorem qoD (h g : Hdr) : eqV prog 10000 qd h.v g.v = some (qpv h g) := by kernel_rfl
theorem qjn : prog.eqGuardType prog.depth qd = false := by kernel_rfl
theorem quF (h g : Hdr) {x y : Operand} (w : World) : ((do eqGuard .eql qd x y h.v g.v; binOp .eql qd h.v g.v : Sem Value)).run prog w = .ok (.bool (qpv h g)) w :=
 qqz qjn (qoD h g) w
theorem qk7 (h : Hdr) (ho : qda h) (w : World) (he : Env w) : Calls prog qeF #[h.v] w (Ret fun v w' => v = .bool (qaT h) /\ Below w.heap.size w w') := by
 refine qkm h.name h.value h.domain h.path h.hasE h.exp h.hasA h.age h.sec h.http h.same ?_
 unfold qgd
 intro k1 w1 hk1 hw1
 obtain ⟨hh1, hB1⟩ := qeE h w hk1 hw1
 refine ⟨h.name, h.value, h.domain, h.path, h.hasE, h.exp, h.hasA, h.age, h.sec, h.http, h.same, zo h hh1, ?_⟩
 refine callK (qjY h ho w1 (he.step hB1)) ?_
 rintro _ w2 ⟨rfl, hb2⟩
 have hB2 := qb hB1 hb2 hB1.size
 have hh2 := hh1.below hb2
 refine ⟨_, rfl, ?_⟩
 refine callK (ql4 (jp h) (by have := wlen h ho; unfold jp; omega) w2 (he.step hB2)) ?_
 rintro _ w3 ⟨rfl, hb3⟩
 have hB3 := qb hB2 hb3 hB2.size
 have hh3 := hh2.below hb3
 refine ⟨_, _, _, _, _, _, _, _, _, _, _, _, rfl, ?_⟩
 refine qoB (qM (jp h)).1 w3 fun k3 w4 hk3 h4 hb4 => ?_
 have hB4 := qb hB3 hb4 hB3.size
 have hh4 := hh3.below hb4
 refine BCase.of (fun hc => ?_) (fun hc => ?_)
 · rw [beq_iff_eq] at hc
   refine ⟨_, _, _, _, _, _, _, _, _, _, _, zo _ h4, _, _, _, _, _, _, _, _, _, _, _, zo _ hh4, _, quF _ _ _, ?_, hB4⟩
   rw [qaT, decide_eq_true hc]; rfl
 · rw [beq_eq_false_iff_ne] at hc
   refine ⟨?_, hB4⟩
   rw [qaT, decide_eq_false hc]; rfl
end Go.Proofs.YtndbpedpdbjkpaaGreatDoor
namespace Go.Proofs.YtndbpedpdbjkpaaGreatDoor
open Go.Pk
open Go.RowKit (Below)
abbrev Says (w : World) (v : Value) (w' : World) : Prop := v = .bool true /\ Below w.heap.size w w'
end Go.Proofs.YtndbpedpdbjkpaaGreatDoor
namespace Go.Pk
theorem qgY : ∀ (a cur r : List UInt8) (c : UInt8), (∀ x ∈ a, qcC x = false) -> qcC c = true -> cutP cur (a ++ c :: r) = (cur ++ a) :: cutP [] r
 | [], cur, r, c, _, hc => by
   show (if qcC c = true then _ else _) = _
   rw [if_pos hc, List.append_nil]
 | x :: a, cur, r, c, ha, hc => by
   have hx := ha x List.mem_cons_self
   show (if qcC x = true then _ else _) = _
   rw [if_neg (by rw [hx]; decide)]
   exact (qgY a (cur ++ [x]) r c (fun y hy => ha y (List.mem_cons_of_mem _ hy)) hc).trans (by simp)
theorem qqK : ∀ (a r : List UInt8), (∀ x ∈ a, j9 x = true) -> digP (a ++ r) = a ++ digP r
 | [], r, _ => rfl
 | x :: a, r, h => by
   unfold digP
   rw [List.cons_append, List.takeWhile_cons, if_pos (h x List.mem_cons_self)]
   show x :: digP (a ++ r) = _
   rw [qqK a r fun y hy => h y (List.mem_cons_of_mem _ hy)]; rfl
theorem qee (n : Int) : ∀ x ∈ twoL n, j9 x = true := by
 intro x hx
 simp only [twoL, List.mem_cons, List.mem_nil_iff, or_false] at hx
 rcases hx with rfl | rfl
 · exact (qdx _).1
 · exact (qdx _).1
theorem qoW : ∀ n, n < 256 -> j9 (UInt8.ofNat n) = true -> qcC (UInt8.ofNat n) = false := by decide +kernel
theorem qji {x : UInt8} (h : j9 x = true) : qcC x = false := by
 have := qoW x.toNat (by have := x.toNat_lt; omega)
 rw [UInt8.ofNat_toNat] at this; exact this h
theorem dec2 {n : Int} (h0 : 0 <= n) (h1 : n < 100) : decV (twoL n) = n := by
 have h := (qdx (n / 10)).2
 have h2 := (qdx n).2
 show (0 * 10 + (((dig1 (n / 10)).toNat : Int) - 48)) * 10 + (((dig1 n).toNat : Int) - 48) = n
 omega
theorem dec4 {n : Int} (h0 : 0 <= n) (h1 : n < 10000) : decV (twoL (n / 100) ++ twoL (n % 100)) = n := by
 have h := (qdx (n / 100 / 10)).2
 have h2 := (qdx (n / 100)).2
 have h3 := (qdx (n % 100 / 10)).2
 have h4 := (qdx (n % 100)).2
 show (((0 * 10 + (((dig1 (n / 100 / 10)).toNat : Int) - 48)) * 10 + (((dig1 (n / 100)).toNat : Int) - 48)) * 10 + (((dig1 (n % 100 / 10)).toNat : Int) - 48)) * 10 + (((dig1 (n % 100)).toNat : Int) - 48) = n
 omega
theorem qln {i : Nat} {s u : List UInt8} (hc : colon i s = some u) {n : Int} {r : List UInt8} (hu : u = twoL n ++ r) (hr : digP r = []) (h0 : 0 <= n) (h1 : n < 100) : qkt i s = some (n, r) := by
 unfold qkt
 have hd : digP u = twoL n := by rw [hu, qqK _ _ (qee n), hr, List.append_nil]
 rw [hc, Option.bind_some, hd, if_pos ⟨by rw [qv]; decide, by rw [qv]; decide⟩, dec2 h0 h1, hu]
 rfl
theorem qqZ {s : Int} (h0 : 0 <= s) (h1 : s < 86400) : qa7 (qcX s) = some [s / 3600, s / 60 % 60, s % 60] := by
 have e : qcX s = twoL (s / 3600) ++ (58 :: (twoL (s / 60 % 60) ++ (58 :: twoL (s % 60)))) := by simp [qcX]
 unfold qa7
 rw [e]
 unfold jl
 rw [qln (u := _) (n := s / 3600) rfl rfl rfl (by omega) (by omega), Option.bind_some]
 unfold jl
 rw [qln (i := 1) (u := twoL (s / 60 % 60) ++ (58 :: twoL (s % 60))) rfl rfl rfl (by omega) (by omega), Option.bind_some]
 unfold jl
 rw [qln (i := 2) (u := twoL (s % 60)) (r := []) rfl (List.append_nil _).symm rfl (by omega) (by omega), Option.bind_some]
 rfl
theorem qnc {s : List UInt8} (h : ∀ c r, s.drop (digP s).length = c :: r -> c ≠ 58) : qa7 s = none := by
 unfold qa7 jl
 have e0 : qkt 0 s = qmL s := rfl
 rw [e0]
 unfold qmL
 split
 · rw [Option.bind_some]
   have : jl 2 (0 + 1) (s.drop (digP s).length) = none := by
     rw [qeR]
     have hc : colon (0 + 1) (s.drop (digP s).length) = none := by
       unfold colon
       rw [if_neg (by decide)]
       cases hs : s.drop (digP s).length with
       | nil => rfl
       | cons c r => rw [if_neg (by have := h c r hs; simpa using this)]
     rw [hc]; rfl
   show (jl 2 (0 + 1) (s.drop (digP s).length)).map _ = none
   rw [this]; rfl
 · rfl
theorem qtT {f : Fnd} {d : Int} (h0 : 0 <= d) (h1 : d < 100) (hf : f.day = false) : tokV f (twoL d) = { f with d := d, day := true } := by
 have hd : digP (twoL d) = twoL d := by have := qqK (twoL d) [] (qee d); rw [List.append_nil] at this; rw [this]; exact List.append_nil _
 have hc : qa7 (twoL d) = none := qnc fun c r h => by rw [hd, List.drop_length] at h; cases h
 rcases qdS f (twoL d) with ⟨_, _, _, h, _⟩ | ⟨_, e⟩
 · rw [hc] at h; cases h
 · rw [e, if_pos ⟨by unfold qbG; rw [hd]; rfl, hf⟩, hd, dec2 h0 h1]
theorem qoT : ∀ k : Nat, k < 12 -> qa7 (monN ((k : Int) + 1)) = none /\ qbG (monN ((k : Int) + 1)) 1 2 = false /\ qcv (monN ((k : Int) + 1)) = (k : Int) + 1 /\ (monN ((k : Int) + 1)).all (fun x => !qcC x) = true := by decide +kernel
theorem quq {f : Fnd} {m : Int} (h0 : 1 <= m) (h1 : m <= 12) (hf : f.month = false) : tokV f (monN m) = { f with m := m, month := true } := by
 have h := qoT (m - 1).toNat (by omega)
 rw [show (((m - 1).toNat : Nat) : Int) + 1 = m by omega] at h
 obtain ⟨h2, h3, h4, _⟩ := h
 rcases qdS f (monN m) with ⟨_, _, _, h, _⟩ | ⟨_, e⟩
 · rw [h2] at h; cases h
 · rw [e, if_neg (fun h => by rw [h3] at h; cases h.1), if_pos ⟨by omega, hf⟩, h4]
theorem qsO {f : Fnd} {y : Int} (h0 : 0 <= y) (h1 : y < 10000) (hm : f.month = true) (hf : f.year = false) : tokV f (twoL (y / 100) ++ twoL (y % 100)) = { f with y := y, year := true } := by
 have hall : ∀ x ∈ twoL (y / 100) ++ twoL (y % 100), j9 x = true := fun x hx => (List.mem_append.1 hx).elim (qee _ x) (qee _ x)
 have hd : digP (twoL (y / 100) ++ twoL (y % 100)) = twoL (y / 100) ++ twoL (y % 100) := by have := qqK _ [] hall; rw [List.append_nil] at this; rw [this]; exact List.append_nil _
 have hc : qa7 (twoL (y / 100) ++ twoL (y % 100)) = none := qnc fun c r h => by rw [hd, List.drop_length] at h; cases h
 rcases qdS f (twoL (y / 100) ++ twoL (y % 100)) with ⟨_, _, _, h, _⟩ | ⟨_, e⟩
 · rw [hc] at h; cases h
 · have hn : qbG (twoL (y / 100) ++ twoL (y % 100)) 1 2 = false := by unfold qbG; rw [hd]; rfl
   have hn2 : qbG (twoL (y / 100) ++ twoL (y % 100)) 2 4 = true := by unfold qbG; rw [hd]; rfl
   rw [e, if_neg (fun h => by rw [hn] at h; cases h.1), if_neg (fun h => by rw [hm] at h; cases h.2), if_pos ⟨hn2, hf⟩, hd, dec4 h0 h1]
theorem qrF {f : Fnd} {s : Int} (h0 : 0 <= s) (h1 : s < 86400) (hf : f.time = false) : tokV f (qcX s) = { f with s0 := s / 3600, s1 := s / 60 % 60, s2 := s % 60, time := true } := tokV_time' (qqZ h0 h1) hf
where tokV_time' {f : Fnd} {s : List UInt8} {a b c : Int} (h : qa7 s = some [a, b, c]) (ht : f.time = false) : tokV f s = { f with s0 := a, s1 := b, s2 := c, time := true } := by
       unfold tokV; rw [h, ht]
theorem qs5 {f : Fnd} {s : List UInt8} (h1 : f.day = true) (h2 : f.month = true) (h3 : f.year = true) (h4 : f.time = true) : tokV f s = f := by
 rcases qdS f s with ⟨_, _, _, _, h, _⟩ | ⟨_, e⟩
 · rw [h4] at h; cases h
 · rw [e, if_neg (fun h => by rw [h1] at h; cases h.2), if_neg (fun h => by rw [h2] at h; cases h.2), if_neg (fun h => by rw [h3] at h; cases h.2)]
theorem qq8 : ∀ k : Nat, k < 7 -> (qem (k : Int)).all (fun x => !qcC x) = true := by decide
theorem qsQ : ∀ k : Nat, k < 7 -> tokV fnd0 (qem (k : Int)) = fnd0
 | 0, _ => by kernel_rfl
 | 1, _ => by kernel_rfl
 | 2, _ => by kernel_rfl
 | 3, _ => by kernel_rfl
 | 4, _ => by kernel_rfl
 | 5, _ => by kernel_rfl
 | 6, _ => by kernel_rfl
 | n + 7, h => by omega
def qp2 (c : UInt8) (y m d s : Int) : List UInt8 := twoL d ++ c :: (monN m ++ c :: ((twoL (y / 100) ++ twoL (y % 100)) ++ c :: (qcX s ++ c :: [71, 77, 84])))
def qpR (y m d s : Int) : Fnd := ⟨true, true, true, true, s / 3600, s / 60 % 60, s % 60, y, m, d⟩
theorem qq3 {s : Int} (x : UInt8) (h : x ∈ qcX s) : qcC x = false := by
 unfold qcX at h
 simp only [List.mem_append, List.mem_singleton] at h
 rcases h with (((h | h) | h) | h) | h
 · exact qji (qee _ x h)
 · subst h; decide
 · exact qji (qee _ x h)
 · subst h; decide
 · exact qji (qee _ x h)
theorem qsI {c : UInt8} (hc : qcC c = true) {y m d s : Int} (h : zK y m d) (h0 : 0 <= s) (h1 : s < 86400) (r : List UInt8) (hr : r = [] \/ ∃ r', r = c :: r') :
   (cutP [] (qp2 c y m d s ++ r)).foldl tokV fnd0 = qpR y m d s := by
 obtain ⟨g1, g2, g3, g4, g5, g6⟩ := h
 have hl := qeL y m
 have hm := qoT (m - 1).toNat (by omega)
 rw [show (((m - 1).toNat : Nat) : Int) + 1 = m by omega] at hm
 have hmp : ∀ x ∈ monN m, qcC x = false := fun x hx => by have := List.all_eq_true.1 hm.2.2.2 x hx; simpa using this
 have e : qp2 c y m d s ++ r = twoL d ++ c :: (monN m ++ c :: ((twoL (y / 100) ++ twoL (y % 100)) ++ c :: (qcX s ++ c :: ([71, 77, 84] ++ r)))) := by simp [qp2]
 rw [e, qgY _ _ _ _ (fun x hx => qji (qee _ x hx)) hc, qgY _ _ _ _ hmp hc,
   qgY _ _ _ _ (fun x hx => qji ((List.mem_append.1 hx).elim (qee _ x) (qee _ x))) hc, qgY _ _ _ _ qq3 hc]
 simp only [List.nil_append, List.foldl_cons]
 rw [qtT (by omega) (by omega) rfl, quq g3 g4 rfl, qsO (by omega) (by omega) rfl rfl, qrF h0 h1 rfl]
 have fullk : ∀ l : List (List UInt8), l.foldl tokV (qpR y m d s) = qpR y m d s := by
   intro l
   induction l with
   | nil => rfl
   | cons x l ih => rw [List.foldl_cons, qs5 rfl rfl rfl rfl, ih]
 exact fullk _
theorem qsi {t y m d : Int} (h : zK y m d) (he : zR y m d = t / 86400) : qjP (qpR y m d (t % 86400)) = .tuple #[.int .i64 t, .bool true] := by
 have h1 := h.1
 have hy : qcJ y = y := by unfold qcJ; rw [if_neg (by omega), if_neg (by omega)]
 have hc : qhi (qpR y m d (t % 86400)) := by
   refine ⟨?_, rfl, rfl, ?_, ?_, ?_⟩
   · show zK (qcJ y) m d
     rw [hy]; exact h
   · show t % 86400 / 3600 <= 23; omega
   · show t % 86400 / 60 % 60 <= 59; omega
   · show t % 86400 % 60 <= 59; omega
 unfold qjP
 rw [if_pos hc]
 have : qcb (qpR y m d (t % 86400)) = t := by
   show zR (qcJ y) m d * 86400 + t % 86400 / 3600 * 3600 + t % 86400 / 60 % 60 * 60 + t % 86400 % 60 = t
   rw [hy, he]; omega
 rw [this]
theorem qqY (n y m d s : Int) : qhf n y m d s = qem (n % 7) ++ 44 :: 32 :: qp2 32 y m d s := by simp [qhf, qp2]
theorem qrK {n y m d s : Int} (h : zK y m d) (h0 : 0 <= s) (h1 : s < 86400) : qdo (qhf n y m d s) = qpR y m d s := by
 have hw := qq8 (n % 7).toNat (by omega)
 have hw2 := qsQ (n % 7).toNat (by omega)
 rw [show (((n % 7).toNat : Nat) : Int) = n % 7 by omega] at hw hw2
 unfold qdo
 rw [qqY, qgY _ _ _ _ (fun x hx => by have := List.all_eq_true.1 hw x hx; simpa using this) (by decide)]
 have e : cutP [] (32 :: qp2 32 y m d s) = [] :: cutP [] (qp2 32 y m d s) := rfl
 rw [e, List.foldl_cons, List.foldl_cons, List.nil_append, hw2, qqo]
 have := qsI (c := 32) (by decide) h h0 h1 [] (.inl rfl)
 rwa [List.append_nil] at this
end Go.Pk
namespace Go.Pk
def Lok (s : List UInt8) : Prop := stripR isBl s = s
def Hok (s : List UInt8) : Prop := s.dropWhile isBl = s
theorem qpU (p : UInt8 -> Bool) : ∀ s : List UInt8, (s.dropWhile p).dropWhile p = s.dropWhile p
 | [] => rfl
 | x :: s => by
   by_cases h : p x = true
   · rw [List.dropWhile_cons, if_pos h]; exact qpU p s
   · rw [List.dropWhile_cons, if_neg h, List.dropWhile_cons, if_neg h]
theorem qqm (s : List UInt8) : Hok (zt s) := by unfold Hok zt; rw [<- qg7]; exact qpU _ _
theorem qqh (s : List UInt8) : Lok (zt s) := by unfold Lok zt stripB stripR; rw [List.reverse_reverse, qpU]
theorem trim_id {s : List UInt8} (h : Hok s) (l : Lok s) : zt s = s := by
 unfold zt stripB
 rw [show s.dropWhile isBl = s from h]; exact l
theorem qi3 {s : List UInt8} : zt s = s ↔ Hok s /\ Lok s := ⟨fun h => ⟨h ▸ qqm s, h ▸ qqh s⟩, fun h => trim_id h.1 h.2⟩
theorem hok_cons {c : UInt8} {s : List UInt8} (h : isBl c = false) : Hok (c :: s) := by unfold Hok; rw [List.dropWhile_cons, if_neg (by rw [h]; decide)]
theorem lok_cons {c : UInt8} {s : List UInt8} (h : Lok s) (hn : s ≠ [] \/ isBl c = false) : Lok (c :: s) := by
 unfold Lok
 rw [qej, show stripR isBl s = s from h]
 by_cases hs : s = []
 · subst hs
   have : isBl c = false := hn.resolve_left fun h => h rfl
   rw [this]; rfl
 · rw [if_neg hs]
theorem qrx : ∀ (a : List UInt8) {s : List UInt8}, Lok s -> s ≠ [] -> Lok (a ++ s)
 | [], _, h, _ => h
 | c :: a, s, h, hn => lok_cons (qrx a h hn) (.inl fun e => hn (List.append_eq_nil_iff.1 e).2)
theorem qtn {c : UInt8} {s : List UInt8} (h : Lok (c :: s)) : Lok s := by
 unfold Lok at h ⊢
 rw [qej] at h
 split at h
 · rename_i h1
   split at h
   · cases h
   · injection h with _ h2; rw [h1]; exact h2
 · injection h
theorem low_bl_all : ∀ n, n < 256 -> isBl (lowC (UInt8.ofNat n)) = isBl (UInt8.ofNat n) := by decide +kernel
theorem quC (c : UInt8) : isBl (lowC c) = isBl c := by
 have := low_bl_all c.toNat (by have := c.toNat_lt; omega)
 rwa [UInt8.ofNat_toNat] at this
theorem qqc : ∀ n, n < 256 -> lowC (lowC (UInt8.ofNat n)) = lowC (UInt8.ofNat n) := by decide +kernel
theorem qp5 (s : List UInt8) : lowL (lowL s) = lowL s := by
 unfold lowL
 rw [List.map_map]
 refine List.map_congr_left fun c _ => ?_
 have := qqc c.toNat (by have := c.toNat_lt; omega)
 rw [UInt8.ofNat_toNat] at this
 exact this
theorem qsf : ∀ s : List UInt8, (lowL s).dropWhile isBl = lowL (s.dropWhile isBl)
 | [] => rfl
 | c :: s => by
   show (lowC c :: lowL s).dropWhile isBl = _
   rw [List.dropWhile_cons, List.dropWhile_cons, quC]
   split
   · exact qsf s
   · rfl
theorem qsb (s : List UInt8) : (lowL s).reverse = lowL s.reverse := by unfold lowL; rw [List.map_reverse]
theorem qsa {s : List UInt8} (h : Lok s) : Lok (lowL s) := by
 unfold Lok stripR at *
 rw [qsb, qsf, qsb, h]
def qbp (s : List UInt8) : Prop := ∀ c ∈ s, qcM c = false /\ c ≠ 59
def okB (c : UInt8) : Bool := !qcM c && !(c == 59)
theorem qlz {c : UInt8} : okB c = true ↔ qcM c = false /\ c ≠ 59 := by simp [okB]
theorem qbt {s : List UInt8} (h : s.all okB = true) : qbp s := fun c hc => qlz.1 (List.all_eq_true.1 h c hc)
theorem qiN : qbp [] := fun _ h => by cases h
theorem jW {a b : List UInt8} (h : qbp a) (k : qbp b) : qbp (a ++ b) := fun c hc => (List.mem_append.1 hc).elim (h c) (k c)
theorem qi9 {a b : List UInt8} (h : qbp b) (k : ∀ c ∈ a, c ∈ b) : qbp a := fun c hc => h c (k c hc)
theorem qnb {s : List UInt8} (h : qbp s) : qbp (zt s) := qi9 h (qnh _ _)
theorem qov : ∀ n, n < 256 -> okB (UInt8.ofNat n) = true -> okB (lowC (UInt8.ofNat n)) = true := by decide +kernel
theorem qsq {s : List UInt8} (h : qbp s) : qbp (lowL s) := by
 intro c hc
 obtain ⟨d, hd, rfl⟩ := List.mem_map.1 hc
 have := qov d.toNat (by have := d.toNat_lt; omega)
 rw [UInt8.ofNat_toNat] at this
 exact qlz.1 (this (qlz.2 (h d hd)))
theorem qnW : ∀ n, n < 256 -> j9 (UInt8.ofNat n) = true -> okB (UInt8.ofNat n) = true /\ isBl (UInt8.ofNat n) = false := by decide +kernel
theorem qiy {c : UInt8} (h : j9 c = true) : (qcM c = false /\ c ≠ 59) /\ isBl c = false := by
 have := qnW c.toNat (by have := c.toNat_lt; omega)
 rw [UInt8.ofNat_toNat] at this
 exact ⟨qlz.1 (this h).1, (this h).2⟩
theorem qlp {s : List UInt8} (h : qbp s) : qbp (qcg s) := qnb (qi9 h fun c hc => (List.takeWhile_sublist _).subset hc)
theorem clean_after {s : List UInt8} (h : qbp s) : qbp (qbW s) := qnb (qi9 h fun c hc => (List.dropWhile_sublist _).subset (List.mem_of_mem_drop hc))
theorem tw61 {k : List UInt8} (v : List UInt8) (h : ∀ c ∈ k, c ≠ 61) : (k ++ 61 :: v).takeWhile (· != 61) = k /\ (k ++ 61 :: v).dropWhile (· != 61) = 61 :: v := by
 induction k with
 | nil => exact ⟨rfl, rfl⟩
 | cons c k ih =>
   have hc : (c != 61) = true := by simpa using h c List.mem_cons_self
   obtain ⟨e1, e2⟩ := ih fun x hx => h x (List.mem_cons_of_mem _ hx)
   rw [List.cons_append, List.takeWhile_cons, List.dropWhile_cons, if_pos hc, if_pos hc, e1, e2]
   exact ⟨rfl, rfl⟩
theorem qqS {k : List UInt8} (v : List UInt8) (h : ∀ c ∈ k, c ≠ 61) : qcg (k ++ 61 :: v) = zt k /\ qbW (k ++ 61 :: v) = zt v /\ qnR (k ++ 61 :: v) = true := by
 unfold qcg qbW qnR
 rw [(tw61 v h).1, (tw61 v h).2]
 exact ⟨rfl, rfl, by simp⟩
theorem qey (u : Nat) : (∀ c ∈ Lib.decDigits u, j9 c = true) /\ Lib.decDigits u ≠ [] /\ decV (Lib.decDigits u) = (u : Int) := by
 induction u using Nat.strongRecOn with
 | _ u ih =>
   have hd : ∀ k, k < 10 -> j9 (UInt8.ofNat (48 + k)) = true /\ ((UInt8.ofNat (48 + k)).toNat : Int) - 48 = (k : Int) := by decide
   rw [Lib.decDigits]
   split
   · rename_i h
     refine ⟨fun c hc => ?_, by simp, ?_⟩
     · rw [List.mem_singleton.1 hc]; exact (hd u h).1
     · show (0 * 10 + (((UInt8.ofNat (48 + u)).toNat : Int) - 48)) = u
       rw [(hd u h).2]; omega
   · rename_i h
     obtain ⟨i1, i2, i3⟩ := ih (u / 10) (by omega)
     have hm := hd (u % 10) (by omega)
     refine ⟨fun c hc => ?_, by simp, ?_⟩
     · rcases List.mem_append.1 hc with hc | hc
       · exact i1 c hc
       · rw [List.mem_singleton.1 hc]; exact hm.1
     · unfold decV at i3 ⊢
       rw [List.foldl_append, i3]
       show (u / 10 : Nat) * 10 + (((UInt8.ofNat (48 + u % 10)).toNat : Int) - 48) = u
       rw [hm.2]; omega
theorem qkN {n : Int} (h : 0 <= n) : Lib.itoa n = Lib.decDigits n.toNat := by unfold Lib.itoa; rw [if_neg (by omega)]
theorem qqw {s : List UInt8} (h : ∀ c ∈ s, j9 c = true) : zt s = s := by
 refine trim_id ?_ ?_
 · cases s with
   | nil => rfl
   | cons c s => exact hok_cons (qiy (h c List.mem_cons_self)).2
 · induction s with
   | nil => rfl
   | cons c s ih => exact lok_cons (ih fun x hx => h x (List.mem_cons_of_mem _ hx)) (.inr (qiy (h c List.mem_cons_self)).2)
theorem qs0 {n : Int} (h0 : 0 <= n) (h1 : n <= 34560000) : ageV (Lib.itoa n) = some n := by
 rw [qkN h0]
 obtain ⟨i1, i2, i3⟩ := qey n.toNat
 have hh : (Lib.decDigits n.toNat).head? ≠ some 45 := by
   cases hc : Lib.decDigits n.toNat with
   | nil => exact absurd hc i2
   | cons c r =>
     intro e
     rw [List.head?_cons] at e
     have := i1 c (by rw [hc]; exact List.mem_cons_self)
     rw [Option.some.inj e] at this
     exact absurd this (by decide)
 have hd : zy (Lib.decDigits n.toNat) = true := by
   unfold zy
   rw [Bool.and_eq_true, List.all_eq_true]
   exact ⟨by simpa using i2, i1⟩
 unfold ageV
 rw [if_neg hh, if_pos hd, i3]
 congr 1
 rw [Int.min_eq_left (by omega)]; omega
theorem qtM : ∀ k : Nat, k < 7 -> (qem (k : Int)).all (fun c => okB c && !isBl c) = true /\ qem (k : Int) ≠ [] := by decide
theorem quD : ∀ k : Nat, k < 12 -> (monN ((k : Int) + 1)).all okB = true := by decide
theorem qq2 {f : Fnd} (hf : qmw f) (hc : qhi f) : qdo (qb6 (qcb f)) = qdo (qb6 (qcb f)) /\ qhi (qdo (qb6 (qcb f))) /\ qcb (qdo (qb6 (qcb f))) = qcb f /\ zt (qb6 (qcb f)) = qb6 (qcb f) /\ qbp (qb6 (qcb f)) /\ (-9223372036854775808 <= qcb f /\ qcb f <= 9223372036854775807) := by
 obtain ⟨hd, -, -, c1, c2, c3⟩ := hc
 have hr := qmd hd
 have e1 : qcb f / 86400 = zR (qcJ f.y) f.m f.d := by
   unfold qcb; have := hf.s0; have := hf.s1; have := hf.s2; omega
 have ht := qi2 hd e1.symm
 have htl := qrK (n := qcb f / 86400) (s := qcb f % 86400) hd (by omega) (by omega)
 have hfc := qsi hd e1.symm
 rw [<- ht] at htl
 rw [<- htl] at hfc
 unfold qjP at hfc
 by_cases hp : qhi (qdo (qb6 (qcb f)))
 · rw [if_pos hp] at hfc
   injection hfc with hfc
   have hn : qcb (qdo (qb6 (qcb f))) = qcb f := by
     have := congrArg (fun a : Array Value => a[0]?) hfc
     simpa using this
   have hw := qtM (qcb f / 86400 % 7).toNat (by omega)
   rw [show (((qcb f / 86400 % 7).toNat : Nat) : Int) = qcb f / 86400 % 7 by omega] at hw
   have hm := quD (f.m - 1).toNat (by have := hd.2.2.1; have := hd.2.2.2.1; omega)
   rw [show (((f.m - 1).toNat : Nat) : Int) + 1 = f.m by have := hd.2.2.1; omega] at hm
   refine ⟨rfl, hp, hn, ?_, ?_, ?_⟩
   · rw [ht]
     refine trim_id ?_ ?_
     · unfold qhf
       cases hc : qem (qcb f / 86400 % 7) with
       | nil => exact absurd hc hw.2
       | cons c r =>
         have := List.all_eq_true.1 hw.1 c (by rw [hc]; exact List.mem_cons_self)
         simp only [List.cons_append]
         exact hok_cons (by rw [Bool.and_eq_true] at this; simpa using this.2)
     · unfold qhf
       exact qrx _ (show Lok [32, 71, 77, 84] from rfl) (by simp)
   · rw [ht]
     have two : ∀ n, qbp (twoL n) := fun n c hc => (qiy (qee n c hc)).1
     unfold qhf qcX
     refine jW (jW (jW (jW (jW (jW (jW (jW (jW ?_ ?_) (two _)) ?_) ?_) ?_) (jW (two _) (two _))) ?_) (jW (jW (jW (jW (two _) ?_) (two _)) ?_) (two _))) ?_
     · intro c hc
       have := List.all_eq_true.1 hw.1 c hc
       rw [Bool.and_eq_true] at this
       exact qlz.1 this.1
     · exact qbt (by decide)
     · exact qbt (by decide)
     · exact qbt hm
     · exact qbt (by decide)
     · exact qbt (by decide)
     · exact qbt (by decide)
     · exact qbt (by decide)
     · exact qbt (by decide)
   · have := hf.s0; have := hf.s1; have := hf.s2
     unfold qcb; omega
 · rw [if_neg hp] at hfc
   have := congrArg (fun v : Value => match v with | .tuple a => a[1]? | _ => none) hfc
   simp at this
structure Good (h : Hdr) : Prop where
 nc : qbp h.name
 vc : qbp h.value
 nt : zt h.name = h.name
 vt : zt h.value = h.value
 ne : ∀ c ∈ h.name, c ≠ 61
 nz : h.name ++ h.value ≠ []
 nl : h.name.length + h.value.length <= 4096
 dc : qbp h.domain
 de : Lok h.domain
 dl : lowL h.domain = h.domain
 dn : (dotV h.domain).length <= 1024
 pc : qbp h.path
 pt : zt h.path = h.path
 ph : h.path = [] \/ h.path.head? = some 47
 pl : h.path.length <= 1024
 ex : if h.hasE = true then qhi (qdo (qb6 h.exp)) /\ qcb (qdo (qb6 h.exp)) = h.exp /\ zt (qb6 h.exp) = qb6 h.exp /\ qbp (qb6 h.exp) /\ (-9223372036854775808 <= h.exp /\ h.exp <= 9223372036854775807) else h.exp = 0
 ag : 0 <= h.age /\ h.age <= 34560000 /\ (h.hasA = false -> h.age = 0)
 sm : 0 <= h.same /\ h.same <= 3
theorem qq5 {s : List UInt8} {n : Int} (h : ageV s = some n) : 0 <= n /\ n <= 34560000 := by
 unfold ageV at h
 split at h
 · split at h
   · cases h; decide
   · cases h
 · split at h
   · rename_i hd
     have := (qb1 s 0 (by decide) (fun c hc => by
       unfold zy at hd
       rw [Bool.and_eq_true] at hd
       exact List.all_eq_true.1 hd.2 c hc)).1
     have h2 : min (decV s) 34560000 = n := Option.some.inj h
     have h3 : 0 <= decV s := this
     omega
   · cases h
theorem qpX (v : List UInt8) : 0 <= qoh v /\ qoh v <= 3 := by unfold qoh; split; decide; split; decide; split <;> decide
theorem qtk {v : List UInt8} (hv : zt v = v) (hl : v.length <= 1024) : (dotV (lowL (if v.head? = some 46 then v.drop 1 else v))).length <= 1024 := by
 split
 · rename_i h
   have h1 := qnK (lowL (v.drop 1))
   have h2 : (lowL (v.drop 1)).length = v.length - 1 := by unfold lowL; simp
   have h3 : 0 < v.length := by cases v with
     | nil => cases h
     | cons => simp
   omega
 · rename_i h
   have h1 : zt (lowL v) = lowL v := by
     obtain ⟨a, b⟩ := qi3.1 hv
     refine trim_id ?_ (qsa b)
     unfold Hok; rw [qsf, show v.dropWhile isBl = v from a]
   have h2 : (lowL v).head? ≠ some 46 := by
     intro e
     cases v with
     | nil => cases e
     | cons c v =>
       have e' : lowC c = 46 := Option.some.inj e
       have hall : ∀ n, n < 256 -> lowC (UInt8.ofNat n) = 46 -> UInt8.ofNat n = 46 := by decide +kernel
       have := hall c.toNat (by have := c.toNat_lt; omega)
       rw [UInt8.ofNat_toNat] at this
       exact h (by rw [this e']; rfl)
   unfold dotV
   rw [if_pos ⟨h1, h2⟩]
   unfold lowL; simpa using hl
theorem attr_good {h : Hdr} (g : Good h) (key : List UInt8) {v : List UInt8} (hv : zt v = v) (hc : qbp v) (hl : v.length <= 1024) : Good (qdZ h key v) := by
 unfold qdZ
 split
 · split
   · rename_i hk
     have hf : qmw (qdo v) := qpP _ qpG
     obtain ⟨-, h1, h2, h3, h4, h5⟩ := qq2 hf hk
     exact { g with ex := by show if true = true then _ else _; rw [if_pos rfl]; exact ⟨h1, h2, h3, h4, h5⟩ }
   · exact g
 split
 · split
   · rename_i n hn
     have := qq5 hn
     exact { g with ag := ⟨this.1, this.2, fun h => by cases h⟩ }
   · exact g
 split
 · refine { g with dc := qsq ?_, de := qsa ?_, dl := qp5 _, dn := qtk hv hl }
   · split
     · exact qi9 hc fun c hc => List.mem_of_mem_drop hc
     · exact hc
   · have := (qi3.1 hv).2
     split
     · cases v with
       | nil => exact this
       | cons c v => exact qtn this
     · exact this
 split
 · by_cases h47 : v.head? = some 47
   · rw [if_pos h47]
     exact { g with pc := hc, pt := hv, ph := .inr h47, pl := hl }
   · rw [if_neg h47]
     exact { g with pc := qiN, pt := rfl, ph := .inl rfl, pl := (show ([] : List UInt8).length <= 1024 by decide) }
 split
 · exact { g with }
 split
 · exact { g with }
 split
 · exact { g with sm := qpX v }
 · exact g
theorem trim_trim (s : List UInt8) : zt (zt s) = zt s := qi3.2 ⟨qqm s, qqh s⟩
theorem qrC {h : Hdr} (g : Good h) {x : List UInt8} (hc : qbp x) : Good (qbE h x) := by
 unfold qbE
 split
 · rename_i hl
   exact attr_good g _ (trim_trim _) (clean_after hc) hl
 · exact g
theorem fold_good : ∀ (l : List (List UInt8)) {h : Hdr}, Good h -> (∀ x ∈ l, qbp x) -> Good (l.foldl qbE h)
 | [], _, g, _ => g
 | x :: l, _, g, hc => fold_good l (qrC g (hc x List.mem_cons_self)) fun y hy => hc y (List.mem_cons_of_mem _ hy)
theorem parse_good {s : List UInt8} {h : Hdr} (hp : qM s = (h, 0)) : Good h := by
 unfold qM at hp
 split at hp
 · cases hp
 split at hp
 · cases hp
 split at hp
 · cases hp
 rename_i h1 h2 h3
 obtain ⟨rfl, -⟩ := Prod.mk.inj hp
 have hcs : ∀ x ∈ cutC 59 [] s, qbp x := fun x hx c hc => by
   obtain ⟨k1, k2⟩ := qoC 59 s [] x hx (fun _ h => by cases h) c hc
   refine ⟨?_, k2⟩
   rcases k1 with k1 | k1
   · cases k1
   · cases hcc : qcM c
     · rfl
     · exact absurd (List.any_eq_true.2 ⟨c, k1, hcc⟩) h1
 have hx0 : qbp ((cutC 59 [] s).headD []) := by
   have := jD 59 s []
   cases hcc : cutC 59 [] s with
   | nil => exact absurd hcc this
   | cons x l => exact hcs x (by rw [hcc]; exact List.mem_cons_self)
 refine fold_good _ ?_ fun x hx => hcs x (List.mem_of_mem_drop hx)
 generalize (cutC 59 [] s).headD [] = x at *
 have hn : qbp (nameOf x).1 /\ qbp (nameOf x).2 /\ zt (nameOf x).1 = (nameOf x).1 /\ zt (nameOf x).2 = (nameOf x).2 /\ ∀ c ∈ (nameOf x).1, c ≠ 61 := by
   unfold nameOf
   split
   · refine ⟨qlp hx0, clean_after hx0, trim_trim _, trim_trim _, fun c hc => ?_⟩
     have h1 : c ∈ x.takeWhile (· != 61) := qnh _ _ c hc
     have := List.all_eq_true.1 (List.all_takeWhile (p := (· != (61 : UInt8))) (l := x)) c h1
     simpa using this
   · exact ⟨qiN, qlp hx0, rfl, trim_trim _, fun c hc => by cases hc⟩
 exact { nc := hn.1, vc := hn.2.1, nt := hn.2.2.1, vt := hn.2.2.2.1, ne := hn.2.2.2.2, nz := h2, nl := by show (nameOf x).1.length + (nameOf x).2.length <= 4096; omega,
         dc := qiN, de := rfl, dl := rfl, dn := by show (dotV []).length <= 1024; decide, pc := qiN, pt := rfl, ph := .inl rfl, pl := (show ([] : List UInt8).length <= 1024 by decide), ex := rfl, ag := ⟨Int.le_refl 0, (show (0 : Int) <= 34560000 by decide), fun _ => rfl⟩, sm := ⟨Int.le_refl 0, (show (0 : Int) <= 3 by decide)⟩ }
end Go.Pk
namespace Go.Pk
theorem qqf : ∀ (r : List (List UInt8)) (x : List UInt8), (∀ c ∈ x, c ≠ 59) -> (∀ y ∈ r, ∀ c ∈ y, c ≠ 59) -> cutC 59 [] (x ++ Lib.joinTail [59, 32] r) = x :: r.map (32 :: ·)
 | [], x, hx, _ => by
   have : Lib.joinTail [59, 32] [] = [] := rfl
   rw [this, List.append_nil, qgy 59 x [] hx]; rfl
 | y :: r, x, hx, hr => by
   have e : Lib.joinTail [59, 32] (y :: r) = 59 :: ((32 :: y) ++ Lib.joinTail [59, 32] r) := by simp [Lib.joinTail]
   rw [e, qjo 59 x [] _ hx, qqf r (32 :: y) (fun c hc => by
     rcases List.mem_cons.1 hc with rfl | hc
     · decide
     · exact hr y List.mem_cons_self c hc) fun z hz => hr z (List.mem_cons_of_mem _ hz)]
   rfl
theorem qnl : ∀ (r : List (List UInt8)) (x : List UInt8), (∀ c ∈ x, qcM c = false) -> (∀ y ∈ r, ∀ c ∈ y, qcM c = false) -> ∀ c ∈ x ++ Lib.joinTail [59, 32] r, qcM c = false
 | [], x, hx, _ => by
   have : Lib.joinTail [59, 32] [] = [] := rfl
   rw [this, List.append_nil]; exact hx
 | y :: r, x, hx, hr => by
   have e : Lib.joinTail [59, 32] (y :: r) = [59, 32] ++ (y ++ Lib.joinTail [59, 32] r) := by simp [Lib.joinTail]
   intro c hc
   rw [e] at hc
   rcases List.mem_append.1 hc with hc | hc
   · exact hx c hc
   rcases List.mem_append.1 hc with hc | hc
   · have hall : ∀ c ∈ ([59, 32] : List UInt8), qcM c = false := by decide
     exact hall c hc
   · exact qnl r y (hr y List.mem_cons_self) (fun z hz => hr z (List.mem_cons_of_mem _ hz)) c hc
theorem quV {b : Bool} {x y : List UInt8} (h : y ∈ opt b x) : y = x := by unfold opt at h; split at h <;> simp_all
theorem qtt (b : Bool) (x : List UInt8) (g : Hdr) : ((opt b x).map (32 :: ·)).foldl qbE g = if b = true then qbE g (32 :: x) else g := by
 cases b <;> rfl
theorem qjb {k : List UInt8} (v : List UInt8) (h : ∀ c ∈ k, c ≠ 61) (g : Hdr) {key : List UInt8} (hk : lowL (zt k) = key) (hl : (zt v).length <= 1024) : qbE g (k ++ 61 :: v) = qdZ g key (zt v) := by
 obtain ⟨e1, e2, -⟩ := qqS v h
 unfold qbE
 rw [e1, e2, if_pos hl, hk]
theorem qpa {k : List UInt8} (h : ∀ c ∈ k, c ≠ 61) (g : Hdr) {key : List UInt8} (hk : lowL (zt k) = key) : qbE g k = qdZ g key [] := by
 have hn : (61 : UInt8) ∉ k := fun hc => h 61 hc rfl
 obtain ⟨e1, e2⟩ := qrm hn
 unfold qbE qcg qbW
 rw [e1, e2, hk]
 rfl
theorem qqA {s : List UInt8} (h : Lok s) : zt (dotV s) = dotV s := by
 unfold dotV
 split
 · rename_i h1; exact h1.1
 · exact trim_id (hok_cons rfl) (lok_cons h (.inr rfl))
theorem dot_back {s : List UInt8} (hs : s ≠ []) : (if (dotV s).head? = some 46 then (dotV s).drop 1 else dotV s) = s := by
 unfold dotV
 split
 · rename_i h; rw [if_neg h.2]
 · exact if_pos rfl
theorem clean_dot {s : List UInt8} (h : qbp s) : qbp (dotV s) := by
 unfold dotV
 split
 · exact h
 · intro c hc
   rcases List.mem_cons.1 hc with rfl | hc
   · decide
   · exact h c hc
theorem clean_dig {s : List UInt8} (h : ∀ c ∈ s, j9 c = true) : qbp s := fun c hc => (qiy (h c hc)).1
theorem qrB : ∀ k : Nat, k < 4 -> zt (nmL[k]?.getD []) = nmL[k]?.getD [] /\ qoh (nmL[k]?.getD []) = (k : Int) /\ (nmL[k]?.getD []).all okB = true /\ (nmL[k]?.getD []).length <= 1024 := by decide
theorem qlm {h : Hdr} (g : Good h) : qM (jp h) = (h, 0) := by
 have hage := g.ag
 have hnum := qey h.age.toNat
 rw [<- qkN hage.1] at hnum
 have hsw := qrB h.same.toNat (by have := g.sm; omega)
 rw [show ((h.same.toNat : Nat) : Int) = h.same by have := g.sm; omega] at hsw
 have hE : h.hasE = true -> qbp (qb6 h.exp) := fun e => by have := g.ex; rw [if_pos e] at this; exact this.2.2.2.1
 -- the parts
 obtain ⟨r, hr⟩ : ∃ r, r = opt h.hasE (pE ++ qb6 h.exp) ++ opt h.hasA (pA ++ Lib.itoa h.age) ++ opt (!(h.domain == [])) (pD ++ dotV h.domain) ++ opt (!(h.path == [])) (pP ++ h.path) ++ opt h.sec pS ++ opt h.http pH ++
   opt (decide (0 < h.same) && decide (h.same <= 3)) (pM ++ nmL[h.same.toNat]?.getD []) := ⟨_, rfl⟩
 have hw : wparts h = (h.name ++ [61] ++ h.value) :: r := by rw [hr]; unfold wparts; simp only [List.append_assoc]; rfl
 have hjoin : jp h = (h.name ++ [61] ++ h.value) ++ Lib.joinTail [59, 32] r := by unfold jp; rw [hw, Lib.join_cons]
 have hc0 : qbp (h.name ++ [61] ++ h.value) := jW (jW g.nc (qbt (by decide))) g.vc
 have hoptE : ∀ (b : Bool) (p v : List UInt8), p.all okB = true -> (b = true -> qbp v) -> ∀ y ∈ opt b (p ++ v), qbp y := by
   intro b p v hp hv y hy
   cases b with
   | false => cases hy
   | true =>
     rw [List.mem_singleton.1 hy]
     exact jW (qbt hp) (hv rfl)
 have hoptW : ∀ (b : Bool) (p : List UInt8), p.all okB = true -> ∀ y ∈ opt b p, qbp y := fun b p hp y hy => by rw [quV hy]; exact qbt hp
 have hcr : ∀ y ∈ r, qbp y := by
   intro y hy
   rw [hr] at hy
   simp only [List.mem_append] at hy
   rcases hy with (((((hy | hy) | hy) | hy) | hy) | hy) | hy
   · exact hoptE _ pE _ (by decide) hE y hy
   · exact hoptE _ pA _ (by decide) (fun _ => clean_dig hnum.1) y hy
   · exact hoptE _ pD _ (by decide) (fun _ => clean_dot g.dc) y hy
   · exact hoptE _ pP _ (by decide) (fun _ => g.pc) y hy
   · exact hoptW _ pS (by decide) y hy
   · exact hoptW _ pH (by decide) y hy
   · exact hoptE _ pM _ (by decide) (fun _ => qbt hsw.2.2.1) y hy
 have hcut : cutC 59 [] (jp h) = (h.name ++ [61] ++ h.value) :: r.map (32 :: ·) := by
   rw [hjoin]
   exact qqf r _ (fun c hc => (hc0 c hc).2) fun y hy c hc => (hcr y hy c hc).2
 have hctl : ¬ (jp h).any qcM = true := by
   intro hx
   obtain ⟨c, hc, hcc⟩ := List.any_eq_true.1 hx
   rw [hjoin] at hc
   have := qnl r _ (fun c hc => (hc0 c hc).1) (fun y hy c hc => (hcr y hy c hc).1) c hc
   rw [this] at hcc; cases hcc
 have hname : nameOf (h.name ++ [61] ++ h.value) = (h.name, h.value) := by
   have e : h.name ++ [61] ++ h.value = h.name ++ 61 :: h.value := by simp
   obtain ⟨e1, e2, e3⟩ := qqS h.value g.ne
   unfold nameOf
   rw [e, e3, e1, e2, if_pos rfl, g.nt, g.vt]
 unfold qM
 rw [if_neg hctl, hcut]
 simp only [List.headD_cons, hname, List.drop_one, List.tail_cons]
 rw [if_neg g.nz, if_neg (by have := g.nl; omega)]
 congr 1
 rw [hr]
 simp only [List.map_append, List.foldl_append, qtt]
 -- Expires
 have s1 : (if h.hasE = true then qbE { hdr0 with name := h.name, value := h.value } (32 :: (pE ++ qb6 h.exp)) else { hdr0 with name := h.name, value := h.value }) = { hdr0 with name := h.name, value := h.value, hasE := h.hasE, exp := h.exp } := by
   have hx := g.ex
   cases he : h.hasE
   · rw [he] at hx
     rw [if_neg (by decide)]
     have hx' : h.exp = 0 := hx
     rw [hx']; rfl
   · rw [he, if_pos rfl] at hx
     rw [if_pos rfl]
     have e : (32 :: (pE ++ qb6 h.exp)) = [32, 69, 120, 112, 105, 114, 101, 115] ++ 61 :: qb6 h.exp := rfl
     rw [e, qjb (key := [101, 120, 112, 105, 114, 101, 115]) _ (by decide) _ (by decide) (by rw [hx.2.2.1]; have := qgS h.exp; omega), hx.2.2.1]
     unfold qdZ
     rw [if_pos rfl, if_pos hx.1, hx.2.1]
 rw [s1]
 have s2 : (if h.hasA = true then qbE { hdr0 with name := h.name, value := h.value, hasE := h.hasE, exp := h.exp } (32 :: (pA ++ Lib.itoa h.age)) else { hdr0 with name := h.name, value := h.value, hasE := h.hasE, exp := h.exp }) =
     { hdr0 with name := h.name, value := h.value, hasE := h.hasE, exp := h.exp, hasA := h.hasA, age := h.age } := by
   cases ha : h.hasA
   · rw [if_neg (by decide), hage.2.2 ha]; rfl
   · rw [if_pos rfl]
     have e : (32 :: (pA ++ Lib.itoa h.age)) = [32, 77, 97, 120, 45, 65, 103, 101] ++ 61 :: Lib.itoa h.age := rfl
     have il := Lib.itoa_length_le h.age (by omega) (by omega)
     rw [e, qjb (key := [109, 97, 120, 45, 97, 103, 101]) _ (by decide) _ (by decide) (by rw [qqw hnum.1]; omega), qqw hnum.1]
     unfold qdZ
     rw [if_neg (by decide), if_pos rfl, qs0 hage.1 hage.2.1]
 rw [s2]
 have s3 : ∀ G : Hdr, G.domain = [] -> (if (!(h.domain == [])) = true then qbE G (32 :: (pD ++ dotV h.domain)) else G) = { G with domain := h.domain } := by
   intro G hG
   by_cases hd : h.domain = []
   · rw [hd, if_neg (by decide), <- hG]
   · rw [if_pos (by simpa using hd)]
     have e : (32 :: (pD ++ dotV h.domain)) = [32, 68, 111, 109, 97, 105, 110] ++ 61 :: dotV h.domain := rfl
     rw [e, qjb (key := [100, 111, 109, 97, 105, 110]) _ (by decide) _ (by decide) (by rw [qqA g.de]; exact g.dn), qqA g.de]
     unfold qdZ
     rw [if_neg (by decide), if_neg (by decide), if_pos rfl, dot_back hd, g.dl]
 rw [s3 _ rfl]
 have s4 : ∀ G : Hdr, G.path = [] -> (if (!(h.path == [])) = true then qbE G (32 :: (pP ++ h.path)) else G) = { G with path := h.path } := by
   intro G hG
   by_cases hd : h.path = []
   · rw [hd, if_neg (by decide), <- hG]
   · rw [if_pos (by simpa using hd)]
     have e : (32 :: (pP ++ h.path)) = [32, 80, 97, 116, 104] ++ 61 :: h.path := rfl
     rw [e, qjb (key := [112, 97, 116, 104]) _ (by decide) _ (by decide) (by rw [g.pt]; exact g.pl), g.pt]
     unfold qdZ
     rw [if_neg (by decide), if_neg (by decide), if_neg (by decide), if_pos rfl, if_pos (g.ph.resolve_left hd)]
 rw [s4 _ rfl]
 have s5 : ∀ G : Hdr, G.sec = false -> (if h.sec = true then qbE G (32 :: pS) else G) = { G with sec := h.sec } := by
   intro G hG
   cases hs : h.sec
   · rw [if_neg (by decide), <- hG]
   · rw [if_pos rfl, qpa (key := [115, 101, 99, 117, 114, 101]) (by decide) _ (by decide)]
     unfold qdZ
     rw [if_neg (by decide), if_neg (by decide), if_neg (by decide), if_neg (by decide), if_pos rfl]
 rw [s5 _ rfl]
 have s6 : ∀ G : Hdr, G.http = false -> (if h.http = true then qbE G (32 :: pH) else G) = { G with http := h.http } := by
   intro G hG
   cases hs : h.http
   · rw [if_neg (by decide), <- hG]
   · rw [if_pos rfl, qpa (key := [104, 116, 116, 112, 111, 110, 108, 121]) (by decide) _ (by decide)]
     unfold qdZ
     rw [if_neg (by decide), if_neg (by decide), if_neg (by decide), if_neg (by decide), if_neg (by decide), if_pos rfl]
 rw [s6 _ rfl]
 have s7 : ∀ G : Hdr, G.same = 0 -> (if (decide (0 < h.same) && decide (h.same <= 3)) = true then qbE G (32 :: (pM ++ nmL[h.same.toNat]?.getD [])) else G) = { G with same := h.same } := by
   intro G hG
   have := g.sm
   by_cases hd : h.same = 0
   · rw [hd, if_neg (by decide), <- hG]
   · rw [if_pos (by simp; omega)]
     have e : (32 :: (pM ++ nmL[h.same.toNat]?.getD [])) = [32, 83, 97, 109, 101, 83, 105, 116, 101] ++ 61 :: nmL[h.same.toNat]?.getD [] := rfl
     rw [e, qjb (key := [115, 97, 109, 101, 115, 105, 116, 101]) _ (by decide) _ (by decide) (by rw [hsw.1]; exact hsw.2.2.2), hsw.1]
     unfold qdZ
     rw [if_neg (by decide), if_neg (by decide), if_neg (by decide), if_neg (by decide), if_neg (by decide), if_neg (by decide), if_pos rfl, hsw.2.1]
 rw [s7 _ rfl]
theorem qih {h : Hdr} (g : Good h) : qda h := by
 have := g.nl; have := g.pl
 have hd : h.domain.length <= (dotV h.domain).length := by unfold dotV; split <;> simp
 have := g.dn
 refine ⟨by omega, by omega, by omega, by omega, ?_, by have := g.ag; omega⟩
 have hx := g.ex
 by_cases he : h.hasE = true
 · rw [if_pos he] at hx; exact hx.2.2.2.2
 · rw [if_neg he] at hx; omega
end Go.Pk
namespace Go.Pk
open Go.RowKit (Below)
theorem right_of_good {h : Hdr} (g : Good h) : qaT h = true := by
 unfold qaT
 rw [qlm g, Bool.and_eq_true, qcP]
 exact ⟨rfl, rfl⟩
end Go.Pk

namespace Go.Pk
open Go.RowKit (Below)
def pSec : List UInt8 := [95, 95, 115, 101, 99, 117, 114, 101, 45]
def pHos : List UInt8 := [95, 95, 104, 111, 115, 116, 45]
def jF (s : List UInt8) : Int := if lowL (s.take 9) = pSec then 1 else if lowL (s.take 7) = pHos then 2 else 0
def domV (rs : List Rul) (u : Hst) (t : List UInt8) : Hst × Bool × Int := if t = [] then (u, true, 0) else match hostV t with
 | none => (hst0, false, 101)
 | some d => if (pubB rs d && !j8 d u) = true then (d, false, 102) else if (!domB u d) = true then (d, false, 103) else (d, pubB rs d, 0)
def expV (h : Hdr) (now : Int) : Int := if h.hasA = true then i64.wrap (now + h.age) else if h.hasE = true then (if i64.wrap (now + 34560000) < h.exp then i64.wrap (now + 34560000) else h.exp) else 9223372036854775807
def qdC (h : Hdr) : List UInt8 := if h.name = [] then h.value else h.name
def qen (h : Hdr) (only : Bool) : Bool := if jF (qdC h) = 1 then !h.sec else if jF (qdC h) = 2 then (!h.sec || (!only || !(h.path == [47]))) else false
noncomputable def givV (u : Url) (h : Hdr) (now : Int) : Int := if (!uRight u) = true then 41 else if (!qaT h) = true then 82 else if now < 0 then 122 else if 1099511627776 < now then 122 else 0
def errV (u : Url) (h : Hdr) (d : Hst × Bool × Int) : Int :=
 if d.2.2 ≠ 0 then d.2.2 else if (h.sec && !u.sec) = true then 104 else if (decide (h.same = 1) && !h.sec) = true then 105 else if qen h d.2.1 = true then 106 else 0
def ckyV (u : Url) (h : Hdr) (d : Hst × Bool × Int) (now : Int) : Cky := ⟨h.name, h.value, d.1, d.2.1, if h.path = [] then defV u.path else h.path, h.sec, h.http, h.same, expV h now, now, now, 0⟩
noncomputable def takV (rs : List Rul) (u : Url) (h : Hdr) (now : Int) : Cky × Int :=
 if givV u h now ≠ 0 then (cky0, givV u h now) else if errV u h (domV rs u.host h.domain) ≠ 0 then (cky0, errV u h (domV rs u.host h.domain)) else (ckyV u h (domV rs u.host h.domain) now, 0)
def ckyT (x : Cky × Int) : Value := .tuple #[x.1.v, .int .i64 x.2]
theorem qjA {rs : List Rul} {u : Hst} (o : u.ok) (t : List UInt8) : (domV rs u t).1.ok := by
 unfold domV
 split
 · exact o
 split
 · rfl
 · rename_i d hd
   have := jG hd
   split
   · exact this
   split <;> exact this
end Go.Pk
namespace Go.Proofs.YtndbpedpdbjkpaaGreatDoor
open Go.Pk
open Go.RowKit (Below)
theorem qgW (s : List UInt8) (w : World) : Calls prog qdi #[.string (mkS s)] w (Ret fun v w' => v = .int .i64 (jF s) /\ Below w.heap.size w w') := by
 apply qkD
 unfold qgU
 refine ⟨fun m i w' => Below w.heap.size w w' /\ (m = 3 /\ i = 0 \/ m = 2 /\ i = 1 \/ m = 1 /\ i = 2 /\ lowL (s.take 9) ≠ pSec \/ m = 0 /\ i = 3 /\ lowL (s.take 9) ≠ pSec /\ lowL (s.take 7) ≠ pHos), ⟨3, Below.refl _ _, .inl ⟨rfl, rfl⟩⟩, ?_⟩
 intro m i
 refine AllJ.of ?_ _
 rintro w1 ⟨hB, h⟩
 rcases h with ⟨rfl, rfl⟩ | ⟨rfl, rfl⟩ | ⟨rfl, rfl, h1⟩ | ⟨rfl, rfl, h1, h2⟩
 · exact BCase.yes (by decide) ⟨[], by kernel_rfl, BCase.no (by decide) ⟨2, by decide, hB, .inr (.inl ⟨rfl, rfl⟩)⟩⟩
 · refine BCase.yes (by decide) ⟨pSec, by kernel_rfl, BCase.yes (by decide) (BCase.of (fun c => ?_) (fun c => ⟨1, by decide, hB, .inr (.inr (.inl ⟨rfl, rfl, ?_⟩))⟩))⟩
   · refine ⟨⟨by omega, by simpa using c⟩, ?_⟩
     rintro _ rfl
     refine callK (octet_Lower_ok _ (by show (s.take 9).length <= _; rw [List.length_take]; omega) w1) ?_
     rintro _ w2 ⟨rfl, hb2⟩
     have hB2 := qb hB hb2 hB.size
     refine ⟨_, rfl, BCase.of (fun c2 => ⟨?_, hB2⟩) (fun c2 => ⟨1, by decide, hB2, .inr (.inr (.inl ⟨rfl, rfl, beq_eq_false_iff_ne.1 c2⟩))⟩)⟩
     have c2 : lowL (s.take 9) = pSec := eq_of_beq c2
     unfold jF; rw [if_pos c2]
   · intro e
     have := congrArg List.length e
     simp [lowL, pSec] at this c; omega
 · refine BCase.yes (by decide) ⟨pHos, by kernel_rfl, BCase.yes (by decide) (BCase.of (fun c => ?_) (fun c => ⟨0, by decide, hB, .inr (.inr (.inr ⟨rfl, rfl, h1, ?_⟩))⟩))⟩
   · refine ⟨⟨by omega, by simpa using c⟩, ?_⟩
     rintro _ rfl
     refine callK (octet_Lower_ok _ (by show (s.take 7).length <= _; rw [List.length_take]; omega) w1) ?_
     rintro _ w2 ⟨rfl, hb2⟩
     have hB2 := qb hB hb2 hB.size
     refine ⟨_, rfl, BCase.of (fun c2 => ⟨?_, hB2⟩) (fun c2 => ⟨0, by decide, hB2, .inr (.inr (.inr ⟨rfl, rfl, h1, beq_eq_false_iff_ne.1 c2⟩))⟩)⟩
     have c2 : lowL (s.take 7) = pHos := eq_of_beq c2
     unfold jF; rw [if_neg h1, if_pos c2]
   · intro e
     have := congrArg List.length e
     simp [lowL, pHos] at this c; omega
 · refine BCase.no (by decide) ⟨?_, hB⟩
   unfold jF; rw [if_neg h1, if_neg h2]
theorem qkA (h : Hdr) (now : Int) (w : World) : Calls prog qei #[h.v, .int .i64 now] w (Ret fun v w' => v = .int .i64 (expV h now) /\ Below w.heap.size w w') := by
 refine qjX h.name h.value h.domain h.path h.hasE h.exp h.hasA h.age h.sec h.http h.same now ?_
 unfold qfZ
 intro k1 w1 hk1 hw1
 obtain ⟨hh1, hB1⟩ := qeE h w hk1 hw1
 unfold expV
 refine ⟨rfl, _, hh1.load1 un_bool rfl rfl, BCase.of (fun c => ?_) (fun c => ?_)⟩
 · rw [if_pos c]
   exact ⟨rfl, _, hh1.load1 un_int64 rfl rfl, rfl, hB1⟩
 rw [if_neg (by rw [c]; decide)]
 refine ⟨rfl, _, hh1.load1 un_bool rfl rfl, BCase.of (fun c => ?_) (fun c => ?_)⟩
 · rw [if_pos c]
   exact ⟨rfl, _, hh1.load1 un_int64 rfl rfl, _, run_min_int2 _ _ _ _ _ _ _, rfl, hB1⟩
 · rw [if_neg (by rw [c]; decide)]
   exact ⟨rfl, hB1⟩
theorem qlM (h : Hdr) (only : Bool) (w : World) : Calls prog qeI #[h.v, .bool only] w (Ret fun v w' => v = .bool (qen h only) /\ Below w.heap.size w w') := by
 refine qkC h.name h.value h.domain h.path h.hasE h.exp h.hasA h.age h.sec h.http h.same only ?_
 unfold qgn
 intro k1 w1 hk1 hw1
 obtain ⟨hh1, hB1⟩ := qeE h w hk1 hw1
 refine ⟨rfl, _, hh1.load1 un_string rfl rfl, ?_⟩
 refine strJ (w := w1) (qdC h) ?_ ?_
 · unfold qdC
   exact BCase.of (fun c => ⟨rfl, _, hh1.load1 un_string rfl rfl, rfl, by rw [if_pos (eq_of_beq c)]⟩) (fun c => ⟨rfl, by rw [if_neg (beq_eq_false_iff_ne.1 c)]⟩)
 refine callK (qgW (qdC h) w1) ?_
 rintro _ w2 ⟨rfl, hb2⟩
 have hB2 := qb hB1 hb2 hB1.size
 have hh2 := hh1.below hb2
 unfold qen
 refine ⟨_, rfl, BCase.of (fun c => ?_) (fun c => ?_)⟩
 · rw [if_pos (eq_of_beq c)]
   exact ⟨rfl, _, hh2.load1 un_bool rfl rfl, rfl, hB2⟩
 rw [if_neg (beq_eq_false_iff_ne.1 c)]
 refine BCase.of (fun c => ?_) (fun c => ?_)
 · rw [if_pos (eq_of_beq c)]
   refine ⟨rfl, _, hh2.load1 un_bool rfl rfl, BCase.of (fun c2 => ⟨by rw [c2]; rfl, hB2⟩) (fun c2 => ?_)⟩
   rw [c2, Bool.false_or]
   refine BCase.of (fun c3 => ⟨by rw [c3]; rfl, hB2⟩) (fun c3 => ?_)
   rw [c3, Bool.false_or]
   exact ⟨rfl, _, hh2.load1 un_string rfl rfl, rfl, hB2⟩
 · rw [if_neg (beq_eq_false_iff_ne.1 c)]
   exact ⟨rfl, hB2⟩
theorem qmM {u : Url} (o : u.ok) (hn : u.host.name.length <= 1000000000) (h : Hdr) (ho : qda h) (now : Int) (w : World) (he : Env w) : Calls prog qfP #[u.v, h.v, .int .i64 now] w (Ret fun v w' => v = .int .i64 (givV u h now) /\ Below w.heap.size w w') := by
 refine qla u.v h.name h.value h.domain h.path h.hasE h.exp h.hasA h.age h.sec h.http h.same now ?_
 unfold qhp
 intro k3 w3 hk3 hw3
 have hB3 := (hw3 ▸ qf w _ : Below w.heap.size w w3)
 have h3 : qm w3 k3 qg u.cells := qm.new hk3 hw3
 intro k4 w4 hk4 hw4
 obtain ⟨hh4, hb4⟩ := qeE h w3 hk4 hw4
 have hB4 := qb hB3 hb4 hB3.size
 unfold givV
 refine ⟨_, qas.load0 (h3.below hb4) (Url.len o), ?_⟩
 refine callK (qpp o hn w4 (he.step hB4)) ?_
 rintro _ w5 ⟨rfl, hb5⟩
 have hB5 := qb hB4 hb5 hB4.size
 have hh5 := hh4.below hb5
 refine ⟨_, rfl, BCase.of (fun c => ⟨by rw [if_pos c], hB5⟩) (fun c => ?_)⟩
 rw [if_neg (by rw [c]; decide)]
 refine ⟨_, _, _, _, _, _, _, _, _, _, _, zo h hh5, ?_⟩
 refine callK (qk7 h ho w5 (he.step hB5)) ?_
 rintro _ w6 ⟨rfl, hb6⟩
 have hB6 := qb hB5 hb6 hB5.size
 refine ⟨_, rfl, BCase.of (fun c => ⟨by rw [if_pos c], hB6⟩) (fun c => ?_)⟩
 rw [if_neg (by rw [c]; decide)]
 refine BCase.of (fun c => ⟨by rw [if_pos (of_decide_eq_true c)], hB6⟩) (fun c => ?_)
 rw [if_neg (of_decide_eq_false c)]
 exact BCase.of (fun c => ⟨by rw [if_pos (show 1099511627776 < now from of_decide_eq_true c)], hB6⟩) (fun c => ⟨by rw [if_neg (show ¬ 1099511627776 < now from of_decide_eq_false c)], hB6⟩)
theorem qul {h : Hst} (o : h.ok) {w w' : World} {k2 : Nat} (h2 : qm w' k2 qc hst0.cells) (hb : Below w.heap.size w w') (hk : w.heap.size <= k2) {b : Bool} {e : Int} {K : Value -> World -> Prop}
   (hK : ∀ wx, Below w.heap.size w wx -> K (.tuple #[h.v, .bool b, .int .i64 e]) wx) :
   ∃ (wx : World), (Instr.storeAt qc (.pointer (some ⟨k2, 0, none⟩)) h.v).run prog w' = .ok () wx /\ ∃ vr : Value, (qC qc (.pointer (some ⟨k2, 0, none⟩))).run prog wx = .ok vr wx /\ K (.tuple #[vr, .bool b, .int .i64 e]) wx :=
 qs.fin (K := fun vr wx => K (.tuple #[vr, .bool b, .int .i64 e]) wx) (cs := h.cells) (Hst.len o) (Hst.one h) h2 rfl hb hk fun wx hbx => hK wx hbx
def domT (x : Hst × Bool × Int) : Value := .tuple #[x.1.v, .bool x.2.1, .int .i64 x.2.2]
theorem qlB {w0 : World} (he : Env w0) {kt km : Nat} {a : Option Addr} {n c : Nat} {ps : List Pth} {kvs : List (qeH × Int)} {es : List (List Bool)} {rs : List Rul} {w : World} (S : qbF w0 qq qt kt km a n c ps kvs es rs w) {u : Hst} (o : u.ok) (hn : u.name.length <= 1000000000) (t : List UInt8) (ht : t.length <= 100000000) :
   Calls prog qeK #[.pointer (some ⟨kt, 0, none⟩), u.v, .string (mkS t)] w (Ret fun v w' => v = domT (domV rs u t) /\ Below w.heap.size w w') := by
 apply qko
 unfold qf3
 intro k4 w4 hk4 hw4
 have hB4 := (hw4 ▸ qf w _ : Below w.heap.size w w4)
 have h4 : qm w4 k4 qc u.cells := qm.new hk4 hw4
 intro k6 w6 hk6 hw6
 have hb6 := (hw6 ▸ qf w4 _ : Below w4.heap.size w4 w6)
 have hB6 := qb hB4 hb6 hB4.size
 have h6 : qm w6 k6 qc hst0.cells := qm.new hk6 hw6
 have h46 := h4.below hb6
 have hk6w : w.heap.size <= k6 := by have := hB4.size; omega
 have fin : ∀ {wx : World} {h : Hst} {b : Bool} {e : Int}, h.ok -> domV rs u t = (h, b, e) -> Below w6.heap.size w6 wx -> ∃ wy, (Instr.storeAt qc (.pointer (some ⟨k6, 0, none⟩)) h.v).run prog wx = .ok () wy /\ ∃ vr : Value, (qC qc (.pointer (some ⟨k6, 0, none⟩))).run prog wy = .ok vr wy /\
     ((.tuple #[vr, .bool b, .int .i64 e] : Value) = domT (domV rs u t) /\ Below w.heap.size w wy) := fun {wx h b e} oh hv hbx =>
   qul oh (h6.below hbx) (qb hB6 hbx hB6.size) hk6w (K := fun v wy => v = domT (domV rs u t) /\ Below w.heap.size w wy) fun wy hb => ⟨by rw [hv]; rfl, hb⟩
 refine BCase.of (fun c1 => ?_) (fun c1 => ?_)
 · have c1 : t = [] := eq_of_beq c1
   exact ⟨_, qs.load0 h46 (Hst.len o), fin o (by unfold domV; rw [if_pos c1]) (Below.refl _ _)⟩
 have c1 : t ≠ [] := beq_eq_false_iff_ne.1 c1
 have hV : domV rs u t = match hostV t with
     | none => (hst0, false, 101)
     | some d => if (pubB rs d && !j8 d u) = true then (d, false, 102) else if (!domB u d) = true then (d, false, 103) else (d, pubB rs d, 0) := if_neg c1
 refine callK (qfG t (by omega) w6 (he.step (S.below hB6).hb)) ?_
 rintro _ w7 ⟨rfl, hb7⟩
 rw [qat]
 refine ⟨_, _, rfl, ?_⟩
 have hok := qcr fun x hx => jG (s := t) hx
 refine qs.new (zs := hst0.cells) (cs := ((hostV t).getD hst0).cells) rfl (Hst.len hok) (Hst.one _) w7 fun k9 w9 hk9 h9 hb9 => ?_
 have hb69 := qb hb7 hb9 hb7.size
 cases hd : hostV t with
 | none =>
   rw [hd] at hV h9
   refine worldJ (fun _ => False) (BCase.yes rfl ⟨_, qs.load0 h9 rfl, fin rfl hV hb69⟩) (fun w hf => hf.elim)
 | some d =>
   rw [hd] at hV h9 hok
   simp only [Option.getD_some] at h9 hok
   have hdn : d.name.length <= 1000000000 := by have := qah hd; omega
   have l9 : ∀ {wx}, Below w9.heap.size w9 wx -> (Instr.loadAt qc (.pointer (some ⟨k9, 0, none⟩))).run prog wx = .ok d.v wx := fun hb => qs.load0 (h9.below hb) (Hst.len hok)
   have l4 : ∀ {wx}, Below w6.heap.size w6 wx -> (Instr.loadAt qc (.pointer (some ⟨k4, 0, none⟩))).run prog wx = .ok u.v wx := fun hb => qs.load0 (h46.below hb) (Hst.len o)
   have hV : domV rs u t = if (pubB rs d && !j8 d u) = true then (d, false, 102) else if (!domB u d) = true then (d, false, 103) else (d, pubB rs d, 0) := hV
   refine worldJ (fun w' => domV rs u t = (d, pubB rs d, 0) /\ Below w9.heap.size w9 w') ?_ ?_
   · refine BCase.no rfl ?_
     refine qhz (fun b w' => b = (pubB rs d && !j8 d u) /\ Below w9.heap.size w9 w') ?_ ?_
     · refine ⟨_, l9 (Below.refl _ _), ?_⟩
       refine callK (qfW he (S.below (qb hB6 hb69 hB6.size)) hok hdn) ?_
       rintro _ w10 ⟨rfl, hb10⟩
       refine ⟨_, rfl, BCase.of (fun c2 => ?_) (fun c2 => ⟨by rw [c2]; rfl, hb10⟩)⟩
       exact ⟨_, l9 hb10, _, l4 (qb hb69 hb10 hb69.size), _, qo3 hok o w10, by rw [c2]; rfl, hb10⟩
     · rintro b w10 ⟨rfl, hb10⟩
       have hb610 := qb hb69 hb10 hb69.size
       refine BCase.of (fun c2 => ⟨_, l9 hb10, fin hok (by rw [hV, if_pos c2]) hb610⟩) (fun c2 => ?_)
       rw [if_neg (by rw [c2]; decide)] at hV
       refine ⟨_, l4 hb610, _, l9 hb10, ?_⟩
       refine callK (qlc o hok hn hdn w10 (he.step (S.below (qb hB6 hb610 hB6.size)).hb)) ?_
       rintro _ w11 ⟨rfl, hb11⟩
       have hb911 := qb hb10 hb11 hb10.size
       refine ⟨_, rfl, BCase.of (fun c3 => ⟨_, l9 hb911, fin hok (by rw [hV, if_pos c3]) (qb hb69 hb911 hb69.size)⟩) (fun c3 => ⟨?_, hb911⟩)⟩
       rw [hV, if_neg (by rw [c3]; decide)]
   · rintro w10 ⟨hV, hb10⟩
     have hd10 := zV w10
     have hb910 := qb hb10 hd10 hb10.size
     have hb610 := qb hb69 hb910 hb69.size
     have pub := qfW he (S.below (qb hB6 hb610 hB6.size)) hok hdn
     refine ⟨⟨_, l9 hb910, _, l9 hb910, ?_⟩, _, l9 hb910, ⟨_, l9 hb910, ?_⟩, ?_⟩
     · refine callK pub ?_
       rintro _ w11 ⟨rfl, hb11⟩
       exact ⟨_, rfl, fin hok hV (qb hb610 hb11 hb610.size)⟩
     · refine callK pub ?_
       rintro _ w11 ⟨rfl, hb11⟩
       exact ⟨_, rfl, fin hok hV (qb hb610 hb11 hb610.size)⟩
     · refine callK pub ?_
       rintro _ w11 ⟨rfl, hb11⟩
       exact ⟨_, rfl, _, l9 (qb hb910 hb11 hb910.size), fin hok hV (qb hb610 hb11 hb610.size)⟩
end Go.Proofs.YtndbpedpdbjkpaaGreatDoor
namespace Go.Proofs.YtndbpedpdbjkpaaGreatDoor
open Go.Pk
open Go.RowKit (Below)
theorem qls (name value : List UInt8) {d : Hst} (o : d.ok) (only : Bool) (path : List UInt8) (sec http : Bool) (same exp born used : Int) (w : World) :
   (Instr.build qa #[(0, .string (mkS name)), (1, .string (mkS value)), (2, d.v), (3, .bool only), (4, .string (mkS path)), (5, .bool sec), (6, .bool http), (7, .int .i64 same), (8, .int .i64 exp), (9, .int .i64 born), (10, .int .i64 used)]).run prog w =
     .ok (Cky.v ⟨name, value, d, only, path, sec, http, same, exp, born, used, 0⟩) w := by
 obtain ⟨k, n, a⟩ := d
 obtain ⟨x0, x1, x2, x3, x4, x5, x6, x7, x8, x9, x10, x11, x12, x13, x14, x15, rfl⟩ := qi4 a o
 kernel_rfl
def qc9 (rs : List Rul) (u : Url) (h : Hdr) (now : Int) (w : World) (v : Value) (w' : World) : Prop := v = ckyT (takV rs u h now) /\ Below w.heap.size w w'
theorem jv {w0 : World} (he : Env w0) {kt km : Nat} {a : Option Addr} {n c : Nat} {ps : List Pth} {kvs : List (qeH × Int)} {es : List (List Bool)} {rs : List Rul} {w : World} (S : qbF w0 qq qt kt km a n c ps kvs es rs w)
   {u : Url} (o : u.ok) (hn : u.host.name.length <= 1000000000) (hp : u.path.length <= 1000000000) (h : Hdr) (ho : qda h) (now : Int) :
   Calls prog qh #[.pointer (some ⟨kt, 0, none⟩), u.v, h.v, .int .i64 now] w (Ret (qc9 rs u h now w)) := by
 refine qmH _ u.v h.name h.value h.domain h.path h.hasE h.exp h.hasA h.age h.sec h.http h.same now ?_
 unfold qjq
 intro k5 w5 hk5 hw5
 have hB5 := (hw5 ▸ qf w _ : Below w.heap.size w w5)
 have h5 : qm w5 k5 qg u.cells := qm.new hk5 hw5
 intro k6 w6 hk6 hw6
 obtain ⟨hh6, hb6⟩ := qeE h w5 hk6 hw6
 have hB6 := qb hB5 hb6 hB5.size
 intro k8 w8 hk8 hw8
 have hb8 := (hw8 ▸ qf w6 _ : Below w6.heap.size w6 w8)
 have hB8 := qb hB6 hb8 hB6.size
 have h8 : qm w8 k8 qa cky0.cells := qm.new hk8 hw8
 have h58 := (h5.below hb6).below hb8
 have h68 := hh6.below hb8
 have hk8w : w.heap.size <= k8 := by have := hB6.size; omega
 have hE8 := he.step (S.below hB8).hb
 clear h5 hh6 hb6 hb8 hk5 hw5 hk6 hw6 hk8 hw8 hB5 hB6
 have fin : ∀ {wx : World} {c : Cky} {e : Int}, c.ok -> takV rs u h now = (c, e) -> Below w8.heap.size w8 wx -> ∃ wy, (Instr.storeAt qa (.pointer (some ⟨k8, 0, none⟩)) c.v).run prog wx = .ok () wy /\ ∃ vr : Value, (qC qa (.pointer (some ⟨k8, 0, none⟩))).run prog wy = .ok vr wy /\
     qc9 rs u h now w (.tuple #[vr, .int .i64 e]) wy := fun {wx c e} oc hv hbx =>
   qS.fin (K := fun vr wy => qc9 rs u h now w (.tuple #[vr, .int .i64 e]) wy) (cs := c.cells) (Cky.len oc) (Cky.one c) (h8.below hbx) rfl (qb hB8 hbx hB8.size) hk8w fun wy hb => ⟨by rw [hv]; rfl, hb⟩
 refine ⟨_, qas.load0 h58 (Url.len o), _, _, _, _, _, _, _, _, _, _, _, zo h h68, ?_⟩
 refine callK (qmM o hn h ho now w8 hE8) ?_
 rintro _ w9 ⟨rfl, hb9⟩
 refine ⟨_, rfl, BCase.of (fun c1 => ?_) (fun c1 => ?_)⟩
 · have c1 : givV u h now ≠ 0 := by simpa using c1
   exact fin (c := cky0) rfl (by unfold takV; rw [if_pos c1]) hb9
 have c1 : ¬ givV u h now ≠ 0 := by simpa using c1
 have hT : takV rs u h now = if errV u h (domV rs u.host h.domain) ≠ 0 then (cky0, errV u h (domV rs u.host h.domain)) else (ckyV u h (domV rs u.host h.domain) now, 0) := by unfold takV; rw [if_neg c1]
 have hB9 := qb hB8 hb9 hB8.size
 refine ⟨rfl, _, qs.load (h58.below hb9) (i := 1) (us := u.host.cells) (Hst.len o) (fun j hj => qdj o hj), rfl, _, (h68.below hb9).load1 un_string rfl rfl, ?_⟩
 refine callK (qlB he (S.below hB9) o hn h.domain (by have := ho.domain; omega)) ?_
 rintro _ w10 ⟨rfl, hb10⟩
 have hb810 := qb hb9 hb10 hb9.size
 have hdo := qjA (rs := rs) o h.domain
 have herr : errV u h (domV rs u.host h.domain) = if (domV rs u.host h.domain).2.2 ≠ 0 then (domV rs u.host h.domain).2.2 else if (h.sec && !u.sec) = true then 104 else if (decide (h.same = 1) && !h.sec) = true then 105 else if qen h (domV rs u.host h.domain).2.1 = true then 106 else 0 := rfl
 have hck : ckyV u h (domV rs u.host h.domain) now = ⟨h.name, h.value, (domV rs u.host h.domain).1, (domV rs u.host h.domain).2.1, if h.path = [] then defV u.path else h.path, h.sec, h.http, h.same, expV h now, now, now, 0⟩ := rfl
 unfold domT
 generalize domV rs u.host h.domain = D at *
 obtain ⟨d, only, e⟩ := D
 simp only at hdo herr hck
 refine ⟨_, _, _, rfl, ?_⟩
 refine qs.new (zs := hst0.cells) (cs := d.cells) rfl (Hst.len hdo) (Hst.one d) w10 fun k11 w11 hk11 h11 hb11 => ?_
 have hb811 := qb hb810 hb11 hb810.size
 have h5B := h58.below hb811
 have h6B := h68.below hb811
 refine ⟨fun n w' => n = errV u h (d, only, e) /\ Below w11.heap.size w11 w', ?_, ?_⟩
 · refine BCase.of (fun c2 => ⟨?_, Below.refl _ _⟩) (fun c2 => ?_)
   · have c2 : e ≠ 0 := by simpa using c2
     rw [herr, if_pos c2]
   have c2 : ¬ e ≠ 0 := by simpa using c2
   rw [if_neg c2] at herr
   refine qav (w := w11) (h.sec && !u.sec) ?_ ?_
   · exact ⟨rfl, _, h6B.load1 un_bool rfl rfl, BCase.of (fun c3 => ⟨rfl, _, h5B.load1 un_bool rfl (i := 0) rfl, rfl, by rw [c3]; rfl⟩) (fun c3 => ⟨rfl, by rw [c3]; rfl⟩)⟩
   refine BCase.of (fun c3 => ⟨by rw [herr, if_pos c3], Below.refl _ _⟩) (fun c3 => ?_)
   rw [if_neg (by rw [c3]; decide)] at herr
   refine qav (w := w11) (decide (h.same = 1) && !h.sec) ?_ ?_
   · exact ⟨rfl, _, h6B.load1 qN rfl rfl, BCase.of (fun c4 => ⟨rfl, _, h6B.load1 un_bool rfl rfl, rfl, by rw [decide_eq_true (eq_of_beq c4)]; rfl⟩) (fun c4 => ⟨rfl, by rw [decide_eq_false (beq_eq_false_iff_ne.1 c4)]; rfl⟩)⟩
   refine BCase.of (fun c4 => ⟨by rw [herr, if_pos c4], Below.refl _ _⟩) (fun c4 => ?_)
   rw [if_neg (by rw [c4]; decide)] at herr
   refine ⟨_, _, _, _, _, _, _, _, _, _, _, zo h h6B, ?_⟩
   refine callK (qlM h only w11) ?_
   rintro _ w12 ⟨rfl, hb12⟩
   refine ⟨_, rfl, BCase.of (fun c5 => ⟨by rw [herr, if_pos c5], hb12⟩) (fun c5 => ⟨?_, hb12⟩)⟩
   rw [herr, if_neg (by rw [c5]; decide)]
   exact Decidable.not_not.1 c2
 intro e2
 refine AllJ.of ?_ _
 rintro w12 ⟨rfl, hb12⟩
 have hb812 := qb hb811 hb12 hb811.size
 refine BCase.of (fun c2 => ?_) (fun c2 => ?_)
 · have c2 : errV u h (d, only, e) ≠ 0 := by simpa using c2
   exact fin (c := cky0) rfl (by rw [hT, if_pos c2]) hb812
 have c2 : ¬ errV u h (d, only, e) ≠ 0 := by simpa using c2
 rw [if_neg c2] at hT
 have h5C := h5B.below hb12
 have h6C := h6B.below hb12
 have h11C := h11.below hb12
 refine ⟨rfl, _, h6C.load1 un_string rfl rfl, ?_⟩
 refine strJ (w := w12) (if h.path = [] then defV u.path else h.path) ?_ ?_
 · refine BCase.of (fun c3 => ?_) (fun c3 => ⟨rfl, by rw [if_neg (beq_eq_false_iff_ne.1 c3)]⟩)
   refine ⟨rfl, _, h5C.load1 un_string rfl (qcE o), ?_⟩
   refine callK (qkx u.path (by omega) w12) ?_
   rintro _ w13 ⟨rfl, hw13⟩
   exact ⟨_, rfl, hw13, by rw [if_pos (eq_of_beq c3)]⟩
 refine ⟨rfl, _, fun v hv => (h6C.below hv).load1 un_string rfl rfl, rfl, _, fun v hv => (h6C.below hv).load1 un_string rfl rfl, _, fun v hv => qs.load0 (h11C.below hv) (Hst.len hdo), rfl, _, fun v hv => (h6C.below hv).load1 un_bool rfl rfl, rfl, _, fun v hv => (h6C.below hv).load1 un_bool rfl rfl, rfl, _, fun v hv => (h6C.below hv).load1 qN rfl rfl, _, _, _, _, _, _, _, _, _, _, _, fun v hv => zo h (h6C.below hv), _, fun v hv => zj (qkA h now v) hv, _, fun v hv => qls _ _ hdo _ _ _ _ _ _ _ _ v, ?_⟩
 intro wq hq
 exact fin hdo (by rw [hT, hck]) (qb hb812 hq hb812.size)
end Go.Proofs.YtndbpedpdbjkpaaGreatDoor
set_option maxRecDepth 100000
namespace Go.Proofs.YtndbpedpdbjkpaaGreatDoor
open Go.Pk
open Go.RowKit (Below)
--  cracknel/cracknellaw10.both
def qjz (s0 : List UInt8) (s1 : List UInt8) (w : World) (K : Value -> World -> Prop) : Prop :=
 ∀ k4 w4, k4 = w.heap.size -> w4 = w.alloc (.cells z7 qg) ->
 ∀ k5 w5, k5 = w4.heap.size -> w5 = w4.alloc (.cells #[.string (mkS []), .string (mkS []), .string (mkS []), .string (mkS []), .bool false, .int .i64 (0 : Int), .bool false, .int .i64 (0 : Int), .bool false, .bool false, .int .i64 (0 : Int)] qd) ->
 Calls prog qfL #[.string (mkS s0)] w5 fun e13 w13 => ∃ v13_0 n13_1, e13 = .returned (.tuple #[v13_0, .int .i64 n13_1]) /\
 ∀ k7 w7, k7 = w13.heap.size -> w7 = w13.alloc (.cells z7 qg) ->
 ∃ wx, Sv qg (some ⟨k7, 0, none⟩) v13_0 w7 wx /\
 Calls prog qcy #[.string (mkS s1)] wx fun e18 w18 => ∃ s18_0_0 s18_0_1 s18_0_2 s18_0_3 b18_0_4 n18_0_5 b18_0_6 n18_0_7 b18_0_8 b18_0_9 n18_0_10 n18_1, e18 = .returned (.tuple #[(hV s18_0_0 s18_0_1 s18_0_2 s18_0_3 b18_0_4 n18_0_5 b18_0_6 n18_0_7 b18_0_8 b18_0_9 n18_0_10), .int .i64 n18_1]) /\
 ∀ k9 w9, k9 = w18.heap.size -> w9 = w18.alloc (.cells #[.string (mkS []), .string (mkS []), .string (mkS []), .string (mkS []), .bool false, .int .i64 (0 : Int), .bool false, .int .i64 (0 : Int), .bool false, .bool false, .int .i64 (0 : Int)] qd) ->
 ∃ wx_1, Sv qd (some ⟨k9, 0, none⟩) (hV s18_0_0 s18_0_1 s18_0_2 s18_0_3 b18_0_4 n18_0_5 b18_0_6 n18_0_7 b18_0_8 b18_0_9 n18_0_10) w9 wx_1 /\
 BCase (n13_1 == (0 : Int))
 ((∃ v21, Ld qg (some ⟨k7, 0, none⟩) (World.drew wx_1) v21 /\
 (∃ s22_0 s22_1 s22_2 s22_3 b22_4 n22_5 b22_6 n22_7 b22_8 b22_9 n22_10, Ld qd (some ⟨k9, 0, none⟩) (World.drew wx_1) (hV s22_0 s22_1 s22_2 s22_3 b22_4 n22_5 b22_6 n22_7 b22_8 b22_9 n22_10) /\
 ∃ wx_2, Sv qg (some ⟨k4, 0, none⟩) v21 (World.drew wx_1) wx_2 /\
 ∃ wx_3, Sv qd (some ⟨k5, 0, none⟩) (hV s22_0 s22_1 s22_2 s22_3 b22_4 n22_5 b22_6 n22_7 b22_8 b22_9 n22_10) wx_2 wx_3 /\
 ∃ vr0, (qC qg (.pointer (some ⟨k4, 0, none⟩))).run prog wx_3 = .ok vr0 wx_3 /\
 ∃ sr1_0 sr1_1 sr1_2 sr1_3 br1_4 nr1_5 br1_6 nr1_7 br1_8 br1_9 nr1_10, (qC qd (.pointer (some ⟨k5, 0, none⟩))).run prog wx_3 = .ok (hV sr1_0 sr1_1 sr1_2 sr1_3 br1_4 nr1_5 br1_6 nr1_7 br1_8 br1_9 nr1_10) wx_3 /\
 K (.tuple #[vr0, (hV sr1_0 sr1_1 sr1_2 sr1_3 br1_4 nr1_5 br1_6 nr1_7 br1_8 br1_9 nr1_10), .bool (n18_1 == (0 : Int))]) wx_3) /\
 ∃ wx_4, Sv qg (some ⟨k4, 0, none⟩) v21 (World.drew wx_1) wx_4 /\
 ∃ s22_0_1 s22_1_1 s22_2_1 s22_3_1 b22_4_1 n22_5_1 b22_6_1 n22_7_1 b22_8_1 b22_9_1 n22_10_1, Ld qd (some ⟨k9, 0, none⟩) wx_4 (hV s22_0_1 s22_1_1 s22_2_1 s22_3_1 b22_4_1 n22_5_1 b22_6_1 n22_7_1 b22_8_1 b22_9_1 n22_10_1) /\
 ∃ wx_5, Sv qd (some ⟨k5, 0, none⟩) (hV s22_0_1 s22_1_1 s22_2_1 s22_3_1 b22_4_1 n22_5_1 b22_6_1 n22_7_1 b22_8_1 b22_9_1 n22_10_1) wx_4 wx_5 /\
 ∃ vr0_1, (qC qg (.pointer (some ⟨k4, 0, none⟩))).run prog wx_5 = .ok vr0_1 wx_5 /\
 ∃ sr1_0_1 sr1_1_1 sr1_2_1 sr1_3_1 br1_4_1 nr1_5_1 br1_6_1 nr1_7_1 br1_8_1 br1_9_1 nr1_10_1, (qC qd (.pointer (some ⟨k5, 0, none⟩))).run prog wx_5 = .ok (hV sr1_0_1 sr1_1_1 sr1_2_1 sr1_3_1 br1_4_1 nr1_5_1 br1_6_1 nr1_7_1 br1_8_1 br1_9_1 nr1_10_1) wx_5 /\
 K (.tuple #[vr0_1, (hV sr1_0_1 sr1_1_1 sr1_2_1 sr1_3_1 br1_4_1 nr1_5_1 br1_6_1 nr1_7_1 br1_8_1 br1_9_1 nr1_10_1), .bool (n18_1 == (0 : Int))]) wx_5) /\
 ∃ s22_0_2 s22_1_2 s22_2_2 s22_3_2 b22_4_2 n22_5_2 b22_6_2 n22_7_2 b22_8_2 b22_9_2 n22_10_2, Ld qd (some ⟨k9, 0, none⟩) (World.drew wx_1) (hV s22_0_2 s22_1_2 s22_2_2 s22_3_2 b22_4_2 n22_5_2 b22_6_2 n22_7_2 b22_8_2 b22_9_2 n22_10_2) /\
 ∃ v21_1, Ld qg (some ⟨k7, 0, none⟩) (World.drew wx_1) v21_1 /\
 ∃ wx_6, Sv qg (some ⟨k4, 0, none⟩) v21_1 (World.drew wx_1) wx_6 /\
 ∃ wx_7, Sv qd (some ⟨k5, 0, none⟩) (hV s22_0_2 s22_1_2 s22_2_2 s22_3_2 b22_4_2 n22_5_2 b22_6_2 n22_7_2 b22_8_2 b22_9_2 n22_10_2) wx_6 wx_7 /\
 ∃ vr0_2, (qC qg (.pointer (some ⟨k4, 0, none⟩))).run prog wx_7 = .ok vr0_2 wx_7 /\
 ∃ sr1_0_2 sr1_1_2 sr1_2_2 sr1_3_2 br1_4_2 nr1_5_2 br1_6_2 nr1_7_2 br1_8_2 br1_9_2 nr1_10_2, (qC qd (.pointer (some ⟨k5, 0, none⟩))).run prog wx_7 = .ok (hV sr1_0_2 sr1_1_2 sr1_2_2 sr1_3_2 br1_4_2 nr1_5_2 br1_6_2 nr1_7_2 br1_8_2 br1_9_2 nr1_10_2) wx_7 /\
 K (.tuple #[vr0_2, (hV sr1_0_2 sr1_1_2 sr1_2_2 sr1_3_2 br1_4_2 nr1_5_2 br1_6_2 nr1_7_2 br1_8_2 br1_9_2 nr1_10_2), .bool (n18_1 == (0 : Int))]) wx_7)
 ((∃ v21_2, Ld qg (some ⟨k7, 0, none⟩) (World.drew wx_1) v21_2 /\
 (∃ s22_0_3 s22_1_3 s22_2_3 s22_3_3 b22_4_3 n22_5_3 b22_6_3 n22_7_3 b22_8_3 b22_9_3 n22_10_3, Ld qd (some ⟨k9, 0, none⟩) (World.drew wx_1) (hV s22_0_3 s22_1_3 s22_2_3 s22_3_3 b22_4_3 n22_5_3 b22_6_3 n22_7_3 b22_8_3 b22_9_3 n22_10_3) /\
 (∃ wx_8, Sv qg (some ⟨k4, 0, none⟩) v21_2 (World.drew wx_1) wx_8 /\
 ∃ wx_9, Sv qd (some ⟨k5, 0, none⟩) (hV s22_0_3 s22_1_3 s22_2_3 s22_3_3 b22_4_3 n22_5_3 b22_6_3 n22_7_3 b22_8_3 b22_9_3 n22_10_3) wx_8 wx_9 /\
 ∃ vr0_3, (qC qg (.pointer (some ⟨k4, 0, none⟩))).run prog wx_9 = .ok vr0_3 wx_9 /\
 ∃ sr1_0_3 sr1_1_3 sr1_2_3 sr1_3_3 br1_4_3 nr1_5_3 br1_6_3 nr1_7_3 br1_8_3 br1_9_3 nr1_10_3, (qC qd (.pointer (some ⟨k5, 0, none⟩))).run prog wx_9 = .ok (hV sr1_0_3 sr1_1_3 sr1_2_3 sr1_3_3 br1_4_3 nr1_5_3 br1_6_3 nr1_7_3 br1_8_3 br1_9_3 nr1_10_3) wx_9 /\
 K (.tuple #[vr0_3, (hV sr1_0_3 sr1_1_3 sr1_2_3 sr1_3_3 br1_4_3 nr1_5_3 br1_6_3 nr1_7_3 br1_8_3 br1_9_3 nr1_10_3), .bool false]) wx_9) /\
 ∃ wx_10, Sv qg (some ⟨k4, 0, none⟩) v21_2 (World.drew wx_1) wx_10 /\
 (∃ wx_11, Sv qd (some ⟨k5, 0, none⟩) (hV s22_0_3 s22_1_3 s22_2_3 s22_3_3 b22_4_3 n22_5_3 b22_6_3 n22_7_3 b22_8_3 b22_9_3 n22_10_3) wx_10 wx_11 /\
 ∃ vr0_4, (qC qg (.pointer (some ⟨k4, 0, none⟩))).run prog wx_11 = .ok vr0_4 wx_11 /\
 ∃ sr1_0_4 sr1_1_4 sr1_2_4 sr1_3_4 br1_4_4 nr1_5_4 br1_6_4 nr1_7_4 br1_8_4 br1_9_4 nr1_10_4, (qC qd (.pointer (some ⟨k5, 0, none⟩))).run prog wx_11 = .ok (hV sr1_0_4 sr1_1_4 sr1_2_4 sr1_3_4 br1_4_4 nr1_5_4 br1_6_4 nr1_7_4 br1_8_4 br1_9_4 nr1_10_4) wx_11 /\
 K (.tuple #[vr0_4, (hV sr1_0_4 sr1_1_4 sr1_2_4 sr1_3_4 br1_4_4 nr1_5_4 br1_6_4 nr1_7_4 br1_8_4 br1_9_4 nr1_10_4), .bool false]) wx_11) /\
 ∃ wx_12, Sv qd (some ⟨k5, 0, none⟩) (hV s22_0_3 s22_1_3 s22_2_3 s22_3_3 b22_4_3 n22_5_3 b22_6_3 n22_7_3 b22_8_3 b22_9_3 n22_10_3) wx_10 wx_12 /\
 ∃ vr0_5, (qC qg (.pointer (some ⟨k4, 0, none⟩))).run prog wx_12 = .ok vr0_5 wx_12 /\
 ∃ sr1_0_5 sr1_1_5 sr1_2_5 sr1_3_5 br1_4_5 nr1_5_5 br1_6_5 nr1_7_5 br1_8_5 br1_9_5 nr1_10_5, (qC qd (.pointer (some ⟨k5, 0, none⟩))).run prog wx_12 = .ok (hV sr1_0_5 sr1_1_5 sr1_2_5 sr1_3_5 br1_4_5 nr1_5_5 br1_6_5 nr1_7_5 br1_8_5 br1_9_5 nr1_10_5) wx_12 /\
 K (.tuple #[vr0_5, (hV sr1_0_5 sr1_1_5 sr1_2_5 sr1_3_5 br1_4_5 nr1_5_5 br1_6_5 nr1_7_5 br1_8_5 br1_9_5 nr1_10_5), .bool false]) wx_12) /\
 ((∃ s22_0_4 s22_1_4 s22_2_4 s22_3_4 b22_4_4 n22_5_4 b22_6_4 n22_7_4 b22_8_4 b22_9_4 n22_10_4, Ld qd (some ⟨k9, 0, none⟩) (World.drew wx_1) (hV s22_0_4 s22_1_4 s22_2_4 s22_3_4 b22_4_4 n22_5_4 b22_6_4 n22_7_4 b22_8_4 b22_9_4 n22_10_4) /\
 ∃ wx_13, Sv qg (some ⟨k4, 0, none⟩) v21_2 (World.drew wx_1) wx_13 /\
 ∃ wx_14, Sv qd (some ⟨k5, 0, none⟩) (hV s22_0_4 s22_1_4 s22_2_4 s22_3_4 b22_4_4 n22_5_4 b22_6_4 n22_7_4 b22_8_4 b22_9_4 n22_10_4) wx_13 wx_14 /\
 ∃ vr0_6, (qC qg (.pointer (some ⟨k4, 0, none⟩))).run prog wx_14 = .ok vr0_6 wx_14 /\
 ∃ sr1_0_6 sr1_1_6 sr1_2_6 sr1_3_6 br1_4_6 nr1_5_6 br1_6_6 nr1_7_6 br1_8_6 br1_9_6 nr1_10_6, (qC qd (.pointer (some ⟨k5, 0, none⟩))).run prog wx_14 = .ok (hV sr1_0_6 sr1_1_6 sr1_2_6 sr1_3_6 br1_4_6 nr1_5_6 br1_6_6 nr1_7_6 br1_8_6 br1_9_6 nr1_10_6) wx_14 /\
 K (.tuple #[vr0_6, (hV sr1_0_6 sr1_1_6 sr1_2_6 sr1_3_6 br1_4_6 nr1_5_6 br1_6_6 nr1_7_6 br1_8_6 br1_9_6 nr1_10_6), .bool false]) wx_14) /\
 ∃ wx_15, Sv qg (some ⟨k4, 0, none⟩) v21_2 (World.drew wx_1) wx_15 /\
 ∃ s22_0_5 s22_1_5 s22_2_5 s22_3_5 b22_4_5 n22_5_5 b22_6_5 n22_7_5 b22_8_5 b22_9_5 n22_10_5, Ld qd (some ⟨k9, 0, none⟩) wx_15 (hV s22_0_5 s22_1_5 s22_2_5 s22_3_5 b22_4_5 n22_5_5 b22_6_5 n22_7_5 b22_8_5 b22_9_5 n22_10_5) /\
 ∃ wx_16, Sv qd (some ⟨k5, 0, none⟩) (hV s22_0_5 s22_1_5 s22_2_5 s22_3_5 b22_4_5 n22_5_5 b22_6_5 n22_7_5 b22_8_5 b22_9_5 n22_10_5) wx_15 wx_16 /\
 ∃ vr0_7, (qC qg (.pointer (some ⟨k4, 0, none⟩))).run prog wx_16 = .ok vr0_7 wx_16 /\
 ∃ sr1_0_7 sr1_1_7 sr1_2_7 sr1_3_7 br1_4_7 nr1_5_7 br1_6_7 nr1_7_7 br1_8_7 br1_9_7 nr1_10_7, (qC qd (.pointer (some ⟨k5, 0, none⟩))).run prog wx_16 = .ok (hV sr1_0_7 sr1_1_7 sr1_2_7 sr1_3_7 br1_4_7 nr1_5_7 br1_6_7 nr1_7_7 br1_8_7 br1_9_7 nr1_10_7) wx_16 /\
 K (.tuple #[vr0_7, (hV sr1_0_7 sr1_1_7 sr1_2_7 sr1_3_7 br1_4_7 nr1_5_7 br1_6_7 nr1_7_7 br1_8_7 br1_9_7 nr1_10_7), .bool false]) wx_16) /\
 ∃ wx_17, Sv qg (some ⟨k4, 0, none⟩) v21_2 (World.drew wx_1) wx_17 /\
 (∃ s22_0_6 s22_1_6 s22_2_6 s22_3_6 b22_4_6 n22_5_6 b22_6_6 n22_7_6 b22_8_6 b22_9_6 n22_10_6, Ld qd (some ⟨k9, 0, none⟩) wx_17 (hV s22_0_6 s22_1_6 s22_2_6 s22_3_6 b22_4_6 n22_5_6 b22_6_6 n22_7_6 b22_8_6 b22_9_6 n22_10_6) /\
 (∃ wx_18, Sv qd (some ⟨k5, 0, none⟩) (hV s22_0_6 s22_1_6 s22_2_6 s22_3_6 b22_4_6 n22_5_6 b22_6_6 n22_7_6 b22_8_6 b22_9_6 n22_10_6) wx_17 wx_18 /\
 ∃ vr0_8, (qC qg (.pointer (some ⟨k4, 0, none⟩))).run prog wx_18 = .ok vr0_8 wx_18 /\
 ∃ sr1_0_8 sr1_1_8 sr1_2_8 sr1_3_8 br1_4_8 nr1_5_8 br1_6_8 nr1_7_8 br1_8_8 br1_9_8 nr1_10_8, (qC qd (.pointer (some ⟨k5, 0, none⟩))).run prog wx_18 = .ok (hV sr1_0_8 sr1_1_8 sr1_2_8 sr1_3_8 br1_4_8 nr1_5_8 br1_6_8 nr1_7_8 br1_8_8 br1_9_8 nr1_10_8) wx_18 /\
 K (.tuple #[vr0_8, (hV sr1_0_8 sr1_1_8 sr1_2_8 sr1_3_8 br1_4_8 nr1_5_8 br1_6_8 nr1_7_8 br1_8_8 br1_9_8 nr1_10_8), .bool false]) wx_18) /\
 ∃ wx_19, Sv qd (some ⟨k5, 0, none⟩) (hV s22_0_6 s22_1_6 s22_2_6 s22_3_6 b22_4_6 n22_5_6 b22_6_6 n22_7_6 b22_8_6 b22_9_6 n22_10_6) wx_17 wx_19 /\
 ∃ vr0_9, (qC qg (.pointer (some ⟨k4, 0, none⟩))).run prog wx_19 = .ok vr0_9 wx_19 /\
 ∃ sr1_0_9 sr1_1_9 sr1_2_9 sr1_3_9 br1_4_9 nr1_5_9 br1_6_9 nr1_7_9 br1_8_9 br1_9_9 nr1_10_9, (qC qd (.pointer (some ⟨k5, 0, none⟩))).run prog wx_19 = .ok (hV sr1_0_9 sr1_1_9 sr1_2_9 sr1_3_9 br1_4_9 nr1_5_9 br1_6_9 nr1_7_9 br1_8_9 br1_9_9 nr1_10_9) wx_19 /\
 K (.tuple #[vr0_9, (hV sr1_0_9 sr1_1_9 sr1_2_9 sr1_3_9 br1_4_9 nr1_5_9 br1_6_9 nr1_7_9 br1_8_9 br1_9_9 nr1_10_9), .bool false]) wx_19) /\
 ∃ s22_0_7 s22_1_7 s22_2_7 s22_3_7 b22_4_7 n22_5_7 b22_6_7 n22_7_7 b22_8_7 b22_9_7 n22_10_7, Ld qd (some ⟨k9, 0, none⟩) wx_17 (hV s22_0_7 s22_1_7 s22_2_7 s22_3_7 b22_4_7 n22_5_7 b22_6_7 n22_7_7 b22_8_7 b22_9_7 n22_10_7) /\
 ∃ wx_20, Sv qd (some ⟨k5, 0, none⟩) (hV s22_0_7 s22_1_7 s22_2_7 s22_3_7 b22_4_7 n22_5_7 b22_6_7 n22_7_7 b22_8_7 b22_9_7 n22_10_7) wx_17 wx_20 /\
 ∃ vr0_10, (qC qg (.pointer (some ⟨k4, 0, none⟩))).run prog wx_20 = .ok vr0_10 wx_20 /\
 ∃ sr1_0_10 sr1_1_10 sr1_2_10 sr1_3_10 br1_4_10 nr1_5_10 br1_6_10 nr1_7_10 br1_8_10 br1_9_10 nr1_10_10, (qC qd (.pointer (some ⟨k5, 0, none⟩))).run prog wx_20 = .ok (hV sr1_0_10 sr1_1_10 sr1_2_10 sr1_3_10 br1_4_10 nr1_5_10 br1_6_10 nr1_7_10 br1_8_10 br1_9_10 nr1_10_10) wx_20 /\
 K (.tuple #[vr0_10, (hV sr1_0_10 sr1_1_10 sr1_2_10 sr1_3_10 br1_4_10 nr1_5_10 br1_6_10 nr1_7_10 br1_8_10 br1_9_10 nr1_10_10), .bool false]) wx_20) /\
 (∃ s22_0_8 s22_1_8 s22_2_8 s22_3_8 b22_4_8 n22_5_8 b22_6_8 n22_7_8 b22_8_8 b22_9_8 n22_10_8, Ld qd (some ⟨k9, 0, none⟩) (World.drew wx_1) (hV s22_0_8 s22_1_8 s22_2_8 s22_3_8 b22_4_8 n22_5_8 b22_6_8 n22_7_8 b22_8_8 b22_9_8 n22_10_8) /\
 (∃ v21_3, Ld qg (some ⟨k7, 0, none⟩) (World.drew wx_1) v21_3 /\
 (∃ wx_21, Sv qg (some ⟨k4, 0, none⟩) v21_3 (World.drew wx_1) wx_21 /\
 ∃ wx_22, Sv qd (some ⟨k5, 0, none⟩) (hV s22_0_8 s22_1_8 s22_2_8 s22_3_8 b22_4_8 n22_5_8 b22_6_8 n22_7_8 b22_8_8 b22_9_8 n22_10_8) wx_21 wx_22 /\
 ∃ vr0_11, (qC qg (.pointer (some ⟨k4, 0, none⟩))).run prog wx_22 = .ok vr0_11 wx_22 /\
 ∃ sr1_0_11 sr1_1_11 sr1_2_11 sr1_3_11 br1_4_11 nr1_5_11 br1_6_11 nr1_7_11 br1_8_11 br1_9_11 nr1_10_11, (qC qd (.pointer (some ⟨k5, 0, none⟩))).run prog wx_22 = .ok (hV sr1_0_11 sr1_1_11 sr1_2_11 sr1_3_11 br1_4_11 nr1_5_11 br1_6_11 nr1_7_11 br1_8_11 br1_9_11 nr1_10_11) wx_22 /\
 K (.tuple #[vr0_11, (hV sr1_0_11 sr1_1_11 sr1_2_11 sr1_3_11 br1_4_11 nr1_5_11 br1_6_11 nr1_7_11 br1_8_11 br1_9_11 nr1_10_11), .bool false]) wx_22) /\
 ∃ wx_23, Sv qg (some ⟨k4, 0, none⟩) v21_3 (World.drew wx_1) wx_23 /\
 (∃ wx_24, Sv qd (some ⟨k5, 0, none⟩) (hV s22_0_8 s22_1_8 s22_2_8 s22_3_8 b22_4_8 n22_5_8 b22_6_8 n22_7_8 b22_8_8 b22_9_8 n22_10_8) wx_23 wx_24 /\
 ∃ vr0_12, (qC qg (.pointer (some ⟨k4, 0, none⟩))).run prog wx_24 = .ok vr0_12 wx_24 /\
 ∃ sr1_0_12 sr1_1_12 sr1_2_12 sr1_3_12 br1_4_12 nr1_5_12 br1_6_12 nr1_7_12 br1_8_12 br1_9_12 nr1_10_12, (qC qd (.pointer (some ⟨k5, 0, none⟩))).run prog wx_24 = .ok (hV sr1_0_12 sr1_1_12 sr1_2_12 sr1_3_12 br1_4_12 nr1_5_12 br1_6_12 nr1_7_12 br1_8_12 br1_9_12 nr1_10_12) wx_24 /\
 K (.tuple #[vr0_12, (hV sr1_0_12 sr1_1_12 sr1_2_12 sr1_3_12 br1_4_12 nr1_5_12 br1_6_12 nr1_7_12 br1_8_12 br1_9_12 nr1_10_12), .bool false]) wx_24) /\
 ∃ wx_25, Sv qd (some ⟨k5, 0, none⟩) (hV s22_0_8 s22_1_8 s22_2_8 s22_3_8 b22_4_8 n22_5_8 b22_6_8 n22_7_8 b22_8_8 b22_9_8 n22_10_8) wx_23 wx_25 /\
 ∃ vr0_13, (qC qg (.pointer (some ⟨k4, 0, none⟩))).run prog wx_25 = .ok vr0_13 wx_25 /\
 ∃ sr1_0_13 sr1_1_13 sr1_2_13 sr1_3_13 br1_4_13 nr1_5_13 br1_6_13 nr1_7_13 br1_8_13 br1_9_13 nr1_10_13, (qC qd (.pointer (some ⟨k5, 0, none⟩))).run prog wx_25 = .ok (hV sr1_0_13 sr1_1_13 sr1_2_13 sr1_3_13 br1_4_13 nr1_5_13 br1_6_13 nr1_7_13 br1_8_13 br1_9_13 nr1_10_13) wx_25 /\
 K (.tuple #[vr0_13, (hV sr1_0_13 sr1_1_13 sr1_2_13 sr1_3_13 br1_4_13 nr1_5_13 br1_6_13 nr1_7_13 br1_8_13 br1_9_13 nr1_10_13), .bool false]) wx_25) /\
 ∃ v21_4, Ld qg (some ⟨k7, 0, none⟩) (World.drew wx_1) v21_4 /\
 ∃ wx_26, Sv qg (some ⟨k4, 0, none⟩) v21_4 (World.drew wx_1) wx_26 /\
 ∃ wx_27, Sv qd (some ⟨k5, 0, none⟩) (hV s22_0_8 s22_1_8 s22_2_8 s22_3_8 b22_4_8 n22_5_8 b22_6_8 n22_7_8 b22_8_8 b22_9_8 n22_10_8) wx_26 wx_27 /\
 ∃ vr0_14, (qC qg (.pointer (some ⟨k4, 0, none⟩))).run prog wx_27 = .ok vr0_14 wx_27 /\
 ∃ sr1_0_14 sr1_1_14 sr1_2_14 sr1_3_14 br1_4_14 nr1_5_14 br1_6_14 nr1_7_14 br1_8_14 br1_9_14 nr1_10_14, (qC qd (.pointer (some ⟨k5, 0, none⟩))).run prog wx_27 = .ok (hV sr1_0_14 sr1_1_14 sr1_2_14 sr1_3_14 br1_4_14 nr1_5_14 br1_6_14 nr1_7_14 br1_8_14 br1_9_14 nr1_10_14) wx_27 /\
 K (.tuple #[vr0_14, (hV sr1_0_14 sr1_1_14 sr1_2_14 sr1_3_14 br1_4_14 nr1_5_14 br1_6_14 nr1_7_14 br1_8_14 br1_9_14 nr1_10_14), .bool false]) wx_27) /\
 (∃ v21_5, Ld qg (some ⟨k7, 0, none⟩) (World.drew wx_1) v21_5 /\
 (∃ s22_0_9 s22_1_9 s22_2_9 s22_3_9 b22_4_9 n22_5_9 b22_6_9 n22_7_9 b22_8_9 b22_9_9 n22_10_9, Ld qd (some ⟨k9, 0, none⟩) (World.drew wx_1) (hV s22_0_9 s22_1_9 s22_2_9 s22_3_9 b22_4_9 n22_5_9 b22_6_9 n22_7_9 b22_8_9 b22_9_9 n22_10_9) /\
 ∃ wx_28, Sv qg (some ⟨k4, 0, none⟩) v21_5 (World.drew wx_1) wx_28 /\
 ∃ wx_29, Sv qd (some ⟨k5, 0, none⟩) (hV s22_0_9 s22_1_9 s22_2_9 s22_3_9 b22_4_9 n22_5_9 b22_6_9 n22_7_9 b22_8_9 b22_9_9 n22_10_9) wx_28 wx_29 /\
 ∃ vr0_15, (qC qg (.pointer (some ⟨k4, 0, none⟩))).run prog wx_29 = .ok vr0_15 wx_29 /\
 ∃ sr1_0_15 sr1_1_15 sr1_2_15 sr1_3_15 br1_4_15 nr1_5_15 br1_6_15 nr1_7_15 br1_8_15 br1_9_15 nr1_10_15, (qC qd (.pointer (some ⟨k5, 0, none⟩))).run prog wx_29 = .ok (hV sr1_0_15 sr1_1_15 sr1_2_15 sr1_3_15 br1_4_15 nr1_5_15 br1_6_15 nr1_7_15 br1_8_15 br1_9_15 nr1_10_15) wx_29 /\
 K (.tuple #[vr0_15, (hV sr1_0_15 sr1_1_15 sr1_2_15 sr1_3_15 br1_4_15 nr1_5_15 br1_6_15 nr1_7_15 br1_8_15 br1_9_15 nr1_10_15), .bool false]) wx_29) /\
 ∃ wx_30, Sv qg (some ⟨k4, 0, none⟩) v21_5 (World.drew wx_1) wx_30 /\
 ∃ s22_0_10 s22_1_10 s22_2_10 s22_3_10 b22_4_10 n22_5_10 b22_6_10 n22_7_10 b22_8_10 b22_9_10 n22_10_10, Ld qd (some ⟨k9, 0, none⟩) wx_30 (hV s22_0_10 s22_1_10 s22_2_10 s22_3_10 b22_4_10 n22_5_10 b22_6_10 n22_7_10 b22_8_10 b22_9_10 n22_10_10) /\
 ∃ wx_31, Sv qd (some ⟨k5, 0, none⟩) (hV s22_0_10 s22_1_10 s22_2_10 s22_3_10 b22_4_10 n22_5_10 b22_6_10 n22_7_10 b22_8_10 b22_9_10 n22_10_10) wx_30 wx_31 /\
 ∃ vr0_16, (qC qg (.pointer (some ⟨k4, 0, none⟩))).run prog wx_31 = .ok vr0_16 wx_31 /\
 ∃ sr1_0_16 sr1_1_16 sr1_2_16 sr1_3_16 br1_4_16 nr1_5_16 br1_6_16 nr1_7_16 br1_8_16 br1_9_16 nr1_10_16, (qC qd (.pointer (some ⟨k5, 0, none⟩))).run prog wx_31 = .ok (hV sr1_0_16 sr1_1_16 sr1_2_16 sr1_3_16 br1_4_16 nr1_5_16 br1_6_16 nr1_7_16 br1_8_16 br1_9_16 nr1_10_16) wx_31 /\
 K (.tuple #[vr0_16, (hV sr1_0_16 sr1_1_16 sr1_2_16 sr1_3_16 br1_4_16 nr1_5_16 br1_6_16 nr1_7_16 br1_8_16 br1_9_16 nr1_10_16), .bool false]) wx_31) /\
 ∃ s22_0_11 s22_1_11 s22_2_11 s22_3_11 b22_4_11 n22_5_11 b22_6_11 n22_7_11 b22_8_11 b22_9_11 n22_10_11, Ld qd (some ⟨k9, 0, none⟩) (World.drew wx_1) (hV s22_0_11 s22_1_11 s22_2_11 s22_3_11 b22_4_11 n22_5_11 b22_6_11 n22_7_11 b22_8_11 b22_9_11 n22_10_11) /\
 ∃ v21_6, Ld qg (some ⟨k7, 0, none⟩) (World.drew wx_1) v21_6 /\
 ∃ wx_32, Sv qg (some ⟨k4, 0, none⟩) v21_6 (World.drew wx_1) wx_32 /\
 ∃ wx_33, Sv qd (some ⟨k5, 0, none⟩) (hV s22_0_11 s22_1_11 s22_2_11 s22_3_11 b22_4_11 n22_5_11 b22_6_11 n22_7_11 b22_8_11 b22_9_11 n22_10_11) wx_32 wx_33 /\
 ∃ vr0_17, (qC qg (.pointer (some ⟨k4, 0, none⟩))).run prog wx_33 = .ok vr0_17 wx_33 /\
 ∃ sr1_0_17 sr1_1_17 sr1_2_17 sr1_3_17 br1_4_17 nr1_5_17 br1_6_17 nr1_7_17 br1_8_17 br1_9_17 nr1_10_17, (qC qd (.pointer (some ⟨k5, 0, none⟩))).run prog wx_33 = .ok (hV sr1_0_17 sr1_1_17 sr1_2_17 sr1_3_17 br1_4_17 nr1_5_17 br1_6_17 nr1_7_17 br1_8_17 br1_9_17 nr1_10_17) wx_33 /\
 K (.tuple #[vr0_17, (hV sr1_0_17 sr1_1_17 sr1_2_17 sr1_3_17 br1_4_17 nr1_5_17 br1_6_17 nr1_7_17 br1_8_17 br1_9_17 nr1_10_17), .bool false]) wx_33)
theorem qmE (s0 : List UInt8) (s1 : List UInt8) {w : World} {K : Value -> World -> Prop} (h : qjz s0 s1 w K) : Calls prog qae #[.string (mkS s0), .string (mkS s1)] w (Ret K) :=
 qo (c := qr Tryz.f36) (by kernel_rfl) Tryz.func36 (by kernel_rfl) [] [.string (mkS s0), .string (mkS s1)] (of_decide_eq_true (by kernel_rfl)) _ (by kernel_rfl) h

--  cracknel/cracknellaw10.few
def qeh  (w : World) (K : Value -> World -> Prop) : Prop :=
 Calls prog qp #[.slice none 0 0] w fun e12 w12 => ∃ p12, e12 = .returned (.pointer p12) /\
 Calls prog qae #[.string (mkS [104, 116, 116, 112, 115, 58, 47, 47, 120, 46, 99, 111, 109]), .string (mkS [95, 95, 72, 111, 115, 116, 45, 97, 61, 98, 59, 32, 83, 101, 99, 117, 114, 101, 59, 32, 80, 97, 116, 104, 61, 47])] w12 fun e14 w14 => ∃ v14_0 s14_1_0 s14_1_1 s14_1_2 s14_1_3 b14_1_4 n14_1_5 b14_1_6 n14_1_7 b14_1_8 b14_1_9 n14_1_10 b14_2, e14 = .returned (.tuple #[v14_0, (hV s14_1_0 s14_1_1 s14_1_2 s14_1_3 b14_1_4 n14_1_5 b14_1_6 n14_1_7 b14_1_8 b14_1_9 n14_1_10), .bool b14_2]) /\
 ∀ k2 w2, k2 = w14.heap.size -> w2 = w14.alloc (.cells z7 qg) ->
 ∀ k3 w3, k3 = w2.heap.size -> w3 = w2.alloc (.cells #[.string (mkS []), .string (mkS []), .string (mkS []), .string (mkS []), .bool false, .int .i64 (0 : Int), .bool false, .int .i64 (0 : Int), .bool false, .bool false, .int .i64 (0 : Int)] qd) ->
 ∃ wx, Sv qg (some ⟨k2, 0, none⟩) v14_0 w3 wx /\
 ∃ wx_1, Sv qd (some ⟨k3, 0, none⟩) (hV s14_1_0 s14_1_1 s14_1_2 s14_1_3 b14_1_4 n14_1_5 b14_1_6 n14_1_7 b14_1_8 b14_1_9 n14_1_10) wx wx_1 /\
 Calls prog qae #[.string (mkS [104, 116, 116, 112, 115, 58, 47, 47, 120, 46, 99, 111, 109]), .string (mkS [95, 95, 72, 111, 115, 116, 45, 97, 61, 98, 59, 32, 83, 101, 99, 117, 114, 101, 59, 32, 80, 97, 116, 104, 61, 47, 59, 32, 68, 111, 109, 97, 105, 110, 61, 120, 46, 99, 111, 109])] wx_1 fun e19 w19 => ∃ v19_0 s19_1_0 s19_1_1 s19_1_2 s19_1_3 b19_1_4 n19_1_5 b19_1_6 n19_1_7 b19_1_8 b19_1_9 n19_1_10 b19_2, e19 = .returned (.tuple #[v19_0, (hV s19_1_0 s19_1_1 s19_1_2 s19_1_3 b19_1_4 n19_1_5 b19_1_6 n19_1_7 b19_1_8 b19_1_9 n19_1_10), .bool b19_2]) /\
 ∀ k5 w5, k5 = w19.heap.size -> w5 = w19.alloc (.cells z7 qg) ->
 ∀ k6 w6, k6 = w5.heap.size -> w6 = w5.alloc (.cells #[.string (mkS []), .string (mkS []), .string (mkS []), .string (mkS []), .bool false, .int .i64 (0 : Int), .bool false, .int .i64 (0 : Int), .bool false, .bool false, .int .i64 (0 : Int)] qd) ->
 ∃ wx_2, Sv qg (some ⟨k5, 0, none⟩) v19_0 w6 wx_2 /\
 ∃ wx_3, Sv qd (some ⟨k6, 0, none⟩) (hV s19_1_0 s19_1_1 s19_1_2 s19_1_3 b19_1_4 n19_1_5 b19_1_6 n19_1_7 b19_1_8 b19_1_9 n19_1_10) wx_2 wx_3 /\
 ∃ v25, Ld qg (some ⟨k2, 0, none⟩) wx_3 v25 /\
 ∃ s26_0 s26_1 s26_2 s26_3 b26_4 n26_5 b26_6 n26_7 b26_8 b26_9 n26_10, Ld qd (some ⟨k3, 0, none⟩) wx_3 (hV s26_0 s26_1 s26_2 s26_3 b26_4 n26_5 b26_6 n26_7 b26_8 b26_9 n26_10) /\
 Calls prog qh #[.pointer p12, v25, (hV s26_0 s26_1 s26_2 s26_3 b26_4 n26_5 b26_6 n26_7 b26_8 b26_9 n26_10), .int .i64 (5 : Int)] wx_3 fun e27 w27 => ∃ v27_0 n27_1, e27 = .returned (.tuple #[v27_0, .int .i64 n27_1]) /\
 ∀ k8 w8, k8 = w27.heap.size -> w8 = w27.alloc (.cells qj qa) ->
 ∃ wx_4, Sv qa (some ⟨k8, 0, none⟩) v27_0 w8 wx_4 /\
 ∃ v32, Ld qg (some ⟨k2, 0, none⟩) wx_4 v32 /\
 ∃ s33_0 s33_1 s33_2 s33_3 b33_4 n33_5 b33_6 n33_7 b33_8 b33_9 n33_10, Ld qd (some ⟨k6, 0, none⟩) wx_4 (hV s33_0 s33_1 s33_2 s33_3 b33_4 n33_5 b33_6 n33_7 b33_8 b33_9 n33_10) /\
 Calls prog qh #[.pointer p12, v32, (hV s33_0 s33_1 s33_2 s33_3 b33_4 n33_5 b33_6 n33_7 b33_8 b33_9 n33_10), .int .i64 (5 : Int)] wx_4 fun e34 w34 => ∃ v34_0 n34_1, e34 = .returned (.tuple #[v34_0, .int .i64 n34_1]) /\
 ∀ k10 w10, k10 = w34.heap.size -> w10 = w34.alloc (.cells qj qa) ->
 ∃ wx_5, Sv qa (some ⟨k10, 0, none⟩) v34_0 w10 wx_5 /\
 BCase (n27_1 == (0 : Int))
 (∃ v40, Ld qa (some ⟨k8, 0, none⟩) wx_5 v40 /\
 (true = true) /\
 ∃ v42, Ld qc (some ⟨k2, 1, none⟩) wx_5 v42 /\
 ∃ v43, (Instr.build qa #[(0, .string (mkS [95, 95, 72, 111, 115, 116, 45, 97])), (1, .string (mkS [98])), (2, v42), (3, .bool true), (4, .string (mkS [47])), (5, .bool true), (8, .int .i64 (9223372036854775807 : Int)), (9, .int .i64 (5 : Int)), (10, .int .i64 (5 : Int))]).run prog wx_5 = .ok v43 wx_5 /\
 ∃ b44, ((do eqGuard .eql qa (.tmp 40) (.tmp 43) v40 v43; binOp .eql qa v40 v43 : Sem Value)).run prog wx_5 = .ok (.bool b44) wx_5 /\
 BCase b44
 (K (.bool (n34_1 == (106 : Int))) wx_5)
 (K (.bool false) wx_5))
 (K (.bool false) wx_5)
theorem qhn  {w : World} {K : Value -> World -> Prop} (h : qeh  w K) : Calls prog zT #[] w (Ret K) :=
 qo (c := qr Tryz.f34) (by kernel_rfl) Tryz.func34 (by kernel_rfl) [] [] (of_decide_eq_true (by kernel_rfl)) _ (by kernel_rfl) h
end Go.Proofs.YtndbpedpdbjkpaaGreatDoor
set_option maxRecDepth 20000
namespace Go.Pk
open Go.RowKit (Below)
def okB2 (s t : List UInt8) : Bool := ((urlV s).2 == 0) && ((qM t).2 == 0)
structure BoS (w0 : World) (tu th : TypeId) (k4 k5 k7 k9 : Nat) (u : Url) (h : Hdr) (x y : Bool) (w : World) : Prop where
 h4 : qm w k4 tu (if x = true then u else url0).cells
 h5 : qm w k5 th (if y = true then h else hdr0).cells
 h7 : qm w k7 tu u.cells
 h9 : qm w k9 th h.cells
 hb : Below w0.heap.size w0 w
 n45 : k4 ≠ k5
 n47 : k4 ≠ k7
 n49 : k4 ≠ k9
 n57 : k5 ≠ k7
 n59 : k5 ≠ k9
 p4 : w0.heap.size <= k4
 p5 : w0.heap.size <= k5
 ou : u.ok
theorem BoS.below {w0 : World} {tu th : TypeId} {k4 k5 k7 k9 : Nat} {u : Url} {h : Hdr} {x y : Bool} {w w' : World} (S : BoS w0 tu th k4 k5 k7 k9 u h x y w) (hb : Below w.heap.size w w') : BoS w0 tu th k4 k5 k7 k9 u h x y w' :=
 ⟨S.h4.below hb, S.h5.below hb, S.h7.below hb, S.h9.below hb, qb S.hb hb S.hb.size, S.n45, S.n47, S.n49, S.n57, S.n59, S.p4, S.p5, S.ou⟩
def qrA (c d : Cky) : Bool := (c.name == d.name) && ((c.value == d.value) && (j8 c.host d.host && ((c.only == d.only) && ((c.path == d.path) && ((c.sec == d.sec) && ((c.http == d.http) && ((c.same == d.same) && ((c.exp == d.exp) && ((c.born == d.born) && ((c.used == d.used) && ((c.seq == d.seq) && true)))))))))))
theorem qe0 {c : Cky} (o : c.ok) : qrA c c = true := by
 have := (j7 o o).2 rfl
 unfold qrA
 simp [this]
end Go.Pk
namespace Go.Proofs.YtndbpedpdbjkpaaGreatDoor
open Go.Pk
open Go.RowKit (Below)
theorem qrW {c d : Cky} (o : c.ok) (p : d.ok) : eqV prog 10000 qa c.v d.v = some (qrA c d) := by
 obtain ⟨a1, a2, ⟨k, n, a⟩, a4, a5, a6, a7, a8, a9, a10, a11, a12⟩ := c
 obtain ⟨b1, b2, ⟨k', n', b⟩, b4, b5, b6, b7, b8, b9, b10, b11, b12⟩ := d
 obtain ⟨x0, x1, x2, x3, x4, x5, x6, x7, x8, x9, x10, x11, x12, x13, x14, x15, rfl⟩ := qi4 a o
 obtain ⟨y0, y1, y2, y3, y4, y5, y6, y7, y8, y9, y10, y11, y12, y13, y14, y15, rfl⟩ := qi4 b p
 kernel_rfl
theorem qpt : prog.eqGuardType prog.depth qa = false := by kernel_rfl
theorem qqt {c d : Cky} (o : c.ok) (p : d.ok) {x y : Operand} (w : World) : ((do eqGuard .eql qa x y c.v d.v; binOp .eql qa c.v d.v : Sem Value)).run prog w = .ok (.bool (qrA c d)) w :=
 qqz qpt (qrW o p) w
section
variable {w0 : World} {k4 k5 k7 k9 : Nat} {u : Url} {h : Hdr} {x y : Bool} {w : World}
theorem bo_u (S : BoS w0 qg qd k4 k5 k7 k9 u h x y w) : (Instr.loadAt qg (.pointer (some ⟨k7, 0, none⟩))).run prog w = .ok u.v w := qas.load0 S.h7 (Url.len S.ou)
theorem bo_h (S : BoS w0 qg qd k4 k5 k7 k9 u h x y w) : (Instr.loadAt qd (.pointer (some ⟨k9, 0, none⟩))).run prog w = .ok h.v w := zo h S.h9
theorem bo_su (S : BoS w0 qg qd k4 k5 k7 k9 u h x y w) {R : World -> Prop} (H : ∀ wx, BoS w0 qg qd k4 k5 k7 k9 u h true y wx -> R wx) : ∃ wx, (Instr.storeAt qg (.pointer (some ⟨k4, 0, none⟩)) u.v).run prog w = .ok () wx /\ R wx := by
 obtain ⟨wx, hs, ha, hg⟩ := qas.store0 (Url.len S.ou) (Url.one u) S.h4 (Url.len (by split; exact S.ou; rfl))
 exact ⟨wx, hs, H wx ⟨ha, S.h5.grown hg (qP S.n45.symm), S.h7.grown hg (qP S.n47.symm), S.h9.grown hg (qP S.n49.symm), Below.put S.hb hg S.p4, S.n45, S.n47, S.n49, S.n57, S.n59, S.p4, S.p5, S.ou⟩⟩
theorem bo_sh (S : BoS w0 qg qd k4 k5 k7 k9 u h x y w) {R : World -> Prop} (H : ∀ wx, BoS w0 qg qd k4 k5 k7 k9 u h x true wx -> R wx) : ∃ wx, (Instr.storeAt qd (.pointer (some ⟨k5, 0, none⟩)) h.v).run prog w = .ok () wx /\ R wx := by
 obtain ⟨wx, hs, ha, hg⟩ := qbR h S.h5 rfl
 exact ⟨wx, hs, H wx ⟨S.h4.grown hg (qP S.n45), ha, S.h7.grown hg (qP S.n57.symm), S.h9.grown hg (qP S.n59.symm), Below.put S.hb hg S.p5, S.n45, S.n47, S.n49, S.n57, S.n59, S.p4, S.p5, S.ou⟩⟩
end
def qqq (s t : List UInt8) (w : World) (v : Value) (w' : World) : Prop := v = .tuple #[(urlV s).1.v, (qM t).1.v, .bool (okB2 s t)] /\ Below w.heap.size w w'
theorem qaC (s t : List UInt8) (hs : s.length <= 90000000) (ht : t.length <= 10000000) (w : World) : Calls prog qae #[.string (mkS s), .string (mkS t)] w (Ret (qqq s t w)) := by
 apply qmE
 unfold qjz
 intro k4 w4 hk4 hw4
 have hB4 := (hw4 ▸ qf w _ : Below w.heap.size w w4)
 have h4 : qm w4 k4 qg url0.cells := qm.new hk4 hw4
 intro k5 w5 hk5 hw5
 have hb5 := (hw5 ▸ qf w4 _ : Below w4.heap.size w4 w5)
 have hB5 := qb hB4 hb5 hB4.size
 have h5 : qm w5 k5 qd hdr0.cells := qm.new hk5 hw5
 refine callK (qm1 s hs w5) ?_
 rintro _ w6 ⟨rfl, hb6⟩
 have hB6 := qb hB5 hb6 hB5.size
 have ou := urlV_ok s
 unfold urlT
 refine ⟨_, _, rfl, ?_⟩
 refine qas.new (zs := url0.cells) (cs := (urlV s).1.cells) rfl (Url.len ou) (Url.one _) w6 fun k7 w7 hk7 h7 hb7 => ?_
 have hB7 := qb hB6 hb7 hB6.size
 refine callK (qeT t ht w7) ?_
 rintro _ w8 ⟨rfl, hb8⟩
 have hB8 := qb hB7 hb8 hB7.size
 refine ⟨_, _, _, _, _, _, _, _, _, _, _, _, rfl, ?_⟩
 refine qoB (qM t).1 w8 fun k9 w9 hk9 h9 hb9 => ?_
 have h45 := h4.below hb5
 have s5 := hb5.size; have s6 := hb6.size; have s7 := hb7.size; have s8 := hb8.size
 have l4 := h4.lt
 have l5 := h5.lt
 have l7 := h7.lt
 have S : BoS w qg qd k4 k5 k7 k9 (urlV s).1 (qM t).1 false false (World.drew w9) :=
   BoS.below ⟨(((h45.below hb6).below hb7).below hb8).below hb9, ((h5.below hb6).below hb7 |>.below hb8).below hb9, (h7.below hb8).below hb9, h9, qb hB8 hb9 hB8.size, by omega, by omega, by omega, by omega, by omega, by omega, by have := hB4.size; omega, ou⟩ (zV w9)
 clear h4 h5 h7 h9 h45 hB4 hB5 hB6 hB7 hB8 hb5 hb6 hb7 hb8 hb9 hk4 hk5 hk7 hk9 hw4 hw5 s5 s6 s7 s8 l4 l5 l7
 have fin : ∀ {wx : World} {b : Bool}, b = okB2 s t -> BoS w qg qd k4 k5 k7 k9 (urlV s).1 (qM t).1 true true wx -> ∃ vr : Value, (qC qg (.pointer (some ⟨k4, 0, none⟩))).run prog wx = .ok vr wx /\
     ∃ (s0 : List UInt8) (s1 : List UInt8) (s2 : List UInt8) (s3 : List UInt8) (b4 : Bool) (n5 : Int) (b6 : Bool) (n7 : Int) (b8 : Bool) (b9 : Bool) (n10 : Int),
       (qC qd (.pointer (some ⟨k5, 0, none⟩))).run prog wx = .ok (.agg #[.string (mkS s0), .string (mkS s1), .string (mkS s2), .string (mkS s3), .bool b4, .int .i64 n5, .bool b6, .int .i64 n7, .bool b8, .bool b9, .int .i64 n10]) wx /\
       qqq s t w (.tuple #[vr, .agg #[.string (mkS s0), .string (mkS s1), .string (mkS s2), .string (mkS s3), .bool b4, .int .i64 n5, .bool b6, .int .i64 n7, .bool b8, .bool b9, .int .i64 n10], .bool b]) wx := fun {wx b} hb S =>
   ⟨_, qm.res (qas.load0 S.h4 (Url.len S.ou)), _, _, _, _, _, _, _, _, _, _, _, qm.res (zo _ S.h5), by rw [hb]; rfl, S.hb⟩
 refine BCase.of (fun c => ?_) (fun c => ?_)
 · have hb : ((qM t).2 == 0) = okB2 s t := by unfold okB2; rw [show ((urlV s).2 == 0) = true from c]; rfl
   repeat' (first
     | exact fin hb (by assumption)
     | refine And.intro ?_ ?_
     | (refine bo_su (by assumption) ?_; intro wx hS)
     | (refine bo_sh (by assumption) ?_; intro wx hS)
     | refine Exists.intro _ (And.intro (bo_u (by assumption)) ?_)
     | refine ⟨_, _, _, _, _, _, _, _, _, _, _, bo_h (by assumption), ?_⟩)
 · have hb : false = okB2 s t := by unfold okB2; rw [show ((urlV s).2 == 0) = false from c]; rfl
   repeat' (first
     | exact fin hb (by assumption)
     | refine And.intro ?_ ?_
     | (refine bo_su (by assumption) ?_; intro wx hS)
     | (refine bo_sh (by assumption) ?_; intro wx hS)
     | refine Exists.intro _ (And.intro (bo_u (by assumption)) ?_)
     | refine ⟨_, _, _, _, _, _, _, _, _, _, _, bo_h (by assumption), ?_⟩)
end Go.Proofs.YtndbpedpdbjkpaaGreatDoor
