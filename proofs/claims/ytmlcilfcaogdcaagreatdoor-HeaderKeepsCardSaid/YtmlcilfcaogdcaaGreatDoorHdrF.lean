/- Contract of the document's Parse. Its conditions: none. -/
import Derived.Test.YtmlcilfcaogdcaaGreatDoorHdrE
set_option linter.unusedVariables false
set_option linter.unusedSimpArgs false
set_option maxRecDepth 20000
namespace Go.Pk
open Go.RowKit (Below)
abbrev kE : List UInt8 := [101, 120, 112, 105, 114, 101, 115]
abbrev kA : List UInt8 := [109, 97, 120, 45, 97, 103, 101]
abbrev kD : List UInt8 := [100, 111, 109, 97, 105, 110]
abbrev kP : List UInt8 := [112, 97, 116, 104]
abbrev kS : List UInt8 := [115, 101, 99, 117, 114, 101]
abbrev kH : List UInt8 := [104, 116, 116, 112, 111, 110, 108, 121]
abbrev kM : List UInt8 := [115, 97, 109, 101, 115, 105, 116, 101]
def a1 (key v : List UInt8) (h : Hdr) : Hdr := if key = kE then (if cookP (toldV v) then { h with hasE := true, exp := cookN (toldV v) } else h) else h
def a2 (key v : List UInt8) (h : Hdr) : Hdr := if key = kA then (match ageV v with | some n => { h with hasA := true, age := n } | none => h) else h
def a3 (key v : List UInt8) (h : Hdr) : Hdr := if key = kD then { h with domain := lowL (if v.head? = some 46 then v.drop 1 else v) } else h
def a4 (key v : List UInt8) (h : Hdr) : Hdr := if key = kP then { h with path := if v.head? = some 47 then v else [] } else h
def a5 (key : List UInt8) (h : Hdr) : Hdr := if key = kS then { h with sec := true } else h
def a6 (key : List UInt8) (h : Hdr) : Hdr := if key = kH then { h with http := true } else h
def a7 (key v : List UInt8) (h : Hdr) : Hdr := if key = kM then { h with same := sameN v } else h
theorem attr_seq (key v : List UInt8) (h : Hdr) : a7 key v (a6 key (a5 key (a4 key v (a3 key v (a2 key v (a1 key v h)))))) = attrV h key v := by
  unfold attrV a7 a6 a5 a4 a3 a2 a1
  by_cases h1 : key = kE
  · have g2 : ¬ key = kA := by rw [h1]; decide
    have g3 : ¬ key = kD := by rw [h1]; decide
    have g4 : ¬ key = kP := by rw [h1]; decide
    have g5 : ¬ key = kS := by rw [h1]; decide
    have g6 : ¬ key = kH := by rw [h1]; decide
    have g7 : ¬ key = kM := by rw [h1]; decide
    simp only [if_neg g2, if_neg g3, if_neg g4, if_neg g5, if_neg g6, if_neg g7, if_pos h1]
  by_cases h2 : key = kA
  · have g3 : ¬ key = kD := by rw [h2]; decide
    have g4 : ¬ key = kP := by rw [h2]; decide
    have g5 : ¬ key = kS := by rw [h2]; decide
    have g6 : ¬ key = kH := by rw [h2]; decide
    have g7 : ¬ key = kM := by rw [h2]; decide
    simp only [if_neg g3, if_neg g4, if_neg g5, if_neg g6, if_neg g7, if_neg h1, if_pos h2]
    cases ageV v <;> rfl
  by_cases h3 : key = kD
  · have g4 : ¬ key = kP := by rw [h3]; decide
    have g5 : ¬ key = kS := by rw [h3]; decide
    have g6 : ¬ key = kH := by rw [h3]; decide
    have g7 : ¬ key = kM := by rw [h3]; decide
    simp only [if_neg g4, if_neg g5, if_neg g6, if_neg g7, if_neg h1, if_neg h2, if_pos h3]
  by_cases h4 : key = kP
  · have g5 : ¬ key = kS := by rw [h4]; decide
    have g6 : ¬ key = kH := by rw [h4]; decide
    have g7 : ¬ key = kM := by rw [h4]; decide
    simp only [if_neg g5, if_neg g6, if_neg g7, if_neg h1, if_neg h2, if_neg h3, if_pos h4]
  by_cases h5 : key = kS
  · have g6 : ¬ key = kH := by rw [h5]; decide
    have g7 : ¬ key = kM := by rw [h5]; decide
    simp only [if_neg g6, if_neg g7, if_neg h1, if_neg h2, if_neg h3, if_neg h4, if_pos h5]
  by_cases h6 : key = kH
  · have g7 : ¬ key = kM := by rw [h6]; decide
    simp only [if_neg g7, if_neg h1, if_neg h2, if_neg h3, if_neg h4, if_neg h5, if_pos h6]
  by_cases h7 : key = kM
  · simp only [if_neg h1, if_neg h2, if_neg h3, if_neg h4, if_neg h5, if_neg h6, if_pos h7]
  simp only [if_neg h1, if_neg h2, if_neg h3, if_neg h4, if_neg h5, if_neg h6, if_neg h7]
theorem low_head (v : List UInt8) : (lowL v).head? = some 46 ↔ v.head? = some 46 := by
  cases v with
  | nil => simp [lowL]
  | cons c r =>
    have h : ∀ n, n < 256 → (lowC (UInt8.ofNat n) = 46 ↔ UInt8.ofNat n = 46) := by decide +kernel
    have := h c.toNat (by have := c.toNat_lt; omega)
    rw [UInt8.ofNat_toNat] at this
    simpa [lowL] using this
theorem low_drop (v : List UInt8) (k : Nat) : (lowL v).drop k = lowL (v.drop k) := by unfold lowL; rw [List.map_drop]
theorem low_len (v : List UInt8) : (lowL v).length = v.length := by simp [lowL]
/-- what the loop over the attributes holds -/
structure Stg (w0 : World) (t ts : TypeId) (k6 k2 : Nat) (a : Option Addr) (n c : Nat) (L : List (List UInt8)) (h : Hdr) (w : World) : Prop where
  hh : ArrAt w k6 t h.cells
  h2 : ArrAt w k2 t hdr0.cells
  ho : Ow tS ts w NoB a n c L
  hb : Below w0.heap.size w0 w
  hne : k2 ≠ k6
  hog : ∀ g, ownB a = some g → g ≠ k6
  hk6 : w0.heap.size ≤ k6
theorem Stg.below {w0 : World} {t ts : TypeId} {k6 k2 : Nat} {a : Option Addr} {n c : Nat} {L : List (List UInt8)} {h : Hdr} {w w' : World} (S : Stg w0 t ts k6 k2 a n c L h w) (hb : Below w.heap.size w w') : Stg w0 t ts k6 k2 a n c L h w' :=
  ⟨S.hh.below hb, S.h2.below hb, S.ho.below hb, below_step S.hb hb S.hb.size, S.hne, S.hog, S.hk6⟩
theorem Stg.put {P : Program} {u : TypeId} {bytes : Nat} {z : Value} (tf : TF P u 1 bytes z) {w0 : World} {t ts : TypeId} {k6 k2 : Nat} {a : Option Addr} {n c : Nat} {L : List (List UInt8)} {h h' : Hdr} {w : World} (S : Stg w0 t ts k6 k2 a n c L h w)
    {i : Nat} {v : Value} (hi : i < 11) (h1 : v.oneCell' = true) (hc : v.cells = #[v]) (e : h'.cells = h.cells.set i v) :
    ∃ wx, (Instr.storeAt u (.pointer (some ⟨k6, i, none⟩)) v).run P w = .ok () wx ∧ Stg w0 t ts k6 k2 a n c L h' wx := by
  obtain ⟨wx, hs, ha, hg⟩ := S.hh.put tf (i := i) (v := v) (by simpa [Hdr.cells] using hi) h1 hc
  refine ⟨wx, hs, e ▸ ha, S.h2.grown hg (fun e => S.hne (Option.some.inj e)), S.ho.keep (grown_keep hg fun b hb e => ?_), S.hb.grown hg S.hb.size (fun x e => by cases e; exact S.hk6), S.hne, S.hog, S.hk6⟩
  rcases hb with hb | hb
  · exact hb
  · exact S.hog b hb.symm (Option.some.inj e)
theorem Stg.get {P : Program} {u : TypeId} {d : TypeDesc} (hu : P.underlying u = some d) (ha : aggD d = false) {w0 : World} {t ts : TypeId} {k6 k2 : Nat} {a : Option Addr} {n c : Nat} {L : List (List UInt8)} {h : Hdr} {w : World} (S : Stg w0 t ts k6 k2 a n c L h w)
    {i : Nat} {v : Value} (hv : h.cells[i]? = some v) : (Instr.loadAt u (.pointer (some ⟨k6, i, none⟩))).run P w = .ok v w := S.hh.load1 hu ha hv
end Go.Pk
namespace Go.Proofs.YtmlcilfcaogdcaaGreatDoor
open Go.Pk
open Go.RowKit (Below)
theorem ref08_Parse_ok (s : List UInt8) (hs : s.length ≤ 100000) (w : World) : Calls Tryz.prog f_ref08_Parse #[.string (mkS s)] w (Ret (ParsePost s w)) := by
  apply run_ref08_Parse
  unfold vc_ref08_Parse
  intro k2 w2 hk2 hw2
  have hB2 := (hw2 ▸ below_alloc w _ : Below w.heap.size w w2)
  have ha2 : ArrAt w2 k2 T_api_Header hdr0.cells := ArrAt.new hk2 hw2
  have hk2w : w.heap.size ≤ k2 := by omega
  have hs2 : w2.heap.size = w.heap.size + 1 := by rw [hw2]; simp
  have post : ∀ {h : Hdr} {e : Int}, parseH s = (h, e) → ∀ wx, Below w.heap.size w wx → ParsePost s w (.tuple #[h.v, .int .i64 e]) wx := fun hp wx hb => ⟨by rw [hp], hb⟩
  refine ⟨fun m i w' => ∃ k : Nat, k ≤ s.length ∧ i = (k : Int) ∧ m = s.length - k ∧ (s.take k).any isCtl = false ∧ w' = w2, ⟨_, 0, by omega, rfl, rfl, rfl, rfl⟩, ?_⟩
  intro m i
  refine AllJ.of ?_ _
  rintro w' ⟨k, hk, rfl, rfl, hno, rfl⟩
  refine BCase.of (fun h => ?_) (fun h => ?_) <;> simp only [decide_eq_true_eq, decide_eq_false_iff_not] at h
  · have hlt : k < s.length := by omega
    have hin : (0 ≤ (k : Int) ∧ (k : Int) < ((s.length : Nat) : Int)) := ⟨by omega, h⟩
    rw [byte_at hlt]
    have e9 := u8_eq s[k] 9
    have e127 := u8_eq s[k] 127
    have e127' : ((((s[k].toNat : Nat) : Int)) == (127 : Int)) = (s[k] == 127) := e127
    have hctl : isCtl s[k] = ((decide (((s[k].toNat : Nat) : Int) ≤ 8) || (decide (((s[k].toNat : Nat) : Int) ≥ 10) && decide (((s[k].toNat : Nat) : Int) ≤ 31))) || (s[k] == 127)) := by
      unfold isCtl
      congr 1
      rw [← e9, Bool.eq_iff_iff]
      simp only [Bool.and_eq_true, Bool.or_eq_true, decide_eq_true_eq, Bool.not_eq_true', beq_eq_false_iff_ne]
      have : ((UInt8.toNat 9 : Nat) : Int) = 9 := rfl
      rw [this]
      omega
    refine boolJ (w := w') (isCtl s[k]) ?_ ?_
    · rw [hctl]
      refine ⟨hin, BCase.of (fun h2 => ?_) (fun h2 => ?_)⟩
      · exact ⟨rfl, by rw [h2]; rfl⟩
      · refine ⟨hin, BCase.of (fun h3 => ?_) (fun h3 => ?_)⟩
        · refine ⟨hin, BCase.of (fun h4 => ?_) (fun h4 => ?_)⟩
          · exact ⟨rfl, by rw [h2, h3, h4]; rfl⟩
          · exact ⟨hin, rfl, by rw [h2, h3, h4, e127']; rfl⟩
        · exact ⟨hin, rfl, by rw [h2, h3, e127']; rfl⟩
    · refine BCase.of (fun h2 => ?_) (fun h2 => ?_)
      · refine hdr_end hdr0 ha2 rfl hB2 hk2w (post ?_)
        have : s.any isCtl = true := List.any_eq_true.2 ⟨_, List.getElem_mem hlt, h2⟩
        unfold parseH; rw [if_pos this]
      · exact ⟨s.length - (k + 1), by omega, k + 1, by omega, by rw [wrap_i64 (by omega) (by omega)]; omega, rfl, by rw [List.take_succ_eq_append_getElem hlt, List.any_append, hno]; simp [h2], rfl⟩
  · have : k = s.length := by omega
    subst this
    rw [List.take_length] at hno
    have h1' : ¬ s.any isCtl = true := by rw [hno]; decide
    clear hno hk h
    refine callK (ref01_Split_ok s 59 (by omega) w') ?_
    rintro _ w4 ⟨a, n, c, rfl, ho4, hf4, hb4⟩
    have hB4 := below_step hB2 hb4 hB2.size
    have ha4 := ha2.below hb4
    refine ⟨_, _, _, rfl, ?_⟩
    have hn := ho4.len
    obtain ⟨hl0, hhead⟩ := first_piece s
    have hlens : ∀ x ∈ cutC 59 [] s, x.length ≤ s.length := fun x hx => by simpa using cutC_len 59 s [] x hx
    have hpar : parseH s = if (nameOf ((cutC 59 [] s).headD [])).1 ++ (nameOf ((cutC 59 [] s).headD [])).2 = [] then (hdr0, 82)
      else if 4096 < (nameOf ((cutC 59 [] s).headD [])).1.length + (nameOf ((cutC 59 [] s).headD [])).2.length then (hdr0, 83)
      else (((cutC 59 [] s).drop 1).foldl stepA { hdr0 with name := (nameOf ((cutC 59 [] s).headD [])).1, value := (nameOf ((cutC 59 [] s).headD [])).2 }, 0) := by
      unfold parseH; rw [if_neg h1']
    have hcl := cutC_count 59 s []
    generalize cutC 59 [] s = L at *
    have hl1 : 0 < L.length := by omega
    subst hn
    have hsome := ho4.all.isSome hl1
    have hld : ∀ {u : World}, Below w4.heap.size w4 u → (Instr.loadAt T_string (.pointer (elemAddr a (0 : Int) 1))).run Tryz.prog u = .ok (.string (mkS (L.headD []))) u := fun hu => by
      have := load_text (ho4.below hu).all hl1
      rw [hhead hl1] at this; exact this
    have hx0 := hlens _ (List.getElem_mem hl1)
    rw [hhead hl1] at hx0
    generalize L.headD [] = x0 at *
    have hp1 := ahead_len x0
    have hp2 := after_len x0
    have hin0 : (0 ≤ (0 : Int) ∧ (0 : Int) < ((L.length : Nat) : Int)) ∧ Option.isSome a = true := ⟨⟨by decide, by omega⟩, hsome⟩
    have hlt2 := ha4.lt
    refine ⟨fun p w' => ∃ k6 : Nat, p = some ⟨k6, 0, none⟩ ∧ Stg w T_api_Header T_string k6 k2 a L.length c L { hdr0 with name := aheadL x0, value := afterL x0 } w', ?_, ?_⟩
    · -- whatever the order
      have fin : ∀ {k6 : Nat} {u : World}, ArrAt u k6 T_api_Header hdr0.cells → w4.heap.size ≤ k6 → Below w4.heap.size w4 u → ∃ wx : World, (Instr.storeAt T_api_Header (.pointer (some ⟨k6, 0, none⟩)) ({ hdr0 with name := aheadL x0, value := afterL x0 } : Hdr).v).run Tryz.prog u = .ok () wx ∧
          ∃ k7 : Nat, (some ⟨k6, 0, none⟩ : Option Addr) = some ⟨k7, 0, none⟩ ∧ Stg w T_api_Header T_string k7 k2 a L.length c L { hdr0 with name := aheadL x0, value := afterL x0 } wx := by
        intro k6 u hh6 hk6 hu
        have hBu := below_step hB4 hu hB4.size
        have hB4s := hB4.size
        have hne : k2 ≠ k6 := by omega
        have hog : ∀ g, ownB a = some g → g ≠ k6 := fun g hg e => by have := ho4.lt g hg; omega
        obtain ⟨wx, hsx, hhx, hgx⟩ := hdr_store { hdr0 with name := aheadL x0, value := afterL x0 } hh6 rfl
        refine ⟨wx, hsx, k6, rfl, hhx, (ha4.below hu).grown hgx (fun e => hne (Option.some.inj e)), (ho4.below hu).keep (grown_keep hgx fun b hb e => ?_), hBu.grown hgx hBu.size (fun x e => by cases e; omega), hne, hog, by omega⟩
        rcases hb with hb | hb
        · exact hb
        · exact hog b hb.symm (Option.some.inj e)
      have hd4 := below_drew w4
      refine ⟨hin0, hin0, ?_⟩
      repeat' (first
        | exact fin (by assumption) (by assumption) (by assumption)
        | refine And.intro ?_ ?_
        | refine Exists.intro _ (And.intro (hld (by assumption)) ?_)
        | (refine callK (ref08_ahead_ok x0 (by omega) _) ?_; rintro _ _ ⟨rfl, rfl⟩; refine Exists.intro _ (And.intro rfl ?_))
        | (refine callK (ref08_after_ok x0 (by omega) _) ?_; rintro _ _ ⟨rfl, rfl⟩; refine Exists.intro _ (And.intro rfl ?_))
        | (intro k6 w6 hk6 hw6
           have hh6 : ArrAt w6 k6 T_api_Header hdr0.cells := ArrAt.new hk6 hw6
           have hk6s : w4.heap.size ≤ k6 := by rw [hk6]; exact Nat.le_refl _
           have hb6 : Below w4.heap.size w4 w6 := by rw [hw6]; exact below_step hd4 (below_alloc _ _) hd4.size
           clear hk6 hw6))
    · intro p6
      refine AllJ.of ?_ _
      rintro w5 ⟨k6, rfl, S5⟩
      simp only [addr_at]
      have htr : Option.isSome (some (⟨k6, 0, none⟩ : Addr)) = true := rfl
      clear hld
      refine worldJ (fun w' => Stg w T_api_Header T_string k6 k2 a L.length c L { hdr0 with name := (nameOf x0).1, value := (nameOf x0).2 } w') ?_ ?_
      · have hld : ∀ {u : World}, Stg w T_api_Header T_string k6 k2 a L.length c L { hdr0 with name := aheadL x0, value := afterL x0 } u → ∀ {u' : World}, Below u.heap.size u u' → (Instr.loadAt T_string (.pointer (elemAddr a (0 : Int) 1))).run Tryz.prog u' = .ok (.string (mkS x0)) u' := fun {u} S {u'} hu => by
          have := load_text (S.ho.below hu).all hl1
          rw [hhead hl1] at this; exact this
        have htw := takeWhile_le (· != (61 : UInt8)) x0
        refine ⟨hin0, x0, fun u hu => hld S5 hu, ((x0.takeWhile (· != 61)).length : Nat), fun u hu => ?_, hin0, x0, fun u hu => hld S5 hu, ?_⟩
        · refine (ref08_cut_ok x0 (by omega) u).mono ?_
          rintro _ u' ⟨_, rfl, rfl, rfl⟩
          exact ⟨rfl, Below.refl _ _⟩
        · intro wq hq
          have Sq := S5.below hq
          refine BCase.of (fun h2 => ?_) (fun h2 => ?_)
          · rw [beq_iff_eq] at h2
            have hno : (61 : UInt8) ∉ x0 := fun hm => by have := has_eq_lt hm; omega
            have hnm : nameOf x0 = ([], aheadL x0) := by unfold nameOf hasEq; rw [decide_eq_false hno]; rfl
            have hae : aheadL x0 = trimB x0 := by unfold aheadL; rw [(no_eq hno).1]
            obtain ⟨w6, hs6, S6⟩ := Sq.put (P := Tryz.prog) tf_string (i := 0) (v := .string (mkS [])) (by decide) rfl rfl (h' := { hdr0 with name := [], value := afterL x0 }) rfl
            refine ⟨htr, w6, hs6, hin0, x0, ?_, ?_⟩
            · have := load_text S6.ho.all hl1
              rw [hhead hl1] at this; exact this
            · refine callK (ref01_Trim_ok x0 (by omega) w6) ?_
              rintro _ w6 ⟨rfl, rfl⟩
              refine ⟨_, rfl, htr, ?_⟩
              rw [hnm, hae]
              exact S6.put (P := Tryz.prog) tf_string (i := 1) (v := .string (mkS (trimB x0))) (by decide) rfl rfl rfl
          · rw [beq_eq_false_iff_ne] at h2
            have hyes : (61 : UInt8) ∈ x0 := by
              by_cases hm : (61 : UInt8) ∈ x0
              · exact hm
              · exact absurd (by rw [(no_eq hm).1]) h2
            have hnm : nameOf x0 = (aheadL x0, afterL x0) := by unfold nameOf hasEq; rw [decide_eq_true hyes]; rfl
            rw [hnm]; exact Sq
      · intro w6 S6
        clear S5
        have hnl : (nameOf x0).1.length ≤ s.length ∧ (nameOf x0).2.length ≤ s.length := by
          unfold nameOf
          split
          · exact ⟨by simp only; omega, by simp only; omega⟩
          · exact ⟨by simp, by simp only; omega⟩
        generalize (nameOf x0).1 = nm at *
        generalize (nameOf x0).2 = vl at *
        have lnm := S6.get (P := Tryz.prog) un_string rfl (i := 0) (v := .string (mkS nm)) rfl
        have lvl := S6.get (P := Tryz.prog) un_string rfl (i := 1) (v := .string (mkS vl)) rfl
        refine factJ (w := w6) (¬ nm ++ vl = []) ?_ ?_
        · refine boolJ (w := w6) ((nm == []) && (vl == [])) ?_ ?_
          · refine ⟨htr, nm, lnm, ?_⟩
            refine BCase.of (fun h2 => ?_) (fun h2 => ?_)
            · exact ⟨htr, vl, lvl, rfl, by rw [h2]; rfl⟩
            · exact ⟨rfl, by rw [h2]; rfl⟩
          · refine BCase.of (fun h2 => ?_) (fun h2 => ?_)
            · rw [Bool.and_eq_true, beq_iff_eq, beq_iff_eq] at h2
              rw [if_pos (by rw [h2.1, h2.2]; rfl)] at hpar
              exact hdr_end hdr0 S6.h2 rfl S6.hb hk2w (post hpar)
            · refine ⟨rfl, fun e => ?_⟩
              have := List.append_eq_nil_iff.1 e
              rw [this.1, this.2] at h2; cases h2
        · intro h2
          rw [if_neg h2] at hpar
          refine ⟨htr, nm, lnm, htr, vl, lvl, ?_⟩
          rw [wrap_i64 (by omega) (by omega)]
          refine BCase.of (fun h3 => ?_) (fun h3 => ?_) <;> simp only [gt_iff_lt, decide_eq_true_eq, decide_eq_false_iff_not] at h3
          · rw [if_pos (by omega)] at hpar
            exact hdr_end hdr0 S6.h2 rfl S6.hb hk2w (post hpar)
          rw [if_neg (by omega)] at hpar
          have hdl : (L.drop 1).length = L.length - 1 := List.length_drop ..
          refine ⟨fun m i w' => ∃ j : Nat, 1 ≤ j ∧ j ≤ L.length ∧ i = (j : Int) ∧ m = L.length - j ∧ Stg w T_api_Header T_string k6 k2 a L.length c L (((L.drop 1).take (j - 1)).foldl stepA { hdr0 with name := nm, value := vl }) w',
            ⟨_, 1, by omega, by omega, rfl, rfl, S6⟩, ?_⟩
          intro m i
          refine AllJ.of ?_ _
          rintro w7 ⟨j, hj1, hj, rfl, rfl, S7⟩
          refine BCase.of (fun h4 => ?_) (fun h4 => ?_) <;> simp only [decide_eq_true_eq, decide_eq_false_iff_not] at h4
          · have hjl : j < L.length := by omega
            have hjd : j - 1 < (L.drop 1).length := by omega
            have ew : IntKind.i64.wrap ((j : Int) + 1) = ((j + 1 : Nat) : Int) := by rw [wrap_i64 (by omega) (by omega)]; omega
            rw [ew]
            have hxe : (L.drop 1)[j - 1] = L[j] := by rw [List.getElem_drop]; congr 1; omega
            have hnext : ((L.drop 1).take (j + 1 - 1)).foldl stepA { hdr0 with name := nm, value := vl } = stepA (((L.drop 1).take (j - 1)).foldl stepA { hdr0 with name := nm, value := vl }) L[j] := by
              rw [show j + 1 - 1 = (j - 1) + 1 by omega, List.take_succ_eq_append_getElem hjd, List.foldl_append, hxe]; rfl
            have hxl := hlens _ (List.getElem_mem hjl)
            have hinj : (0 ≤ (j : Int) ∧ (j : Int) < ((L.length : Nat) : Int)) ∧ Option.isSome a = true := ⟨⟨by omega, h4⟩, hsome⟩
            have hld : ∀ {u : World}, Below w7.heap.size w7 u → (Instr.loadAt T_string (.pointer (elemAddr a (j : Int) 1))).run Tryz.prog u = .ok (.string (mkS L[j])) u := fun hu => load_text (S7.ho.below hu).all hjl
            refine ⟨hinj, _, hld (Below.refl _ _), ?_⟩
            generalize L[j] = x at *
            generalize ((L.drop 1).take (j - 1)).foldl stepA { hdr0 with name := nm, value := vl } = H at *
            have hq1 := ahead_len x
            have hq2 := after_len x
            refine callK (ref08_ahead_ok x (by omega) w7) ?_
            rintro _ w7 ⟨rfl, rfl⟩
            refine ⟨_, rfl, ?_⟩
            refine callK (ref01_Lower_ok _ (by omega) w7) ?_
            rintro _ w8 ⟨rfl, hb8⟩
            refine ⟨_, rfl, hinj, x, hld hb8, ?_⟩
            refine callK (ref08_after_ok x (by omega) w8) ?_
            rintro _ w8 ⟨rfl, rfl⟩
            refine ⟨_, rfl, ?_⟩
            refine callK (ref01_Lower_ok _ (by omega) w8) ?_
            rintro _ w9 ⟨rfl, hb9⟩
            refine ⟨_, rfl, ?_⟩
            have S9 := (S7.below hb8).below hb9
            clear hld S7 S6 lnm lvl
            have next : ∀ {w' : World}, Stg w T_api_Header T_string k6 k2 a L.length c L (stepA H x) w' → ∃ q : Nat, q < L.length - j ∧ ∃ j2 : Nat, 1 ≤ j2 ∧ j2 ≤ L.length ∧ ((j + 1 : Nat) : Int) = (j2 : Int) ∧ q = L.length - j2 ∧
                Stg w T_api_Header T_string k6 k2 a L.length c L (((L.drop 1).take (j2 - 1)).foldl stepA { hdr0 with name := nm, value := vl }) w' := fun S => ⟨L.length - (j + 1), by omega, j + 1, by omega, by omega, rfl, rfl, by rw [hnext]; exact S⟩
            refine BCase.of (fun h5 => ?_) (fun h5 => ?_) <;> simp only [gt_iff_lt, decide_eq_true_eq, decide_eq_false_iff_not] at h5
            · refine next ?_
              unfold stepA; rw [if_neg (by omega)]; exact S9
            have hstep : stepA H x = attrV H (lowL (aheadL x)) (afterL x) := by unfold stepA; rw [if_pos (by omega)]
            rw [hstep, ← attr_seq] at next
            have hvl : (afterL x).length ≤ 1024 := by omega
            generalize lowL (aheadL x) = key at *
            generalize afterL x = v at *
            -- expires
            refine worldJ (fun w' => Stg w T_api_Header T_string k6 k2 a L.length c L (a1 key v H) w') ?_ ?_
            · unfold a1
              refine BCase.of (fun h6 => ?_) (fun h6 => ?_)
              · rw [beq_iff_eq] at h6
                refine callK (ref07_Cookie_ok v (by omega) w9) ?_
                rintro _ w10 ⟨rfl, hb10⟩
                have S10 := S9.below hb10
                rw [if_pos h6]
                unfold cookV
                by_cases hc : cookP (toldV v)
                · rw [if_pos hc, if_pos hc]
                  refine ⟨_, _, rfl, BCase.yes rfl ⟨htr, ?_⟩⟩
                  obtain ⟨w11, hs11, S11⟩ := S10.put (P := Tryz.prog) tf_bool (i := 4) (v := .bool true) (by decide) rfl rfl (h' := { H with hasE := true }) rfl
                  exact ⟨w11, hs11, htr, S11.put (P := Tryz.prog) tf_int64 (i := 5) (v := .int .i64 (cookN (toldV v))) (by decide) rfl rfl rfl⟩
                · rw [if_neg hc, if_neg hc]
                  exact ⟨_, _, rfl, BCase.no rfl S10⟩
              · rw [beq_eq_false_iff_ne] at h6
                rw [if_neg h6]; exact S9
            intro w10 S10
            clear S9
            -- max-age
            refine worldJ (fun w' => Stg w T_api_Header T_string k6 k2 a L.length c L (a2 key v (a1 key v H)) w') ?_ ?_
            · unfold a2
              generalize a1 key v H = G at *
              refine BCase.of (fun h6 => ?_) (fun h6 => ?_)
              · rw [beq_iff_eq] at h6
                refine callK (ref08_age_ok v (by omega) w10) ?_
                rintro _ w10 ⟨rfl, rfl⟩
                rw [if_pos h6]
                unfold ageT
                cases ageV v with
                | none => exact ⟨_, _, rfl, BCase.no rfl S10⟩
                | some q =>
                  refine ⟨_, _, rfl, BCase.yes rfl ⟨htr, ?_⟩⟩
                  obtain ⟨w11, hs11, S11⟩ := S10.put (P := Tryz.prog) tf_bool (i := 6) (v := .bool true) (by decide) rfl rfl (h' := { G with hasA := true }) rfl
                  exact ⟨w11, hs11, htr, S11.put (P := Tryz.prog) tf_int64 (i := 7) (v := .int .i64 q) (by decide) rfl rfl rfl⟩
              · rw [beq_eq_false_iff_ne] at h6
                rw [if_neg h6]; exact S10
            intro w11 S11
            clear S10
            -- domain
            refine worldJ (fun w' => Stg w T_api_Header T_string k6 k2 a L.length c L (a3 key v (a2 key v (a1 key v H))) w') ?_ ?_
            · unfold a3
              generalize a2 key v (a1 key v H) = G at *
              refine BCase.of (fun h6 => ?_) (fun h6 => ?_)
              · rw [beq_iff_eq] at h6
                rw [if_pos h6]
                refine ⟨htr, ?_⟩
                obtain ⟨w12, hs12, S12⟩ := S11.put (P := Tryz.prog) tf_string (i := 2) (v := .string (mkS (lowL v))) (by decide) rfl rfl (h' := { G with domain := lowL v }) rfl
                refine ⟨w12, hs12, ?_⟩
                refine boolJ (w := w12) (decide (v.head? = some 46)) ?_ ?_
                · rw [low_len]
                  refine BCase.of (fun h7 => ?_) (fun h7 => ?_) <;> simp only [gt_iff_lt, decide_eq_true_eq, decide_eq_false_iff_not] at h7
                  · have hv0 : 0 < v.length := by omega
                    have hl0' : 0 < (lowL v).length := by rw [low_len]; exact hv0
                    refine ⟨⟨by decide, by omega⟩, rfl, ?_⟩
                    have eb : byteAt (lowL v) 0 = (((lowL v)[0].toNat : Nat) : Int) := byte_at hl0'
                    rw [eb]
                    have e46 := u8_eq (lowL v)[0] 46
                    rw [show ((((lowL v)[0].toNat : Nat) : Int) == (46 : Int)) = ((lowL v)[0] == 46) from e46, Bool.eq_iff_iff, beq_iff_eq, decide_eq_true_eq, ← low_head, List.head?_eq_getElem?, List.getElem?_eq_getElem hl0']
                    simp
                  · have : v = [] := List.eq_nil_of_length_eq_zero (by omega)
                    subst this
                    exact ⟨rfl, rfl⟩
                · refine BCase.of (fun h7 => ?_) (fun h7 => ?_) <;> simp only [decide_eq_true_eq, decide_eq_false_iff_not] at h7
                  · have hv1 : 1 ≤ v.length := by
                      cases v with
                      | nil => cases h7
                      | cons y r => simp
                    refine ⟨⟨by decide, by rw [low_len]; omega⟩, ?_⟩
                    rintro _ rfl
                    have e1 : Int.toNat (1 : Int) = 1 := rfl
                    rw [e1, low_drop]
                    refine ⟨htr, ?_⟩
                    rw [if_pos h7]
                    exact S12.put (P := Tryz.prog) tf_string (i := 2) (v := .string (mkS (lowL (v.drop 1)))) (by decide) rfl rfl rfl
                  · rw [if_neg h7]; exact S12
              · rw [beq_eq_false_iff_ne] at h6
                rw [if_neg h6]; exact S11
            intro w12 S12
            clear S11
            -- path
            refine worldJ (fun w' => Stg w T_api_Header T_string k6 k2 a L.length c L (a4 key v (a3 key v (a2 key v (a1 key v H)))) w') ?_ ?_
            · unfold a4
              generalize a3 key v (a2 key v (a1 key v H)) = G at *
              refine BCase.of (fun h6 => ?_) (fun h6 => ?_)
              · rw [beq_iff_eq] at h6
                rw [if_pos h6]
                refine ⟨htr, ?_⟩
                obtain ⟨w13, hs13, S13⟩ := S12.put (P := Tryz.prog) tf_string (i := 3) (v := .string (mkS v)) (by decide) rfl rfl (h' := { G with path := v }) rfl
                refine ⟨w13, hs13, ?_⟩
                refine boolJ (w := w13) (!(v == []) && !decide (v.head? = some 47)) ?_ ?_
                · refine BCase.of (fun h7 => ?_) (fun h7 => ?_)
                  · match v, h7 with
                    | y :: r, h7 =>
                      refine ⟨⟨by decide, by simp only [List.length_cons]; omega⟩, rfl, ?_⟩
                      have hx : byteAt (y :: r) 0 = ((y.toNat : Nat) : Int) := rfl
                      have e47 := u8_eq y 47
                      rw [hx, h7, Bool.true_and]
                      show (!((((y.toNat : Nat) : Int)) == ((UInt8.toNat 47 : Nat) : Int))) = _
                      rw [e47]
                      congr 1
                      rw [Bool.eq_iff_iff]; simp
                  · exact ⟨rfl, by rw [h7]; rfl⟩
                · refine BCase.of (fun h7 => ?_) (fun h7 => ?_)
                  · simp only [Bool.and_eq_true, Bool.not_eq_true', beq_eq_false_iff_ne, decide_eq_false_iff_not] at h7
                    refine ⟨htr, ?_⟩
                    rw [if_neg h7.2]
                    exact S13.put (P := Tryz.prog) tf_string (i := 3) (v := .string (mkS [])) (by decide) rfl rfl rfl
                  · by_cases h8 : v.head? = some 47
                    · rw [if_pos h8]; exact S13
                    · rw [decide_eq_false h8, Bool.not_false, Bool.and_true] at h7
                      have hv : v = [] := by simpa using h7
                      rw [if_neg h8]
                      have : ({ G with path := v } : Hdr) = { G with path := [] } := by rw [hv]
                      rw [← this]; exact S13
              · rw [beq_eq_false_iff_ne] at h6
                rw [if_neg h6]; exact S12
            intro w13 S13
            clear S12
            -- secure
            refine worldJ (fun w' => Stg w T_api_Header T_string k6 k2 a L.length c L (a5 key (a4 key v (a3 key v (a2 key v (a1 key v H))))) w') ?_ ?_
            · unfold a5
              generalize a4 key v (a3 key v (a2 key v (a1 key v H))) = G at *
              refine BCase.of (fun h6 => ?_) (fun h6 => ?_)
              · rw [beq_iff_eq] at h6
                rw [if_pos h6]
                exact ⟨htr, S13.put (P := Tryz.prog) tf_bool (i := 8) (v := .bool true) (by decide) rfl rfl rfl⟩
              · rw [beq_eq_false_iff_ne] at h6
                rw [if_neg h6]; exact S13
            intro w14 S14
            clear S13
            -- httponly
            refine worldJ (fun w' => Stg w T_api_Header T_string k6 k2 a L.length c L (a6 key (a5 key (a4 key v (a3 key v (a2 key v (a1 key v H)))))) w') ?_ ?_
            · unfold a6
              generalize a5 key (a4 key v (a3 key v (a2 key v (a1 key v H)))) = G at *
              refine BCase.of (fun h6 => ?_) (fun h6 => ?_)
              · rw [beq_iff_eq] at h6
                rw [if_pos h6]
                exact ⟨htr, S14.put (P := Tryz.prog) tf_bool (i := 9) (v := .bool true) (by decide) rfl rfl rfl⟩
              · rw [beq_eq_false_iff_ne] at h6
                rw [if_neg h6]; exact S14
            intro w15 S15
            clear S14
            -- samesite
            generalize a6 key (a5 key (a4 key v (a3 key v (a2 key v (a1 key v H))))) = G at *
            unfold a7 at next
            refine BCase.of (fun h6 => ?_) (fun h6 => ?_)
            · rw [beq_iff_eq] at h6
              rw [if_pos h6] at next
              refine ⟨htr, ?_⟩
              obtain ⟨w16, hs16, S16⟩ := S15.put (P := Tryz.prog) tf_int (i := 10) (v := .int .i64 0) (by decide) rfl rfl (h' := { G with same := 0 }) rfl
              refine ⟨w16, hs16, ?_⟩
              unfold sameN at next
              generalize lowL v = lv at *
              refine worldJ (fun w' => Stg w T_api_Header T_string k6 k2 a L.length c L { G with same := if lv = [110, 111, 110, 101] then 1 else 0 } w') ?_ ?_
              · refine BCase.of (fun h7 => ?_) (fun h7 => ?_)
                · rw [beq_iff_eq] at h7
                  rw [if_pos h7]
                  exact ⟨htr, S16.put (P := Tryz.prog) tf_int (i := 10) (v := .int .i64 1) (by decide) rfl rfl rfl⟩
                · rw [beq_eq_false_iff_ne] at h7
                  rw [if_neg h7]; exact S16
              intro w17 S17
              refine worldJ (fun w' => Stg w T_api_Header T_string k6 k2 a L.length c L { G with same := if lv = [110, 111, 110, 101] then 1 else if lv = [108, 97, 120] then 2 else 0 } w') ?_ ?_
              · refine BCase.of (fun h7 => ?_) (fun h7 => ?_)
                · rw [beq_iff_eq] at h7
                  rw [if_neg (by rw [h7]; decide), if_pos h7]
                  exact ⟨htr, S17.put (P := Tryz.prog) tf_int (i := 10) (v := .int .i64 2) (by decide) rfl rfl rfl⟩
                · rw [beq_eq_false_iff_ne] at h7
                  rw [if_neg h7]; exact S17
              intro w18 S18
              refine BCase.of (fun h7 => ?_) (fun h7 => ?_)
              · rw [beq_iff_eq] at h7
                rw [if_neg (by rw [h7]; decide), if_neg (by rw [h7]; decide), if_pos h7] at next
                refine ⟨htr, ?_⟩
                obtain ⟨w19, hs19, S19⟩ := S18.put (P := Tryz.prog) tf_int (i := 10) (v := .int .i64 3) (by decide) rfl rfl (h' := { G with same := 3 }) rfl
                exact ⟨w19, hs19, next S19⟩
              · rw [beq_eq_false_iff_ne] at h7
                rw [if_neg h7] at next
                exact next S18
            · rw [beq_eq_false_iff_ne] at h6
              rw [if_neg h6] at next
              exact next S15
          · have : j = L.length := by omega
            subst this
            rw [List.take_of_length_le (by omega)] at S7
            refine ⟨_, _, _, _, _, _, _, _, _, _, _, hdr_load _ S7.hh, ?_⟩
            exact hdr_end _ S7.h2 rfl S7.hb hk2w (post hpar)
end Go.Proofs.YtmlcilfcaogdcaaGreatDoor
