/- Contract of Parse. Its conditions: none. -/
import Derived.Test.YtmlcilfcaogdcaaGreatDoorHdrD
set_option linter.unusedVariables false
set_option linter.unusedSimpArgs false
set_option maxRecDepth 20000
namespace Go.Proofs.YtmlcilfcaogdcaaGreatDoor
open Go.Pk
open Go.RowKit (Below)
def ParsePost (s : List UInt8) (w : World) (v : Value) (w' : World) : Prop := v = .tuple #[(parseH s).1.v, .int .i64 (parseH s).2] ∧ Below w.heap.size w w'
theorem first_piece (s : List UInt8) : (cutC 59 [] s).length ≠ 0 ∧ ∀ h : 0 < (cutC 59 [] s).length, (cutC 59 [] s)[0] = (cutC 59 [] s).headD [] := by
  have h := cutC_ne 59 s []
  cases hc : cutC 59 [] s with
  | nil => exact absurd hc h
  | cons x l => exact ⟨by simp, fun _ => rfl⟩
theorem load_text {w : World} {A : Bl} {a : Option Addr} {n c : Nat} {xs : List (List UInt8)} (h : Sl tS w A a n c xs) {i : Nat} (hi : i < xs.length) : (Instr.loadAt T_string (.pointer (elemAddr a (i : Int) 1))).run Tryz.prog w = .ok (.string (mkS xs[i])) w := by
  obtain ⟨v, hv, hrep⟩ := h.load1 (i := (i : Int)) un_string rfl rfl (by simpa using hi)
  obtain ⟨rfl, -⟩ := str_rep hrep
  simpa using hv
theorem header_Parse_ok (s : List UInt8) (hs : s.length ≤ 2000000000) (w : World) (he : Env w) : Calls Tryz.prog f_header_Parse #[.string (mkS s)] w (Ret (ParsePost s w)) := by
  apply run_header_Parse
  unfold vc_header_Parse
  intro k2 w2 hk2 hw2
  have hB2 := (hw2 ▸ below_alloc w _ : Below w.heap.size w w2)
  have ha2 : ArrAt w2 k2 T_api_Header hdr0.cells := ArrAt.new hk2 hw2
  have hk2w : w.heap.size ≤ k2 := by omega
  have hs2 : w2.heap.size = w.heap.size + 1 := by rw [hw2]; simp
  refine callK (header_control_ok s (by omega) w2) ?_
  rintro _ w3 ⟨rfl, hb3⟩
  have hB3 := below_step hB2 hb3 hB2.size
  have ha3 := ha2.below hb3
  refine ⟨_, rfl, ?_⟩
  have post : ∀ {h : Hdr} {e : Int}, parseH s = (h, e) → ∀ wx, Below w.heap.size w wx → ParsePost s w (.tuple #[h.v, .int .i64 e]) wx := fun hp wx hb => ⟨by rw [hp], hb⟩
  refine BCase.of (fun h1 => ?_) (fun h1 => ?_)
  · exact hdr_end hdr0 ha3 rfl hB3 hk2w (post (by unfold parseH; rw [if_pos h1]))
  have h1' : ¬ s.any isCtl = true := by rw [h1]; decide
  refine callK (octet_Split_ok s 59 (by omega) w3 (he.step hB3)) ?_
  rintro _ w4 ⟨a, n, c, rfl, ho4, hf4, hb4⟩
  have hB4 := below_step hB3 hb4 hB3.size
  have ha4 := ha3.below hb4
  refine ⟨_, _, _, rfl, ?_⟩
  intro k5 w5 hk5 hw5
  have hb5 := (hw5 ▸ below_alloc w4 _ : Below w4.heap.size w4 w5)
  have hB5 := below_step hB4 hb5 hB4.size
  have ha5 := ha4.below hb5
  have hh5 : ArrAt w5 k5 T_api_Header hdr0.cells := ArrAt.new hk5 hw5
  have ho5 := ho4.below hb5
  have hlt2 := ha4.lt
  have hne : k2 ≠ k5 := by omega
  have hk5w : w.heap.size ≤ k5 := by have := hB4.size; omega
  have hog : ∀ g, ownB a = some g → g ≠ k5 := fun g hg e => by have := ho4.lt g hg; omega
  have hn := ho5.len
  obtain ⟨hl0, hhead⟩ := first_piece s
  have hlens : ∀ x ∈ cutC 59 [] s, x.length ≤ s.length := fun x hx => by simpa using cutC_len 59 s [] x hx
  have hpar : parseH s = if (nameOf ((cutC 59 [] s).headD [])).1 ++ (nameOf ((cutC 59 [] s).headD [])).2 = [] then (hdr0, 82)
    else if 4096 < (nameOf ((cutC 59 [] s).headD [])).1.length + (nameOf ((cutC 59 [] s).headD [])).2.length then (hdr0, 83)
    else (((cutC 59 [] s).drop 1).foldl stepA { hdr0 with name := (nameOf ((cutC 59 [] s).headD [])).1, value := (nameOf ((cutC 59 [] s).headD [])).2 }, 0) := by
    unfold parseH; rw [if_neg h1']
  have hcl := cutC_count 59 s []
  generalize cutC 59 [] s = L at *
  have hl1 : 0 < L.length := by omega
  subst hn
  have l0 := load_text ho5.all hl1
  rw [hhead hl1] at l0
  have hx0 := hlens _ (List.getElem_mem hl1)
  rw [hhead hl1] at hx0
  generalize L.headD [] = x0 at *
  refine ⟨⟨⟨by decide, by omega⟩, ho5.all.isSome hl1⟩, x0, l0, ?_⟩
  refine callK (header_pair_ok x0 (by omega) w5 (he.step hB5)) ?_
  rintro _ w6 ⟨rfl, hb6⟩
  have hB6 := below_step hB5 hb6 hB5.size
  refine ⟨_, _, _, rfl, ?_⟩
  have hp1 := ahead_len x0
  have hp2 := after_len x0
  refine ⟨fun a b w' => w' = w6 ∧ a = (nameOf x0).1 ∧ b = (nameOf x0).2, ?_, ?_⟩
  · unfold nameOf
    cases hasEq x0
    · exact BCase.yes rfl ⟨rfl, rfl, rfl⟩
    · exact BCase.no rfl ⟨rfl, rfl, rfl⟩
  intro nm vl
  refine AllJ.of ?_ _
  rintro w6' ⟨hw6, hnm, hvl⟩
  subst hw6
  have hnl : nm.length ≤ s.length ∧ vl.length ≤ s.length := by
    rw [hnm, hvl]; unfold nameOf
    split
    · exact ⟨by simp only; omega, by simp only; omega⟩
    · exact ⟨by simp, by simp only; omega⟩
  rw [← hnm, ← hvl] at hpar
  refine ⟨fits (by omega), ?_⟩
  rintro _ rfl
  have ha6 := ha5.below hb6
  have hh6 := hh5.below hb6
  have ho6 := ho5.below hb6
  refine BCase.of (fun h2 => ?_) (fun h2 => ?_)
  · rw [beq_iff_eq] at h2
    rw [if_pos h2] at hpar
    exact hdr_end hdr0 ha6 rfl hB6 hk2w (post hpar)
  rw [beq_eq_false_iff_ne] at h2
  rw [if_neg h2] at hpar
  rw [wrap_i64 (by omega) (by omega)]
  refine BCase.of (fun h3 => ?_) (fun h3 => ?_) <;> simp only [gt_iff_lt, decide_eq_true_eq, decide_eq_false_iff_not] at h3
  · rw [if_pos (by omega)] at hpar
    exact hdr_end hdr0 ha6 rfl hB6 hk2w (post hpar)
  rw [if_neg (by omega)] at hpar
  refine ⟨rfl, ?_⟩
  obtain ⟨w7, hs7, hh7, hg7⟩ := hh6.put (P := Tryz.prog) tf_string (i := 0) (v := .string (mkS nm)) (by simp [Hdr.cells]) rfl rfl
  refine ⟨w7, hs7, rfl, ?_⟩
  obtain ⟨w8, hs8, hh8, hg8⟩ := hh7.put (P := Tryz.prog) tf_string (i := 1) (v := .string (mkS vl)) (by simp [Hdr.cells]) rfl rfl
  have hgg := grown_trans hg7 hg8
  have hh8' : ArrAt w8 k5 T_api_Header ({ hdr0 with name := nm, value := vl } : Hdr).cells := hh8
  have hk5r : ∀ x, some k5 = some x → w.heap.size ≤ x := fun x e => by cases e; exact hk5w
  refine ⟨w8, hs8, ⟨by decide, by omega⟩, ?_⟩
  have keepO : ∀ {u u' : World}, Ow tS T_string u NoB a L.length c L → u.grownBy u' (some k5) → Ow tS T_string u' NoB a L.length c L := fun ho hg => ho.keep (grown_keep hg fun b hb e => by
    rcases hb with hb | hb
    · exact hb
    · exact hog b hb.symm (Option.some.inj e))
  have e1 : Int.toNat (1 : Int) = 1 := rfl
  rw [e1]
  refine ⟨fun m i w' => ∃ j : Nat, j ≤ (L.drop 1).length ∧ i = (j : Int) ∧ m = (L.drop 1).length - j ∧ ArrAt w' k5 T_api_Header (((L.drop 1).take j).foldl stepA { hdr0 with name := nm, value := vl }).cells ∧
      ArrAt w' k2 T_api_Header hdr0.cells ∧ Ow tS T_string w' NoB a L.length c L ∧ Below w.heap.size w w',
    ⟨_, 0, by omega, rfl, rfl, hh8', ha6.grown hgg (fun e => hne (Option.some.inj e)), keepO ho6 hgg, hB6.grown hgg hB6.size hk5r⟩, ?_⟩
  intro m i
  refine AllJ.of ?_ _
  rintro w9 ⟨j, hj, rfl, rfl, hh9, ha9, ho9, hB9⟩
  have hdl : (L.drop 1).length = L.length - 1 := List.length_drop ..
  refine BCase.of (fun h4 => ?_) (fun h4 => ?_) <;> simp only [decide_eq_true_eq, decide_eq_false_iff_not] at h4
  · have hjl : j < (L.drop 1).length := by omega
    have hsl := ho9.all.from 1 hl1 (k := 1) rfl
    have ew : IntKind.i64.wrap ((j : Int) + 1) = ((j + 1 : Nat) : Int) := by rw [wrap_i64 (by omega) (by omega)]; omega
    rw [ew]
    have hnext : ((L.drop 1).take (j + 1)).foldl stepA { hdr0 with name := nm, value := vl } = stepA (((L.drop 1).take j).foldl stepA { hdr0 with name := nm, value := vl }) (L.drop 1)[j] := by
      rw [List.take_succ_eq_append_getElem hjl, List.foldl_append]; rfl
    have hxl := hlens _ (List.mem_of_mem_drop (List.getElem_mem hjl))
    refine ⟨⟨⟨by omega, h4⟩, hsl.isSome hjl⟩, _, load_text hsl hjl, ?_⟩
    generalize (L.drop 1)[j] = x at *
    generalize ((L.drop 1).take j).foldl stepA { hdr0 with name := nm, value := vl } = H at *
    have hq1 := ahead_len x
    have hq2 := after_len x
    refine callK (header_pair_ok x (by omega) w9 (he.step hB9)) ?_
    rintro _ w10 ⟨rfl, hb10⟩
    have hB10 := below_step hB9 hb10 hB9.size
    refine ⟨_, _, _, rfl, ?_⟩
    refine BCase.of (fun h5 => ?_) (fun h5 => ?_) <;> simp only [decide_eq_true_eq, decide_eq_false_iff_not] at h5
    · refine callK (octet_Lower_ok _ (by omega) w10) ?_
      rintro _ w11 ⟨rfl, hb11⟩
      have hB11 := below_step hB10 hb11 hB10.size
      refine ⟨_, rfl, ?_⟩
      refine callK (header_attribute_ok k5 H _ (afterL x) (by omega) w11 ((hh9.below hb10).below hb11)) ?_
      rintro _ w12 ⟨rfl, hh12, hg12⟩
      refine ⟨rfl, (L.drop 1).length - (j + 1), by omega, j + 1, by omega, rfl, rfl, ?_, ((ha9.below hb10).below hb11).grown hg12 (fun e => hne (Option.some.inj e)), keepO ((ho9.below hb10).below hb11) hg12, hB11.grown hg12 hB11.size hk5r⟩
      rw [hnext]; unfold stepA
      rw [if_pos (by omega)]; exact hh12
    · refine ⟨(L.drop 1).length - (j + 1), by omega, j + 1, by omega, rfl, rfl, ?_, ha9.below hb10, ho9.below hb10, hB10⟩
      rw [hnext]; unfold stepA
      rw [if_neg (by omega)]; exact hh9.below hb10
  · have : j = (L.drop 1).length := by omega
    subst this
    rw [List.take_length] at hh9
    refine ⟨_, _, _, _, _, _, _, _, _, _, _, hdr_load _ hh9, ?_⟩
    exact hdr_end _ ha9 rfl hB9 hk2w (post hpar)
end Go.Proofs.YtmlcilfcaogdcaaGreatDoor
