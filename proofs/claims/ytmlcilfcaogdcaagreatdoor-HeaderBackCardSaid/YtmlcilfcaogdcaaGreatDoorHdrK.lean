/- Contracts of the laws HeaderNames, HeaderReads, HeaderBack. Its conditions: none. -/
import Derived.Test.YtmlcilfcaogdcaaGreatDoorHdrJ
import Derived.Test.YtmlcilfcaogdcaaGreatDoorMake
set_option linter.unusedVariables false
set_option linter.unusedSimpArgs false
set_option maxRecDepth 20000
namespace Go.Pk
def alive0 : Hdr := ⟨[97], [98], [], [47, 120], false, 0, true, 5, true, false, 0⟩
theorem hdrEq_refl (h : Hdr) : hdrEq h h = true := (hdrEq_iff h h).2 rfl
theorem good_right {h : Hdr} (g : Good h) : rightB h = true := by
  unfold rightB
  rw [good_back g, hdrEq_refl]; rfl
theorem good_text {h : Hdr} (g : Good h) : htextV h = writtenV h := by unfold htextV; rw [if_pos (good_right g)]
theorem parse_bad {s : List UInt8} (h : (parseH s).2 ≠ 0) : (parseH s).1 = hdr0 := by
  unfold parseH at h ⊢
  split
  · rfl
  split
  · rfl
  split
  · rfl
  · rename_i h1 h2 h3
    rw [if_neg h1, if_neg h2, if_neg h3] at h
    exact absurd rfl h
theorem alive_parse : parseH [97, 61, 98, 59, 32, 112, 97, 116, 104, 61, 47, 120, 59, 32, 77, 65, 88, 45, 65, 71, 69, 61, 53, 59, 32, 83, 101, 99, 117, 114, 101] = (alive0, 0) := by kernel_rfl
theorem alive_text : writtenV alive0 = [97, 61, 98, 59, 32, 77, 97, 120, 45, 65, 103, 101, 61, 53, 59, 32, 80, 97, 116, 104, 61, 47, 120, 59, 32, 83, 101, 99, 117, 114, 101] := by
  have h : wparts alive0 = [[97, 61, 98], pA ++ Lib.itoa 5, pP ++ [47, 120], pS] := rfl
  have h5 : Lib.itoa 5 = [53] := by rw [itoa_pos (by decide), Lib.decDigits_one (by decide)]; rfl
  unfold writtenV
  rw [h, h5]; rfl
end Go.Pk
namespace Go.Proofs.YtmlcilfcaogdcaaGreatDoor
open Go.Pk
open Go.RowKit (Below)
theorem headerAlive_ok (w : World) (he : Env w) : Calls Tryz.prog f_law08_headerAlive #[] w (Ret (Says w)) := by
  apply run_law08_headerAlive
  unfold vc_law08_headerAlive
  refine callK (header_Parse_ok _ (by decide) w he) ?_
  rintro _ w1 ⟨rfl, hb1⟩
  rw [alive_parse]
  refine ⟨_, _, _, _, _, _, _, _, _, _, _, _, rfl, ?_⟩
  refine hdr_new alive0 w1 fun k1 w2 hk1 h2 hb2 => ?_
  have hB2 := below_step hb1 hb2 hb1.size
  refine BCase.yes rfl ?_
  refine ⟨_, _, _, _, _, _, _, _, _, _, _, hdr_load _ h2, true, hdr_eq alive0 alive0 w2, BCase.yes rfl ?_⟩
  refine ⟨_, _, _, _, _, _, _, _, _, _, _, hdr_load _ h2, ?_⟩
  have g : Pk.Good alive0 := parse_good alive_parse
  refine callK (header_Text_ok alive0 (good_ok g) w2 (he.step hB2)) ?_
  rintro _ w3 ⟨rfl, hb3⟩
  rw [good_text g, alive_text]
  exact ⟨_, rfl, by kernel_rfl, below_step hB2 hb3 hB2.size⟩
theorem law08_HeaderReads_ok (s : List UInt8) (w : World) (he : Env w) : Calls Tryz.prog f_law08_HeaderReads #[.string (mkS s)] w (Ret (Says w)) := by
  apply run_law08_HeaderReads
  unfold vc_law08_HeaderReads
  refine callK (headerAlive_ok w he) ?_
  rintro _ w1 ⟨rfl, hB1⟩
  refine ⟨_, rfl, BCase.no rfl ?_⟩
  refine BCase.of (fun h => ⟨rfl, hB1⟩) (fun h => ?_)
  have hl : s.length ≤ 6000 := by simp at h; omega
  refine callK (header_Parse_ok s (by omega) w1 (he.step hB1)) ?_
  rintro _ w2 ⟨rfl, hb2⟩
  have hB2 := below_step hB1 hb2 hB1.size
  refine ⟨_, _, _, _, _, _, _, _, _, _, _, _, rfl, ?_⟩
  refine hdr_new (parseH s).1 w2 fun k3 w3 hk3 h3 hb3 => ?_
  have hB3 := below_step hB2 hb3 hB2.size
  refine callK (ref08_Parse_ok s (by omega) w3) ?_
  rintro _ w4 ⟨rfl, hb4⟩
  have hB4 := below_step hB3 hb4 hB3.size
  have h4 := h3.below hb4
  refine ⟨_, _, _, _, _, _, _, _, _, _, _, _, rfl, ?_⟩
  refine hdr_new (parseH s).1 w4 fun k5 w5 hk5 h5 hb5 => ?_
  have hB5 := below_step hB4 hb5 hB4.size
  refine ⟨_, _, _, _, _, _, _, _, _, _, _, hdr_load _ (h4.below hb5), _, _, _, _, _, _, _, _, _, _, _, hdr_load _ h5, _, hdr_eq _ _ _, ?_⟩
  exact BCase.yes (hdrEq_refl _) ⟨by simp, hB5⟩
theorem law08_HeaderBack_ok (s : List UInt8) (w : World) (he : Env w) : Calls Tryz.prog f_law08_HeaderBack #[.string (mkS s)] w (Ret (Says w)) := by
  apply run_law08_HeaderBack
  unfold vc_law08_HeaderBack
  refine callK (headerAlive_ok w he) ?_
  rintro _ w1 ⟨rfl, hB1⟩
  refine ⟨_, rfl, BCase.no rfl ?_⟩
  refine BCase.of (fun h => ⟨rfl, hB1⟩) (fun h => ?_)
  have hl : s.length ≤ 6000 := by simp at h; omega
  refine callK (header_Parse_ok s (by omega) w1 (he.step hB1)) ?_
  rintro _ w2 ⟨rfl, hb2⟩
  have hB2 := below_step hB1 hb2 hB1.size
  refine ⟨_, _, _, _, _, _, _, _, _, _, _, _, rfl, ?_⟩
  refine hdr_new (parseH s).1 w2 fun k3 w3 hk3 h3 hb3 => ?_
  have hB3 := below_step hB2 hb3 hB2.size
  refine BCase.of (fun hc => ?_) (fun hc => ?_)
  · have hne : (parseH s).2 ≠ 0 := by simpa using hc
    refine ⟨_, _, _, _, _, _, _, _, _, _, _, hdr_load _ h3, _, hdr_eq (parseH s).1 hdr0 w3, ?_, hB3⟩
    rw [parse_bad hne, hdrEq_refl]
  · have he0 : (parseH s).2 = 0 := by simpa using hc
    obtain ⟨h, hh⟩ : ∃ h, h = (parseH s).1 := ⟨_, rfl⟩
    have g : Pk.Good h := parse_good (s := s) (by rw [hh, ← he0])
    rw [← hh] at h3
    refine ⟨_, _, _, _, _, _, _, _, _, _, _, hdr_load _ h3, ?_⟩
    refine callK (header_Text_ok h (good_ok g) w3 (he.step hB3)) ?_
    rintro _ w4 ⟨rfl, hb4⟩
    have hB4 := below_step hB3 hb4 hB3.size
    have h4 := h3.below hb4
    rw [good_text g]
    refine ⟨_, rfl, ?_⟩
    refine callK (header_Parse_ok (writtenV h) (by have := wlen h (good_ok g); unfold writtenV; omega) w4 (he.step hB4)) ?_
    rintro _ w5 ⟨rfl, hb5⟩
    have hB5 := below_step hB4 hb5 hB4.size
    have h5 := h4.below hb5
    rw [good_back g]
    refine ⟨_, _, _, _, _, _, _, _, _, _, _, _, rfl, ?_⟩
    refine hdr_new h w5 fun k6 w6 hk6 h6 hb6 => ?_
    have hB6 := below_step hB5 hb6 hB5.size
    have h36 := h5.below hb6
    refine ⟨_, _, _, _, _, _, _, _, _, _, _, hdr_load _ h36, ?_⟩
    refine callK (header_Right_ok h (good_ok g) w6 (he.step hB6)) ?_
    rintro _ w7 ⟨rfl, hb7⟩
    have hB7 := below_step hB6 hb7 hB6.size
    rw [good_right g]
    refine ⟨_, rfl, BCase.yes rfl (BCase.yes rfl ?_)⟩
    refine ⟨_, _, _, _, _, _, _, _, _, _, _, hdr_load _ (h6.below hb7), _, _, _, _, _, _, _, _, _, _, _, hdr_load _ (h36.below hb7), _, hdr_eq _ _ _, ?_⟩
    refine BCase.yes (hdrEq_refl _) ?_
    refine ⟨_, _, _, _, _, _, _, _, _, _, _, hdr_load _ (h6.below hb7), ?_⟩
    refine callK (header_Text_ok h (good_ok g) w7 (he.step hB7)) ?_
    rintro _ w8 ⟨rfl, hb8⟩
    rw [good_text g]
    exact ⟨_, rfl, by simp, below_step hB7 hb8 hB7.size⟩
/-- a long text -/
def xs4096 : List UInt8 := List.replicate 4096 120
theorem names1 : parseH [97, 61, 98, 10] = (hdr0, 81) := by kernel_rfl
theorem names2 : parseH [32, 61, 32, 59, 32, 80, 97, 116, 104, 61, 47] = (hdr0, 82) := by kernel_rfl
theorem x_noeq : ∀ c ∈ xs4096, c = 120 := fun c hc => (List.mem_replicate.1 hc).2
theorem x_len : xs4096.length = 4096 := List.length_replicate
theorem x_trim : trimB xs4096 = xs4096 := by
  have hl : ∀ n, Lok (List.replicate n (120 : UInt8)) := by
    intro n
    induction n with
    | zero => rfl
    | succ n ih => rw [List.replicate_succ]; exact lok_cons ih (.inr rfl)
  exact trim_id (hok_cons (s := List.replicate 4095 120) rfl) (hl 4096)
theorem names3 {k : List UInt8} (hk : k = [] ∨ k = [97]) : parseH (k ++ 61 :: xs4096) = if k = [] then ({ hdr0 with value := xs4096 }, 0) else (hdr0, 83) := by
  have hk61 : ∀ c ∈ k, c ≠ 61 := by rcases hk with rfl | rfl <;> decide
  have hkc : ∀ c ∈ k, isCtl c = false ∧ c ≠ 59 := by rcases hk with rfl | rfl <;> decide
  have htk : trimB k = k := by rcases hk with rfl | rfl <;> rfl
  have hclean : ∀ c ∈ k ++ 61 :: xs4096, isCtl c = false ∧ c ≠ 59 := by
    intro c hc
    rcases List.mem_append.1 hc with hc | hc
    · exact hkc c hc
    · rcases List.mem_cons.1 hc with rfl | hc
      · decide
      · rw [x_noeq c hc]; decide
  have h1 : ¬ (k ++ 61 :: xs4096).any isCtl = true := fun hx => by
    obtain ⟨c, hc, hcc⟩ := List.any_eq_true.1 hx
    rw [(hclean c hc).1] at hcc; cases hcc
  obtain ⟨e1, e2, e3⟩ := ahead_eq xs4096 hk61
  have hn : nameOf (k ++ 61 :: xs4096) = (k, xs4096) := by unfold nameOf; rw [e3, e1, e2, if_pos rfl, htk, x_trim]
  unfold parseH
  rw [if_neg h1, cutC_last 59 _ [] (fun c hc => (hclean c hc).2)]
  simp only [List.nil_append, List.headD_cons, hn, List.drop_one, List.tail_cons, List.foldl_nil]
  rw [if_neg (fun e => by have := congrArg List.length (List.append_eq_nil_iff.1 e).2; rw [x_len] at this; cases this), x_len]
  rcases hk with rfl | rfl <;> rfl
theorem law08_HeaderNames_ok (w : World) (he : Env w) : Calls Tryz.prog f_law08_HeaderNames #[] w (Ret (Says w)) := by
  apply run_law08_HeaderNames
  unfold vc_law08_HeaderNames
  refine callK (header_Parse_ok _ (by decide) w he) ?_
  rintro _ w1 ⟨rfl, hB1⟩
  rw [names1]
  refine ⟨_, _, _, _, _, _, _, _, _, _, _, _, rfl, ?_⟩
  refine hdr_new hdr0 w1 fun k1 w2 hk1 h2 hb2 => ?_
  have hB2 := below_step hB1 hb2 hB1.size
  refine callK (header_Parse_ok _ (by decide) w2 (he.step hB2)) ?_
  rintro _ w3 ⟨rfl, hb3⟩
  have hB3 := below_step hB2 hb3 hB2.size
  rw [names2]
  refine ⟨_, _, _, _, _, _, _, _, _, _, _, _, rfl, ?_⟩
  refine hdr_new hdr0 w3 fun k3 w4 hk3 h4 hb4 => ?_
  have hB4 := below_step hB3 hb4 hB3.size
  obtain ⟨w5, a, hmk, ho5, hb5, hf5⟩ := make_own (e := fun c : UInt8 => Value.int .u8 (c.toNat : Nat)) (h1 := fun _ => rfl) (p := fun _ => True) (P := Tryz.prog) (s := T_sl_uint8) un_sl_uint8 tf_uint8 (x0 := 0) rfl rfl trivial .i64 .i64 4096 (by decide) (by decide) w4 NoB
  have hB5 := below_step hB4 hb5 hB4.size
  refine ⟨w5, a, 4096, 4096, hmk, ?_⟩
  have ho5' : Ow tU8 T_uint8 w5 NoB a 4096 4096 (List.replicate 0 120 ++ List.replicate (4096 - 0) 0) := by rw [List.replicate_zero, List.nil_append]; exact ho5
  refine ⟨fun m n w' => ∃ j : Nat, j ≤ 4096 ∧ n = (j : Int) ∧ m = 4096 - j ∧ Ow tU8 T_uint8 w' NoB a 4096 4096 (List.replicate j 120 ++ List.replicate (4096 - j) 0) ∧ Below w.heap.size w w', ⟨_, 0, by decide, rfl, rfl, ho5', hB5⟩, ?_⟩
  intro m n
  refine AllJ.of ?_ _
  rintro w6 ⟨j, hj, rfl, rfl, ho6, hB6⟩
  refine BCase.of (fun hc => ?_) (fun hc => ?_) <;> simp only [decide_eq_true_eq, decide_eq_false_iff_not] at hc
  · have hj' : j < 4096 := by omega
    have hlen : (List.replicate j (120 : UInt8) ++ List.replicate (4096 - j) 0).length = 4096 := by simp; omega
    obtain ⟨w7, hs7, ho7, hg7⟩ := ho6.store (P := Tryz.prog) (k := 1) tf_uint8 (fun _ _ h => h) (i := (j : Int)) (by rw [hlen]; simpa using hj') rfl (v := .int .u8 120) (x := 120) ⟨rfl, trivial⟩
    refine ⟨⟨⟨by omega, hc⟩, ho6.all.isSome (i := 0) (by rw [hlen]; decide)⟩, w7, hs7, _, ?_, j + 1, by omega, by rw [wrap_i64 (by omega) (by omega)]; omega, rfl, ?_, ?_⟩
    · omega
    · rw [Int.toNat_natCast, set_rep _ _ _ _ hj'] at ho7; exact ho7
    · exact hB6.grown hg7 hB6.size fun x e => by have := hf5 x e; exact Nat.le_trans hB4.size this
  · have : j = 4096 := by omega
    subst this
    have hx : Sl tU8 w6 AllB a 4096 4096 xs4096 := by have := ho6.all; simpa [xs4096] using this
    refine ⟨xs4096, text_of un_sl_uint8 un_string un_uint8 hx, fits (by rw [x_len]; decide), ?_⟩
    rintro _ rfl
    refine callK (header_Parse_ok _ (by rw [List.length_append, x_len]; decide) w6 (he.step hB6)) ?_
    rintro _ w7 ⟨rfl, hb7⟩
    have hB7 := below_step hB6 hb7 hB6.size
    have e3 : parseH ([97, 61] ++ xs4096) = (hdr0, 83) := by
      have := names3 (k := [97]) (.inr rfl)
      rw [if_neg (by decide)] at this; exact this
    rw [e3]
    refine ⟨_, _, _, _, _, _, _, _, _, _, _, _, rfl, ?_⟩
    refine hdr_new hdr0 w7 fun k7 w8 hk7 h8 hb8 => ?_
    have hB8 := below_step hB7 hb8 hB7.size
    have hx8 := (hx.below hb7).below hb8
    refine ⟨xs4096, text_of un_sl_uint8 un_string un_uint8 hx8, fits (by rw [x_len]; decide), ?_⟩
    rintro _ rfl
    refine callK (header_Parse_ok _ (by rw [List.length_append, x_len]; decide) w8 (he.step hB8)) ?_
    rintro _ w9 ⟨rfl, hb9⟩
    have hB9 := below_step hB8 hb9 hB8.size
    have e4 : parseH ([61] ++ xs4096) = ({ hdr0 with value := xs4096 }, 0) := by
      have := names3 (k := []) (.inl rfl)
      rw [if_pos rfl] at this; exact this
    rw [e4]
    refine ⟨_, _, _, _, _, _, _, _, _, _, _, _, rfl, ?_⟩
    refine hdr_new { hdr0 with value := xs4096 } w9 fun k9 w10 hk9 h10 hb10 => ?_
    have hB10 := below_step hB9 hb10 hB9.size
    refine callK (headerAlive_ok w10 (he.step hB10)) ?_
    rintro _ w11 ⟨rfl, hb11⟩
    refine ⟨_, rfl, BCase.yes rfl (BCase.yes rfl (BCase.yes rfl (BCase.yes rfl (BCase.yes rfl ⟨rfl, _, (h10.below hb11).load1 un_string rfl rfl, xs4096, text_of un_sl_uint8 un_string un_uint8 (((hx8.below hb9).below hb10).below hb11), ?_, below_step hB10 hb11 hB10.size⟩))))⟩
    show Value.bool (xs4096 == xs4096) = _
    simp
end Go.Proofs.YtmlcilfcaogdcaaGreatDoor
