/- What more attributes say: plain law; contract of the law HeaderLast. Its conditions: none. -/
import Derived.Test.YtmlcilfcaogdcaaGreatDoorHdrK
set_option linter.unusedVariables false
set_option linter.unusedSimpArgs false
set_option maxRecDepth 20000
namespace Go.Pk
theorem parse_more {s r : List UInt8} {h : Hdr} (hp : parseH s = (h, 0)) (hr : ∀ c ∈ r, isCtl c = false) : parseH (s ++ 59 :: r) = ((cutC 59 [] r).foldl stepA h, 0) := by
  have hne := cutC_ne 59 s []
  have hcut := cutC_append 59 s [] r
  unfold parseH at hp
  split at hp
  · cases hp
  split at hp
  · cases hp
  split at hp
  · cases hp
  rename_i h1 h2 h3
  obtain ⟨rfl, -⟩ := Prod.mk.inj hp
  have hctl : ¬ (s ++ 59 :: r).any isCtl = true := by
    intro hx
    obtain ⟨c, hc, hcc⟩ := List.any_eq_true.1 hx
    rcases List.mem_append.1 hc with hc | hc
    · exact h1 (List.any_eq_true.2 ⟨c, hc, hcc⟩)
    rcases List.mem_cons.1 hc with rfl | hc
    · cases hcc
    · rw [hr c hc] at hcc; cases hcc
  unfold parseH
  rw [if_neg hctl, hcut]
  generalize cutC 59 [] s = L at *
  cases L with
  | nil => exact absurd rfl hne
  | cons x L =>
    simp only [List.cons_append, List.headD_cons, List.drop_one, List.tail_cons] at *
    rw [if_neg h2, if_neg h3, List.foldl_append]
/-- the digits of a number, told by a loop -/
def digAt (D : List UInt8) (n : Int) (d : List UInt8) : Prop := 0 ≤ n ∧ n ≤ 65535 ∧ (if 0 < n ∨ d = [] then Lib.decDigits n.toNat ++ d = D else d = D)
theorem digAt_0 {n : Int} (h : 0 ≤ n) (h' : n ≤ 65535) : digAt (Lib.decDigits n.toNat) n [] := ⟨h, h', by rw [if_pos (.inr rfl), List.append_nil]⟩
theorem digAt_end {D d : List UInt8} {n : Int} (h : digAt D n d) (hn : ¬ (0 < n ∨ d = [])) : d = D := by have := h.2.2; rwa [if_neg hn] at this
theorem digAt_step {D d : List UInt8} {n : Int} (h : digAt D n d) (hn : 0 < n ∨ d = []) : digAt D (n / 10) (UInt8.ofNat (48 + n.toNat % 10) :: d) := by
  obtain ⟨h0, h1, h2⟩ := h
  rw [if_pos hn] at h2
  refine ⟨by omega, by omega, ?_⟩
  rw [Lib.decDigits] at h2
  split at h2
  · rename_i hl
    rw [if_neg (by simp; omega), ← h2, show n.toNat % 10 = n.toNat by omega]; rfl
  · rename_i hl
    rw [if_pos (.inl (by omega)), show (n / 10).toNat = n.toNat / 10 by omega, ← h2]
    simp
/-- max-age, told last -/
theorem more_age {s : List UInt8} {h : Hdr} (hp : parseH s = (h, 0)) {n : Int} (h0 : 0 ≤ n) (h1 : n ≤ 65535) :
    parseH (s ++ ([59, 32, 109, 97, 120, 45, 97, 103, 101, 32, 61, 32] ++ (Lib.decDigits n.toNat ++ [32]))) = ({ h with hasA := true, age := n }, 0) := by
  obtain ⟨d1, d2, d3⟩ := dd_facts n.toNat
  have hlen : (Lib.decDigits n.toNat).length ≤ 21 := by
    rw [← itoa_pos h0]; exact Lib.itoa_length_le n (by omega) (by omega)
  have hage := age_itoa h0 (by omega)
  rw [itoa_pos h0] at hage
  generalize hD : Lib.decDigits n.toNat = D at *
  have e : ([59, 32, 109, 97, 120, 45, 97, 103, 101, 32, 61, 32] ++ (D ++ [32]) : List UInt8) = 59 :: ([32, 109, 97, 120, 45, 97, 103, 101, 32] ++ 61 :: (32 :: (D ++ [32]))) := rfl
  have hall : ∀ c ∈ ([32, 109, 97, 120, 45, 97, 103, 101, 32, 61, 32] : List UInt8), isCtl c = false ∧ c ≠ 59 := by decide
  have hcl : Clean ([32, 109, 97, 120, 45, 97, 103, 101, 32] ++ 61 :: (32 :: (D ++ [32]))) := by
    have e2 : ([32, 109, 97, 120, 45, 97, 103, 101, 32] ++ 61 :: (32 :: (D ++ [32])) : List UInt8) = [32, 109, 97, 120, 45, 97, 103, 101, 32, 61, 32] ++ (D ++ [32]) := rfl
    rw [e2]
    exact clean_app hall (clean_app (clean_dig d1) (clean_all (by decide)))
  have ht : trimB (32 :: (D ++ [32])) = D := by
    rw [trim_bl_cons rfl]
    have hid := dig_trim d1
    obtain ⟨a, b⟩ := trim_iff.1 hid
    unfold trimB stripB
    have hd : (D ++ [32]).dropWhile isBl = D ++ [32] := by
      cases D with
      | nil => exact absurd rfl d2
      | cons c D => exact hok_cons (dig_clean (d1 c List.mem_cons_self)).2
    rw [hd, stripR_snoc, if_pos (show isBl 32 = true from rfl)]
    exact b
  rw [e, parse_more hp fun c hc => (hcl c hc).1, cutC_last 59 _ [] fun c hc => (hcl c hc).2]
  show (stepA h ([] ++ ([32, 109, 97, 120, 45, 97, 103, 101, 32] ++ 61 :: (32 :: (D ++ [32])))), (0 : Int)) = _
  rw [List.nil_append, step_key (key := [109, 97, 120, 45, 97, 103, 101]) _ (by decide) _ (by decide) (by rw [ht]; omega), ht]
  unfold attrV
  rw [if_neg (by decide), if_pos rfl, hage]
theorem attr_none (h : Hdr) (key v : List UInt8) (hk : key ∉ [kE, kA, kD, kP, kS, kH, kM]) : attrV h key v = h := by
  simp only [List.mem_cons, List.not_mem_nil, or_false, not_or] at hk
  obtain ⟨h1, h2, h3, h4, h5, h6, h7⟩ := hk
  unfold attrV
  rw [if_neg h1, if_neg h2, if_neg h3, if_neg h4, if_neg h5, if_neg h6, if_neg h7]
theorem step_none (h : Hdr) (x : List UInt8) (hk : lowL (aheadL x) ∉ [kE, kA, kD, kP, kS, kH, kM]) : stepA h x = h := by
  unfold stepA
  split
  · exact attr_none h _ _ hk
  · rfl
def rN : List UInt8 := [32, 77, 97, 120, 45, 65, 103, 101, 115, 61, 49, 59, 32, 80, 97, 116, 104, 50, 61, 47, 59, 32, 61, 120, 59, 59]
def rS : List UInt8 := [83, 65, 77, 69, 83, 73, 84, 69, 61, 115, 116, 114, 105, 99, 116, 59, 115, 101, 99, 117, 114, 101, 61, 110, 111]
theorem more_none {s : List UInt8} {h : Hdr} (hp : parseH s = (h, 0)) : parseH (s ++ 59 :: rN) = (h, 0) := by
  rw [parse_more hp (by decide)]
  have e : cutC 59 [] rN = [[32, 77, 97, 120, 45, 65, 103, 101, 115, 61, 49], [32, 80, 97, 116, 104, 50, 61, 47], [32, 61, 120], [], []] := by decide
  rw [e]
  simp only [List.foldl_cons, List.foldl_nil]
  rw [step_none _ _ (by decide), step_none _ _ (by decide), step_none _ _ (by decide), step_none _ _ (by decide), step_none _ _ (by decide)]
theorem more_safe {s : List UInt8} {h : Hdr} (hp : parseH s = (h, 0)) : parseH (s ++ 59 :: rS) = ({ h with same := 3, sec := true }, 0) := by
  rw [parse_more hp (by decide)]
  have e : cutC 59 [] rS = [[83, 65, 77, 69, 83, 73, 84, 69] ++ 61 :: [115, 116, 114, 105, 99, 116], [115, 101, 99, 117, 114, 101] ++ 61 :: [110, 111]] := by decide
  rw [e]
  simp only [List.foldl_cons, List.foldl_nil]
  rw [step_key (key := [115, 101, 99, 117, 114, 101]) _ (by decide) _ (by decide) (by decide), step_key (key := [115, 97, 109, 101, 115, 105, 116, 101]) _ (by decide) _ (by decide) (by decide)]
  have a5 : ∀ (g : Hdr) (v : List UInt8), attrV g [115, 101, 99, 117, 114, 101] v = { g with sec := true } := fun g v => by
    unfold attrV
    rw [if_neg (by decide), if_neg (by decide), if_neg (by decide), if_neg (by decide), if_pos rfl]
  have a7 : ∀ (g : Hdr) (v : List UInt8), attrV g [115, 97, 109, 101, 115, 105, 116, 101] v = { g with same := sameN v } := fun g v => by
    unfold attrV
    rw [if_neg (by decide), if_neg (by decide), if_neg (by decide), if_neg (by decide), if_neg (by decide), if_neg (by decide), if_pos rfl]
  rw [a5, a7]
  rw [show sameN (trimB [115, 116, 114, 105, 99, 116]) = 3 by decide]
end Go.Pk
namespace Go.Proofs.YtmlcilfcaogdcaaGreatDoor
open Go.Pk
open Go.RowKit (Below)
theorem law08_HeaderLast_ok (s : List UInt8) (n : Int) (hn : 0 ≤ n ∧ n ≤ 65535) (hs : s.length ≤ 1048576) (w : World) (he : Env w) : Calls Tryz.prog f_law08_HeaderLast #[.string (mkS s), .int .u16 n] w (Ret (Says w)) := by
  apply run_law08_HeaderLast
  unfold vc_law08_HeaderLast
  have hw16 : IntKind.i64.wrap n = n := wrap_i64 (by omega) (by omega)
  rw [hw16]
  refine callK (headerAlive_ok w he) ?_
  rintro _ w1 ⟨rfl, hB1⟩
  refine ⟨_, rfl, BCase.no rfl ?_⟩
  refine callK (header_Parse_ok s (by omega) w1 (he.step hB1)) ?_
  rintro _ w2 ⟨rfl, hb2⟩
  have hB2 := below_step hB1 hb2 hB1.size
  refine ⟨_, _, _, _, _, _, _, _, _, _, _, _, rfl, ?_⟩
  refine hdr_new (parseH s).1 w2 fun k5 w5 hk5 h5 hb5 => ?_
  have hB5 := below_step hB2 hb5 hB2.size
  refine ⟨fun w' => w' = w5 ∧ s.length ≤ 4000 ∧ (parseH s).2 = 0, ?_, ?_⟩
  · refine BCase.of (fun h => ⟨rfl, hB5⟩) (fun h => ?_)
    exact BCase.of (fun h2 => ⟨rfl, hB5⟩) (fun h2 => ⟨rfl, by simp at h; omega, by simpa using h2⟩)
  refine AllJ.of ?_ _
  rintro wj ⟨hj, hl, he0⟩
  rw [hj]; clear hj
  have hp : parseH s = ((parseH s).1, 0) := by rw [← he0]
  obtain ⟨h, hh⟩ : ∃ h, h = (parseH s).1 := ⟨_, rfl⟩
  rw [← hh] at h5 hp
  have hDl : (Lib.decDigits n.toNat).length ≤ 21 := by rw [← itoa_pos hn.1]; exact Lib.itoa_length_le n (by omega) (by omega)
  refine ⟨fun m d i w' => digAt (Lib.decDigits n.toNat) i d ∧ m = i.toNat + (if d = [] then 1 else 0) ∧ ArrAt w' k5 T_api_Header h.cells ∧ Below w.heap.size w w', ⟨_, digAt_0 hn.1 hn.2, rfl, h5, hB5⟩, ?_⟩
  intro m d i
  refine AllJ.of ?_ _
  rintro wl ⟨hd, rfl, h5l, hBl⟩
  refine ⟨fun w' => w' = wl ∧ (0 < i ∨ d = []), ?_, ?_⟩
  · refine BCase.of (fun h1 => ⟨rfl, .inl (by simpa using h1)⟩) (fun h1 => BCase.of (fun h2 => ⟨rfl, .inr (by simpa using h2)⟩) (fun h2 => ?_))
    have hdD : d = Lib.decDigits n.toNat := digAt_end hd (by
      rintro (h | h)
      · simp at h1; omega
      · simp [h] at h2)
    subst hdD
    refine ⟨fits (by simp; omega), ?_⟩
    intro s51 e51
    refine ⟨fits (by rw [e51]; simp; omega), ?_⟩
    intro s53 e53
    refine ⟨fits (by rw [e53, e51]; simp; omega), ?_⟩
    intro s54 e54
    have f54 : s54 = s ++ ([59, 32, 109, 97, 120, 45, 97, 103, 101, 32, 61, 32] ++ (Lib.decDigits n.toNat ++ [32])) := by rw [e54, e53, e51]; simp only [List.append_assoc]
    refine callK (header_Parse_ok s54 (by rw [f54]; simp; omega) wl (he.step hBl)) ?_
    rintro _ w55 ⟨rfl, hb55⟩
    have hB55 := below_step hBl hb55 hBl.size
    rw [f54, more_age hp hn.1 hn.2]
    refine ⟨_, _, _, _, _, _, _, _, _, _, _, _, rfl, ?_⟩
    refine hdr_new { h with hasA := true, age := n } w55 fun k9 w9 hk9 h9 hb9 => ?_
    have hB9 := below_step hB55 hb9 hB55.size
    have h5a := (h5l.below hb55).below hb9
    refine ⟨fits (by simp; omega), ?_⟩
    intro s60 e60
    refine callK (header_Parse_ok s60 (by rw [e60]; simp; omega) w9 (he.step hB9)) ?_
    rintro _ w61 ⟨rfl, hb61⟩
    have hB61 := below_step hB9 hb61 hB9.size
    rw [e60, show s ++ [59, 32, 77, 97, 120, 45, 65, 103, 101, 115, 61, 49, 59, 32, 80, 97, 116, 104, 50, 61, 47, 59, 32, 61, 120, 59, 59] = s ++ 59 :: rN from rfl, more_none hp]
    refine ⟨_, _, _, _, _, _, _, _, _, _, _, _, rfl, ?_⟩
    refine hdr_new h w61 fun k11 w11 hk11 h11 hb11 => ?_
    have hB11 := below_step hB61 hb11 hB61.size
    have h5b := (h5a.below hb61).below hb11
    have h9b := (h9.below hb61).below hb11
    refine ⟨fits (by simp; omega), ?_⟩
    intro s66 e66
    refine callK (header_Parse_ok s66 (by rw [e66]; simp; omega) w11 (he.step hB11)) ?_
    rintro _ w67 ⟨rfl, hb67⟩
    have hB67 := below_step hB11 hb67 hB11.size
    rw [e66, show s ++ [59, 83, 65, 77, 69, 83, 73, 84, 69, 61, 115, 116, 114, 105, 99, 116, 59, 115, 101, 99, 117, 114, 101, 61, 110, 111] = s ++ 59 :: rS from rfl, more_safe hp]
    refine ⟨_, _, _, _, _, _, _, _, _, _, _, _, rfl, ?_⟩
    refine hdr_new { h with same := 3, sec := true } w67 fun k13 w13 hk13 h13 hb13 => ?_
    have hB13 := below_step hB67 hb13 hB67.size
    have h5c := (h5b.below hb67).below hb13
    have h9c := (h9b.below hb67).below hb13
    have h11c := (h11.below hb67).below hb13
    refine ⟨_, _, _, _, _, _, _, _, _, _, _, hdr_load h h5c, ?_⟩
    refine hdr_new h w13 fun k15 w15 hk15 h15 hb15 => ?_
    have hB15 := below_step hB13 hb15 hB13.size
    have h5d := h5c.below hb15
    have h9d := h9c.below hb15
    have h11d := h11c.below hb15
    have h13d := h13.below hb15
    have l5 := h5c.lt
    have l9 := h9c.lt
    have l11 := h11c.lt
    have l13 := h13.lt
    obtain ⟨w16, hs16, h15e, hg16⟩ := h15.put (P := Tryz.prog) tf_bool (i := 6) (v := .bool true) (by simp [Hdr.cells]) rfl rfl
    obtain ⟨w17, hs17, h15f, hg17⟩ := h15e.put (P := Tryz.prog) tf_int64 (i := 7) (v := .int .i64 n) (by simp [Hdr.cells]) rfl rfl
    have nn : ∀ {x y : Nat}, x < y → some x ≠ some y := fun hlt e => by cases e; omega
    have h5f := (h5d.grown hg16 (nn (by omega))).grown hg17 (nn (by omega))
    have h9f := (h9d.grown hg16 (nn (by omega))).grown hg17 (nn (by omega))
    have h11f := (h11d.grown hg16 (nn (by omega))).grown hg17 (nn (by omega))
    have h13f := (h13d.grown hg16 (nn (by omega))).grown hg17 (nn (by omega))
    have hB16 := hB15.grown hg16 hB15.size (fun x e => by cases e; have := hB13.size; omega)
    have hB17 := hB16.grown hg17 hB16.size (fun x e => by cases e; have := hB13.size; omega)
    have h15g : ArrAt w17 k15 T_api_Header ({ h with hasA := true, age := n } : Hdr).cells := h15f
    refine ⟨rfl, w16, hs16, rfl, w17, hs17, ?_⟩
    refine ⟨_, _, _, _, _, _, _, _, _, _, _, hdr_load h h5f, ?_⟩
    refine hdr_new h w17 fun k16 w18 hk16 h16 hb18 => ?_
    have hB18 := below_step hB17 hb18 hB17.size
    have h5h := h5f.below hb18
    have h9h := h9f.below hb18
    have h11h := h11f.below hb18
    have h13h := h13f.below hb18
    have h15h := h15g.below hb18
    have m5 := h5f.lt
    have m9 := h9f.lt
    have m11 := h11f.lt
    have m13 := h13f.lt
    have m15 := h15g.lt
    obtain ⟨w19, hs19, h16e, hg19⟩ := h16.put (P := Tryz.prog) tf_int (i := 10) (v := .int .i64 3) (by simp [Hdr.cells]) rfl rfl
    obtain ⟨w20, hs20, h16f, hg20⟩ := h16e.put (P := Tryz.prog) tf_bool (i := 8) (v := .bool true) (by simp [Hdr.cells]) rfl rfl
    have h5i := (h5h.grown hg19 (nn (by omega))).grown hg20 (nn (by omega))
    have h9i := (h9h.grown hg19 (nn (by omega))).grown hg20 (nn (by omega))
    have h11i := (h11h.grown hg19 (nn (by omega))).grown hg20 (nn (by omega))
    have h13i := (h13h.grown hg19 (nn (by omega))).grown hg20 (nn (by omega))
    have h15i := (h15h.grown hg19 (nn (by omega))).grown hg20 (nn (by omega))
    have hB19 := hB18.grown hg19 hB18.size (fun x e => by cases e; have := hB17.size; omega)
    have hB20 := hB19.grown hg20 hB19.size (fun x e => by cases e; have := hB17.size; omega)
    have h16g : ArrAt w20 k16 T_api_Header ({ h with same := 3, sec := true } : Hdr).cells := h16f
    refine ⟨rfl, w19, hs19, rfl, w20, hs20, BCase.yes rfl ?_⟩
    refine ⟨_, _, _, _, _, _, _, _, _, _, _, hdr_load _ h9i, _, _, _, _, _, _, _, _, _, _, _, hdr_load _ h15i, _, hdr_eq _ _ _, BCase.yes (hdrEq_refl _) (BCase.yes rfl ?_)⟩
    refine ⟨_, _, _, _, _, _, _, _, _, _, _, hdr_load _ h11i, _, _, _, _, _, _, _, _, _, _, _, hdr_load _ h5i, _, hdr_eq _ _ _, BCase.yes (hdrEq_refl _) (BCase.yes rfl ?_)⟩
    refine ⟨_, _, _, _, _, _, _, _, _, _, _, hdr_load _ h13i, _, _, _, _, _, _, _, _, _, _, _, hdr_load _ h16g, _, hdr_eq _ _ _, ?_⟩
    exact ⟨by rw [hdrEq_refl], hB20⟩
  · refine AllJ.of ?_ _
    rintro w' ⟨hw', hc⟩
    rw [hw']; clear hw'
    have hd' := digAt_step hd hc
    have h0 := hd.1
    have h1 := hd.2.1
    have hdl : d.length ≤ 21 := by
      have := hd.2.2
      rw [if_pos hc] at this
      have := congrArg List.length this
      rw [List.length_append] at this; omega
    refine ⟨by decide, ?_⟩
    rintro _ rfl
    rw [tmod_pos h0, tdiv_pos h0]
    intro k45 w45 hk45 hw45
    have e48 : IntKind.u8.wrap (IntKind.i64.wrap ((48 : Int) + i % 10)) = (((UInt8.ofNat (48 + i.toNat % 10)).toNat : Nat) : Int) := by
      rw [wrap_i64 (by omega) (by omega), wrap_u8 (by omega) (by omega)]
      have : (UInt8.ofNat (48 + i.toNat % 10)).toNat = 48 + i.toNat % 10 := by
        rw [UInt8.toNat_ofNat']; omega
      rw [this]; omega
    rw [e48] at hw45
    have ho : Ow tU8 T_uint8 w45 NoB (some ⟨k45, 0, none⟩) 1 1 [UInt8.ofNat (48 + i.toNat % 10)] := Ow.newF flat_u8 hk45 hw45 (RepL.one (rep_u8 rfl)) (show 1 ≤ maxLen by decide)
    have hb45 : Below wl.heap.size wl w45 := hw45 ▸ below_alloc _ _
    refine ⟨_, text_of un_sl_uint8 un_string un_uint8 ho.all, fits (by simp; omega), ?_⟩
    rintro _ rfl
    refine ⟨by decide, ?_⟩
    rintro _ rfl
    refine ⟨(i / 10).toNat, ?_, ?_, ?_, h5l.below hb45, below_step hBl hb45 hBl.size⟩
    · split
      · omega
      · rename_i hne
        have := hc.resolve_right hne; omega
    · rw [wrap_i64 (by omega) (by omega)]; exact hd'
    · rw [wrap_i64 (by omega) (by omega)]; simp
end Go.Proofs.YtmlcilfcaogdcaaGreatDoor
