/- Contracts of the laws DateBack, DateParts. Its conditions: none. -/
import Derived.Test.YtmlcilfcaogdcaaDoorDateX
set_option linter.unusedVariables false
set_option linter.unusedSimpArgs false
set_option maxRecDepth 20000
namespace Go.Pk
open Go.RowKit (Below)
theorem text_cases (t : Int) : (textV t = [] ∧ (t / 86400 < -134774 ∨ 2932896 < t / 86400)) ∨ ∃ y m d, isDate y m d ∧ daysOf y m d = t / 86400 ∧ textV t = textD (t / 86400) y m d (t % 86400) := by
  by_cases hr : t / 86400 < -134774 ∨ 2932896 < t / 86400
  · exact .inl ⟨textV_none hr, hr⟩
  · obtain ⟨y, m, d, hd, he⟩ := civ_ex (n := t / 86400) (by omega) (by omega)
    exact .inr ⟨y, m, d, hd, he, textV_of hd he⟩
def sepL : List UInt8 := [9, 32, 44, 47, 59, 64, 91, 95, 96, 123, 126, 45]
theorem sep_part : ∀ k (h : k < sepL.length), isPart sepL[k] = true := by decide
def blankTo (c x : UInt8) : UInt8 := if x = 32 then c else x
theorem keep_part {c x : UInt8} (h : isPart x = false) : blankTo c x = x := by
  unfold blankTo
  rw [if_neg]
  rintro rfl
  exact absurd h (by decide)
theorem map_keep {c : UInt8} {l : List UInt8} (h : ∀ x ∈ l, isPart x = false) : l.map (blankTo c) = l := by
  have : l.map (blankTo c) = l.map id := List.map_congr_left fun x hx => keep_part (h x hx)
  rw [this, List.map_id]
theorem tail_blank (c : UInt8) {y m d s : Int} (h : isDate y m d) : (tailD 32 y m d s).map (blankTo c) = tailD c y m d s := by
  have hm := mon_facts (m - 1).toNat (by have := h.2.2.2.1; have := h.2.2.1; omega)
  rw [show (((m - 1).toNat : Nat) : Int) + 1 = m by have := h.2.2.2.1; have := h.2.2.1; omega] at hm
  have hmp : ∀ x ∈ monN m, isPart x = false := fun x hx => by have := List.all_eq_true.1 hm.2.2.2 x hx; simpa using this
  have hb : blankTo c 32 = c := rfl
  unfold tailD
  simp only [List.map_append, List.map_cons, List.map_nil, hb]
  rw [map_keep (fun x hx => dig_part (two_dig d x hx)), map_keep hmp, map_keep (fun x hx => dig_part (two_dig (y / 100) x hx)), map_keep (fun x hx => dig_part (two_dig (y % 100) x hx)), map_keep (clock_part (s := s))]
  rfl
theorem tail_len (c : UInt8) {y m d s : Int} (h : isDate y m d) : (tailD c y m d s).length = 24 := by
  have h1 := textD_len (n := 0) (s := s) h
  rw [textD_tail] at h1
  have h2 : (weekN (0 % 7)).length = 3 := rfl
  simp only [List.length_append, List.length_cons, h2] at h1
  have h3 : (tailD c y m d s).length = (tailD 32 y m d s).length := by simp [tailD]
  omega
theorem text_drop {n y m d s : Int} (h : isDate y m d) : (textD n y m d s).drop 5 = tailD 32 y m d s := by
  have h1 := textD_len (n := n) (s := s) h
  have h2 := tail_len 32 (s := s) h
  rw [textD_tail] at h1 ⊢
  have h3 : (weekN (n % 7)).length = 3 := by simp only [List.length_append, List.length_cons] at h1; omega
  rw [List.drop_append, h3, List.drop_eq_nil_of_le (by omega)]; rfl
end Go.Pk
namespace Go.Proofs.YtmlcilfcaogdcaaDoor
open Go.Pk
open Go.RowKit (Below)
theorem law07_DateBack_ok (t : Int) (hn : -9223372036854775808 ≤ t ∧ t ≤ 9223372036854775807) (w : World) (ht : TabOk Tryd.prog w) : Calls Tryd.prog f_law07_DateBack #[.int .i64 t] w (Ret (Says w)) := by
  apply run_law07_DateBack
  unfold vc_law07_DateBack
  refine callK (dateAlive_ok w ht) ?_
  rintro _ w1 ⟨rfl, hb1⟩
  refine ⟨_, rfl, BCase.no rfl ?_⟩
  refine callK (date_Text_ok t hn.1 hn.2 w1 (tab_step ht hb1)) ?_
  rintro _ w2 ⟨rfl, hb2⟩
  have hb12 := below_step hb1 hb2 hb1.size
  refine ⟨_, rfl, by decide, ?_⟩
  obtain ⟨e1, e2⟩ := trunc_div (t := t) (b := 86400) (by decide)
  have hq : -9223372036854775808 ≤ Int.tdiv t 86400 ∧ Int.tdiv t 86400 ≤ 9223372036854775807 := by
    by_cases c : 0 ≤ t
    · rw [(e1 c).1]; omega
    · rw [(e2 (by omega)).1]; omega
  rw [wrap_i64 hq.1 hq.2]
  rintro _ rfl
  refine callK (date_Civil_ok _ w2 hq) ?_
  rintro _ w3 ⟨rfl, hb3⟩
  have hb13 := below_step hb12 hb3 hb12.size
  obtain ⟨y, m, d, b, e, hyes, hno⟩ := civV_cases (Int.tdiv t 86400)
  rw [e]
  refine ⟨_, _, _, _, rfl, ?_⟩
  refine worldJ (fun w' => Below w.heap.size w w') ?_ ?_
  · refine BCase.of (fun h => ?_) (fun h => ?_)
    · obtain ⟨hd, he⟩ := hyes h
      have hdd := hd.2.2.2.2
      have hl := lenM_le y m
      refine callK (date_Days_ok y m d (by omega) w3) ?_
      rintro _ w4 ⟨rfl, hb4⟩
      refine ⟨_, _, rfl, ?_⟩
      rw [decide_eq_true hd, if_pos hd, he]
      refine BCase.no rfl ⟨by decide, ?_⟩
      rintro _ rfl
      exact BCase.no (by simp) (below_step hb13 hb4 hb13.size)
    · exact hb13
  intro w4 hb4
  rcases text_cases t with ⟨e3, hr⟩ | ⟨y2, m2, d2, hd, he, e3⟩
  · rw [e3]
    refine BCase.yes rfl ?_
    refine BCase.of (fun h => ⟨rfl, hb4⟩) (fun h => ?_)
    refine ⟨by decide, ?_⟩
    rintro _ rfl
    refine ⟨?_, hb4⟩
    congr 1
    rw [decide_eq_true_eq]
    have hb : b = true := by simpa using h
    obtain ⟨hd, he⟩ := hyes hb
    have hrange := day_range hd
    by_cases c : 0 ≤ t
    · rw [he, (e1 c).1] at hrange; omega
    · obtain ⟨e4, e5⟩ := e2 (by omega)
      rw [he, e4] at hrange
      rw [e5]; omega
  · have hlen := textD_len (n := t / 86400) (s := t % 86400) hd
    rw [e3]
    refine BCase.no ?_ ?_
    · rw [beq_eq_false_iff_ne]; intro e; rw [e] at hlen; cases hlen
    refine callK (date_Cookie_ok _ (by rw [hlen]; decide) w4) ?_
    rintro _ w5 ⟨rfl, hb5⟩
    rw [text_told hd (by omega) (by omega), full_cook hd he]
    refine ⟨_, _, rfl, BCase.yes rfl (BCase.yes (beq_self_eq_true _) ⟨?_, below_step hb4 hb5 hb4.size⟩)⟩
    rw [hlen]; rfl
theorem law07_DateParts_ok (t : Int) (c : Int) (hn : -9223372036854775808 ≤ t ∧ t ≤ 9223372036854775807) (hc0 : 0 ≤ c) (hc1 : c ≤ 255) (w : World) (ht : TabOk Tryd.prog w) : Calls Tryd.prog f_law07_DateParts #[.int .i64 t, .int .u8 c] w (Ret (Says w)) := by
  apply run_law07_DateParts
  unfold vc_law07_DateParts
  refine callK (dateAlive_ok w ht) ?_
  rintro _ w1 ⟨rfl, hb1⟩
  refine ⟨_, rfl, BCase.no rfl ?_⟩
  refine callK (date_Text_ok t hn.1 hn.2 w1 (tab_step ht hb1)) ?_
  rintro _ w2 ⟨rfl, hb2⟩
  have hb12 := below_step hb1 hb2 hb1.size
  refine ⟨_, rfl, ?_⟩
  rcases text_cases t with ⟨e3, hr⟩ | ⟨y, m, d, hd, he, e3⟩
  · rw [e3]; exact BCase.yes rfl ⟨rfl, hb12⟩
  have hlen := textD_len (n := t / 86400) (s := t % 86400) hd
  rw [e3]
  refine BCase.no ?_ ?_
  · rw [beq_eq_false_iff_ne]; intro e; rw [e] at hlen; cases hlen
  have hs0 : 0 ≤ t % 86400 ∧ t % 86400 < 86400 := by omega
  generalize hS : t % 86400 = S at *
  rw [wrap_i64 (n := c) (by omega) (by omega), tmod_pos hc0]
  refine ⟨by decide, ?_⟩
  rintro _ rfl
  obtain ⟨q, hq⟩ : ∃ q : Nat, c % 12 = (q : Int) := ⟨(c % 12).toNat, by omega⟩
  rw [hq]
  have hql : q < sepL.length := by show q < 12; omega
  have hg : byteAt [9, 32, 44, 47, 59, 64, 91, 95, 96, 123, 126, 45] (q : Int) = ((sepL[q].toNat : Nat) : Int) := byteAt_get (s := sepL) (i := (q : Int)) (by simpa using hql)
  rw [hg]
  have hcp := sep_part q hql
  generalize sepL[q] = x at *
  refine ⟨⟨by omega, by simp only [List.length_cons, List.length_nil]; omega⟩, ⟨by decide, by rw [hlen]; decide⟩, ?_⟩
  rintro _ rfl
  rw [show Int.toNat (5 : Int) = 5 from rfl, text_drop hd]
  have hl32 := tail_len 32 (s := S) hd
  have hlx := tail_len x (s := S) hd
  obtain ⟨w3, a, n, cc, hr, ho, hb3, hf⟩ := bytes_of un_string un_sl_uint8 un_uint8 w2 (tailD 32 y m d S) (by omega) NoB
  have hnn := ho.len
  rw [hl32] at hnn
  subst hnn
  have hb13 := below_step hb12 hb3 hb12.size
  have hfw : ∀ g, ownB a = some g → w.heap.size ≤ g := fun g h => Nat.le_trans hb12.size (hf g h)
  refine ⟨w3, a, _, cc, hr, ?_⟩
  refine ⟨fun mm i w' => ∃ k : Nat, k ≤ 24 ∧ i = (k : Int) ∧ mm = 24 - k ∧ Ow tU8 T_uint8 w' NoB a 24 cc (((tailD 32 y m d S).take k).map (blankTo x) ++ (tailD 32 y m d S).drop k) ∧ Below w.heap.size w w',
    ⟨_, 0, by omega, rfl, rfl, by simpa using ho, hb13⟩, ?_⟩
  intro mm i
  refine AllJ.of ?_ _
  rintro w4 ⟨k, hk, rfl, rfl, ho', hb4⟩
  have ht32 := tail_blank x (s := S) hd
  generalize hL : tailD 32 y m d S = L at *
  have hll : ((L.take k).map (blankTo x) ++ L.drop k).length = 24 := by simp; omega
  refine BCase.of (fun h => ?_) (fun h => ?_) <;> simp only [decide_eq_true_eq, decide_eq_false_iff_not] at h
  · have hlt : k < L.length := by omega
    have hlk : ((L.take k).map (blankTo x)).length = k := by simp; omega
    have hsl := ho'.all
    obtain ⟨v, hv, hrep⟩ := hsl.load1 (i := (k : Int)) un_uint8 rfl rfl (by rw [hll]; omega)
    have := u8_rep hrep
    subst this
    have eg : ((L.take k).map (blankTo x) ++ L.drop k)[(k : Int).toNat]'(by rw [hll]; omega) = L[k] := by
      simp only [Int.toNat_natCast]
      rw [List.getElem_append_right (by rw [hlk]; exact Nat.le_refl _)]
      simp only [List.getElem_drop, hlk, Nat.sub_self, Nat.add_zero]
    rw [eg] at hv
    have hin : (0 ≤ (k : Int) ∧ (k : Int) < ((24 : Nat) : Int)) ∧ Option.isSome a = true := ⟨⟨by omega, by omega⟩, hsl.isSome (i := k) (by rw [hll]; omega)⟩
    have e1 : IntKind.i64.wrap ((k : Int) + 1) = ((k + 1 : Nat) : Int) := by rw [wrap_i64 (by omega) (by omega)]; omega
    rw [e1]
    have hstep : ∀ z, ((L.take k).map (blankTo x) ++ L.drop k).set k z = (L.take k).map (blankTo x) ++ z :: L.drop (k + 1) := fun z => by
      rw [List.set_append_right _ _ (by rw [hlk]; exact Nat.le_refl _), hlk, Nat.sub_self, List.drop_eq_getElem_cons hlt]; rfl
    have hnext : (L.take (k + 1)).map (blankTo x) ++ L.drop (k + 1) = (L.take k).map (blankTo x) ++ blankTo x L[k] :: L.drop (k + 1) := by
      rw [List.take_succ_eq_append_getElem hlt, List.map_append, List.append_assoc]; rfl
    refine ⟨hin, _, hv, ?_⟩
    refine BCase.of (fun h2 => ?_) (fun h2 => ?_)
    · have h32 : L[k] = 32 := u8_inj (by simpa using h2)
      obtain ⟨w5, hs5, ho5, hg5⟩ := ho'.store (P := Tryd.prog) (bytes := 1) (z := .int .u8 0) tf_uint8 (fun _ _ h => h) (i := (k : Int)) (by rw [hll]; omega) (k := 1) rfl (v := .int .u8 ((x.toNat : Nat) : Int)) (x := x) (rep_u8 rfl)
      simp only [Int.toNat_natCast] at ho5
      rw [hstep] at ho5
      refine ⟨hin, w5, hs5, 24 - (k + 1), by omega, k + 1, by omega, rfl, rfl, ?_, hb4.grown hg5 hb4.size hfw⟩
      rw [hnext, h32]; exact ho5
    · have h32 : L[k] ≠ 32 := fun e => by rw [e] at h2; cases h2
      refine ⟨24 - (k + 1), by omega, k + 1, by omega, rfl, rfl, ?_, hb4⟩
      rw [hnext]
      have : blankTo x L[k] = L[k] := by unfold blankTo; rw [if_neg h32]
      rw [this, ← List.drop_eq_getElem_cons hlt]; exact ho'
  · have hk24 : k = 24 := by omega
    subst hk24
    rw [List.take_of_length_le (by omega), List.drop_eq_nil_of_le (by omega), List.append_nil, ht32] at ho'
    refine ⟨_, text_of un_sl_uint8 un_string un_uint8 ho'.all, ?_⟩
    refine callK (date_Cookie_ok _ (by omega) w4) ?_
    rintro _ w5 ⟨rfl, hb5⟩
    have hb45 := below_step hb4 hb5 hb4.size
    have t1 : toldV (tailD x y m d S) = fullF y m d S := by
      have := tail_told hcp hd hs0.1 hs0.2 [] (.inl rfl)
      rw [List.append_nil] at this; exact this
    have t2 : toldV ([120] ++ [x, x] ++ tailD x y m d S ++ [x] ++ [121]) = fullF y m d S := by
      have e : ([120] ++ [x, x] ++ tailD x y m d S ++ [x] ++ [121]) = [120] ++ x :: (x :: (tailD x y m d S ++ x :: [121])) := by simp
      unfold toldV
      rw [e, cutP_tok [120] [] _ x (by decide) hcp]
      have e2 : ∀ r, cutP [] (x :: r) = [] :: cutP [] r := fun r => by
        show (if isPart x = true then _ else _) = _
        rw [if_pos hcp]
      rw [e2, List.foldl_cons, List.foldl_cons, tokV_nil]
      have e3 : tokV fnd0 ([] ++ [120]) = fnd0 := by kernel_rfl
      rw [e3]
      exact tail_told hcp hd hs0.1 hs0.2 _ (.inr ⟨_, rfl⟩)
    have hfull : cookV (fullF y m d S) = .tuple #[.int .i64 t, .bool true] := by rw [← hS]; exact full_cook hd he
    rw [t1, hfull]
    refine ⟨_, _, rfl, ?_⟩
    intro k50 w50 hk50 hw50
    have hb50 := below_step hb45 (hw50 ▸ below_alloc _ _) hb45.size
    have ho50 : Ow tU8 T_uint8 w50 NoB (some ⟨k50, 0, none⟩) 2 2 [x, x] := Ow.newF (l := [_, _]) flat_u8 hk50 hw50 (RepL.append (xs := [x]) (ys := [x]) (l := [_]) (m := [_]) (RepL.one (rep_u8 rfl)) (RepL.one (rep_u8 rfl))) (show 2 ≤ maxLen by decide)
    refine ⟨_, text_of un_sl_uint8 un_string un_uint8 ho50.all, fits (by simp), ?_⟩
    rintro _ rfl
    refine ⟨_, text_of un_sl_uint8 un_string un_uint8 ((ho'.below hb5).below (hw50 ▸ below_alloc _ _)).all, fits (by rw [hlx]; simp), ?_⟩
    rintro _ rfl
    intro k57 w57 hk57 hw57
    have hb57 := below_step hb50 (hw57 ▸ below_alloc _ _) hb50.size
    have ho57 : Ow tU8 T_uint8 w57 NoB (some ⟨k57, 0, none⟩) 1 1 [x] := Ow.newF (l := [_]) flat_u8 hk57 hw57 (RepL.one (rep_u8 rfl)) (show 1 ≤ maxLen by decide)
    refine ⟨_, text_of un_sl_uint8 un_string un_uint8 ho57.all, fits (by simp [hlx]), ?_⟩
    rintro _ rfl
    refine ⟨fits (by simp [hlx]), ?_⟩
    rintro _ rfl
    refine callK (date_Cookie_ok _ (by simp [hlx]) w57) ?_
    rintro _ w6 ⟨rfl, hb6⟩
    rw [t2, hfull]
    exact ⟨_, _, rfl, BCase.yes rfl (BCase.yes rfl (BCase.yes (beq_self_eq_true _) ⟨by rw [beq_self_eq_true], below_step hb57 hb6 hb57.size⟩))⟩
end Go.Proofs.YtmlcilfcaogdcaaDoor
