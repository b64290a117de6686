/- Contracts of the document's answers of layer 14, the rest. Its conditions: none. -/
import Derived.Test.YtdamklkdjknnpaaSymH
set_option linter.unusedVariables false
set_option linter.unusedSimpArgs false
set_option maxRecDepth 20000
namespace Go.Proofs.Ytdamklkdjknnpaa
open Go.Pk
open Go.RowKit (Below)

theorem u8_eq_lit {c : UInt8} {n : Nat} (hn : n ≤ 255) : (((c.toNat : Nat) : Int) = (n : Int)) ↔ c = UInt8.ofNat n := by
  constructor
  · intro h
    apply UInt8.toNat_inj.1
    rw [toNat_ofNat hn]; omega
  · intro h; subst h; rw [toNat_ofNat hn]
theorem ref14_after_ok (c : UInt8) (w : World) : Calls Try.prog f_ref14_after #[.int .u8 (c.toNat : Nat)] w (Ret fun v w' => v = .int .u8 ((afterN c).toNat : Nat) ∧ w' = w) := by
  apply run_ref14_after
  unfold vc_ref14_after
  have key : ∀ n : Nat, n ≤ 255 → ((((c.toNat : Nat) : Int) == (n : Int)) = decide (c = UInt8.ofNat n)) := fun n hn => by
    rw [Bool.eq_iff_iff, beq_iff_eq, decide_eq_true_eq]; exact u8_eq_lit hn
  have k1 := key 122 (by omega)
  have k2 := key 57 (by omega)
  have k3 := key 45 (by omega)
  have k4 := key 95 (by omega)
  refine BCase.of (fun h => ?_) (fun h => ?_)
  · rw [show (122 : Int) = ((122 : Nat) : Int) from rfl, k1, decide_eq_true_eq] at h; subst h; exact ⟨rfl, rfl⟩
  rw [show (122 : Int) = ((122 : Nat) : Int) from rfl, k1, decide_eq_false_iff_not] at h
  refine BCase.of (fun h2 => ?_) (fun h2 => ?_)
  · rw [show (57 : Int) = ((57 : Nat) : Int) from rfl, k2, decide_eq_true_eq] at h2; subst h2; exact ⟨rfl, rfl⟩
  rw [show (57 : Int) = ((57 : Nat) : Int) from rfl, k2, decide_eq_false_iff_not] at h2
  refine BCase.of (fun h3 => ?_) (fun h3 => ?_)
  · rw [show (45 : Int) = ((45 : Nat) : Int) from rfl, k3, decide_eq_true_eq] at h3; subst h3; exact ⟨rfl, rfl⟩
  rw [show (45 : Int) = ((45 : Nat) : Int) from rfl, k3, decide_eq_false_iff_not] at h3
  refine BCase.of (fun h4 => ?_) (fun h4 => ?_)
  · rw [show (95 : Int) = ((95 : Nat) : Int) from rfl, k4, decide_eq_true_eq] at h4; subst h4; exact ⟨rfl, rfl⟩
  rw [show (95 : Int) = ((95 : Nat) : Int) from rfl, k4, decide_eq_false_iff_not] at h4
  refine ⟨?_, rfl⟩
  have e : afterN c = c + 1 := by
    unfold afterN
    rw [if_neg (show ¬ c = 122 from h), if_neg (show ¬ c = 57 from h2), if_neg (show ¬ c = 45 from h3), if_neg (show ¬ c = 95 from h4)]
  rw [e]
  congr 1
theorem ref14_next_ok (s : Txt) (hs : s.length ≤ 1000000) (w : World) : Calls Try.prog f_ref14_next #[.string (mkS s)] w (Ret fun v w' => v = .string (mkS (nextL s)) ∧ Below w.heap.size w w') := by
  apply run_ref14_next
  unfold vc_ref14_next
  obtain ⟨w1, a, n, c, hr, ho, hb, hf⟩ := bytes_of un_string un_sl_uint8 un_uint8 w s (by omega) NoB
  have hn := ho.len
  subst hn
  refine ⟨w1, a, _, c, hr, ?_⟩
  refine ⟨fun m i w' => ∃ j : Nat, j ≤ s.length ∧ i = (j : Int) - 1 ∧ m = j + 1 ∧ Ow tU8 T_uint8 w' NoB a s.length c (s.take j ++ List.replicate (s.length - j) 97) ∧ incL s.reverse = List.replicate (s.length - j) 97 ++ incL (s.take j).reverse ∧ w1.grownBy w' (ownB a),
    ⟨_, s.length, Nat.le_refl _, by rw [wrap_i64 (by omega) (by omega)], rfl, by simpa using ho, by simp, ⟨rfl, rfl, rfl, Nat.le_refl _, fun _ _ _ => rfl⟩⟩, ?_⟩
  intro m i
  refine AllJ.of ?_ _
  rintro w' ⟨j, hj, rfl, rfl, ho', hinc, hg⟩
  have hll : (s.take j ++ List.replicate (s.length - j) 97).length = s.length := by simp; omega
  have hBg : ∀ {w2 : World}, w1.grownBy w2 (ownB a) → Below w.heap.size w w2 := fun h => hb.grown h hb.size hf
  refine BCase.of (fun h => ?_) (fun h => ?_) <;> simp at h
  · obtain ⟨j, rfl⟩ : ∃ q, j = q + 1 := ⟨j - 1, by omega⟩
    have hjl : j < s.length := by omega
    have et : ((j + 1 : Nat) : Int) - 1 = (j : Int) := by omega
    rw [et] at *
    have hsl := ho'.all
    obtain ⟨v, hv, hrep⟩ := hsl.load1 (i := (j : Int)) un_uint8 rfl rfl (by rw [hll]; simpa using hjl)
    have := u8_rep hrep
    subst this
    have eg : (s.take (j + 1) ++ List.replicate (s.length - (j + 1)) 97)[(j : Int).toNat]'(by rw [hll]; simpa using hjl) = s[j] := by
      simp only [Int.toNat_natCast]
      rw [List.getElem_append_left (by simp; omega)]; simp
    rw [eg] at hv
    have hin : (0 ≤ (j : Int) ∧ (j : Int) < ((s.length : Nat) : Int)) ∧ Option.isSome a = true := ⟨⟨by omega, by omega⟩, hsl.isSome (i := j) (by rw [hll]; exact hjl)⟩
    refine ⟨hin, _, hv, ?_⟩
    refine callK (ref14_after_ok _ w') ?_
    rintro _ w2 ⟨rfl, rfl⟩
    refine ⟨_, rfl, ?_⟩
    have etk : (s.take (j + 1)).reverse = s[j] :: (s.take j).reverse := by rw [take_snoc hjl]; simp
    rw [etk, incL] at hinc
    have hset : ∀ x : UInt8, (s.take (j + 1) ++ List.replicate (s.length - (j + 1)) 97).set j x = s.take j ++ x :: List.replicate (s.length - (j + 1)) 97 := fun x => by
      rw [take_snoc hjl, List.append_assoc, List.set_append_right _ _ (by rw [List.length_take]; exact Nat.min_le_left _ _)]
      simp [Nat.min_eq_left (Nat.le_of_lt hjl)]
    refine BCase.of (fun h2 => ?_) (fun h2 => ?_) <;> simp only [decide_eq_true_eq, decide_eq_false_iff_not] at h2
    · have hpos : 0 < afterN s[j] := by rw [UInt8.lt_iff_toNat_lt]; simpa using h2
      rw [if_pos hpos] at hinc
      refine ⟨hin, _, hv, ?_⟩
      refine callK (ref14_after_ok _ w2) ?_
      rintro _ w2 ⟨rfl, rfl⟩
      obtain ⟨w4, hs4, ho4, hg4⟩ := ho'.store (P := Try.prog) (bytes := 1) (z := .int .u8 0) tf_uint8 (fun _ _ h => h) (i := (j : Int)) (by rw [hll]; simpa using hjl) (k := 1) rfl (v := .int .u8 ((afterN s[j]).toNat : Nat)) (rep_u8 rfl)
      simp only [Int.toNat_natCast] at ho4
      rw [hset] at ho4
      refine ⟨_, rfl, hin, w4, hs4, _, text_of un_sl_uint8 un_string un_uint8 ho4.all, ?_, hBg ⟨hg4.os.trans hg.os, hg4.tape.trans hg.tape, hg4.output.trans hg.output, Nat.le_trans hg.size hg4.size, fun k hk hne => (hg4.block k (Nat.lt_of_lt_of_le hk hg.size) hne).trans (hg.block k hk hne)⟩⟩
      unfold nextL; rw [hinc]; simp
    · have hno : ¬ 0 < afterN s[j] := by rw [UInt8.lt_iff_toNat_lt]; simpa using h2
      rw [if_neg hno] at hinc
      obtain ⟨w4, hs4, ho4, hg4⟩ := ho'.store (P := Try.prog) (bytes := 1) (z := .int .u8 0) tf_uint8 (fun _ _ h => h) (i := (j : Int)) (by rw [hll]; simpa using hjl) (k := 1) rfl (v := .int .u8 (97 : Int)) (x := 97) (rep_u8 rfl)
      simp only [Int.toNat_natCast] at ho4
      rw [hset] at ho4
      refine ⟨hin, w4, hs4, j + 1, by omega, j, by omega, ?_, rfl, ?_, ?_, ⟨hg4.os.trans hg.os, hg4.tape.trans hg.tape, hg4.output.trans hg.output, Nat.le_trans hg.size hg4.size, fun k hk hne => (hg4.block k (Nat.lt_of_lt_of_le hk hg.size) hne).trans (hg.block k hk hne)⟩⟩
      · rw [wrap_i64 (by omega) (by omega)]
      · have : s.length - j = (s.length - (j + 1)) + 1 := by omega
        rw [this, List.replicate_succ]; exact ho4
      · have : s.length - j = (s.length - (j + 1)) + 1 := by omega
        rw [hinc, this, List.replicate_succ']; simp
  · have : j = 0 := by omega
    subst this
    refine ⟨_, text_of un_sl_uint8 un_string un_uint8 ho'.all, ?_, ?_, hBg hg⟩
    · rw [hll]; show (((s.length + 1 : Nat) : Int) ≤ _); unfold IntKind.max; simp [IntKind.bits]; omega
    · unfold nextL; rw [hinc]
      simp [incL]
      rw [← List.replicate_succ', List.replicate_succ]

theorem digs_len (n : Nat) : (digs n).length ≤ n := by
  induction n using Nat.strongRecOn with
  | _ n ih =>
    by_cases h : n = 0
    · subst h; rw [digs_zero]; exact Nat.le_refl _
    · rw [digs_pos h]
      have := ih ((n - 1) / 38) (by omega)
      simp; omega
theorem nameL_len (n : Nat) : (nameL n).length ≤ n := by unfold nameL; rw [List.length_reverse]; exact digs_len n
theorem nameL_one : nameL 1 = [97] := by
  have := nameL_succ 0
  rw [this]; unfold nameL; rw [digs_zero]; rfl
theorem ref14_Fresh_ok (a : Option Addr) (n c : Nat) (l : List Txt) (hl : l.length ≤ 100000) (w : World) (hs : Sl tS w AllB a n c l) :
    Calls Try.prog f_ref14_Fresh #[.slice a n c] w (Ret fun v w' => v = .string (mkS (freshT l)) ∧ Below w.heap.size w w') := by
  apply run_ref14_Fresh
  unfold vc_ref14_Fresh
  have hn := hs.len
  subst hn
  refine ⟨fun m s i w' => ∃ k : Nat, k ≤ l.length ∧ i = (k : Int) ∧ m = l.length - k ∧ s = nameL (k + 1) ∧ (∀ j, 1 ≤ j → j < k + 1 → nameL j ∈ l) ∧ Below w.heap.size w w',
    ⟨_, 0, by omega, rfl, rfl, nameL_one.symm, fun j h1 h2 => by omega, Below.refl _ _⟩, ?_⟩
  intro m s i
  refine AllJ.of ?_ _
  rintro w' ⟨k, hk, rfl, rfl, rfl, hall, hb⟩
  refine ⟨fun w'' => w'' = w' ∧ nameL (k + 1) ∈ l, ?_, ?_⟩
  · refine BCase.of (fun h => ?_) (fun h => ?_) <;> simp at h
    · refine callK (ref14_has_ok a _ c l _ w' (hs.below hb)) ?_
      rintro _ w' ⟨rfl, rfl⟩
      refine ⟨_, rfl, ?_⟩
      refine BCase.of (fun h2 => ?_) (fun h2 => ?_) <;> simp only [decide_eq_true_eq, decide_eq_false_iff_not] at h2
      · exact ⟨rfl, h2⟩
      · exact ⟨by rw [freshT_of ⟨by omega, h2, hall⟩], hb⟩
    · omega
  · refine AllJ.of ?_ _
    rintro _ ⟨rfl, hm⟩
    have hall' : ∀ j, 1 ≤ j → j < k + 1 + 1 → nameL j ∈ l := fun j h1 h2 => by
      by_cases e : j = k + 1
      · rw [e]; exact hm
      · exact hall j h1 (by omega)
    have hle := fresh_le hall'
    have hkl := nameL_len (k + 1)
    refine callK (ref14_next_ok _ (by omega) _) ?_
    rintro _ w3 ⟨rfl, hb3⟩
    refine ⟨_, rfl, l.length - (k + 1), by omega, k + 1, by omega, ?_, rfl, (nameL_succ _).symm, hall', below_step hb hb3 hb.size⟩
    rw [wrap_i64 (by omega) (by omega)]; omega

theorem ref14_Text_ok (a : Option Addr) (n c : Nat) (l : List Txt) (i : Int) (hl : l.length ≤ 100000) (hx : ∀ x ∈ l, x.length ≤ 1000000) (w : World) (hs : Sl tS w AllB a n c l) :
    Calls Try.prog f_ref14_Text #[.slice a n c, .int .i64 i] w (Ret fun v w' => v = .string (mkS (textT (setL l) i)) ∧ Below w.heap.size w w') := by
  apply run_ref14_Text
  unfold vc_ref14_Text
  refine callK (ref14_Texts_ok a n c l (by omega) w hs) ?_
  rintro _ w1 ⟨a1, n1, c1, rfl, ho, hf, hb⟩
  have hn1 := ho.len
  have htl := textsL_len l
  have hlen := (textsL_law l).2.2
  have hof : ∀ s, ofT (textsL l) s = ofT (setL l) s := ofT_eq (textsL_law l).1 (setL_nodup l) (textsL_setL l)
  have hmem := (textsL_law l).2.1
  have hset := textsL_setL l
  subst hn1
  refine ⟨_, _, _, rfl, ?_⟩
  refine BCase.of (fun h => ?_) (fun h => ?_) <;> simp only [beq_iff_eq, beq_eq_false_iff_ne] at h
  · refine callK (ref14_Fresh_ok a n c l hl w1 (hs.below hb)) ?_
    rintro _ w2 ⟨rfl, hb2⟩
    refine ⟨_, rfl, ?_, below_step hb hb2 hb.size⟩
    unfold textT; rw [if_pos (by rw [h, htl]), freshT_eq (fun x => (mem_setL (l := l)).symm)]
  · refine ⟨fun m j w' => ∃ k : Nat, k ≤ (textsL l).length ∧ j = (k : Int) ∧ m = (textsL l).length - k ∧ (∀ q (hq : q < (textsL l).length), q < k → ofT (setL l) (textsL l)[q] ≠ i) ∧ Below w1.heap.size w1 w',
      ⟨_, 0, by omega, rfl, rfl, fun q _ h => by omega, Below.refl _ _⟩, ?_⟩
    intro m j
    refine AllJ.of ?_ _
    rintro w' ⟨k, hk, rfl, rfl, hno, hb'⟩
    have hsl := (ho.below hb').all
    refine BCase.of (fun h2 => ?_) (fun h2 => ?_) <;> simp at h2
    · obtain ⟨v, hv, hrep⟩ := hsl.load1 (i := (k : Int)) un_string rfl rfl (by simpa using h2)
      obtain ⟨rfl, -⟩ := str_rep hrep
      simp only [Int.toNat_natCast] at hv
      have hB := below_step hb hb' hb.size
      refine ⟨⟨⟨by omega, by omega⟩, hsl.isSome h2⟩, _, hv, ?_⟩
      refine callK (ref14_Of_ok a n c l _ (by omega) hx (hx _ ((hmem _).1 (List.getElem_mem h2))) w' (hs.below hB)) ?_
      rintro _ w3 ⟨rfl, hb3⟩
      rw [hof]
      refine ⟨_, rfl, ?_⟩
      refine BCase.of (fun h3 => ?_) (fun h3 => ?_) <;> simp only [beq_iff_eq, beq_eq_false_iff_ne] at h3
      · refine ⟨?_, below_step hB hb3 hB.size⟩
        obtain ⟨q, hq, e⟩ := List.getElem_of_mem ((hset _).1 (List.getElem_mem h2))
        rw [← e, ofT_get (setL_lt l) hq] at h3
        unfold textT
        rw [if_neg (by omega), if_pos (by omega)]
        have : i.toNat = q := by omega
        rw [this, List.getElem?_eq_getElem hq, ← e]; rfl
      · refine ⟨(textsL l).length - (k + 1), by omega, k + 1, by omega, ?_, rfl, ?_, below_step hb' hb3 hb'.size⟩
        · rw [wrap_i64 (by omega) (by omega)]; omega
        · intro q hq hqk
          by_cases e : q = k
          · subst e; exact h3
          · exact hno q hq (by omega)
    · have : k = (textsL l).length := by omega
      subst this
      refine ⟨?_, below_step hb hb' hb.size⟩
      unfold textT
      rw [if_neg (by omega)]
      split
      · rename_i h5
        have hq : i.toNat < (setL l).length := by omega
        obtain ⟨q, hq2, e⟩ := List.getElem_of_mem ((hset _).2 (List.getElem_mem hq))
        have := hno q hq2 hq2
        rw [e, ofT_get (setL_lt l) hq] at this
        omega
      · rfl

theorem law14_great_ok (a : Option Addr) (n c : Nat) (l : List Txt) (w : World) (hs : Sl tS w AllB a n c l) :
    Calls Try.prog f_law14_great #[.slice a n c] w (Ret fun v w' => ∃ b, v = .bool b ∧ (b = false → l.length ≤ 60 ∧ ∀ x ∈ l, x.length ≤ 100) ∧ w' = w) := by
  apply run_law14_great
  unfold vc_law14_great
  have hn := hs.len
  have hle := hs.le
  subst hn
  refine ⟨fun m i w' => w' = w ∧ ∃ k : Nat, k ≤ l.length ∧ i = (k : Int) ∧ m = l.length - k ∧ ∀ x ∈ l.take k, x.length ≤ 100, ⟨_, rfl, 0, by omega, rfl, rfl, by simp⟩, ?_⟩
  intro m i
  refine AllJ.of ?_ _
  rintro _ ⟨rfl, k, hk, rfl, rfl, hno⟩
  refine BCase.of (fun h => ?_) (fun h => ?_) <;> simp at h
  · obtain ⟨v, hv, hrep⟩ := hs.load1 (i := (k : Int)) un_string rfl rfl (by simpa using h)
    obtain ⟨rfl, -⟩ := str_rep hrep
    simp only [Int.toNat_natCast] at hv
    refine ⟨⟨⟨by omega, by omega⟩, hs.isSome h⟩, _, hv, ?_⟩
    refine BCase.of (fun h2 => ?_) (fun h2 => ?_) <;> simp at h2
    · exact ⟨_, rfl, (fun e => by cases e), rfl⟩
    · refine ⟨l.length - (k + 1), by omega, rfl, k + 1, by omega, ?_, rfl, ?_⟩
      · rw [wrap_i64 (by omega) (by omega)]; omega
      · rw [take_snoc h]
        intro x hx
        rcases List.mem_append.1 hx with h3 | h3
        · exact hno x h3
        · simp at h3; subst h3; omega
  · have : k = l.length := by omega
    subst this
    rw [List.take_length] at hno
    refine ⟨_, rfl, fun e => ⟨?_, hno⟩, rfl⟩
    simp at e; omega
end Go.Proofs.Ytdamklkdjknnpaa
