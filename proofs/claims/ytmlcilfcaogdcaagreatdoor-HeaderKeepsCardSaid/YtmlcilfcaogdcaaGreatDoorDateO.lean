/- Contracts of the document's time, month. Its conditions: none. -/
import Derived.Test.YtmlcilfcaogdcaaGreatDoorDateN
set_option linter.unusedVariables false
set_option linter.unusedSimpArgs false
set_option maxRecDepth 20000
namespace Go.Pk
def stepD (u : List UInt8) : Option (Int × List UInt8) := if 1 ≤ (digP u).length ∧ (digP u).length ≤ 2 then some (decV (digP u), u.drop (digP u).length) else none
def clockRest (f i : Nat) (u : List UInt8) : Option (List Int) := (stepD u).bind fun p => (clockFrom f (i + 1) p.2).map (p.1 :: ·)
theorem clockFrom_rest (f i : Nat) (s : List UInt8) : clockFrom (f + 1) i s = (colon i s).bind (clockRest f i) := by
  show (stepC i s).bind _ = _
  unfold stepC clockRest
  cases colon i s <;> rfl
theorem clockRest_none {f i : Nat} {u : List UInt8} (h : stepD u = none) : clockRest f i u = none := by unfold clockRest; rw [h]; rfl
theorem clockRest_some {f i : Nat} {u : List UInt8} {p : Int × List UInt8} (h : stepD u = some p) : clockRest f i u = (clockFrom f (i + 1) p.2).map (p.1 :: ·) := by unfold clockRest; rw [h]; rfl
end Go.Pk
namespace Go.Proofs.YtmlcilfcaogdcaaGreatDoor
open Go.Pk
open Go.RowKit (Below)
def TimePost (s : List UInt8) (w : World) (v : Value) (w' : World) : Prop :=
  ∃ (a : Option Addr) (n c : Nat) (b : Bool), v = .tuple #[.slice a n c, .bool b] ∧ Below w.heap.size w w' ∧ (clockV s = none ∧ b = false ∨ ∃ l, clockV s = some l ∧ b = true ∧ Ow tI64 T_int w' NoB a n c l ∧ Fresh w.heap.size a)
theorem ref07_time_ok (s : List UInt8) (hs : s.length ≤ 9223372036854775000) (w : World) : Calls Tryz.prog f_ref07_time #[.string (mkS s)] w (Ret (TimePost s w)) := by
  apply run_ref07_time
  unfold vc_ref07_time
  intro k7 w7 hk7 hw7
  have hB7 : Below w.heap.size w w7 := hw7 ▸ below_alloc _ _
  have ho7 : Ow tI64 T_int w7 NoB (some ⟨k7, 0, none⟩) 0 0 [] := Ow.newF flat_i64 hk7 hw7 (RepL.nil _ _ _) (Nat.zero_le _)
  refine ⟨fun m u a n c i w' => ∃ (k : Nat) (out : List Int), k ≤ 3 ∧ i = (k : Int) ∧ m = 3 - k ∧ out.length = k ∧ (k < 3 → clockV s = (clockRest (2 - k) k u).map (out ++ ·)) ∧ (k = 3 → clockV s = some out) ∧ u.length ≤ s.length ∧
      Ow tI64 T_int w' NoB a n c out ∧ Fresh w.heap.size a ∧ Below w.heap.size w w',
    ⟨_, 0, [], by omega, rfl, rfl, rfl, fun _ => ?_, fun h => (by omega), Nat.le_refl _, ho7, fresh_new hk7, hB7⟩, ?_⟩
  · show clockFrom 3 0 s = _
    rw [clockFrom_rest]
    show clockRest 2 0 s = _
    cases clockRest 2 0 s <;> rfl
  intro m u a n c i
  refine AllJ.of ?_ _
  rintro w1 ⟨k, out, hk, rfl, rfl, hlen, hv, hv3, hul, ho, hf, hb⟩
  refine BCase.of (fun h => ?_) (fun h => ?_) <;> simp only [decide_eq_true_eq, decide_eq_false_iff_not] at h
  · have hk3 : k < 3 := by omega
    have hv := hv hk3
    have hle : (digP u).length ≤ u.length := takeWhile_le isDig u
    have bad : ∀ {w' : World}, stepD u = none → Below w.heap.size w w' → TimePost s w (.tuple #[.slice none 0 0, .bool false]) w' := fun he hb' => ⟨_, _, _, _, rfl, hb', .inl ⟨by rw [hv, clockRest_none he]; rfl, rfl⟩⟩
    refine callK (ref07_digits_ok u (by omega) w1) ?_
    rintro _ w1 ⟨rfl, rfl⟩
    refine ⟨_, rfl, factJ (w := w1) (1 ≤ (digP u).length ∧ (digP u).length ≤ 2) ?_ ?_⟩
    · refine BCase.of (fun h2 => ?_) (fun h2 => ?_) <;> simp only [decide_eq_true_eq, decide_eq_false_iff_not] at h2
      · exact bad (by unfold stepD; rw [if_neg (by omega)]) hb
      · refine BCase.of (fun h3 => ?_) (fun h3 => ?_) <;> simp only [gt_iff_lt, decide_eq_true_eq, decide_eq_false_iff_not] at h3
        · exact bad (by unfold stepD; rw [if_neg (by omega)]) hb
        · exact ⟨rfl, by omega, by omega⟩
    · intro hd
      have hst : stepD u = some (decV (digP u), u.drop (digP u).length) := by unfold stepD; rw [if_pos hd]
      rw [clockRest_some hst] at hv
      refine ⟨⟨by omega, by omega⟩, ?_⟩
      rintro _ rfl
      simp only [Int.toNat_natCast]
      rw [dig_take]
      refine callK (ref07_value_ok (digP u) (by omega) digP_all w1) ?_
      rintro _ w1 ⟨rfl, rfl⟩
      refine ⟨_, rfl, ?_⟩
      intro k3 w3 hk3' hw3
      obtain ⟨w4, a4, n4, c4, hr, ho4, hf4, hb4⟩ := pushF (ty := T_sl_int) (w0 := w) (cm := 1) flat_i64 un_sl_int tf_int (by decide) ho hf hb hk3' hw3 (rep_i64) (by omega)
      refine ⟨w4, a4, n4, c4, hr, ⟨by omega, by omega⟩, ?_⟩
      rintro _ rfl
      have ew : IntKind.i64.wrap ((k : Int) + 1) = ((k + 1 : Nat) : Int) := by rw [wrap_i64 (by omega) (by omega)]; omega
      rw [ew]
      simp only [] at hv
      have hrl : (u.drop (digP u).length).length ≤ s.length := by rw [List.length_drop]; omega
      generalize u.drop (digP u).length = r at *
      refine BCase.of (fun h5 => ?_) (fun h5 => ?_) <;> simp only [decide_eq_true_eq, decide_eq_false_iff_not] at h5
      · have e2 : 2 - k = (1 - k) + 1 := by omega
        rw [e2, clockFrom_rest] at hv
        refine BCase.of (fun h6 => ?_) (fun h6 => ?_)
        · rw [beq_iff_eq] at h6
          subst h6
          exact ⟨_, _, _, _, rfl, hb4, .inl ⟨by rw [hv]; rfl, rfl⟩⟩
        · rw [beq_eq_false_iff_ne] at h6
          match r, h6 with
          | x :: r, _ =>
            refine ⟨⟨by omega, by simp <;> omega⟩, ?_⟩
            have hx : byteAt (x :: r) 0 = ((x.toNat : Nat) : Int) := rfl
            rw [hx]
            refine BCase.of (fun h7 => ?_) (fun h7 => ?_)
            · have hne : x ≠ 58 := fun e => by subst e; exact absurd h7 (by decide)
              exact ⟨_, _, _, _, rfl, hb4, .inl ⟨by rw [hv]; unfold colon; rw [if_neg (by omega), if_neg (by simpa using hne)]; rfl, rfl⟩⟩
            · have he : x = 58 := by
                simp only [bne_eq_false_iff_eq] at h7
                exact u8_inj h7
              subst he
              refine ⟨⟨by omega, by simp <;> omega⟩, ?_⟩
              rintro _ rfl
              refine ⟨3 - (k + 1), by omega, k + 1, out ++ [decV (digP u)], by omega, rfl, rfl, by simp [hlen], fun _ => ?_, fun h => by omega, by simp at hrl ⊢; omega, ho4, hf4, hb4⟩
              rw [hv]
              have hc : ∀ z : List UInt8, colon (k + 1) (58 :: z) = some z := fun z => by unfold colon; rw [if_neg (by omega)]; rfl
              have e3 : 2 - (k + 1) = 1 - k := by omega
              rw [hc, e3]
              show ((clockRest (1 - k) (k + 1) _).map _).map _ = (clockRest (1 - k) (k + 1) _).map _
              cases clockRest (1 - k) (k + 1) _ <;> simp
      · have hk2 : k = 2 := by omega
        subst hk2
        refine ⟨0, by omega, 3, out ++ [decV (digP u)], by omega, rfl, rfl, by simp [hlen], fun h => by omega, fun _ => ?_, hrl, ho4, hf4, hb4⟩
        rw [hv]; rfl
  · have : k = 3 := by omega
    subst this
    exact ⟨_, _, _, _, rfl, hb, .inr ⟨out, hv3 rfl, rfl, ho, hf⟩⟩
def lowMon : List (List UInt8) := [[106, 97, 110], [102, 101, 98], [109, 97, 114], [97, 112, 114], [109, 97, 121], [106, 117, 110], [106, 117, 108], [97, 117, 103], [115, 101, 112], [111, 99, 116], [110, 111, 118], [100, 101, 99]]
theorem lowMon_at : ∀ k (h : k < lowMon.length), lowMon[k] = monthAt k := by decide
theorem ref07_month_ok (s : List UInt8) (hs : s.length ≤ 9223372036854775800) (w : World) : Calls Tryz.prog f_ref07_month #[.string (mkS s)] w (Ret fun v w' => v = .int .i64 (monthV s) ∧ Below w.heap.size w w') := by
  apply run_ref07_month
  unfold vc_ref07_month
  intro k5 w5 hk5 hw5
  have hB5 : Below w.heap.size w w5 := hw5 ▸ below_alloc _ _
  have ho5 : Ow tS T_string w5 NoB (some ⟨k5, 0, none⟩) 12 12 lowMon := Ow.newF (l := lowMon.map fun s => Value.string (mkS s)) (flat_str _) hk5 hw5 (RepL_enc fun _ _ => trivial) (by decide)
  refine ⟨fun m i w' => ∃ k : Nat, k ≤ 12 ∧ i = (k : Int) ∧ m = 12 - k ∧ monthV s = monthFrom s (12 - k) k ∧ Below w5.heap.size w5 w', ⟨_, 0, by omega, rfl, rfl, rfl, Below.refl _ _⟩, ?_⟩
  intro m i
  refine AllJ.of ?_ _
  rintro w1 ⟨k, hk, rfl, rfl, hv, hb⟩
  have hbw := below_step hB5 hb hB5.size
  refine BCase.of (fun h => ?_) (fun h => ?_) <;> simp only [decide_eq_true_eq, decide_eq_false_iff_not] at h
  · have ew : IntKind.i64.wrap ((k : Int) + 1) = ((k + 1 : Nat) : Int) := by rw [wrap_i64 (by omega) (by omega)]; omega
    rw [ew]
    refine BCase.of (fun h2 => ?_) (fun h2 => ?_) <;> simp only [ge_iff_le, decide_eq_true_eq, decide_eq_false_iff_not] at h2
    · refine ⟨⟨by omega, by omega⟩, ?_⟩
      rintro _ rfl
      have e3 : Int.toNat (3 : Int) = 3 := rfl
      rw [e3]
      refine ⟨lowL (s.take 3), fun u hu => ?_, ⟨⟨by omega, by omega⟩, rfl⟩, monthAt k, fun u hu => ?_, ?_⟩
      · refine (ref01_Lower_ok (s.take 3) (by simp; omega) u).mono ?_
        rintro _ w2 ⟨_, rfl, rfl, hb2⟩
        exact ⟨rfl, hb2.mono hu.size⟩
      · have hkl : (k : Int).toNat < lowMon.length := by show k < 12; omega
        obtain ⟨v, hv, hrep⟩ := ((ho5.below hb).below hu).all.load1 (i := (k : Int)) un_string rfl rfl hkl
        obtain ⟨rfl, -⟩ := str_rep hrep
        simp only [Int.toNat_natCast] at hv
        rw [lowMon_at k hkl] at hv
        exact hv
      · intro wq hq
        have ef : 12 - k = (12 - (k + 1)) + 1 := by omega
        rw [ef] at hv
        unfold monthFrom at hv
        refine BCase.of (fun h => ?_) (fun h => ?_)
        · rw [beq_iff_eq] at h
          rw [if_pos ⟨by omega, h⟩] at hv
          exact ⟨by rw [hv]; congr 1, below_step hbw hq hbw.size⟩
        · rw [beq_eq_false_iff_ne] at h
          rw [if_neg (fun e => h e.2)] at hv
          exact ⟨12 - (k + 1), by omega, k + 1, by omega, rfl, rfl, hv, below_step hb hq hb.size⟩
    · intro wq hq
      rw [monthFrom_short (by omega)] at hv
      exact ⟨12 - (k + 1), by omega, k + 1, by omega, rfl, rfl, by rw [hv, monthFrom_short (by omega)], below_step hb hq hb.size⟩
  · have : k = 12 := by omega
    subst this
    exact ⟨by rw [hv]; rfl, hbw⟩
end Go.Proofs.YtmlcilfcaogdcaaGreatDoor
