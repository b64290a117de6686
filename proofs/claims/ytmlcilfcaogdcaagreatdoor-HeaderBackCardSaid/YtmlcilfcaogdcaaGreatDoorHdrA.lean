/- Contracts of octet's Trim, Digits, Number, Split, and the document's. Its conditions: none. -/
import Derived.Test.YtmlcilfcaogdcaaGreatDoorV1
import Derived.Test.YtmlcilfcaogdcaaGreatDoorEnv
import Derived.Test.YtmlcilfcaogdcaaGreatDoorSplit
import Derived.Test.YtmlcilfcaogdcaaGreatDoorDateT
set_option linter.unusedVariables false
set_option linter.unusedSimpArgs false
set_option maxRecDepth 20000
namespace Go.Pk
open Go.RowKit (Below)
def stripR (p : UInt8 → Bool) (s : List UInt8) : List UInt8 := (s.reverse.dropWhile p).reverse
def stripB (p : UInt8 → Bool) (s : List UInt8) : List UInt8 := stripR p (s.dropWhile p)
theorem stripR_nil (p : UInt8 → Bool) : stripR p [] = [] := rfl
theorem stripR_snoc (p : UInt8 → Bool) (s : List UInt8) (x : UInt8) : stripR p (s ++ [x]) = if p x then stripR p s else s ++ [x] := by
  unfold stripR
  rw [List.reverse_append]
  show (List.dropWhile p (x :: s.reverse)).reverse = _
  rw [List.dropWhile_cons]
  split <;> simp
theorem stripR_cons (p : UInt8 → Bool) (x : UInt8) (s : List UInt8) : stripR p (x :: s) = if stripR p s = [] then (if p x then [] else [x]) else x :: stripR p s := by
  unfold stripR
  rw [List.reverse_cons]
  have key : ∀ t : List UInt8, List.dropWhile p (t ++ [x]) = if List.dropWhile p t = [] then (if p x then [] else [x]) else List.dropWhile p t ++ [x] := by
    intro t
    induction t with
    | nil => simp [List.dropWhile_cons]
    | cons y t ih =>
      rw [List.cons_append, List.dropWhile_cons, List.dropWhile_cons]
      split
      · exact ih
      · rw [if_neg (by simp)]; rfl
  rw [key]
  by_cases h : List.dropWhile p s.reverse = []
  · have h' : (List.dropWhile p s.reverse).reverse = [] := by rw [h]; rfl
    rw [if_pos h, if_pos h']
    split <;> rfl
  · have h' : ¬ (List.dropWhile p s.reverse).reverse = [] := by simpa using h
    rw [if_neg h, if_neg h']
    simp
theorem strip_comm (p : UInt8 → Bool) : ∀ s : List UInt8, (stripR p s).dropWhile p = stripB p s
  | [] => rfl
  | x :: s => by
    have ih := strip_comm p s
    unfold stripB at ih ⊢
    cases hx : p x with
    | true =>
      have e1 : List.dropWhile p (x :: s) = List.dropWhile p s := by rw [List.dropWhile_cons, if_pos hx]
      rw [e1, ← ih, stripR_cons]
      by_cases h : stripR p s = []
      · rw [if_pos h, if_pos hx, h]
      · rw [if_neg h, List.dropWhile_cons, if_pos hx]
    | false =>
      have hx' : ¬ p x = true := by rw [hx]; decide
      have e1 : List.dropWhile p (x :: s) = x :: s := by rw [List.dropWhile_cons, if_neg hx']
      rw [e1, stripR_cons]
      by_cases h : stripR p s = []
      · rw [if_pos h, if_neg hx', List.dropWhile_cons, if_neg hx']
      · rw [if_neg h, List.dropWhile_cons, if_neg hx']
theorem stripR_nil_iff (p : UInt8 → Bool) : ∀ s : List UInt8, stripR p s = [] ↔ s.all p = true
  | [] => by simp [stripR]
  | x :: s => by
    have ih := stripR_nil_iff p s
    rw [stripR_cons, List.all_cons, Bool.and_eq_true, ← ih]
    by_cases h : stripR p s = []
    · rw [if_pos h]
      cases p x <;> simp [h]
    · rw [if_neg h]; simp [h]
theorem stripB_nil_iff (p : UInt8 → Bool) : ∀ s : List UInt8, stripB p s = [] ↔ s.all p = true
  | [] => by simp [stripB, stripR]
  | x :: s => by
    unfold stripB
    rw [List.dropWhile_cons]
    cases hx : p x with
    | true => rw [if_pos rfl, List.all_cons, hx, Bool.true_and]; exact stripB_nil_iff p s
    | false => rw [if_neg (by decide), stripR_nil_iff]
theorem stripR_mem (p : UInt8 → Bool) (s : List UInt8) : ∀ x ∈ stripR p s, x ∈ s := fun x hx => by
  unfold stripR at hx
  rw [List.mem_reverse] at hx
  exact List.mem_reverse.1 ((List.dropWhile_sublist p).subset hx)
theorem stripB_mem (p : UInt8 → Bool) (s : List UInt8) : ∀ x ∈ stripB p s, x ∈ s := fun x hx => (List.dropWhile_sublist p).subset (stripR_mem p _ x hx)
theorem stripB_len (p : UInt8 → Bool) (s : List UInt8) : (stripB p s).length ≤ s.length := by
  unfold stripB stripR
  rw [List.length_reverse]
  have h1 := (List.dropWhile_sublist p (l := (s.dropWhile p).reverse)).length_le
  have h2 := (List.dropWhile_sublist p (l := s)).length_le
  rw [List.length_reverse] at h1; omega
theorem trimS_strip (s cs : List UInt8) : Lib.trimS s cs = stripB (cs.contains ·) s := strip_comm _ s
def isBl (c : UInt8) : Bool := c == 32 || c == 9
def trimB (s : List UInt8) : List UInt8 := stripB isBl s
theorem bl_set_all : ∀ n, n < 256 → ([32, 9] : List UInt8).contains (UInt8.ofNat n) = isBl (UInt8.ofNat n) := by decide +kernel
theorem bl_set (c : UInt8) : ([32, 9] : List UInt8).contains c = isBl c := by
  have := bl_set_all c.toNat (by have := c.toNat_lt; omega)
  rwa [UInt8.ofNat_toNat] at this
theorem trim_bl (s : List UInt8) : Lib.trimS s [32, 9] = trimB s := by
  rw [trimS_strip]; unfold trimB; congr 1; exact funext bl_set
def digitsB (s : List UInt8) : Bool := !(s == []) && s.all isDig
theorem trim_digits (s : List UInt8) : (Lib.trimS s [48, 49, 50, 51, 52, 53, 54, 55, 56, 57] == []) = s.all isDig := by
  rw [trimS_strip]
  have e : (fun x => ([48, 49, 50, 51, 52, 53, 54, 55, 56, 57] : List UInt8).contains x) = isDig := funext dig_set
  rw [e, Bool.eq_iff_iff, beq_iff_eq, stripB_nil_iff]
def numP (s : List UInt8) : Prop := digitsB s = true ∧ s.length ≤ 18 ∧ ¬ (s.head? = some 48 ∧ 1 < s.length)
instance (s : List UInt8) : Decidable (numP s) := by unfold numP; infer_instance
end Go.Pk
namespace Go.Proofs.YtmlcilfcaogdcaaGreatDoor
open Go.Pk
open Go.RowKit (Below)
theorem octet_Trim_ok (s : List UInt8) (hs : s.length ≤ 9223372036854775807) (w : World) : Calls Tryz.prog f_octet_Trim #[.string (mkS s)] w (Ret fun v w' => v = .string (mkS (trimB s)) ∧ Below w.heap.size w w') := by
  apply run_octet_Trim
  unfold vc_octet_Trim
  refine (Tryz.strings_Trim_laid (mkS s) (mkS [32, 9]) w hs (by decide) (ascii_of_all (by decide))).mono ?_
  rintro _ w1 ⟨rfl, hb⟩
  have e : Lib.trimS (mkS s).data.toList (mkS [32, 9]).data.toList = trimB s := trim_bl s
  rw [e]
  exact ⟨_, rfl, rfl, hb⟩
theorem octet_Digits_ok (s : List UInt8) (hs : s.length ≤ 9223372036854775807) (w : World) : Calls Tryz.prog f_octet_Digits #[.string (mkS s)] w (Ret fun v w' => v = .bool (digitsB s) ∧ Below w.heap.size w w') := by
  apply run_octet_Digits
  unfold vc_octet_Digits
  unfold digitsB
  refine BCase.of (fun h => ?_) (fun h => ?_)
  · refine ⟨⟨by decide, by decide⟩, ?_⟩
    rintro _ rfl
    refine (Tryz.strings_Trim_laid (mkS s) (mkS [48, 49, 50, 51, 52, 53, 54, 55, 56, 57]) w hs (by decide) (ascii_of_all (by decide))).mono ?_
    rintro _ w1 ⟨rfl, hb⟩
    refine ⟨_, rfl, ?_, hb⟩
    have e := trim_digits s
    rw [h, Bool.true_and, ← e]; rfl
  · rw [h]; exact ⟨rfl, Below.refl _ _⟩
theorem octet_Number_ok (s : List UInt8) (hs : s.length ≤ 9223372036854775000) (w : World) :
    Calls Tryz.prog f_octet_Number #[.string (mkS s)] w (Ret fun v w' => v = (if numP s then .tuple #[.int .i64 (decV s), .bool true] else .tuple #[.int .i64 0, .bool false]) ∧ Below w.heap.size w w') := by
  apply run_octet_Number
  unfold vc_octet_Number
  have bad : ∀ {w' : World}, ¬ numP s → Below w.heap.size w w' → (.tuple #[.int .i64 (0 : Int), .bool false] : Value) = (if numP s then .tuple #[.int .i64 (decV s), .bool true] else .tuple #[.int .i64 0, .bool false]) ∧ Below w.heap.size w w' := fun hn hb => ⟨by rw [if_neg hn], hb⟩
  refine worldJ (fun w' => numP s ∧ Below w.heap.size w w') ?_ ?_
  · refine callK (octet_Digits_ok s (by omega) w) ?_
    rintro _ w1 ⟨rfl, hb⟩
    refine ⟨_, rfl, ?_⟩
    refine BCase.of (fun h => ?_) (fun h => ?_) <;> simp only [Bool.not_eq_true', Bool.not_eq_false'] at h
    · exact bad (fun hc => by rw [hc.1] at h; cases h) hb
    refine BCase.of (fun h2 => ?_) (fun h2 => ?_) <;> simp only [gt_iff_lt, decide_eq_true_eq, decide_eq_false_iff_not] at h2
    · exact bad (fun hc => by have := hc.2.1; omega) hb
    have hne : s ≠ [] := fun e => by rw [e] at h; cases h
    match s, hne with
    | c :: r, _ =>
      have hx : byteAt (c :: r) 0 = ((c.toNat : Nat) : Int) := rfl
      rw [hx]
      refine ⟨⟨by decide, by simp only [List.length_cons]; omega⟩, ?_⟩
      refine BCase.of (fun h3 => ?_) (fun h3 => ?_)
      · have hc : c = 48 := u8_inj (by simpa using h3)
        refine BCase.of (fun h4 => ?_) (fun h4 => ?_) <;> simp only [gt_iff_lt, decide_eq_true_eq, decide_eq_false_iff_not] at h4
        · exact bad (fun hcn => hcn.2.2 ⟨by rw [hc]; rfl, by omega⟩) hb
        · exact ⟨⟨h, by omega, fun hcn => by omega⟩, hb⟩
      · have hc : c ≠ 48 := fun e => by subst e; cases h3
        exact ⟨⟨h, by omega, fun hcn => hc (by simpa using hcn.1)⟩, hb⟩
  · rintro w1 ⟨hn, hb⟩
    rw [if_pos hn]
    obtain ⟨hd, hl, _⟩ := hn
    have hall : ∀ c ∈ s, isDig c = true := fun c hc => by
      unfold digitsB at hd
      rw [Bool.and_eq_true] at hd
      exact List.all_eq_true.1 hd.2 c hc
    obtain ⟨w2, a, n, c, hr, ho, hb2, hf⟩ := bytes_of un_string un_sl_uint8 un_uint8 w1 s (by omega) NoB
    have hnn := ho.len
    subst hnn
    have hb12 := below_step hb hb2 hb.size
    refine ⟨w2, a, _, c, hr, ?_⟩
    refine ⟨fun m n i w' => ∃ k : Nat, k ≤ s.length ∧ i = (k : Int) ∧ n = decV (s.take k) ∧ m = s.length - k ∧ w' = w2, ⟨_, 0, by omega, rfl, rfl, rfl, rfl⟩, ?_⟩
    intro m n i
    refine AllJ.of ?_ _
    rintro w' ⟨k, hk, rfl, rfl, rfl, rfl⟩
    refine BCase.of (fun h => ?_) (fun h => ?_) <;> simp only [decide_eq_true_eq, decide_eq_false_iff_not] at h
    · have hlt : k < s.length := by omega
      have hc := isDig_iff.1 (hall s[k] (List.getElem_mem hlt))
      have hbd := decV_bound (s.take k) 0 (by decide) fun c hc => hall c (List.mem_of_mem_take hc)
      have hp : (10 : Int) ^ (s.take k).length ≤ 10 ^ 17 := pow10_le (by rw [List.length_take]; omega)
      have e17 : (10 : Int) ^ 17 = 100000000000000000 := by decide
      have hV : (s.take k).foldl (fun n c => n * 10 + ((c.toNat : Int) - 48)) 0 = decV (s.take k) := rfl
      rw [hV] at hbd
      have hbb := hbd.2
      rw [Int.zero_add, Int.one_mul] at hbb
      obtain ⟨v, hv, hrep⟩ := ho.all.load1 (i := (k : Int)) un_uint8 rfl rfl (by simpa using hlt)
      have := u8_rep hrep
      subst this
      simp only [Int.toNat_natCast] at hv
      refine ⟨⟨⟨by omega, h⟩, ho.all.isSome hlt⟩, _, hv, s.length - (k + 1), by omega, k + 1, by omega, by rw [wrap_i64 (by omega) (by omega)]; omega, ?_, rfl, rfl⟩
      rw [List.take_succ_eq_append_getElem hlt, decV_snoc, wrap_i64 (n := 10 * decV (s.take k)) (by omega) (by omega), wrap_u8 (n := ((s[k].toNat : Nat) : Int) - 48) (by omega) (by omega), wrap_i64 (n := ((s[k].toNat : Nat) : Int) - 48) (by omega) (by omega), wrap_i64 (by omega) (by omega)]
      omega
    · have : k = s.length := by omega
      subst this
      rw [List.take_length]; exact ⟨rfl, hb12⟩
theorem octet_Split_ok (s : List UInt8) (c : UInt8) (hs : s.length < 4294967281) (w : World) (he : Env w) :
    Calls Tryz.prog f_octet_Split #[.string (mkS s), .int .u8 ((c.toNat : Nat) : Int)] w (Ret fun v w' => ∃ a n cp, v = .slice a n cp ∧ Ow tS T_string w' NoB a n cp (cutC c [] s) ∧ Fresh w.heap.size a ∧ Below w.heap.size w w') := by
  apply run_octet_Split
  unfold vc_octet_Split
  intro k w1 hk hw
  have hB := (hw ▸ below_alloc w _ : Below w.heap.size w w1)
  have ho : Ow tU8 T_uint8 w1 NoB (some ⟨k, 0, none⟩) 1 1 [c] := Ow.newF (l := [_]) flat_u8 hk hw (RepL.one (rep_u8 rfl)) (show 1 ≤ maxLen by decide)
  refine ⟨_, text_of un_sl_uint8 un_string un_uint8 ho.all, ?_⟩
  obtain ⟨m, hm⟩ := (he.step hB).max
  refine (Tryz.strings_Split (mkS s) (mkS [c]) m w1 hs hm (Nat.le_refl 1)).mono ?_
  rintro _ w2 ⟨rfl, hw2⟩
  have hcnt := cutC_count c s []
  rw [split_cells, split_count] at *
  refine ⟨_, _, _, rfl, _, _, _, rfl, Ow.newF (flat_str _) rfl hw2 (RepL_enc fun _ _ => trivial) (by show _ ≤ 2 ^ 63 - 1; omega), fresh_new rfl |>.mono hB.size, below_step hB (hw2 ▸ below_alloc _ _) hB.size⟩
theorem ref01_blank_ok (c : UInt8) (w : World) : Calls Tryz.prog f_ref01_blank #[.int .u8 ((c.toNat : Nat) : Int)] w (Ret fun v w' => v = .bool (isBl c) ∧ w' = w) := by
  apply run_ref01_blank
  unfold vc_ref01_blank
  have e : ∀ n : UInt8, ((((c.toNat : Nat) : Int)) == ((n.toNat : Nat) : Int)) = (c == n) := fun n => by
    rw [Bool.eq_iff_iff, beq_iff_eq, beq_iff_eq]
    exact ⟨fun h => u8_inj h, fun h => by rw [h]⟩
  have e32 := e 32
  have e9 := e 9
  refine BCase.of (fun h => ?_) (fun h => ?_)
  · exact ⟨by unfold isBl; rw [← e32, show ((((c.toNat : Nat) : Int)) == ((UInt8.toNat 32 : Nat) : Int)) = true from h]; rfl, rfl⟩
  · exact ⟨by unfold isBl; rw [← e32, show ((((c.toNat : Nat) : Int)) == ((UInt8.toNat 32 : Nat) : Int)) = false from h, Bool.false_or, ← e9]; rfl, rfl⟩
end Go.Proofs.YtmlcilfcaogdcaaGreatDoor
