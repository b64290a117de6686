/- Contract of number. Its conditions: none. -/
import Derived.Test.YtmlcilfcaogdcaaGreatDoorDateE
set_option linter.unusedVariables false
set_option linter.unusedSimpArgs false
set_option maxRecDepth 20000
namespace Go.Pk
def isDig (c : UInt8) : Bool := decide (48 ≤ c) && decide (c ≤ 57)
def digP (s : List UInt8) : List UInt8 := s.takeWhile isDig
def decV (l : List UInt8) : Int := l.foldl (fun n c => n * 10 + ((c.toNat : Int) - 48)) 0
theorem dig_set_all : ∀ n, n < 256 → ([48, 49, 50, 51, 52, 53, 54, 55, 56, 57] : List UInt8).contains (UInt8.ofNat n) = isDig (UInt8.ofNat n) := by decide +kernel
theorem dig_set (c : UInt8) : ([48, 49, 50, 51, 52, 53, 54, 55, 56, 57] : List UInt8).contains c = isDig c := by
  have := dig_set_all c.toNat (by have := c.toNat_lt; omega)
  rwa [UInt8.ofNat_toNat] at this
theorem trim_dig (s : List UInt8) : Lib.trimLeftS s [48, 49, 50, 51, 52, 53, 54, 55, 56, 57] = s.dropWhile isDig := by
  unfold Lib.trimLeftS
  congr 1
  funext c
  exact dig_set c
theorem dig_split (s : List UInt8) : digP s ++ s.dropWhile isDig = s := List.takeWhile_append_dropWhile
theorem dig_len (s : List UInt8) : (s.dropWhile isDig).length + (digP s).length = s.length := by
  have := congrArg List.length (dig_split s)
  rw [List.length_append] at this; omega
theorem dig_take (s : List UInt8) : s.take (digP s).length = digP s := by
  have h : (digP s ++ s.dropWhile isDig).take (digP s).length = digP s := List.take_left' rfl
  rwa [dig_split] at h
theorem dig_drop (s : List UInt8) : s.drop (digP s).length = s.dropWhile isDig := by
  have h : (digP s ++ s.dropWhile isDig).drop (digP s).length = s.dropWhile isDig := List.drop_left' rfl
  rwa [dig_split] at h
theorem digP_all {s : List UInt8} : ∀ c ∈ digP s, isDig c = true := fun c hc => List.all_eq_true.1 (List.all_takeWhile (p := isDig) (l := s)) c hc
theorem isDig_iff {c : UInt8} : isDig c = true ↔ 48 ≤ c.toNat ∧ c.toNat ≤ 57 := by
  unfold isDig
  rw [Bool.and_eq_true, decide_eq_true_eq, decide_eq_true_eq, UInt8.le_iff_toNat_le, UInt8.le_iff_toNat_le]
  exact Iff.rfl
theorem dec_from : ∀ (l : List UInt8) (acc : Nat), (∀ c ∈ l, isDig c = true) → ∃ n : Nat, Lib.decFrom acc l = some n ∧ (n : Int) = l.foldl (fun n c => n * 10 + ((c.toNat : Int) - 48)) (acc : Int)
  | [], acc, _ => ⟨acc, rfl, rfl⟩
  | c :: l, acc, h => by
    have hc := isDig_iff.1 (h c List.mem_cons_self)
    obtain ⟨n, h1, h2⟩ := dec_from l (acc * 10 + (c.toNat - 48)) fun x hx => h x (List.mem_cons_of_mem _ hx)
    refine ⟨n, ?_, ?_⟩
    · unfold Lib.decFrom Lib.digitVal
      rw [if_pos hc]; exact h1
    · rw [h2, List.foldl_cons]
      congr 1
      omega
theorem atoi_dig {l : List UInt8} (hne : l ≠ []) (h : ∀ c ∈ l, isDig c = true) : Lib.atoi l = some (decV l) := by
  match l, hne with
  | c :: r, _ =>
    have hc := isDig_iff.1 (h c List.mem_cons_self)
    unfold Lib.atoi
    have h1 : (c == 45) = false := by rw [beq_eq_false_iff_ne]; intro e; subst e; simp at hc
    have h2 : (c == 43) = false := by rw [beq_eq_false_iff_ne]; intro e; subst e; simp at hc
    obtain ⟨n, e1, e2⟩ := dec_from (c :: r) 0 h
    simp only [h1, h2, Bool.false_eq_true, if_false]
    unfold Lib.decNat
    simp only [List.isEmpty_cons, Bool.false_eq_true, if_false, e1, Option.map_some]
    rw [e2]; rfl
end Go.Pk
namespace Go.Proofs.YtmlcilfcaogdcaaGreatDoor
open Go.Pk
open Go.RowKit (Below)
/-- what number answers -/
def numV (s : List UInt8) (least most : Int) : Value := if least ≤ ((digP s).length : Int) ∧ ((digP s).length : Int) ≤ most then .tuple #[.int .i64 (decV (digP s)), .string (mkS (s.drop (digP s).length)), .bool true] else .tuple #[.int .i64 0, .string (mkS s), .bool false]
theorem below_bytes (w : World) (e : TypeId) (s : ByteArray) : Below w.heap.size w (Lib.bytesWorld w e s) := by
  unfold Lib.bytesWorld
  refine grow_new rfl rfl rfl (by simp [World.freeze]) fun k hk => ?_
  simp only [World.freeze, if_neg (show ¬ (1 : Nat) = 0 by decide), Array.getElem?_modify]
  rw [if_neg (show ¬ w.heap.size = k by omega)]
  exact (Below.refl w.drew.heap.size w.drew |>.alloc (Nat.le_refl _) _).block k hk
theorem date_number_ok (s : List UInt8) (least most : Int) (h1 : 1 ≤ least) (h2 : most ≤ 18) (hs : s.length ≤ 9223372036854775807) (w : World) :
    Calls Tryz.prog f_date_number #[.string (mkS s), .int .i64 least, .int .i64 most] w (Ret fun v w' => v = numV s least most ∧ Below w.heap.size w w') := by
  apply run_date_number
  unfold vc_date_number
  refine (Tryz.strings_TrimLeft_laid (mkS s) (mkS [48, 49, 50, 51, 52, 53, 54, 55, 56, 57]) w (by decide) (ascii_of_all (by decide))).mono ?_
  rintro _ w1 ⟨rfl, hb1⟩
  have e : (mkS s).data.toList = s := rfl
  have e2 : (mkS [48, 49, 50, 51, 52, 53, 54, 55, 56, 57]).data.toList = [48, 49, 50, 51, 52, 53, 54, 55, 56, 57] := rfl
  rw [e, e2, trim_dig]
  refine ⟨s.dropWhile isDig, rfl, ?_⟩
  have hl := dig_len s
  have ew : IntKind.i64.wrap ((s.length : Int) - ((s.dropWhile isDig).length : Int)) = ((digP s).length : Int) := by rw [wrap_i64 (by omega) (by omega)]; omega
  rw [ew]
  refine ⟨fun w' => w' = w1 ∧ least ≤ ((digP s).length : Int) ∧ ((digP s).length : Int) ≤ most, ?_, ?_⟩
  · refine BCase.of (fun h => ?_) (fun h => ?_) <;> simp only [decide_eq_true_eq, decide_eq_false_iff_not] at h
    · exact ⟨by unfold numV; rw [if_neg (by omega)], hb1⟩
    · refine BCase.of (fun h3 => ?_) (fun h3 => ?_) <;> simp only [gt_iff_lt, decide_eq_true_eq, decide_eq_false_iff_not] at h3
      · exact ⟨by unfold numV; rw [if_neg (by omega)], hb1⟩
      · exact ⟨rfl, by omega, by omega⟩
  · refine AllJ.of ?_ _
    rintro w1 ⟨rfl, h3, h4⟩
    refine ⟨⟨by omega, by omega⟩, ?_⟩
    rintro _ rfl
    simp only [Int.toNat_natCast]
    rw [dig_take]
    have hne : digP s ≠ [] := fun e => by rw [e] at h3; simp at h3; omega
    refine (Tryz.strconv_Atoi (mkS (digP s)) (decV (digP s)) (by show (digP s).length ≤ 18; omega) (atoi_dig hne digP_all) w1).mono ?_
    rintro _ _ ⟨rfl, t, rfl⟩
    refine ⟨_, _, rfl, ⟨by omega, by omega⟩, ?_⟩
    rintro _ rfl wq hq
    have hb2 := below_bytes w1 5 t
    refine ⟨by unfold numV; rw [if_pos ⟨h3, h4⟩], below_step (below_step hb1 hb2 hb1.size) hq (below_step hb1 hb2 hb1.size).size⟩
end Go.Proofs.YtmlcilfcaogdcaaGreatDoor
