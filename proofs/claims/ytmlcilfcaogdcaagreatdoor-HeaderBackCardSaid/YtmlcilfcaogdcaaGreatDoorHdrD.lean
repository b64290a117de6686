/- Contracts of names, attribute, Parse. Its conditions: none. -/
import Derived.Test.YtmlcilfcaogdcaaGreatDoorHdrC
import Derived.Test.YtmlcilfcaogdcaaGreatDoorSub
set_option linter.unusedVariables false
set_option linter.unusedSimpArgs false
set_option maxRecDepth 20000
namespace Go.Pk
open Go.RowKit (Below)
def nmL : List (List UInt8) := [[], [78, 111, 110, 101], [76, 97, 120], [83, 116, 114, 105, 99, 116]]
def nmV : Value := .agg (nmL.map fun s => Value.string (mkS s)).toArray
/-- the last of the first k words that it is -/
def lastN (v : List UInt8) : Nat → Int
  | 0 => 0
  | k + 1 => if lowL (nmL[k]?.getD []) = lowL v then (k : Int) else lastN v k
theorem lastN_same (v : List UInt8) : lastN v 4 = sameN v := by
  have e0 : lowL (nmL[0]?.getD []) = [] := rfl
  have e1 : lowL (nmL[1]?.getD []) = [110, 111, 110, 101] := by decide
  have e2 : lowL (nmL[2]?.getD []) = [108, 97, 120] := by decide
  have e3 : lowL (nmL[3]?.getD []) = [115, 116, 114, 105, 99, 116] := by decide
  unfold lastN lastN lastN lastN lastN sameN
  rw [e0, e1, e2, e3]
  generalize lowL v = x
  by_cases h1 : x = [110, 111, 110, 101]
  · subst h1; rfl
  · by_cases h2 : x = [108, 97, 120]
    · subst h2; rfl
    · by_cases h3 : x = [115, 116, 114, 105, 99, 116]
      · subst h3; rfl
      · rw [if_neg (Ne.symm h3), if_neg (Ne.symm h2), if_neg (Ne.symm h1), if_neg h1, if_neg h2, if_neg h3]
        split <;> rfl
def nameOf (l : List UInt8) : List UInt8 × List UInt8 := if hasEq l then (aheadL l, afterL l) else ([], aheadL l)
def stepA (h : Hdr) (x : List UInt8) : Hdr := if (afterL x).length ≤ 1024 then attrV h (lowL (aheadL x)) (afterL x) else h
/-- what a text says as a header -/
def parseH (s : List UInt8) : Hdr × Int :=
  if s.any isCtl = true then (hdr0, 81)
  else if (nameOf ((cutC 59 [] s).headD [])).1 ++ (nameOf ((cutC 59 [] s).headD [])).2 = [] then (hdr0, 82)
  else if 4096 < (nameOf ((cutC 59 [] s).headD [])).1.length + (nameOf ((cutC 59 [] s).headD [])).2.length then (hdr0, 83)
  else (((cutC 59 [] s).drop 1).foldl stepA { hdr0 with name := (nameOf ((cutC 59 [] s).headD [])).1, value := (nameOf ((cutC 59 [] s).headD [])).2 }, 0)
theorem ahead_len (s : List UInt8) : (aheadL s).length ≤ s.length := Nat.le_trans (stripB_len _ _) (takeWhile_le _ _)
theorem after_len (s : List UInt8) : (afterL s).length ≤ s.length := by
  have h1 := stripB_len isBl ((s.dropWhile (· != 61)).drop 1)
  have h2 := (List.dropWhile_sublist (· != (61 : UInt8)) (l := s)).length_le
  rw [List.length_drop] at h1
  unfold afterL trimB; omega
theorem hdr_len (h : Hdr) : h.cells.length = 11 := rfl
theorem hdr_one (h : Hdr) : ∀ c ∈ h.v.cells.toList, c.oneCell' = true := by
  intro c hc
  simp only [Hdr.v, Value.cells, Hdr.cells, List.mem_cons, List.mem_nil_iff, or_false] at hc
  rcases hc with rfl | rfl | rfl | rfl | rfl | rfl | rfl | rfl | rfl | rfl | rfl <;> rfl
end Go.Pk
namespace Go.Proofs.YtmlcilfcaogdcaaGreatDoor
open Go.Pk
open Go.RowKit (Below)
theorem hdr_store (h : Hdr) {w : World} {k : Nat} {vs : List Value} (ha : ArrAt w k T_api_Header vs) (hl : vs.length = 11) :
    ∃ wx, (Instr.storeAt T_api_Header (.pointer (some ⟨k, 0, none⟩)) h.v).run Tryz.prog w = .ok () wx ∧ ArrAt wx k T_api_Header h.cells ∧ w.grownBy wx (some k) := by
  obtain ⟨wx, hs, h2, hg⟩ := ha.store (P := Tryz.prog) tf_api_Header (i := 0) (v := h.v) rfl (by omega) (hdr_one h)
  refine ⟨wx, hs, ?_, hg⟩
  rw [List.take_zero, List.nil_append, List.drop_eq_nil_of_le (by omega), List.append_nil] at h2
  exact h2
theorem hdr_load (h : Hdr) {w : World} {k : Nat} (ha : ArrAt w k T_api_Header h.cells) : (Instr.loadAt T_api_Header (.pointer (some ⟨k, 0, none⟩))).run Tryz.prog w = .ok h.v w := by
  obtain ⟨ti, hti, hsz, _, _⟩ := tf_api_Header.info
  cases hu : Tryz.prog.underlying T_api_Header with
  | none => have : (Tryz.prog.underlying T_api_Header).map aggD = some true := by kernel_rfl
            rw [hu] at this; cases this
  | some d =>
    have : (Tryz.prog.underlying T_api_Header).map aggD = some true := by kernel_rfl
    rw [hu] at this
    simp only [Option.map_some, Option.some.injEq] at this
    exact ha.loadA hu this hti (us := h.cells) (i := 0) (by rw [hsz]; rfl) (fun j hj => by rw [Nat.zero_add])
/-- the result lies in memory: laid, and read -/
theorem hdr_end (h : Hdr) {w w' : World} {k2 : Nat} {vs : List Value} (h2 : ArrAt w' k2 T_api_Header vs) (hl : vs.length = 11) (hb : Below w.heap.size w w') (hk : w.heap.size ≤ k2) {e : Int} {K : Value → World → Prop}
    (hK : ∀ wx, Below w.heap.size w wx → K (.tuple #[h.v, .int .i64 e]) wx) :
    ∃ (wx : World), (Instr.storeAt T_api_Header (.pointer (some ⟨k2, 0, none⟩)) h.v).run Tryz.prog w' = .ok () wx ∧
      ∃ (s0 : List UInt8) (s1 : List UInt8) (s2 : List UInt8) (s3 : List UInt8) (b4 : Bool) (n5 : Int) (b6 : Bool) (n7 : Int) (b8 : Bool) (b9 : Bool) (n10 : Int),
        (resAt T_api_Header (.pointer (some ⟨k2, 0, none⟩))).run Tryz.prog wx = .ok (.agg #[.string (mkS s0), .string (mkS s1), .string (mkS s2), .string (mkS s3), .bool b4, .int .i64 n5, .bool b6, .int .i64 n7, .bool b8, .bool b9, .int .i64 n10]) wx ∧
        K (.tuple #[.agg #[.string (mkS s0), .string (mkS s1), .string (mkS s2), .string (mkS s3), .bool b4, .int .i64 n5, .bool b6, .int .i64 n7, .bool b8, .bool b9, .int .i64 n10], .int .i64 e]) wx := by
  obtain ⟨wx, hs, h3, hg⟩ := hdr_store h h2 hl
  exact ⟨wx, hs, h.name, h.value, h.domain, h.path, h.hasE, h.exp, h.hasA, h.age, h.sec, h.http, h.same, ArrAt.res (hdr_load h h3), hK wx (hb.grown hg hb.size fun x e => by cases e; exact hk)⟩
theorem header_names_ok (w : World) : Calls Tryz.prog f_header_names #[] w (Ret fun v w' => v = nmV ∧ Below w.heap.size w w') := by
  apply run_header_names
  unfold vc_header_names
  intro k w1 hk hw
  have hB := (hw ▸ below_alloc w _ : Below w.heap.size w w1)
  have ha : ArrAt w1 k T_arr4_string (List.replicate 4 (Value.string (mkS []))) := ArrAt.new hk hw
  obtain ⟨wx, hs, h2, hg⟩ := ha.store (P := Tryz.prog) tf_arr4_string (i := 0) (v := nmV) rfl (by decide) (by
    intro c hc
    simp only [nmV, Value.cells] at hc
    obtain ⟨s, _, rfl⟩ := List.mem_map.1 (by simpa using hc)
    rfl)
  have h3 : ArrAt wx k T_arr4_string (nmL.map fun s => Value.string (mkS s)) := h2
  obtain ⟨ti, hti, hsz, _, _⟩ := tf_arr4_string.info
  refine ⟨wx, hs, _, _, _, _, ArrAt.res (h3.loadA un_arr4_string rfl hti (us := nmL.map fun s => Value.string (mkS s)) (i := 0) (by rw [hsz]; rfl) (fun j hj => by rw [Nat.zero_add])), rfl, hB.grown hg hB.size fun x e => by cases e; omega⟩
theorem index_nm (w : World) : ∀ k : Nat, k < 4 → (Instr.index T_arr4_string nmV (.int .i64 (k : Int))).run Tryz.prog w = .ok (.string (mkS (nmL[k]?.getD []))) w
  | 0, _ => by kernel_rfl
  | 1, _ => by kernel_rfl
  | 2, _ => by kernel_rfl
  | 3, _ => by kernel_rfl
  | n + 4, h => by omega
def AttrPost (k : Nat) (h : Hdr) (w : World) (v : Value) (w' : World) : Prop := v = .tuple #[] ∧ ArrAt w' k T_api_Header h.cells ∧ w.grownBy w' (some k)
theorem attr_unit {k : Nat} {h : Hdr} {w w' : World} (ha : ArrAt w' k T_api_Header h.cells) (hg : w.grownBy w' (some k)) : AttrPost k h w (.tuple #[]) w' := ⟨rfl, ha, hg⟩
theorem header_attribute_ok (k : Nat) (h : Hdr) (key value : List UInt8) (hl : value.length ≤ 100000) (w : World) (ha : ArrAt w k T_api_Header h.cells) :
    Calls Tryz.prog f_header_attribute #[.pointer (some ⟨k, 0, none⟩), .string (mkS key), .string (mkS value)] w (Ret (AttrPost k (attrV h key value) w)) := by
  apply run_header_attribute
  unfold vc_header_attribute
  simp only [addr_at]
  have h0 : Option.isSome (some (⟨k, 0, none⟩ : Addr)) = true := rfl
  have g0 := grown_refl w (some k)
  have bb : ∀ b : Bool, (Value.bool b).cells = #[Value.bool b] := fun _ => rfl
  refine BCase.of (fun h1 => ?_) (fun h1 => ?_)
  · rw [beq_iff_eq] at h1
    refine callK (date_Cookie_ok value hl w) ?_
    rintro _ w1 ⟨rfl, hb1⟩
    have ha1 := ha.below hb1
    have hg1 := below_grownBy hb1 (some k)
    unfold attrV
    rw [if_pos h1]
    unfold cookV
    by_cases hc : cookP (toldV value)
    · rw [if_pos hc, if_pos hc]
      refine ⟨_, _, rfl, BCase.yes rfl ⟨h0, h0, ?_⟩⟩
      obtain ⟨w2, hs2, ha2, hg2⟩ := ha1.put (P := Tryz.prog) tf_bool (i := 4) (v := .bool true) (by simp [Hdr.cells]) rfl rfl
      refine ⟨w2, hs2, h0, h0, ?_⟩
      obtain ⟨w3, hs3, ha3, hg3⟩ := ha2.put (P := Tryz.prog) tf_int64 (i := 5) (v := .int .i64 (cookN (toldV value))) (by simp [Hdr.cells]) rfl rfl
      exact ⟨w3, hs3, attr_unit ha3 (grown_trans (grown_trans hg1 hg2) hg3)⟩
    · rw [if_neg hc, if_neg hc]
      exact ⟨_, _, rfl, BCase.no rfl (attr_unit ha1 hg1)⟩
  rw [beq_eq_false_iff_ne] at h1
  refine BCase.of (fun h2 => ?_) (fun h2 => ?_)
  · rw [beq_iff_eq] at h2
    refine callK (header_age_ok value (by omega) w) ?_
    rintro _ w1 ⟨rfl, hb1⟩
    have ha1 := ha.below hb1
    have hg1 := below_grownBy hb1 (some k)
    unfold attrV
    rw [if_neg h1, if_pos h2]
    unfold ageT
    cases ageV value with
    | none => exact ⟨_, _, rfl, BCase.no rfl (attr_unit ha1 hg1)⟩
    | some n =>
      refine ⟨_, _, rfl, BCase.yes rfl ⟨h0, h0, ?_⟩⟩
      obtain ⟨w2, hs2, ha2, hg2⟩ := ha1.put (P := Tryz.prog) tf_bool (i := 6) (v := .bool true) (by simp [Hdr.cells]) rfl rfl
      refine ⟨w2, hs2, h0, h0, ?_⟩
      obtain ⟨w3, hs3, ha3, hg3⟩ := ha2.put (P := Tryz.prog) tf_int64 (i := 7) (v := .int .i64 n) (by simp [Hdr.cells]) rfl rfl
      exact ⟨w3, hs3, attr_unit ha3 (grown_trans (grown_trans hg1 hg2) hg3)⟩
  rw [beq_eq_false_iff_ne] at h2
  refine BCase.of (fun h3 => ?_) (fun h3 => ?_)
  · rw [beq_iff_eq] at h3
    refine (Tryz.strings_TrimPrefix (mkS value) (mkS [46]) w).mono ?_
    rintro _ _ ⟨rfl, rfl⟩
    have e : Lib.trimPrefix (mkS value).data.toList (mkS [46]).data.toList = if value.head? = some 46 then value.drop 1 else value := (pre_byte value 46).2
    rw [e]
    refine ⟨(if value.head? = some 46 then value.drop 1 else value), rfl, ?_⟩
    refine callK (octet_Lower_ok _ (by split <;> (try rw [List.length_drop]) <;> omega) _) ?_
    rintro _ w1 ⟨rfl, hb1⟩
    refine ⟨_, rfl, h0, h0, ?_⟩
    have ha1 := ha.below hb1
    obtain ⟨w2, hs2, ha2, hg2⟩ := ha1.put (P := Tryz.prog) tf_string (i := 2) (v := .string (mkS (lowL (if value.head? = some 46 then value.drop 1 else value)))) (by simp [Hdr.cells]) rfl rfl
    refine ⟨w2, hs2, attr_unit ?_ (grown_trans (below_grownBy hb1 (some k)) hg2)⟩
    unfold attrV
    rw [if_neg h1, if_neg h2, if_pos h3]; exact ha2
  rw [beq_eq_false_iff_ne] at h3
  refine BCase.of (fun h4 => ?_) (fun h4 => ?_)
  · rw [beq_iff_eq] at h4
    refine ⟨h0, h0, ?_⟩
    obtain ⟨w2, hs2, ha2, hg2⟩ := ha.put (P := Tryz.prog) tf_string (i := 3) (v := .string (mkS [])) (by simp [Hdr.cells]) rfl rfl
    refine ⟨w2, hs2, ?_⟩
    refine (Tryz.strings_HasPrefix (mkS value) (mkS [47]) w2).mono ?_
    rintro _ _ ⟨rfl, rfl⟩
    have e : Lib.hasPrefix (mkS value).data.toList (mkS [47]).data.toList = decide (value.head? = some 47) := (pre_byte value 47).1
    rw [e]
    refine ⟨_, rfl, ?_⟩
    unfold attrV
    rw [if_neg h1, if_neg h2, if_neg h3, if_pos h4]
    refine BCase.of (fun h5 => ?_) (fun h5 => ?_) <;> simp only [decide_eq_true_eq, decide_eq_false_iff_not] at h5
    · refine ⟨h0, h0, ?_⟩
      obtain ⟨w3, hs3, ha3, hg3⟩ := ha2.put (P := Tryz.prog) tf_string (i := 3) (v := .string (mkS value)) (by simp [Hdr.cells]) rfl rfl
      refine ⟨w3, hs3, attr_unit ?_ (grown_trans hg2 hg3)⟩
      rw [if_pos h5]; exact ha3
    · rw [if_neg h5]; exact attr_unit ha2 hg2
  rw [beq_eq_false_iff_ne] at h4
  refine BCase.of (fun h5 => ?_) (fun h5 => ?_)
  · rw [beq_iff_eq] at h5
    refine ⟨h0, h0, ?_⟩
    obtain ⟨w2, hs2, ha2, hg2⟩ := ha.put (P := Tryz.prog) tf_bool (i := 8) (v := .bool true) (by simp [Hdr.cells]) rfl rfl
    refine ⟨w2, hs2, attr_unit ?_ hg2⟩
    unfold attrV
    rw [if_neg h1, if_neg h2, if_neg h3, if_neg h4, if_pos h5]; exact ha2
  rw [beq_eq_false_iff_ne] at h5
  refine BCase.of (fun h6 => ?_) (fun h6 => ?_)
  · rw [beq_iff_eq] at h6
    refine ⟨h0, h0, ?_⟩
    obtain ⟨w2, hs2, ha2, hg2⟩ := ha.put (P := Tryz.prog) tf_bool (i := 9) (v := .bool true) (by simp [Hdr.cells]) rfl rfl
    refine ⟨w2, hs2, attr_unit ?_ hg2⟩
    unfold attrV
    rw [if_neg h1, if_neg h2, if_neg h3, if_neg h4, if_neg h5, if_pos h6]; exact ha2
  rw [beq_eq_false_iff_ne] at h6
  unfold attrV
  rw [if_neg h1, if_neg h2, if_neg h3, if_neg h4, if_neg h5, if_neg h6]
  refine BCase.of (fun h7 => ?_) (fun h7 => ?_)
  · rw [beq_iff_eq] at h7
    rw [if_pos h7]
    refine ⟨h0, h0, ?_⟩
    obtain ⟨w2, hs2, ha2, hg2⟩ := ha.put (P := Tryz.prog) tf_int (i := 10) (v := .int .i64 0) (by simp [Hdr.cells]) rfl rfl
    refine ⟨w2, hs2, ?_⟩
    refine callK (header_names_ok w2) ?_
    rintro _ w3 ⟨rfl, hb3⟩
    refine ⟨_, _, _, _, rfl, ?_⟩
    refine ⟨fun m i w' => ∃ j : Nat, j ≤ 4 ∧ i = (j : Int) ∧ m = 4 - j ∧ ArrAt w' k T_api_Header ({ h with same := lastN value j } : Hdr).cells ∧ w.grownBy w' (some k),
      ⟨_, 0, by omega, rfl, rfl, ha2.below hb3, grown_trans hg2 (below_grownBy hb3 _)⟩, ?_⟩
    intro m i
    refine AllJ.of ?_ _
    rintro w4 ⟨j, hj, rfl, rfl, ha4, hg4⟩
    refine BCase.of (fun h8 => ?_) (fun h8 => ?_) <;> simp only [decide_eq_true_eq, decide_eq_false_iff_not] at h8
    · have hj4 : j < 4 := by omega
      have ew : IntKind.i64.wrap ((j : Int) + 1) = ((j + 1 : Nat) : Int) := by rw [wrap_i64 (by omega) (by omega)]; omega
      rw [ew]
      have hnl : (nmL[j]?.getD []).length ≤ 6 := by
        have : ∀ j, j < 4 → (nmL[j]?.getD []).length ≤ 6 := by decide
        exact this j hj4
      refine ⟨_, index_nm w4 j hj4, ?_⟩
      refine callK (octet_Same_ok _ value (by omega) (by omega) w4) ?_
      rintro _ w5 ⟨rfl, hb5⟩
      have ha5 := ha4.below hb5
      have hg5 := grown_trans hg4 (below_grownBy hb5 (some k))
      refine ⟨_, rfl, ?_⟩
      have el : lastN value (j + 1) = if lowL (nmL[j]?.getD []) = lowL value then (j : Int) else lastN value j := rfl
      refine BCase.of (fun h9 => ?_) (fun h9 => ?_)
      · rw [beq_iff_eq] at h9
        rw [if_pos h9] at el
        refine ⟨h0, h0, ?_⟩
        obtain ⟨w6, hs6, ha6, hg6⟩ := ha5.put (P := Tryz.prog) tf_int (i := 10) (v := .int .i64 (j : Int)) (by simp [Hdr.cells]) rfl rfl
        refine ⟨w6, hs6, 4 - (j + 1), by omega, j + 1, by omega, rfl, rfl, ?_, grown_trans hg5 hg6⟩
        rw [el]; exact ha6
      · rw [beq_eq_false_iff_ne] at h9
        rw [if_neg h9] at el
        refine ⟨4 - (j + 1), by omega, j + 1, by omega, rfl, rfl, ?_, hg5⟩
        rw [el]; exact ha5
    · have : j = 4 := by omega
      subst this
      rw [lastN_same] at ha4
      exact attr_unit ha4 hg4
  · rw [beq_eq_false_iff_ne] at h7
    rw [if_neg h7]
    exact attr_unit ha g0
end Go.Proofs.YtmlcilfcaogdcaaGreatDoor
