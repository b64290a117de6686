/- '==' of structs and arrays of plain parts. Its conditions: none. -/
import Derived.Test.YtmlcilfcaogdcaaGreatDoorH
import Derived.Laws.StructEq
set_option linter.unusedVariables false
set_option linter.unusedSimpArgs false
namespace Go.Pk
/-- whether two values of a plain type are the same -/
def eqV (P : Program) : Nat → TypeId → Value → Value → Option Bool
  | 0, _, _, _ => none
  | d + 1, t, x, y => match P.underlying t, x, y with
    | some .bool, .bool a, .bool b => some (a == b)
    | some (.int _), .int k a, .int k' b => if k = k' then some (a == b) else none
    | some .string, .string a, .string b => some (toL a == toL b)
    | some (.struct fs), .agg xs, .agg ys => if P.stoodInHeld t then none else
        fs.toList.foldr (fun f r => if f.name = "_" then r else match partV P f.type xs f.offset, partV P f.type ys f.offset with
          | some a, some b => match eqV P d f.type a b, r with
            | some p, some q => some (p && q)
            | _, _ => none
          | _, _ => none) (some true)
    | some (.array n e), .agg xs, .agg ys => match P.info? e with
      | some i => (List.range n).foldr (fun j r => match partV P e xs (j * i.size), partV P e ys (j * i.size) with
          | some a, some b => match eqV P d e a b, r with
            | some p, some q => some (p && q)
            | _, _ => none
          | _, _ => none) (some true)
      | none => none
    | _, _, _ => none
theorem eqV_ok {P : Program} : ∀ (d : Nat) (t : TypeId) (x y : Value) (b : Bool) (w : World), eqV P d t x y = some b → (Op.equalIn d t x y).run P w = .ok b w := by
  intro d
  induction d with
  | zero => intro t x y b w h; cases h
  | succ d ih =>
    intro t x y b w h
    unfold eqV at h
    split at h
    · rename_i hu; cases h
      exact run_equalIn_bool' w d t _ _ hu
    · rename_i k0 k a k' c hu
      split at h
      · rename_i e; subst e; cases h
        exact run_equalIn_int w d t _ _ _ _ hu
      · cases h
    · rename_i a c hu; cases h
      rw [run_equalIn_string w d t _ _ hu]
      rw [ByteArray.toList_eq, ByteArray.toList_eq]; rfl
    · rename_i fs xs ys hu
      split at h
      · cases h
      · rename_i hp
        have hf : P.fieldsOf t = fs := by unfold Program.fieldsOf; rw [hu]
        rw [run_equalIn_struct w d t xs ys (by rw [hf]; exact hu) (by simpa using hp), hf]
        revert h
        generalize fs.toList = l
        induction l generalizing b with
        | nil => intro h; cases h; rfl
        | cons f l ihl =>
          intro h
          rw [List.foldr_cons] at h
          unfold Op.eqFields
          by_cases hn : f.name = "_"
          · rw [if_pos hn] at h
            rw [if_neg (by simpa using hn)]
            exact ihl b h
          · rw [if_neg hn] at h
            rw [if_pos hn]
            split at h
            · rename_i a c ha hc
              split at h
              · rename_i p q hpq hq
                cases h
                have h1 := ih f.type a c p w hpq
                have h2 := ihl q hq
                simp only [Sem.run_bind, partV_ok ha, partV_ok hc, Result.andThen_ok, h1]
                cases p
                · simp
                · simpa using h2
              · cases h
            · cases h
    · rename_i n e xs ys hu
      split at h
      · rename_i i hi
        simp only [Op.equalIn, Sem.run_bind, run_und hu, Result.andThen_ok, run_size hi]
        rw [Std.Legacy.Range.forIn_eq_forIn_range']
        have er : List.range' 0 ([0:n] : Std.Legacy.Range).size 1 = List.range n := by
          rw [List.range_eq_range']; simp [Std.Legacy.Range.size]
        rw [er]
        clear er
        revert h
        generalize List.range n = l
        induction l generalizing b with
        | nil => intro h; cases h; simp
        | cons j l ihl =>
          intro h
          rw [List.foldr_cons] at h
          split at h
          · rename_i a c ha hc
            split at h
            · rename_i p q hpq hq
              cases h
              have h1 := ih e a c p w hpq
              have h2 := ihl q hq
              simp only [List.forIn_cons, Sem.run_bind, partV_ok ha, partV_ok hc, Result.andThen_ok, h1]
              cases p
              · simp
              · simpa using h2
            · cases h
          · cases h
      · cases h
    · cases h
theorem run_eq {P : Program} {t : TypeId} {x y : Operand} {xs ys : Array Value} {b : Bool} (hm : P.eqGuardType P.depth t = false) (h : eqV P 10000 t (.agg xs) (.agg ys) = some b) (w : World) :
    ((do eqGuard .eql t x y (.agg xs) (.agg ys); binOp .eql t (.agg xs) (.agg ys) : Sem Value)).run P w = .ok (.bool b) w := by
  rw [Sem.run_bind, run_eqGuard_agg w .eql t x y xs ys hm, Result.andThen_ok, run_eql_struct, eqV_ok _ _ _ _ _ w h, Result.andThen_ok]
theorem run_ne {P : Program} {t : TypeId} {x y : Operand} {xs ys : Array Value} {b : Bool} (hm : P.eqGuardType P.depth t = false) (h : eqV P 10000 t (.agg xs) (.agg ys) = some b) (w : World) :
    ((do eqGuard .neq t x y (.agg xs) (.agg ys); binOp .neq t (.agg xs) (.agg ys) : Sem Value)).run P w = .ok (.bool (!b)) w := by
  rw [Sem.run_bind, run_eqGuard_agg w .neq t x y xs ys hm, Result.andThen_ok, run_neq_struct, eqV_ok _ _ _ _ _ w h, Result.andThen_ok]
end Go.Pk
