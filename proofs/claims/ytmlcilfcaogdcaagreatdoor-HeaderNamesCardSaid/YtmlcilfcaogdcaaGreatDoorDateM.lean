/- Plain laws of the text of a moment. Its conditions: none. -/
import Derived.Test.YtmlcilfcaogdcaaGreatDoorDateL
import Derived.Lib.ItoaMem
import Derived.Lib.LaidTab
set_option linter.unusedVariables false
set_option linter.unusedSimpArgs false
set_option maxRecDepth 20000
namespace Go.Pk
open Go.RowKit (Below)
theorem civ_ex {n : Int} (h1 : -134774 ≤ n) (h2 : n ≤ 2932896) : ∃ y m d, isDate y m d ∧ daysOf y m d = n := by
  have h := civ_code h1 h2 _ _ _ _ _ _ rfl rfl rfl rfl rfl rfl
  exact ⟨_, _, _, h.2.2.2.2.2.2.2.2.2.2.2.2⟩
def dig1 (n : Int) : UInt8 := UInt8.ofNat (48 + n.toNat % 10)
def twoL (n : Int) : List UInt8 := [dig1 (n / 10), dig1 n]
def weekL : List (List UInt8) := [[84, 104, 117], [70, 114, 105], [83, 97, 116], [83, 117, 110], [77, 111, 110], [84, 117, 101], [87, 101, 100]]
def monL3 : List (List UInt8) := [[74, 97, 110], [70, 101, 98], [77, 97, 114], [65, 112, 114], [77, 97, 121], [74, 117, 110], [74, 117, 108], [65, 117, 103], [83, 101, 112], [79, 99, 116], [78, 111, 118], [68, 101, 99]]
def weekN (k : Int) : List UInt8 := weekL[k.toNat]?.getD []
def monN (m : Int) : List UInt8 := monL3[(m - 1).toNat]?.getD []
def clockL (s : Int) : List UInt8 := twoL (s / 3600) ++ [58] ++ twoL (s / 60 % 60) ++ [58] ++ twoL (s % 60)
/-- the text of a date and of seconds -/
def textD (n y m d s : Int) : List UInt8 := weekN (n % 7) ++ [44, 32] ++ twoL d ++ [32] ++ monN m ++ [32] ++ (twoL (y / 100) ++ twoL (y % 100)) ++ [32] ++ clockL s ++ [32, 71, 77, 84]
open Classical in
noncomputable def textV (t : Int) : List UInt8 := if h : ∃ p : Int × Int × Int, isDate p.1 p.2.1 p.2.2 ∧ daysOf p.1 p.2.1 p.2.2 = t / 86400 then
  textD (t / 86400) (Classical.choose h).1 (Classical.choose h).2.1 (Classical.choose h).2.2 (t % 86400) else []
theorem textV_of {t y m d : Int} (h : isDate y m d) (e : daysOf y m d = t / 86400) : textV t = textD (t / 86400) y m d (t % 86400) := by
  have hex : ∃ p : Int × Int × Int, isDate p.1 p.2.1 p.2.2 ∧ daysOf p.1 p.2.1 p.2.2 = t / 86400 := ⟨(y, m, d), h, e⟩
  unfold textV
  rw [dif_pos hex]
  obtain ⟨h1, h2⟩ := Classical.choose_spec hex
  obtain ⟨e1, e2, e3⟩ := day_uniq h1 h (h2.trans e.symm)
  rw [e1, e2, e3]
theorem textV_none {t : Int} (h : t / 86400 < -134774 ∨ 2932896 < t / 86400) : textV t = [] := by
  unfold textV
  rw [dif_neg]
  rintro ⟨p, h1, h2⟩
  have := day_range h1
  omega
/-! ### numerals -/
theorem itoa2_all : ∀ n, n < 100 → 10 ≤ n → Lib.decDigits n = twoL (n : Int) := by decide +kernel
theorem itoa1_all : ∀ n, n < 10 → (48 : UInt8) :: Lib.decDigits n = twoL (n : Int) := by decide +kernel
theorem dec1_all : ∀ n, n < 10 → (Lib.decDigits n).length = 1 := by decide +kernel
theorem dec_step (u : Nat) (h : 10 ≤ u) : Lib.decDigits u = Lib.decDigits (u / 10) ++ [UInt8.ofNat (48 + u % 10)] := by
  rw [Lib.decDigits, dif_neg (by omega)]
theorem itoa4 {y : Int} (h1 : 1000 ≤ y) (h2 : y ≤ 9999) : Lib.itoa y = twoL (y / 100) ++ twoL (y % 100) := by
  obtain ⟨n, rfl⟩ : ∃ n : Nat, y = (n : Int) := ⟨y.toNat, by omega⟩
  rw [Lib.itoa_nonneg, dec_step n (by omega), dec_step (n / 10) (by omega), show n / 10 / 10 = n / 100 by omega, itoa2_all (n / 100) (by omega) (by omega)]
  unfold twoL dig1
  rw [show (((n / 100 : Nat) : Int)) = (n : Int) / 100 by omega]
  have e1 : ((n : Int) % 100 / 10).toNat % 10 = n / 10 % 10 := by omega
  have e2 : ((n : Int) % 100).toNat % 10 = n % 10 := by omega
  rw [e1, e2]; rfl
theorem two_len (n : Int) : (twoL n).length = 2 := rfl
theorem dig1_ok (n : Int) : isDig (dig1 n) = true ∧ ((dig1 n).toNat : Int) = 48 + n.toNat % 10 := by
  have h : (dig1 n).toNat = 48 + n.toNat % 10 := by
    unfold dig1; rw [UInt8.toNat_ofNat']; omega
  exact ⟨isDig_iff.2 (by omega), by omega⟩
theorem tab_same {P : Program} {name : String} {k : IntKind} {zs : List Int} {w w' : World} (h : Lib.TabIs P w name k zs) (hb : ∀ b, b < w.heap.size → P.globalNamed name = some b → w'.heap[b]? = w.heap[b]?) : Lib.TabIs P w' name k zs := by
  unfold Lib.TabIs World.var? at h ⊢
  cases hg : P.globalNamed name with
  | none => rw [hg] at h; cases h
  | some g =>
    rw [hg] at h
    simp only [Option.bind_some] at h ⊢
    have hlt : g < w.heap.size := by
      cases hh : w.heap[g]? with
      | none => rw [hh] at h; cases h
      | some o => exact (Array.getElem?_eq_some_iff.1 hh).1
    rw [hb g hlt hg]; exact h
theorem tab_below {P : Program} {name : String} {k : IntKind} {zs : List Int} {w w' : World} {B : Nat} (h : Lib.TabIs P w name k zs) (hb : Below B w w') (hB : ∀ b, P.globalNamed name = some b → b < B) : Lib.TabIs P w' name k zs :=
  tab_same h fun b _ hg => hb.block b (hB b hg)
theorem tab_step {P : Program} {name : String} {k : IntKind} {zs : List Int} {w w' : World} (h : Lib.TabIs P w name k zs) (hb : Below w.heap.size w w') : Lib.TabIs P w' name k zs :=
  tab_same h fun b hlt _ => hb.block b hlt
end Go.Pk
