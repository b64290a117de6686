/- What the laws lean on: Split, DateP, DateA, DateB, DateC, DateQ, DateD, OctA, Shelf, DateE, DateF, DateG, DateH, DateI, DateJ, DateK, DateL, DateM, DateN, DateO; what is used. Its conditions: none. -/
import Derived.Test.YtndbpedpdbjkpaaGreatDoorKC
import Derived.Lib.SplitLaws
import Derived.Lib.IndexMore
import Init
import Derived.Shelf.Strings.SlTrimAscii
import Derived.Shelf.Strings.Builder1
import Derived.Shelf.Strings.Builder2
import Derived.Shelf.Strings.OnBuilder
import Derived.Shelf.Strings.Trim
import Derived.Shelf.Small.Utf8
import Derived.Shelf.Small.Bits
import Derived.Shelf.Small.Strs
import Derived.Shelf.Small.Wraps
import Derived.Shelf.Strings.BuilderF
import Derived.Shelf.Strings.BuilderK
import Derived.Shelf.Utf8.RuneCount
import Derived.Shelf.Strings.Builder2Cap
import Derived.Shelf.Strconv.Atoi
import Derived.Shelf.Strconv.Itoa0
import Derived.Shelf.Strconv.Itoa1
import Derived.Shelf.LaysM
import Derived.Shelf.Strconv.Itoa2
import Derived.Shelf.Strconv.Itoa3
import Derived.Shelf.Strconv.AtoiErrFast
import Derived.Shelf.Strconv.ParseIntEmpty
import Derived.Shelf.Strconv.AtoiFail
import Derived.Shelf.Strconv.Clone
import Derived.Shelf.Strconv.SyntaxError
import Derived.Shelf.Strconv.Lower
import Derived.Shelf.Strconv.ParseUint10
import Derived.Shelf.Strconv.ParseUint10Empty
import Derived.Shelf.Strconv.RangeError
import Derived.Shelf.Strconv.ParseUintEmpty
import Derived.Shelf.Strconv.ParseUint10b64
import Derived.Shelf.Strconv.ParseUint10b32
import Derived.Shelf.Strconv.ParseUint10b16
import Derived.Shelf.Strconv.ParseUint10b8
import Derived.Shelf.Strings.Search1
import Derived.Shelf.Strings.Search2
import Derived.Shelf.Strings.Search3
import Derived.Shelf.Strings.Cut
import Derived.Shelf.Strings.Count
import Derived.Shelf.Strings.Shaped
import Derived.Shelf.Strings.LastIndex
import Derived.Shelf.Strings.Prefix
import Derived.Shelf.Strings.Split
import Derived.Shelf.Strings.SplitShaped
import Derived.Shelf.Unicode.Decode
import Derived.Shelf.Strings.Runes
import Derived.Shelf.Strings.RuneCount
import Derived.Shelf.Strings.IndexAny
import Derived.Shelf.Strings.AsciiSet
import Derived.Shelf.Strings.IndexAnyAll
import Derived.Shelf.Strings.Explode
import Derived.Shelf.Bits.Mul64
import Derived.Shelf.Strings.Repeat
import Derived.Shelf.Unicode.DecodeSlow
import Derived.Shelf.Unicode.DecodeAny
import Derived.Shelf.Unicode.DecodeLast
import Derived.Shelf.Slices.CompactS
import Derived.Shelf.Slices.Cells
import Derived.Test.YtndbpedpdbjkpaaGreatDoorProg
import Derived.Lib.ItoaMem
import Derived.Lib.LaidTab
open Go.IntKind (i64)
open Go.Proofs.Tryz (prog)
set_option linter.unusedVariables false
set_option linter.unusedSimpArgs false
namespace Go.Pk
def cutC (c : UInt8) : List UInt8 -> List UInt8 -> List (List UInt8)
 | cur, [] => [cur]
 | cur, x :: r => if x = c then cur :: cutC c [] r else cutC c (cur ++ [x]) r
theorem qjo (c : UInt8) : ∀ (a cur r : List UInt8), (∀ x ∈ a, x ≠ c) -> cutC c cur (a ++ c :: r) = (cur ++ a) :: cutC c [] r
 | [], cur, r, _ => by
   show (if c = c then _ else _) = _
   rw [if_pos rfl, List.append_nil]
 | x :: a, cur, r, ha => by
   show (if x = c then _ else _) = _
   rw [if_neg (ha x List.mem_cons_self)]
   exact (qjo c a (cur ++ [x]) r fun y hy => ha y (List.mem_cons_of_mem _ hy)).trans (by simp)
theorem qgy (c : UInt8) : ∀ (a cur : List UInt8), (∀ x ∈ a, x ≠ c) -> cutC c cur a = [cur ++ a]
 | [], cur, _ => by simp [cutC]
 | x :: a, cur, ha => by
   show (if x = c then _ else _) = _
   rw [if_neg (ha x List.mem_cons_self)]
   exact (qgy c a (cur ++ [x]) fun y hy => ha y (List.mem_cons_of_mem _ hy)).trans (by simp)
theorem qt3 (c : UInt8) (s cur : List UInt8) (k : Nat) (h : k < s.length) : cutC c cur (s.drop k) = if s[k] = c then cur :: cutC c [] (s.drop (k + 1)) else cutC c (cur ++ [s[k]]) (s.drop (k + 1)) := by
 rw [List.drop_eq_getElem_cons h]; rfl
theorem jD (c : UInt8) : ∀ (s cur : List UInt8), cutC c cur s ≠ []
 | [], cur => by simp [cutC]
 | x :: s, cur => by
   show (if x = c then _ else _) ≠ _
   split
   · simp
   · exact jD c s _
theorem qdf (c : UInt8) : ∀ (s cur x : List UInt8), x ∈ cutC c cur s -> x.length <= cur.length + s.length
 | [], cur, x, h => by simp [cutC] at h; subst h; simp
 | y :: r, cur, x, h => by
   unfold cutC at h
   split at h
   · rcases List.mem_cons.1 h with rfl | h
     · simp
     · have := qdf c r [] x h; simp at this ⊢; omega
   · have := qdf c r _ x h; simp at this ⊢; omega
theorem j0 (c : UInt8) : ∀ (s cur : List UInt8), (cutC c cur s).length <= s.length + 1
 | [], cur => by simp [cutC]
 | y :: r, cur => by
   unfold cutC
   split
   · have := j0 c r []; simp; omega
   · have := j0 c r (cur ++ [y]); simp; omega
theorem qoC (c : UInt8) : ∀ (s cur x : List UInt8), x ∈ cutC c cur s -> (∀ y ∈ cur, y ≠ c) -> ∀ y ∈ x, (y ∈ cur \/ y ∈ s) /\ y ≠ c
 | [], cur, x, h, hc, y, hy => by simp [cutC] at h; subst h; exact ⟨.inl hy, hc y hy⟩
 | z :: r, cur, x, h, hc, y, hy => by
   unfold cutC at h
   split at h
   · rcases List.mem_cons.1 h with rfl | h
     · exact ⟨.inl hy, hc y hy⟩
     · have := qoC c r [] x h (fun _ h => by cases h) y hy
       refine ⟨.inr (List.mem_cons_of_mem _ ?_), this.2⟩
       rcases this.1 with h | h
       · cases h
       · exact h
   · rename_i hz
     have := qoC c r (cur ++ [z]) x h (fun y hy => by
       rcases List.mem_append.1 hy with h | h
       · exact hc y h
       · simp at h; subst h; exact hz) y hy
     refine ⟨?_, this.2⟩
     rcases this.1 with h | h
     · rcases List.mem_append.1 h with h | h
       · exact .inl h
       · simp at h; subst h; exact .inr List.mem_cons_self
     · exact .inr (List.mem_cons_of_mem _ h)
theorem zw (c : UInt8) : ∀ (s cur r : List UInt8), cutC c cur (s ++ c :: r) = cutC c cur s ++ cutC c [] r
 | [], cur, r => by
   show (if c = c then _ else _) = _
   rw [if_pos rfl]; rfl
 | x :: s, cur, r => by
   show (if x = c then cur :: cutC c [] (s ++ c :: r) else cutC c (cur ++ [x]) (s ++ c :: r)) = (if x = c then cur :: cutC c [] s else cutC c (cur ++ [x]) s) ++ cutC c [] r
   split
   · rw [zw c s]; rfl
   · rw [zw c s]
theorem qnn (s : List UInt8) (c : UInt8) : (Lib.index s [c] = -1 /\ ∀ x ∈ s, x ≠ c) \/ ∃ i : Nat, Lib.index s [c] = (i : Int) /\ ∃ h : i < s.length, s = s.take i ++ c :: s.drop (i + 1) /\ ∀ x ∈ s.take i, x ≠ c := by
 induction s with
 | nil => exact .inl ⟨rfl, fun x h => by cases h⟩
 | cons b l ih =>
   by_cases h : b = c
   · subst h
     refine .inr ⟨0, by rw [Lib.index]; simp [List.isPrefixOf], by simp, rfl, fun x h => by simp at h⟩
   · have hp : ([c] : List UInt8).isPrefixOf (b :: l) = false := by simp [List.isPrefixOf, Ne.symm h]
     have hix : Lib.index (b :: l) [c] = if Lib.index l [c] == -1 then -1 else Lib.index l [c] + 1 := by rw [Lib.index, hp]; simp
     rcases ih with ⟨h1, h2⟩ | ⟨i, h1, h2, h3, h4⟩
     · refine .inl ⟨by rw [hix, h1]; rfl, fun x hx => ?_⟩
       rcases List.mem_cons.1 hx with rfl | hx
       · exact h
       · exact h2 x hx
     · refine .inr ⟨i + 1, ?_, by simpa using h2, ?_, fun x hx => ?_⟩
       · rw [hix, h1, if_neg (by rw [beq_iff_eq]; omega)]; omega
       · simp only [List.take_succ_cons, List.drop_succ_cons, List.cons_append]
         rw [<- h3]
       · rw [List.take_succ_cons] at hx
         rcases List.mem_cons.1 hx with rfl | hx
         · exact h
         · exact h4 x hx
theorem ql2 (c : UInt8) : ∀ (n : Nat) (s : List UInt8), s.length <= n -> Lib.splitK [c] 0 (Lib.count s [c]) s = cutC c [] s
 | n, s, hn => by
   rcases qnn s c with ⟨h1, h2⟩ | ⟨i, h1, h2, h3, h4⟩
   · rw [Lib.count_miss h1, qgy c s [] h2]; rfl
   · have hc := Lib.count_hit (s := s) (sub := [c]) (by simp) h1
     cases n with
     | zero => omega
     | succ n =>
       have ih := ql2 c n (s.drop (i + 1)) (by rw [List.length_drop]; omega)
       rw [hc, Nat.add_comm 1]
       unfold Lib.splitK
       rw [if_neg (by rw [h1, beq_iff_eq]; omega), h1]
       simp only [Int.toNat_natCast, Nat.add_zero, List.length_cons, List.length_nil, Nat.zero_add]
       rw [ih]
       conv => rhs; rw [h3, qjo c _ _ _ h4]
       simp
theorem qkQ (s : List UInt8) (c : UInt8) : (Lib.splitB (mkS [c]) 0 (Lib.countB (mkS s) (mkS [c])) (mkS s)).map Value.string = (cutC c [] s).map fun x => Value.string (mkS x) := by
 have h := Lib.splitB_data (mkS [c]) 0 (Lib.countB (mkS s) (mkS [c])) (mkS s)
 have h2 : Lib.splitK (mkS [c]).data.toList 0 (Lib.countB (mkS s) (mkS [c])) (mkS s).data.toList = cutC c [] s := ql2 c _ s (Nat.le_refl _)
 rw [h2] at h
 rw [<- h, List.map_map]
 rfl
theorem qpY (s : List UInt8) (c : UInt8) : Lib.countB (mkS s) (mkS [c]) + 1 = (cutC c [] s).length := by
 have h := qkQ s c
 have h2 := congrArg List.length h
 rw [List.length_map, List.length_map, Lib.splitB_all (mkS [c]) (Nat.le_refl 1) 0 _ _ rfl] at h2
 exact h2
theorem qtu (s : List UInt8) (c : UInt8) : Lib.cut s [c] = if c ∈ s then (s.takeWhile (· != c), (s.dropWhile (· != c)).drop 1, true) else (s, [], false) := by
 unfold Lib.cut
 rcases qnn s c with ⟨h1, h2⟩ | ⟨i, h1, h2, h3, h4⟩
 · rw [h1, if_neg (by omega), if_neg (fun h => h2 c h rfl)]
 · have hmem : c ∈ s := by rw [h3]; simp
   rw [h1, if_pos (by omega), if_pos hmem]
   have ht : s.takeWhile (· != c) = s.take i := by
     conv => lhs; rw [h3]
     rw [List.takeWhile_append_of_pos (by intro a ha; simpa using h4 a ha)]
     simp
   have hd : s.dropWhile (· != c) = c :: s.drop (i + 1) := by
     conv => lhs; rw [h3]
     rw [List.dropWhile_append_of_pos (by intro a ha; simpa using h4 a ha)]
     simp
   rw [ht, hd]; rfl
end Go.Pk
namespace Go.Pk
def qgr (y : Int) : Bool := (decide (Int.tmod y 4 = 0) && decide (Int.tmod y 100 ≠ 0)) || decide (Int.tmod y 400 = 0)
def lenM (y m : Int) : Int := if m = 2 then (if qgr y then 29 else 28) else if m = 4 \/ m = 6 \/ m = 9 \/ m = 11 then 30 else 31
def lenY (y : Int) : Int := if qgr y then 366 else 365
theorem tmod_pos {a b : Int} (h : 0 <= a) : Int.tmod a b = a % b := Int.tmod_eq_emod_of_nonneg h
theorem tdiv_pos {a b : Int} (h : 0 <= a) : Int.tdiv a b = a / b := Int.tdiv_eq_ediv_of_nonneg h
theorem qoJ {y : Int} (h : 0 <= y) : qgr y = true ↔ (y % 4 = 0 /\ y % 100 ≠ 0) \/ y % 400 = 0 := by
 unfold qgr
 rw [tmod_pos h, tmod_pos h, tmod_pos h]
 simp
theorem qqj {y : Int} (h : 1 <= y) : ∃ a b c e : Int, y = 400 * a + 100 * b + 4 * c + e + 1 /\ 0 <= a /\ 0 <= b /\ b <= 3 /\ 0 <= c /\ c <= 24 /\ 0 <= e /\ e <= 3 :=
 ⟨(y - 1) / 400, (y - 1) % 400 / 100, (y - 1) % 100 / 4, (y - 1) % 4, by omega, by omega, by omega, by omega, by omega, by omega, by omega, by omega⟩
theorem qnq {a b c e : Int} (ha : 0 <= a) (hb : 0 <= b) (hb2 : b <= 3) (hc : 0 <= c) (hc2 : c <= 24) (he : 0 <= e) (he2 : e <= 3) : qgr (400 * a + 100 * b + 4 * c + e + 1) = true ↔ e = 3 /\ (c ≠ 24 \/ b = 3) := by
 rw [qoJ (by omega)]
 have h1 : (400 * a + 100 * b + 4 * c + e + 1) % 4 = 0 ↔ e = 3 := by omega
 have h2 : (400 * a + 100 * b + 4 * c + e + 1) % 100 = 0 ↔ e = 3 /\ c = 24 := by omega
 have h3 : (400 * a + 100 * b + 4 * c + e + 1) % 400 = 0 ↔ e = 3 /\ c = 24 /\ b = 3 := by omega
 rw [h1, h3, ne_eq, h2]; omega
def dY (y : Int) : Int := 365 * (y - 1) + (y - 1) / 4 - (y - 1) / 100 + (y - 1) / 400
theorem qgZ {a b c e : Int} (ha : 0 <= a) (hb : 0 <= b) (hb2 : b <= 3) (hc : 0 <= c) (hc2 : c <= 24) (he : 0 <= e) (he2 : e <= 3) : dY (400 * a + 100 * b + 4 * c + e + 1) = 365 * (400 * a + 100 * b + 4 * c + e) + (97 * a + 24 * b + c) := by
 unfold dY
 have h1 : (400 * a + 100 * b + 4 * c + e + 1 - 1) / 4 = 100 * a + 25 * b + c := by omega
 have h2 : (400 * a + 100 * b + 4 * c + e + 1 - 1) / 100 = 4 * a + b := by omega
 have h3 : (400 * a + 100 * b + 4 * c + e + 1 - 1) / 400 = a := by omega
 rw [h1, h2, h3]; omega
theorem qia {y : Int} (h : 1 <= y) : dY (y + 1) = dY y + lenY y := by
 obtain ⟨a, b, c, e, rfl, ha, hb, hb2, hc, hc2, he, he2⟩ := qqj h
 have hl := qnq ha hb hb2 hc hc2 he he2
 rw [qgZ ha hb hb2 hc hc2 he he2]
 unfold lenY
 by_cases h3 : e = 3
 · subst h3
   by_cases h24 : c = 24
   · subst h24
     by_cases h33 : b = 3
     · subst h33
       rw [if_pos (hl.2 ⟨rfl, .inr rfl⟩)]
       rw [show 400 * a + 100 * 3 + 4 * 24 + 3 + 1 + 1 = 400 * (a + 1) + 100 * 0 + 4 * 0 + 0 + 1 by omega, qgZ (by omega) (by omega) (by omega) (by omega) (by omega) (by omega) (by omega)]; omega
     · rw [if_neg (fun h => by have := hl.1 h; omega)]
       rw [show 400 * a + 100 * b + 4 * 24 + 3 + 1 + 1 = 400 * a + 100 * (b + 1) + 4 * 0 + 0 + 1 by omega, qgZ (by omega) (by omega) (by omega) (by omega) (by omega) (by omega) (by omega)]; omega
   · rw [if_pos (hl.2 ⟨rfl, .inl h24⟩)]
     rw [show 400 * a + 100 * b + 4 * c + 3 + 1 + 1 = 400 * a + 100 * b + 4 * (c + 1) + 0 + 1 by omega, qgZ (by omega) (by omega) (by omega) (by omega) (by omega) (by omega) (by omega)]; omega
 · rw [if_neg (fun h => by have := hl.1 h; omega)]
   rw [show 400 * a + 100 * b + 4 * c + e + 1 + 1 = 400 * a + 100 * b + 4 * c + (e + 1) + 1 by omega, qgZ (by omega) (by omega) (by omega) (by omega) (by omega) (by omega) (by omega)]; omega
def cM (y m : Int) : Int := if m = 1 then 0 else if m = 2 then 31 else (if qgr y then 1 else 0) +
 (if m = 3 then 59 else if m = 4 then 90 else if m = 5 then 120 else if m = 6 then 151 else if m = 7 then 181 else if m = 8 then 212 else if m = 9 then 243 else if m = 10 then 273 else if m = 11 then 304 else if m = 12 then 334 else 365)
theorem months {m : Int} (h1 : 1 <= m) (h2 : m <= 12) : m = 1 \/ m = 2 \/ m = 3 \/ m = 4 \/ m = 5 \/ m = 6 \/ m = 7 \/ m = 8 \/ m = 9 \/ m = 10 \/ m = 11 \/ m = 12 := by omega
theorem qjF {y m : Int} (h1 : 1 <= m) (h2 : m <= 12) : cM y (m + 1) = cM y m + lenM y m := by
 unfold cM lenM
 rcases months h1 h2 with rfl | rfl | rfl | rfl | rfl | rfl | rfl | rfl | rfl | rfl | rfl | rfl <;> cases qgr y <;> simp
theorem qqT (y : Int) : cM y 13 = lenY y := by unfold cM lenY; cases qgr y <;> simp
theorem qeL (y m : Int) : 28 <= lenM y m /\ lenM y m <= 31 := by unfold lenM; split <;> (try split) <;> omega
theorem qre {y m : Int} (h1 : 1 <= m) (h2 : m <= 12) : 0 <= cM y m /\ cM y m <= 335 := by
 unfold cM
 rcases months h1 h2 with rfl | rfl | rfl | rfl | rfl | rfl | rfl | rfl | rfl | rfl | rfl | rfl <;> cases qgr y <;> simp
def zK (y m d : Int) : Prop := 1601 <= y /\ y <= 9999 /\ 1 <= m /\ m <= 12 /\ 1 <= d /\ d <= lenM y m
instance (y m d : Int) : Decidable (zK y m d) := by unfold zK; infer_instance
def zR (y m d : Int) : Int := dY y - 719162 + cM y m + d - 1
theorem qtU : dY 1970 = 719162 := by decide
theorem qlA (y : Int) : 365 <= lenY y /\ lenY y <= 366 := by unfold lenY; split <;> omega
theorem qtD {a : Int} (h : 1 <= a) : ∀ k : Nat, dY a <= dY (a + k)
 | 0 => by simp
 | k + 1 => by
   have h1 := qtD h k
   have h2 := qia (y := a + k) (by omega)
   have h3 := qlA (a + k)
   rw [show a + ((k + 1 : Nat) : Int) = a + k + 1 by omega]; omega
theorem qfH {a b : Int} (h1 : 1 <= a) (h : a <= b) : dY a <= dY b := by
 have := qtD h1 (b - a).toNat
 rwa [show a + ((b - a).toNat : Int) = b by omega] at this
theorem qo9 {y : Int} (h1 : 1601 <= y) (h2 : y <= 10000) : 584388 <= dY y /\ dY y <= 3652059 := by
 have e1 := qfH (a := 1601) (b := y) (by omega) h1
 have e2 := qfH (a := y) (b := 10000) (by omega) h2
 have e3 : dY 1601 = 584388 := by decide
 have e4 : dY 10000 = 3652059 := by decide
 omega
theorem qtx {y a : Int} (h : 1 <= a) : ∀ k : Nat, a + k <= 13 -> cM y a <= cM y (a + k)
 | 0, _ => by simp
 | k + 1, hk => by
   have h1 := qtx (y := y) h k (by omega)
   have h2 := qjF (y := y) (m := a + k) (by omega) (by omega)
   have h3 := qeL y (a + k)
   rw [show a + ((k + 1 : Nat) : Int) = a + k + 1 by omega]; omega
theorem qnB {y a b : Int} (h1 : 1 <= a) (h : a <= b) (h2 : b <= 13) : cM y a <= cM y b := by
 have := qtx (y := y) h1 (b - a).toNat (by omega)
 rwa [show a + ((b - a).toNat : Int) = b by omega] at this
theorem march {y m d : Int} (hy : 1 <= y) (h1 : 1 <= m) (h2 : m <= 12) (Y M : Int) (hY : Y = if m - 3 < 0 then y - 1 else y) (hM : M = if m - 3 < 0 then m + 9 else m - 3) :
   Y / 400 * 146097 + Y % 400 * 365 + Y % 400 / 4 - Y % 400 / 100 + (153 * M + 2) / 5 + d - 1 - 719468 = zR y m d := by
 obtain ⟨a, b, c, e, rfl, ha, hb, hb2, hc, hc2, he, he2⟩ := qqj (y := y) (by omega)
 have hl := qnq ha hb hb2 hc hc2 he he2
 unfold zR
 rw [qgZ ha hb hb2 hc hc2 he he2]
 by_cases hm : m - 3 < 0
 · rw [if_pos hm] at hY hM
   subst hY
   have e1 : (400 * a + 100 * b + 4 * c + e + 1 - 1) / 400 = a := by omega
   have e2 : (400 * a + 100 * b + 4 * c + e + 1 - 1) % 400 = 100 * b + 4 * c + e := by omega
   have e3 : (100 * b + 4 * c + e) / 4 = 25 * b + c := by omega
   have e4 : (100 * b + 4 * c + e) / 100 = b := by omega
   rw [e1, e2, e3, e4]
   have : m = 1 \/ m = 2 := by omega
   rcases this with rfl | rfl <;> subst hM <;> unfold cM <;> simp <;> omega
 · rw [if_neg hm] at hY hM
   subst hY
   have hc' : cM (400 * a + 100 * b + 4 * c + e + 1) m = (if qgr (400 * a + 100 * b + 4 * c + e + 1) = true then 1 else 0) + 59 + (153 * M + 2) / 5 := by
     have : m = 3 \/ m = 4 \/ m = 5 \/ m = 6 \/ m = 7 \/ m = 8 \/ m = 9 \/ m = 10 \/ m = 11 \/ m = 12 := by omega
     rcases this with rfl | rfl | rfl | rfl | rfl | rfl | rfl | rfl | rfl | rfl <;> subst hM <;> unfold cM <;> simp <;> omega
   rw [hc']
   have key : (400 * a + 100 * b + 4 * c + e + 1) / 400 * 146097 + (400 * a + 100 * b + 4 * c + e + 1) % 400 * 365 + (400 * a + 100 * b + 4 * c + e + 1) % 400 / 4 - (400 * a + 100 * b + 4 * c + e + 1) % 400 / 100 =
       365 * (400 * a + 100 * b + 4 * c + e + 1) + (97 * a + 24 * b + c) + (if qgr (400 * a + 100 * b + 4 * c + e + 1) = true then 1 else 0) := by
     by_cases h3 : e = 3
     · subst h3
       by_cases h24 : c = 24
       · subst h24
         by_cases h33 : b = 3
         · subst h33
           rw [if_pos (hl.2 ⟨rfl, .inr rfl⟩)]
           have e1 : (400 * a + 100 * 3 + 4 * 24 + 3 + 1) / 400 = a + 1 := by omega
           have e2 : (400 * a + 100 * 3 + 4 * 24 + 3 + 1) % 400 = 0 := by omega
           rw [e1, e2]; omega
         · rw [if_neg (fun h => by have := hl.1 h; omega)]
           have e1 : (400 * a + 100 * b + 4 * 24 + 3 + 1) / 400 = a := by omega
           have e2 : (400 * a + 100 * b + 4 * 24 + 3 + 1) % 400 = 100 * (b + 1) := by omega
           have e3 : (100 * (b + 1)) / 4 = 25 * (b + 1) := by omega
           have e4 : (100 * (b + 1)) / 100 = b + 1 := by omega
           rw [e1, e2, e3, e4]; omega
       · rw [if_pos (hl.2 ⟨rfl, .inl h24⟩)]
         have e1 : (400 * a + 100 * b + 4 * c + 3 + 1) / 400 = a := by omega
         have e2 : (400 * a + 100 * b + 4 * c + 3 + 1) % 400 = 100 * b + 4 * (c + 1) := by omega
         have e3 : (100 * b + 4 * (c + 1)) / 4 = 25 * b + c + 1 := by omega
         have e4 : (100 * b + 4 * (c + 1)) / 100 = b := by omega
         rw [e1, e2, e3, e4]; omega
     · rw [if_neg (fun h => by have := hl.1 h; omega)]
       have e1 : (400 * a + 100 * b + 4 * c + e + 1) / 400 = a := by omega
       have e2 : (400 * a + 100 * b + 4 * c + e + 1) % 400 = 100 * b + 4 * c + e + 1 := by omega
       have e3 : (100 * b + 4 * c + e + 1) / 4 = 25 * b + c := by omega
       have e4 : (100 * b + 4 * c + e + 1) / 100 = b := by omega
       rw [e1, e2, e3, e4]; omega
   omega
theorem qqO {y m d : Int} (h : zK y m d) : dY y <= zR y m d + 719162 /\ zR y m d + 719162 < dY (y + 1) /\ cM y m <= zR y m d + 719162 - dY y /\ zR y m d + 719162 - dY y < cM y (m + 1) := by
 obtain ⟨h1, h2, h3, h4, h5, h6⟩ := h
 have e1 := qre (y := y) h3 (by omega)
 have e2 := qjF (y := y) h3 h4
 have e3 := qnB (y := y) (a := m + 1) (b := 13) (by omega) (by omega) (by omega)
 have e4 := qia (y := y) (by omega)
 have e5 := qqT y
 unfold zR
 omega
theorem qqk {y m d a b c : Int} (h : zK y m d) (k : zK a b c) (e : zR y m d = zR a b c) : y = a /\ m = b /\ d = c := by
 have hy1 := h.1
 have ha1 := k.1
 have h1 := qqO h
 have k1 := qqO k
 rw [e] at h1
 have hy : y = a := by
   rcases Int.lt_trichotomy y a with c | c | c
   · have := qfH (show 1 <= y + 1 by omega) (show y + 1 <= a by omega); omega
   · exact c
   · have := qfH (show 1 <= a + 1 by omega) (show a + 1 <= y by omega); omega
 subst hy
 obtain ⟨_, _, p1, p2, _, _⟩ := h
 obtain ⟨_, _, q1, q2, _, _⟩ := k
 have hm : m = b := by
   rcases Int.lt_trichotomy m b with c | c | c
   · have := qnB (y := y) (a := m + 1) (b := b) (by omega) (by omega) (by omega); omega
   · exact c
   · have := qnB (y := y) (a := b + 1) (b := m) (by omega) (by omega) (by omega); omega
 subst hm
 refine ⟨rfl, rfl, ?_⟩
 unfold zR at e; omega
end Go.Pk
set_option maxRecDepth 20000
namespace Go.Proofs.YtndbpedpdbjkpaaGreatDoor
open Go.Pk
open Go.RowKit (Below)
theorem qpg (y : Int) (w : World) : Calls prog qik #[.int .i64 y] w (Ret fun v w' => v = .bool (qgr y) /\ w' = w) := by
 apply qos
 unfold qj9 qgr
 refine ⟨by decide, ?_⟩
 rintro _ rfl
 refine BCase.of (fun h => ?_) (fun h => ?_) <;> simp at h
 · refine ⟨by decide, ?_⟩
   rintro _ rfl
   refine BCase.of (fun h2 => ?_) (fun h2 => ?_) <;> simp at h2
   · exact ⟨by simp [h, h2], rfl⟩
   · refine ⟨by decide, ?_⟩
     rintro _ rfl
     refine ⟨?_, rfl⟩
     congr 1
     rw [Bool.eq_iff_iff]; simp [h, h2]
 · refine ⟨by decide, ?_⟩
   rintro _ rfl
   refine ⟨?_, rfl⟩
   congr 1
   rw [Bool.eq_iff_iff]; simp [h]
theorem qiv (y : Int) (w : World) : Calls prog qeB #[.int .i64 y] w (Ret fun v w' => v = .bool (qgr y) /\ w' = w) := by
 apply qmQ
 unfold qiI qgr
 refine ⟨by decide, ?_⟩
 rintro _ rfl
 refine BCase.of (fun h => ?_) (fun h => ?_) <;> simp at h
 · exact ⟨by simp [h], rfl⟩
 · refine ⟨by decide, ?_⟩
   rintro _ rfl
   refine BCase.of (fun h2 => ?_) (fun h2 => ?_) <;> simp at h2
   · refine ⟨by decide, ?_⟩
     rintro _ rfl
     refine ⟨?_, rfl⟩
     congr 1
     rw [Bool.eq_iff_iff]; simp [h, h2]
   · exact ⟨by simp [h, h2], rfl⟩
theorem qaY (y m : Int) (w : World) : Calls prog qaf #[.int .i64 y, .int .i64 m] w (Ret fun v w' => v = .int .i64 (lenM y m) /\ w' = w) := by
 apply qkq
 unfold qgl
 refine ⟨fun b w' => w' = w /\ b = decide (m = 4 \/ m = 6 \/ m = 9 \/ m = 11), ?_, ?_⟩
 · refine BCase.of (fun h => ?_) (fun h => ?_) <;> simp at h
   · exact ⟨rfl, by simp [h]⟩
   · refine BCase.of (fun h2 => ?_) (fun h2 => ?_) <;> simp at h2
     · exact ⟨rfl, by simp [h2]⟩
     · refine BCase.of (fun h3 => ?_) (fun h3 => ?_) <;> simp at h3
       · exact ⟨rfl, by simp [h3]⟩
       · refine ⟨rfl, ?_⟩
         rw [Bool.eq_iff_iff]; simp [h, h2, h3]
 · intro b
   refine AllJ.of ?_ _
   rintro _ ⟨rfl, rfl⟩
   refine BCase.of (fun h => ?_) (fun h => ?_) <;> simp only [dTx, dFx] at h
   · refine ⟨?_, rfl⟩
     unfold lenM; rw [if_neg (by omega), if_pos h]
   · refine BCase.of (fun h2 => ?_) (fun h2 => ?_) <;> simp at h2
     · refine callK (qiv y _) ?_
       rintro _ w' ⟨rfl, rfl⟩
       refine ⟨_, rfl, ?_⟩
       refine BCase.of (fun h3 => ?_) (fun h3 => ?_)
       · refine ⟨?_, rfl⟩
         unfold lenM; rw [if_pos h2, if_pos h3]
       · refine ⟨?_, rfl⟩
         unfold lenM; rw [if_pos h2, if_neg (by simp [h3])]
     · refine ⟨?_, rfl⟩
       unfold lenM; rw [if_neg h2, if_neg h]
theorem qb4 (y : Int) (w : World) : Calls prog qa5 #[.int .i64 y] w (Ret fun v w' => v = .int .i64 (lenY y) /\ w' = w) := by
 apply qm3
 unfold qiM
 refine callK (qiv y w) ?_
 rintro _ w' ⟨rfl, rfl⟩
 refine ⟨_, rfl, ?_⟩
 refine BCase.of (fun h3 => ?_) (fun h3 => ?_)
 · refine ⟨?_, rfl⟩
   unfold lenY; rw [if_pos h3]
 · refine ⟨?_, rfl⟩
   unfold lenY; rw [if_neg (by simp [h3])]
theorem ql7 (y m d : Int) (w : World) : Calls prog qg5 #[.int .i64 y, .int .i64 m, .int .i64 d] w (Ret fun v w' => v = .bool (decide (zK y m d)) /\ w' = w) := by
 apply qpe
 unfold ql0
 refine BCase.of (fun h1 => ?_) (fun h1 => ?_) <;> simp at h1
 · refine BCase.of (fun h2 => ?_) (fun h2 => ?_) <;> simp at h2
   · refine BCase.of (fun h3 => ?_) (fun h3 => ?_) <;> simp at h3
     · refine BCase.of (fun h4 => ?_) (fun h4 => ?_) <;> simp at h4
       · refine BCase.of (fun h5 => ?_) (fun h5 => ?_) <;> simp at h5
         · refine callK (qaY y m w) ?_
           rintro _ w' ⟨rfl, rfl⟩
           refine ⟨_, rfl, ?_, rfl⟩
           congr 1
           rw [Bool.eq_iff_iff]; simp [zK, h1, h2, h3, h4, h5]
         · refine ⟨?_, rfl⟩
           congr 1; symm; rw [dFx]; unfold zK; omega
       · refine ⟨?_, rfl⟩
         congr 1; symm; rw [dFx]; unfold zK; omega
     · refine ⟨?_, rfl⟩
       congr 1; symm; rw [dFx]; unfold zK; omega
   · refine ⟨?_, rfl⟩
     congr 1; symm; rw [dFx]; unfold zK; omega
 · refine ⟨?_, rfl⟩
   congr 1; symm; rw [dFx]; unfold zK; omega
def qp6 (y m d : Int) : Value := .tuple #[.int .i64 (if zK y m d then zR y m d else 0), .bool (decide (zK y m d))]
theorem qcL (y m d : Int) (w : World) : Calls prog qbL #[.int .i64 y, .int .i64 m, .int .i64 d] w (Ret fun v w' => v = qp6 y m d /\ w' = w) := by
 apply qmO
 unfold qiY
 refine callK (ql7 y m d w) ?_
 rintro _ w ⟨rfl, rfl⟩
 refine ⟨_, rfl, ?_⟩
 refine BCase.of (fun h => ?_) (fun h => ?_) <;> simp only [Bool.not_eq_true', Bool.not_eq_false', dTx, dFx] at h
 · refine ⟨?_, rfl⟩
   unfold qp6; rw [if_neg h]; simp [h]
 · have hd := h
   obtain ⟨h1, h2, h3, h4, h5, h6⟩ := h
   have hl := qeL y m
   refine ⟨fun q n k w' => w' = w /\ 1 <= k /\ k <= m /\ n = d - 1 + cM y k /\ q = (m - k).toNat, ⟨_, rfl, by omega, h3, ?_, rfl⟩, ?_⟩
   · rw [wrap_i64 (by omega) (by omega)]; simp [cM]
   intro q n k
   refine AllJ.of ?_ _
   rintro w ⟨rfl, hk1, hk2, rfl, rfl⟩
   refine BCase.of (fun h => ?_) (fun h => ?_) <;> simp only [dTx, dFx] at h
   · refine callK (qaY y k _) ?_
     rintro _ w ⟨rfl, rfl⟩
     have e1 := qre (y := y) hk1 (by omega)
     have e2 := qeL y k
     refine ⟨_, rfl, (m - (k + 1)).toNat, by omega, rfl, ?_, ?_, ?_, ?_⟩
     · rw [wrap_i64 (by omega) (by omega)]; omega
     · rw [wrap_i64 (by omega) (by omega)]; omega
     · rw [wrap_i64 (by omega) (by omega), wrap_i64 (by omega) (by omega), qjF hk1 (by omega)]; omega
     · rw [wrap_i64 (by omega) (by omega)]
   · have hkm : k = m := by omega
     subst hkm
     have e1 := qre (y := y) hk1 (by omega)
     refine ⟨fun q n k' w'' => w'' = w /\ 1970 <= k' /\ (k' <= y \/ k' = 1970) /\ n = d - 1 + cM y k + (dY k' - 719162) /\ q = (y - k').toNat, ⟨_, rfl, by omega, .inr rfl, by rw [qtU]; omega, rfl⟩, ?_⟩
     intro q n k'
     refine AllJ.of ?_ _
     rintro w ⟨rfl, hk3, hk4, rfl, rfl⟩
     refine BCase.of (fun h => ?_) (fun h => ?_) <;> simp only [dTx, dFx] at h
     · refine callK (qb4 k' _) ?_
       rintro _ w ⟨rfl, rfl⟩
       have e3 := qo9 (y := k') (by omega) (by omega)
       have e4 := qlA k'
       refine ⟨_, rfl, (y - (k' + 1)).toNat, by omega, rfl, ?_, .inl ?_, ?_, ?_⟩
       · rw [wrap_i64 (by omega) (by omega)]; omega
       · rw [wrap_i64 (by omega) (by omega)]; omega
       · rw [wrap_i64 (by omega) (by omega), wrap_i64 (by omega) (by omega), qia (by omega)]; omega
       · rw [wrap_i64 (by omega) (by omega)]
     · refine ⟨fun q n k'' w'' => w'' = w /\ y <= k'' /\ (k'' <= 1970 \/ k'' = y) /\ n = d - 1 + cM y k + (dY k' - 719162) - (dY k'' - dY y) /\ q = (1970 - k'').toNat, ⟨_, rfl, by omega, .inr rfl, by omega, rfl⟩, ?_⟩
       intro q n k''
       refine AllJ.of ?_ _
       rintro w ⟨rfl, hk5, hk6, rfl, rfl⟩
       have e3 := qo9 (y := k') (by omega) (by omega)
       have e4 := qo9 (y := k'') (by omega) (by omega)
       have e5 := qo9 (y := y) (by omega) (by omega)
       have e6 := qlA k''
       refine BCase.of (fun h7 => ?_) (fun h7 => ?_) <;> simp only [dTx, dFx] at h7
       · refine callK (qb4 k'' _) ?_
         rintro _ w ⟨rfl, rfl⟩
         refine ⟨_, rfl, (1970 - (k'' + 1)).toNat, by omega, rfl, ?_, .inl ?_, ?_, ?_⟩
         · rw [wrap_i64 (by omega) (by omega)]; omega
         · rw [wrap_i64 (by omega) (by omega)]; omega
         · rw [wrap_i64 (by omega) (by omega), wrap_i64 (by omega) (by omega), qia (by omega)]; omega
         · rw [wrap_i64 (by omega) (by omega)]
       · refine ⟨?_, rfl⟩
         unfold qp6
         rw [if_pos hd]
         have : decide (zK y k d) = true := by simp [hd]
         rw [this]
         have e7 : k' = k'' := by omega
         have e8 : d - 1 + cM y k + (dY k' - 719162) - (dY k'' - dY y) = zR y k d := by rw [<- e7]; unfold zR; omega
         rw [e8]
end Go.Proofs.YtndbpedpdbjkpaaGreatDoor
namespace Go.Proofs.YtndbpedpdbjkpaaGreatDoor
open Go.Pk
open Go.RowKit (Below)
def lenTab : List Int := [31, 28, 31, 30, 31, 30, 31, 31, 30, 31, 30, 31]
theorem quj : ∀ c ∈ (Value.agg (lenTab.map fun n => Value.int .i64 n).toArray).cells.toList, c.oneCell' = true := by
 intro c hc
 obtain ⟨n, _, rfl⟩ : ∃ n, n ∈ lenTab /\ Value.int .i64 n = c := by simpa [Value.cells] using hc
 rfl
theorem qmy (y m : Int) (h1 : 1 <= m) (h2 : m <= 12) (w : World) : Calls prog qfu #[.int .i64 y, .int .i64 m] w (Ret fun v w' => v = .int .i64 (lenM y m) /\ Below w.heap.size w w') := by
 apply qk0
 unfold qhy
 intro k w1 hk hw1
 have hB1 : Below w.heap.size w w1 := hw1 ▸ qf _ _
 have ha1 : qm w1 k qfF (List.replicate 12 (.int .i64 0)) := qm.new hk hw1
 obtain ⟨w2, hst, ha2, hg⟩ := ha1.store (P := prog) qo8 (i := 0) (v := .agg (lenTab.map fun n => Value.int .i64 n).toArray) rfl (by decide) quj
 refine ⟨w2, hst, ?_⟩
 have hB2 := hB1.grown hg hB1.size (fun x e => by cases e; omega)
 refine ⟨fun w' => w' = w2 /\ (m = 2 -> qgr y = false), ?_, ?_⟩
 · refine BCase.of (fun h => ?_) (fun h => ?_) <;> simp at h
   · refine callK (qpg y _) ?_
     rintro _ w2 ⟨rfl, rfl⟩
     refine ⟨_, rfl, ?_⟩
     refine BCase.of (fun h3 => ?_) (fun h3 => ?_)
     · refine ⟨?_, hB2⟩
       unfold lenM; rw [if_pos h, if_pos h3]
     · exact ⟨rfl, fun _ => h3⟩
   · exact ⟨rfl, fun e => absurd e h⟩
 · refine AllJ.of ?_ _
   rintro w2 ⟨rfl, hlp⟩
   rw [wrap_i64 (by omega) (by omega)]
   refine ⟨⟨⟨by omega, by omega⟩, rfl⟩, ?_⟩
   refine ⟨lenM y m, ?_, rfl, hB2⟩
   rw [qdA, Nat.zero_add, Nat.mul_one]
   refine ha2.load1 qN rfl ?_
   unfold lenM
   rcases months h1 h2 with rfl | rfl | rfl | rfl | rfl | rfl | rfl | rfl | rfl | rfl | rfl | rfl <;> simp [lenTab, Value.cells]
   simp [hlp]
theorem qgm (y m d : Int) (hd : -9223372036854775808 <= d /\ d <= 9223372036854775807) (w : World) : Calls prog qea #[.int .i64 y, .int .i64 m, .int .i64 d] w (Ret fun v w' => v = qp6 y m d /\ Below w.heap.size w w') := by
 apply qoy
 unfold qki
 have bad : ∀ w', Below w.heap.size w w' -> ¬ zK y m d -> (Value.tuple #[.int .i64 0, .bool false] = qp6 y m d /\ Below w.heap.size w w') := fun w' hb h => by
   refine ⟨?_, hb⟩
   unfold qp6; rw [if_neg h]; simp [h]
 refine ⟨fun w' => zK y m d /\ Below w.heap.size w w', ?_, ?_⟩
 · refine BCase.of (fun h1 => ?_) (fun h1 => ?_) <;> simp at h1
   · exact bad _ (Below.refl _ _) (by unfold zK; omega)
   refine BCase.of (fun h2 => ?_) (fun h2 => ?_) <;> simp at h2
   · exact bad _ (Below.refl _ _) (by unfold zK; omega)
   refine BCase.of (fun h3 => ?_) (fun h3 => ?_) <;> simp at h3
   · exact bad _ (Below.refl _ _) (by unfold zK; omega)
   refine BCase.of (fun h4 => ?_) (fun h4 => ?_) <;> simp at h4
   · exact bad _ (Below.refl _ _) (by unfold zK; omega)
   refine BCase.of (fun h5 => ?_) (fun h5 => ?_) <;> simp at h5
   · exact bad _ (Below.refl _ _) (by unfold zK; omega)
   refine callK (qmy y m h3 h4 w) ?_
   rintro _ w1 ⟨rfl, hb⟩
   refine ⟨_, rfl, ?_⟩
   refine BCase.of (fun h6 => ?_) (fun h6 => ?_) <;> simp at h6
   · exact bad _ hb (by unfold zK; omega)
   · exact ⟨⟨by omega, by omega, by omega, by omega, by omega, by omega⟩, hb⟩
 · refine AllJ.of ?_ _
   rintro w1 ⟨hi, hb⟩
   obtain ⟨h1, h2, h3, h4, h5, h6⟩ := hi
   have hl := qeL y m
   refine ⟨fun Y M w' => w' = w1 /\ Y = (if m - 3 < 0 then y - 1 else y) /\ M = (if m - 3 < 0 then m + 9 else m - 3), ?_, ?_⟩
   · rw [wrap_i64 (n := m - 3) (by omega) (by omega)]
     refine BCase.of (fun h => ?_) (fun h => ?_) <;> simp only [dTx, dFx] at h
     · refine ⟨rfl, ?_, ?_⟩
       · rw [if_pos h, wrap_i64 (by omega) (by omega)]
       · rw [if_pos h, wrap_i64 (by omega) (by omega)]; omega
     · exact ⟨rfl, by rw [if_neg h], by rw [if_neg h]⟩
   · intro Y M
     refine AllJ.of ?_ _
     rintro w1 ⟨rfl, hY, hM⟩
     have hm := march (y := y) (m := m) (d := d) (by omega) h3 h4 Y M hY hM
     have hYr : 1600 <= Y /\ Y <= 9999 := by rw [hY]; split <;> omega
     have hMr : 0 <= M /\ M <= 11 := by rw [hM]; split <;> omega
     clear hY hM
     rw [tmod_pos (by omega), tdiv_pos (by omega)]
     refine ⟨by decide, ?_⟩
     intro of hof
     refine ⟨by decide, ?_⟩
     intro q1 hq1
     rw [tdiv_pos (by omega), tdiv_pos (by omega)]
     refine ⟨by decide, ?_⟩
     intro q2 hq2
     refine ⟨by decide, ?_⟩
     intro q3 hq3
     refine ⟨by decide, ?_⟩
     intro q4 hq4
     rw [wrap_i64 (by omega) (by omega)] at hq1 hq2 hq3
     rw [wrap_i64 (n := 153 * M) (by omega) (by omega), wrap_i64 (n := 153 * M + 2) (by omega) (by omega), tdiv_pos (by omega), wrap_i64 (by omega) (by omega)] at hq4
     rw [wrap_i64 (n := q1 * 146097) (by omega) (by omega), wrap_i64 (n := of * 365) (by omega) (by omega), wrap_i64 (n := q1 * 146097 + of * 365) (by omega) (by omega), wrap_i64 (n := q1 * 146097 + of * 365 + q2) (by omega) (by omega),
       wrap_i64 (n := q1 * 146097 + of * 365 + q2 - q3) (by omega) (by omega), wrap_i64 (n := q1 * 146097 + of * 365 + q2 - q3 + q4) (by omega) (by omega), wrap_i64 (n := q1 * 146097 + of * 365 + q2 - q3 + q4 + d) (by omega) (by omega),
       wrap_i64 (n := q1 * 146097 + of * 365 + q2 - q3 + q4 + d - 1) (by omega) (by omega), wrap_i64 (by omega) (by omega)]
     refine ⟨?_, hb⟩
     have hdt : zK y m d := ⟨h1, h2, h3, h4, h5, h6⟩
     unfold qp6
     rw [if_pos hdt, <- hm, hq1, hq2, hq3, hq4, hof]
     simp [hdt]
end Go.Proofs.YtndbpedpdbjkpaaGreatDoor
namespace Go.Pk
open Classical in
noncomputable def civV (n : Int) : Value := if h : ∃ p : Int × Int × Int, zK p.1 p.2.1 p.2.2 /\ zR p.1 p.2.1 p.2.2 = n then
 .tuple #[.int .i64 (Classical.choose h).1, .int .i64 (Classical.choose h).2.1, .int .i64 (Classical.choose h).2.2, .bool true] else .tuple #[.int .i64 0, .int .i64 0, .int .i64 0, .bool false]
theorem qim {y m d : Int} (h : zK y m d) : civV (zR y m d) = .tuple #[.int .i64 y, .int .i64 m, .int .i64 d, .bool true] := by
 have hex : ∃ p : Int × Int × Int, zK p.1 p.2.1 p.2.2 /\ zR p.1 p.2.1 p.2.2 = zR y m d := ⟨(y, m, d), h, rfl⟩
 unfold civV
 rw [dif_pos hex]
 obtain ⟨h1, h2⟩ := Classical.choose_spec hex
 obtain ⟨e1, e2, e3⟩ := qqk h1 h h2
 rw [e1, e2, e3]
theorem qmd {y m d : Int} (h : zK y m d) : -134774 <= zR y m d /\ zR y m d <= 2932896 := by
 have h1 := qqO h
 have h2 := qo9 (y := y) h.1 (by have := h.2.1; omega)
 have h3 := qo9 (y := y + 1) (by have := h.1; omega) (by have := h.2.1; omega)
 have h4 := qfH (a := y + 1) (b := 10000) (by have := h.1; omega) (by have := h.2.1; omega)
 omega
theorem qcB {n : Int} (h : n < -134774 \/ 2932896 < n) : civV n = .tuple #[.int .i64 0, .int .i64 0, .int .i64 0, .bool false] := by
 unfold civV
 rw [dif_neg]
 rintro ⟨p, h1, h2⟩
 have := qmd h1
 omega
theorem qjW : zK 1601 1 1 /\ zR 1601 1 1 = -134774 := by decide
theorem qg2 : zK 9999 12 31 /\ zR 9999 12 31 = 2932896 := by decide
end Go.Pk

namespace Go.Pk
def sN (k : Nat) : Nat := if k = 400 then 146097 else 365 * k + k / 4 - k / 100
def gN (n : Nat) : Nat := n - n / 1460 + n / 36524 - n / 146096
theorem quH {a : Nat} (h : a < 146096) : gN a <= gN (a + 1) := by unfold gN; omega
theorem qr5 {a : Nat} : ∀ k : Nat, a + k <= 146096 -> gN a <= gN (a + k)
 | 0, _ => Nat.le_refl _
 | k + 1, h => Nat.le_trans (qr5 k (by omega)) (quH (a := a + k) (by omega))
theorem qve : ∀ k, k < 400 -> gN (sN k) / 365 = k /\ gN (sN (k + 1) - 1) / 365 = k := by decide +kernel
theorem quR : ∀ k, k < 400 -> sN (k + 1) = sN k + (if (k + 1) % 4 = 0 /\ ((k + 1) % 100 ≠ 0 \/ k + 1 = 400) then 366 else 365) /\ 0 < sN (k + 1) /\ sN (k + 1) <= 146097 := by decide +kernel
theorem qtH {n : Nat} : ∀ j, j <= 400 -> n < sN j -> ∃ k, k < j /\ sN k <= n /\ n < sN (k + 1)
 | 0, _, h => by simp [sN] at h
 | j + 1, hj, h => by
   by_cases c : n < sN j
   · obtain ⟨k, h1, h2, h3⟩ := qtH j (by omega) c
     exact ⟨k, by omega, h2, h3⟩
   · exact ⟨j, by omega, by omega, h⟩
theorem qt0 {n : Nat} (h : n < 146097) : ∃ k, k < 400 /\ gN n / 365 = k /\ sN k <= n /\ n < sN (k + 1) := by
 obtain ⟨k, h1, h2, h3⟩ := qtH (n := n) 400 (Nat.le_refl _) (by simpa [sN] using h)
 obtain ⟨e1, e2⟩ := qve k h1
 obtain ⟨_, l2, l3⟩ := quR k h1
 refine ⟨k, h1, ?_, h2, h3⟩
 have m1 := qr5 (a := sN k) (n - sN k) (by omega)
 have m2 := qr5 (a := n) (sN (k + 1) - 1 - n) (by omega)
 rw [show sN k + (n - sN k) = n by omega] at m1
 rw [show n + (sN (k + 1) - 1 - n) = sN (k + 1) - 1 by omega] at m2
 have d1 := Nat.div_le_div_right (c := 365) m1
 have d2 := Nat.div_le_div_right (c := 365) m2
 omega
def monL (mp : Nat) : Nat := [31, 30, 31, 30, 31, 31, 30, 31, 30, 31, 31, 29][mp]?.getD 0
theorem qsK : ∀ doy, doy < 366 -> (5 * doy + 2) / 153 <= 11 /\ (153 * ((5 * doy + 2) / 153) + 2) / 5 <= doy /\ doy - (153 * ((5 * doy + 2) / 153) + 2) / 5 + 1 <= monL ((5 * doy + 2) / 153) /\
   ((5 * doy + 2) / 153 = 11 -> doy - (153 * ((5 * doy + 2) / 153) + 2) / 5 + 1 = 29 -> doy = 365) := by decide +kernel
theorem qtl {y : Int} {mp : Nat} (h : mp <= 9) : lenM y ((mp : Int) + 3) = monL mp := by
 have : mp = 0 \/ mp = 1 \/ mp = 2 \/ mp = 3 \/ mp = 4 \/ mp = 5 \/ mp = 6 \/ mp = 7 \/ mp = 8 \/ mp = 9 := by omega
 rcases this with rfl | rfl | rfl | rfl | rfl | rfl | rfl | rfl | rfl | rfl <;> simp [lenM, monL]
theorem qrI {y n : Int} (hy : 1 <= y) (h1 : dY y <= n + 719162) (h2 : n + 719162 < dY (y + 1)) (h3 : -134774 <= n) (h4 : n <= 2932896) : 1601 <= y /\ y <= 9999 := by
 have e1 : dY 1601 = 584388 := by decide
 have e2 : dY 10000 = 3652059 := by decide
 constructor
 · apply Int.le_of_not_gt
   intro hc
   have := qfH (a := y + 1) (b := 1601) (by omega) (by omega)
   omega
 · apply Int.le_of_not_gt
   intro hc
   have := qfH (a := 10000) (b := y) (by omega) (by omega)
   omega
theorem qsv {y m d : Int} (hy : 1 <= y) (h1 : 1 <= m) (h2 : m <= 12) (Y M : Int) (hY : Y = if m - 3 < 0 then y - 1 else y) (hM : M = if m - 3 < 0 then m + 9 else m - 3) :
   Y / 400 * 146097 + Y % 400 * 365 + Y % 400 / 4 - Y % 400 / 100 + (153 * M + 2) / 5 + d - 1 - 719468 = zR y m d := march hy h1 h2 Y M hY hM
theorem qnQ {n : Int} (h1 : -134774 <= n) (h2 : n <= 2932896) (of yoe doy mp day era : Int) (hof : of = (n + 719468) % 146097) (hera : era = (n + 719468) / 146097)
   (hy : yoe = (of - of / 1460 + of / 36524 - of / 146096) / 365) (hd : doy = of - (365 * yoe + yoe / 4 - yoe / 100)) (hm : mp = (5 * doy + 2) / 153) (hday : day = doy - (153 * mp + 2) / 5 + 1) :
   0 <= of /\ of <= 146096 /\ 4 <= era /\ era <= 24 /\ 0 <= yoe /\ yoe <= 399 /\ 0 <= doy /\ doy <= 365 /\ 0 <= mp /\ mp <= 11 /\ 1 <= day /\ day <= 31 /\
   zK (if mp + 3 > 12 then yoe + era * 400 + 1 else yoe + era * 400) (if mp + 3 > 12 then mp + 3 - 12 else mp + 3) day /\
   zR (if mp + 3 > 12 then yoe + era * 400 + 1 else yoe + era * 400) (if mp + 3 > 12 then mp + 3 - 12 else mp + 3) day = n := by
 obtain ⟨N, hN⟩ : ∃ N : Nat, of = (N : Int) := ⟨of.toNat, by omega⟩
 have hN2 : N < 146097 := by omega
 have hera2 : 4 <= era /\ era <= 24 := by omega
 obtain ⟨k, hk, hg, hs1, hs2⟩ := qt0 hN2
 have hyk : yoe = (k : Int) := by rw [hy, hN, <- hg]; unfold gN; omega
 clear hg hy
 rw [hyk, hN] at hd
 obtain ⟨hl, _, _⟩ := quR k hk
 have hsk : sN k = 365 * k + k / 4 - k / 100 := by unfold sN; rw [if_neg (by omega)]
 obtain ⟨D, hD⟩ : ∃ D : Nat, doy = (D : Int) := ⟨doy.toNat, by omega⟩
 have hDN : D = N - sN k := by omega
 have hD2 : D < 366 := by split at hl <;> omega
 obtain ⟨m1, m2, m3, m4⟩ := qsK D hD2
 obtain ⟨M, hM⟩ : ∃ M : Nat, M = (5 * D + 2) / 153 := ⟨_, rfl⟩
 rw [<- hM] at m1 m2 m3 m4
 have hmp : mp = (M : Int) := by omega
 have hdd : day = ((D - (153 * M + 2) / 5 + 1 : Nat) : Int) := by omega
 have hmon : monL M <= 31 := by
   have : M = 0 \/ M = 1 \/ M = 2 \/ M = 3 \/ M = 4 \/ M = 5 \/ M = 6 \/ M = 7 \/ M = 8 \/ M = 9 \/ M = 10 \/ M = 11 := by omega
   rcases this with h | h | h | h | h | h | h | h | h | h | h | h <;> rw [h] <;> decide
 refine ⟨by omega, by omega, by omega, by omega, by omega, by omega, by omega, by omega, by omega, by omega, by omega, by omega, ?_⟩
 -- the date
 obtain ⟨y, m, ey, em, hm1, hm2, hY, hMM⟩ : ∃ y m : Int, y = (if mp + 3 > 12 then yoe + era * 400 + 1 else yoe + era * 400) /\ m = (if mp + 3 > 12 then mp + 3 - 12 else mp + 3) /\ 1 <= m /\ m <= 12 /\
     yoe + era * 400 = (if m - 3 < 0 then y - 1 else y) /\ mp = (if m - 3 < 0 then m + 9 else m - 3) := by
   refine ⟨_, _, rfl, rfl, ?_⟩
   by_cases c : mp + 3 > 12
   · rw [if_pos c, if_pos c, if_pos (by omega), if_pos (by omega)]; omega
   · rw [if_neg c, if_neg c, if_neg (by omega), if_neg (by omega)]; omega
 rw [<- ey, <- em]
 have hy1 : 1 <= y := by rw [ey]; split <;> omega
 have hday31 : 1 <= day := by omega
 have hlen : day <= lenM y m := by
   by_cases c : mp + 3 > 12
   · rw [if_pos c] at ey em
     have : M = 10 \/ M = 11 := by omega
     rcases this with rfl | rfl
     · have : m = 1 := by omega
       subst this
       have e : monL 10 = 31 := by decide
       rw [e] at m3
       unfold lenM; simp; omega
     · have : m = 2 := by omega
       subst this
       have e : monL 11 = 29 := by decide
       rw [e] at m3
       unfold lenM
       rw [if_pos rfl]
       by_cases c29 : D - (153 * 11 + 2) / 5 + 1 = 29
       · have h365 := m4 rfl c29
         have hleap : (k + 1) % 4 = 0 /\ ((k + 1) % 100 ≠ 0 \/ k + 1 = 400) := by
           apply Classical.byContradiction
           intro hc
           rw [if_neg hc] at hl
           omega
         have : qgr y = true := (qoJ (by omega)).2 (by omega)
         rw [if_pos this]; omega
       · split <;> omega
   · rw [if_neg c] at ey em
     have : m = (M : Int) + 3 := by omega
     rw [this, qtl (by omega)]; omega
 have hmar := qsv (d := day) hy1 hm1 hm2 _ _ hY hMM
 have hq1 : (yoe + era * 400) / 400 = era := by omega
 have hq2 : (yoe + era * 400) % 400 = yoe := by omega
 rw [hq1, hq2] at hmar
 have hdo : zR y m day = n := by
   rw [<- hmar, hyk]
   clear hY hMM hmar hq1 hq2
   omega
 refine ⟨?_, hdo⟩
 have c1 := qre (y := y) hm1 hm2
 have c2 := qjF (y := y) hm1 hm2
 have c3 := qnB (y := y) (a := m + 1) (b := 13) (by omega) (by omega) (by omega)
 have c4 := qia (y := y) (by omega)
 have c5 := qqT y
 have hb := qrI (n := n) hy1 (by unfold zR at hdo; omega) (by unfold zR at hdo; omega) h1 h2
 exact ⟨hb.1, hb.2, hm1, hm2, hday31, hlen⟩
end Go.Pk
namespace Go.Proofs.YtndbpedpdbjkpaaGreatDoor
open Go.Pk
open Go.RowKit (Below)
theorem qnF (n : Int) (w : World) (hn : -9223372036854775808 <= n /\ n <= 9223372036854775807) : Calls prog qgO #[.int .i64 n] w (Ret fun v w' => v = civV n /\ Below w.heap.size w w') := by
 apply qm6
 unfold qiS
 refine callK (qgm _ _ _ (by omega) w) ?_
 rintro _ w1 ⟨rfl, hb1⟩
 refine ⟨_, _, rfl, ?_⟩
 refine callK (qgm _ _ _ (by omega) w1) ?_
 rintro _ w2 ⟨rfl, hb2⟩
 have hB := qb hb1 hb2 hb1.size
 refine ⟨_, _, rfl, ?_⟩
 rw [if_pos qjW.1, if_pos qg2.1, qjW.2, qg2.2]
 refine ⟨fun w' => w' = w2 /\ -134774 <= n /\ n <= 2932896, ?_, ?_⟩
 · refine BCase.of (fun h => ?_) (fun h => ?_) <;> simp only [dTx, dFx] at h
   · exact ⟨(qcB (.inl h)).symm, hB⟩
   · refine BCase.of (fun h2 => ?_) (fun h2 => ?_) <;> simp only [gt_iff_lt, dTx, dFx] at h2
     · exact ⟨(qcB (.inr h2)).symm, hB⟩
     · exact ⟨rfl, by omega, by omega⟩
 · refine AllJ.of ?_ _
   rintro w2 ⟨rfl, h1, h2⟩
   rw [wrap_i64 (n := n + 719468) (by omega) (by omega), tmod_pos (by omega)]
   refine ⟨by decide, ?_⟩
   intro of hof
   have hof2 : 0 <= of /\ of <= 146096 := by omega
   refine ⟨by decide, ?_⟩
   rintro q1 hq1
   rw [tdiv_pos hof2.1, wrap_i64 (by omega) (by omega)] at hq1
   refine ⟨by decide, ?_⟩
   rintro q2 hq2
   rw [tdiv_pos hof2.1, wrap_i64 (by omega) (by omega)] at hq2
   refine ⟨by decide, ?_⟩
   rintro q3 hq3
   rw [tdiv_pos hof2.1, wrap_i64 (by omega) (by omega)] at hq3
   refine ⟨by decide, ?_⟩
   rintro yoe hyoe
   rw [wrap_i64 (n := of - q1) (by omega) (by omega), wrap_i64 (n := of - q1 + q2) (by omega) (by omega), wrap_i64 (n := of - q1 + q2 - q3) (by omega) (by omega), tdiv_pos (by omega), wrap_i64 (by omega) (by omega)] at hyoe
   have hyr : 0 <= yoe /\ yoe <= 400 := by omega
   refine ⟨by decide, ?_⟩
   rintro q4 hq4
   rw [tdiv_pos hyr.1, wrap_i64 (by omega) (by omega)] at hq4
   refine ⟨by decide, ?_⟩
   rintro q5 hq5
   rw [tdiv_pos hyr.1, wrap_i64 (by omega) (by omega)] at hq5
   rw [wrap_i64 (n := 365 * yoe) (by omega) (by omega), wrap_i64 (n := 365 * yoe + q4) (by omega) (by omega), wrap_i64 (n := 365 * yoe + q4 - q5) (by omega) (by omega), wrap_i64 (n := of - (365 * yoe + q4 - q5)) (by omega) (by omega)]
   obtain ⟨doy, hdoy⟩ : ∃ doy, doy = of - (365 * yoe + q4 - q5) := ⟨_, rfl⟩
   rw [<- hdoy]
   have hy' : yoe = (of - of / 1460 + of / 36524 - of / 146096) / 365 := by rw [hyoe, hq1, hq2, hq3]
   have hd' : doy = of - (365 * yoe + yoe / 4 - yoe / 100) := by rw [hdoy, hq4, hq5]
   obtain ⟨_, _, _, _, c5, c6, c7, c8, _⟩ := qnQ h1 h2 of yoe doy _ _ _ hof rfl hy' hd' rfl rfl
   refine ⟨by decide, ?_⟩
   rintro mp hmp
   rw [wrap_i64 (n := 5 * doy) (by omega) (by omega), wrap_i64 (n := 5 * doy + 2) (by omega) (by omega), tdiv_pos (by omega), wrap_i64 (by omega) (by omega)] at hmp
   refine ⟨by decide, ?_⟩
   rintro q6 hq6
   have hmr : 0 <= mp /\ mp <= 12 := by omega
   rw [wrap_i64 (n := 153 * mp) (by omega) (by omega), wrap_i64 (n := 153 * mp + 2) (by omega) (by omega), tdiv_pos (by omega), wrap_i64 (by omega) (by omega)] at hq6
   refine ⟨by decide, ?_⟩
   rintro era hera
   rw [tdiv_pos (by omega), wrap_i64 (by omega) (by omega)] at hera
   obtain ⟨_, _, c3, c4, _, _, _, _, c9, c10, c11, c12, hdt, hdd⟩ := qnQ h1 h2 of yoe doy mp (doy - q6 + 1) era hof hera hy' hd' hmp (by rw [hq6])
   clear hy' hd' hq1 hq2 hq3 hyoe
   rw [wrap_i64 (n := mp + 3) (by omega) (by omega), wrap_i64 (n := doy - q6) (by omega) (by omega), wrap_i64 (n := doy - q6 + 1) (by omega) (by omega), wrap_i64 (n := era * 400) (by omega) (by omega), wrap_i64 (n := yoe + era * 400) (by omega) (by omega)]
   refine BCase.of (fun h => ?_) (fun h => ?_) <;> simp only [gt_iff_lt, dTx, dFx] at h
   · rw [if_pos h, if_pos h] at hdt hdd
     rw [wrap_i64 (by omega) (by omega), wrap_i64 (by omega) (by omega)]
     exact ⟨by rw [<- hdd, qim hdt], hB⟩
   · rw [if_neg h, if_neg h] at hdt hdd
     exact ⟨by rw [<- hdd, qim hdt], hB⟩
end Go.Proofs.YtndbpedpdbjkpaaGreatDoor
namespace Go.Pk
def lowC (c : UInt8) : UInt8 := if 65 <= c /\ c <= 90 then c + 32 else c
def lowL (s : List UInt8) : List UInt8 := s.map lowC
theorem qs8 : ∀ n, n < 256 -> ((lowC (UInt8.ofNat n)).toNat : Int) = if 65 <= (n : Int) /\ (n : Int) <= 90 then (n : Int) + 32 else (n : Int) := by decide +kernel
theorem qqM (c : UInt8) : ((lowC c).toNat : Int) = if 65 <= (c.toNat : Int) /\ (c.toNat : Int) <= 90 then (c.toNat : Int) + 32 else (c.toNat : Int) := by
 have := qs8 c.toNat (by have := c.toNat_lt; omega)
 rwa [UInt8.ofNat_toNat] at this
end Go.Pk
namespace Go.Proofs.YtndbpedpdbjkpaaGreatDoor
open Go.Pk
open Go.RowKit (Below)
theorem octet_Lower_ok (s : List UInt8) (hs : s.length <= 9223372036854775800) (w : World) : Calls prog qab #[.string (mkS s)] w (Ret fun v w' => v = .string (mkS (lowL s)) /\ Below w.heap.size w w') := by
 apply qlq
 unfold qhC
 obtain ⟨w1, a, n, c, hr, ho, hb, hf⟩ := qgX un_string zQ un_uint8 w s (by omega) NoB
 have hn := ho.len
 subst hn
 refine ⟨w1, a, _, c, hr, ?_⟩
 refine ⟨fun m i w' => ∃ k : Nat, k <= s.length /\ i = (k : Int) /\ m = s.length - k /\ Ow tU8 qw w' NoB a s.length c (lowL (s.take k) ++ s.drop k) /\ w1.grownBy w' (ownB a),
   ⟨_, 0, by omega, rfl, rfl, by simpa [lowL] using ho, ⟨rfl, rfl, rfl, Nat.le_refl _, fun _ _ _ => rfl⟩⟩, ?_⟩
 intro m i
 refine AllJ.of ?_ _
 rintro w' ⟨k, hk, rfl, rfl, ho', hg⟩
 have hll : (lowL (s.take k) ++ s.drop k).length = s.length := by simp [lowL]; omega
 refine BCase.of (fun h => ?_) (fun h => ?_) <;> simp at h
 · have hlk : (lowL (s.take k)).length = k := by simp [lowL]; omega
   have hsl := ho'.all
   obtain ⟨v, hv, hrep⟩ := hsl.load1 (i := (k : Int)) un_uint8 rfl rfl (by rw [hll]; simpa using h)
   have := qnk hrep
   subst this
   have eg : (lowL (s.take k) ++ s.drop k)[(k : Int).toNat]'(by rw [hll]; simpa using h) = s[k] := by
     simp only [Int.toNat_natCast]
     rw [List.getElem_append_right (by rw [hlk]; exact Nat.le_refl _)]
     simp [hlk]
   rw [eg] at hv
   have hin : (0 <= (k : Int) /\ (k : Int) < ((s.length : Nat) : Int)) /\ Option.isSome a = true := ⟨⟨by omega, by omega⟩, hsl.isSome (i := k) (by rw [hll]; exact h)⟩
   have hlt := qbc s[k]
   have hlow := qqM s[k]
   have e1 : i64.wrap ((k : Int) + 1) = ((k + 1 : Nat) : Int) := by rw [wrap_i64 (by omega) (by omega)]; omega
   rw [e1]
   have hstep : ∀ x, (lowL (s.take k) ++ s.drop k).set k x = lowL (s.take k) ++ x :: s.drop (k + 1) := fun x => by
     rw [List.set_append_right _ _ (by rw [hlk]; exact Nat.le_refl _), hlk, Nat.sub_self, List.drop_eq_getElem_cons h]; rfl
   have hnext : lowL (s.take (k + 1)) ++ s.drop (k + 1) = lowL (s.take k) ++ lowC s[k] :: s.drop (k + 1) := by
     unfold lowL; rw [List.take_succ_eq_append_getElem h, List.map_append, List.append_assoc]; rfl
   refine ⟨hin, _, hv, fun b w'' => w'' = w' /\ b = decide (65 <= (s[k].toNat : Int) /\ (s[k].toNat : Int) <= 90), ?_, ?_⟩
   · refine BCase.of (fun h2 => ?_) (fun h2 => ?_) <;> simp only [ge_iff_le, dTx, dFx] at h2
     · exact ⟨rfl, by simp [h2]⟩
     · exact ⟨rfl, by simp [h2]⟩
   · intro b
     refine AllJ.of ?_ _
     rintro w' ⟨rfl, rfl⟩
     refine BCase.of (fun h2 => ?_) (fun h2 => ?_) <;> simp only [dTx, dFx] at h2
     · rw [if_pos h2] at hlow
       rw [qcc (n := (s[k].toNat : Int) - 65) (by omega) (by omega), qcc (by omega) (by omega)]
       obtain ⟨w4, hs4, ho4, hg4⟩ := ho'.store (P := prog) (bytes := 1) (z := .int .u8 0) qeu (fun _ _ h => h) (i := (k : Int)) (by rw [hll]; simpa using h) (k := 1) rfl (v := .int .u8 ((s[k].toNat : Int) - 65 + 97)) (x := lowC s[k]) (qgz (by rw [hlow]; omega))
       simp only [Int.toNat_natCast] at ho4
       rw [hstep, <- hnext] at ho4
       exact ⟨hin, w4, hs4, s.length - (k + 1), by omega, k + 1, by omega, rfl, rfl, ho4, ⟨hg4.os.trans hg.os, hg4.tape.trans hg.tape, hg4.output.trans hg.output, Nat.le_trans hg.size hg4.size, fun q hq hne => (hg4.block q (Nat.lt_of_lt_of_le hq hg.size) hne).trans (hg.block q hq hne)⟩⟩
     · rw [if_neg h2] at hlow
       have hc : lowC s[k] = s[k] := qo4 hlow
       refine ⟨s.length - (k + 1), by omega, k + 1, by omega, rfl, rfl, ?_, hg⟩
       rw [hnext, hc, <- List.drop_eq_getElem_cons h]; exact ho'
 · have : k = s.length := by omega
   subst this
   have e2 : lowL (s.take s.length) ++ s.drop s.length = lowL s := by simp
   rw [e2] at ho'
   exact ⟨_, qeX zQ un_string un_uint8 ho'.all, rfl, hb.grown hg hb.size hf⟩
theorem qjj (s t : List UInt8) (hs : s.length <= 9223372036854775800) (ht : t.length <= 9223372036854775800) (w : World) : Calls prog qez #[.string (mkS s), .string (mkS t)] w (Ret fun v w' => v = .bool (lowL s == lowL t) /\ Below w.heap.size w w') := by
 apply qmB
 unfold qiu
 refine callK (octet_Lower_ok s hs w) ?_
 rintro _ w1 ⟨rfl, hb1⟩
 refine ⟨_, rfl, ?_⟩
 refine callK (octet_Lower_ok t ht w1) ?_
 rintro _ w2 ⟨rfl, hb2⟩
 exact ⟨_, rfl, rfl, qb hb1 hb2 hb1.size⟩
end Go.Proofs.YtndbpedpdbjkpaaGreatDoor
namespace Go.Proofs
open Go.Shelf
open Go.RowKit in
open Go.RowKit in
open Go.RowKit in
open Go.RowKit in
open Go.RowKit in
open Go.RowKit in
def Tryz.lays156_ren : Go.Shelf.Ren := ⟨fun | 156 => 67 | 165 => 126 | 166 => 127 | 169 => 128 | 240 => 190 | 241 => 191 | 276 => 244 | 277 => 245 | n => n, fun | 31 => 38 | 9 => 9 | 3 => 3 | 4 => 4 | 0 => 0 | 20 => 20 | 72 => 167 | 76 => 171 | 70 => 165 | 37 => 39 | 75 => 170 | 127 => 237 | 164 => 287 | 5 => 5 | 80 => 53 | n => n, fun | n => n⟩
theorem Tryz.lays156 : Go.Proofs.Lays.n156 prog Tryz.lays156_ren := {
 mixed := by kernel_rfl
 f156 := Tryz.func67.trans (congrArg some (by kernel_rfl))
 f165 := Tryz.func126.trans (congrArg some (by kernel_rfl))
 f166 := Tryz.func127.trans (congrArg some (by kernel_rfl))
 f169 := Tryz.func128.trans (congrArg some (by kernel_rfl))
 f240 := Tryz.func190.trans (congrArg some (by kernel_rfl))
 f241 := Tryz.func191.trans (congrArg some (by kernel_rfl))
 f276 := Tryz.func244.trans (congrArg some (by kernel_rfl))
 f277 := Tryz.func245.trans (congrArg some (by kernel_rfl))
 t0 := Tryz.underlying0
 a0 := Tryz.isAgg0
 z0 := Tryz.sizeOf0
 v0 := Tryz.zeroValue0
 t3 := Tryz.underlying3
 a3 := Tryz.isAgg3
 z3 := Tryz.sizeOf3
 v3 := Tryz.zeroValue3
 t4 := Tryz.underlying4
 a4 := Tryz.isAgg4
 z4 := Tryz.sizeOf4
 v4 := Tryz.zeroValue4
 t9 := Tryz.underlying9
 a9 := Tryz.isAgg9
 z9 := Tryz.sizeOf9
 v9 := Tryz.zeroValue9
 t20 := Tryz.underlying20
 a20 := Tryz.isAgg20
 z20 := Tryz.sizeOf20
 v20 := Tryz.zeroValue20
 t31 := Tryz.underlying38
 a31 := Tryz.isAgg38
 z31 := Tryz.sizeOf38
 v31 := Tryz.zeroValue38
 t37 := Tryz.underlying39
 a37 := Tryz.isAgg39
 z37 := Tryz.sizeOf39
 v37 := Tryz.zeroValue39
 t70 := Tryz.underlying165
 a70 := Tryz.isAgg165
 z70 := Tryz.sizeOf165
 v70 := Tryz.zeroValue165
 t72 := Tryz.underlying167
 a72 := Tryz.isAgg167
 z72 := Tryz.sizeOf167
 v72 := Tryz.zeroValue167
 t75 := Tryz.underlying170
 a75 := Tryz.isAgg170
 z75 := Tryz.sizeOf170
 v75 := Tryz.zeroValue170
 t76 := Tryz.underlying171
 a76 := Tryz.isAgg171
 z76 := Tryz.sizeOf171
 v76 := Tryz.zeroValue171
 t127 := Tryz.underlying237
 a127 := Tryz.isAgg237
 z127 := Tryz.sizeOf237
 v127 := Tryz.zeroValue237
 t164 := Tryz.underlying287
 a164 := Tryz.isAgg287
 z164 := Tryz.sizeOf287
 v164 := Tryz.zeroValue287 }
theorem Tryz.Builder_Extra_156 : Builder.Extra prog Tryz.lays156_ren := {
 sizeBuilder := by kernel_rfl
 liesBuilder := by kernel_rfl
 t5 := Tryz.underlying5
 a5 := Tryz.isAgg5
 z5 := Tryz.sizeOf5
 v5 := Tryz.zeroValue5
 infoByte := by kernel_rfl
 cellsByte := by kernel_rfl
 sizeByte := by kernel_rfl
 neB5 := by decide }
open Go.RowKit in
theorem Tryz.strings_Join_none (a : Option Addr) (c : Nat) (sep : ByteArray) (w : World) :
   Calls prog 67 #[.slice a 0 c, .string sep] w fun e w' => e = .returned (.string ⟨#[]⟩) /\ w' = w := Any.strings_Join_none Tryz.lays156 Tryz.Builder_Extra_156 a c sep w
open Go.RowKit in
theorem Tryz.strings_Join (bk o c : Nat) (xs : List ByteArray) (sep : ByteArray) (w : World) (hcells : ∀ (j : Nat) x, xs[j]? = some x -> w.cell? ⟨bk, o + j, none⟩ = some (.string x)) (hbk : bk < w.heap.size) (hN : xs.length <= 140737488355328) (hcap : xs.length <= c) (hlen : (Lib.join (xs.map (·.data.toList)) sep.data.toList).length <= 140737488355328) :
   Calls prog 67 #[.slice (some ⟨bk, o, none⟩) xs.length c, .string sep] w fun e w' => e = .returned (.string ⟨(Lib.join (xs.map (·.data.toList)) sep.data.toList).toArray⟩) /\ Below w.heap.size w w' := Any.strings_Join Tryz.lays156 Tryz.Builder_Extra_156 bk o c xs sep w hcells hbk hN hcap hlen
open Go.RowKit in
open Go.RowKit in
def Tryz.lays161_ren : Go.Shelf.Ren := ⟨fun | 161 => 298 | 231 => 169 | 227 => 171 | 233 => 172 | 235 => 174 | 228 => 199 | 197 => 234 | 151 => 235 | 260 => 270 | 152 => 197 | 137 => 248 | 119 => 249 | 224 => 250 | 225 => 251 | 217 => 278 | 266 => 294 | n => n, fun | 9 => 9 | 4 => 4 | 3 => 3 | 5 => 5 | 117 => 220 | 116 => 219 | 0 => 0 | 124 => 223 | 105 => 279 | 21 => 21 | 119 => 313 | 46 => 199 | 139 => 316 | 138 => 315 | n => n, fun | 3 => 1 | 4 => 2 | n => n⟩
theorem Tryz.lays161 : Go.Proofs.Lays.n161 prog Tryz.lays161_ren := {
 mixed := by kernel_rfl
 f119 := Tryz.func249.trans (congrArg some (by kernel_rfl))
 f137 := Tryz.func248.trans (congrArg some (by kernel_rfl))
 f151 := Tryz.func235.trans (congrArg some (by kernel_rfl))
 f152 := Tryz.func197.trans (congrArg some (by kernel_rfl))
 f161 := Tryz.func298.trans (congrArg some (by kernel_rfl))
 f197 := Tryz.func234.trans (congrArg some (by kernel_rfl))
 f217 := Tryz.func278.trans (congrArg some (by kernel_rfl))
 f224 := Tryz.func250.trans (congrArg some (by kernel_rfl))
 f225 := Tryz.func251.trans (congrArg some (by kernel_rfl))
 f227 := Tryz.func171.trans (congrArg some (by kernel_rfl))
 f228 := Tryz.func199.trans (congrArg some (by kernel_rfl))
 f231 := Tryz.func169.trans (congrArg some (by kernel_rfl))
 f233 := Tryz.func172.trans (congrArg some (by kernel_rfl))
 f235 := Tryz.func174.trans (congrArg some (by kernel_rfl))
 f260 := Tryz.func270.trans (congrArg some (by kernel_rfl))
 f266 := Tryz.func294.trans (congrArg some (by kernel_rfl))
 t0 := Tryz.underlying0
 a0 := Tryz.isAgg0
 z0 := Tryz.sizeOf0
 v0 := Tryz.zeroValue0
 t3 := Tryz.underlying3
 a3 := Tryz.isAgg3
 z3 := Tryz.sizeOf3
 v3 := Tryz.zeroValue3
 t4 := Tryz.underlying4
 a4 := Tryz.isAgg4
 z4 := Tryz.sizeOf4
 v4 := Tryz.zeroValue4
 t5 := Tryz.underlying5
 a5 := Tryz.isAgg5
 z5 := Tryz.sizeOf5
 v5 := Tryz.zeroValue5
 t9 := Tryz.underlying9
 a9 := Tryz.isAgg9
 z9 := Tryz.sizeOf9
 v9 := Tryz.zeroValue9
 t21 := Tryz.underlying21
 a21 := Tryz.isAgg21
 z21 := Tryz.sizeOf21
 v21 := Tryz.zeroValue21
 t46 := Tryz.underlying199
 a46 := Tryz.isAgg199
 z46 := Tryz.sizeOf199
 v46 := Tryz.zeroValue199
 t105 := Tryz.underlying279
 a105 := Tryz.isAgg279
 z105 := Tryz.sizeOf279
 v105 := Tryz.zeroValue279
 t116 := Tryz.underlying219
 a116 := Tryz.isAgg219
 z116 := Tryz.sizeOf219
 t117 := Tryz.underlying220
 a117 := Tryz.isAgg220
 z117 := Tryz.sizeOf220
 v117 := Tryz.zeroValue220
 t119 := Tryz.underlying313
 a119 := Tryz.isAgg313
 z119 := Tryz.sizeOf313
 t124 := Tryz.underlying223
 a124 := Tryz.isAgg223
 z124 := Tryz.sizeOf223
 v124 := Tryz.zeroValue223
 t138 := Tryz.underlying315
 a138 := Tryz.isAgg315
 z138 := Tryz.sizeOf315
 v138 := Tryz.zeroValue315
 t139 := Tryz.underlying316
 a139 := Tryz.isAgg316
 z139 := Tryz.sizeOf316
 v139 := Tryz.zeroValue316
 g3 := by kernel_rfl
 g4 := by kernel_rfl }
open Go.RowKit in
theorem Tryz.strings_TrimLeft_one (s : ByteArray) (c : UInt8) (hc : c.toNat < 128) (w : World) :
   Calls prog 298 #[.string s, .string ⟨#[c]⟩] w fun e w' => e = .returned (.string ⟨(Lib.trimLeftB s.data.toList c).toArray⟩) /\ w' = w := Any.strings_TrimLeft_one Tryz.lays161 s c hc w
def Tryz.lays160_ren : Go.Shelf.Ren := ⟨fun | 160 => 105 | 232 => 170 | 231 => 169 | 227 => 171 | 234 => 173 | 233 => 172 | 236 => 175 | 235 => 174 | 228 => 199 | 271 => 236 | 151 => 235 | 197 => 234 | 120 => 271 | 152 => 197 | 260 => 270 | 137 => 248 | 119 => 249 | 224 => 250 | 225 => 251 | 217 => 278 | 266 => 294 | n => n, fun | 9 => 9 | 4 => 4 | 3 => 3 | 5 => 5 | 117 => 220 | 116 => 219 | 0 => 0 | 124 => 223 | 21 => 21 | 105 => 279 | 46 => 199 | 119 => 313 | 139 => 316 | 138 => 315 | n => n, fun | 3 => 1 | 4 => 2 | n => n⟩
theorem Tryz.lays160 : Go.Proofs.Lays.n160 prog Tryz.lays160_ren := {
 mixed := by kernel_rfl
 f119 := Tryz.func249.trans (congrArg some (by kernel_rfl))
 f120 := Tryz.func271.trans (congrArg some (by kernel_rfl))
 f137 := Tryz.func248.trans (congrArg some (by kernel_rfl))
 f151 := Tryz.func235.trans (congrArg some (by kernel_rfl))
 f152 := Tryz.func197.trans (congrArg some (by kernel_rfl))
 f160 := Tryz.func105.trans (congrArg some (by kernel_rfl))
 f197 := Tryz.func234.trans (congrArg some (by kernel_rfl))
 f217 := Tryz.func278.trans (congrArg some (by kernel_rfl))
 f224 := Tryz.func250.trans (congrArg some (by kernel_rfl))
 f225 := Tryz.func251.trans (congrArg some (by kernel_rfl))
 f227 := Tryz.func171.trans (congrArg some (by kernel_rfl))
 f228 := Tryz.func199.trans (congrArg some (by kernel_rfl))
 f231 := Tryz.func169.trans (congrArg some (by kernel_rfl))
 f232 := Tryz.func170.trans (congrArg some (by kernel_rfl))
 f233 := Tryz.func172.trans (congrArg some (by kernel_rfl))
 f234 := Tryz.func173.trans (congrArg some (by kernel_rfl))
 f235 := Tryz.func174.trans (congrArg some (by kernel_rfl))
 f236 := Tryz.func175.trans (congrArg some (by kernel_rfl))
 f260 := Tryz.func270.trans (congrArg some (by kernel_rfl))
 f266 := Tryz.func294.trans (congrArg some (by kernel_rfl))
 f271 := Tryz.func236.trans (congrArg some (by kernel_rfl))
 t0 := Tryz.underlying0
 a0 := Tryz.isAgg0
 z0 := Tryz.sizeOf0
 v0 := Tryz.zeroValue0
 t3 := Tryz.underlying3
 a3 := Tryz.isAgg3
 z3 := Tryz.sizeOf3
 v3 := Tryz.zeroValue3
 t4 := Tryz.underlying4
 a4 := Tryz.isAgg4
 z4 := Tryz.sizeOf4
 v4 := Tryz.zeroValue4
 t5 := Tryz.underlying5
 a5 := Tryz.isAgg5
 z5 := Tryz.sizeOf5
 v5 := Tryz.zeroValue5
 t9 := Tryz.underlying9
 a9 := Tryz.isAgg9
 z9 := Tryz.sizeOf9
 v9 := Tryz.zeroValue9
 t21 := Tryz.underlying21
 a21 := Tryz.isAgg21
 z21 := Tryz.sizeOf21
 v21 := Tryz.zeroValue21
 t46 := Tryz.underlying199
 a46 := Tryz.isAgg199
 z46 := Tryz.sizeOf199
 v46 := Tryz.zeroValue199
 t105 := Tryz.underlying279
 a105 := Tryz.isAgg279
 z105 := Tryz.sizeOf279
 v105 := Tryz.zeroValue279
 t116 := Tryz.underlying219
 a116 := Tryz.isAgg219
 z116 := Tryz.sizeOf219
 t117 := Tryz.underlying220
 a117 := Tryz.isAgg220
 z117 := Tryz.sizeOf220
 v117 := Tryz.zeroValue220
 t119 := Tryz.underlying313
 a119 := Tryz.isAgg313
 z119 := Tryz.sizeOf313
 t124 := Tryz.underlying223
 a124 := Tryz.isAgg223
 z124 := Tryz.sizeOf223
 v124 := Tryz.zeroValue223
 t138 := Tryz.underlying315
 a138 := Tryz.isAgg315
 z138 := Tryz.sizeOf315
 v138 := Tryz.zeroValue315
 t139 := Tryz.underlying316
 a139 := Tryz.isAgg316
 z139 := Tryz.sizeOf316
 v139 := Tryz.zeroValue316
 g3 := by kernel_rfl
 g4 := by kernel_rfl }
open Go.RowKit in
theorem Tryz.strings_Trim_one (s : ByteArray) (c : UInt8) (hc : c.toNat < 128) (w : World) (hs : s.size <= 9223372036854775807) :
   Calls prog 105 #[.string s, .string ⟨#[c]⟩] w fun e w' => e = .returned (.string ⟨(Lib.trimB s.data.toList c).toArray⟩) /\ (w' = w \/ w' = w.drew) := Any.strings_Trim_one Tryz.lays160 s c hc w hs
def Tryz.lays119_ren : Go.Shelf.Ren := ⟨fun | 119 => 249 | n => n, fun | 21 => 21 | 4 => 4 | n => n, fun | n => n⟩
theorem Tryz.lays119 : Go.Proofs.Lays.n119 prog Tryz.lays119_ren := {
 mixed := by kernel_rfl
 f119 := Tryz.func249.trans (congrArg some (by kernel_rfl))
 t4 := Tryz.underlying4
 a4 := Tryz.isAgg4
 z4 := Tryz.sizeOf4
 v4 := Tryz.zeroValue4
 t21 := Tryz.underlying21
 a21 := Tryz.isAgg21
 z21 := Tryz.sizeOf21
 v21 := Tryz.zeroValue21 }
theorem Tryz.utf8_ValidRune (r : Int) (w : World) :
   Calls prog 249 #[.int .i32 r] w fun e w' => e = .returned (.bool (Lib.validRune r)) /\ w' = w := Any.utf8_ValidRune Tryz.lays119 r w
def Tryz.lays137_ren : Go.Shelf.Ren := ⟨fun | 137 => 248 | 217 => 278 | 266 => 294 | n => n, fun | 9 => 9 | 5 => 5 | 3 => 3 | n => n, fun | n => n⟩
theorem Tryz.lays137 : Go.Proofs.Lays.n137 prog Tryz.lays137_ren := {
 mixed := by kernel_rfl
 f137 := Tryz.func248.trans (congrArg some (by kernel_rfl))
 f217 := Tryz.func278.trans (congrArg some (by kernel_rfl))
 f266 := Tryz.func294.trans (congrArg some (by kernel_rfl))
 t3 := Tryz.underlying3
 a3 := Tryz.isAgg3
 z3 := Tryz.sizeOf3
 v3 := Tryz.zeroValue3
 t5 := Tryz.underlying5
 a5 := Tryz.isAgg5
 z5 := Tryz.sizeOf5
 v5 := Tryz.zeroValue5
 t9 := Tryz.underlying9
 a9 := Tryz.isAgg9
 z9 := Tryz.sizeOf9
 v9 := Tryz.zeroValue9 }
open Go.RowKit in
theorem Tryz.strings_IndexByte (s : ByteArray) (c : Int) (w : World) :
   Calls prog 248 #[.string s, .int .u8 c] w fun e w' => e = .returned (.int .i64 (Lib.indexByte s.data.toList c.toNat.toUInt8)) /\ w' = w := Any.strings_IndexByte Tryz.lays137 s c w
open Go.RowKit in
def Tryz.lays103_ren : Go.Shelf.Ren := ⟨fun | 103 => 118 | 210 => 180 | 206 => 196 | n => n, fun | 9 => 9 | 4 => 4 | 24 => 142 | 3 => 3 | n => n, fun | n => n⟩
theorem Tryz.lays103 : Go.Proofs.Lays.n103 prog Tryz.lays103_ren := {
 mixed := by kernel_rfl
 f103 := Tryz.func118.trans (congrArg some (by kernel_rfl))
 f206 := Tryz.func196.trans (congrArg some (by kernel_rfl))
 f210 := Tryz.func180.trans (congrArg some (by kernel_rfl))
 t3 := Tryz.underlying3
 a3 := Tryz.isAgg3
 z3 := Tryz.sizeOf3
 v3 := Tryz.zeroValue3
 t4 := Tryz.underlying4
 a4 := Tryz.isAgg4
 z4 := Tryz.sizeOf4
 v4 := Tryz.zeroValue4
 t9 := Tryz.underlying9
 a9 := Tryz.isAgg9
 z9 := Tryz.sizeOf9
 v9 := Tryz.zeroValue9
 t24 := Tryz.underlying142
 a24 := Tryz.isAgg142
 z24 := Tryz.sizeOf142
 v24 := Tryz.zeroValue142 }
open Go.RowKit in
theorem Tryz.strings_CutPrefix (s p : ByteArray) (w : World) :
   Calls prog 118 #[.string s, .string p] w fun e w' => e = .returned (.tuple #[.string ⟨(Lib.trimPrefix s.data.toList p.data.toList).toArray⟩, .bool (Lib.hasPrefix s.data.toList p.data.toList)]) /\ w' = w := Any.strings_CutPrefix Tryz.lays103 s p w
open Go.RowKit in
def Tryz.lays104_ren : Go.Shelf.Ren := ⟨fun | 104 => 119 | 211 => 181 | 207 => 239 | n => n, fun | 9 => 9 | 4 => 4 | 24 => 142 | 3 => 3 | n => n, fun | n => n⟩
theorem Tryz.lays104 : Go.Proofs.Lays.n104 prog Tryz.lays104_ren := {
 mixed := by kernel_rfl
 f104 := Tryz.func119.trans (congrArg some (by kernel_rfl))
 f207 := Tryz.func239.trans (congrArg some (by kernel_rfl))
 f211 := Tryz.func181.trans (congrArg some (by kernel_rfl))
 t3 := Tryz.underlying3
 a3 := Tryz.isAgg3
 z3 := Tryz.sizeOf3
 v3 := Tryz.zeroValue3
 t4 := Tryz.underlying4
 a4 := Tryz.isAgg4
 z4 := Tryz.sizeOf4
 v4 := Tryz.zeroValue4
 t9 := Tryz.underlying9
 a9 := Tryz.isAgg9
 z9 := Tryz.sizeOf9
 v9 := Tryz.zeroValue9
 t24 := Tryz.underlying142
 a24 := Tryz.isAgg142
 z24 := Tryz.sizeOf142
 v24 := Tryz.zeroValue142 }
open Go.RowKit in
theorem Tryz.strings_CutSuffix (s p : ByteArray) (w : World) (hs : s.size <= 9223372036854775807) :
   Calls prog 119 #[.string s, .string p] w fun e w' => e = .returned (.tuple #[.string ⟨(Lib.trimSuffix s.data.toList p.data.toList).toArray⟩, .bool (Lib.hasSuffix s.data.toList p.data.toList)]) /\ w' = w := Any.strings_CutSuffix Tryz.lays104 s p w hs
open Go.RowKit in
open Go.RowKit in
open Go.RowKit in
open Go.RowKit in
open Go.RowKit in
open Go.RowKit in
open Go.RowKit in
open Go.RowKit in
open Go.RowKit in
open Go.RowKit in
open Go.RowKit in
def Tryz.lays172_ren : Go.Shelf.Ren := ⟨fun | 172 => 313 | 244 => 315 | 245 => 316 | 247 => 317 | 279 => 318 | 280 => 319 | 281 => 320 | 282 => 321 | 287 => 322 | 316 => 323 | 171 => 192 | 205 => 324 | 321 => 325 | 322 => 326 | 243 => 246 | 246 => 276 | 283 => 290 | 284 => 291 | 285 => 292 | 286 => 293 | 129 => 228 | 317 => 302 | 318 => 303 | 319 => 304 | 320 => 305 | 337 => 311 | 338 => 312 | n => n, fun | 9 => 9 | 3 => 3 | 75 => 170 | 76 => 171 | 4 => 4 | 5 => 5 | 167 => 339 | 37 => 39 | 0 => 0 | 85 => 340 | 2 => 2 | 168 => 342 | 53 => 266 | 175 => 345 | 46 => 199 | 210 => 348 | 127 => 237 | 145 => 353 | 143 => 351 | 21 => 21 | 171 => 317 | 173 => 319 | 212 => 328 | 51 => 264 | 20 => 20 | 213 => 329 | 232 => 336 | 233 => 337 | 80 => 53 | n => n, fun | 15 => 6 | 16 => 7 | 17 => 3 | 18 => 4 | 19 => 5 | n => n⟩
theorem Tryz.lays172 : Go.Proofs.Lays.n172 prog Tryz.lays172_ren := {
 mixed := by kernel_rfl
 f129 := Tryz.func228.trans (congrArg some (by kernel_rfl))
 f171 := Tryz.func192.trans (congrArg some (by kernel_rfl))
 f172 := Tryz.func313.trans (congrArg some (by kernel_rfl))
 f205 := Tryz.func324.trans (congrArg some (by kernel_rfl))
 f243 := Tryz.func246.trans (congrArg some (by kernel_rfl))
 f244 := Tryz.func315.trans (congrArg some (by kernel_rfl))
 f245 := Tryz.func316.trans (congrArg some (by kernel_rfl))
 f246 := Tryz.func276.trans (congrArg some (by kernel_rfl))
 f247 := Tryz.func317.trans (congrArg some (by kernel_rfl))
 f279 := Tryz.func318.trans (congrArg some (by kernel_rfl))
 f280 := Tryz.func319.trans (congrArg some (by kernel_rfl))
 f281 := Tryz.func320.trans (congrArg some (by kernel_rfl))
 f282 := Tryz.func321.trans (congrArg some (by kernel_rfl))
 f283 := Tryz.func290.trans (congrArg some (by kernel_rfl))
 f284 := Tryz.func291.trans (congrArg some (by kernel_rfl))
 f285 := Tryz.func292.trans (congrArg some (by kernel_rfl))
 f286 := Tryz.func293.trans (congrArg some (by kernel_rfl))
 f287 := Tryz.func322.trans (congrArg some (by kernel_rfl))
 f316 := Tryz.func323.trans (congrArg some (by kernel_rfl))
 f317 := Tryz.func302.trans (congrArg some (by kernel_rfl))
 f318 := Tryz.func303.trans (congrArg some (by kernel_rfl))
 f319 := Tryz.func304.trans (congrArg some (by kernel_rfl))
 f320 := Tryz.func305.trans (congrArg some (by kernel_rfl))
 f321 := Tryz.func325.trans (congrArg some (by kernel_rfl))
 f322 := Tryz.func326.trans (congrArg some (by kernel_rfl))
 f337 := Tryz.func311.trans (congrArg some (by kernel_rfl))
 f338 := Tryz.func312.trans (congrArg some (by kernel_rfl))
 t0 := Tryz.underlying0
 a0 := Tryz.isAgg0
 z0 := Tryz.sizeOf0
 v0 := Tryz.zeroValue0
 t2 := Tryz.underlying2
 a2 := Tryz.isAgg2
 z2 := Tryz.sizeOf2
 v2 := Tryz.zeroValue2
 t3 := Tryz.underlying3
 a3 := Tryz.isAgg3
 z3 := Tryz.sizeOf3
 v3 := Tryz.zeroValue3
 t4 := Tryz.underlying4
 a4 := Tryz.isAgg4
 z4 := Tryz.sizeOf4
 v4 := Tryz.zeroValue4
 t5 := Tryz.underlying5
 a5 := Tryz.isAgg5
 z5 := Tryz.sizeOf5
 v5 := Tryz.zeroValue5
 t9 := Tryz.underlying9
 a9 := Tryz.isAgg9
 z9 := Tryz.sizeOf9
 v9 := Tryz.zeroValue9
 t20 := Tryz.underlying20
 a20 := Tryz.isAgg20
 z20 := Tryz.sizeOf20
 v20 := Tryz.zeroValue20
 t21 := Tryz.underlying21
 a21 := Tryz.isAgg21
 z21 := Tryz.sizeOf21
 v21 := Tryz.zeroValue21
 t37 := Tryz.underlying39
 a37 := Tryz.isAgg39
 z37 := Tryz.sizeOf39
 v37 := Tryz.zeroValue39
 t46 := Tryz.underlying199
 a46 := Tryz.isAgg199
 z46 := Tryz.sizeOf199
 v46 := Tryz.zeroValue199
 t51 := Tryz.underlying264
 a51 := Tryz.isAgg264
 z51 := Tryz.sizeOf264
 v51 := Tryz.zeroValue264
 t53 := Tryz.underlying266
 a53 := Tryz.isAgg266
 z53 := Tryz.sizeOf266
 v53 := Tryz.zeroValue266
 t75 := Tryz.underlying170
 a75 := Tryz.isAgg170
 z75 := Tryz.sizeOf170
 v75 := Tryz.zeroValue170
 t76 := Tryz.underlying171
 a76 := Tryz.isAgg171
 z76 := Tryz.sizeOf171
 v76 := Tryz.zeroValue171
 t85 := Tryz.underlying340
 a85 := Tryz.isAgg340
 z85 := Tryz.sizeOf340
 v85 := Tryz.zeroValue340
 t127 := Tryz.underlying237
 a127 := Tryz.isAgg237
 z127 := Tryz.sizeOf237
 v127 := Tryz.zeroValue237
 t143 := Tryz.underlying351
 a143 := Tryz.isAgg351
 z143 := Tryz.sizeOf351
 v143 := Tryz.zeroValue351
 t145 := Tryz.underlying353
 a145 := Tryz.isAgg353
 z145 := Tryz.sizeOf353
 v145 := Tryz.zeroValue353
 t167 := Tryz.underlying339
 a167 := Tryz.isAgg339
 z167 := Tryz.sizeOf339
 v167 := Tryz.zeroValue339
 t168 := Tryz.underlying342
 a168 := Tryz.isAgg342
 z168 := Tryz.sizeOf342
 v168 := Tryz.zeroValue342
 t171 := Tryz.underlying317
 a171 := Tryz.isAgg317
 z171 := Tryz.sizeOf317
 v171 := Tryz.zeroValue317
 t173 := Tryz.underlying319
 a173 := Tryz.isAgg319
 z173 := Tryz.sizeOf319
 v173 := Tryz.zeroValue319
 t175 := Tryz.underlying345
 a175 := Tryz.isAgg345
 z175 := Tryz.sizeOf345
 v175 := Tryz.zeroValue345
 t210 := Tryz.underlying348
 a210 := Tryz.isAgg348
 z210 := Tryz.sizeOf348
 v210 := Tryz.zeroValue348
 t212 := Tryz.underlying328
 a212 := Tryz.isAgg328
 z212 := Tryz.sizeOf328
 v212 := Tryz.zeroValue328
 t213 := Tryz.underlying329
 a213 := Tryz.isAgg329
 z213 := Tryz.sizeOf329
 t232 := Tryz.underlying336
 a232 := Tryz.isAgg336
 z232 := Tryz.sizeOf336
 v232 := Tryz.zeroValue336
 t233 := Tryz.underlying337
 a233 := Tryz.isAgg337
 z233 := Tryz.sizeOf337
 v233 := Tryz.zeroValue337
 g15 := by kernel_rfl
 g16 := by kernel_rfl
 g17 := by kernel_rfl
 g18 := by kernel_rfl
 g19 := by kernel_rfl }
open Go.RowKit in
theorem Tryz.strconv_Atoi (s : ByteArray) (n : Int) (hl : s.size <= 18) (h : Lib.atoi s.data.toList = some n) (w : World) :
   Calls prog 313 #[.string s] w fun e w' => e = .returned (.tuple #[.int .i64 n, .nilIface]) /\ ∃ t, w' = Lib.bytesWorld w 5 t := Any.strconv_Atoi Tryz.lays172 s n hl h w
open Go.Lib in
open Go.Lib in
open Go.Lib in
open Go.Lib in
open Go.RowKit Go.Sort Go.Lib in
def Tryz.laysM246_ren : Go.Shelf.Ren := ⟨fun | 246 => 276 | 283 => 290 | 284 => 291 | 285 => 292 | 286 => 293 | 129 => 228 | 317 => 302 | 318 => 303 | 319 => 304 | 320 => 305 | 337 => 311 | 338 => 312 | n => n, fun | 2 => 2 | 3 => 3 | 9 => 9 | 4 => 4 | 171 => 317 | 0 => 0 | 53 => 266 | 37 => 39 | 5 => 5 | 173 => 319 | 212 => 328 | 51 => 264 | 20 => 20 | 213 => 329 | 46 => 199 | 232 => 336 | 233 => 337 | n => n, fun | 17 => 3 | 18 => 4 | 19 => 5 | n => n⟩
theorem Tryz.laysM246 : Go.Proofs.LaysM.n246 prog Tryz.laysM246_ren := {
 mixed := by kernel_rfl
 f129 := Tryz.func228.trans (congrArg some (by kernel_rfl))
 f246 := Tryz.func276.trans (congrArg some (by kernel_rfl))
 f283 := Tryz.func290.trans (congrArg some (by kernel_rfl))
 f284 := Tryz.func291.trans (congrArg some (by kernel_rfl))
 f285 := Tryz.func292.trans (congrArg some (by kernel_rfl))
 f286 := Tryz.func293.trans (congrArg some (by kernel_rfl))
 f317 := Tryz.func302.trans (congrArg some (by kernel_rfl))
 f318 := Tryz.func303.trans (congrArg some (by kernel_rfl))
 f319 := Tryz.func304.trans (congrArg some (by kernel_rfl))
 f320 := Tryz.func305.trans (congrArg some (by kernel_rfl))
 f337 := Tryz.func311.trans (congrArg some (by kernel_rfl))
 f338 := Tryz.func312.trans (congrArg some (by kernel_rfl))
 t0 := Tryz.underlying0
 a0 := Tryz.isAgg0
 z0 := Tryz.sizeOf0
 v0 := Tryz.zeroValue0
 t2 := Tryz.underlying2
 a2 := Tryz.isAgg2
 z2 := Tryz.sizeOf2
 v2 := Tryz.zeroValue2
 t3 := Tryz.underlying3
 a3 := Tryz.isAgg3
 z3 := Tryz.sizeOf3
 v3 := Tryz.zeroValue3
 t4 := Tryz.underlying4
 a4 := Tryz.isAgg4
 z4 := Tryz.sizeOf4
 v4 := Tryz.zeroValue4
 t5 := Tryz.underlying5
 a5 := Tryz.isAgg5
 z5 := Tryz.sizeOf5
 v5 := Tryz.zeroValue5
 t9 := Tryz.underlying9
 a9 := Tryz.isAgg9
 z9 := Tryz.sizeOf9
 v9 := Tryz.zeroValue9
 t20 := Tryz.underlying20
 a20 := Tryz.isAgg20
 z20 := Tryz.sizeOf20
 v20 := Tryz.zeroValue20
 t37 := Tryz.underlying39
 a37 := Tryz.isAgg39
 z37 := Tryz.sizeOf39
 v37 := Tryz.zeroValue39
 t46 := Tryz.underlying199
 a46 := Tryz.isAgg199
 z46 := Tryz.sizeOf199
 v46 := Tryz.zeroValue199
 t51 := Tryz.underlying264
 a51 := Tryz.isAgg264
 z51 := Tryz.sizeOf264
 v51 := Tryz.zeroValue264
 t53 := Tryz.underlying266
 a53 := Tryz.isAgg266
 z53 := Tryz.sizeOf266
 v53 := Tryz.zeroValue266
 t171 := Tryz.underlying317
 a171 := Tryz.isAgg317
 z171 := Tryz.sizeOf317
 v171 := Tryz.zeroValue317
 t173 := Tryz.underlying319
 a173 := Tryz.isAgg319
 z173 := Tryz.sizeOf319
 v173 := Tryz.zeroValue319
 t212 := Tryz.underlying328
 a212 := Tryz.isAgg328
 z212 := Tryz.sizeOf328
 v212 := Tryz.zeroValue328
 t213 := Tryz.underlying329
 a213 := Tryz.isAgg329
 z213 := Tryz.sizeOf329
 t232 := Tryz.underlying336
 a232 := Tryz.isAgg336
 z232 := Tryz.sizeOf336
 v232 := Tryz.zeroValue336
 t233 := Tryz.underlying337
 a233 := Tryz.isAgg337
 z233 := Tryz.sizeOf337
 v233 := Tryz.zeroValue337
 g17 := by kernel_rfl
 g18 := by kernel_rfl
 g19 := by kernel_rfl
 i0 := by kernel_rfl
 i2 := by kernel_rfl
 i3 := by kernel_rfl
 i4 := by kernel_rfl
 i5 := by kernel_rfl
 i9 := by kernel_rfl
 i20 := by kernel_rfl
 i37 := by kernel_rfl
 i46 := by kernel_rfl
 i51 := by kernel_rfl
 i53 := by kernel_rfl
 i171 := by kernel_rfl
 i173 := by kernel_rfl
 i212 := by kernel_rfl
 i232 := by kernel_rfl
 i233 := by kernel_rfl
 m17 := by kernel_rfl
 m18 := by kernel_rfl
 m19 := by kernel_rfl }
open Go.RowKit Go.Sort Go.Lib in
theorem Tryz.internal_strconv_FormatInt_10 (n : Int) (h0 : -9223372036854775808 <= n) (h1 : n <= 9223372036854775807) (w : World) (htab : Lib.TabIs prog w "internal/strconv.uint64pow10" .u64 Lib.pow10Tab) :
   Calls prog 276 #[.int .i64 n, .int .i64 10] w fun e w' => e = .returned (.string ⟨(Lib.itoa n).toArray⟩) /\ ∃ k os, w' = grow (w.drewN k) os := Any.internal_strconv_FormatInt_10 Tryz.laysM246 n h0 h1 w htab
open Go.RowKit Go.Sort Go.Lib in
open Go.RowKit Go.Sort Go.Lib in
open Go.RowKit Go.Sort Go.Lib in
def Tryz.laysM171_ren : Go.Shelf.Ren := ⟨fun | 171 => 192 | 243 => 246 | 246 => 276 | 283 => 290 | 284 => 291 | 285 => 292 | 286 => 293 | 129 => 228 | 317 => 302 | 318 => 303 | 319 => 304 | 320 => 305 | 337 => 311 | 338 => 312 | n => n, fun | 3 => 3 | 9 => 9 | 2 => 2 | 4 => 4 | 171 => 317 | 0 => 0 | 53 => 266 | 37 => 39 | 5 => 5 | 173 => 319 | 212 => 328 | 51 => 264 | 20 => 20 | 213 => 329 | 46 => 199 | 232 => 336 | 233 => 337 | n => n, fun | 17 => 3 | 18 => 4 | 19 => 5 | n => n⟩
theorem Tryz.laysM171 : Go.Proofs.LaysM.n171 prog Tryz.laysM171_ren := {
 mixed := by kernel_rfl
 f129 := Tryz.func228.trans (congrArg some (by kernel_rfl))
 f171 := Tryz.func192.trans (congrArg some (by kernel_rfl))
 f243 := Tryz.func246.trans (congrArg some (by kernel_rfl))
 f246 := Tryz.func276.trans (congrArg some (by kernel_rfl))
 f283 := Tryz.func290.trans (congrArg some (by kernel_rfl))
 f284 := Tryz.func291.trans (congrArg some (by kernel_rfl))
 f285 := Tryz.func292.trans (congrArg some (by kernel_rfl))
 f286 := Tryz.func293.trans (congrArg some (by kernel_rfl))
 f317 := Tryz.func302.trans (congrArg some (by kernel_rfl))
 f318 := Tryz.func303.trans (congrArg some (by kernel_rfl))
 f319 := Tryz.func304.trans (congrArg some (by kernel_rfl))
 f320 := Tryz.func305.trans (congrArg some (by kernel_rfl))
 f337 := Tryz.func311.trans (congrArg some (by kernel_rfl))
 f338 := Tryz.func312.trans (congrArg some (by kernel_rfl))
 t0 := Tryz.underlying0
 a0 := Tryz.isAgg0
 z0 := Tryz.sizeOf0
 v0 := Tryz.zeroValue0
 t2 := Tryz.underlying2
 a2 := Tryz.isAgg2
 z2 := Tryz.sizeOf2
 v2 := Tryz.zeroValue2
 t3 := Tryz.underlying3
 a3 := Tryz.isAgg3
 z3 := Tryz.sizeOf3
 v3 := Tryz.zeroValue3
 t4 := Tryz.underlying4
 a4 := Tryz.isAgg4
 z4 := Tryz.sizeOf4
 v4 := Tryz.zeroValue4
 t5 := Tryz.underlying5
 a5 := Tryz.isAgg5
 z5 := Tryz.sizeOf5
 v5 := Tryz.zeroValue5
 t9 := Tryz.underlying9
 a9 := Tryz.isAgg9
 z9 := Tryz.sizeOf9
 v9 := Tryz.zeroValue9
 t20 := Tryz.underlying20
 a20 := Tryz.isAgg20
 z20 := Tryz.sizeOf20
 v20 := Tryz.zeroValue20
 t37 := Tryz.underlying39
 a37 := Tryz.isAgg39
 z37 := Tryz.sizeOf39
 v37 := Tryz.zeroValue39
 t46 := Tryz.underlying199
 a46 := Tryz.isAgg199
 z46 := Tryz.sizeOf199
 v46 := Tryz.zeroValue199
 t51 := Tryz.underlying264
 a51 := Tryz.isAgg264
 z51 := Tryz.sizeOf264
 v51 := Tryz.zeroValue264
 t53 := Tryz.underlying266
 a53 := Tryz.isAgg266
 z53 := Tryz.sizeOf266
 v53 := Tryz.zeroValue266
 t171 := Tryz.underlying317
 a171 := Tryz.isAgg317
 z171 := Tryz.sizeOf317
 v171 := Tryz.zeroValue317
 t173 := Tryz.underlying319
 a173 := Tryz.isAgg319
 z173 := Tryz.sizeOf319
 v173 := Tryz.zeroValue319
 t212 := Tryz.underlying328
 a212 := Tryz.isAgg328
 z212 := Tryz.sizeOf328
 v212 := Tryz.zeroValue328
 t213 := Tryz.underlying329
 a213 := Tryz.isAgg329
 z213 := Tryz.sizeOf329
 t232 := Tryz.underlying336
 a232 := Tryz.isAgg336
 z232 := Tryz.sizeOf336
 v232 := Tryz.zeroValue336
 t233 := Tryz.underlying337
 a233 := Tryz.isAgg337
 z233 := Tryz.sizeOf337
 v233 := Tryz.zeroValue337
 g17 := by kernel_rfl
 g18 := by kernel_rfl
 g19 := by kernel_rfl
 i0 := by kernel_rfl
 i2 := by kernel_rfl
 i3 := by kernel_rfl
 i4 := by kernel_rfl
 i5 := by kernel_rfl
 i9 := by kernel_rfl
 i20 := by kernel_rfl
 i37 := by kernel_rfl
 i46 := by kernel_rfl
 i51 := by kernel_rfl
 i53 := by kernel_rfl
 i171 := by kernel_rfl
 i173 := by kernel_rfl
 i212 := by kernel_rfl
 i232 := by kernel_rfl
 i233 := by kernel_rfl
 m17 := by kernel_rfl
 m18 := by kernel_rfl
 m19 := by kernel_rfl }
open Go.RowKit Go.Sort Go.Lib in
theorem Tryz.strconv_Itoa (n : Int) (h0 : -9223372036854775808 <= n) (h1 : n <= 9223372036854775807) (w : World) (htab : Lib.TabIs prog w "internal/strconv.uint64pow10" .u64 Lib.pow10Tab) :
   Calls prog 192 #[.int .i64 n] w fun e w' => e = .returned (.string ⟨(Lib.itoa n).toArray⟩) /\ ∃ k os, w' = grow (w.drewN k) os := Any.strconv_Itoa Tryz.laysM171 n h0 h1 w htab
def Tryz.lays171_ren : Go.Shelf.Ren := ⟨fun | 171 => 192 | 243 => 246 | 246 => 276 | 283 => 290 | 284 => 291 | 285 => 292 | 286 => 293 | 129 => 228 | 317 => 302 | 318 => 303 | 319 => 304 | 320 => 305 | 337 => 311 | 338 => 312 | n => n, fun | 3 => 3 | 9 => 9 | 2 => 2 | 4 => 4 | 171 => 317 | 0 => 0 | 53 => 266 | 37 => 39 | 5 => 5 | 173 => 319 | 212 => 328 | 51 => 264 | 20 => 20 | 213 => 329 | 46 => 199 | 232 => 336 | 233 => 337 | n => n, fun | 17 => 3 | 18 => 4 | 19 => 5 | n => n⟩
theorem Tryz.lays171 : Go.Proofs.Lays.n171 prog Tryz.lays171_ren := {
 mixed := by kernel_rfl
 f129 := Tryz.func228.trans (congrArg some (by kernel_rfl))
 f171 := Tryz.func192.trans (congrArg some (by kernel_rfl))
 f243 := Tryz.func246.trans (congrArg some (by kernel_rfl))
 f246 := Tryz.func276.trans (congrArg some (by kernel_rfl))
 f283 := Tryz.func290.trans (congrArg some (by kernel_rfl))
 f284 := Tryz.func291.trans (congrArg some (by kernel_rfl))
 f285 := Tryz.func292.trans (congrArg some (by kernel_rfl))
 f286 := Tryz.func293.trans (congrArg some (by kernel_rfl))
 f317 := Tryz.func302.trans (congrArg some (by kernel_rfl))
 f318 := Tryz.func303.trans (congrArg some (by kernel_rfl))
 f319 := Tryz.func304.trans (congrArg some (by kernel_rfl))
 f320 := Tryz.func305.trans (congrArg some (by kernel_rfl))
 f337 := Tryz.func311.trans (congrArg some (by kernel_rfl))
 f338 := Tryz.func312.trans (congrArg some (by kernel_rfl))
 t0 := Tryz.underlying0
 a0 := Tryz.isAgg0
 z0 := Tryz.sizeOf0
 v0 := Tryz.zeroValue0
 t2 := Tryz.underlying2
 a2 := Tryz.isAgg2
 z2 := Tryz.sizeOf2
 v2 := Tryz.zeroValue2
 t3 := Tryz.underlying3
 a3 := Tryz.isAgg3
 z3 := Tryz.sizeOf3
 v3 := Tryz.zeroValue3
 t4 := Tryz.underlying4
 a4 := Tryz.isAgg4
 z4 := Tryz.sizeOf4
 v4 := Tryz.zeroValue4
 t5 := Tryz.underlying5
 a5 := Tryz.isAgg5
 z5 := Tryz.sizeOf5
 v5 := Tryz.zeroValue5
 t9 := Tryz.underlying9
 a9 := Tryz.isAgg9
 z9 := Tryz.sizeOf9
 v9 := Tryz.zeroValue9
 t20 := Tryz.underlying20
 a20 := Tryz.isAgg20
 z20 := Tryz.sizeOf20
 v20 := Tryz.zeroValue20
 t37 := Tryz.underlying39
 a37 := Tryz.isAgg39
 z37 := Tryz.sizeOf39
 v37 := Tryz.zeroValue39
 t46 := Tryz.underlying199
 a46 := Tryz.isAgg199
 z46 := Tryz.sizeOf199
 v46 := Tryz.zeroValue199
 t51 := Tryz.underlying264
 a51 := Tryz.isAgg264
 z51 := Tryz.sizeOf264
 v51 := Tryz.zeroValue264
 t53 := Tryz.underlying266
 a53 := Tryz.isAgg266
 z53 := Tryz.sizeOf266
 v53 := Tryz.zeroValue266
 t171 := Tryz.underlying317
 a171 := Tryz.isAgg317
 z171 := Tryz.sizeOf317
 v171 := Tryz.zeroValue317
 t173 := Tryz.underlying319
 a173 := Tryz.isAgg319
 z173 := Tryz.sizeOf319
 v173 := Tryz.zeroValue319
 t212 := Tryz.underlying328
 a212 := Tryz.isAgg328
 z212 := Tryz.sizeOf328
 v212 := Tryz.zeroValue328
 t213 := Tryz.underlying329
 a213 := Tryz.isAgg329
 z213 := Tryz.sizeOf329
 t232 := Tryz.underlying336
 a232 := Tryz.isAgg336
 z232 := Tryz.sizeOf336
 v232 := Tryz.zeroValue336
 t233 := Tryz.underlying337
 a233 := Tryz.isAgg337
 z233 := Tryz.sizeOf337
 v233 := Tryz.zeroValue337
 g17 := by kernel_rfl
 g18 := by kernel_rfl
 g19 := by kernel_rfl }
open Go.RowKit Go.Sort Go.Lib in
theorem Tryz.strconv_Itoa_small (i : Nat) (hi : i < 100) (w : World) :
   Calls prog 192 #[.int .i64 i] w fun e w' => e = .returned (.string ⟨(Lib.decDigits i).toArray⟩) /\ w' = w := Any.strconv_Itoa_small Tryz.lays171 i hi w
open Go.RowKit in
open Go.RowKit in
open Go.RowKit in
open Go.RowKit in
open Go.RowKit in
open Go.RowKit in
open Go.RowKit in
open Go.RowKit in
open Go.RowKit in
open Go.RowKit in
open Go.RowKit in
open Go.RowKit in
open Go.RowKit in
open Go.RowKit in
open Go.RowKit in
open Go.RowKit Go.Lib in
open Go.RowKit Go.Lib in
open Go.RowKit Go.Lib in
open Go.RowKit Go.Lib in
open Go.RowKit Go.Lib in
open Go.RowKit Go.Lib in
open Go.RowKit Go.Lib in
open Go.RowKit Go.Lib in
open Go.RowKit Go.Lib in
def Tryz.lays145_ren : Go.Shelf.Ren := ⟨fun | 145 => 182 | 220 => 240 | 219 => 272 | 217 => 278 | 225 => 251 | 224 => 250 | 267 => 287 | 266 => 294 | 314 => 301 | n => n, fun | 9 => 9 | 4 => 4 | 59 => 226 | 3 => 3 | 5 => 5 | 46 => 199 | 146 => 268 | 51 => 264 | n => n, fun | 1 => 0 | n => n⟩
theorem Tryz.lays145 : Go.Proofs.Lays.n145 prog Tryz.lays145_ren := {
 mixed := by kernel_rfl
 f145 := Tryz.func182.trans (congrArg some (by kernel_rfl))
 f217 := Tryz.func278.trans (congrArg some (by kernel_rfl))
 f219 := Tryz.func272.trans (congrArg some (by kernel_rfl))
 f220 := Tryz.func240.trans (congrArg some (by kernel_rfl))
 f224 := Tryz.func250.trans (congrArg some (by kernel_rfl))
 f225 := Tryz.func251.trans (congrArg some (by kernel_rfl))
 f266 := Tryz.func294.trans (congrArg some (by kernel_rfl))
 f267 := Tryz.func287.trans (congrArg some (by kernel_rfl))
 f314 := Tryz.func301.trans (congrArg some (by kernel_rfl))
 t3 := Tryz.underlying3
 a3 := Tryz.isAgg3
 z3 := Tryz.sizeOf3
 v3 := Tryz.zeroValue3
 t4 := Tryz.underlying4
 a4 := Tryz.isAgg4
 z4 := Tryz.sizeOf4
 v4 := Tryz.zeroValue4
 t5 := Tryz.underlying5
 a5 := Tryz.isAgg5
 z5 := Tryz.sizeOf5
 v5 := Tryz.zeroValue5
 t9 := Tryz.underlying9
 a9 := Tryz.isAgg9
 z9 := Tryz.sizeOf9
 v9 := Tryz.zeroValue9
 t46 := Tryz.underlying199
 a46 := Tryz.isAgg199
 z46 := Tryz.sizeOf199
 v46 := Tryz.zeroValue199
 t51 := Tryz.underlying264
 a51 := Tryz.isAgg264
 z51 := Tryz.sizeOf264
 v51 := Tryz.zeroValue264
 t59 := Tryz.underlying226
 a59 := Tryz.isAgg226
 z59 := Tryz.sizeOf226
 v59 := Tryz.zeroValue226
 t146 := Tryz.underlying268
 a146 := Tryz.isAgg268
 z146 := Tryz.sizeOf268
 v146 := Tryz.zeroValue268
 g1 := by kernel_rfl }
open Go.RowKit Go.Lib in
theorem Tryz.strings_Cut (s sep : ByteArray) (m : Int) (w : World) (hs : s.size < 4294967281) (hm : w.cell? ⟨0, 0, none⟩ = some (.int .i64 m)) :
   Calls prog 182 #[.string s, .string sep] w fun e w' => e = .returned (.tuple #[.string ⟨(Lib.cut s.data.toList sep.data.toList).1.toArray⟩, .string ⟨(Lib.cut s.data.toList sep.data.toList).2.1.toArray⟩, .bool (Lib.cut s.data.toList sep.data.toList).2.2]) /\ ∃ n, w' = w.drewN n := Any.strings_Cut Tryz.lays145 s sep m w hs hm
open Go.RowKit Go.Lib in
open Go.RowKit Go.Lib in
open Go.RowKit Go.Lib in
open Go.RowKit Go.Lib in
open Go.RowKit Go.Lib in
open Go.RowKit Go.Lib in
open Go.RowKit Go.Lib in
open Go.RowKit Go.Lib in
def Tryz.lays149_ren : Go.Shelf.Ren := ⟨fun | 149 => 153 | 222 => 213 | n => n, fun | 9 => 9 | 5 => 5 | 3 => 3 | 4 => 4 | n => n, fun | n => n⟩
theorem Tryz.lays149 : Go.Proofs.Lays.n149 prog Tryz.lays149_ren := {
 mixed := by kernel_rfl
 f149 := Tryz.func153.trans (congrArg some (by kernel_rfl))
 f222 := Tryz.func213.trans (congrArg some (by kernel_rfl))
 t3 := Tryz.underlying3
 a3 := Tryz.isAgg3
 z3 := Tryz.sizeOf3
 v3 := Tryz.zeroValue3
 t4 := Tryz.underlying4
 a4 := Tryz.isAgg4
 z4 := Tryz.sizeOf4
 v4 := Tryz.zeroValue4
 t5 := Tryz.underlying5
 a5 := Tryz.isAgg5
 z5 := Tryz.sizeOf5
 v5 := Tryz.zeroValue5
 t9 := Tryz.underlying9
 a9 := Tryz.isAgg9
 z9 := Tryz.sizeOf9
 v9 := Tryz.zeroValue9 }
open Go.RowKit Go.Lib in
theorem Tryz.strings_LastIndexByte (s : ByteArray) (c : Int) (hs : s.size < 4611686018427387904) (w : World) :
   Calls prog 153 #[.string s, .int .u8 c] w fun e w' => e = .returned (.int .i64 (Lib.lastIndexByte s c)) /\ w' = w := Any.strings_LastIndexByte Tryz.lays149 s c hs w
open Go.RowKit Go.Lib in
def Tryz.lays99_ren : Go.Shelf.Ren := ⟨fun | 99 => 136 | 206 => 196 | n => n, fun | 9 => 9 | 4 => 4 | 3 => 3 | n => n, fun | n => n⟩
theorem Tryz.lays99 : Go.Proofs.Lays.n99 prog Tryz.lays99_ren := {
 mixed := by kernel_rfl
 f99 := Tryz.func136.trans (congrArg some (by kernel_rfl))
 f206 := Tryz.func196.trans (congrArg some (by kernel_rfl))
 t3 := Tryz.underlying3
 a3 := Tryz.isAgg3
 z3 := Tryz.sizeOf3
 v3 := Tryz.zeroValue3
 t4 := Tryz.underlying4
 a4 := Tryz.isAgg4
 z4 := Tryz.sizeOf4
 v4 := Tryz.zeroValue4
 t9 := Tryz.underlying9
 a9 := Tryz.isAgg9
 z9 := Tryz.sizeOf9
 v9 := Tryz.zeroValue9 }
open Go.RowKit Go.Lib in
theorem Tryz.strings_HasPrefix (s p : ByteArray) (w : World) :
   Calls prog 136 #[.string s, .string p] w fun e w' => e = .returned (.bool (Lib.hasPrefix s.data.toList p.data.toList)) /\ w' = w := Any.strings_HasPrefix Tryz.lays99 s p w
open Go.RowKit Go.Lib in
open Go.RowKit Go.Lib in
def Tryz.lays101_ren : Go.Shelf.Ren := ⟨fun | 101 => 282 | 208 => 299 | 206 => 196 | n => n, fun | 9 => 9 | 4 => 4 | 3 => 3 | n => n, fun | n => n⟩
theorem Tryz.lays101 : Go.Proofs.Lays.n101 prog Tryz.lays101_ren := {
 mixed := by kernel_rfl
 f101 := Tryz.func282.trans (congrArg some (by kernel_rfl))
 f206 := Tryz.func196.trans (congrArg some (by kernel_rfl))
 f208 := Tryz.func299.trans (congrArg some (by kernel_rfl))
 t3 := Tryz.underlying3
 a3 := Tryz.isAgg3
 z3 := Tryz.sizeOf3
 v3 := Tryz.zeroValue3
 t4 := Tryz.underlying4
 a4 := Tryz.isAgg4
 z4 := Tryz.sizeOf4
 v4 := Tryz.zeroValue4
 t9 := Tryz.underlying9
 a9 := Tryz.isAgg9
 z9 := Tryz.sizeOf9
 v9 := Tryz.zeroValue9 }
open Go.RowKit Go.Lib in
theorem Tryz.strings_TrimPrefix (s p : ByteArray) (w : World) :
   Calls prog 282 #[.string s, .string p] w fun e w' => e = .returned (.string ⟨(Lib.trimPrefix s.data.toList p.data.toList).toArray⟩) /\ w' = w := Any.strings_TrimPrefix Tryz.lays101 s p w
open Go.RowKit Go.Lib in
open Go.RowKit Go.Lib in
def Tryz.lays146_ren : Go.Shelf.Ren := ⟨fun | 146 => 185 | 221 => 242 | 268 => 273 | 138 => 274 | 143 => 275 | 195 => 288 | 197 => 234 | 218 => 289 | 219 => 272 | 260 => 270 | 217 => 278 | 225 => 251 | 224 => 250 | 267 => 287 | 266 => 294 | 314 => 301 | n => n, fun | 9 => 9 | 31 => 38 | 3 => 3 | 4 => 4 | 0 => 0 | 105 => 279 | 21 => 21 | 5 => 5 | 46 => 199 | 119 => 313 | 139 => 316 | 138 => 315 | 146 => 268 | 51 => 264 | n => n, fun | 1 => 0 | 3 => 1 | 4 => 2 | n => n⟩
theorem Tryz.lays146 : Go.Proofs.Lays.n146 prog Tryz.lays146_ren := {
 mixed := by kernel_rfl
 f138 := Tryz.func274.trans (congrArg some (by kernel_rfl))
 f143 := Tryz.func275.trans (congrArg some (by kernel_rfl))
 f146 := Tryz.func185.trans (congrArg some (by kernel_rfl))
 f195 := Tryz.func288.trans (congrArg some (by kernel_rfl))
 f197 := Tryz.func234.trans (congrArg some (by kernel_rfl))
 f217 := Tryz.func278.trans (congrArg some (by kernel_rfl))
 f218 := Tryz.func289.trans (congrArg some (by kernel_rfl))
 f219 := Tryz.func272.trans (congrArg some (by kernel_rfl))
 f221 := Tryz.func242.trans (congrArg some (by kernel_rfl))
 f224 := Tryz.func250.trans (congrArg some (by kernel_rfl))
 f225 := Tryz.func251.trans (congrArg some (by kernel_rfl))
 f260 := Tryz.func270.trans (congrArg some (by kernel_rfl))
 f266 := Tryz.func294.trans (congrArg some (by kernel_rfl))
 f267 := Tryz.func287.trans (congrArg some (by kernel_rfl))
 f268 := Tryz.func273.trans (congrArg some (by kernel_rfl))
 f314 := Tryz.func301.trans (congrArg some (by kernel_rfl))
 t0 := Tryz.underlying0
 a0 := Tryz.isAgg0
 z0 := Tryz.sizeOf0
 v0 := Tryz.zeroValue0
 t3 := Tryz.underlying3
 a3 := Tryz.isAgg3
 z3 := Tryz.sizeOf3
 v3 := Tryz.zeroValue3
 t4 := Tryz.underlying4
 a4 := Tryz.isAgg4
 z4 := Tryz.sizeOf4
 v4 := Tryz.zeroValue4
 t5 := Tryz.underlying5
 a5 := Tryz.isAgg5
 z5 := Tryz.sizeOf5
 v5 := Tryz.zeroValue5
 t9 := Tryz.underlying9
 a9 := Tryz.isAgg9
 z9 := Tryz.sizeOf9
 v9 := Tryz.zeroValue9
 t21 := Tryz.underlying21
 a21 := Tryz.isAgg21
 z21 := Tryz.sizeOf21
 v21 := Tryz.zeroValue21
 t31 := Tryz.underlying38
 a31 := Tryz.isAgg38
 z31 := Tryz.sizeOf38
 v31 := Tryz.zeroValue38
 t46 := Tryz.underlying199
 a46 := Tryz.isAgg199
 z46 := Tryz.sizeOf199
 v46 := Tryz.zeroValue199
 t51 := Tryz.underlying264
 a51 := Tryz.isAgg264
 z51 := Tryz.sizeOf264
 v51 := Tryz.zeroValue264
 t105 := Tryz.underlying279
 a105 := Tryz.isAgg279
 z105 := Tryz.sizeOf279
 v105 := Tryz.zeroValue279
 t119 := Tryz.underlying313
 a119 := Tryz.isAgg313
 z119 := Tryz.sizeOf313
 t138 := Tryz.underlying315
 a138 := Tryz.isAgg315
 z138 := Tryz.sizeOf315
 v138 := Tryz.zeroValue315
 t139 := Tryz.underlying316
 a139 := Tryz.isAgg316
 z139 := Tryz.sizeOf316
 v139 := Tryz.zeroValue316
 t146 := Tryz.underlying268
 a146 := Tryz.isAgg268
 z146 := Tryz.sizeOf268
 v146 := Tryz.zeroValue268
 g1 := by kernel_rfl
 g3 := by kernel_rfl
 g4 := by kernel_rfl }
open Go.RowKit Go.Lib in
theorem Tryz.strings_Split (s sep : ByteArray) (m : Int) (w : World) (hs : s.size < 4294967281) (hm : w.cell? ⟨0, 0, none⟩ = some (.int .i64 m)) (h1 : 1 <= sep.size) :
   Calls prog 185 #[.string s, .string sep] w fun e w' =>
     e = .returned (.slice (some ⟨w.heap.size, 0, none⟩) (Lib.countB s sep + 1) (Lib.countB s sep + 1)) /\ w' = w.alloc (.cells ((Lib.splitB sep 0 (Lib.countB s sep) s).map Value.string).toArray 9) := Any.strings_Split Tryz.lays146 (by kernel_rfl) s sep m w hs hm h1
open Go.RowKit Go.Lib in
open Go.RowKit Go.Lib in
def Tryz.lays152_ren : Go.Shelf.Ren := ⟨fun | 152 => 197 | 137 => 248 | 119 => 249 | 224 => 250 | 225 => 251 | 217 => 278 | 266 => 294 | n => n, fun | 9 => 9 | 21 => 21 | 3 => 3 | 4 => 4 | 5 => 5 | 0 => 0 | 46 => 199 | n => n, fun | n => n⟩
theorem Tryz.lays152 : Go.Proofs.Lays.n152 prog Tryz.lays152_ren := {
 mixed := by kernel_rfl
 f119 := Tryz.func249.trans (congrArg some (by kernel_rfl))
 f137 := Tryz.func248.trans (congrArg some (by kernel_rfl))
 f152 := Tryz.func197.trans (congrArg some (by kernel_rfl))
 f217 := Tryz.func278.trans (congrArg some (by kernel_rfl))
 f224 := Tryz.func250.trans (congrArg some (by kernel_rfl))
 f225 := Tryz.func251.trans (congrArg some (by kernel_rfl))
 f266 := Tryz.func294.trans (congrArg some (by kernel_rfl))
 t0 := Tryz.underlying0
 a0 := Tryz.isAgg0
 z0 := Tryz.sizeOf0
 v0 := Tryz.zeroValue0
 t3 := Tryz.underlying3
 a3 := Tryz.isAgg3
 z3 := Tryz.sizeOf3
 v3 := Tryz.zeroValue3
 t4 := Tryz.underlying4
 a4 := Tryz.isAgg4
 z4 := Tryz.sizeOf4
 v4 := Tryz.zeroValue4
 t5 := Tryz.underlying5
 a5 := Tryz.isAgg5
 z5 := Tryz.sizeOf5
 v5 := Tryz.zeroValue5
 t9 := Tryz.underlying9
 a9 := Tryz.isAgg9
 z9 := Tryz.sizeOf9
 v9 := Tryz.zeroValue9
 t21 := Tryz.underlying21
 a21 := Tryz.isAgg21
 z21 := Tryz.sizeOf21
 v21 := Tryz.zeroValue21
 t46 := Tryz.underlying199
 a46 := Tryz.isAgg199
 z46 := Tryz.sizeOf199
 v46 := Tryz.zeroValue199 }
open Go.RowKit Go.Lib in
theorem Tryz.strings_IndexRune_ascii (s : ByteArray) (r : Int) (w : World) (h0 : 0 <= r) (h1 : r < 128) :
   Calls prog 197 #[.string s, .int .i32 r] w fun e w' => e = .returned (.int .i64 (Lib.indexByte s.data.toList r.toNat.toUInt8)) /\ w' = w := Any.strings_IndexRune_ascii Tryz.lays152 s r w h0 h1
open Go.RowKit Go.Lib in
open Go.RowKit Go.Lib in
def Tryz.lays226_ren : Go.Shelf.Ren := ⟨fun | 226 => 198 | n => n, fun | 3 => 3 | 4 => 4 | n => n, fun | n => n⟩
theorem Tryz.lays226 : Go.Proofs.Lays.n226 prog Tryz.lays226_ren := {
 mixed := by kernel_rfl
 f226 := Tryz.func198.trans (congrArg some (by kernel_rfl))
 t3 := Tryz.underlying3
 a3 := Tryz.isAgg3
 z3 := Tryz.sizeOf3
 v3 := Tryz.zeroValue3
 t4 := Tryz.underlying4
 a4 := Tryz.isAgg4
 z4 := Tryz.sizeOf4
 v4 := Tryz.zeroValue4 }
open Go.RowKit Go.Lib in
theorem Tryz.strings_shouldUseASCIISet (n : Int) (w : World) :
   Calls prog 198 #[.int .i64 n] w fun e w' => e = .returned (.bool (decide (8 < n))) /\ w' = w := Any.strings_shouldUseASCIISet Tryz.lays226 n w
def Tryz.lays153_ren : Go.Shelf.Ren := ⟨fun | 153 => 137 | 152 => 197 | 226 => 198 | 227 => 171 | 228 => 199 | 137 => 248 | 119 => 249 | 224 => 250 | 225 => 251 | 217 => 278 | 266 => 294 | n => n, fun | 9 => 9 | 3 => 3 | 4 => 4 | 5 => 5 | 21 => 21 | 117 => 220 | 116 => 219 | 0 => 0 | 46 => 199 | 124 => 223 | n => n, fun | n => n⟩
theorem Tryz.lays153 : Go.Proofs.Lays.n153 prog Tryz.lays153_ren := {
 mixed := by kernel_rfl
 f119 := Tryz.func249.trans (congrArg some (by kernel_rfl))
 f137 := Tryz.func248.trans (congrArg some (by kernel_rfl))
 f152 := Tryz.func197.trans (congrArg some (by kernel_rfl))
 f153 := Tryz.func137.trans (congrArg some (by kernel_rfl))
 f217 := Tryz.func278.trans (congrArg some (by kernel_rfl))
 f224 := Tryz.func250.trans (congrArg some (by kernel_rfl))
 f225 := Tryz.func251.trans (congrArg some (by kernel_rfl))
 f226 := Tryz.func198.trans (congrArg some (by kernel_rfl))
 f227 := Tryz.func171.trans (congrArg some (by kernel_rfl))
 f228 := Tryz.func199.trans (congrArg some (by kernel_rfl))
 f266 := Tryz.func294.trans (congrArg some (by kernel_rfl))
 t0 := Tryz.underlying0
 a0 := Tryz.isAgg0
 z0 := Tryz.sizeOf0
 v0 := Tryz.zeroValue0
 t3 := Tryz.underlying3
 a3 := Tryz.isAgg3
 z3 := Tryz.sizeOf3
 v3 := Tryz.zeroValue3
 t4 := Tryz.underlying4
 a4 := Tryz.isAgg4
 z4 := Tryz.sizeOf4
 v4 := Tryz.zeroValue4
 t5 := Tryz.underlying5
 a5 := Tryz.isAgg5
 z5 := Tryz.sizeOf5
 v5 := Tryz.zeroValue5
 t9 := Tryz.underlying9
 a9 := Tryz.isAgg9
 z9 := Tryz.sizeOf9
 v9 := Tryz.zeroValue9
 t21 := Tryz.underlying21
 a21 := Tryz.isAgg21
 z21 := Tryz.sizeOf21
 v21 := Tryz.zeroValue21
 t46 := Tryz.underlying199
 a46 := Tryz.isAgg199
 z46 := Tryz.sizeOf199
 v46 := Tryz.zeroValue199
 t116 := Tryz.underlying219
 a116 := Tryz.isAgg219
 z116 := Tryz.sizeOf219
 t117 := Tryz.underlying220
 a117 := Tryz.isAgg220
 z117 := Tryz.sizeOf220
 v117 := Tryz.zeroValue220
 t124 := Tryz.underlying223
 a124 := Tryz.isAgg223
 z124 := Tryz.sizeOf223
 v124 := Tryz.zeroValue223 }
open Go.RowKit Go.Lib in
open Go.RowKit Go.Lib in
open Go.RowKit Go.Lib in
open Go.RowKit Go.Lib in
open Go.RowKit Go.Lib in
open Go.RowKit Go.Lib in
theorem Tryz.strings_IndexAny_long (hv116 : ∀ w, (zeroValue 219).run prog w = .ok (.agg (Array.replicate 256 (.bool false))) w) (s chars : ByteArray) (w : World) (h2 : 2 <= chars.size) (h8 : 8 < s.size) (hs : s.size < 4294967281) (hcs : chars.size < 4294967281) (hascii : ∀ (j : Nat) b, chars.data.toList[j]? = some b -> b.toNat < 128) :
   Calls prog 137 #[.string s, .string chars] w fun e w' => e = .returned (.int .i64 (Lib.indexAny s.data.toList chars.data.toList)) /\ w' = ((w.alloc (.cells (Lib.setCells chars.data.toList) 219)).alloc (.cells (Lib.setCells chars.data.toList) 219)) := Any.strings_IndexAny_long Tryz.lays153 hv116 (by kernel_rfl) s chars w h2 h8 hs hcs hascii
open Go.RowKit Go.Lib in
open Go.RowKit Go.Lib in
open Go.RowKit Go.Lib in
open Go.RowKit Go.Lib in
open Go.RowKit Go.Lib in
open Go.RowKit Go.Lib in
open Go.RowKit Go.Lib in
def Tryz.lays105_ren : Go.Shelf.Ren := ⟨fun | 105 => 300 | 212 => 163 | 99 => 136 | 165 => 126 | 166 => 127 | 170 => 310 | 169 => 128 | 263 => 230 | 264 => 231 | 206 => 196 | 240 => 190 | 241 => 191 | 276 => 244 | 277 => 245 | n => n, fun | 9 => 9 | 3 => 3 | 4 => 4 | 20 => 20 | 0 => 0 | 46 => 199 | 109 => 203 | 5 => 5 | 72 => 167 | 76 => 171 | 51 => 264 | 146 => 268 | 53 => 266 | 148 => 270 | 70 => 165 | 37 => 39 | 75 => 170 | 127 => 237 | 164 => 287 | 80 => 53 | n => n, fun | n => n⟩
theorem Tryz.lays105 : Go.Proofs.Lays.n105 prog Tryz.lays105_ren := {
 mixed := by kernel_rfl
 f99 := Tryz.func136.trans (congrArg some (by kernel_rfl))
 f105 := Tryz.func300.trans (congrArg some (by kernel_rfl))
 f165 := Tryz.func126.trans (congrArg some (by kernel_rfl))
 f166 := Tryz.func127.trans (congrArg some (by kernel_rfl))
 f169 := Tryz.func128.trans (congrArg some (by kernel_rfl))
 f170 := Tryz.func310.trans (congrArg some (by kernel_rfl))
 f206 := Tryz.func196.trans (congrArg some (by kernel_rfl))
 f212 := Tryz.func163.trans (congrArg some (by kernel_rfl))
 f240 := Tryz.func190.trans (congrArg some (by kernel_rfl))
 f241 := Tryz.func191.trans (congrArg some (by kernel_rfl))
 f263 := Tryz.func230.trans (congrArg some (by kernel_rfl))
 f264 := Tryz.func231.trans (congrArg some (by kernel_rfl))
 f276 := Tryz.func244.trans (congrArg some (by kernel_rfl))
 f277 := Tryz.func245.trans (congrArg some (by kernel_rfl))
 t0 := Tryz.underlying0
 a0 := Tryz.isAgg0
 z0 := Tryz.sizeOf0
 v0 := Tryz.zeroValue0
 t3 := Tryz.underlying3
 a3 := Tryz.isAgg3
 z3 := Tryz.sizeOf3
 v3 := Tryz.zeroValue3
 t4 := Tryz.underlying4
 a4 := Tryz.isAgg4
 z4 := Tryz.sizeOf4
 v4 := Tryz.zeroValue4
 t5 := Tryz.underlying5
 a5 := Tryz.isAgg5
 z5 := Tryz.sizeOf5
 v5 := Tryz.zeroValue5
 t9 := Tryz.underlying9
 a9 := Tryz.isAgg9
 z9 := Tryz.sizeOf9
 v9 := Tryz.zeroValue9
 t20 := Tryz.underlying20
 a20 := Tryz.isAgg20
 z20 := Tryz.sizeOf20
 v20 := Tryz.zeroValue20
 t37 := Tryz.underlying39
 a37 := Tryz.isAgg39
 z37 := Tryz.sizeOf39
 v37 := Tryz.zeroValue39
 t46 := Tryz.underlying199
 a46 := Tryz.isAgg199
 z46 := Tryz.sizeOf199
 v46 := Tryz.zeroValue199
 t51 := Tryz.underlying264
 a51 := Tryz.isAgg264
 z51 := Tryz.sizeOf264
 v51 := Tryz.zeroValue264
 t53 := Tryz.underlying266
 a53 := Tryz.isAgg266
 z53 := Tryz.sizeOf266
 v53 := Tryz.zeroValue266
 t70 := Tryz.underlying165
 a70 := Tryz.isAgg165
 z70 := Tryz.sizeOf165
 v70 := Tryz.zeroValue165
 t72 := Tryz.underlying167
 a72 := Tryz.isAgg167
 z72 := Tryz.sizeOf167
 v72 := Tryz.zeroValue167
 t75 := Tryz.underlying170
 a75 := Tryz.isAgg170
 z75 := Tryz.sizeOf170
 v75 := Tryz.zeroValue170
 t76 := Tryz.underlying171
 a76 := Tryz.isAgg171
 z76 := Tryz.sizeOf171
 v76 := Tryz.zeroValue171
 t109 := Tryz.underlying203
 a109 := Tryz.isAgg203
 z109 := Tryz.sizeOf203
 v109 := Tryz.zeroValue203
 t127 := Tryz.underlying237
 a127 := Tryz.isAgg237
 z127 := Tryz.sizeOf237
 v127 := Tryz.zeroValue237
 t146 := Tryz.underlying268
 a146 := Tryz.isAgg268
 z146 := Tryz.sizeOf268
 v146 := Tryz.zeroValue268
 t148 := Tryz.underlying270
 a148 := Tryz.isAgg270
 z148 := Tryz.sizeOf270
 v148 := Tryz.zeroValue270
 t164 := Tryz.underlying287
 a164 := Tryz.isAgg287
 z164 := Tryz.sizeOf287
 v164 := Tryz.zeroValue287 }
theorem Tryz.Builder_Extra_105 : Builder.Extra prog Tryz.lays105_ren := {
 sizeBuilder := by kernel_rfl
 liesBuilder := by kernel_rfl
 t5 := Tryz.underlying5
 a5 := Tryz.isAgg5
 z5 := Tryz.sizeOf5
 v5 := Tryz.zeroValue5
 infoByte := by kernel_rfl
 cellsByte := by kernel_rfl
 sizeByte := by kernel_rfl
 neB5 := by decide }
open Go.RowKit Go.Lib in
open Go.RowKit Go.Lib in
open Go.RowKit Go.Lib in
open Go.RowKit Go.Lib in
open Go.RowKit Go.Lib in
theorem Tryz.strings_Repeat (s : ByteArray) (c : Nat) (w : World) (hc : c <= 9223372036854775807) (hlen : s.size * c <= 140737488355328) :
   Calls prog 300 #[.string s, .int .i64 c] w fun e w' => e = .returned (.string ⟨(Lib.repeatL s.data.toList c).toArray⟩) /\ Below w.heap.size w w' := Any.strings_Repeat Tryz.lays105 Tryz.Builder_Extra_105 s c w hc hlen
open Go.RowKit Go.Lib in
open Go.RowKit Go.Lib in
open Go.RowKit Go.Lib in
open Go.RowKit Go.Lib Go.Sort in
open Go.RowKit Go.Lib Go.Sort in
open Go.RowKit Go.Lib Go.Sort in
open Go.RowKit Go.Lib Go.Sort in
open Go.RowKit in
theorem Tryz.strings_TrimLeft_laid (s cutset : ByteArray) (w : World) (hcs : cutset.size < 4294967281) (hascii : ∀ (j : Nat) b, cutset.data.toList[j]? = some b -> b.toNat < 128) :
   Calls prog 298 #[.string s, .string cutset] w fun e w' => e = .returned (.string ⟨(Lib.trimLeftS s.data.toList cutset.data.toList).toArray⟩) /\ Below w.heap.size w w' :=
 Any.strings_TrimLeft_laid Tryz.lays161 (by kernel_rfl) s cutset w hcs hascii
open Go.RowKit in
theorem Tryz.strings_Trim_laid (s cutset : ByteArray) (w : World) (hs : s.size <= 9223372036854775807) (hcs : cutset.size < 4294967281) (hascii : ∀ (j : Nat) b, cutset.data.toList[j]? = some b -> b.toNat < 128) :
   Calls prog 105 #[.string s, .string cutset] w fun e w' => e = .returned (.string ⟨(Lib.trimS s.data.toList cutset.data.toList).toArray⟩) /\ Below w.heap.size w w' :=
 Any.strings_Trim_laid Tryz.lays160 (by kernel_rfl) s cutset w hs hcs hascii
end Go.Proofs
namespace Go.Pk
def qkj (n : Int) : Prop := n = 9 \/ (32 <= n /\ n <= 47) \/ (59 <= n /\ n <= 64) \/ (91 <= n /\ n <= 96) \/ (123 <= n /\ n <= 126)
instance (n : Int) : Decidable (qkj n) := by unfold qkj; infer_instance
end Go.Pk
namespace Go.Proofs.YtndbpedpdbjkpaaGreatDoor
open Go.Pk
open Go.RowKit (Below)
theorem qnD (n : Int) (w : World) : Calls prog qgP #[.int .u8 n] w (Ret fun v w' => v = .bool (decide (qkj n)) /\ w' = w) := by
 apply qmk
 unfold qjr
 repeat' (refine BCase.of (fun h => ?_) (fun h => ?_))
 all_goals
   refine ⟨?_, rfl⟩
   congr 1
   rw [Bool.eq_iff_iff]
   simp only [dTx]
   simp only [qkj, beq_iff_eq, beq_eq_false_iff_ne, ge_iff_le, dTx, dFx, true_iff, false_iff, iff_true, reduceCtorEq, Bool.false_eq_true] at *
   omega
theorem qmA (n : Int) (w : World) : Calls prog qfp #[.int .u8 n] w (Ret fun v w' => v = .bool (decide (qkj n)) /\ w' = w) := by
 apply qld
 unfold qhG
 repeat' (refine BCase.of (fun h => ?_) (fun h => ?_))
 all_goals
   refine ⟨?_, rfl⟩
   congr 1
   rw [Bool.eq_iff_iff]
   simp only [dTx]
   simp only [qkj, beq_iff_eq, beq_eq_false_iff_ne, ge_iff_le, dTx, dFx, true_iff, false_iff, iff_true, reduceCtorEq, Bool.false_eq_true] at *
   omega
end Go.Proofs.YtndbpedpdbjkpaaGreatDoor
namespace Go.Pk
def j9 (c : UInt8) : Bool := decide (48 <= c) && decide (c <= 57)
def digP (s : List UInt8) : List UInt8 := s.takeWhile j9
def decV (l : List UInt8) : Int := l.foldl (fun n c => n * 10 + ((c.toNat : Int) - 48)) 0
theorem qqd : ∀ n, n < 256 -> ([48, 49, 50, 51, 52, 53, 54, 55, 56, 57] : List UInt8).contains (UInt8.ofNat n) = j9 (UInt8.ofNat n) := by decide +kernel
theorem qsg (c : UInt8) : ([48, 49, 50, 51, 52, 53, 54, 55, 56, 57] : List UInt8).contains c = j9 c := by
 have := qqd c.toNat (by have := c.toNat_lt; omega)
 rwa [UInt8.ofNat_toNat] at this
theorem qsW (s : List UInt8) : Lib.trimLeftS s [48, 49, 50, 51, 52, 53, 54, 55, 56, 57] = s.dropWhile j9 := by
 unfold Lib.trimLeftS
 congr 1
 funext c
 exact qsg c
theorem qoR (s : List UInt8) : digP s ++ s.dropWhile j9 = s := List.takeWhile_append_dropWhile
theorem quf (s : List UInt8) : (s.dropWhile j9).length + (digP s).length = s.length := by
 have := congrArg List.length (qoR s)
 rw [List.length_append] at this; omega
theorem dig_take (s : List UInt8) : s.take (digP s).length = digP s := by
 have h : (digP s ++ s.dropWhile j9).take (digP s).length = digP s := List.take_left' rfl
 rwa [qoR] at h
theorem digP_all {s : List UInt8} : ∀ c ∈ digP s, j9 c = true := fun c hc => List.all_eq_true.1 (List.all_takeWhile (p := j9) (l := s)) c hc
theorem qcf {c : UInt8} : j9 c = true ↔ 48 <= c.toNat /\ c.toNat <= 57 := by
 unfold j9
 rw [Bool.and_eq_true, dTx, dTx, UInt8.le_iff_toNat_le, UInt8.le_iff_toNat_le]
 exact Iff.rfl
theorem qqe : ∀ (l : List UInt8) (acc : Nat), (∀ c ∈ l, j9 c = true) -> ∃ n : Nat, Lib.decFrom acc l = some n /\ (n : Int) = l.foldl (fun n c => n * 10 + ((c.toNat : Int) - 48)) (acc : Int)
 | [], acc, _ => ⟨acc, rfl, rfl⟩
 | c :: l, acc, h => by
   have hc := qcf.1 (h c List.mem_cons_self)
   obtain ⟨n, h1, h2⟩ := qqe l (acc * 10 + (c.toNat - 48)) fun x hx => h x (List.mem_cons_of_mem _ hx)
   refine ⟨n, ?_, ?_⟩
   · unfold Lib.decFrom Lib.digitVal
     rw [if_pos hc]; exact h1
   · rw [h2, List.foldl_cons]
     congr 1
     omega
theorem qte {l : List UInt8} (hne : l ≠ []) (h : ∀ c ∈ l, j9 c = true) : Lib.atoi l = some (decV l) := by
 match l, hne with
 | c :: r, _ =>
   have hc := qcf.1 (h c List.mem_cons_self)
   unfold Lib.atoi
   have h1 : (c == 45) = false := by rw [beq_eq_false_iff_ne]; intro e; subst e; simp at hc
   have h2 : (c == 43) = false := by rw [beq_eq_false_iff_ne]; intro e; subst e; simp at hc
   obtain ⟨n, e1, e2⟩ := qqe (c :: r) 0 h
   simp only [h1, h2, Bool.false_eq_true, if_false]
   unfold Lib.decNat
   simp only [List.isEmpty_cons, Bool.false_eq_true, if_false, e1, Option.map_some]
   rw [e2]; rfl
end Go.Pk
namespace Go.Proofs.YtndbpedpdbjkpaaGreatDoor
open Go.Pk
open Go.RowKit (Below)
def numV (s : List UInt8) (least most : Int) : Value := if least <= ((digP s).length : Int) /\ ((digP s).length : Int) <= most then .tuple #[.int .i64 (decV (digP s)), .string (mkS (s.drop (digP s).length)), .bool true] else .tuple #[.int .i64 0, .string (mkS s), .bool false]
theorem qqa (w : World) (e : TypeId) (s : ByteArray) : Below w.heap.size w (Lib.bytesWorld w e s) := by
 unfold Lib.bytesWorld
 refine qcT rfl rfl rfl (by simp [World.freeze]) fun k hk => ?_
 simp only [World.freeze, if_neg (show ¬ (1 : Nat) = 0 by decide), Array.getElem?_modify]
 rw [if_neg (show ¬ w.heap.size = k by omega)]
 exact (Below.refl w.drew.heap.size w.drew |>.alloc (Nat.le_refl _) _).block k hk
theorem qeQ (s : List UInt8) (least most : Int) (h1 : 1 <= least) (h2 : most <= 18) (hs : s.length <= 9223372036854775807) (w : World) :
   Calls prog qcx #[.string (mkS s), .int .i64 least, .int .i64 most] w (Ret fun v w' => v = numV s least most /\ Below w.heap.size w w') := by
 apply qkX
 unfold qhv
 refine (Tryz.strings_TrimLeft_laid (mkS s) (mkS [48, 49, 50, 51, 52, 53, 54, 55, 56, 57]) w (by decide) (ascii_of_all (by decide))).mono ?_
 rintro _ w1 ⟨rfl, hb1⟩
 have e : (mkS s).data.toList = s := rfl
 have e2 : (mkS [48, 49, 50, 51, 52, 53, 54, 55, 56, 57]).data.toList = [48, 49, 50, 51, 52, 53, 54, 55, 56, 57] := rfl
 rw [e, e2, qsW]
 refine ⟨s.dropWhile j9, rfl, ?_⟩
 have hl := quf s
 have ew : i64.wrap ((s.length : Int) - ((s.dropWhile j9).length : Int)) = ((digP s).length : Int) := by rw [wrap_i64 (by omega) (by omega)]; omega
 rw [ew]
 refine ⟨fun w' => w' = w1 /\ least <= ((digP s).length : Int) /\ ((digP s).length : Int) <= most, ?_, ?_⟩
 · refine BCase.of (fun h => ?_) (fun h => ?_) <;> simp only [dTx, dFx] at h
   · exact ⟨by unfold numV; rw [if_neg (by omega)], hb1⟩
   · refine BCase.of (fun h3 => ?_) (fun h3 => ?_) <;> simp only [gt_iff_lt, dTx, dFx] at h3
     · exact ⟨by unfold numV; rw [if_neg (by omega)], hb1⟩
     · exact ⟨rfl, by omega, by omega⟩
 · refine AllJ.of ?_ _
   rintro w1 ⟨rfl, h3, h4⟩
   refine ⟨⟨by omega, by omega⟩, ?_⟩
   rintro _ rfl
   simp only [Int.toNat_natCast]
   rw [dig_take]
   have hne : digP s ≠ [] := fun e => by rw [e] at h3; simp at h3; omega
   refine (Tryz.strconv_Atoi (mkS (digP s)) (decV (digP s)) (by show (digP s).length <= 18; omega) (qte hne digP_all) w1).mono ?_
   rintro _ _ ⟨rfl, t, rfl⟩
   refine ⟨_, _, rfl, ⟨by omega, by omega⟩, ?_⟩
   rintro _ rfl wq hq
   have hb2 := qqa w1 5 t
   refine ⟨by unfold numV; rw [if_pos ⟨h3, h4⟩], qb (qb hb1 hb2 hb1.size) hq (qb hb1 hb2 hb1.size).size⟩
end Go.Proofs.YtndbpedpdbjkpaaGreatDoor
namespace Go.Pk
def qp1 : List UInt8 := [74, 97, 110, 70, 101, 98, 77, 97, 114, 65, 112, 114, 77, 97, 121, 74, 117, 110, 74, 117, 108, 65, 117, 103, 83, 101, 112, 79, 99, 116, 78, 111, 118, 68, 101, 99]
def qnX (k : Nat) : List UInt8 := lowL ((qp1.take (3 * k + 3)).drop (3 * k))
def qbq (s : List UInt8) : Nat -> Nat -> Int
 | 0, _ => 0
 | f + 1, k => if 3 <= s.length /\ lowL (s.take 3) = qnX k then (k : Int) + 1 else qbq s f (k + 1)
def qcv (s : List UInt8) : Int := qbq s 12 0
theorem monthFrom_short {s : List UInt8} (h : ¬ 3 <= s.length) : ∀ f k, qbq s f k = 0
 | 0, _ => rfl
 | f + 1, k => by unfold qbq; rw [if_neg (fun e => h e.1)]; exact monthFrom_short h f (k + 1)
end Go.Pk
namespace Go.Proofs.YtndbpedpdbjkpaaGreatDoor
open Go.Pk
open Go.RowKit (Below)
theorem qoc (s : List UInt8) (hs : s.length <= 9223372036854775800) (w : World) : Calls prog qgo #[.string (mkS s)] w (Ret fun v w' => v = .int .i64 (qcv s) /\ Below w.heap.size w w') := by
 apply qm0
 unfold qix
 refine ⟨fun m i w' => ∃ k : Nat, k <= 12 /\ i = (k : Int) /\ m = 12 - k /\ qcv s = qbq s (12 - k) k /\ Below w.heap.size w w', ⟨_, 0, by omega, rfl, rfl, rfl, Below.refl _ _⟩, ?_⟩
 intro m i
 refine AllJ.of ?_ _
 rintro w1 ⟨k, hk, rfl, rfl, hv, hb⟩
 refine ⟨fun w' => w' = w1 /\ k < 12 /\ 3 <= s.length, ?_, ?_⟩
 · refine BCase.of (fun h => ?_) (fun h => ?_) <;> simp only [dTx, dFx] at h
   · refine BCase.of (fun h2 => ?_) (fun h2 => ?_) <;> simp only [ge_iff_le, dTx, dFx] at h2
     · exact ⟨rfl, by omega, by omega⟩
     · exact ⟨by rw [hv, monthFrom_short (by omega)], hb⟩
   · have : k = 12 := by omega
     subst this
     exact ⟨by rw [hv]; rfl, hb⟩
 · refine AllJ.of ?_ _
   rintro w1 ⟨rfl, h1, h2⟩
   rw [wrap_i64 (n := 3 * (k : Int)) (by omega) (by omega), wrap_i64 (n := 3 * (k : Int) + 3) (by omega) (by omega)]
   refine ⟨⟨by omega, by omega⟩, ?_⟩
   rintro _ rfl
   refine ⟨⟨⟨by omega, by simp; omega⟩, by omega, by omega⟩, ?_⟩
   rintro _ rfl
   have e1 : Int.toNat (3 * (k : Int)) = 3 * k := by omega
   have e2 : Int.toNat (3 * (k : Int) + 3) = 3 * k + 3 := by omega
   have e3 : Int.toNat (3 : Int) = 3 := rfl
   rw [e1, e2, e3]
   refine ⟨lowL (s.take 3) == qnX k, fun u hu => ?_, ?_⟩
   · refine (qjj (s.take 3) ((qp1.take (3 * k + 3)).drop (3 * k)) (by simp; omega) (by simp [qp1]; omega) u).mono ?_
     rintro _ w2 ⟨_, rfl, rfl, hb2⟩
     exact ⟨rfl, hb2.mono hu.size⟩
   · intro wq hq
     have ef : 12 - k = (12 - (k + 1)) + 1 := by omega
     rw [ef] at hv
     unfold qbq at hv
     have ew : i64.wrap ((k : Int) + 1) = (k : Int) + 1 := by rw [wrap_i64 (by omega) (by omega)]
     refine BCase.of (fun h => ?_) (fun h => ?_)
     · rw [beq_iff_eq] at h
       rw [if_pos ⟨h2, h⟩] at hv
       exact ⟨by rw [ew, hv], qb hb hq hb.size⟩
     · rw [beq_eq_false_iff_ne] at h
       rw [if_neg (fun e => h e.2)] at hv
       exact ⟨12 - (k + 1), by omega, k + 1, by omega, by rw [ew]; omega, rfl, hv, qb hb hq hb.size⟩
end Go.Proofs.YtndbpedpdbjkpaaGreatDoor
namespace Go.Pk
def colon (i : Nat) (s : List UInt8) : Option (List UInt8) := if i = 0 then some s else if s.head? = some 58 then some (s.drop 1) else none
def qkt (i : Nat) (s : List UInt8) : Option (Int × List UInt8) := (colon i s).bind fun t => if 1 <= (digP t).length /\ (digP t).length <= 2 then some (decV (digP t), t.drop (digP t).length) else none
def jl : Nat -> Nat -> List UInt8 -> Option (List Int)
 | 0, _, _ => some []
 | f + 1, i, s => (qkt i s).bind fun p => (jl f (i + 1) p.2).map (p.1 :: ·)
def qa7 (s : List UInt8) : Option (List Int) := jl 3 0 s
theorem qsC (s : List UInt8) : Lib.hasPrefix s [58] = decide (s.head? = some 58) /\ (s.head? = some 58 -> Lib.trimPrefix s [58] = s.drop 1) := by
 cases s with
 | nil => exact ⟨by decide, fun h => by cases h⟩
 | cons c s =>
   have ht : Lib.hasPrefix (58 :: s) [58] = true := rfl
   by_cases h : c = 58
   · subst h
     refine ⟨by rw [ht]; simp, fun _ => ?_⟩
     unfold Lib.trimPrefix; rw [ht]; rfl
   · have hf : Lib.hasPrefix (c :: s) [58] = false := by
       show ((58 == c) && _) = false
       rw [beq_eq_false_iff_ne.2 (Ne.symm h)]; rfl
     refine ⟨by rw [hf]; simp [h], fun e => absurd (by simpa using e) h⟩
end Go.Pk
namespace Go.Proofs.YtndbpedpdbjkpaaGreatDoor
open Go.Pk
open Go.RowKit (Below)
theorem qn2 (l : List Int) : ∀ c ∈ (Value.agg (l.map fun n => Value.int .i64 n).toArray).cells.toList, c.oneCell' = true := by
 intro c hc
 obtain ⟨n, _, rfl⟩ : ∃ n, n ∈ l /\ Value.int .i64 n = c := by simpa [Value.cells] using hc
 rfl
theorem qpk (s : List UInt8) (w : World) : Calls prog jj #[.string (mkS s), .string (mkS [58])] w (Ret fun v w' => v = .tuple #[.string (mkS (if s.head? = some 58 then s.drop 1 else s)), .bool (decide (s.head? = some 58))] /\ w' = w) := by
 refine (Tryz.strings_CutPrefix (mkS s) (mkS [58]) w).mono ?_
 rintro _ _ ⟨rfl, rfl⟩
 refine ⟨_, rfl, ?_, rfl⟩
 have h := qsC s
 have e : (mkS s).data.toList = s := rfl
 have e2 : (mkS [58]).data.toList = [58] := rfl
 rw [e, e2, h.1]
 by_cases hc : s.head? = some 58
 · rw [if_pos hc, h.2 hc]; rfl
 · rw [if_neg hc]
   have : Lib.trimPrefix s [58] = s := by unfold Lib.trimPrefix; rw [if_neg (by rw [h.1]; simpa using hc)]
   rw [this]; rfl
def arrV (l : List Int) : List Value := l.map fun n => Value.int .i64 n
def qmh (s : List UInt8) (w : World) (v : Value) (w' : World) : Prop :=
 (∃ a b c b', v = .tuple #[.agg #[.int .i64 a, .int .i64 b, .int .i64 c], .bool b'] /\ (qa7 s = none /\ b' = false \/ qa7 s = some [a, b, c] /\ b' = true)) /\ Below w.heap.size w w'
end Go.Proofs.YtndbpedpdbjkpaaGreatDoor
namespace Go.Proofs.YtndbpedpdbjkpaaGreatDoor
open Go.Pk
open Go.RowKit (Below)
theorem three {α : Type} {l : List α} (h : l.length = 3) : ∃ a b c, l = [a, b, c] := by
 match l, h with
 | [a, b, c], _ => exact ⟨a, b, c, rfl⟩
theorem qpr {w w' : World} {k2 k4 : Nat} {out us : List Int} {K : Value -> World -> Prop} {bo : Bool} (h2 : qm w' k2 qQ (arrV us)) (h4 : qm w' k4 qQ (arrV out)) (hl : out.length = 3) (hu : us.length = 3)
   (hb : Below w.heap.size w w') (hk2 : w.heap.size <= k2)
   (hK : ∀ a b c wx, out = [a, b, c] -> Below w.heap.size w wx -> K (.tuple #[.agg #[.int .i64 a, .int .i64 b, .int .i64 c], .bool bo]) wx) :
   ∃ (n0 : Int) (n1 : Int) (n2 : Int), (Instr.loadAt qQ (.pointer (some ⟨k4, 0, none⟩))).run prog w' = .ok (.agg #[.int .i64 n0, .int .i64 n1, .int .i64 n2]) w' /\
     ∃ (wx : World), (Instr.storeAt qQ (.pointer (some ⟨k2, 0, none⟩)) (.agg #[.int .i64 n0, .int .i64 n1, .int .i64 n2])).run prog w' = .ok () wx /\
     ∃ (r0 : Int) (r1 : Int) (r2 : Int), (qC qQ (.pointer (some ⟨k2, 0, none⟩))).run prog wx = .ok (.agg #[.int .i64 r0, .int .i64 r1, .int .i64 r2]) wx /\
     K (.tuple #[.agg #[.int .i64 r0, .int .i64 r1, .int .i64 r2], .bool bo]) wx := by
 obtain ⟨a, b, c, rfl⟩ := three hl
 obtain ⟨d, e, f, rfl⟩ := three hu
 obtain ⟨ti, hti, hsz, _, _⟩ := qd2.info
 refine ⟨a, b, c, h4.loadA qh2 rfl hti (us := arrV [a, b, c]) (i := 0) (by rw [hsz]; rfl) (fun j hj => by rw [Nat.zero_add]), ?_⟩
 obtain ⟨wx, hs, h2', hg⟩ := h2.store (P := prog) qd2 (i := 0) (v := .agg #[.int .i64 a, .int .i64 b, .int .i64 c]) rfl (by simp [arrV]) (qn2 [a, b, c])
 refine ⟨wx, hs, a, b, c, ?_, hK a b c wx rfl (hb.grown hg hb.size (fun x e => by cases e; exact hk2))⟩
 exact qm.res (qm.loadA qh2 rfl hti h2' (us := arrV [a, b, c]) (i := 0) (by rw [hsz]; rfl) (fun j hj => by simp [arrV, Value.cells]))
theorem qkS (n : Int) : ∀ c ∈ (Value.int .i64 n).cells.toList, c.oneCell' = true := by
 intro c hc
 have : c = .int .i64 n := by simpa [Value.cells] using hc
 subst this; rfl
theorem qnZ (s : List UInt8) (hs : s.length <= 9223372036854775000) (w : World) : Calls prog qgI #[.string (mkS s)] w (Ret (qmh s w)) := by
 apply qmr
 unfold qi6
 intro k2 w2 hk2 hw2 k4 w4 hk4 hw4
 have hB2 : Below w.heap.size w w2 := hw2 ▸ qf _ _
 have hB4 : Below w2.heap.size w2 w4 := hw4 ▸ qf _ _
 have hBB : Below w.heap.size w w4 := qb hB2 hB4 hB2.size
 have ha2 : qm w4 k2 qQ (arrV [0, 0, 0]) := (qm.new (vs := arrV [0, 0, 0]) hk2 hw2).below hB4
 have ha4 : qm w4 k4 qQ (arrV [0, 0, 0]) := qm.new hk4 hw4
 have hs2 : w2.heap.size = w.heap.size + 1 := by rw [hw2]; simp
 have hne : k2 ≠ k4 := by omega
 have hge2 : w.heap.size <= k2 := by omega
 have hge4 : w.heap.size <= k4 := by omega
 refine ⟨fun m t i w' => ∃ (k : Nat) (out : List Int), k <= 3 /\ i = (k : Int) /\ m = 3 - k /\ out.length = 3 /\ t.length <= s.length /\ qa7 s = (jl (3 - k) k t).map (out.take k ++ ·) /\
     qm w' k2 qQ (arrV [0, 0, 0]) /\ qm w' k4 qQ (arrV out) /\ Below w.heap.size w w',
   ⟨_, 0, [0, 0, 0], by omega, rfl, rfl, rfl, Nat.le_refl _, by unfold qa7; cases jl 3 0 s <;> rfl, ha2, ha4, hBB⟩, ?_⟩
 intro m t i
 refine AllJ.of ?_ _
 rintro w1 ⟨k, out, hk, rfl, rfl, hlen, htl, hv, h2, h4, hb⟩
 refine BCase.of (fun h => ?_) (fun h => ?_) <;> simp only [dTx, dFx] at h
 · have ef : 3 - k = (3 - (k + 1)) + 1 := by omega
   rw [ef] at hv
   unfold jl at hv
   have bad : ∀ {w' : World}, qkt k t = none -> qm w' k2 qQ (arrV [0, 0, 0]) -> qm w' k4 qQ (arrV out) -> Below w.heap.size w w' -> _ := fun {w'} he h2 h4 hb =>
     qpr (K := qmh s w) (bo := false) h2 h4 hlen rfl hb hge2 (fun a b c wx _ hbx => ⟨⟨a, b, c, false, rfl, .inl ⟨by rw [hv, he]; rfl, rfl⟩⟩, hbx⟩)
   refine ⟨fun u w' => w' = w1 /\ colon k t = some u /\ u.length <= s.length, ?_, ?_⟩
   · refine BCase.of (fun h5 => ?_) (fun h5 => ?_) <;> simp only [gt_iff_lt, dTx, dFx] at h5
     · refine callK (qpk t w1) ?_
       rintro _ w1 ⟨rfl, rfl⟩
       refine ⟨_, _, rfl, ?_⟩
       refine BCase.of (fun h6 => ?_) (fun h6 => ?_) <;> simp only [Bool.not_eq_true', Bool.not_eq_false', dTx, dFx] at h6
       · exact bad (by unfold qkt colon; rw [if_neg (by omega), if_neg h6]; rfl) h2 h4 hb
       · exact ⟨rfl, by unfold colon; rw [if_neg (by omega), if_pos h6, if_pos h6], by rw [if_pos h6]; simp; omega⟩
     · exact ⟨rfl, by unfold colon; rw [if_pos (by omega)], htl⟩
   · intro u
     refine AllJ.of ?_ _
     rintro w1 ⟨rfl, hc, hul⟩
     have hst : qkt k t = if 1 <= (digP u).length /\ (digP u).length <= 2 then some (decV (digP u), u.drop (digP u).length) else none := by unfold qkt; rw [hc]; rfl
     refine callK (qeQ u 1 2 (by omega) (by omega) (by omega) w1) ?_
     rintro _ w5 ⟨rfl, hb5⟩
     have h2' := h2.below hb5
     have h4' := h4.below hb5
     have hb' := qb hb hb5 hb.size
     unfold numV
     by_cases hd : 1 <= (digP u).length /\ (digP u).length <= 2
     · rw [if_pos (by omega)]
       rw [if_pos hd] at hst
       refine ⟨_, _, _, rfl, BCase.no rfl ?_⟩
       refine ⟨⟨⟨by omega, by omega⟩, rfl⟩, ?_⟩
       rw [qdA, Nat.zero_add, Nat.mul_one, Int.toNat_natCast]
       obtain ⟨w6, hs6, h6, hg6⟩ := h4'.store (P := prog) (n := 1) (bytes := 8) (z := .int .i64 0) qbr (i := k) (v := .int .i64 (decV (digP u))) rfl (by simp [arrV, hlen]; omega) (qkS _)
       refine ⟨w6, hs6, 3 - (k + 1), by omega, k + 1, out.set k (decV (digP u)), by omega, ?_, rfl, by simpa using hlen, by simp; omega, ?_, h2'.grown hg6 (fun e => hne (Option.some.inj e)), ?_, hb'.grown hg6 hb'.size (fun x e => by cases e; exact hge4)⟩
       · rw [wrap_i64 (by omega) (by omega)]; omega
       · rw [hv, hst]
         have e1 : (out.set k (decV (digP u))).take (k + 1) = out.take k ++ [decV (digP u)] := by
           rw [List.take_succ_eq_append_getElem (by simp; omega), List.getElem_set_self, List.take_set_of_le (Nat.le_refl _)]
         rw [e1]
         show ((jl (3 - (k + 1)) (k + 1) (u.drop (digP u).length)).map _).map _ = _
         rw [Option.map_map]
         congr 1
         funext x
         simp
       · have e2 : arrV (out.set k (decV (digP u))) = (arrV out).take k ++ [Value.int .i64 (decV (digP u))] ++ (arrV out).drop (k + 1) := by
           unfold arrV
           rw [List.map_set, List.set_eq_take_append_cons_drop, if_pos (by simp; omega)]
           simp
         rw [e2]; exact h6
     · rw [if_neg (by omega)]
       rw [if_neg hd] at hst
       refine ⟨_, _, _, rfl, BCase.yes rfl ?_⟩
       exact bad hst h2' h4' hb'
 · have : k = 3 := by omega
   subst this
   exact qpr (K := qmh s w) (bo := true) h2 h4 hlen rfl hb hge2 (fun a b c wx e hbx => ⟨⟨a, b, c, true, rfl, .inr ⟨by rw [hv, e]; rfl, rfl⟩⟩, hbx⟩)
end Go.Proofs.YtndbpedpdbjkpaaGreatDoor
namespace Go.Pk
open Go.RowKit (Below)
structure Fnd where
 time : Bool
 day : Bool
 month : Bool
 year : Bool
 s0 : Int
 s1 : Int
 s2 : Int
 y : Int
 m : Int
 d : Int
def Fnd.cells (f : Fnd) : List Value := [.bool f.time, .bool f.day, .bool f.month, .bool f.year, .int .i64 f.s0, .int .i64 f.s1, .int .i64 f.s2, .int .i64 f.y, .int .i64 f.m, .int .i64 f.d]
def qbG (s : List UInt8) (least most : Int) : Bool := decide (least <= ((digP s).length : Int) /\ ((digP s).length : Int) <= most)
def tokV (f : Fnd) (s : List UInt8) : Fnd :=
 match qa7 s, f.time with
 | some [a, b, c], false => { f with s0 := a, s1 := b, s2 := c, time := true }
 | _, _ => if qbG s 1 2 = true /\ f.day = false then { f with d := decV (digP s), day := true }
   else if 0 < qcv s /\ f.month = false then { f with m := qcv s, month := true }
   else if qbG s 2 4 = true /\ f.year = false then { f with y := decV (digP s), year := true } else f
theorem qq1 (w : World) (r : Option Nat) : w.grownBy w r := ⟨rfl, rfl, rfl, Nat.le_refl _, fun _ _ _ => rfl⟩
theorem zf {a b c : World} {r : Option Nat} (h : a.grownBy b r) (k : b.grownBy c r) : a.grownBy c r :=
 ⟨k.os.trans h.os, k.tape.trans h.tape, k.output.trans h.output, Nat.le_trans h.size k.size, fun q hq hne => (k.block q (Nat.lt_of_lt_of_le hq h.size) hne).trans (h.block q hq hne)⟩
theorem jI {a b : World} (h : Below a.heap.size a b) (r : Option Nat) : a.grownBy b r := ⟨h.os, h.tape, h.output, h.size, fun q hq _ => h.block q hq⟩
end Go.Pk
namespace Go.Proofs.YtndbpedpdbjkpaaGreatDoor
open Go.Pk
open Go.RowKit (Below)
theorem qjG (k o : Nat) : Option.map (fun (x : Addr) => x.add o) (some ⟨k, 0, none⟩) = some ⟨k, o, none⟩ := by
 simp [jZ]
theorem qkL (b : Bool) : ∀ c ∈ (Value.bool b).cells.toList, c.oneCell' = true := by
 intro c hc
 have : c = .bool b := by simpa [Value.cells] using hc
 subst this; rfl
def quk (k : Nat) (f : Fnd) (s : List UInt8) (w : World) (v : Value) (w' : World) : Prop := v = .tuple #[] /\ qm w' k jx (tokV f s).cells /\ w.grownBy w' (some k)
theorem qrU {s : List UInt8} {l m : Int} (h : qbG s l m = true) : numV s l m = .tuple #[.int .i64 (decV (digP s)), .string (mkS (s.drop (digP s).length)), .bool true] := by
 unfold qbG at h; unfold numV; rw [if_pos (by simpa using h)]
theorem qqE {s : List UInt8} {l m : Int} (h : qbG s l m = false) : numV s l m = .tuple #[.int .i64 0, .string (mkS s), .bool false] := by
 unfold qbG at h; unfold numV; rw [if_neg (by simpa using h)]
end Go.Proofs.YtndbpedpdbjkpaaGreatDoor
namespace Go.Proofs.YtndbpedpdbjkpaaGreatDoor
open Go.Pk
open Go.RowKit (Below)
theorem qoQ {f : Fnd} {s : List UInt8} {a b c : Int} (h : qa7 s = some [a, b, c]) (ht : f.time = false) : tokV f s = { f with s0 := a, s1 := b, s2 := c, time := true } := by
 unfold tokV; rw [h, ht]
theorem qo2 {f : Fnd} {s : List UInt8} (h : qa7 s = none \/ f.time = true) : tokV f s = if qbG s 1 2 = true /\ f.day = false then { f with d := decV (digP s), day := true }
   else if 0 < qcv s /\ f.month = false then { f with m := qcv s, month := true }
   else if qbG s 2 4 = true /\ f.year = false then { f with y := decV (digP s), year := true } else f := by
 unfold tokV
 rcases h with h | h
 · rw [h]
 · rw [h]
   split
   · rename_i h1 h2; cases h2
   · rfl
theorem date_token_ok (k : Nat) (f : Fnd) (s : List UInt8) (hs : s.length <= 9223372036854775000) (w : World) (hf : qm w k jx f.cells) :
   Calls prog qcA #[.pointer (some ⟨k, 0, none⟩), .string (mkS s)] w (Ret (quk k f s w)) := by
 apply qhb
 unfold qdX
 simp only [qjG]
 have h0 : Option.isSome (some (⟨k, 0, none⟩ : Addr)) = true := rfl
 obtain ⟨ti, hti, hsz, _, _⟩ := qd2.info
 refine ⟨fun w' => w.grownBy w' (some k) /\ qm w' k jx f.cells /\ (qa7 s = none \/ f.time = true), ?_, ?_⟩
 · refine callK (qnZ s hs w) ?_
   rintro _ w1 ⟨⟨a, b, c, bo, rfl, hcl⟩, hb1⟩
   refine ⟨a, b, c, bo, rfl, ?_⟩
   intro k4 w4 hk4 hw4
   have hB4 : Below w.heap.size w w4 := qb hb1 (hw4 ▸ qf _ _) hb1.size
   have h4 : qm w4 k4 qQ (arrV [0, 0, 0]) := qm.new hk4 hw4
   have hlt := hf.lt
   have hne : k4 ≠ k := by have := hb1.size; omega
   obtain ⟨w5, hs5, h5, hg5⟩ := h4.store (P := prog) qd2 (i := 0) (v := .agg #[.int .i64 a, .int .i64 b, .int .i64 c]) rfl (by simp [arrV]) (qn2 [a, b, c])
   have hB5 : Below w.heap.size w w5 := hB4.grown hg5 hB4.size (fun x e => by cases e; have := hb1.size; omega)
   have hf5 := hf.below hB5
   have h5' : qm w5 k4 qQ (arrV [a, b, c]) := by simpa [arrV, Value.cells] using h5
   refine ⟨w5, hs5, fun b' w' => w' = w5 /\ b' = (bo && !f.time), ?_, ?_⟩
   · refine BCase.of (fun h => ?_) (fun h => ?_)
     · refine ⟨h0, h0, f.time, hf5.load1 un_bool rfl rfl, rfl, by rw [h]; rfl⟩
     · exact ⟨rfl, by rw [h]; rfl⟩
   · intro b'
     refine AllJ.of ?_ _
     rintro w5 ⟨rfl, rfl⟩
     refine BCase.of (fun h => ?_) (fun h => ?_)
     · rw [Bool.and_eq_true, Bool.not_eq_true'] at h
       have hcl' : qa7 s = some [a, b, c] := by
         rcases hcl with ⟨_, e⟩ | ⟨e, _⟩
         · rw [e] at h; cases h.1
         · exact e
       refine ⟨a, b, c, h5'.loadA qh2 rfl hti (us := arrV [a, b, c]) (i := 0) (by rw [hsz]; rfl) (fun j hj => by rw [Nat.zero_add]), h0, h0, ?_⟩
       obtain ⟨w6, hs6, h6, hg6⟩ := hf5.store (P := prog) qd2 (i := 4) (v := .agg #[.int .i64 a, .int .i64 b, .int .i64 c]) rfl (by simp [Fnd.cells]) (qn2 [a, b, c])
       refine ⟨w6, hs6, h0, h0, ?_⟩
       obtain ⟨w7, hs7, h7, hg7⟩ := h6.store (P := prog) qca (i := 0) (v := .bool true) rfl (by simp [Fnd.cells, Value.cells]) (qkL true)
       refine ⟨w7, hs7, rfl, ?_, zf (zf (jI hB5 _) hg6) hg7⟩
       rw [qoQ hcl' h.2]
       simpa [Fnd.cells, Value.cells] using h7
     · refine ⟨jI hB5 _, hf5, ?_⟩
       rcases hcl with ⟨e, _⟩ | ⟨_, e⟩
       · exact .inl e
       · rw [e] at h; right; simpa using h
 · refine AllJ.of ?_ _
   rintro w1 ⟨hg1, hf1, hr1⟩
   have htok := qo2 hr1
   refine ⟨fun w' => w.grownBy w' (some k) /\ qm w' k jx f.cells /\ ¬ (qbG s 1 2 = true /\ f.day = false), ?_, ?_⟩
   · refine callK (qeQ s 1 2 (by omega) (by omega) (by omega) w1) ?_
     rintro _ w2 ⟨rfl, hb2⟩
     have hf2 := hf1.below hb2
     have hg2 := zf hg1 (jI hb2 (some k))
     have hnum : ∃ (n : Int) (r : List UInt8), numV s 1 2 = .tuple #[.int .i64 n, .string (mkS r), .bool (qbG s 1 2)] /\ (qbG s 1 2 = true -> n = decV (digP s)) := by
       cases hn : qbG s 1 2
       · exact ⟨_, _, qqE hn, fun e => by cases e⟩
       · exact ⟨_, _, qrU hn, fun _ => rfl⟩
     obtain ⟨n, r, hne, hnv⟩ := hnum
     refine ⟨n, r, qbG s 1 2, by rw [hne], fun b' w' => w' = w2 /\ b' = (qbG s 1 2 && !f.day), ?_, ?_⟩
     · refine BCase.of (fun h => ?_) (fun h => ?_)
       · exact ⟨h0, h0, f.day, hf2.load1 un_bool rfl rfl, rfl, by rw [h]; rfl⟩
       · exact ⟨rfl, by rw [h]; rfl⟩
     · intro b'
       refine AllJ.of ?_ _
       rintro w2 ⟨rfl, rfl⟩
       refine BCase.of (fun h => ?_) (fun h => ?_)
       · rw [Bool.and_eq_true, Bool.not_eq_true'] at h
         refine ⟨h0, h0, ?_⟩
         obtain ⟨w6, hs6, h6, hg6⟩ := hf2.store (P := prog) qbr (i := 9) (v := .int .i64 n) rfl (by simp [Fnd.cells]) (qkS n)
         refine ⟨w6, hs6, h0, h0, ?_⟩
         obtain ⟨w7, hs7, h7, hg7⟩ := h6.store (P := prog) qca (i := 1) (v := .bool true) rfl (by simp [Fnd.cells, Value.cells]) (qkL true)
         refine ⟨w7, hs7, rfl, ?_, zf (zf hg2 hg6) hg7⟩
         rw [htok, if_pos h, <- hnv h.1]
         simpa [Fnd.cells, Value.cells] using h7
       · refine ⟨hg2, hf2, fun hc => ?_⟩
         rw [hc.1, hc.2] at h; cases h
   · refine AllJ.of ?_ _
     rintro w2 ⟨hg2, hf2, hr2⟩
     rw [if_neg hr2] at htok
     refine ⟨fun w' => w.grownBy w' (some k) /\ qm w' k jx f.cells /\ ¬ (0 < qcv s /\ f.month = false), ?_, ?_⟩
     · refine callK (qoc s (by omega) w2) ?_
       rintro _ w3 ⟨rfl, hb3⟩
       have hf3 := hf2.below hb3
       have hg3 := zf hg2 (jI hb3 (some k))
       refine ⟨_, rfl, fun b' w' => w' = w3 /\ b' = (decide (0 < qcv s) && !f.month), ?_, ?_⟩
       · refine BCase.of (fun h => ?_) (fun h => ?_)
         · exact ⟨h0, h0, f.month, hf3.load1 un_bool rfl rfl, rfl, by rw [show decide (0 < qcv s) = true from h]; rfl⟩
         · exact ⟨rfl, by rw [show decide (0 < qcv s) = false from h]; rfl⟩
       · intro b'
         refine AllJ.of ?_ _
         rintro w3 ⟨rfl, rfl⟩
         refine BCase.of (fun h => ?_) (fun h => ?_)
         · rw [Bool.and_eq_true, Bool.not_eq_true', dTx] at h
           refine ⟨h0, h0, ?_⟩
           obtain ⟨w6, hs6, h6, hg6⟩ := hf3.store (P := prog) qbr (i := 8) (v := .int .i64 (qcv s)) rfl (by simp [Fnd.cells]) (qkS _)
           refine ⟨w6, hs6, h0, h0, ?_⟩
           obtain ⟨w7, hs7, h7, hg7⟩ := h6.store (P := prog) qca (i := 2) (v := .bool true) rfl (by simp [Fnd.cells, Value.cells]) (qkL true)
           refine ⟨w7, hs7, rfl, ?_, zf (zf hg3 hg6) hg7⟩
           rw [htok, if_pos h]
           simpa [Fnd.cells, Value.cells] using h7
         · refine ⟨hg3, hf3, fun hc => ?_⟩
           rw [decide_eq_true hc.1, hc.2] at h; cases h
     · refine AllJ.of ?_ _
       rintro w3 ⟨hg3, hf3, hr3⟩
       rw [if_neg hr3] at htok
       refine callK (qeQ s 2 4 (by omega) (by omega) (by omega) w3) ?_
       rintro _ w4 ⟨rfl, hb4⟩
       have hf4 := hf3.below hb4
       have hg4 := zf hg3 (jI hb4 (some k))
       have hnum : ∃ (n : Int) (r : List UInt8), numV s 2 4 = .tuple #[.int .i64 n, .string (mkS r), .bool (qbG s 2 4)] /\ (qbG s 2 4 = true -> n = decV (digP s)) := by
         cases hn : qbG s 2 4
         · exact ⟨_, _, qqE hn, fun e => by cases e⟩
         · exact ⟨_, _, qrU hn, fun _ => rfl⟩
       obtain ⟨n, r, hne, hnv⟩ := hnum
       refine ⟨n, r, qbG s 2 4, by rw [hne], fun b' w' => w' = w4 /\ b' = (qbG s 2 4 && !f.year), ?_, ?_⟩
       · refine BCase.of (fun h => ?_) (fun h => ?_)
         · exact ⟨h0, h0, f.year, hf4.load1 un_bool rfl rfl, rfl, by rw [h]; rfl⟩
         · exact ⟨rfl, by rw [h]; rfl⟩
       · intro b'
         refine AllJ.of ?_ _
         rintro w4 ⟨rfl, rfl⟩
         refine BCase.of (fun h => ?_) (fun h => ?_)
         · rw [Bool.and_eq_true, Bool.not_eq_true'] at h
           refine ⟨h0, h0, ?_⟩
           obtain ⟨w6, hs6, h6, hg6⟩ := hf4.store (P := prog) qbr (i := 7) (v := .int .i64 n) rfl (by simp [Fnd.cells]) (qkS n)
           refine ⟨w6, hs6, h0, h0, ?_⟩
           obtain ⟨w7, hs7, h7, hg7⟩ := h6.store (P := prog) qca (i := 3) (v := .bool true) rfl (by simp [Fnd.cells, Value.cells]) (qkL true)
           refine ⟨w7, hs7, rfl, ?_, zf (zf hg4 hg6) hg7⟩
           rw [htok, if_pos h, <- hnv h.1]
           simpa [Fnd.cells, Value.cells] using h7
         · refine ⟨rfl, ?_, hg4⟩
           rw [htok, if_neg (fun hc => by rw [hc.1, hc.2] at h; cases h)]
           exact hf4
end Go.Proofs.YtndbpedpdbjkpaaGreatDoor
namespace Go.Pk
def qcC (c : UInt8) : Bool := decide (qkj (c.toNat : Int))
def cutP : List UInt8 -> List UInt8 -> List (List UInt8)
 | cur, [] => [cur]
 | cur, c :: r => if qcC c then cur :: cutP [] r else cutP (cur ++ [c]) r
def fnd0 : Fnd := ⟨false, false, false, false, 0, 0, 0, 0, 0, 0⟩
def qdo (s : List UInt8) : Fnd := (cutP [] s).foldl tokV fnd0
def qcJ (y : Int) : Int := if 70 <= y /\ y <= 99 then y + 1900 else if y < 70 then y + 2000 else y
def qhi (f : Fnd) : Prop := zK (qcJ f.y) f.m f.d /\ f.time = true /\ f.year = true /\ f.s0 <= 23 /\ f.s1 <= 59 /\ f.s2 <= 59
instance (f : Fnd) : Decidable (qhi f) := by unfold qhi; infer_instance
def qcb (f : Fnd) : Int := zR (qcJ f.y) f.m f.d * 86400 + f.s0 * 3600 + f.s1 * 60 + f.s2
def qjP (f : Fnd) : Value := if qhi f then .tuple #[.int .i64 (qcb f), .bool true] else .tuple #[.int .i64 0, .bool false]
structure qmw (f : Fnd) : Prop where
 s0 : 0 <= f.s0 /\ f.s0 <= 99
 s1 : 0 <= f.s1 /\ f.s1 <= 99
 s2 : 0 <= f.s2 /\ f.s2 <= 99
 y : 0 <= f.y /\ f.y <= 9999
 d : 0 <= f.d /\ f.d <= 99
 m : 0 <= f.m /\ f.m <= 12
 m0 : f.month = false ↔ f.m = 0
 d0 : f.day = false -> f.d = 0
 y0 : f.year = false -> f.y = 0
theorem qb1 : ∀ (l : List UInt8) (acc : Int), 0 <= acc -> (∀ c ∈ l, j9 c = true) -> 0 <= l.foldl (fun n c => n * 10 + ((c.toNat : Int) - 48)) acc /\ l.foldl (fun n c => n * 10 + ((c.toNat : Int) - 48)) acc < (acc + 1) * 10 ^ l.length
 | [], acc, h, _ => by simp; omega
 | c :: l, acc, h, hd => by
   have hc := qcf.1 (hd c List.mem_cons_self)
   obtain ⟨h1, h2⟩ := qb1 l (acc * 10 + ((c.toNat : Int) - 48)) (by omega) fun x hx => hd x (List.mem_cons_of_mem _ hx)
   rw [List.foldl_cons]
   refine ⟨h1, Int.lt_of_lt_of_le h2 ?_⟩
   rw [List.length_cons, Int.pow_succ, Int.mul_comm (10 ^ l.length) 10, <- Int.mul_assoc]
   exact Int.mul_le_mul_of_nonneg_right (by omega) (Int.pow_nonneg (by decide))
theorem qkJ {a b : Nat} (h : a <= b) : (10 : Int) ^ a <= 10 ^ b := by
 have := Nat.pow_le_pow_right (n := 10) (by decide) h
 have e : ∀ k : Nat, ((10 ^ k : Nat) : Int) = 10 ^ k := fun k => by simp
 rw [<- e, <- e]; omega
theorem qpB {s : List UInt8} (k : Nat) (h : (digP s).length <= k) : 0 <= decV (digP s) /\ decV (digP s) < 10 ^ k := by
 obtain ⟨h1, h2⟩ := qb1 (digP s) 0 (by decide) digP_all
 refine ⟨h1, Int.lt_of_lt_of_le h2 ?_⟩
 rw [Int.zero_add, Int.one_mul]
 exact qkJ h
theorem qex : ∀ (f i : Nat) (s : List UInt8) (l : List Int), jl f i s = some l -> l.length = f /\ ∀ x ∈ l, 0 <= x /\ x <= 99
 | 0, i, s, l, h => by simp [jl] at h; subst h; simp
 | f + 1, i, s, l, h => by
   unfold jl at h
   cases hs : qkt i s with
   | none => rw [hs] at h; cases h
   | some p =>
     rw [hs] at h
     simp only [Option.bind_some] at h
     cases hr : jl f (i + 1) p.2 with
     | none => rw [hr] at h; cases h
     | some r =>
       rw [hr] at h
       simp only [Option.map_some, Option.some.injEq] at h
       subst h
       obtain ⟨h1, h2⟩ := qex f (i + 1) p.2 r hr
       refine ⟨by simp [h1], fun x hx => ?_⟩
       rcases List.mem_cons.1 hx with rfl | hx
       · unfold qkt at hs
         cases hc : colon i s with
         | none => rw [hc] at hs; cases hs
         | some t =>
           rw [hc] at hs
           simp only [Option.bind_some] at hs
           split at hs
           · rename_i hd
             simp only [Option.some.injEq] at hs
             subst hs
             have := qpB 2 hd.2
             simp only; omega
           · cases hs
       · exact h2 x hx
theorem qkb (s : List UInt8) : ∀ (f k : Nat), 0 <= qbq s f k /\ qbq s f k <= (k : Int) + f
 | 0, k => by simp [qbq]
 | f + 1, k => by
   unfold qbq
   have := qkb s f (k + 1)
   split <;> omega
theorem qdS (f : Fnd) (s : List UInt8) : (∃ a b c, qa7 s = some [a, b, c] /\ f.time = false /\ tokV f s = { f with s0 := a, s1 := b, s2 := c, time := true }) \/
   (qa7 s = none \/ f.time = true) /\ tokV f s = if qbG s 1 2 = true /\ f.day = false then { f with d := decV (digP s), day := true }
   else if 0 < qcv s /\ f.month = false then { f with m := qcv s, month := true }
   else if qbG s 2 4 = true /\ f.year = false then { f with y := decV (digP s), year := true } else f := by
 cases hc : qa7 s with
 | none => right; refine ⟨.inl rfl, ?_⟩; unfold tokV; rw [hc]
 | some l =>
   obtain ⟨hl, _⟩ := qex 3 0 s l hc
   match l, hl with
   | [a, b, c], _ =>
     cases ht : f.time with
     | false => left; refine ⟨a, b, c, rfl, rfl, ?_⟩; unfold tokV; rw [hc, ht]
     | true =>
       right; refine ⟨.inr rfl, ?_⟩; unfold tokV; rw [hc, ht]
theorem qsH {f : Fnd} (h : qmw f) (s : List UInt8) : qmw (tokV f s) := by
 rcases qdS f s with ⟨a, b, c, hc, ht, e⟩ | ⟨_, e⟩
 · rw [e]
   obtain ⟨_, hr⟩ := qex 3 0 s _ hc
   exact ⟨hr a (by simp), hr b (by simp), hr c (by simp), h.y, h.d, h.m, h.m0, h.d0, h.y0⟩
 · rw [e]
   split
   · rename_i h1
     have hn : (digP s).length <= 2 := by have := h1.1; unfold qbG at this; simp at this; omega
     have := qpB 2 hn
     exact ⟨h.s0, h.s1, h.s2, h.y, ⟨this.1, by simp only; omega⟩, h.m, h.m0, (fun e => by cases e), h.y0⟩
   · split
     · rename_i h1
       have := qkb s 12 0
       have h2 := h1.1
       unfold qcv at h2 ⊢
       refine ⟨h.s0, h.s1, h.s2, h.y, h.d, ⟨by simp only; omega, by simp only; omega⟩, ⟨(fun e => by cases e), fun e => ?_⟩, h.d0, h.y0⟩
       simp only at e; omega
     · split
       · rename_i h1
         have hn : (digP s).length <= 4 := by have := h1.1; unfold qbG at this; simp at this; omega
         have := qpB 4 hn
         exact ⟨h.s0, h.s1, h.s2, ⟨this.1, by simp only; omega⟩, h.d, h.m, h.m0, h.d0, fun e => by cases e⟩
       · exact h
theorem qpG : qmw fnd0 := ⟨by decide, by decide, by decide, by decide, by decide, by decide, by decide, by decide, by decide⟩
theorem qpP : ∀ (l : List (List UInt8)) {f : Fnd}, qmw f -> qmw (l.foldl tokV f)
 | [], f, h => h
 | s :: l, f, h => qpP l (qsH h s)
theorem qqo (f : Fnd) : tokV f [] = f := by
 rcases qdS f [] with ⟨a, b, c, hc, _⟩ | ⟨_, e⟩
 · have : qa7 [] = none := by decide
   rw [this] at hc; cases hc
 · rw [e, if_neg (fun h => by have : qbG [] 1 2 = false := by decide
                              rw [this] at h; cases h.1),
     if_neg (fun h => by have : qcv [] = 0 := by decide
                         rw [this] at h; exact absurd h.1 (by decide)),
     if_neg (fun h => by have : qbG [] 2 4 = false := by decide
                         rw [this] at h; cases h.1)]
theorem qom : ∀ (s cur x : List UInt8), x ∈ cutP cur s -> x.length <= cur.length + s.length
 | [], cur, x, h => by simp [cutP] at h; subst h; simp
 | c :: r, cur, x, h => by
   unfold cutP at h
   split at h
   · rcases List.mem_cons.1 h with rfl | h
     · simp
     · have := qom r [] x h; simp at this ⊢; omega
   · have := qom r _ x h; simp at this ⊢; omega
theorem qoI {f : Fnd} (h : zK (qcJ f.y) f.m f.d) : -134774 <= zR (qcJ f.y) f.m f.d /\ zR (qcJ f.y) f.m f.d <= 2932896 := by
 have hh := qqO h
 obtain ⟨h1, h2, h3, h4, h5, h6⟩ := h
 have e1 := qfH (a := 1601) (b := qcJ f.y) (by omega) h1
 have e2 := qfH (a := qcJ f.y + 1) (b := 10000) (by omega) (by omega)
 have e3 : dY 1601 = 584388 := by decide
 have e4 : dY 10000 = 3652059 := by decide
 omega
end Go.Pk
namespace Go.Pk
open Go.RowKit (Below)
theorem qqL {n : Int} (h1 : -134774 <= n) (h2 : n <= 2932896) : ∃ y m d, zK y m d /\ zR y m d = n := by
 have h := qnQ h1 h2 _ _ _ _ _ _ rfl rfl rfl rfl rfl rfl
 exact ⟨_, _, _, h.2.2.2.2.2.2.2.2.2.2.2.2⟩
def dig1 (n : Int) : UInt8 := UInt8.ofNat (48 + n.toNat % 10)
def twoL (n : Int) : List UInt8 := [dig1 (n / 10), dig1 n]
def qpI : List (List UInt8) := [[84, 104, 117], [70, 114, 105], [83, 97, 116], [83, 117, 110], [77, 111, 110], [84, 117, 101], [87, 101, 100]]
def qqb : List (List UInt8) := [[74, 97, 110], [70, 101, 98], [77, 97, 114], [65, 112, 114], [77, 97, 121], [74, 117, 110], [74, 117, 108], [65, 117, 103], [83, 101, 112], [79, 99, 116], [78, 111, 118], [68, 101, 99]]
def qem (k : Int) : List UInt8 := qpI[k.toNat]?.getD []
def monN (m : Int) : List UInt8 := qqb[(m - 1).toNat]?.getD []
def qcX (s : Int) : List UInt8 := twoL (s / 3600) ++ [58] ++ twoL (s / 60 % 60) ++ [58] ++ twoL (s % 60)
def qhf (n y m d s : Int) : List UInt8 := qem (n % 7) ++ [44, 32] ++ twoL d ++ [32] ++ monN m ++ [32] ++ (twoL (y / 100) ++ twoL (y % 100)) ++ [32] ++ qcX s ++ [32, 71, 77, 84]
open Classical in
noncomputable def qb6 (t : Int) : List UInt8 := if h : ∃ p : Int × Int × Int, zK p.1 p.2.1 p.2.2 /\ zR p.1 p.2.1 p.2.2 = t / 86400 then
 qhf (t / 86400) (Classical.choose h).1 (Classical.choose h).2.1 (Classical.choose h).2.2 (t % 86400) else []
theorem qi2 {t y m d : Int} (h : zK y m d) (e : zR y m d = t / 86400) : qb6 t = qhf (t / 86400) y m d (t % 86400) := by
 have hex : ∃ p : Int × Int × Int, zK p.1 p.2.1 p.2.2 /\ zR p.1 p.2.1 p.2.2 = t / 86400 := ⟨(y, m, d), h, e⟩
 unfold qb6
 rw [dif_pos hex]
 obtain ⟨h1, h2⟩ := Classical.choose_spec hex
 obtain ⟨e1, e2, e3⟩ := qqk h1 h (h2.trans e.symm)
 rw [e1, e2, e3]
theorem qg4 {t : Int} (h : t / 86400 < -134774 \/ 2932896 < t / 86400) : qb6 t = [] := by
 unfold qb6
 rw [dif_neg]
 rintro ⟨p, h1, h2⟩
 have := qmd h1
 omega
theorem qpw : ∀ n, n < 100 -> 10 <= n -> Lib.decDigits n = twoL (n : Int) := by decide +kernel
theorem itoa1_all : ∀ n, n < 10 -> (48 : UInt8) :: Lib.decDigits n = twoL (n : Int) := by decide +kernel
theorem qtd : ∀ n, n < 10 -> (Lib.decDigits n).length = 1 := by decide +kernel
theorem qqp (u : Nat) (h : 10 <= u) : Lib.decDigits u = Lib.decDigits (u / 10) ++ [UInt8.ofNat (48 + u % 10)] := by
 rw [Lib.decDigits, dif_neg (by omega)]
theorem qvc {y : Int} (h1 : 1000 <= y) (h2 : y <= 9999) : Lib.itoa y = twoL (y / 100) ++ twoL (y % 100) := by
 obtain ⟨n, rfl⟩ : ∃ n : Nat, y = (n : Int) := ⟨y.toNat, by omega⟩
 rw [Lib.itoa_nonneg, qqp n (by omega), qqp (n / 10) (by omega), show n / 10 / 10 = n / 100 by omega, qpw (n / 100) (by omega) (by omega)]
 unfold twoL dig1
 rw [show (((n / 100 : Nat) : Int)) = (n : Int) / 100 by omega]
 have e1 : ((n : Int) % 100 / 10).toNat % 10 = n / 10 % 10 := by omega
 have e2 : ((n : Int) % 100).toNat % 10 = n % 10 := by omega
 rw [e1, e2]; rfl
theorem qv (n : Int) : (twoL n).length = 2 := rfl
theorem qdx (n : Int) : j9 (dig1 n) = true /\ ((dig1 n).toNat : Int) = 48 + n.toNat % 10 := by
 have h : (dig1 n).toNat = 48 + n.toNat % 10 := by
   unfold dig1; rw [UInt8.toNat_ofNat']; omega
 exact ⟨qcf.2 (by omega), by omega⟩
theorem qti {P : Program} {name : String} {k : IntKind} {zs : List Int} {w w' : World} (h : Lib.TabIs P w name k zs) (hb : ∀ b, b < w.heap.size -> P.globalNamed name = some b -> w'.heap[b]? = w.heap[b]?) : Lib.TabIs P w' name k zs := by
 unfold Lib.TabIs World.var? at h ⊢
 cases hg : P.globalNamed name with
 | none => rw [hg] at h; cases h
 | some g =>
   rw [hg] at h
   simp only [Option.bind_some] at h ⊢
   have hlt : g < w.heap.size := by
     cases hh : w.heap[g]? with
     | none => rw [hh] at h; cases h
     | some o => exact (Array.getElem?_eq_some_iff.1 hh).1
   rw [hb g hlt hg]; exact h
theorem qqU {P : Program} {name : String} {k : IntKind} {zs : List Int} {w w' : World} (h : Lib.TabIs P w name k zs) (hb : Below w.heap.size w w') : Lib.TabIs P w' name k zs :=
 qti h fun b hlt _ => hb.block b hlt
end Go.Pk
namespace Go.Pk
theorem qsD {s : List UInt8} {k : Nat} (h : k < s.length) : j9 s[k] = true ↔ 48 <= qA s (k : Int) /\ qA s (k : Int) <= 57 := by
 rw [qe7 (i := (k : Int)) (by simpa using h), qcf]
 simp only [Int.toNat_natCast]; omega
theorem qlV (l : List UInt8) (c : UInt8) : decV (l ++ [c]) = decV l * 10 + ((c.toNat : Int) - 48) := by unfold decV; rw [List.foldl_append]; rfl
end Go.Pk
namespace Go.Proofs.YtndbpedpdbjkpaaGreatDoor
open Go.Pk
open Go.RowKit (Below)
theorem qgQ (s : List UInt8) (hs : s.length <= 9223372036854775807) (w : World) : Calls prog qdc #[.string (mkS s)] w (Ret fun v w' => v = .int .i64 ((digP s).length : Nat) /\ w' = w) := by
 apply qkE
 unfold qgk
 have hle := jz j9 s
 refine ⟨fun m i w' => ∃ k : Nat, k <= (digP s).length /\ i = (k : Int) /\ m = s.length - k /\ w' = w, ⟨_, 0, by omega, rfl, rfl, rfl⟩, ?_⟩
 intro m i
 refine AllJ.of ?_ _
 rintro w' ⟨k, hk, rfl, rfl, rfl⟩
 have hk2 : k <= s.length := Nat.le_trans hk hle
 refine BCase.of (fun h => ?_) (fun h => ?_) <;> simp only [dTx, dFx] at h
 · have hlt : k < s.length := by omega
   have hat := qes j9 s k hlt hk
   rw [qsD hlt] at hat
   have stop : ¬ (k < (digP s).length) -> (.int .i64 (k : Int) : Value) = .int .i64 ((digP s).length : Nat) /\ w' = w' := fun hn => ⟨by congr 1; omega, rfl⟩
   refine ⟨⟨by omega, h⟩, BCase.of (fun h2 => ?_) (fun h2 => ?_)⟩ <;> simp only [ge_iff_le, dTx, dFx] at h2
   · refine ⟨⟨by omega, h⟩, BCase.of (fun h3 => ?_) (fun h3 => ?_)⟩ <;> simp only [dTx, dFx] at h3
     · have := hat.1 ⟨h2, h3⟩
       exact ⟨s.length - (k + 1), by omega, k + 1, this, by rw [wrap_i64 (by omega) (by omega)]; omega, rfl, rfl⟩
     · exact stop fun hc => h3 (hat.2 hc).2
   · exact stop fun hc => h2 (hat.2 hc).1
 · exact ⟨by congr 1; have : (digP s).length <= s.length := hle; omega, rfl⟩
theorem ref07_value_ok (s : List UInt8) (hs : s.length <= 18) (hd : ∀ c ∈ s, j9 c = true) (w : World) : Calls prog qcU #[.string (mkS s)] w (Ret fun v w' => v = .int .i64 (decV s) /\ w' = w) := by
 apply qll
 unfold qhH
 refine ⟨fun m n i w' => ∃ k : Nat, k <= s.length /\ i = (k : Int) /\ n = decV (s.take k) /\ m = s.length - k /\ w' = w, ⟨_, 0, by omega, rfl, rfl, rfl, rfl⟩, ?_⟩
 intro m n i
 refine AllJ.of ?_ _
 rintro w' ⟨k, hk, rfl, rfl, rfl, rfl⟩
 refine BCase.of (fun h => ?_) (fun h => ?_) <;> simp only [dTx, dFx] at h
 · have hlt : k < s.length := by omega
   have hc := qcf.1 (hd s[k] (List.getElem_mem hlt))
   have hb := qb1 (s.take k) 0 (by decide) fun c hc => hd c (List.mem_of_mem_take hc)
   have hp : (10 : Int) ^ (s.take k).length <= 10 ^ 17 := qkJ (by rw [List.length_take]; omega)
   have e17 : (10 : Int) ^ 17 = 100000000000000000 := by decide
   have hV : (s.take k).foldl (fun n c => n * 10 + ((c.toNat : Int) - 48)) 0 = decV (s.take k) := rfl
   rw [hV] at hb
   have hbb := hb.2
   rw [Int.zero_add, Int.one_mul] at hbb
   rw [qe7 (i := (k : Int)) (by simpa using hlt)]
   simp only [Int.toNat_natCast]
   refine ⟨⟨by omega, h⟩, s.length - (k + 1), by omega, k + 1, by omega, by rw [wrap_i64 (by omega) (by omega)]; omega, ?_, rfl, trivial⟩
   rw [List.take_succ_eq_append_getElem hlt, qlV, wrap_i64 (n := decV (s.take k) * 10) (by omega) (by omega), wrap_i64 (n := ((s[k].toNat : Nat) : Int)) (by omega) (by omega), wrap_i64 (n := decV (s.take k) * 10 + ((s[k].toNat : Nat) : Int)) (by omega) (by omega), wrap_i64 (by omega) (by omega)]
   omega
 · have : k = s.length := by omega
   subst this
   rw [List.take_length]; exact ⟨rfl, rfl⟩
theorem ref01_Lower_ok (s : List UInt8) (hs : s.length <= 9223372036854775800) (w : World) : Calls prog jg #[.string (mkS s)] w (Ret fun v w' => v = .string (mkS (lowL s)) /\ Below w.heap.size w w') := by
 apply qlL
 unfold qhD
 refine ⟨fun m o i w' => ∃ k : Nat, k <= s.length /\ i = (k : Int) /\ o = lowL (s.take k) /\ m = s.length - k /\ Below w.heap.size w w', ⟨_, 0, by omega, rfl, rfl, rfl, Below.refl _ _⟩, ?_⟩
 intro m o i
 refine AllJ.of ?_ _
 rintro w1 ⟨k, hk, rfl, rfl, rfl, hb⟩
 refine BCase.of (fun h => ?_) (fun h => ?_) <;> simp only [dTx, dFx] at h
 · have hlt : k < s.length := by omega
   have hlow := qqM s[k]
   have hu := qbc s[k]
   rw [qe7 (i := (k : Int)) (by simpa using hlt)]
   simp only [Int.toNat_natCast]
   refine ⟨⟨by omega, h⟩, intJ (w := w1) ((lowC s[k]).toNat : Nat) ?_ ?_⟩
   · refine BCase.of (fun h2 => ?_) (fun h2 => ?_) <;> simp only [ge_iff_le, dTx, dFx] at h2
     · refine BCase.of (fun h3 => ?_) (fun h3 => ?_) <;> simp only [ge_iff_le, dTx, dFx] at h3
       · rw [if_pos ⟨h2, h3⟩] at hlow
         exact ⟨rfl, by rw [qcc (by omega) (by omega), hlow]⟩
       · rw [if_neg (fun e => h3 e.2)] at hlow
         exact ⟨rfl, hlow.symm⟩
     · rw [if_neg (fun e => h2 e.1)] at hlow
       exact ⟨rfl, hlow.symm⟩
   · intro k1 w2 hk1 hw2
     have ho : Ow tU8 qw w2 NoB (some ⟨k1, 0, none⟩) 1 1 [lowC s[k]] := Ow.newF qgA hk1 hw2 (RepL.one (qgz rfl)) (show 1 <= maxLen by decide)
     have hl : (lowL (s.take k)).length = k := by simp [lowL]; omega
     refine ⟨_, qeX zQ un_string un_uint8 ho.all, by rw [hl]; simp [IntKind.max, IntKind.bits]; omega, ?_⟩
     rintro _ rfl
     refine ⟨s.length - (k + 1), by omega, k + 1, by omega, by rw [wrap_i64 (by omega) (by omega)]; omega, ?_, rfl, qb hb (hw2 ▸ qf _ _) hb.size⟩
     unfold lowL; rw [List.take_succ_eq_append_getElem hlt, List.map_append]; rfl
 · have : k = s.length := by omega
   subst this
   rw [List.take_length]; exact ⟨rfl, hb⟩
end Go.Proofs.YtndbpedpdbjkpaaGreatDoor
namespace Go.Pk
def qmL (u : List UInt8) : Option (Int × List UInt8) := if 1 <= (digP u).length /\ (digP u).length <= 2 then some (decV (digP u), u.drop (digP u).length) else none
def qbi (f i : Nat) (u : List UInt8) : Option (List Int) := (qmL u).bind fun p => (jl f (i + 1) p.2).map (p.1 :: ·)
theorem qeR (f i : Nat) (s : List UInt8) : jl (f + 1) i s = (colon i s).bind (qbi f i) := by
 show (qkt i s).bind _ = _
 unfold qkt qbi
 cases colon i s <;> rfl
theorem qmq {f i : Nat} {u : List UInt8} (h : qmL u = none) : qbi f i u = none := by unfold qbi; rw [h]; rfl
theorem qmR {f i : Nat} {u : List UInt8} {p : Int × List UInt8} (h : qmL u = some p) : qbi f i u = (jl f (i + 1) p.2).map (p.1 :: ·) := by unfold qbi; rw [h]; rfl
end Go.Pk
namespace Go.Proofs.YtndbpedpdbjkpaaGreatDoor
open Go.Pk
open Go.RowKit (Below)
def qqB (s : List UInt8) (w : World) (v : Value) (w' : World) : Prop :=
 ∃ (a : Option Addr) (n c : Nat) (b : Bool), v = .tuple #[.slice a n c, .bool b] /\ Below w.heap.size w w' /\ (qa7 s = none /\ b = false \/ ∃ l, qa7 s = some l /\ b = true /\ Ow tI64 qx w' NoB a n c l /\ qb9 w.heap.size a)
theorem qnM (s : List UInt8) (hs : s.length <= 9223372036854775000) (w : World) : Calls prog qgf #[.string (mkS s)] w (Ret (qqB s w)) := by
 apply qmC
 unfold qiE
 intro k7 w7 hk7 hw7
 have hB7 : Below w.heap.size w w7 := hw7 ▸ qf _ _
 have ho7 : Ow tI64 qx w7 NoB (some ⟨k7, 0, none⟩) 0 0 [] := Ow.newF qoi hk7 hw7 (RepL.nil _ _ _) (Nat.zero_le _)
 refine ⟨fun m u a n c i w' => ∃ (k : Nat) (out : List Int), k <= 3 /\ i = (k : Int) /\ m = 3 - k /\ out.length = k /\ (k < 3 -> qa7 s = (qbi (2 - k) k u).map (out ++ ·)) /\ (k = 3 -> qa7 s = some out) /\ u.length <= s.length /\
     Ow tI64 qx w' NoB a n c out /\ qb9 w.heap.size a /\ Below w.heap.size w w',
   ⟨_, 0, [], by omega, rfl, rfl, rfl, fun _ => ?_, fun h => (by omega), Nat.le_refl _, ho7, fresh_new hk7, hB7⟩, ?_⟩
 · show jl 3 0 s = _
   rw [qeR]
   show qbi 2 0 s = _
   cases qbi 2 0 s <;> rfl
 intro m u a n c i
 refine AllJ.of ?_ _
 rintro w1 ⟨k, out, hk, rfl, rfl, hlen, hv, hv3, hul, ho, hf, hb⟩
 refine BCase.of (fun h => ?_) (fun h => ?_) <;> simp only [dTx, dFx] at h
 · have hk3 : k < 3 := by omega
   have hv := hv hk3
   have hle : (digP u).length <= u.length := jz j9 u
   have bad : ∀ {w' : World}, qmL u = none -> Below w.heap.size w w' -> qqB s w (.tuple #[.slice none 0 0, .bool false]) w' := fun he hb' => ⟨_, _, _, _, rfl, hb', .inl ⟨by rw [hv, qmq he]; rfl, rfl⟩⟩
   refine callK (qgQ u (by omega) w1) ?_
   rintro _ w1 ⟨rfl, rfl⟩
   refine ⟨_, rfl, factJ (w := w1) (1 <= (digP u).length /\ (digP u).length <= 2) ?_ ?_⟩
   · refine BCase.of (fun h2 => ?_) (fun h2 => ?_) <;> simp only [dTx, dFx] at h2
     · exact bad (by unfold qmL; rw [if_neg (by omega)]) hb
     · refine BCase.of (fun h3 => ?_) (fun h3 => ?_) <;> simp only [gt_iff_lt, dTx, dFx] at h3
       · exact bad (by unfold qmL; rw [if_neg (by omega)]) hb
       · exact ⟨rfl, by omega, by omega⟩
   · intro hd
     have hst : qmL u = some (decV (digP u), u.drop (digP u).length) := by unfold qmL; rw [if_pos hd]
     rw [qmR hst] at hv
     refine ⟨⟨by omega, by omega⟩, ?_⟩
     rintro _ rfl
     simp only [Int.toNat_natCast]
     rw [dig_take]
     refine callK (ref07_value_ok (digP u) (by omega) digP_all w1) ?_
     rintro _ w1 ⟨rfl, rfl⟩
     refine ⟨_, rfl, ?_⟩
     intro k3 w3 hk3' hw3
     obtain ⟨w4, a4, n4, c4, hr, ho4, hf4, hb4⟩ := qp8 (ty := qjt) (w0 := w) (cm := 1) qoi qsp qbr (by decide) ho hf hb hk3' hw3 (qtY) (by omega)
     refine ⟨w4, a4, n4, c4, hr, ⟨by omega, by omega⟩, ?_⟩
     rintro _ rfl
     have ew : i64.wrap ((k : Int) + 1) = ((k + 1 : Nat) : Int) := by rw [wrap_i64 (by omega) (by omega)]; omega
     rw [ew]
     simp only [] at hv
     have hrl : (u.drop (digP u).length).length <= s.length := by rw [List.length_drop]; omega
     generalize u.drop (digP u).length = r at *
     refine BCase.of (fun h5 => ?_) (fun h5 => ?_) <;> simp only [dTx, dFx] at h5
     · have e2 : 2 - k = (1 - k) + 1 := by omega
       rw [e2, qeR] at hv
       refine BCase.of (fun h6 => ?_) (fun h6 => ?_)
       · rw [beq_iff_eq] at h6
         subst h6
         exact ⟨_, _, _, _, rfl, hb4, .inl ⟨by rw [hv]; rfl, rfl⟩⟩
       · rw [beq_eq_false_iff_ne] at h6
         match r, h6 with
         | x :: r, _ =>
           refine ⟨⟨by omega, by simp <;> omega⟩, ?_⟩
           have hx : qA (x :: r) 0 = ((x.toNat : Nat) : Int) := rfl
           rw [hx]
           refine BCase.of (fun h7 => ?_) (fun h7 => ?_)
           · have hne : x ≠ 58 := fun e => by subst e; exact absurd h7 (by decide)
             exact ⟨_, _, _, _, rfl, hb4, .inl ⟨by rw [hv]; unfold colon; rw [if_neg (by omega), if_neg (by simpa using hne)]; rfl, rfl⟩⟩
           · have he : x = 58 := by
               simp only [bne_eq_false_iff_eq] at h7
               exact qo4 h7
             subst he
             refine ⟨⟨by omega, by simp <;> omega⟩, ?_⟩
             rintro _ rfl
             refine ⟨3 - (k + 1), by omega, k + 1, out ++ [decV (digP u)], by omega, rfl, rfl, by simp [hlen], fun _ => ?_, fun h => by omega, by simp at hrl ⊢; omega, ho4, hf4, hb4⟩
             rw [hv]
             have hc : ∀ z : List UInt8, colon (k + 1) (58 :: z) = some z := fun z => by unfold colon; rw [if_neg (by omega)]; rfl
             have e3 : 2 - (k + 1) = 1 - k := by omega
             rw [hc, e3]
             show ((qbi (1 - k) (k + 1) _).map _).map _ = (qbi (1 - k) (k + 1) _).map _
             cases qbi (1 - k) (k + 1) _ <;> simp
     · have hk2 : k = 2 := by omega
       subst hk2
       refine ⟨0, by omega, 3, out ++ [decV (digP u)], by omega, rfl, rfl, by simp [hlen], fun h => by omega, fun _ => ?_, hrl, ho4, hf4, hb4⟩
       rw [hv]; rfl
 · have : k = 3 := by omega
   subst this
   exact ⟨_, _, _, _, rfl, hb, .inr ⟨out, hv3 rfl, rfl, ho, hf⟩⟩
def qoS : List (List UInt8) := [[106, 97, 110], [102, 101, 98], [109, 97, 114], [97, 112, 114], [109, 97, 121], [106, 117, 110], [106, 117, 108], [97, 117, 103], [115, 101, 112], [111, 99, 116], [110, 111, 118], [100, 101, 99]]
theorem qrG : ∀ k (h : k < qoS.length), qoS[k] = qnX k := by decide
theorem qho (s : List UInt8) (hs : s.length <= 9223372036854775800) (w : World) : Calls prog qdI #[.string (mkS s)] w (Ret fun v w' => v = .int .i64 (qcv s) /\ Below w.heap.size w w') := by
 apply qlC
 unfold qhT
 intro k5 w5 hk5 hw5
 have hB5 : Below w.heap.size w w5 := hw5 ▸ qf _ _
 have ho5 : Ow tS qe w5 NoB (some ⟨k5, 0, none⟩) 12 12 qoS := Ow.newF (l := qoS.map fun s => Value.string (mkS s)) (jY _) hk5 hw5 (qbD fun _ _ => trivial) (by decide)
 refine ⟨fun m i w' => ∃ k : Nat, k <= 12 /\ i = (k : Int) /\ m = 12 - k /\ qcv s = qbq s (12 - k) k /\ Below w5.heap.size w5 w', ⟨_, 0, by omega, rfl, rfl, rfl, Below.refl _ _⟩, ?_⟩
 intro m i
 refine AllJ.of ?_ _
 rintro w1 ⟨k, hk, rfl, rfl, hv, hb⟩
 have hbw := qb hB5 hb hB5.size
 refine BCase.of (fun h => ?_) (fun h => ?_) <;> simp only [dTx, dFx] at h
 · have ew : i64.wrap ((k : Int) + 1) = ((k + 1 : Nat) : Int) := by rw [wrap_i64 (by omega) (by omega)]; omega
   rw [ew]
   refine BCase.of (fun h2 => ?_) (fun h2 => ?_) <;> simp only [ge_iff_le, dTx, dFx] at h2
   · refine ⟨⟨by omega, by omega⟩, ?_⟩
     rintro _ rfl
     have e3 : Int.toNat (3 : Int) = 3 := rfl
     rw [e3]
     refine ⟨lowL (s.take 3), fun u hu => ?_, ⟨⟨by omega, by omega⟩, rfl⟩, qnX k, fun u hu => ?_, ?_⟩
     · refine (ref01_Lower_ok (s.take 3) (by simp; omega) u).mono ?_
       rintro _ w2 ⟨_, rfl, rfl, hb2⟩
       exact ⟨rfl, hb2.mono hu.size⟩
     · have hkl : (k : Int).toNat < qoS.length := by show k < 12; omega
       obtain ⟨v, hv, hrep⟩ := ((ho5.below hb).below hu).all.load1 (i := (k : Int)) un_string rfl rfl hkl
       obtain ⟨rfl, -⟩ := qfw hrep
       simp only [Int.toNat_natCast] at hv
       rw [qrG k hkl] at hv
       exact hv
     · intro wq hq
       have ef : 12 - k = (12 - (k + 1)) + 1 := by omega
       rw [ef] at hv
       unfold qbq at hv
       refine BCase.of (fun h => ?_) (fun h => ?_)
       · rw [beq_iff_eq] at h
         rw [if_pos ⟨by omega, h⟩] at hv
         exact ⟨by rw [hv]; congr 1, qb hbw hq hbw.size⟩
       · rw [beq_eq_false_iff_ne] at h
         rw [if_neg (fun e => h e.2)] at hv
         exact ⟨12 - (k + 1), by omega, k + 1, by omega, rfl, rfl, hv, qb hb hq hb.size⟩
   · intro wq hq
     rw [monthFrom_short (by omega)] at hv
     exact ⟨12 - (k + 1), by omega, k + 1, by omega, rfl, rfl, by rw [hv, monthFrom_short (by omega)], qb hb hq hb.size⟩
 · have : k = 12 := by omega
   subst this
   exact ⟨by rw [hv]; rfl, hbw⟩
end Go.Proofs.YtndbpedpdbjkpaaGreatDoor
