/- What the laws lean on: AddrF, AddrG, AddrH, AddrI, Eq, HostA, HostB, HostC, Sub, HostD, V4; what is used. Its conditions: none. -/
import Derived.Test.YtndbpedpdbjkpaaGreatDoorKE
import Derived.Lib.ItoaLen
import Derived.Laws.StructEq
open Go.IntKind (i64)
open Go.Proofs.Tryz (prog)
set_option linter.unusedVariables false
set_option linter.unusedSimpArgs false
set_option maxRecDepth 20000
namespace Go.Pk
abbrev decL (n : Nat) : List UInt8 := Lib.decDigits n
theorem qqn {n : Nat} : Lib.itoa (n : Int) = decL n := by unfold Lib.itoa; rw [if_neg (by omega)]; rfl
theorem zS {n : Nat} (h : n <= 9223372036854775807) : (decL n).length <= 21 := by rw [<- qqn]; exact Lib.itoa_length_le n (by omega) (by omega)
def text4V (a : List UInt8) : List UInt8 := Lib.join ((a.drop 12).map fun c => decL c.toNat) [46]
theorem qlS (xs : List (List UInt8)) (c : UInt8) (M : Nat) (h : ∀ x ∈ xs, x.length <= M) : (Lib.join xs [c]).length <= xs.length * (M + 1) := by
 cases xs with
 | nil => simp [Lib.join_nil]
 | cons x r =>
   rw [Lib.join_cons]
   have : ∀ r : List (List UInt8), (∀ x ∈ r, x.length <= M) -> (Lib.joinTail [c] r).length <= r.length * (M + 1) := by
     intro r
     induction r with
     | nil => intro _; simp [Lib.joinTail]
     | cons y r ih =>
       intro hr
       have h1 := ih fun x hx => hr x (List.mem_cons_of_mem _ hx)
       have h2 := hr y List.mem_cons_self
       have e : Lib.joinTail [c] (y :: r) = [c] ++ y ++ Lib.joinTail [c] r := by simp [Lib.joinTail]
       rw [e]
       simp only [List.length_append, List.length_cons, List.length_nil, Nat.add_mul]; omega
   have h1 := this r fun y hy => h y (List.mem_cons_of_mem _ hy)
   have h2 := h x List.mem_cons_self
   simp only [List.length_append, List.length_cons, Nat.add_mul]; omega
end Go.Pk
namespace Go.Proofs.YtndbpedpdbjkpaaGreatDoor
open Go.Pk
open Go.RowKit (Below)
theorem qnL {w : World} {A : Bl} {a : Option Addr} {n c : Nat} {xs : List (List UInt8)} (ho : Sl tS w A a n c xs) (sep : List UInt8) (hx : xs.length <= 140737488355328) (hl : (Lib.join xs sep).length <= 140737488355328) :
   Calls prog jJ #[.slice a n c, .string (mkS sep)] w (Ret fun v w' => v = .string (mkS (Lib.join xs sep)) /\ Below w.heap.size w w') := by
 obtain ⟨hn, hnc, hcm, h4⟩ := ho
 subst hn
 rcases h4 with h4 | ⟨b, off, rfl, hbl, _, cs, hcs, hcell⟩
 · subst h4
   refine (Tryz.strings_Join_none a c (mkS sep) w).mono ?_
   rintro _ _ ⟨rfl, rfl⟩
   exact ⟨_, rfl, rfl, Below.refl _ _⟩
 · have he := qd0 hcs
   have e : (xs.map mkS).map (fun s => s.data.toList) = xs := by rw [List.map_map]; exact List.map_id xs
   have hj := Tryz.strings_Join b off c (xs.map mkS) (mkS sep) w (fun j x hx => by
     rw [List.getElem?_map] at hx
     cases hxj : xs[j]? with
     | none => rw [hxj] at hx; cases hx
     | some y =>
       rw [hxj] at hx
       cases hx
       have hjl := (List.getElem?_eq_some_iff.1 hxj).1
       rw [hcell j (by rw [he]; simpa using hjl), he, List.getElem?_map, hxj]; rfl) hbl (by rw [List.length_map]; omega) (by rw [List.length_map]; exact hnc) (by
       rw [e]; exact hl)
   rw [List.length_map] at hj
   refine hj.mono ?_
   rintro _ w' ⟨rfl, hb'⟩
   rw [e]
   exact ⟨_, rfl, rfl, hb'⟩
theorem qt2 (n : Nat) (h : n <= 9223372036854775807) (w : World) (he : Env w) : Calls prog qeZ #[.int .i64 (n : Int)] w (Ret fun v w' => v = .string (mkS (decL n)) /\ Below w.heap.size w w') := by
 refine (Tryz.strconv_Itoa n (by omega) (by omega) w he.tab).mono ?_
 rintro _ _ ⟨rfl, k, os, rfl⟩
 rw [qqn]
 exact ⟨_, rfl, rfl, qh8 w k os⟩
theorem qnw (a : List UInt8) (ha : a.length = 16) (w : World) (he : Env w) : Calls prog qf5 #[adV a] w (Ret fun v w' => v = .string (mkS (text4V a)) /\ Below w.heap.size w w') := by
 apply qmz
 unfold qiF
 intro k1 w1 hk1 hw1
 have hB1 := (hw1 ▸ qf w _ : Below w.heap.size w w1)
 have h1 : qm w1 k1 qk (adC a) := qm.new hk1 hw1
 have e12 : (if 16 = (Int.toNat (12 : Int)) then (⟨k1, 0, none⟩ : Addr) else Addr.add ⟨k1, 0, none⟩ ((Int.toNat (12 : Int)) * 1)) = ⟨k1, 12, none⟩ := by
   rw [if_neg (by decide)]; unfold Addr.add; split <;> simp_all
 have e4 : (16 - (Int.toNat (12 : Int)) : Nat) = 4 := rfl
 rw [e12, e4]
 refine ⟨⟨by decide, by decide⟩, ?_⟩
 refine ⟨fun m a3 l3 c3 i w' => ∃ k : Nat, k <= 4 /\ i = (k : Int) /\ m = 4 - k /\ Ow tS qe w' NoB a3 l3 c3 (((a.drop 12).take k).map fun c => decL c.toNat) /\ qb9 w1.heap.size a3 /\ Below w1.heap.size w1 w',
   ⟨_, 0, by omega, rfl, rfl, Ow.nil _ _ _ _, qb9.none _, Below.refl _ _⟩, ?_⟩
 intro m a3 l3 c3 i
 refine AllJ.of ?_ _
 rintro w2 ⟨k, hk, rfl, rfl, ho2, hf2, hB2⟩
 have hl4 : (a.drop 12).length = 4 := by rw [List.length_drop]; omega
 refine BCase.of (fun h => ?_) (fun h => ?_) <;> simp only [dTx, dFx] at h
 · have hk4 : k < 4 := by omega
   rw [z8]
   have hu := qbc (a[12 + k]'(by omega))
   refine ⟨⟨⟨by omega, h⟩, rfl⟩, _, (h1.below hB2).load1 un_uint8 rfl (qcO (i := 12 + k) (by omega)), ?_⟩
   rw [wrap_i64 (by omega) (by omega)]
   refine callK (qt2 _ (by omega) w2 ((he.step hB1).step hB2)) ?_
   rintro _ w3 ⟨rfl, hb3⟩
   have hB3 := qb hB2 hb3 hB2.size
   refine ⟨_, rfl, ?_⟩
   intro k4 w4 hk4' hw4
   have hll : (((a.drop 12).take k).map fun c => decL c.toNat).length <= 4 := by simp; omega
   obtain ⟨w5, a5, n5, c5, hr, ho5, hf5, hb5⟩ := qp8 (ty := qD) (w0 := w1) (cm := 1) (vs := [_]) (jY _) qa2 zl (by decide) (ho2.below hb3) hf2 hB3 hk4' hw4 (qfI trivial) (by omega)
   refine ⟨w5, a5, n5, c5, hr, 4 - (k + 1), by omega, k + 1, by omega, by rw [wrap_i64 (by omega) (by omega)]; omega, rfl, ?_, hf5, hb5⟩
   rw [List.take_succ_eq_append_getElem (by omega), List.map_append]
   have : (a.drop 12)[k]'(by omega) = a[12 + k]'(by omega) := by rw [List.getElem_drop]
   rw [this]; exact ho5
 · have : k = 4 := by omega
   subst this
   rw [List.take_of_length_le (by omega)] at ho2
   have hlen : (text4V a).length <= 4 * (21 + 1) := by
     have := qlS ((a.drop 12).map fun c => decL c.toNat) 46 21 (fun x hx => by
       obtain ⟨c, _, rfl⟩ := List.mem_map.1 hx
       have := qbc c
       exact zS (by omega))
     rw [List.length_map, hl4] at this
     exact this
   refine callK (qnL ho2.all [46] (by rw [List.length_map]; omega) (Nat.le_trans hlen (by decide))) ?_
   rintro _ w3 ⟨rfl, hb3⟩
   have hB3 := qb hB2 hb3 hB2.size
   exact ⟨_, rfl, rfl, qb hB1 hB3 hB1.size⟩
end Go.Proofs.YtndbpedpdbjkpaaGreatDoor
namespace Go.Pk
def hexC (d : Nat) : UInt8 := UInt8.ofNat (if d < 10 then 48 + d else 87 + d)
def hexL (n : Nat) : List UInt8 := if n < 16 then [hexC n] else hexL (n / 16) ++ [hexC (n % 16)]
termination_by n
theorem qdK {n : Nat} (h : n < 16) : hexL n = [hexC n] := by rw [hexL, if_pos h]
theorem hexL_more {n : Nat} (h : ¬ n < 16) : hexL n = hexL (n / 16) ++ [hexC (n % 16)] := by rw [hexL, if_neg h]
theorem qcp {n : Nat} (h : n < 65536) : (hexL n).length <= 4 := by
 have step : ∀ m M : Nat, (m / 16 < M -> (hexL (m / 16)).length <= 3) -> True := fun _ _ _ => trivial
 have l1 : ∀ n, n < 16 -> (hexL n).length = 1 := fun n h => by rw [qdK h]; rfl
 have l2 : ∀ n, n < 256 -> (hexL n).length <= 2 := fun n h => by
   by_cases c : n < 16
   · rw [l1 n c]; omega
   · rw [hexL_more c, List.length_append, l1 (n / 16) (by omega)]; simp
 have l3 : ∀ n, n < 4096 -> (hexL n).length <= 3 := fun n h => by
   by_cases c : n < 16
   · rw [l1 n c]; omega
   · have := l2 (n / 16) (by omega)
     rw [hexL_more c, List.length_append]; simp; omega
 by_cases c : n < 16
 · rw [l1 n c]; omega
 · have := l3 (n / 16) (by omega)
   rw [hexL_more c, List.length_append]; simp; omega
def quY : List UInt8 := [48, 49, 50, 51, 52, 53, 54, 55, 56, 57, 97, 98, 99, 100, 101, 102, 103, 104, 105, 106, 107, 108, 109, 110, 111, 112, 113, 114, 115, 116, 117, 118, 119, 120, 121, 122]
theorem qoX : ∀ d : Nat, d < 16 -> qA quY (d : Int) = (((hexC d).toNat : Nat) : Int) := by decide
theorem qtA {n : Int} (h0 : 0 <= n) (h1 : n < 18446744073709551616) : IntKind.u64.wrap n = n := by
 have e : IntKind.u64.wrap n = n % 18446744073709551616 := rfl
 rw [e]; omega
theorem qu0 {u : Nat} (h : u < 65536) : IntKind.u64.wrap (((BitVec.ofInt (IntKind.bits .u64) (u : Int)) &&& (BitVec.ofInt (IntKind.bits .u64) (IntKind.u64.wrap ((IntKind.u64.wrap (16 : Int)) - (1 : Int))))).toNat : Nat) = ((u % 16 : Nat) : Int) := by
 have e15 : IntKind.u64.wrap ((IntKind.u64.wrap (16 : Int)) - (1 : Int)) = ((15 : Nat) : Int) := by decide
 have b64 : ∀ n : Nat, n < 65536 -> (BitVec.ofInt (IntKind.bits .u64) (n : Int)).toNat = n := fun n hn => by
   show (BitVec.ofInt 64 (n : Int)).toNat = n
   rw [BitVec.toNat_ofInt]
   have h : ((2 ^ 64 : Nat) : Int) = 18446744073709551616 := by decide
   rw [h]; omega
 rw [e15, BitVec.toNat_and, b64 u h, b64 15 (by decide)]
 have : u &&& 15 = u % 16 := Nat.and_two_pow_sub_one_eq_mod u 4
 rw [this, qtA (by omega) (by omega)]
theorem shr4 {u : Nat} : Int.fdiv (u : Int) (2 ^ (min (Int.toNat (IntKind.u64.wrap (4 : Int))) (IntKind.bits .u64))) = ((u / 16 : Nat) : Int) := by
 have e1 : (2 : Int) ^ (min (Int.toNat (IntKind.u64.wrap (4 : Int))) (IntKind.bits .u64)) = 16 := by decide
 rw [e1, Int.fdiv_eq_ediv_of_nonneg _ (by decide)]; omega
theorem qtv (k o j : Nat) : Addr.add ⟨k, o, none⟩ j = ⟨k, o + j, none⟩ := by unfold Addr.add; split <;> simp_all
theorem qm.sl8 {w : World} {k : Nat} {T : TypeId} {p xs : List UInt8} (h : qm w k T (adC (p ++ xs))) (hl : xs.length <= maxLen) : Sl tU8 w AllB (some ⟨k, p.length, none⟩) xs.length xs.length xs := by
 refine ⟨rfl, Nat.le_refl _, hl, .inr ⟨k, p.length, rfl, h.lt, trivial, adC xs, qbD (fun _ _ => trivial), fun j hj => ?_⟩⟩
 rw [h.cell]
 unfold adC
 rw [List.map_append, List.getElem?_append_right (by simp)]
 simp
end Go.Pk
namespace Go.Proofs.YtndbpedpdbjkpaaGreatDoor
open Go.Pk
open Go.RowKit (Below)
theorem qgM (w : World) (he : Env w) : Calls prog qaL #[.int .u64 (IntKind.u64.wrap (16 : Int))] w (Ret fun v w' => v = .int .i64 4 /\ w' = w) := by
 have e16 : IntKind.u64.wrap (16 : Int) = 16 := by decide
 rw [e16]
 apply qdW
 unfold qb8
 refine callK (K := fun v w' => v = .int .i64 4 /\ w' = w) ?_ ?_
 · apply qdB
   unfold qbB
   refine BCase.no (by decide) ⟨by decide, ⟨⟨by decide +kernel, by decide +kernel⟩, rfl⟩, 4, ?_, rfl, rfl⟩
   have hE : ∀ E : Int, E = 15 -> (Instr.loadAt qw (.pointer (qn (some ⟨5, 0, none⟩) E 1))).run prog w = .ok (.int .u8 4) w := by
     rintro _ rfl
     exact loadVar_one un_uint8 rfl he.tz
   exact hE _ (by decide +kernel)
 · rintro _ w1 ⟨rfl, hw⟩
   exact ⟨_, rfl, rfl, hw⟩
theorem qn8 (n : Nat) (hn : n < 65536) (w : World) (he : Env w) : Calls prog j3 #[.slice none 0 0, .int .u64 (n : Int), .int .i64 16, .bool false, .bool false] w
   (Ret fun v w' => v = .tuple #[.slice none 0 0, .string (mkS (hexL n))] /\ Below w.heap.size w w') := by
 apply qc8
 unfold qa8
 refine factJ (w := w) True ?_ (fun _ => ?_)
 · refine ⟨fun b w' => w' = w /\ b = false, BCase.no (by decide) (BCase.no (by decide) ⟨rfl, by decide⟩), fun b => AllJ.of ?_ _⟩
   rintro wj ⟨hw, hb⟩
   rw [hw, hb]
   exact BCase.no rfl ⟨rfl, trivial⟩
 intro k w1 hk hw1
 have hB1 := (hw1 ▸ qf w _ : Below w.heap.size w w1)
 have h1 : qm w1 k qdR (adC (List.replicate 65 0 ++ [])) := qm.new hk hw1
 have hk0 : w.heap.size <= k := by omega
 refine intJ (w := w1) (n : Int) (BCase.no rfl ⟨rfl, rfl⟩) ?_
 refine ⟨fun i w' => ∃ xs : List UInt8, i = ((65 - xs.length : Nat) : Int) /\ xs = hexL n /\ qm w' k qdR (adC (List.replicate (65 - xs.length) 0 ++ xs)) /\ Below w.heap.size w w', ?_, fun i => AllJ.of ?_ _⟩
 · refine callK (K := fun v w' => v = .bool true /\ w' = w1) ?_ ?_
   · apply qcz
     unfold qaR
     exact ⟨congrArg Value.bool (by decide +kernel), rfl⟩
   rintro _ w2 ⟨rfl, hw2⟩
   rw [hw2]
   refine ⟨_, rfl, BCase.yes rfl ?_⟩
   refine callK (qgM w1 (he.step hB1)) ?_
   rintro _ w3 ⟨rfl, hw3⟩
   rw [hw3]
   refine ⟨_, rfl, ?_⟩
   refine ⟨fun m u i w' => ∃ (q t : Nat) (xs : List UInt8), u = (q : Int) /\ m = q /\ t = xs.length /\ i = ((65 - t : Nat) : Int) /\ hexL n = hexL q ++ xs /\ q * 16 ^ t <= 65535 /\ (t = 0 \/ 0 < q) /\ qm w' k qdR (adC (List.replicate (65 - t) 0 ++ xs)) /\ Below w.heap.size w w',
     ⟨_, n, 0, [], rfl, rfl, rfl, rfl, by rw [List.append_nil], by omega, .inl rfl, h1, hB1⟩, ?_⟩
   intro m u i
   refine AllJ.of ?_ _
   rintro w4 ⟨q, t, xs, rfl, hm, rfl, rfl, hx, hq, ht, h4, hB4⟩
   obtain rfl : q = m := hm.symm
   have ht3 : xs.length <= 3 := by
     rcases ht with h0 | h0
     · omega
     · refine Decidable.byContradiction fun hc => ?_
       have h16 : 16 ^ 4 <= 16 ^ xs.length := Nat.pow_le_pow_right (by decide) (by omega)
       have : 16 ^ xs.length <= q * 16 ^ xs.length := Nat.le_mul_of_pos_left _ h0
       have e : (16 : Nat) ^ 4 = 65536 := rfl
       omega
   have hq6 : q < 65536 := by
     have : q <= q * 16 ^ xs.length := Nat.le_mul_of_pos_right _ (Nat.pos_of_ne_zero (by simp))
     omega
   have e16 : IntKind.u64.wrap (16 : Int) = 16 := by decide
   have ei : i64.wrap (((65 - xs.length : Nat) : Int) - 1) = ((65 - (xs.length + 1) : Nat) : Int) := by rw [wrap_i64 (by omega) (by omega)]; omega
   have hset : ∀ c : UInt8, (adC (List.replicate (65 - xs.length) 0 ++ xs)).set (65 - (xs.length + 1)) (.int .u8 ((c.toNat : Nat) : Int)) = adC (List.replicate (65 - (xs.length + 1)) 0 ++ (c :: xs)) := fun c => by
     rw [qig, show 65 - xs.length = (65 - (xs.length + 1)) + 1 by omega, List.replicate_succ' (n := 65 - (xs.length + 1)), List.append_assoc, List.set_append_right _ _ (by simp), List.length_replicate, Nat.sub_self]; rfl
   have hput := fun c : UInt8 => h4.put (P := prog) qeu (i := 65 - (xs.length + 1)) (v := .int .u8 ((c.toNat : Nat) : Int)) (by rw [zF]; simp; omega) rfl rfl
   rw [ei, z8, Nat.zero_add]
   have hin : (0 <= ((65 - (xs.length + 1) : Nat) : Int) /\ ((65 - (xs.length + 1) : Nat) : Int) < ((65 : Nat) : Int)) /\ true = true := ⟨⟨by omega, by omega⟩, rfl⟩
   refine BCase.of (fun h => ?_) (fun h => ?_)
   · rw [e16] at h
     simp only [ge_iff_le, dTx] at h
     have hq16 : 16 <= q := by omega
     rw [qu0 hq6, shr4, show qA [48, 49, 50, 51, 52, 53, 54, 55, 56, 57, 97, 98, 99, 100, 101, 102, 103, 104, 105, 106, 107, 108, 109, 110, 111, 112, 113, 114, 115, 116, 117, 118, 119, 120, 121, 122] ((q % 16 : Nat) : Int) = _ from qoX (q % 16) (by omega)]
     obtain ⟨w5, hs5, h5, hg5⟩ := hput (hexC (q % 16))
     rw [hset] at h5
     refine ⟨⟨by omega, by simp; omega⟩, hin, w5, hs5, by decide, q / 16, by omega, q / 16, xs.length + 1, hexC (q % 16) :: xs, rfl, rfl, by simp, rfl, ?_, ?_, .inr (by omega), h5, Below.put hB4 hg5 hk0⟩
     · rw [hx, hexL_more (n := q) (by omega)]; simp
     · have e : q / 16 * 16 ^ (xs.length + 1) = (q / 16 * 16) * 16 ^ xs.length := by rw [Nat.pow_succ, Nat.mul_comm (16 ^ xs.length) 16, Nat.mul_assoc]
       rw [e]
       exact Nat.le_trans (Nat.mul_le_mul_right _ (by omega)) hq
   · rw [e16] at h
     simp only [ge_iff_le, dFx] at h
     have hq16 : q < 16 := by omega
     rw [show qA [48, 49, 50, 51, 52, 53, 54, 55, 56, 57, 97, 98, 99, 100, 101, 102, 103, 104, 105, 106, 107, 108, 109, 110, 111, 112, 113, 114, 115, 116, 117, 118, 119, 120, 121, 122] (q : Int) = _ from qoX q hq16]
     obtain ⟨w5, hs5, h5, hg5⟩ := hput (hexC q)
     rw [hset] at h5
     refine ⟨⟨by omega, by simp; omega⟩, hin, w5, hs5, hexC q :: xs, rfl, ?_, h5, Below.put hB4 hg5 hk0⟩
     rw [hx, qdK hq16]; rfl
 · rintro w5 ⟨xs, rfl, hxs, h5, hB5⟩
   have hl := qcp hn
   rw [<- hxs] at hl
   refine intJ (w := w5) ((65 - xs.length : Nat) : Int) (BCase.no rfl ⟨rfl, rfl⟩) ?_
   refine BCase.no rfl ⟨⟨by omega, by omega⟩, ?_⟩
   have hpos : 0 < xs.length := by
     rw [hxs]
     by_cases c : n < 16
     · rw [qdK c]; exact Nat.one_pos
     · rw [hexL_more c]; simp
   have ea : (if 65 = (Int.toNat ((65 - xs.length : Nat) : Int)) then (⟨k, 0, none⟩ : Addr) else Addr.add ⟨k, 0, none⟩ ((Int.toNat ((65 - xs.length : Nat) : Int)) * 1)) = ⟨k, (List.replicate (65 - xs.length) (0 : UInt8)).length, none⟩ := by
     rw [List.length_replicate, Int.toNat_natCast, if_neg (by omega), qtv, Nat.zero_add, Nat.mul_one]
   have en : 65 - (Int.toNat ((65 - xs.length : Nat) : Int)) = xs.length := by rw [Int.toNat_natCast]; omega
   rw [ea, en]
   refine ⟨xs, qeX zQ un_string un_uint8 (h5.sl8 (by unfold maxLen; omega)), ?_⟩
   rw [hxs]
   exact ⟨rfl, hB5⟩
theorem qof (n : Nat) (hn : n < 65536) (w : World) (he : Env w) : Calls prog qcd #[.int .u64 (n : Int), .int .i64 16] w (Ret fun v w' => v = .string (mkS (hexL n)) /\ Below w.heap.size w w') := by
 apply qf1
 unfold qdt
 refine callK (K := fun v w' => v = .string (mkS (hexL n)) /\ Below w.heap.size w w') ?_ ?_
 · apply qc2
   unfold qa1
   refine BCase.no (by decide) ?_
   refine callK (qn8 n hn w he) ?_
   rintro _ w1 ⟨rfl, hb1⟩
   exact ⟨_, _, _, _, rfl, rfl, hb1⟩
 · rintro _ w1 ⟨rfl, hb1⟩
   exact ⟨_, rfl, rfl, hb1⟩
end Go.Proofs.YtndbpedpdbjkpaaGreatDoor
namespace Go.Pk
def grpA (a : List UInt8) (k : Nat) : Nat := (a.getD (2 * k) 0).toNat * 256 + (a.getD (2 * k + 1) 0).toNat
def gL (a : List UInt8) : List Nat := [grpA a 0, grpA a 1, grpA a 2, grpA a 3, grpA a 4, grpA a 5, grpA a 6, grpA a 7]
theorem qdq (a : List UInt8) : (gL a).length = 8 := rfl
theorem qfr (a : List UInt8) (k : Nat) : grpA a k < 65536 := by
 have h1 := qbc (a.getD (2 * k) 0); have h2 := qbc (a.getD (2 * k + 1) 0)
 unfold grpA; omega
theorem qhX (a : List UInt8) : ∀ (k : Nat) (h : k < (gL a).length), (gL a)[k] = grpA a k
 | 0, _ => rfl
 | 1, _ => rfl
 | 2, _ => rfl
 | 3, _ => rfl
 | 4, _ => rfl
 | 5, _ => rfl
 | 6, _ => rfl
 | 7, _ => rfl
 | n + 8, h => by rw [qdq] at h; omega
theorem qeo (a : List UInt8) : ∀ x ∈ gL a, x < 65536 := fun x hx => by
 obtain ⟨i, hi, rfl⟩ := List.mem_iff_getElem.1 hx
 rw [qhX]; exact qfr a i
def wrL (l : List Nat) : List UInt8 := Lib.join (l.map hexL) [58]
theorem qbz {l : List Nat} (h : ∀ x ∈ l, x < 65536) : (wrL l).length <= l.length * 5 := by
 have := qlS (l.map hexL) 58 4 (fun x hx => by
   obtain ⟨c, hc, rfl⟩ := List.mem_map.1 hx
   exact qcp (h c hc))
 rwa [List.length_map] at this
def zst (s : Nat × Nat × Nat) (i : Nat) (z : Bool) : Nat × Nat × Nat :=
 if s.2.1 < (if z = true then s.2.2 + 1 else 0) then (i + 1 - (if z = true then s.2.2 + 1 else 0), (if z = true then s.2.2 + 1 else 0), (if z = true then s.2.2 + 1 else 0)) else (s.1, s.2.1, (if z = true then s.2.2 + 1 else 0))
def qdV (zs : List Bool) : Nat -> Nat × Nat × Nat
 | 0 => (0, 0, 0)
 | k + 1 => zst (qdV zs k) k (zs.getD k false)
def zc (zs : List Bool) : Nat × Nat := ((qdV zs 8).1, (qdV zs 8).2.1)
def allZ (zs : List Bool) (p l : Nat) : Bool := (List.range l).all fun j => zs.getD (p + j) false
def zok (zs : List Bool) : Bool :=
 decide ((zc zs).1 + (zc zs).2 <= 8) && (decide ((zc zs).2 < 2) || allZ zs (zc zs).1 (zc zs).2) &&
   (List.range 9).all fun L => (List.range 9).all fun A => !(decide (2 <= L) && decide (A + L <= 8) && allZ zs A L) || (decide (L < (zc zs).2) || (decide (L = (zc zs).2) && decide ((zc zs).1 <= A)))
theorem qtS : ∀ b0 b1 b2 b3 b4 b5 b6 b7 : Bool, zok [b0, b1, b2, b3, b4, b5, b6, b7] = true := by decide +kernel
theorem qc3 {zs : List Bool} (h : zs.length = 8) : (zc zs).1 + (zc zs).2 <= 8 /\ (2 <= (zc zs).2 -> allZ zs (zc zs).1 (zc zs).2 = true) /\
   ∀ L A, 2 <= L -> A + L <= 8 -> allZ zs A L = true -> L < (zc zs).2 \/ (L = (zc zs).2 /\ (zc zs).1 <= A) := by
 match zs, h with
 | [b0, b1, b2, b3, b4, b5, b6, b7], _ =>
   have := qtS b0 b1 b2 b3 b4 b5 b6 b7
   unfold zok at this
   rw [Bool.and_eq_true, Bool.and_eq_true] at this
   obtain ⟨⟨h1, h2⟩, h3⟩ := this
   refine ⟨of_decide_eq_true h1, fun hl => ?_, fun L A hL hA hz => ?_⟩
   · rw [Bool.or_eq_true, dTx] at h2
     exact h2.resolve_left (by omega)
   · have := List.all_eq_true.1 (List.all_eq_true.1 h3 L (List.mem_range.2 (by omega))) A (List.mem_range.2 (by omega))
     rw [decide_eq_true hL, decide_eq_true hA, hz] at this
     simpa using this
theorem qpf (zs : List Bool) : ∀ k, (qdV zs k).2.2 <= k /\ (qdV zs k).2.1 <= k /\ (qdV zs k).1 <= k
 | 0 => ⟨Nat.le_refl _, Nat.le_refl _, Nat.le_refl _⟩
 | k + 1 => by
   obtain ⟨h1, h2, h3⟩ := qpf zs k
   unfold qdV zst
   cases zs.getD k false <;> simp only [Bool.false_eq_true, if_false, if_true] <;> split <;> simp <;> omega
def zsA (a : List UInt8) : List Bool := (gL a).map (· == 0)
theorem qit (a : List UInt8) : (zsA a).length = 8 := rfl
def qaJ (a : List UInt8) : List UInt8 :=
 if (zc (zsA a)).2 < 2 then wrL (gL a) else wrL ((gL a).take (zc (zsA a)).1) ++ [58, 58] ++ wrL ((gL a).drop ((zc (zsA a)).1 + (zc (zsA a)).2))
theorem qvd {a d : Nat} (ha : a < 256) (hd : d < 256) : IntKind.u16.wrap (((BitVec.ofInt (IntKind.bits .u16) (IntKind.u16.wrap ((IntKind.u16.wrap (a : Int)) * 2 ^ (min (Int.toNat (8 : Int)) (IntKind.bits .u16))))) ||| (BitVec.ofInt (IntKind.bits .u16) (IntKind.u16.wrap (d : Int)))).toNat : Nat) = ((a * 256 + d : Nat) : Int) := by
 have e1 : (2 : Int) ^ (min (Int.toNat (8 : Int)) (IntKind.bits .u16)) = 256 := by decide
 have w16 : ∀ n : Nat, n < 65536 -> IntKind.u16.wrap (n : Int) = (n : Int) := fun n hn => by
   have : IntKind.u16.wrap (n : Int) = (n : Int) % 65536 := rfl
   rw [this]; omega
 have e2 : (a : Int) * 256 = ((a * 256 : Nat) : Int) := by omega
 have b16 : ∀ n : Nat, n < 65536 -> (BitVec.ofInt (IntKind.bits .u16) (n : Int)).toNat = n := fun n hn => by
   show (BitVec.ofInt 16 (n : Int)).toNat = n
   rw [BitVec.toNat_ofInt]
   have h : ((2 ^ 16 : Nat) : Int) = 65536 := by decide
   rw [h]; omega
 rw [e1, w16 a (by omega), e2, w16 (a * 256) (by omega), w16 d (by omega), BitVec.toNat_or, b16 (a * 256) (by omega), b16 d (by omega)]
 have h3 : a * 256 ||| d = a * 256 + d := by
   have := Nat.two_pow_add_eq_or_of_lt (i := 8) hd a
   rw [Nat.mul_comm a 256]; exact this.symm
 rw [h3, w16 _ (by omega)]
def i16N (l : List Nat) : List Value := i16 (l.map fun x : Nat => (x : Int))
theorem qob (l : List Nat) : (i16N l).length = l.length := by simp [i16N, i16]
theorem qqy (l : List Nat) : One1 (i16N l) := qrR _
theorem qtb (l : List Nat) (i x : Nat) : (i16N l).set i (.int .u16 (x : Int)) = i16N (l.set i x) := by unfold i16N i16; rw [List.map_set, List.map_set]
theorem qnv {l : List Nat} {i : Nat} (h : i < l.length) : (i16N l)[i]? = some (.int .u16 ((l[i] : Nat) : Int)) := by
 unfold i16N i16; rw [List.getElem?_map, List.getElem?_map, List.getElem?_eq_getElem h]; rfl
theorem qm.sl16 {w : World} {k : Nat} {T : TypeId} {l : List Nat} (h : qm w k T (i16N l)) {o n c : Nat} {A : Addr} (hA : 0 < n -> A = ⟨k, o, none⟩) (hn : o + n <= l.length) (hc : n <= c) (hm : c <= maxLen) : Sl tU16 w AllB (some A) n c (((l.drop o).take n).map fun x : Nat => (x : Int)) := by
 have hl : (((l.drop o).take n).map fun x : Nat => (x : Int)).length = n := by simp; omega
 refine ⟨hl.symm, hc, hm, ?_⟩
 by_cases h0 : 0 < n
 · refine .inr ⟨k, o, by rw [hA h0], h.lt, trivial, i16N ((l.drop o).take n), qbD (h1 := fun _ => rfl) (fun _ _ => trivial), fun j hj => ?_⟩
   rw [qob] at hj
   have hj2 : j < n := by rw [List.length_take] at hj; omega
   rw [h.cell, qnv (by omega), qnv hj]
   simp
 · exact .inl (List.length_eq_zero_iff.1 (by omega))
end Go.Pk
namespace Go.Proofs.YtndbpedpdbjkpaaGreatDoor
open Go.Pk
open Go.RowKit (Below)
theorem qmU (a : List UInt8) (ha : a.length = 16) (w : World) : Calls prog qfk #[adV a] w (Ret fun v w' => v = .agg (i16N (gL a)).toArray /\ Below w.heap.size w w') := by
 apply qli
 unfold qhS
 intro k1 w1 hk1 hw1
 have hB1 := (hw1 ▸ qf w _ : Below w.heap.size w w1)
 have h11 : qm w1 k1 qk (adC a) := qm.new hk1 hw1
 intro k2 w2 hk2 hw2
 have hb2 := (hw2 ▸ qf w1 _ : Below w1.heap.size w1 w2)
 have hB2 := qb hB1 hb2 hB1.size
 have h22 : qm w2 k2 qG (i16N [0, 0, 0, 0, 0, 0, 0, 0]) := qm.new hk2 hw2
 intro k3 w3 hk3 hw3
 have hb3 := (hw3 ▸ qf w2 _ : Below w2.heap.size w2 w3)
 have hB3 := qb hB2 hb3 hB2.size
 have h33 : qm w3 k3 qG (i16N [0, 0, 0, 0, 0, 0, 0, 0]) := qm.new hk3 hw3
 have h23 := h22.below hb3
 have h13 := (h11.below hb2).below hb3
 have l1 := h11.lt
 have l2 := h22.lt
 have hk3w : w.heap.size <= k3 := by have := hB2.size; omega
 refine ⟨fun m i w' => ∃ k : Nat, k <= 8 /\ i = (k : Int) /\ m = 8 - k /\ qm w' k3 qG (i16N ((gL a).take k ++ List.replicate (8 - k) 0)) /\ qm w' k2 qG (i16N [0, 0, 0, 0, 0, 0, 0, 0]) /\ qm w' k1 qk (adC a) /\ Below w.heap.size w w',
   ⟨_, 0, by omega, rfl, rfl, h33, h23, h13, hB3⟩, ?_⟩
 intro m i
 refine AllJ.of ?_ _
 rintro w6 ⟨k, hk, rfl, rfl, h36, h26, h16, hB6⟩
 refine BCase.of (fun h => ?_) (fun h => ?_) <;> simp only [dTx, dFx] at h
 · have hk8 : k < 8 := by omega
   have e1 : i64.wrap (2 * (k : Int)) = ((2 * k : Nat) : Int) := by rw [wrap_i64 (by omega) (by omega)]; omega
   have e2 : i64.wrap (((2 * k : Nat) : Int) + 1) = ((2 * k + 1 : Nat) : Int) := by rw [wrap_i64 (by omega) (by omega)]; omega
   rw [e1, e2, z8, z8, z8]
   simp only [Nat.zero_add]
   have hin : (0 <= (k : Int) /\ (k : Int) < ((8 : Nat) : Int)) /\ True := ⟨⟨by omega, by omega⟩, trivial⟩
   have hin1 : (0 <= ((2 * k : Nat) : Int) /\ ((2 * k : Nat) : Int) < ((16 : Nat) : Int)) /\ True := ⟨⟨by omega, by omega⟩, trivial⟩
   have hin2 : (0 <= ((2 * k + 1 : Nat) : Int) /\ ((2 * k + 1 : Nat) : Int) < ((16 : Nat) : Int)) /\ True := ⟨⟨by omega, by omega⟩, trivial⟩
   have ld : ∀ (i : Nat) (hi : i < a.length) (u : World), Below w6.heap.size w6 u -> (Instr.loadAt qw (.pointer (some ⟨k1, i, none⟩))).run prog u = .ok (.int .u8 ((a[i].toNat : Nat) : Int)) u := fun i hi u hu => (h16.below hu).load1 un_uint8 rfl (qcO hi)
   refine ⟨hin1, _, ld _ (by omega), by decide, hin2, _, ld _ (by omega), hin, ?_⟩
   intro wq hq
   have hd := qb hB6 hq hB6.size
   have d3 := h36.below hq
   have d2 := h26.below hq
   have d1 := h16.below hq
   have hval : (a[2 * k]'(by omega)).toNat * 256 + (a[2 * k + 1]'(by omega)).toNat = grpA a k := by
     unfold grpA
     rw [List.getD_eq_getElem?_getD, List.getD_eq_getElem?_getD, List.getElem?_eq_getElem (by omega), List.getElem?_eq_getElem (by omega)]; rfl
   have hor := qvd (a := (a[2 * k]'(by omega)).toNat) (d := (a[2 * k + 1]'(by omega)).toNat) (by have := qbc (a[2 * k]'(by omega)); omega) (by have := qbc (a[2 * k + 1]'(by omega)); omega)
   rw [hval] at hor
   have hgl := qdq a
   have hlen : ((gL a).take k ++ List.replicate (8 - k) 0).length = 8 := by simp [hgl]; omega
   obtain ⟨w8, hs8, h58, hg8⟩ := d3.put (P := prog) qpj (i := k) (v := .int .u16 ((grpA a k : Nat) : Int)) (by rw [qob, hlen]; omega) rfl rfl
   have hset : ((gL a).take k ++ List.replicate (8 - k) 0).set k (grpA a k) = (gL a).take (k + 1) ++ List.replicate (8 - (k + 1)) 0 := by
     have hl : ((gL a).take k).length = k := by rw [List.length_take, hgl]; omega
     rw [List.set_append_right _ _ (by omega), hl, Nat.sub_self, show 8 - k = (8 - (k + 1)) + 1 by omega, List.replicate_succ (n := 8 - (k + 1)), List.set_cons_zero, List.take_succ_eq_append_getElem (by omega), qhX, List.append_assoc]; rfl
   rw [qtb, hset] at h58
   rw [<- hor] at hs8
   have hfin : ∃ m' : Nat, m' < 8 - k /\ ∃ k' : Nat, k' <= 8 /\ i64.wrap ((k : Int) + 1) = (k' : Int) /\ m' = 8 - k' /\ qm w8 k3 qG (i16N ((gL a).take k' ++ List.replicate (8 - k') 0)) /\ qm w8 k2 qG (i16N [0, 0, 0, 0, 0, 0, 0, 0]) /\ qm w8 k1 qk (adC a) /\ Below w.heap.size w w8 :=
     ⟨8 - (k + 1), by omega, k + 1, by omega, by rw [wrap_i64 (by omega) (by omega)]; omega, rfl, h58, d2.grown hg8 (qP (by omega)), d1.grown hg8 (qP (by omega)), Below.put hd hg8 hk3w⟩
   exact ⟨w8, hs8, hfin⟩
 · have : k = 8 := by omega
   subst this
   have e8 : (gL a).take 8 ++ List.replicate (8 - 8) 0 = gL a := by rw [List.take_of_length_le (by rw [qdq]; exact Nat.le_refl _)]; simp
   rw [e8] at h36
   have hlen : (i16N (gL a)).length = 8 := by rw [qob]; rfl
   obtain ⟨w7, hs7, h27, hg7⟩ := qjS.store0 hlen (qqy _) h26 rfl
   refine ⟨_, _, _, _, _, _, _, _, qjS.load0 h36 hlen, w7, hs7, _, _, _, _, _, _, _, _, qm.res (qjS.load0 h27 hlen), rfl, Below.put hB6 hg7 (by omega)⟩
theorem qef {w : World} {A : Bl} {a : Option Addr} {n c : Nat} {l : List Nat} (hs : Sl tU16 w AllB a n c (l.map fun x : Nat => (x : Int))) (hl : l.length <= 8) (hb : ∀ x ∈ l, x < 65536) (he : Env w) :
   Calls prog qce #[.slice a n c] w (Ret fun v w' => v = .string (mkS (wrL l)) /\ Below w.heap.size w w') := by
 apply qkr
 unfold qgR
 have hn := hs.len
 rw [List.length_map] at hn
 refine ⟨fun m a3 l3 c3 i w' => ∃ k : Nat, k <= l.length /\ i = (k : Int) /\ m = l.length - k /\ Ow tS qe w' NoB a3 l3 c3 ((l.take k).map hexL) /\ qb9 w.heap.size a3 /\ Below w.heap.size w w',
   ⟨_, 0, by omega, rfl, rfl, Ow.nil _ _ _ _, qb9.none _, Below.refl _ _⟩, ?_⟩
 intro m a3 l3 c3 i
 refine AllJ.of ?_ _
 rintro w2 ⟨k, hk, rfl, rfl, ho2, hf2, hB2⟩
 refine BCase.of (fun h => ?_) (fun h => ?_) <;> simp only [dTx, dFx] at h
 · have hkl : k < l.length := by omega
   have hs2 := hs.below hB2
   obtain ⟨v, hv, hrep⟩ := hs2.load1 (i := (k : Int)) qk4 rfl rfl (by simp; omega)
   simp only [Int.toNat_natCast, List.getElem_map] at hv hrep
   obtain ⟨hv', -⟩ := hrep
   obtain rfl := (List.cons.inj hv').1
   have hgk := hb l[k] (List.getElem_mem hkl)
   refine ⟨⟨⟨by omega, h⟩, hs2.isSome (by simp; omega)⟩, _, hv, ?_⟩
   rw [qtA (by omega) (by omega)]
   refine callK (qof _ hgk w2 (he.step hB2)) ?_
   rintro _ w3 ⟨rfl, hb3⟩
   have hB3 := qb hB2 hb3 hB2.size
   refine ⟨_, rfl, ?_⟩
   intro k4 w4 hk4' hw4
   have hll : ((l.take k).map hexL).length <= 8 := by simp; omega
   obtain ⟨w5, a5, n5, c5, hr, ho5, hf5, hb5⟩ := qp8 (ty := qD) (w0 := w) (cm := 1) (vs := [_]) (jY _) qa2 zl (by decide) (ho2.below hb3) hf2 hB3 hk4' hw4 (qfI trivial) (by omega)
   refine ⟨w5, a5, n5, c5, hr, l.length - (k + 1), by omega, k + 1, by omega, by rw [wrap_i64 (by omega) (by omega)]; omega, rfl, ?_, hf5, hb5⟩
   rw [List.take_succ_eq_append_getElem hkl, List.map_append]
   exact ho5
 · have : k = l.length := by omega
   subst this
   rw [List.take_length] at ho2
   have hlen := qbz hb
   refine callK (qnL ho2.all [58] (by rw [List.length_map]; omega) (by show (wrL l).length <= _; omega)) ?_
   rintro _ w3 ⟨rfl, hb3⟩
   exact ⟨_, rfl, rfl, qb hB2 hb3 hB2.size⟩
theorem qnz (g0 g1 g2 g3 g4 g5 g6 g7 : Nat) (w : World) :
   Calls prog qgs #[.agg #[.int .u16 (g0 : Int), .int .u16 (g1 : Int), .int .u16 (g2 : Int), .int .u16 (g3 : Int), .int .u16 (g4 : Int), .int .u16 (g5 : Int), .int .u16 (g6 : Int), .int .u16 (g7 : Int)]] w
     (Ret fun v w' => v = .tuple #[.int .i64 ((zc ([g0, g1, g2, g3, g4, g5, g6, g7].map (· == 0))).1 : Int), .int .i64 ((zc ([g0, g1, g2, g3, g4, g5, g6, g7].map (· == 0))).2 : Int)] /\ Below w.heap.size w w') := by
 apply qml
 unfold qjs
 intro k1 w1 hk1 hw1
 have hB1 := (hw1 ▸ qf w _ : Below w.heap.size w w1)
 have h11 : qm w1 k1 qG (i16N [g0, g1, g2, g3, g4, g5, g6, g7]) := qm.new hk1 hw1
 obtain ⟨G, hG⟩ : ∃ G, G = [g0, g1, g2, g3, g4, g5, g6, g7] := ⟨_, rfl⟩
 have hl8 : G.length = 8 := by rw [hG]; rfl
 rw [<- hG] at h11 ⊢
 clear hG
 refine ⟨fun m p lo ru i w' => ∃ k : Nat, k <= 8 /\ i = (k : Int) /\ m = 8 - k /\ p = ((qdV (G.map (· == 0)) k).1 : Int) /\ lo = ((qdV (G.map (· == 0)) k).2.1 : Int) /\ ru = ((qdV (G.map (· == 0)) k).2.2 : Int) /\ w' = w1, ⟨_, 0, by omega, rfl, rfl, rfl, rfl, rfl, rfl⟩, ?_⟩
 intro m p lo ru i
 refine AllJ.of ?_ _
 rintro w2 ⟨k, hk, rfl, rfl, rfl, rfl, rfl, hw2⟩
 rw [hw2]; clear hw2
 obtain ⟨b1, b2, b3⟩ := qpf (G.map (· == 0)) k
 refine BCase.of (fun h => ?_) (fun h => ?_) <;> simp only [dTx, dFx] at h
 · have hk8 : k < G.length := by omega
   have hzk : (G.map (· == 0)).getD k false = (G[k] == 0) := by
     rw [List.getD_eq_getElem?_getD, List.getElem?_map, List.getElem?_eq_getElem hk8]; rfl
   rw [z8, Nat.zero_add]
   have ew : i64.wrap ((k : Int) + 1) = ((k + 1 : Nat) : Int) := by rw [wrap_i64 (by omega) (by omega)]; omega
   rw [ew]
   refine intJ (B := fun J => _ /\ ∃ n15 : Int, _ /\ BCase (n15 != 0) (J 0 w1) (J _ w1)) ((if (G[k] == 0) = true then (qdV (G.map (· == 0)) k).2.2 + 1 else 0 : Nat) : Int) ⟨⟨⟨by omega, by omega⟩, rfl⟩, _, h11.load1 qk4 rfl (qnv hk8), BCase.of (fun h2 => ⟨rfl, ?_⟩) (fun h2 => ⟨rfl, ?_⟩)⟩ ?_
   · rw [if_neg (by simp at h2 ⊢; omega)]; rfl
   · rw [if_pos (by simp at h2 ⊢; omega), wrap_i64 (by omega) (by omega)]; omega
   · have hz : qdV (G.map (· == 0)) (k + 1) = zst (qdV (G.map (· == 0)) k) k (G[k] == 0) := by rw [<- hzk]; rfl
     have hru : (if (G[k] == 0) = true then (qdV (G.map (· == 0)) k).2.2 + 1 else 0) <= k + 1 := by split <;> omega
     unfold zst at hz
     generalize (if (G[k] == 0) = true then (qdV (G.map (· == 0)) k).2.2 + 1 else 0) = ru at *
     refine BCase.of (fun h2 => ?_) (fun h2 => ?_) <;> simp only [gt_iff_lt, dTx, dFx] at h2
     · rw [if_pos (by omega)] at hz
       refine ⟨8 - (k + 1), by omega, k + 1, by omega, rfl, rfl, ?_, ?_, ?_, rfl⟩
       · rw [hz, wrap_i64 (by omega) (by omega)]; show _ = ((k + 1 - ru : Nat) : Int); omega
       · rw [hz]
       · rw [hz]
     · rw [if_neg (by omega)] at hz
       exact ⟨8 - (k + 1), by omega, k + 1, by omega, rfl, rfl, by rw [hz], by rw [hz], by rw [hz], rfl⟩
 · have : k = 8 := by omega
   subst this
   exact ⟨rfl, hB1⟩
end Go.Proofs.YtndbpedpdbjkpaaGreatDoor
namespace Go.Proofs.YtndbpedpdbjkpaaGreatDoor
open Go.Pk
open Go.RowKit (Below)
theorem qok (a : List UInt8) (ha : a.length = 16) (w : World) (he : Env w) : Calls prog qgH #[adV a] w (Ret fun v w' => v = .string (mkS (qaJ a)) /\ Below w.heap.size w w') := by
 apply qms
 unfold qiO
 intro k1 w1 hk1 hw1
 have hB1 := (hw1 ▸ qf w _ : Below w.heap.size w w1)
 have h11 : qm w1 k1 qk (adC a) := qm.new hk1 hw1
 refine ⟨_, qR.load0 h11 (by rw [zF, ha]), ?_⟩
 refine callK (qmU a ha w1) ?_
 rintro _ w2 ⟨rfl, hb2⟩
 have hB2 := qb hB1 hb2 hB1.size
 refine ⟨_, _, _, _, _, _, _, _, rfl, ?_⟩
 refine qjS.new (zs := i16N [0, 0, 0, 0, 0, 0, 0, 0]) (cs := i16N (gL a)) rfl rfl (qqy _) w2 fun k3 w3 hk3 h3 hb3 => ?_
 have hB3 := qb hB2 hb3 hB2.size
 refine ⟨_, _, _, _, _, _, _, _, qjS.load0 h3 rfl, ?_⟩
 refine callK (qnz (grpA a 0) (grpA a 1) (grpA a 2) (grpA a 3) (grpA a 4) (grpA a 5) (grpA a 6) (grpA a 7) w3) ?_
 rintro _ w4 ⟨rfl, hb4⟩
 have hB4 := qb hB3 hb4 hB3.size
 have h4 := h3.below hb4
 have hz := qc3 (qit a)
 show ∃ n10_0 n10_1 : Int, (Ending.returned (.tuple #[.int .i64 ((zc (zsA a)).1 : Int), .int .i64 ((zc (zsA a)).2 : Int)]) : Ending) = .returned (.tuple #[.int .i64 n10_0, .int .i64 n10_1]) /\ _
 have ht : qaJ a = if (zc (zsA a)).2 < 2 then wrL (gL a) else wrL ((gL a).take (zc (zsA a)).1) ++ [58, 58] ++ wrL ((gL a).drop ((zc (zsA a)).1 + (zc (zsA a)).2)) := rfl
 rw [ht]; clear ht
 generalize zc (zsA a) = Z at *
 obtain ⟨p, lo⟩ := Z
 have hsum : p + lo <= 8 := hz.1
 refine ⟨(p : Int), (lo : Int), rfl, ?_⟩
 show BCase _ _ _
 have hgl := qdq a
 refine BCase.of (fun h => ?_) (fun h => ?_) <;> simp only [dTx, dFx] at h
 · rw [if_pos (show lo < 2 by omega)]
   have hs := h4.sl16 (o := 0) (n := 8) (c := 8) (A := ⟨k3, 0, none⟩) (fun _ => rfl) (by rw [hgl]; omega) (Nat.le_refl _) (by unfold maxLen; omega)
   have e8 : ((gL a).drop 0).take 8 = gL a := by rw [List.drop_zero, List.take_of_length_le (by omega)]
   rw [e8] at hs
   refine ⟨trivial, ?_⟩
   refine callK (qef (A := AllB) hs (by omega) (qeo a) (he.step hB4)) ?_
   rintro _ w5 ⟨rfl, hb5⟩
   exact ⟨_, rfl, rfl, qb hB4 hb5 hB4.size⟩
 · rw [if_neg (show ¬ lo < 2 by omega)]
   have e1 : i64.wrap ((p : Int) + (lo : Int)) = ((p + lo : Nat) : Int) := by rw [wrap_i64 (by omega) (by omega)]; omega
   rw [e1]
   simp only [Int.toNat_natCast]
   have hb1 : ∀ x ∈ (gL a).take p, x < 65536 := fun x hx => qeo a x (List.mem_of_mem_take hx)
   have hb2' : ∀ x ∈ (gL a).drop (p + lo), x < 65536 := fun x hx => qeo a x (List.mem_of_mem_drop hx)
   have l1 := qbz hb1
   have l2 := qbz hb2'
   rw [List.length_take] at l1
   rw [List.length_drop] at l2
   refine ⟨⟨by omega, by omega⟩, wrL ((gL a).take p), fun u hu => ?_, fits (by simp; omega), ?_⟩
   · have hs := (h4.below hu).sl16 (o := 0) (n := p) (c := 8) (A := ⟨k3, 0, none⟩) (fun _ => rfl) (by rw [hgl]; omega) (by omega) (by unfold maxLen; omega)
     rw [List.drop_zero] at hs
     exact zj (qef (A := AllB) hs (by rw [List.length_take]; omega) hb1 ((he.step hB4).step hu)) hu
   rintro _ rfl
   refine ⟨⟨by omega, by omega⟩, wrL ((gL a).drop (p + lo)), fun u hu => ?_, fits (by simp; omega), ?_⟩
   · have hs := (h4.below hu).sl16 (o := p + lo) (n := 8 - (p + lo)) (c := 8 - (p + lo)) (A := if 8 = p + lo then ⟨k3, 0, none⟩ else Addr.add ⟨k3, 0, none⟩ ((p + lo) * 1)) (fun hpos => by rw [if_neg (by omega), qtv, Nat.zero_add, Nat.mul_one]) (by rw [hgl]; omega) (Nat.le_refl _) (by unfold maxLen; omega)
     rw [List.take_of_length_le (by rw [List.length_drop]; omega)] at hs
     exact zj (qef (A := AllB) hs (by rw [List.length_drop]; omega) hb2' ((he.step hB4).step hu)) hu
   rintro _ rfl
   intro wq hwq
   exact ⟨by simp only [List.append_assoc], qb hB4 hwq hB4.size⟩
end Go.Proofs.YtndbpedpdbjkpaaGreatDoor
namespace Go.Pk
def eqV (P : Program) : Nat -> TypeId -> Value -> Value -> Option Bool
 | 0, _, _, _ => none
 | d + 1, t, x, y => match P.underlying t, x, y with
   | some .bool, .bool a, .bool b => some (a == b)
   | some (.int _), .int k a, .int k' b => if k = k' then some (a == b) else none
   | some .string, .string a, .string b => some (toL a == toL b)
   | some (.struct fs), .agg xs, .agg ys => if P.stoodInHeld t then none else
       fs.toList.foldr (fun f r => if f.name = "_" then r else match qo7 P f.type xs f.offset, qo7 P f.type ys f.offset with
         | some a, some b => match eqV P d f.type a b, r with
           | some p, some q => some (p && q)
           | _, _ => none
         | _, _ => none) (some true)
   | some (.array n e), .agg xs, .agg ys => match P.info? e with
     | some i => (List.range n).foldr (fun j r => match qo7 P e xs (j * i.size), qo7 P e ys (j * i.size) with
         | some a, some b => match eqV P d e a b, r with
           | some p, some q => some (p && q)
           | _, _ => none
         | _, _ => none) (some true)
     | none => none
   | _, _, _ => none
theorem qrE {P : Program} : ∀ (d : Nat) (t : TypeId) (x y : Value) (b : Bool) (w : World), eqV P d t x y = some b -> (Op.equalIn d t x y).run P w = .ok b w := by
 intro d
 induction d with
 | zero => intro t x y b w h; cases h
 | succ d ih =>
   intro t x y b w h
   unfold eqV at h
   split at h
   · rename_i hu; cases h
     exact run_equalIn_bool' w d t _ _ hu
   · rename_i k0 k a k' c hu
     split at h
     · rename_i e; subst e; cases h
       exact run_equalIn_int w d t _ _ _ _ hu
     · cases h
   · rename_i a c hu; cases h
     rw [run_equalIn_string w d t _ _ hu]
     rw [ByteArray.toList_eq, ByteArray.toList_eq]; rfl
   · rename_i fs xs ys hu
     split at h
     · cases h
     · rename_i hp
       have hf : P.fieldsOf t = fs := by unfold Program.fieldsOf; rw [hu]
       rw [run_equalIn_struct w d t xs ys (by rw [hf]; exact hu) (by simpa using hp), hf]
       revert h
       generalize fs.toList = l
       induction l generalizing b with
       | nil => intro h; cases h; rfl
       | cons f l ihl =>
         intro h
         rw [List.foldr_cons] at h
         unfold Op.eqFields
         by_cases hn : f.name = "_"
         · rw [if_pos hn] at h
           rw [if_neg (by simpa using hn)]
           exact ihl b h
         · rw [if_neg hn] at h
           rw [if_pos hn]
           split at h
           · rename_i a c ha hc
             split at h
             · rename_i p q hpq hq
               cases h
               have h1 := ih f.type a c p w hpq
               have h2 := ihl q hq
               simp only [Sem.run_bind, qja ha, qja hc, Result.andThen_ok, h1]
               cases p
               · simp
               · simpa using h2
             · cases h
           · cases h
   · rename_i n e xs ys hu
     split at h
     · rename_i i hi
       simp only [Op.equalIn, Sem.run_bind, zz hu, Result.andThen_ok, qaU hi]
       rw [Std.Legacy.Range.forIn_eq_forIn_range']
       have er : List.range' 0 ([0:n] : Std.Legacy.Range).size 1 = List.range n := by
         rw [List.range_eq_range']; simp [Std.Legacy.Range.size]
       rw [er]
       clear er
       revert h
       generalize List.range n = l
       induction l generalizing b with
       | nil => intro h; cases h; simp
       | cons j l ihl =>
         intro h
         rw [List.foldr_cons] at h
         split at h
         · rename_i a c ha hc
           split at h
           · rename_i p q hpq hq
             cases h
             have h1 := ih e a c p w hpq
             have h2 := ihl q hq
             simp only [List.forIn_cons, Sem.run_bind, qja ha, qja hc, Result.andThen_ok, h1]
             cases p
             · simp
             · simpa using h2
           · cases h
         · cases h
     · cases h
   · cases h
theorem qqz {P : Program} {t : TypeId} {x y : Operand} {xs ys : Array Value} {b : Bool} (hm : P.eqGuardType P.depth t = false) (h : eqV P 10000 t (.agg xs) (.agg ys) = some b) (w : World) :
   ((do eqGuard .eql t x y (.agg xs) (.agg ys); binOp .eql t (.agg xs) (.agg ys) : Sem Value)).run P w = .ok (.bool b) w := by
 rw [Sem.run_bind, run_eqGuard_agg w .eql t x y xs ys hm, Result.andThen_ok, run_eql_struct, qrE _ _ _ _ _ w h, Result.andThen_ok]
theorem qpq {P : Program} {t : TypeId} {x y : Operand} {xs ys : Array Value} {b : Bool} (hm : P.eqGuardType P.depth t = false) (h : eqV P 10000 t (.agg xs) (.agg ys) = some b) (w : World) :
   ((do eqGuard .neq t x y (.agg xs) (.agg ys); binOp .neq t (.agg xs) (.agg ys) : Sem Value)).run P w = .ok (.bool (!b)) w := by
 rw [Sem.run_bind, run_eqGuard_agg w .neq t x y xs ys hm, Result.andThen_ok, run_neq_struct, qrE _ _ _ _ _ w h, Result.andThen_ok]
end Go.Pk
namespace Go.Pk
structure Hst where
 kind : Int
 name : List UInt8
 ad : List UInt8
def Hst.cells (h : Hst) : List Value := .int .i64 h.kind :: .string (mkS h.name) :: adC h.ad
def Hst.v (h : Hst) : Value := .agg h.cells.toArray
def hst0 : Hst := ⟨0, [], ad0⟩
def Hst.ok (h : Hst) : Prop := h.ad.length = 16
theorem Hst.len {h : Hst} (o : h.ok) : h.cells.length = 18 := by unfold Hst.cells; rw [List.length_cons, List.length_cons, zF, o]
theorem Hst.one (h : Hst) : One1 h.cells := jf rfl (jf rfl (qaZ _))
def adEq : List UInt8 -> List UInt8 -> Bool
 | x :: xs, y :: ys => ((((x.toNat : Nat) : Int)) == ((y.toNat : Nat) : Int)) && adEq xs ys
 | _, _ => true
theorem qqN : ∀ (xs ys : List UInt8), xs.length = ys.length -> (adEq xs ys = true ↔ xs = ys)
 | [], [], _ => by simp [adEq]
 | x :: xs, [], h => by simp at h
 | [], y :: ys, h => by simp at h
 | x :: xs, y :: ys, h => by
   unfold adEq
   rw [Bool.and_eq_true, qqN xs ys (by simpa using h), beq_iff_eq]
   have e : ((x.toNat : Nat) : Int) = ((y.toNat : Nat) : Int) ↔ x = y := ⟨fun h => UInt8.toNat_inj.1 (by omega), fun h => by rw [h]⟩
   rw [e]
   simp
theorem qi4 {α : Type} : ∀ (a : List α), a.length = 16 -> ∃ x0 x1 x2 x3 x4 x5 x6 x7 x8 x9 x10 x11 x12 x13 x14 x15, a = [x0, x1, x2, x3, x4, x5, x6, x7, x8, x9, x10, x11, x12, x13, x14, x15]
 | [x0, x1, x2, x3, x4, x5, x6, x7, x8, x9, x10, x11, x12, x13, x14, x15], _ => ⟨x0, x1, x2, x3, x4, x5, x6, x7, x8, x9, x10, x11, x12, x13, x14, x15, rfl⟩
def j8 (h g : Hst) : Bool := (h.kind == g.kind) && ((h.name == g.name) && (adEq h.ad g.ad && true))
theorem j7 {h g : Hst} (o : h.ok) (p : g.ok) : j8 h g = true ↔ h = g := by
 unfold j8
 rw [Bool.and_eq_true, Bool.and_eq_true, Bool.and_true, qqN _ _ (o.trans p.symm), beq_iff_eq, beq_iff_eq]
 cases h; cases g; simp
def qe6 (c : UInt8) : Bool := (decide (97 <= c.toNat) && decide (c.toNat <= 122)) || (decide (48 <= c.toNat) && decide (c.toNat <= 57)) || c == 45 || c == 95
def labelB (s : List UInt8) : Bool := decide (1 <= s.length) && decide (s.length <= 63) && s.all qe6
def qid (L : List (List UInt8)) : List UInt8 := L[L.length - 1]?.getD []
def hostV (s : List UInt8) : Option Hst :=
 if s.head? = some 91 then (if s.getLast? = some 93 then (v6A ((s.drop 1).take (s.length - 2))).map fun a => ⟨3, [], a⟩ else none)
 else if zy (qid (cutC 46 [] (lowL s))) = true then (v4V s).map fun a => ⟨2, [], a⟩
 else if s.length <= 253 /\ (cutC 46 [] (lowL s)).all labelB = true then some ⟨1, lowL s, ad0⟩ else none
def qsF : Option Hst -> Value
 | some h => .tuple #[h.v, .int .i64 0]
 | none => .tuple #[hst0.v, .int .i64 31]
theorem jG {s : List UInt8} {h : Hst} (e : hostV s = some h) : h.ok := by
 unfold hostV at e
 split at e
 · split at e
   · cases hv : v6A ((s.drop 1).take (s.length - 2)) with
     | none => rw [hv] at e; cases e
     | some a => rw [hv] at e; cases e; exact qsB _ a hv
   · cases e
 split at e
 · cases hv : v4V s with
   | none => rw [hv] at e; cases e
   | some a => rw [hv] at e; cases e; exact qui _ a hv
 split at e
 · cases e; rfl
 · cases e
theorem jn (c : UInt8) : ∀ (s cur : List UInt8), Lib.join (cutC c cur s) [c] = cur ++ s
 | [], cur => by simp [cutC, Lib.join_one]
 | x :: r, cur => by
   show Lib.join (if x = c then cur :: cutC c [] r else cutC c (cur ++ [x]) r) [c] = _
   split
   · rename_i h
     subst h
     have ih := jn x r []
     have hne := jD x r []
     cases hL : cutC x [] r with
     | nil => exact absurd hL hne
     | cons y l =>
       rw [hL, Lib.join_cons, List.nil_append] at ih
       rw [Lib.join_cons]
       have e : Lib.joinTail [x] (y :: l) = [x] ++ y ++ Lib.joinTail [x] l := by simp [Lib.joinTail]
       rw [e, List.append_assoc [x] y, ih]; rfl
   · rw [jn c r (cur ++ [x])]; simp
theorem qsV (s : List UInt8) (c : UInt8) : Lib.hasSuffix s [c] = decide (s.getLast? = some c) /\ Lib.trimSuffix s [c] = if s.getLast? = some c then s.take (s.length - 1) else s := by
 have h1 : Lib.hasSuffix s [c] = decide (s.getLast? = some c) := by
   unfold Lib.hasSuffix
   rw [Bool.eq_iff_iff, dTx, List.isSuffixOf_iff_suffix]
   constructor
   · rintro ⟨t, rfl⟩; simp
   · intro h
     obtain ⟨t, rfl⟩ := List.getLast?_eq_some_iff.1 h
     exact ⟨t, rfl⟩
 refine ⟨h1, ?_⟩
 unfold Lib.trimSuffix
 rw [h1]
 by_cases h : s.getLast? = some c
 · rw [if_pos (decide_eq_true h), if_pos h]; rfl
 · rw [if_neg (by rw [decide_eq_false h]; decide), if_neg h]
theorem qrO {s : List UInt8} (h : s.head? = some 91) : ((s.drop 1).getLast? = some 93 ↔ s.getLast? = some 93) := by
 cases s with
 | nil => cases h
 | cons x r =>
   obtain rfl : x = 91 := Option.some.inj h
   cases r with
   | nil => simp
   | cons y r => simp [List.getLast?_cons_cons]
theorem qjh {L : List (List UInt8)} (h : 0 < L.length) : qid L = L[L.length - 1]'(by omega) := by unfold qid; rw [List.getElem?_eq_getElem (by omega)]; rfl
end Go.Pk
namespace Go.Proofs.YtndbpedpdbjkpaaGreatDoor
open Go.Pk
open Go.RowKit (Below)
theorem qs : Whl prog qc 18 := ⟨⟨_, _, qp4⟩, by kernel_rfl⟩
theorem qr1 {h g : Hst} (o : h.ok) (p : g.ok) : eqV prog 10000 qc h.v g.v = some (j8 h g) := by
 obtain ⟨k, n, a⟩ := h
 obtain ⟨k', n', a'⟩ := g
 obtain ⟨x0, x1, x2, x3, x4, x5, x6, x7, x8, x9, x10, x11, x12, x13, x14, x15, rfl⟩ := qi4 a o
 obtain ⟨y0, y1, y2, y3, y4, y5, y6, y7, y8, y9, y10, y11, y12, y13, y14, y15, rfl⟩ := qi4 a' p
 kernel_rfl
theorem qo5 : prog.eqGuardType prog.depth qc = false := by kernel_rfl
theorem qdn {h g : Hst} (o : h.ok) (p : g.ok) {x y : Operand} (w : World) : ((do eqGuard .eql qc x y h.v g.v; binOp .eql qc h.v g.v : Sem Value)).run prog w = .ok (.bool (j8 h g)) w :=
 qqz qo5 (qr1 o p) w
theorem qo3 {h g : Hst} (o : h.ok) (p : g.ok) {x y : Operand} (w : World) : ((do eqGuard .neq qc x y h.v g.v; binOp .neq qc h.v g.v : Sem Value)).run prog w = .ok (.bool (!j8 h g)) w :=
 qpq qo5 (qr1 o p) w
theorem qjK (k : Int) {a : List UInt8} (o : a.length = 16) (w : World) : (Instr.build qc #[(0, .int .i64 k), (2, adV a)]).run prog w = .ok (Hst.v ⟨k, [], a⟩) w := by
 obtain ⟨x0, x1, x2, x3, x4, x5, x6, x7, x8, x9, x10, x11, x12, x13, x14, x15, rfl⟩ := qi4 a o
 kernel_rfl
theorem qmJ (c : UInt8) (w : World) : Calls prog qfJ #[.int .u8 ((c.toNat : Nat) : Int)] w (Ret fun v w' => v = .bool (qe6 c) /\ w' = w) := by
 apply qkR
 unfold qhJ
 have e45 := qau c 45
 have e95 := qau c 95
 rw [show (((45 : UInt8).toNat : Nat) : Int) = 45 from rfl] at e45
 rw [show (((95 : UInt8).toNat : Nat) : Int) = 95 from rfl] at e95
 rw [e45, e95]
 unfold qe6
 have lf : ∀ {b : Bool} {x : Bool}, b = x -> (.bool b : Value) = .bool x /\ w = w := fun h => ⟨by rw [h], rfl⟩
 refine BCase.of (fun h => ?_) (fun h => ?_) <;> simp only [ge_iff_le, dTx, dFx] at h
 · refine BCase.of (fun h2 => lf ?_) (fun h2 => ?_) <;> simp only [ge_iff_le, dTx, dFx] at h2
   · rw [decide_eq_true (p := 97 <= c.toNat) (by omega), decide_eq_true (p := c.toNat <= 122) (by omega)]; rfl
   · rw [decide_eq_false (p := c.toNat <= 122) (by omega), Bool.and_false, Bool.false_or]
     refine BCase.yes (by simp; omega) (BCase.no (by simp; omega) ?_)
     rw [decide_eq_false (p := c.toNat <= 57) (by omega), Bool.and_false, Bool.false_or]
     exact BCase.of (fun h3 => lf (by rw [h3]; rfl)) (fun h3 => lf (by rw [h3, Bool.false_or]))
 · rw [decide_eq_false (p := 97 <= c.toNat) (by omega), Bool.false_and, Bool.false_or]
   refine BCase.of (fun h2 => ?_) (fun h2 => ?_) <;> simp only [ge_iff_le, dTx, dFx] at h2
   · rw [decide_eq_true (p := 48 <= c.toNat) (by omega), Bool.true_and]
     refine BCase.of (fun h3 => lf ?_) (fun h3 => ?_) <;> simp only [ge_iff_le, dTx, dFx] at h3
     · rw [decide_eq_true (p := c.toNat <= 57) (by omega)]; rfl
     · rw [decide_eq_false (p := c.toNat <= 57) (by omega), Bool.false_or]
       exact BCase.of (fun h4 => lf (by rw [h4]; rfl)) (fun h4 => lf (by rw [h4, Bool.false_or]))
   · rw [decide_eq_false (p := 48 <= c.toNat) (by omega), Bool.false_and, Bool.false_or]
     exact BCase.of (fun h4 => lf (by rw [h4]; rfl)) (fun h4 => lf (by rw [h4, Bool.false_or]))
theorem qn9 (s : List UInt8) (hs : s.length <= 9223372036854775800) (w : World) : Calls prog qga #[.string (mkS s)] w (Ret fun v w' => v = .bool (labelB s) /\ Below w.heap.size w w') := by
 apply qm4
 unfold qjp
 refine BCase.of (fun h => ?_) (fun h => ⟨?_, Below.refl _ _⟩)
 · have hne : s ≠ [] := by simpa using h
   have h1 : 1 <= s.length := List.length_pos_iff.2 hne
   refine BCase.of (fun h2 => ?_) (fun h2 => ⟨?_, Below.refl _ _⟩) <;> simp only [dTx, dFx] at h2
   · obtain ⟨w2, a, n, c, hr, ho, hb2, hf⟩ := qgX (P := prog) un_string zQ un_uint8 w s (by omega) NoB
     have hnn := ho.len
     subst hnn
     refine ⟨w2, a, _, c, hr, ?_⟩
     have hl : labelB s = s.all qe6 := by unfold labelB; rw [decide_eq_true h1, decide_eq_true (by omega), Bool.true_and, Bool.true_and]
     refine callK (K := fun v w' => v = .bool (!(s.all qe6)) /\ w' = w2) ?_ ?_
     · apply qaO
       unfold ji
       refine callK (K := fun v w' => ∃ i : Int, v = .int .i64 i /\ (decide (i >= 0)) = (!(s.all qe6)) /\ w' = w2) ?_ ?_
       · apply qa0
         unfold jt
         refine ⟨fun m i w' => ∃ k : Nat, k <= s.length /\ i = (k : Int) /\ m = s.length - k /\ (s.take k).all qe6 = true /\ w' = w2, ⟨_, 0, by omega, rfl, rfl, rfl, rfl⟩, ?_⟩
         intro m i
         refine AllJ.of ?_ _
         rintro w' ⟨k, hk, rfl, rfl, hno, hw'⟩
         rw [hw']; clear hw'
         refine BCase.of (fun h => ?_) (fun h => ?_) <;> simp only [dTx, dFx] at h
         · have hlt : k < s.length := by omega
           obtain ⟨v, hv, hrep⟩ := ho.all.load1 (i := (k : Int)) un_uint8 rfl rfl (by simpa using hlt)
           have := qnk hrep
           subst this
           simp only [Int.toNat_natCast] at hv
           refine ⟨⟨⟨by omega, h⟩, ho.all.isSome hlt⟩, _, hv, ?_⟩
           refine callK (K := fun v w' => v = .bool (!qe6 s[k]) /\ w' = w2) ?_ ?_
           · apply qjO
             unfold qfV
             refine callK (qmJ _ w2) ?_
             rintro _ w3 ⟨rfl, hw3⟩
             exact ⟨_, rfl, rfl, hw3⟩
           rintro _ w3 ⟨rfl, hw3⟩
           rw [hw3]
           refine ⟨_, rfl, BCase.of (fun h3 => ?_) (fun h3 => ?_)⟩
           · refine ⟨_, rfl, ?_, rfl⟩
             have : s.all qe6 = false := by
               rw [Bool.eq_false_iff]
               intro hc
               rw [List.all_eq_true.1 hc _ (List.getElem_mem hlt)] at h3; cases h3
             rw [this, decide_eq_true (by omega)]; rfl
           · refine ⟨s.length - (k + 1), by omega, k + 1, by omega, by rw [wrap_i64 (by omega) (by omega)]; omega, rfl, ?_, rfl⟩
             rw [List.take_succ_eq_append_getElem hlt, List.all_append, hno]
             simpa using h3
         · have : k = s.length := by omega
           subst this
           rw [List.take_length] at hno
           exact ⟨_, rfl, by rw [hno]; decide, rfl⟩
       · rintro _ w3 ⟨i, rfl, hi, hw3⟩
         exact ⟨_, rfl, by rw [hi], hw3⟩
     · rintro _ w3 ⟨rfl, hw3⟩
       rw [hw3]
       exact ⟨_, rfl, by rw [hl, Bool.not_not], hb2⟩
   · unfold labelB; rw [decide_eq_false (p := s.length <= 63) (by omega), Bool.and_false, Bool.false_and]
 · have hne : s = [] := by simpa using h
   subst hne; rfl
theorem qmI (s : List UInt8) (hs : s.length <= 9223372036854775800) (w : World) : Calls prog qfN #[.string (mkS s)] w (Ret fun v w' => v = .bool (labelB s) /\ w' = w) := by
 apply qle
 unfold qhu
 refine ⟨fun m i w' => ∃ k : Nat, k <= s.length /\ i = (k : Int) /\ m = s.length - k /\ (s.take k).all qe6 = true /\ w' = w, ⟨_, 0, by omega, rfl, rfl, rfl, rfl⟩, ?_⟩
 intro m i
 refine AllJ.of ?_ _
 rintro w' ⟨k, hk, rfl, rfl, hno, hw'⟩
 rw [hw']; clear hw'
 refine BCase.of (fun h => ?_) (fun h => ?_) <;> simp only [dTx, dFx] at h
 · have hlt : k < s.length := by omega
   rw [zJ hlt]
   have e45 := qau s[k] 45
   have e95 := qau s[k] 95
   rw [show (((45 : UInt8).toNat : Nat) : Int) = 45 from rfl] at e45
   rw [show (((95 : UInt8).toNat : Nat) : Int) = 95 from rfl] at e95
   simp only [bne, e45, e95]
   have good : qe6 s[k] = true -> ∃ m' : Nat, m' < s.length - k /\ ∃ k2 : Nat, k2 <= s.length /\ i64.wrap ((k : Int) + 1) = (k2 : Int) /\ m' = s.length - k2 /\ (s.take k2).all qe6 = true /\ True := fun hc =>
     ⟨s.length - (k + 1), by omega, k + 1, by omega, by rw [wrap_i64 (by omega) (by omega)]; omega, rfl, by rw [List.take_succ_eq_append_getElem hlt, List.all_append, hno]; simp [hc], trivial⟩
   have bad : qe6 s[k] = false -> (.bool false : Value) = .bool (labelB s) /\ True := fun hc => ⟨by
     have : s.all qe6 = false := by
       rw [Bool.eq_false_iff]
       intro hx
       rw [List.all_eq_true.1 hx _ (List.getElem_mem hlt)] at hc; cases hc
     unfold labelB; rw [this, Bool.and_false], trivial⟩
   refine ⟨⟨by omega, h⟩, ?_⟩
   generalize s[k] = c at *
   have tail : ¬ (97 <= c.toNat /\ c.toNat <= 122) -> ¬ (48 <= c.toNat /\ c.toNat <= 57) -> BCase (!(c == 45)) (BCase (!(c == 95)) ((.bool false : Value) = .bool (labelB s) /\ True) (∃ m' : Nat, m' < s.length - k /\ ∃ k2 : Nat, k2 <= s.length /\ i64.wrap ((k : Int) + 1) = (k2 : Int) /\ m' = s.length - k2 /\ (s.take k2).all qe6 = true /\ True)) (∃ m' : Nat, m' < s.length - k /\ ∃ k2 : Nat, k2 <= s.length /\ i64.wrap ((k : Int) + 1) = (k2 : Int) /\ m' = s.length - k2 /\ (s.take k2).all qe6 = true /\ True) := fun n1 n2 => by
     have d1 : (decide (97 <= c.toNat) && decide (c.toNat <= 122)) = false := by rw [Bool.eq_false_iff]; intro hc; simp at hc; exact n1 hc
     have d2 : (decide (48 <= c.toNat) && decide (c.toNat <= 57)) = false := by rw [Bool.eq_false_iff]; intro hc; simp at hc; exact n2 hc
     have hc : qe6 c = (c == 45 || c == 95) := by unfold qe6; rw [d1, d2]; simp
     rw [hc] at good bad
     refine BCase.of (fun h4 => BCase.of (fun h5 => bad ?_) (fun h5 => good ?_)) (fun h4 => good ?_)
     · rw [Bool.not_eq_true'] at h4 h5; rw [h4, h5]; rfl
     · rw [Bool.not_eq_false'] at h5; rw [h5]; simp
     · rw [Bool.not_eq_false'] at h4; rw [h4]; simp
   refine BCase.of (fun h2 => ?_) (fun h2 => ?_) <;> simp only [dTx, dFx] at h2
   · refine BCase.of (fun h3 => tail (by omega) ?_) (fun h3 => ?_) <;> simp only [gt_iff_lt, dTx, dFx] at h3
     · omega
     · refine BCase.of (fun h4 => tail (by omega) ?_) (fun h4 => good ?_) <;> simp only [gt_iff_lt, dTx, dFx] at h4
       · omega
       · unfold qe6; rw [decide_eq_true (p := 48 <= c.toNat) (by omega), decide_eq_true (p := c.toNat <= 57) (by omega)]; simp
   · refine BCase.of (fun h3 => ?_) (fun h3 => good ?_) <;> simp only [gt_iff_lt, dTx, dFx] at h3
     · refine BCase.no (by simp; omega) (BCase.yes (by simp; omega) (tail (by omega) (by omega)))
     · unfold qe6; rw [decide_eq_true (p := 97 <= c.toNat) (by omega), decide_eq_true (p := c.toNat <= 122) (by omega)]; simp
 · have : k = s.length := by omega
   subst this
   rw [List.take_length] at hno
   unfold labelB
   rw [hno, Bool.and_true]
   refine BCase.of (fun h2 => ⟨?_, rfl⟩) (fun h2 => ⟨?_, rfl⟩) <;> simp only [ge_iff_le, dTx, dFx] at h2
   · rw [decide_eq_true (p := 1 <= s.length) (by omega), Bool.true_and]; congr 1; rw [Bool.eq_iff_iff]; simp; omega
   · rw [decide_eq_false (p := 1 <= s.length) (by omega), Bool.false_and]
end Go.Proofs.YtndbpedpdbjkpaaGreatDoor
namespace Go.Pk
theorem qat (o : Option Hst) : qsF o = .tuple #[(o.getD hst0).v, .int .i64 (if o.isSome then 0 else 31)] := by cases o <;> rfl
theorem qcr {o : Option Hst} (h : ∀ x, o = some x -> x.ok) : (o.getD hst0).ok := by
 cases o with
 | none => rfl
 | some x => exact h x rfl
end Go.Pk
namespace Go.Proofs.YtndbpedpdbjkpaaGreatDoor
open Go.Pk
open Go.RowKit (Below)
theorem qd8 (k : Int) (a : List UInt8) (o : a.length = 16) (b : Bool) (w : World) : Calls prog qcm #[.int .i64 k, adV a, .bool b] w (Ret fun v w' => v = qsF (if b = true then some ⟨k, [], a⟩ else none) /\ Below w.heap.size w w') := by
 apply qku
 unfold qgu
 intro k4 w4 hk4 hw4
 have hB4 := (hw4 ▸ qf w _ : Below w.heap.size w w4)
 have h4 : qm w4 k4 qk (adC a) := qm.new hk4 hw4
 intro k6 w6 hk6 hw6
 have hb6 := (hw6 ▸ qf w4 _ : Below w4.heap.size w4 w6)
 have hB6 := qb hB4 hb6 hB4.size
 have h6 : qm w6 k6 qc hst0.cells := qm.new hk6 hw6
 have hk : w.heap.size <= k6 := by have := hB4.size; omega
 refine BCase.of (fun h => ?_) (fun h => ?_)
 · have hb : b = false := by simpa using h
   rw [hb]
   exact qs.fin (K := fun vr wy => (.tuple #[vr, .int .i64 (31 : Int)] : Value) = qsF (if false = true then some ⟨k, [], a⟩ else none) /\ Below w.heap.size w wy) (cs := hst0.cells) rfl (Hst.one _) h6 rfl hB6 hk fun wy hb => ⟨rfl, hb⟩
 · have hb : b = true := by simpa using h
   rw [hb]
   refine ⟨_, qR.load0 (h4.below hb6) (by rw [zF, o]), _, qjK k o w6, ?_⟩
   exact qs.fin (K := fun vr wy => (.tuple #[vr, .int .i64 (0 : Int)] : Value) = qsF (if true = true then some ⟨k, [], a⟩ else none) /\ Below w.heap.size w wy) (cs := Hst.cells ⟨k, [], a⟩) (Hst.len o) (Hst.one _) h6 rfl hB6 hk fun wy hb => ⟨rfl, hb⟩
theorem qsh {w : World} {A : Bl} {a : Option Addr} {n c : Nat} {L : List (List UInt8)} (hs : Sl tS w AllB a n c L) (hl : ∀ x ∈ L, x.length <= 9223372036854775800) (hL : L.length <= 9223372036854775800) :
   Calls prog jk #[.slice a n c, .func (.func ju) #[] #[]] w (Ret fun v w' => v = .bool (!(L.all labelB)) /\ Below w.heap.size w w') := by
 have hn := hs.len
 apply qap
 unfold zN
 refine callK (K := fun v w' => ∃ i : Int, v = .int .i64 i /\ (decide (i >= 0)) = (!(L.all labelB)) /\ Below w.heap.size w w') ?_ ?_
 · apply qaF
   unfold jb
   refine ⟨fun m i w' => ∃ k : Nat, k <= L.length /\ i = (k : Int) /\ m = L.length - k /\ (L.take k).all labelB = true /\ Below w.heap.size w w', ⟨_, 0, by omega, rfl, rfl, rfl, Below.refl _ _⟩, ?_⟩
   intro m i
   refine AllJ.of ?_ _
   rintro w2 ⟨k, hk, rfl, rfl, hno, hB2⟩
   refine BCase.of (fun h => ?_) (fun h => ?_) <;> simp only [dTx, dFx] at h
   · have hlt : k < L.length := by omega
     have hs2 := hs.below hB2
     refine ⟨⟨⟨by omega, h⟩, hs2.isSome (by omega)⟩, _, hs2.text un_string hlt, ?_⟩
     refine callK (K := fun v w' => v = .bool (!labelB L[k]) /\ Below w2.heap.size w2 w') ?_ ?_
     · apply qj1
       unfold qfX
       refine callK (qn9 _ (hl _ (List.getElem_mem hlt)) w2) ?_
       rintro _ w3 ⟨rfl, hb3⟩
       exact ⟨_, rfl, rfl, hb3⟩
     rintro _ w3 ⟨rfl, hb3⟩
     have hB3 := qb hB2 hb3 hB2.size
     refine ⟨_, rfl, BCase.of (fun h3 => ?_) (fun h3 => ?_)⟩
     · refine ⟨_, rfl, ?_, hB3⟩
       have : L.all labelB = false := by
         rw [Bool.eq_false_iff]
         intro hc
         rw [List.all_eq_true.1 hc _ (List.getElem_mem hlt)] at h3; cases h3
       rw [this, decide_eq_true (by omega)]; rfl
     · refine ⟨L.length - (k + 1), by omega, k + 1, by omega, by rw [wrap_i64 (by omega) (by omega)]; omega, rfl, ?_, hB3⟩
       rw [List.take_succ_eq_append_getElem hlt, List.all_append, hno]
       simpa using h3
   · have : k = L.length := by omega
     subst this
     rw [List.take_length] at hno
     exact ⟨_, rfl, by rw [hno]; decide, hB2⟩
 · rintro _ w3 ⟨i, rfl, hi, hB3⟩
   exact ⟨_, rfl, by rw [hi], hB3⟩
def qg3 (s : List UInt8) (w : World) (v : Value) (w' : World) : Prop := v = qsF (hostV s) /\ Below w.heap.size w w'
theorem qfG (s : List UInt8) (hs : s.length <= 2000000000) (w : World) (he : Env w) : Calls prog qdl #[.string (mkS s)] w (Ret (qg3 s w)) := by
 apply qmp
 unfold qiD
 intro k2 w2 hk2 hw2
 have hB2 := (hw2 ▸ qf w _ : Below w.heap.size w w2)
 have h2 : qm w2 k2 qc hst0.cells := qm.new hk2 hw2
 have hk2w : w.heap.size <= k2 := by omega
 refine callK (qoL s 91 w2) ?_
 rintro _ w3 ⟨rfl, hw3⟩
 rw [hw3]; clear hw3
 refine ⟨_, _, rfl, ?_⟩
 -- the result of a call is stored, and read
 have fin : ∀ {wx : World} (o : Option Hst), (∀ x, o = some x -> x.ok) -> hostV s = o -> qm wx k2 qc hst0.cells -> Below w.heap.size w wx ->
     ∃ wy, (Instr.storeAt qc (.pointer (some ⟨k2, 0, none⟩)) (o.getD hst0).v).run prog wx = .ok () wy /\ ∃ vr : Value, (qC qc (.pointer (some ⟨k2, 0, none⟩))).run prog wy = .ok vr wy /\ qg3 s w (.tuple #[vr, .int .i64 (if o.isSome then 0 else 31)]) wy := fun {wx} o ho hv h2x hBx =>
   qs.fin (K := fun vr wy => qg3 s w (.tuple #[vr, .int .i64 (if o.isSome then 0 else 31)]) wy) (cs := (o.getD hst0).cells) (Hst.len (qcr ho)) (Hst.one _) h2x rfl hBx hk2w fun wy hb => ⟨by rw [hv, qat]; rfl, hb⟩
 by_cases h91 : s.head? = some 91
 · rw [if_pos h91, decide_eq_true h91]
   refine BCase.yes rfl ?_
   have hv : hostV s = if s.getLast? = some 93 then (v6A ((s.drop 1).take (s.length - 2))).map fun a => ⟨3, [], a⟩ else none := by unfold hostV; rw [if_pos h91]
   have hlt := qrO h91
   refine (Tryz.strings_CutSuffix (mkS (s.drop 1)) (mkS [93]) w2 (by show (s.drop 1).length <= _; rw [List.length_drop]; omega)).mono ?_
   rintro _ w3 ⟨rfl, hw3⟩
   rw [hw3]; clear hw3
   have hsb := qsV (s.drop 1) 93
   have e1 : (mkS (s.drop 1)).data.toList = s.drop 1 := rfl
   have e2 : (mkS [93]).data.toList = [93] := rfl
   rw [e1, e2, hsb.1, hsb.2]
   obtain ⟨inner, hin⟩ : ∃ inner, inner = if (s.drop 1).getLast? = some 93 then (s.drop 1).take ((s.drop 1).length - 1) else s.drop 1 := ⟨_, rfl⟩
   rw [<- hin]
   have hil : inner.length <= s.length := by rw [hin]; split <;> simp <;> omega
   refine ⟨inner, _, rfl, ?_⟩
   refine callK (qrk inner (by omega) w2 (he.step hB2)) ?_
   rintro _ w4 ⟨rfl, hb4⟩
   have hB4 := qb hB2 hb4 hB2.size
   refine ⟨_, _, by rw [qnm], ?_⟩
   have hal := qkd (qsB inner)
   refine qR.new (zs := adC ad0) (cs := adC ((v6A inner).getD ad0)) rfl hal (qaZ _) w4 fun k8 w8 hk8 h8 hb8 => ?_
   have hB8 := qb hB4 hb8 hB4.size
   have h28 := (h2.below hb4).below hb8
   refine ⟨_, qR.load0 h8 hal, ?_⟩
   have hvo : hostV s = if (v6A inner).isSome = true /\ (s.drop 1).getLast? = some 93 then some ⟨3, [], (v6A inner).getD ad0⟩ else none := by
     rw [hv]
     by_cases hc : s.getLast? = some 93
     · have hc' := hlt.2 hc
       rw [if_pos hc, if_pos hc'] at *
       rw [List.length_drop, show s.length - 1 - 1 = s.length - 2 by omega] at hin
       rw [<- hin]
       cases v6A inner with
       | none => rw [if_neg (fun h => by cases h.1)]; rfl
       | some x => rw [if_pos ⟨rfl, hc'⟩]; rfl
     · rw [if_neg hc, if_neg (fun h => hc (hlt.1 h.2))]
   refine BCase.of (fun hs1 => ?_) (fun hs1 => ?_)
   · refine callK (qd8 3 _ (by rw [<- zF]; exact hal) _ w8) ?_
     rintro _ w9 ⟨rfl, hb9⟩
     have hB9 := qb hB8 hb9 hB8.size
     refine ⟨_, _, by rw [qat], ?_⟩
     refine fin _ (fun x hx => ?_) ?_ (h28.below hb9) hB9
     · split at hx
       · cases hx; show ((v6A inner).getD ad0).length = 16; rw [<- zF]; exact hal
       · cases hx
     · rw [hvo, hs1]
       by_cases hc : (s.drop 1).getLast? = some 93
       · rw [if_pos ⟨rfl, hc⟩, if_pos (by simpa using hc)]
       · rw [if_neg (fun h => hc h.2), if_neg (by simpa using hc)]
   · refine callK (qd8 3 _ (by rw [<- zF]; exact hal) _ w8) ?_
     rintro _ w9 ⟨rfl, hb9⟩
     have hB9 := qb hB8 hb9 hB8.size
     refine ⟨_, _, by rw [qat], ?_⟩
     refine fin _ (fun x hx => by cases hx) ?_ (h28.below hb9) hB9
     rw [hvo, hs1, if_neg (fun h => by cases h.1)]; rfl
 · rw [if_neg h91, decide_eq_false h91]
   refine BCase.no rfl ?_
   have hv : hostV s = if zy (qid (cutC 46 [] (lowL s))) = true then (v4V s).map fun a => ⟨2, [], a⟩ else if s.length <= 253 /\ (cutC 46 [] (lowL s)).all labelB = true then some ⟨1, lowL s, ad0⟩ else none := by unfold hostV; rw [if_neg h91]
   refine callK (octet_Lower_ok s (by omega) w2) ?_
   rintro _ w3 ⟨rfl, hb3⟩
   have hB3 := qb hB2 hb3 hB2.size
   refine ⟨_, rfl, ?_⟩
   have ll : (lowL s).length = s.length := by simp [lowL]
   refine callK (qbx (lowL s) 46 (by omega) w3 (he.step hB3)) ?_
   rintro _ w4 ⟨a, n, c, rfl, ho, hf, hb4⟩
   have hB4 := qb hB3 hb4 hB3.size
   have h24 := (h2.below hb3).below hb4
   have hn := ho.len
   subst hn
   have hlens : ∀ x ∈ cutC 46 [] (lowL s), x.length <= s.length := fun x hx => by have := qdf 46 (lowL s) [] x hx; simp [ll] at this; omega
   have hcn := j0 46 (lowL s) []
   have hnz : 0 < (cutC 46 [] (lowL s)).length := List.length_pos_iff.2 (jD 46 (lowL s) [])
   have hjoin := jn 46 (lowL s) []
   refine ⟨_, _, _, rfl, ?_⟩
   generalize cutC 46 [] (lowL s) = L at *
   have ei : i64.wrap (((L.length : Nat) : Int) - 1) = ((L.length - 1 : Nat) : Int) := by rw [wrap_i64 (by omega) (by omega)]; omega
   rw [ei]
   refine ⟨⟨⟨by omega, by omega⟩, ho.all.isSome hnz⟩, _, ho.all.text un_string (by omega), ?_⟩
   rw [<- qjh hnz]
   have hll : (qid L).length <= s.length := by rw [qjh hnz]; exact hlens _ (List.getElem_mem _)
   refine callK (qeb (qid L) (by omega) w4) ?_
   rintro _ w5 ⟨rfl, hb5⟩
   have hB5 := qb hB4 hb5 hB4.size
   have h25 := h24.below hb5
   refine ⟨_, rfl, BCase.of (fun hd => ?_) (fun hd => ?_)⟩
   · rw [if_pos hd] at hv
     refine callK (qrg s (by omega) w5 (he.step hB5)) ?_
     rintro _ w6 ⟨rfl, hb6⟩
     have hB6 := qb hB5 hb6 hB5.size
     refine ⟨_, _, by rw [qnm], ?_⟩
     have hal := qkd (qui s)
     refine qR.new (zs := adC ad0) (cs := adC ((v4V s).getD ad0)) rfl hal (qaZ _) w6 fun k8 w8 hk8 h8 hb8 => ?_
     have hB8 := qb hB6 hb8 hB6.size
     have h28 := (h25.below hb6).below hb8
     refine ⟨_, qR.load0 h8 hal, ?_⟩
     refine callK (qd8 2 _ (by rw [<- zF]; exact hal) _ w8) ?_
     rintro _ w9 ⟨rfl, hb9⟩
     have hB9 := qb hB8 hb9 hB8.size
     refine ⟨_, _, by rw [qat], ?_⟩
     refine fin _ (fun x hx => ?_) ?_ (h28.below hb9) hB9
     · split at hx
       · cases hx; show ((v4V s).getD ad0).length = 16; rw [<- zF]; exact hal
       · cases hx
     · rw [hv]
       cases v4V s <;> rfl
   · rw [if_neg (by rw [hd]; decide)] at hv
     have hbad : ¬ (s.length <= 253 /\ L.all labelB = true) -> hostV s = none := fun h => by rw [hv, if_neg h]
     refine worldJ (fun w' => (s.length <= 253 /\ L.all labelB = true) /\ Below w5.heap.size w5 w') ?_ ?_
     · refine qhz (fun b w' => b = (!decide (s.length <= 253 /\ L.all labelB = true)) /\ Below w5.heap.size w5 w') ?_ ?_
       · refine BCase.of (fun h => ⟨?_, Below.refl _ _⟩) (fun h => ?_) <;> simp only [gt_iff_lt, dTx, dFx] at h
         · rw [decide_eq_false (fun hc => by have := hc.1; omega)]; rfl
         · refine callK (qsh (A := AllB) (ho.below hb5).all (fun x hx => by have := hlens x hx; omega) (by omega)) ?_
           rintro _ w6 ⟨rfl, hb6⟩
           refine ⟨_, rfl, ?_, hb6⟩
           have h253 : s.length <= 253 := by omega
           congr 1
           rw [Bool.eq_iff_iff, dTx]
           exact ⟨fun h => ⟨h253, h⟩, fun h => h.2⟩
       · rintro b w6 ⟨rfl, hb6⟩
         refine BCase.of (fun h => ?_) (fun h => ⟨by rw [Bool.not_eq_false'] at h; exact of_decide_eq_true h, hb6⟩)
         exact fin none (fun x hx => by cases hx) (hbad (by rw [Bool.not_eq_true'] at h; exact of_decide_eq_false h)) (h25.below hb6) (qb hB5 hb6 hB5.size)
     · rintro w6 ⟨hgood, hb6⟩
       have hB6 := qb hB5 hb6 hB5.size
       refine callK (qnL ((ho.below hb5).below hb6).all [46] (by omega) (by rw [hjoin]; simp [ll]; omega)) ?_
       rintro _ w7 ⟨rfl, hb7⟩
       have hB7 := qb hB6 hb7 hB6.size
       rw [hjoin, List.nil_append]
       refine ⟨_, rfl, ?_⟩
       exact fin (some ⟨1, lowL s, ad0⟩) (fun x hx => by cases hx; rfl) (by rw [hv, if_pos hgood]) ((h25.below hb6).below hb7) hB7
end Go.Proofs.YtndbpedpdbjkpaaGreatDoor
namespace Go.Pk
def qax (h : Hst) : List UInt8 := if h.kind = 1 then h.name else if h.kind = 2 then text4V h.ad else if h.kind = 3 then [91] ++ qaJ h.ad ++ [93] else []
def zd (h : Hst) : Bool := match hostV (qax h) with | some g => j8 g h | none => false
def qi (h : Hst) : List (List UInt8) := if h.kind = 1 /\ zd h = true then cutC 46 [] h.name else []
theorem qru {a : List UInt8} (h : a.length = 16) : (text4V a).length <= 88 := by
 have := qlS ((a.drop 12).map fun c => decL c.toNat) 46 21 (fun x hx => by
   obtain ⟨c, _, rfl⟩ := List.mem_map.1 hx
   have := qbc c
   exact zS (by omega))
 rw [List.length_map, List.length_drop, h] at this
 exact this
theorem qe8 (a : List UInt8) : (qaJ a).length <= 90 := by
 have hgl := qdq a
 unfold qaJ
 split
 · have := qbz (qeo a); omega
 · have l1 := qbz (l := (gL a).take (zc (zsA a)).1) fun x hx => qeo a x (List.mem_of_mem_take hx)
   have l2 := qbz (l := (gL a).drop ((zc (zsA a)).1 + (zc (zsA a)).2)) fun x hx => qeo a x (List.mem_of_mem_drop hx)
   rw [List.length_take] at l1
   rw [List.length_drop] at l2
   simp; omega
theorem qgE {h : Hst} (o : h.ok) : (qax h).length <= h.name.length + 100 := by
 have h4 := qru o
 have h6 := qe8 h.ad
 unfold qax
 split
 · omega
 split
 · omega
 split
 · simp; omega
 · simp
theorem qsX {h : Hst} (j : Nat) : h.cells[2 + j]? = (adC h.ad)[j]? := by rw [Nat.add_comm]; rfl
end Go.Pk
namespace Go.Proofs.YtndbpedpdbjkpaaGreatDoor
open Go.Pk
open Go.RowKit (Below)
theorem qhV {h : Hst} (o : h.ok) {w : World} {k : Nat} {T : TypeId} (ha : qm w k T h.cells) : (Instr.loadAt qk (.pointer (some ⟨k, 2, none⟩))).run prog w = .ok (adV h.ad) w :=
 qR.load ha (i := 2) (us := adC h.ad) (by rw [zF, o]) fun j _ => qsX j
theorem ref03_Parse_ok (s : List UInt8) (hs : s.length <= 90000000) (w : World) : Calls prog jh #[.string (mkS s)] w (Ret (qg3 s w)) := by
 apply qk3
 unfold qhU
 intro k2 w2 hk2 hw2
 have hB2 := (hw2 ▸ qf w _ : Below w.heap.size w w2)
 have h2 : qm w2 k2 qc hst0.cells := qm.new hk2 hw2
 have hk2w : w.heap.size <= k2 := by omega
 have fin : ∀ {wx : World} (o : Option Hst), (∀ x, o = some x -> x.ok) -> hostV s = o -> qm wx k2 qc hst0.cells -> Below w.heap.size w wx ->
     ∃ wy, (Instr.storeAt qc (.pointer (some ⟨k2, 0, none⟩)) (o.getD hst0).v).run prog wx = .ok () wy /\ ∃ vr : Value, (qC qc (.pointer (some ⟨k2, 0, none⟩))).run prog wy = .ok vr wy /\ qg3 s w (.tuple #[vr, .int .i64 (if o.isSome then 0 else 31)]) wy := fun {wx} o ho hv h2x hBx =>
   qs.fin (K := fun vr wy => qg3 s w (.tuple #[vr, .int .i64 (if o.isSome then 0 else 31)]) wy) (cs := (o.getD hst0).cells) (Hst.len (qcr ho)) (Hst.one _) h2x rfl hBx hk2w fun wy hb => ⟨by rw [hv, qat]; rfl, hb⟩
 have bad := fun {wx : World} (hv : hostV s = none) (h2x : qm wx k2 qc hst0.cells) (hBx : Below w.heap.size w wx) => fin none (fun x hx => by cases hx) hv h2x hBx
 refine factJ (w := w2) (¬ s.head? = some 91) ?_ (fun h91 => ?_)
 · refine ⟨fun b w' => w' = w2 /\ b = decide (s.head? = some 91), BCase.of (fun h => ⟨⟨by decide, by simpa using h⟩, rfl, ?_⟩) (fun h => ⟨rfl, ?_⟩), fun b => AllJ.of ?_ _⟩
   · have hl : 0 < s.length := by simpa using h
     have hb := zJ (s := s) (k := 0) hl
     rw [show ((0 : Nat) : Int) = 0 from rfl] at hb
     have hu := qau s[0] 91
     rw [show (((91 : UInt8).toNat : Nat) : Int) = 91 from rfl] at hu
     rw [hb, hu, List.head?_eq_getElem?, List.getElem?_eq_getElem hl, Bool.eq_iff_iff]
     simp
   · have hl : s = [] := by
       simp only [gt_iff_lt, dFx] at h
       exact List.length_eq_zero_iff.1 (by omega)
     subst hl; rfl
   · rintro wj ⟨hwj, hb⟩
     rw [hwj, hb]; clear hwj hb
     refine BCase.of (fun h => ?_) (fun h => ⟨rfl, of_decide_eq_false h⟩)
     have h91 : s.head? = some 91 := of_decide_eq_true h
     have hne : s ≠ [] := by rintro rfl; cases h91
     have hl : 0 < s.length := List.length_pos_iff.2 hne
     have hv : hostV s = if s.getLast? = some 93 then (v6A ((s.drop 1).take (s.length - 2))).map fun a => ⟨3, [], a⟩ else none := by unfold hostV; rw [if_pos h91]
     have ei : i64.wrap (((s.length : Nat) : Int) - 1) = ((s.length - 1 : Nat) : Int) := by rw [wrap_i64 (by omega) (by omega)]; omega
     rw [ei, zJ (show s.length - 1 < s.length by omega)]
     have hgl : s.getLast? = some (s[s.length - 1]'(by omega)) := by rw [List.getLast?_eq_getElem?, List.getElem?_eq_getElem (by omega)]
     have hu := qau (s[s.length - 1]'(by omega)) 93
     rw [show (((93 : UInt8).toNat : Nat) : Int) = 93 from rfl] at hu
     refine ⟨⟨by omega, by omega⟩, ?_⟩
     simp only [bne, hu]
     refine BCase.of (fun hc => bad ?_ h2 hB2) (fun hc => ?_)
     · rw [hv, if_neg]
       rw [hgl]
       intro e
       rw [Option.some.inj e] at hc; simp at hc
     · have hlast : s.getLast? = some 93 := by rw [hgl]; simpa using hc
       have hl2 : 2 <= s.length := by
         refine Decidable.byContradiction fun hc2 => ?_
         have e1 : s.length = 1 := by omega
         obtain ⟨x, rfl⟩ := List.length_eq_one_iff.1 e1
         rw [Option.some.inj (show some x = some 91 from h91)] at hlast
         cases hlast
       rw [if_pos hlast] at hv
       simp only [Int.toNat_natCast]
       refine ⟨⟨⟨by omega, by omega⟩, by decide, by omega⟩, ?_⟩
       intro s32 e32
       have e33 : s32 = (s.drop 1).take (s.length - 2) := by
         rw [e32, show (Int.toNat 1) = 1 from rfl, List.drop_take, show s.length - 1 - 1 = s.length - 2 by omega]
       rw [<- e33] at hv
       have l32 : s32.length <= s.length := by rw [e33]; simp; omega
       refine callK (ref02_V6_ok s32 (by omega) w2) ?_
       rintro _ w4 ⟨rfl, hb4⟩
       have hB4 := qb hB2 hb4 hB2.size
       refine ⟨_, _, by rw [qnm], ?_⟩
       have hal := qkd (qsB s32)
       refine qR.new (zs := adC ad0) (cs := adC ((v6A s32).getD ad0)) rfl hal (qaZ _) w4 fun k8 w8 hk8 h8 hb8 => ?_
       have hB8 := qb hB4 hb8 hB4.size
       have h28 := (h2.below hb4).below hb8
       cases ho : v6A s32 with
       | none => 
         exact BCase.yes rfl (bad (by rw [hv, ho]; rfl) h28 hB8)
       | some x =>
         rw [ho] at h8 hal
         refine BCase.no rfl ⟨_, qR.load0 h8 hal, _, qjK 3 (by rw [<- zF]; exact hal) w8, ?_⟩
         exact fin (some ⟨3, [], x⟩) (fun y hy => by cases hy; show x.length = 16; rw [<- zF]; exact hal) (by rw [hv, ho]; rfl) h28 hB8
 · have hv : hostV s = if zy (qid (cutC 46 [] (lowL s))) = true then (v4V s).map fun a => ⟨2, [], a⟩ else if s.length <= 253 /\ (cutC 46 [] (lowL s)).all labelB = true then some ⟨1, lowL s, ad0⟩ else none := by unfold hostV; rw [if_neg h91]
   refine callK (ref01_Lower_ok s (by omega) w2) ?_
   rintro _ w3 ⟨rfl, hb3⟩
   have hB3 := qb hB2 hb3 hB2.size
   refine ⟨_, rfl, ?_⟩
   have ll : (lowL s).length = s.length := by simp [lowL]
   refine callK (ja (lowL s) 46 (by omega) w3) ?_
   rintro _ w4 ⟨a, n, c, rfl, ho, hf, hb4⟩
   have hB4 := qb hB3 hb4 hB3.size
   have h24 := (h2.below hb3).below hb4
   have hn := ho.len
   subst hn
   have hlens : ∀ x ∈ cutC 46 [] (lowL s), x.length <= s.length := fun x hx => by have := qdf 46 (lowL s) [] x hx; simp [ll] at this; omega
   have hcn := j0 46 (lowL s) []
   have hnz : 0 < (cutC 46 [] (lowL s)).length := List.length_pos_iff.2 (jD 46 (lowL s) [])
   refine ⟨_, _, _, rfl, ?_⟩
   generalize cutC 46 [] (lowL s) = L at *
   have ei : i64.wrap (((L.length : Nat) : Int) - 1) = ((L.length - 1 : Nat) : Int) := by rw [wrap_i64 (by omega) (by omega)]; omega
   rw [ei]
   refine ⟨⟨⟨by omega, by omega⟩, ho.all.isSome hnz⟩, _, ho.all.text un_string (by omega), ?_⟩
   rw [<- qjh hnz]
   have hll : (qid L).length <= s.length := by rw [qjh hnz]; exact hlens _ (List.getElem_mem _)
   refine callK (ref01_Digits_ok (qid L) (by omega) w4) ?_
   rintro _ w5 ⟨rfl, hw5⟩
   rw [hw5]; clear hw5
   refine ⟨_, rfl, BCase.of (fun hd => ?_) (fun hd => ?_)⟩
   · rw [if_pos hd] at hv
     refine callK (qp7 s (by omega) w4) ?_
     rintro _ w6 ⟨rfl, hb6⟩
     have hB6 := qb hB4 hb6 hB4.size
     refine ⟨_, _, by rw [qnm], ?_⟩
     have hal := qkd (qui s)
     refine qR.new (zs := adC ad0) (cs := adC ((v4V s).getD ad0)) rfl hal (qaZ _) w6 fun k8 w8 hk8 h8 hb8 => ?_
     have hB8 := qb hB6 hb8 hB6.size
     have h28 := (h24.below hb6).below hb8
     cases ho : v4V s with
     | none =>
       rw [ho] at hv
       exact BCase.yes rfl (bad hv h28 hB8)
     | some x =>
       rw [ho] at hv h8 hal
       refine BCase.no rfl ⟨_, qR.load0 h8 hal, _, qjK 2 (by rw [<- zF]; exact hal) w8, ?_⟩
       exact fin (some ⟨2, [], x⟩) (fun y hy => by cases hy; show x.length = 16; rw [<- zF]; exact hal) hv h28 hB8
   · rw [if_neg (by rw [hd]; decide)] at hv
     have hbad : ¬ (s.length <= 253 /\ L.all labelB = true) -> hostV s = none := fun h => by rw [hv, if_neg h]
     refine ⟨fun m i w' => ∃ k : Nat, k <= L.length /\ i = (k : Int) /\ m = L.length - k /\ (L.take k).all labelB = true /\ w' = w4, ⟨_, 0, by omega, rfl, rfl, rfl, rfl⟩, ?_⟩
     intro m i
     refine AllJ.of ?_ _
     rintro w5 ⟨k, hk, rfl, rfl, hno, hw5⟩
     rw [hw5]; clear hw5
     refine BCase.of (fun h => ?_) (fun h => ?_) <;> simp only [dTx, dFx] at h
     · have hlt : k < L.length := by omega
       refine ⟨⟨⟨by omega, h⟩, ho.all.isSome (by omega)⟩, _, ho.all.text un_string hlt, ?_⟩
       refine callK (qmI L[k] (by have := hlens _ (List.getElem_mem hlt); omega) w4) ?_
       rintro _ w6 ⟨rfl, hw6⟩
       rw [hw6]; clear hw6
       refine ⟨_, rfl, BCase.of (fun h3 => bad (hbad fun hc => ?_) h24 hB4) (fun h3 => ?_)⟩
       · rw [List.all_eq_true.1 hc.2 _ (List.getElem_mem hlt)] at h3; cases h3
       · refine ⟨L.length - (k + 1), by omega, k + 1, by omega, by rw [wrap_i64 (by omega) (by omega)]; omega, rfl, ?_, rfl⟩
         rw [List.take_succ_eq_append_getElem hlt, List.all_append, hno]
         simpa using h3
     · have : k = L.length := by omega
       subst this
       rw [List.take_length] at hno
       refine BCase.of (fun h3 => bad (hbad fun hc => ?_) h24 hB4) (fun h3 => ?_) <;> simp only [gt_iff_lt, dTx, dFx] at h3
       · have := hc.1; omega
       · exact fin (some ⟨1, lowL s, ad0⟩) (fun x hx => by cases hx; rfl) (by rw [hv, if_pos ⟨by omega, hno⟩]) h24 hB4
theorem qoO {h : Hst} (o : h.ok) (w : World) (he : Env w) : Calls prog qh4 #[h.v] w (Ret fun v w' => v = .string (mkS (qax h)) /\ Below w.heap.size w w') := by
 apply qnC
 unfold qkh
 intro k1 w1 hk1 hw1
 have hB1 := (hw1 ▸ qf w _ : Below w.heap.size w w1)
 have h1 : qm w1 k1 qc h.cells := qm.new hk1 hw1
 refine ⟨rfl, _, h1.load1 qN rfl rfl, ?_⟩
 unfold qax
 refine BCase.of (fun c1 => ?_) (fun c1 => ?_) <;> simp only [beq_iff_eq, beq_eq_false_iff_ne, ne_eq] at c1
 · rw [if_pos c1]
   exact ⟨rfl, _, h1.load1 un_string rfl rfl, rfl, hB1⟩
 rw [if_neg c1]
 refine BCase.of (fun c2 => ?_) (fun c2 => ?_) <;> simp only [beq_iff_eq, beq_eq_false_iff_ne, ne_eq] at c2
 · rw [if_pos c2]
   refine ⟨rfl, _, qhV o h1, ?_⟩
   refine callK (qnw h.ad o w1 (he.step hB1)) ?_
   rintro _ w2 ⟨rfl, hb2⟩
   exact ⟨_, rfl, rfl, qb hB1 hb2 hB1.size⟩
 rw [if_neg c2]
 refine BCase.of (fun c3 => ?_) (fun c3 => ?_) <;> simp only [beq_iff_eq, beq_eq_false_iff_ne, ne_eq] at c3
 · rw [if_pos c3]
   refine ⟨rfl, _, qhV o h1, ?_⟩
   refine callK (qok h.ad o w1 (he.step hB1)) ?_
   rintro _ w2 ⟨rfl, hb2⟩
   have h6 := qe8 h.ad
   refine ⟨_, rfl, fits (by simp; omega), ?_⟩
   rintro _ rfl
   refine ⟨fits (by simp; omega), ?_⟩
   rintro _ rfl
   exact ⟨rfl, qb hB1 hb2 hB1.size⟩
 · rw [if_neg c3]
   exact ⟨rfl, hB1⟩
theorem qfA {h : Hst} (o : h.ok) (hn : h.name.length <= 1000000000) (w : World) (he : Env w) : Calls prog qds #[h.v] w (Ret fun v w' => v = .bool (zd h) /\ Below w.heap.size w w') := by
 apply qmn
 unfold qju
 have hxl := qgE o
 intro k1 w1 hk1 hw1
 have hB1 := (hw1 ▸ qf w _ : Below w.heap.size w w1)
 have h1 : qm w1 k1 qc h.cells := qm.new hk1 hw1
 refine ⟨_, qs.load0 h1 (Hst.len o), ?_⟩
 refine callK (qoO o w1 (he.step hB1)) ?_
 rintro _ w2 ⟨rfl, hb2⟩
 have hB2 := qb hB1 hb2 hB1.size
 refine ⟨_, rfl, ?_⟩
 refine callK (qfG (qax h) (by omega) w2 (he.step hB2)) ?_
 rintro _ w3 ⟨rfl, hb3⟩
 have hB3 := qb hB2 hb3 hB2.size
 refine ⟨_, _, by rw [qat], ?_⟩
 have hok : ((hostV (qax h)).getD hst0).ok := qcr fun x hx => jG hx
 refine qs.new (zs := hst0.cells) (cs := ((hostV (qax h)).getD hst0).cells) rfl (Hst.len hok) (Hst.one _) w3 fun k4 w4 hk4 h4 hb4 => ?_
 have hB4 := qb hB3 hb4 hB3.size
 have h14 := ((h1.below hb2).below hb3).below hb4
 unfold zd
 cases hv : hostV (qax h) with
 | none => exact BCase.no rfl ⟨rfl, hB4⟩
 | some g =>
   rw [hv] at h4 hok
   exact BCase.yes rfl ⟨_, qs.load0 h4 (Hst.len hok), _, qs.load0 h14 (Hst.len o), _, qdn hok o w4, rfl, hB4⟩
def qeW (h : Hst) (w : World) (v : Value) (w' : World) : Prop := ∃ (a : Option Addr) (n c : Nat), v = .slice a n c /\ Ow tS qe w' NoB a n c (qi h) /\ qb9 w.heap.size a /\ Below w.heap.size w w'
theorem qbv {h : Hst} (o : h.ok) (hn : h.name.length <= 1000000000) (w : World) (he : Env w) : Calls prog zA #[h.v] w (Ret (qeW h w)) := by
 apply ql3
 unfold qhI
 intro k1 w1 hk1 hw1
 have hB1 := (hw1 ▸ qf w _ : Below w.heap.size w w1)
 have h1 : qm w1 k1 qc h.cells := qm.new hk1 hw1
 have none_end : ∀ {wx : World}, ¬ (h.kind = 1 /\ zd h = true) -> Below w.heap.size w wx -> qeW h w (.slice none 0 0) wx := fun hc hb => ⟨none, 0, 0, rfl, by unfold qi; rw [if_neg hc]; exact Ow.nil _ _ _ _, qb9.none _, hb⟩
 refine worldJ (fun w' => (h.kind = 1 /\ zd h = true) /\ Below w1.heap.size w1 w') ⟨rfl, _, h1.load1 qN rfl rfl, ?_⟩ ?_
 · refine BCase.of (fun c => none_end (fun hc => ?_) hB1) (fun c => ?_)
   · rw [hc.1] at c; simp at c
   · have hk : h.kind = 1 := by simpa using c
     refine ⟨_, qs.load0 h1 (Hst.len o), ?_⟩
     refine callK (qfA o hn w1 (he.step hB1)) ?_
     rintro _ w2 ⟨rfl, hb2⟩
     refine ⟨_, rfl, BCase.of (fun c2 => none_end (fun hc => ?_) (qb hB1 hb2 hB1.size)) (fun c2 => ⟨⟨hk, by simpa using c2⟩, hb2⟩)⟩
     rw [hc.2] at c2; cases c2
 · rintro w2 ⟨hc, hb2⟩
   have hB2 := qb hB1 hb2 hB1.size
   refine ⟨rfl, _, (h1.below hb2).load1 un_string rfl rfl, ?_⟩
   refine callK (qbx h.name 46 (by omega) w2 (he.step hB2)) ?_
   rintro _ w3 ⟨a, n, c, rfl, ho, hf, hb3⟩
   exact ⟨_, _, _, rfl, _, _, _, rfl, by unfold qi; rw [if_pos hc]; exact ho, hf.mono hB2.size, qb hB2 hb3 hB2.size⟩
end Go.Proofs.YtndbpedpdbjkpaaGreatDoor
namespace Go.Pk
theorem RepL.drop {α : Type} {T : Ty α} {w : World} {A : Bl} {l : List Value} {xs : List α} (h : RepL T w A l xs) (j : Nat) : RepL T w A (l.drop (j * T.k)) (xs.drop j) := by
 refine ⟨by rw [List.length_drop, List.length_drop, h.len, Nat.sub_mul], fun i hi => ?_⟩
 have hi' : j + i < xs.length := by rw [List.length_drop] at hi; omega
 have := h.rep (j + i) hi'
 rw [List.drop_drop, List.getElem_drop]
 rw [Nat.add_mul] at this
 exact this
theorem Sl.from {α : Type} {T : Ty α} {w : World} {A : Bl} {a : Option Addr} {n c : Nat} {xs : List α} (h : Sl T w A a n c xs) (j : Nat) (hj : j <= xs.length) {k : Nat} (hk : T.k = k) : Sl T w A (qlN a c j k) (n - j) (c - j) (xs.drop j) := by
 subst hk
 obtain ⟨h1, h2, h3, h4⟩ := h
 refine ⟨by rw [List.length_drop, h1], by omega, by omega, ?_⟩
 rcases h4 with h4 | ⟨b, off, e, hb, hab, l, h5, h6⟩
 · left; rw [h4]; simp
 · by_cases hc : c = j
   · left
     exact List.drop_eq_nil_of_le (by omega)
   · right
     refine ⟨b, off + j * T.k, ?_, hb, hab, l.drop (j * T.k), h5.drop j, fun i hi => ?_⟩
     · unfold qlN; rw [if_neg hc, e, Option.map_some, jZ]
     · rw [List.length_drop] at hi
       rw [Nat.add_assoc, h6 _ (by omega), List.getElem?_drop]
end Go.Pk
namespace Go.Pk
def qi0 (L : List (List UInt8)) (n : Nat) : List UInt8 := Lib.join (L.drop (L.length - n)) [46]
def quu (L : List (List UInt8)) (n : Nat) : Value := if 1 <= n /\ n <= L.length then .tuple #[(⟨1, qi0 L n, ad0⟩ : Hst).v, .bool true] else .tuple #[hst0.v, .bool false]
def qag (h d : Hst) : Bool := if (qi d).length = 0 \/ (qi h).length <= (qi d).length then false else j8 ⟨1, qi0 (qi h) (qi d).length, ad0⟩ d
theorem qgL {o : Option (List UInt8)} {h : Hst} (e : (o.map fun a => (⟨3, [], a⟩ : Hst)) = some h) : h.kind = 3 := by
 cases o with
 | none => cases e
 | some a => cases e; rfl
theorem qpm (c : UInt8) : ∀ (L : List (List UInt8)) (k : Nat), (Lib.join (L.drop k) [c]).length <= (Lib.join L [c]).length
 | L, 0 => by simp
 | [], k + 1 => by simp
 | x :: r, k + 1 => by
   rw [List.drop_succ_cons]
   refine Nat.le_trans (qpm c r k) ?_
   cases r with
   | nil => simp [Lib.join_nil]
   | cons y l =>
     rw [Lib.join_cons, Lib.join_cons]
     unfold Lib.joinTail
     simp; omega
end Go.Pk
namespace Go.Proofs.YtndbpedpdbjkpaaGreatDoor
open Go.Pk
open Go.RowKit (Below)
theorem qfD (h : Hst) : (qi h).length <= h.name.length + 1 := by
 unfold qi
 split
 · exact j0 46 _ _
 · simp
theorem qoG {h : Hst} (o : h.ok) (hn : h.name.length <= 1000000000) (n : Nat) (hn2 : n <= 4000000000) (w : World) (he : Env w) : Calls prog qcZ #[h.v, .int .i64 (n : Int)] w (Ret fun v w' => v = quu (qi h) n /\ Below w.heap.size w w') := by
 apply qn5
 unfold qke
 intro k2 w2 hk2 hw2
 have hB2 := (hw2 ▸ qf w _ : Below w.heap.size w w2)
 have h2 : qm w2 k2 qc h.cells := qm.new hk2 hw2
 intro k4 w4 hk4 hw4
 have hb4 := (hw4 ▸ qf w2 _ : Below w2.heap.size w2 w4)
 have hB4 := qb hB2 hb4 hB2.size
 have h4 : qm w4 k4 qc hst0.cells := qm.new hk4 hw4
 have hk : w.heap.size <= k4 := by have := hB2.size; omega
 refine ⟨_, qs.load0 (h2.below hb4) (Hst.len o), ?_⟩
 refine callK (qbv o hn w4 (he.step hB4)) ?_
 rintro _ w5 ⟨a, l, c, rfl, ho, hf, hb5⟩
 have hB5 := qb hB4 hb5 hB4.size
 have h45 := h4.below hb5
 have hll := qfD h
 have hjl : ∀ n, (qi0 (qi h) n).length <= 140737488355328 := fun n => by
   unfold qi0
   refine Nat.le_trans (qpm 46 (qi h) _) ?_
   unfold qi
   split
   · rw [jn, List.nil_append]; omega
   · simp [Lib.join_nil]
 have hl := ho.len
 subst hl
 generalize qi h = L at *
 refine ⟨_, _, _, rfl, ?_⟩
 unfold quu
 refine factJ (w := w5) (1 <= n /\ n <= L.length) ?_ (fun hc => ?_)
 · refine orJ (BCase.of (fun h => ?_) (fun h => ⟨rfl, ?_⟩))
   · rw [if_neg (fun hc => by simp at h; omega)]
     exact qs.fin (K := fun vr wy => (.tuple #[vr, .bool false] : Value) = .tuple #[hst0.v, .bool false] /\ Below w.heap.size w wy) (cs := hst0.cells) rfl (Hst.one _) h45 rfl hB5 hk fun wy hb => ⟨rfl, hb⟩
   · simp at h; omega
 · rw [if_pos hc]
   have e : i64.wrap (((L.length : Nat) : Int) - (n : Int)) = ((L.length - n : Nat) : Int) := by rw [wrap_i64 (by omega) (by omega)]; omega
   rw [e]
   simp only [Int.toNat_natCast]
   refine ⟨⟨by omega, by omega⟩, ?_⟩
   refine callK (qnL ((ho.all).from (L.length - n) (by omega) rfl) [46] (by simp; omega) (hjl n)) ?_
   rintro _ w6 ⟨rfl, hb6⟩
   have hB6 := qb hB5 hb6 hB5.size
   refine ⟨_, rfl, ?_⟩
   exact qs.fin (K := fun vr wy => (.tuple #[vr, .bool true] : Value) = .tuple #[(⟨1, qi0 L n, ad0⟩ : Hst).v, .bool true] /\ Below w.heap.size w wy) (cs := (⟨1, qi0 L n, ad0⟩ : Hst).cells) rfl (Hst.one _) (h45.below hb6) rfl hB6 hk fun wy hb => ⟨rfl, hb⟩
theorem qow {h d : Hst} (oh : h.ok) (od : d.ok) (hn : h.name.length <= 1000000000) (dn : d.name.length <= 1000000000) (w : World) (he : Env w) : Calls prog qdp #[h.v, d.v] w (Ret fun v w' => v = .bool (qag h d) /\ Below w.heap.size w w') := by
 apply qm7
 unfold qjd
 intro k2 w2 hk2 hw2
 have hB2 := (hw2 ▸ qf w _ : Below w.heap.size w w2)
 have h2 : qm w2 k2 qc h.cells := qm.new hk2 hw2
 intro k3 w3 hk3 hw3
 have hb3 := (hw3 ▸ qf w2 _ : Below w2.heap.size w2 w3)
 have hB3 := qb hB2 hb3 hB2.size
 have h3 : qm w3 k3 qc d.cells := qm.new hk3 hw3
 have h23 := h2.below hb3
 have hd : Below w.heap.size w (World.drew w3) := qb hB3 (qcT rfl rfl rfl (Nat.le_refl _) (fun _ _ => rfl)) hB3.size
 have d2 : qm (World.drew w3) k2 qc h.cells := h23
 have d3 : qm (World.drew w3) k3 qc d.cells := h3
 have ld2 := qs.load0 (P := prog) d2 (Hst.len oh)
 have ld3 := qs.load0 (P := prog) d3 (Hst.len od)
 have hll := qfD h
 have hld := qfD d
 -- the labels of both
 have lab1 : ∀ {Q : Nat -> World -> Prop}, (∀ wx, Below (World.drew w3).heap.size (World.drew w3) wx -> Q (qi h).length wx) ->
     Calls prog zA #[h.v] (World.drew w3) fun e w' => ∃ (a : Option Addr) (l c : Nat), e = .returned (.slice a l c) /\ Q l w' := fun hQ => by
   refine callK (qbv oh hn _ (he.step hd)) ?_
   rintro _ w4 ⟨a, l, c, rfl, ho, -, hb4⟩
   refine ⟨_, _, _, rfl, ?_⟩
   rw [ho.len]
   exact hQ w4 hb4
 have lab2 : ∀ {Q : Nat -> World -> Prop} (wy : World), Below (World.drew w3).heap.size (World.drew w3) wy -> (∀ wx, Below (World.drew w3).heap.size (World.drew w3) wx -> Q (qi d).length wx) ->
     Calls prog zA #[d.v] wy fun e w' => ∃ (a : Option Addr) (l c : Nat), e = .returned (.slice a l c) /\ Q l w' := fun wy hwy hQ => by
   refine callK (qbv od dn wy (he.step (qb hd hwy hd.size))) ?_
   rintro _ w4 ⟨a, l, c, rfl, ho, -, hb4⟩
   refine ⟨_, _, _, rfl, ?_⟩
   rw [ho.len]
   exact hQ w4 (qb hwy hb4 hwy.size)
 -- what follows
 have rest : ∀ wx, Below (World.drew w3).heap.size (World.drew w3) wx -> ∃ J : FP [],
     (BCase ((((qi d).length : Nat) : Int) == (0 : Int)) ((.bool false : Value) = .bool (qag h d) /\ Below w.heap.size w wx)
       (BCase (decide ((((qi d).length : Nat) : Int) >= (((qi h).length : Nat) : Int))) ((.bool false : Value) = .bool (qag h d) /\ Below w.heap.size w wx) (J wx))) /\
     AllJ 11 (∀ (wj : World), J wj -> ∃ (v24 : Value), (Instr.loadAt qc (.pointer (some ⟨k2, 0, none⟩))).run prog wj = .ok v24 wj /\
       Calls prog qcZ #[v24, .int .i64 (((qi d).length : Nat) : Int)] wj fun e27 w27 => ∃ (v27_0 : Value) (b27_1 : Bool), e27 = .returned (.tuple #[v27_0, .bool b27_1]) /\
       ∀ (k7 : Nat) (w7 : World), k7 = w27.heap.size -> w7 = w27.alloc (.cells qK qc) ->
       ∃ (wx : World), (Instr.storeAt qc (.pointer (some ⟨k7, 0, none⟩)) v27_0).run prog w7 = .ok () wx /\
       ∃ (v30 : Value), (Instr.loadAt qc (.pointer (some ⟨k7, 0, none⟩))).run prog wx = .ok v30 wx /\
       ∃ (v31 : Value), (Instr.loadAt qc (.pointer (some ⟨k3, 0, none⟩))).run prog wx = .ok v31 wx /\
       ∃ (b32 : Bool), ((do eqGuard .eql qc (.tmp 30) (.tmp 31) v30 v31; binOp .eql qc v30 v31 : Sem Value)).run prog wx = .ok (.bool b32) wx /\
       ((.bool b32 : Value) = .bool (qag h d) /\ Below w.heap.size w wx)) := fun wx hbx => by
   have hBx := qb hd hbx hd.size
   have u : qag h d = if (qi d).length = 0 \/ (qi h).length <= (qi d).length then false else j8 ⟨1, qi0 (qi h) (qi d).length, ad0⟩ d := rfl
   refine factJ (w := wx) (¬ ((qi d).length = 0 \/ (qi h).length <= (qi d).length)) ?_ (fun hc => ?_)
   · refine BCase.of (fun c1 => ⟨?_, hBx⟩) (fun c1 => BCase.of (fun c2 => ⟨?_, hBx⟩) (fun c2 => ⟨rfl, ?_⟩))
     · rw [u, if_pos (.inl (by simp at c1; simp [c1]))]
     · rw [u, if_pos (.inr (by simp at c2; omega))]
     · simp at c1 c2
       rintro (hx | hx)
       · exact c1 (List.length_eq_zero_iff.1 hx)
       · omega
   · refine ⟨_, qs.load0 (d2.below hbx) (Hst.len oh), ?_⟩
     refine callK (qoG oh hn (qi d).length (by omega) wx (he.step hBx)) ?_
     rintro _ w6 ⟨rfl, hb6⟩
     have hB6 := qb hBx hb6 hBx.size
     have et : quu (qi h) (qi d).length = .tuple #[(⟨1, qi0 (qi h) (qi d).length, ad0⟩ : Hst).v, .bool true] := if_pos ⟨by omega, by omega⟩
     rw [et, u, if_neg hc]
     refine ⟨_, _, rfl, ?_⟩
     refine qs.new (zs := hst0.cells) (cs := (⟨1, qi0 (qi h) (qi d).length, ad0⟩ : Hst).cells) rfl rfl (Hst.one _) w6 fun k7 w7 hk7 h7 hb7 => ?_
     have hB7 := qb hB6 hb7 hB6.size
     exact ⟨_, qs.load0 h7 rfl, _, qs.load0 (((d3.below hbx).below hb6).below hb7) (Hst.len od), _, qdn (show (⟨1, qi0 (qi h) (qi d).length, ad0⟩ : Hst).ok from rfl) od w7, rfl, hB7⟩
 refine ⟨⟨_, ld2, ?_, _, ld3, ?_⟩, _, ld3, _, ld2, ?_⟩
 · exact lab1 fun wx hbx => ⟨_, qs.load0 (d3.below hbx) (Hst.len od), lab2 wx hbx rest⟩
 · exact lab1 fun wx hbx => lab2 wx hbx rest
 · exact lab1 fun wx hbx => lab2 wx hbx rest
end Go.Proofs.YtndbpedpdbjkpaaGreatDoor
set_option maxRecDepth 100000
namespace Go.Proofs.YtndbpedpdbjkpaaGreatDoor
open Go.Pk
open Go.RowKit (Below)
--  cracknel/cracknelref09.Domain
def qjy (a0 : Option Addr) (l0 c0 : Nat) (w : World) (K : Value -> World -> Prop) : Prop :=
 ∀ k9 w9, k9 = w.heap.size -> w9 = w.alloc (.map #[] 0) ->
 ∃ w10 a10 l10 c10, (Instr.makeSlice zh (.int .i64 (1 : Int)) (.int .i64 (1 : Int))).run prog w9 = .ok (.slice a10 l10 c10) w10 /\
 ∀ k12 w12, k12 = w10.heap.size -> w12 = w10.alloc (.cells #[.map (some k9), .slice a10 l10 c10] qq) ->
 ∃ I : Nat -> FP [.one (.int .i64)],
 (∃ m, I m (0 : Int) w12) /\
 ∀ m n15, AllJ 28 (∀ wl, I m n15 wl ->
 BCase (decide (n15 < ((l0 : Nat) : Int)))
 (((0 <= n15 /\ n15 < ((l0 : Nat) : Int)) /\ Option.isSome a0 = true) /\
 ∃ n18_0 s18_1, Ld ql (qn a0 n15 2) wl (.agg #[.int .i64 n18_0, .string (mkS s18_1)]) /\
 ∀ k5 w5, k5 = wl.heap.size -> w5 = wl.alloc (.cells #[.int .i64 (0 : Int), .string (mkS [])] ql) ->
 ∃ wx, Sv ql (some ⟨k5, 0, none⟩) (.agg #[.int .i64 n18_0, .string (mkS s18_1)]) w5 wx /\
 ∃ n20_0 s20_1, Ld ql (some ⟨k5, 0, none⟩) wx (.agg #[.int .i64 n20_0, .string (mkS s20_1)]) /\
 Calls prog qh0 #[.agg #[.int .i64 n20_0, .string (mkS s20_1)]] wx fun e21 w21 => ∃ s21, e21 = .returned (.string (mkS s21)) /\
 Calls prog qif #[.string (mkS s21)] w21 fun e22 w22 => ∃ n22_0_0 s22_0_1 b22_1 n22_2, e22 = .returned (.tuple #[.agg #[.int .i64 n22_0_0, .string (mkS s22_0_1)], .bool b22_1, .int .i64 n22_2]) /\
 ∀ k6 w6, k6 = w22.heap.size -> w6 = w22.alloc (.cells #[.int .i64 (0 : Int), .string (mkS [])] ql) ->
 ∃ wx_1, Sv ql (some ⟨k6, 0, none⟩) (.agg #[.int .i64 n22_0_0, .string (mkS s22_0_1)]) w6 wx_1 /\
 ∃ J : FP [.one (.bool)],
 (BCase (n22_2 == (0 : Int))
 (BCase b22_1
 (∃ n32_0 s32_1, Ld ql (some ⟨k6, 0, none⟩) wx_1 (.agg #[.int .i64 n32_0, .string (mkS s32_1)]) /\
 ∃ n33_0 s33_1, Ld ql (some ⟨k5, 0, none⟩) wx_1 (.agg #[.int .i64 n33_0, .string (mkS s33_1)]) /\
 ∃ b34, ((do eqGuard .eql ql (.tmp 32) (.tmp 33) (.agg #[.int .i64 n32_0, .string (mkS s32_1)]) (.agg #[.int .i64 n33_0, .string (mkS s33_1)]); binOp .eql ql (.agg #[.int .i64 n32_0, .string (mkS s32_1)]) (.agg #[.int .i64 n33_0, .string (mkS s33_1)]) : Sem Value)).run prog wx_1 = .ok (.bool b34) wx_1 /\
 J b34 wx_1)
 (J false wx_1))
 (J false wx_1)) /\
 ∀ b35, AllJ 9 (∀ wj, J b35 wj ->
 BCase b35
 (∃ n37_0 s37_1, Ld ql (some ⟨k5, 0, none⟩) wj (.agg #[.int .i64 n37_0, .string (mkS s37_1)]) /\
 Calls prog qcS #[.pointer (some ⟨k12, 0, none⟩), .agg #[.int .i64 n37_0, .string (mkS s37_1)]] wj fun e38 w38 => e38 = .returned (.tuple #[]) /\
 ∃ m' : Nat, m' < m /\ I m' (i64.wrap (n15 + (1 : Int))) w38)
 (∃ m' : Nat, m' < m /\ I m' (i64.wrap (n15 + (1 : Int))) wj)))
 (K (.pointer (some ⟨k12, 0, none⟩)) wl))
theorem qmt (a0 : Option Addr) (l0 c0 : Nat) {w : World} {K : Value -> World -> Prop} (h : qjy a0 l0 c0 w K) : Calls prog qp #[.slice a0 l0 c0] w (Ret K) :=
 qo (c := qr Tryz.f35) (by kernel_rfl) Tryz.func35 (by kernel_rfl) [(8, [(15, .one (.int .i64))]), (21, [(35, .one (.bool))])] [.slice a0 l0 c0] (of_decide_eq_true (by kernel_rfl)) _ (by kernel_rfl) h

--  cracknel/admit.Take
def qjq (p0 : Option Addr) (v1 : Value) (s2_0 : List UInt8) (s2_1 : List UInt8) (s2_2 : List UInt8) (s2_3 : List UInt8) (b2_4 : Bool) (n2_5 : Int) (b2_6 : Bool) (n2_7 : Int) (b2_8 : Bool) (b2_9 : Bool) (n2_10 : Int) (n3 : Int) (w : World) (K : Value -> World -> Prop) : Prop :=
 ∀ k5 w5, k5 = w.heap.size -> w5 = w.alloc (.cells (Value.cells v1) qg) ->
 ∀ k6 w6, k6 = w5.heap.size -> w6 = w5.alloc (.cells #[.string (mkS s2_0), .string (mkS s2_1), .string (mkS s2_2), .string (mkS s2_3), .bool b2_4, .int .i64 n2_5, .bool b2_6, .int .i64 n2_7, .bool b2_8, .bool b2_9, .int .i64 n2_10] qd) ->
 ∀ k8 w8, k8 = w6.heap.size -> w8 = w6.alloc (.cells qj qa) ->
 ∃ v15, Ld qg (some ⟨k5, 0, none⟩) w8 v15 /\
 ∃ s16_0 s16_1 s16_2 s16_3 b16_4 n16_5 b16_6 n16_7 b16_8 b16_9 n16_10, Ld qd (some ⟨k6, 0, none⟩) w8 (hV s16_0 s16_1 s16_2 s16_3 b16_4 n16_5 b16_6 n16_7 b16_8 b16_9 n16_10) /\
 Calls prog qfP #[v15, (hV s16_0 s16_1 s16_2 s16_3 b16_4 n16_5 b16_6 n16_7 b16_8 b16_9 n16_10), .int .i64 n3] w8 fun e18 w18 => ∃ n18, e18 = .returned (.int .i64 n18) /\
 BCase (n18 != (0 : Int))
 (∃ wx, Sv qa (some ⟨k8, 0, none⟩) (.agg qj) w18 wx /\
 ∃ vr0, (qC qa (.pointer (some ⟨k8, 0, none⟩))).run prog wx = .ok vr0 wx /\
 K (.tuple #[vr0, .int .i64 n18]) wx)
 ((true = true) /\
 ∃ v26, Ld qc (some ⟨k5, 1, none⟩) w18 v26 /\
 (true = true) /\
 ∃ s28, Ld qe (some ⟨k6, 2, none⟩) w18 (.string (mkS s28)) /\
 Calls prog qeK #[.pointer p0, v26, .string (mkS s28)] w18 fun e29 w29 => ∃ v29_0 b29_1 n29_2, e29 = .returned (.tuple #[v29_0, .bool b29_1, .int .i64 n29_2]) /\
 ∀ k11 w11, k11 = w29.heap.size -> w11 = w29.alloc (.cells qK qc) ->
 ∃ wx_1, Sv qc (some ⟨k11, 0, none⟩) v29_0 w11 wx_1 /\
 ∃ J : FP [.one (.int .i64)],
 (BCase (n29_2 != (0 : Int))
 (J n29_2 wx_1)
 (∃ J_1 : FP [.one (.bool)],
 ((true = true) /\
 ∃ b38, Ld qy (some ⟨k6, 8, none⟩) wx_1 (.bool b38) /\
 BCase b38
 ((true = true) /\
 ∃ b41, Ld qy (some ⟨k5, 0, none⟩) wx_1 (.bool b41) /\
 J_1 (!b41) wx_1)
 (J_1 false wx_1)) /\
 ∀ b36, AllJ 7 (∀ wj, J_1 b36 wj ->
 BCase b36
 (J (104 : Int) wj)
 (∃ J_2 : FP [.one (.bool)],
 ((true = true) /\
 ∃ n46, Ld qx (some ⟨k6, 10, none⟩) wj (.int .i64 n46) /\
 BCase (n46 == (1 : Int))
 ((true = true) /\
 ∃ b50, Ld qy (some ⟨k6, 8, none⟩) wj (.bool b50) /\
 J_2 (!b50) wj)
 (J_2 false wj)) /\
 ∀ b44, AllJ 8 (∀ wj_1, J_2 b44 wj_1 ->
 BCase b44
 (J (105 : Int) wj_1)
 (∃ s54_0 s54_1 s54_2 s54_3 b54_4 n54_5 b54_6 n54_7 b54_8 b54_9 n54_10, Ld qd (some ⟨k6, 0, none⟩) wj_1 (hV s54_0 s54_1 s54_2 s54_3 b54_4 n54_5 b54_6 n54_7 b54_8 b54_9 n54_10) /\
 Calls prog qeI #[(hV s54_0 s54_1 s54_2 s54_3 b54_4 n54_5 b54_6 n54_7 b54_8 b54_9 n54_10), .bool b29_1] wj_1 fun e56 w56 => ∃ b56, e56 = .returned (.bool b56) /\
 BCase b56
 (J (106 : Int) w56)
 (J n29_2 w56))))))) /\
 ∀ n13, AllJ 24 (∀ wj_2, J n13 wj_2 ->
 BCase (n13 != (0 : Int))
 (∃ wx_2, Sv qa (some ⟨k8, 0, none⟩) (.agg qj) wj_2 wx_2 /\
 ∃ vr0_1, (qC qa (.pointer (some ⟨k8, 0, none⟩))).run prog wx_2 = .ok vr0_1 wx_2 /\
 K (.tuple #[vr0_1, .int .i64 n13]) wx_2)
 ((true = true) /\
 ∃ s62, Ld qe (some ⟨k6, 3, none⟩) wj_2 (.string (mkS s62)) /\
 ∃ J_3 : FP [.one (.str)],
 (BCase (s62 == [])
 ((true = true) /\
 ∃ s66, Ld qe (some ⟨k5, 20, none⟩) wj_2 (.string (mkS s66)) /\
 Calls prog qd5 #[.string (mkS s66)] wj_2 fun e67 w67 => ∃ s67, e67 = .returned (.string (mkS s67)) /\
 J_3 s67 w67)
 (J_3 s62 wj_2)) /\
 ∀ s14, AllJ 5 (∀ wj_3, J_3 s14 wj_3 ->
 (true = true) /\
 ∃ s69, (∀ u69, Below wj_3.heap.size wj_3 u69 -> Ld qe (some ⟨k6, 0, none⟩) u69 (.string (mkS s69))) /\
 (true = true) /\
 ∃ s71, (∀ u71, Below wj_3.heap.size wj_3 u71 -> Ld qe (some ⟨k6, 1, none⟩) u71 (.string (mkS s71))) /\
 ∃ v72, (∀ u72, Below wj_3.heap.size wj_3 u72 -> Ld qc (some ⟨k11, 0, none⟩) u72 v72) /\
 (true = true) /\
 ∃ b76, (∀ u76, Below wj_3.heap.size wj_3 u76 -> Ld qy (some ⟨k6, 8, none⟩) u76 (.bool b76)) /\
 (true = true) /\
 ∃ b78, (∀ u78, Below wj_3.heap.size wj_3 u78 -> Ld qy (some ⟨k6, 9, none⟩) u78 (.bool b78)) /\
 (true = true) /\
 ∃ n80, (∀ u80, Below wj_3.heap.size wj_3 u80 -> Ld qx (some ⟨k6, 10, none⟩) u80 (.int .i64 n80)) /\
 ∃ s81_0 s81_1 s81_2 s81_3 b81_4 n81_5 b81_6 n81_7 b81_8 b81_9 n81_10, (∀ u81, Below wj_3.heap.size wj_3 u81 -> Ld qd (some ⟨k6, 0, none⟩) u81 (hV s81_0 s81_1 s81_2 s81_3 b81_4 n81_5 b81_6 n81_7 b81_8 b81_9 n81_10)) /\
 ∃ n83, (∀ u83, Below wj_3.heap.size wj_3 u83 -> Calls prog qei #[(hV s81_0 s81_1 s81_2 s81_3 b81_4 n81_5 b81_6 n81_7 b81_8 b81_9 n81_10), .int .i64 n3] u83 fun e83 w83 => e83 = .returned (.int .i64 n83) /\ Below wj_3.heap.size u83 w83) /\
 ∃ v86, (∀ u86, Below wj_3.heap.size wj_3 u86 -> (Instr.build qa #[(0, .string (mkS s69)), (1, .string (mkS s71)), (2, v72), (3, .bool b29_1), (4, .string (mkS s14)), (5, .bool b76), (6, .bool b78), (7, .int .i64 n80), (8, .int .i64 n83), (9, .int .i64 n3), (10, .int .i64 n3)]).run prog u86 = .ok v86 u86) /\
 ∀ wq, Below wj_3.heap.size wj_3 wq ->
 ∃ wx_3, Sv qa (some ⟨k8, 0, none⟩) v86 wq wx_3 /\
 ∃ vr0_2, (qC qa (.pointer (some ⟨k8, 0, none⟩))).run prog wx_3 = .ok vr0_2 wx_3 /\
 K (.tuple #[vr0_2, .int .i64 (0 : Int)]) wx_3))))
theorem qmH (p0 : Option Addr) (v1 : Value) (s2_0 : List UInt8) (s2_1 : List UInt8) (s2_2 : List UInt8) (s2_3 : List UInt8) (b2_4 : Bool) (n2_5 : Int) (b2_6 : Bool) (n2_7 : Int) (b2_8 : Bool) (b2_9 : Bool) (n2_10 : Int) (n3 : Int) {w : World} {K : Value -> World -> Prop} (h : qjq p0 v1 s2_0 s2_1 s2_2 s2_3 b2_4 n2_5 b2_6 n2_7 b2_8 b2_9 n2_10 n3 w K) : Calls prog qh #[.pointer p0, v1, .agg #[.string (mkS s2_0), .string (mkS s2_1), .string (mkS s2_2), .string (mkS s2_3), .bool b2_4, .int .i64 n2_5, .bool b2_6, .int .i64 n2_7, .bool b2_8, .bool b2_9, .int .i64 n2_10], .int .i64 n3] w (Ret K) :=
 qo (c := qr Tryz.f37) (by kernel_rfl) Tryz.func37 (by kernel_rfl) [(14, [(13, .one (.int .i64))]), (20, [(36, .one (.bool))]), (24, [(44, .one (.bool))]), (43, [(14, .one (.str))]), (2000050, [(19, .one (.bool))])] [.pointer p0, v1, .agg #[.string (mkS s2_0), .string (mkS s2_1), .string (mkS s2_2), .string (mkS s2_3), .bool b2_4, .int .i64 n2_5, .bool b2_6, .int .i64 n2_7, .bool b2_8, .bool b2_9, .int .i64 n2_10], .int .i64 n3] (of_decide_eq_true (by kernel_rfl)) _ (by kernel_rfl) h

--  cracknel/cracknelref10.Take
def qgU (s0 : List UInt8) (w : World) (K : Value -> World -> Prop) : Prop :=
 ∃ I : Nat -> FP [.one (.int .i64)],
 (∃ m, I m (0 : Int) w) /\
 ∀ m n6, AllJ 26 (∀ wl, I m n6 wl ->
 BCase (decide (n6 < (3 : Int)))
 (∃ s9, (Instr.index qny (.agg #[.string (mkS []), .string (mkS [95, 95, 115, 101, 99, 117, 114, 101, 45]), .string (mkS [95, 95, 104, 111, 115, 116, 45])]) (.int .i64 n6)).run prog wl = .ok (.string (mkS s9)) wl /\
 BCase (decide (n6 > (0 : Int)))
 (BCase (decide (((List.length s0 : Nat) : Int) >= ((List.length s9 : Nat) : Int)))
 (((0 <= ((List.length s9 : Nat) : Int) /\ ((List.length s9 : Nat) : Int) <= (((List.length s0) : Nat) : Int))) /\
 ∀ s23, s23 = (List.take (Int.toNat ((List.length s9 : Nat) : Int)) s0) ->
 Calls prog qab #[.string (mkS s23)] wl fun e24 w24 => ∃ s24, e24 = .returned (.string (mkS s24)) /\
 BCase (s24 == s9)
 (K (.int .i64 n6) w24)
 (∃ m' : Nat, m' < m /\ I m' (i64.wrap (n6 + (1 : Int))) w24))
 (∃ m' : Nat, m' < m /\ I m' (i64.wrap (n6 + (1 : Int))) wl))
 (∃ m' : Nat, m' < m /\ I m' (i64.wrap (n6 + (1 : Int))) wl))
 (K (.int .i64 (0 : Int)) wl))
theorem qkD (s0 : List UInt8) {w : World} {K : Value -> World -> Prop} (h : qgU s0 w K) : Calls prog qdi #[.string (mkS s0)] w (Ret K) :=
 qo (c := qr Tryz.f40) (by kernel_rfl) Tryz.func40 (by kernel_rfl) [(6, [(6, .one (.int .i64))])] [.string (mkS s0)] (of_decide_eq_true (by kernel_rfl)) _ (by kernel_rfl) h

--  cracknel/cracknelref10.Prefix
def qj7 (s0 : List UInt8) (w : World) (K : Value -> World -> Prop) : Prop :=
 ∀ k2 w2, k2 = w.heap.size -> w2 = w.alloc (.cells #[.int .i64 (0 : Int), .string (mkS [])] ql) ->
 Calls prog qcs #[.string (mkS s0)] w2 fun e11 w11 => ∃ s11, e11 = .returned (.string (mkS s11)) /\
 ∃ J : FP [],
 (∃ J_1 : FP [.one (.bool)],
 (BCase (s11 == [])
 (J_1 true w11)
 (Calls prog qbg #[.string (mkS s11), .string (mkS [47, 47])] w11 fun e16 w16 => ∃ b16, e16 = .returned (.bool b16) /\
 J_1 b16 w16)) /\
 ∀ b17, AllJ 5 (∀ wj, J_1 b17 wj ->
 BCase b17
 (∃ wx, Sv ql (some ⟨k2, 0, none⟩) (.agg #[.int .i64 (0 : Int), .string (mkS [])]) wj wx /\
 ∃ nr0_0 sr0_1, (qC ql (.pointer (some ⟨k2, 0, none⟩))).run prog wx = .ok (.agg #[.int .i64 nr0_0, .string (mkS sr0_1)]) wx /\
 K (.tuple #[.agg #[.int .i64 nr0_0, .string (mkS sr0_1)], .bool false, .int .i64 (0 : Int)]) wx)
 (J wj))) /\
 AllJ 9 (∀ wj_1, J wj_1 ->
 ∃ J_2 : FP [.one (.str)],
 (Calls prog qet #[.string (mkS s11), .string (mkS [32, 9])] wj_1 fun e20 w20 => ∃ n20, e20 = .returned (.int .i64 n20) /\
 BCase (decide (n20 >= (0 : Int)))
 (((0 <= n20 /\ n20 <= (((List.length s11) : Nat) : Int))) /\
 ∀ s25, s25 = (List.take (Int.toNat n20) s11) ->
 J_2 s25 w20)
 (J_2 s11 w20)) /\
 ∀ s0_1, AllJ 8 (∀ wj_2, J_2 s0_1 wj_2 ->
 Calls prog qfx #[.string (mkS s0_1)] wj_2 fun e28 w28 => ∃ n28_0 s28_1, e28 = .returned (.tuple #[.int .i64 n28_0, .string (mkS s28_1)]) /\
 Calls prog qdl #[.string (mkS s28_1)] w28 fun e33 w33 => ∃ v33_0 n33_1, e33 = .returned (.tuple #[v33_0, .int .i64 n33_1]) /\
 ∀ k8 w8, k8 = w33.heap.size -> w8 = w33.alloc (.cells qK qc) ->
 ∃ wx_1, Sv qc (some ⟨k8, 0, none⟩) v33_0 w8 wx_1 /\
 ∃ J_3 : FP [],
 (∃ J_4 : FP [.one (.bool)],
 (BCase (n33_1 != (0 : Int))
 (J_4 true wx_1)
 ((true = true) /\
 ∃ n40, Ld qx (some ⟨k8, 0, none⟩) wx_1 (.int .i64 n40) /\
 BCase (n40 != (1 : Int))
 (J_4 true wx_1)
 (BCase (n28_0 == (3 : Int))
 (∃ v47, Ld qc (some ⟨k8, 0, none⟩) wx_1 v47 /\
 Calls prog zA #[v47] wx_1 fun e48 w48 => ∃ a48 l48 c48, e48 = .returned (.slice a48 l48 c48) /\
 J_4 (decide (((l48 : Nat) : Int) < (2 : Int))) w48)
 (J_4 false wx_1)))) /\
 ∀ b52, AllJ 16 (∀ wj_3, J_4 b52 wj_3 ->
 BCase b52
 (∃ wx_2, Sv ql (some ⟨k2, 0, none⟩) (.agg #[.int .i64 (0 : Int), .string (mkS [])]) wj_3 wx_2 /\
 ∃ nr0_0_1 sr0_1_1, (qC ql (.pointer (some ⟨k2, 0, none⟩))).run prog wx_2 = .ok (.agg #[.int .i64 nr0_0_1, .string (mkS sr0_1_1)]) wx_2 /\
 K (.tuple #[.agg #[.int .i64 nr0_0_1, .string (mkS sr0_1_1)], .bool false, .int .i64 (51 : Int)]) wx_2)
 (J_3 wj_3))) /\
 AllJ 20 (∀ wj_4, J_3 wj_4 ->
 (true = true) /\
 ∃ s56, Ld qe (some ⟨k8, 1, none⟩) wj_4 (.string (mkS s56)) /\
 ∃ wx_3, Sv ql (some ⟨k2, 0, none⟩) (.agg #[.int .i64 n28_0, .string (mkS s56)]) wj_4 wx_3 /\
 ∃ nr0_0_2 sr0_1_2, (qC ql (.pointer (some ⟨k2, 0, none⟩))).run prog wx_3 = .ok (.agg #[.int .i64 nr0_0_2, .string (mkS sr0_1_2)]) wx_3 /\
 K (.tuple #[.agg #[.int .i64 nr0_0_2, .string (mkS sr0_1_2)], .bool true, .int .i64 (0 : Int)]) wx_3)))
theorem qoj (s0 : List UInt8) {w : World} {K : Value -> World -> Prop} (h : qj7 s0 w K) : Calls prog qif #[.string (mkS s0)] w (Ret K) :=
 qo (c := qr Tryz.f77) (by kernel_rfl) Tryz.func77 (by kernel_rfl) [(4, []), (5, [(17, .one (.bool))]), (12, [(0, .one (.str))]), (24, []), (25, [(52, .one (.bool))])] [.string (mkS s0)] (of_decide_eq_true (by kernel_rfl)) _ (by kernel_rfl) h

--  cracknel/rule.Text
def qka (n0_0 : Int) (s0_1 : List UInt8) (w : World) (K : Value -> World -> Prop) : Prop :=
 ∀ k1 w1, k1 = w.heap.size -> w1 = w.alloc (.cells #[.int .i64 n0_0, .string (mkS s0_1)] ql) ->
 (true = true) /\
 ∃ n4, (∀ u4, Below w1.heap.size w1 u4 -> Ld qx (some ⟨k1, 0, none⟩) u4 (.int .i64 n4)) /\
 ∃ s5, (∀ u5, Below w1.heap.size w1 u5 -> Calls prog qfv #[.int .i64 n4] u5 fun e5 w5 => e5 = .returned (.string (mkS s5)) /\ Below w1.heap.size u5 w5) /\
 (true = true) /\
 ∃ s7, (∀ u7, Below w1.heap.size w1 u7 -> Ld qe (some ⟨k1, 1, none⟩) u7 (.string (mkS s7))) /\
 ((((List.length s5 + List.length s7 : Nat) : Int) <= i64.max)) /\
 ∀ s8, s8 = (s5 ++ s7) ->
 ∀ wq, Below w1.heap.size w1 wq ->
 K (.string (mkS s8)) wq
theorem qnt (n0_0 : Int) (s0_1 : List UInt8) {w : World} {K : Value -> World -> Prop} (h : qka n0_0 s0_1 w K) : Calls prog qh0 #[.agg #[.int .i64 n0_0, .string (mkS s0_1)]] w (Ret K) :=
 qo (c := qr Tryz.f78) (by kernel_rfl) Tryz.func78 (by kernel_rfl) [] [.agg #[.int .i64 n0_0, .string (mkS s0_1)]] (of_decide_eq_true (by kernel_rfl)) _ (by kernel_rfl) h

--  (*cracknel/suffix.Table).put
def qd6 (p0 : Option Addr) (n1_0 : Int) (s1_1 : List UInt8) (w : World) (K : Value -> World -> Prop) : Prop :=
 ∀ k3 w3, k3 = w.heap.size -> w3 = w.alloc (.cells #[.int .i64 n1_0, .string (mkS s1_1)] ql) ->
 (true = true) /\
 ∃ s11, Ld qe (some ⟨k3, 1, none⟩) w3 (.string (mkS s11)) /\
 Calls prog qay #[.string (mkS s11), .int .u8 (46 : Int)] w3 fun e12 w12 => ∃ a12 l12 c12, e12 = .returned (.slice a12 l12 c12) /\
 ∃ I : Nat -> FP [.one (.int .i64), .one (.int .i64)],
 (∃ m, I m (0 : Int) (i64.wrap (((l12 : Nat) : Int) - (1 : Int))) w12) /\
 ∀ m n4 n6, AllJ 50 (∀ wl, I m n4 n6 wl ->
 BCase (decide (n6 >= (0 : Int)))
 (((0 <= n6 /\ n6 < ((l12 : Nat) : Int)) /\ Option.isSome a12 = true) /\
 ∃ s24, Ld qe (qn a12 n6 1) wl (.string (mkS s24)) /\
 ∀ k7 w7, k7 = wl.heap.size -> w7 = wl.alloc (.cells #[.int .i64 (0 : Int), .string (mkS [])] zP) ->
 ∃ wx, Sv zP (some ⟨k7, 0, none⟩) (.agg #[.int .i64 n4, .string (mkS s24)]) w7 wx /\
 ∃ J : FP [],
 ((Option.isSome p0 = true) /\
 (Option.isSome p0 = true) /\
 ∃ (m30 : Option Nat), (∀ u30, Below wx.heap.size wx u30 -> Ld qX (Option.map (fun x => x.add 0) p0) u30 (.map m30)) /\
 ∃ n31_0 s31_1, (∀ u31, Below wx.heap.size wx u31 -> Ld zP (some ⟨k7, 0, none⟩) u31 (.agg #[.int .i64 n31_0, .string (mkS s31_1)])) /\
 ∃ n32_0 b32_1, (∀ u32, Below wx.heap.size wx u32 -> (Instr.lookup qX (.map m30) (.agg #[.int .i64 n31_0, .string (mkS s31_1)]) true).run prog u32 = .ok (.tuple #[.int .i64 n32_0, .bool b32_1]) u32) /\
 ∀ wq, Below wx.heap.size wx wq ->
 BCase (!b32_1)
 ((Option.isSome p0 = true) /\
 (Option.isSome p0 = true) /\
 ∃ (m40 : Option Nat), (∀ u40, Below wq.heap.size wq u40 -> Ld qX (Option.map (fun x => x.add 0) p0) u40 (.map m40)) /\
 ∃ n41_0 s41_1, (∀ u41, Below wq.heap.size wq u41 -> Ld zP (some ⟨k7, 0, none⟩) u41 (.agg #[.int .i64 n41_0, .string (mkS s41_1)])) /\
 (Option.isSome p0 = true) /\
 (Option.isSome p0 = true) /\
 ∃ a45 l45 c45, (∀ u45, Below wq.heap.size wq u45 -> Ld zh (Option.map (fun x => x.add 1) p0) u45 (.slice a45 l45 c45)) /\
 ∀ wq_1, Below wq.heap.size wq wq_1 ->
 ∃ wx_1, (Instr.mapUpdate qX (.map m40) (.agg #[.int .i64 n41_0, .string (mkS s41_1)]) (.int .i64 ((l45 : Nat) : Int))).run prog wq_1 = .ok () wx_1 /\
 (Option.isSome p0 = true) /\
 (Option.isSome p0 = true) /\
 ∃ a51 l51 c51, Ld zh (Option.map (fun x => x.add 1) p0) wx_1 (.slice a51 l51 c51) /\
 ∀ k53 w53, k53 = wx_1.heap.size -> w53 = wx_1.alloc (.cells #[.bool false, .bool false, .bool false, .bool false] qt) ->
 ∃ w54 a54 l54 c54, (Builtin.append_ #[zh, zh] zh #[.slice a51 l51 c51, .slice (some ⟨k53, 0, none⟩) 1 1]).run prog w53 = .ok (.slice a54 l54 c54) w54 /\
 (Option.isSome p0 = true) /\
 (Option.isSome p0 = true) /\
 ∃ wx_2, Sv zh (Option.map (fun x => x.add 1) p0) (.slice a54 l54 c54) w54 wx_2 /\
 J wx_2)
 (J wq)) /\
 AllJ 33 (∀ wj, J wj ->
 (Option.isSome p0 = true) /\
 (Option.isSome p0 = true) /\
 ∃ (m60 : Option Nat), (∀ u60, Below wj.heap.size wj u60 -> Ld qX (Option.map (fun x => x.add 0) p0) u60 (.map m60)) /\
 ∃ n61_0 s61_1, (∀ u61, Below wj.heap.size wj u61 -> Ld zP (some ⟨k7, 0, none⟩) u61 (.agg #[.int .i64 n61_0, .string (mkS s61_1)])) /\
 ∃ n62, (∀ u62, Below wj.heap.size wj u62 -> (Instr.lookup qX (.map m60) (.agg #[.int .i64 n61_0, .string (mkS s61_1)]) false).run prog u62 = .ok (.int .i64 n62) u62) /\
 ∀ wq_2, Below wj.heap.size wj wq_2 ->
 ∃ m' : Nat, m' < m /\ I m' n62 (i64.wrap (n6 - (1 : Int))) wq_2))
 ((Option.isSome p0 = true) /\
 (Option.isSome p0 = true) /\
 ∃ a66 l66 c66, (∀ u66, Below wl.heap.size wl u66 -> Ld zh (Option.map (fun x => x.add 1) p0) u66 (.slice a66 l66 c66)) /\
 (true = true) /\
 ∃ n69, (∀ u69, Below wl.heap.size wl u69 -> Ld qx (some ⟨k3, 0, none⟩) u69 (.int .i64 n69)) /\
 ((0 <= n4 /\ n4 < ((l66 : Nat) : Int)) /\ Option.isSome a66 = true) /\
 ((0 <= n69 /\ n69 < ((4 : Nat) : Int)) /\ Option.isSome (qn a66 n4 4) = true) /\
 ∀ wq_3, Below wl.heap.size wl wq_3 ->
 ∃ wx_3, Sv qy (qn (qn a66 n4 4) n69 1) (.bool true) wq_3 wx_3 /\
 K (.tuple #[]) wx_3))
theorem qhh (p0 : Option Addr) (n1_0 : Int) (s1_1 : List UInt8) {w : World} {K : Value -> World -> Prop} (h : qd6 p0 n1_0 s1_1 w K) : Calls prog qcS #[.pointer p0, .agg #[.int .i64 n1_0, .string (mkS s1_1)]] w (Ret K) :=
 qo (c := qr Tryz.f79) (by kernel_rfl) Tryz.func79 (by kernel_rfl) [(10, [(4, .one (.int .i64)), (6, .one (.int .i64))]), (21, []), (2000028, [(10, .one (.bool))]), (2000033, [(9, .one (.bool))])] [.pointer p0, .agg #[.int .i64 n1_0, .string (mkS s1_1)]] (of_decide_eq_true (by kernel_rfl)) _ (by kernel_rfl) h

--  cracknel/cracknelref04.Parse
def qhw (s0 : List UInt8) (w : World) (K : Value -> World -> Prop) : Prop :=
 ∀ k2 w2, k2 = w.heap.size -> w2 = w.alloc (.cells z7 qg) ->
 ∀ k4 w4, k4 = w2.heap.size -> w4 = w2.alloc (.cells z7 qg) ->
 ∃ wx, Sv qg (some ⟨k4, 0, none⟩) (.agg #[.bool false, .int .i64 (0 : Int), .string (mkS []), .int .u8 (0 : Int), .int .u8 (0 : Int), .int .u8 (0 : Int), .int .u8 (0 : Int), .int .u8 (0 : Int), .int .u8 (0 : Int), .int .u8 (0 : Int), .int .u8 (0 : Int), .int .u8 (0 : Int), .int .u8 (0 : Int), .int .u8 (0 : Int), .int .u8 (0 : Int), .int .u8 (0 : Int), .int .u8 (0 : Int), .int .u8 (0 : Int), .int .u8 (0 : Int), .int .i64 (80 : Int), .string (mkS [])]) w4 wx /\
 ∃ J : FP [.one (.str)],
 (∃ J_1 : FP [.one (.bool)],
 (BCase (decide (((List.length s0 : Nat) : Int) >= (7 : Int)))
 (((0 <= (7 : Int) /\ (7 : Int) <= (((List.length s0) : Nat) : Int))) /\
 ∀ s20, s20 = (List.take (Int.toNat (7 : Int)) s0) ->
 Calls prog jg #[.string (mkS s20)] wx fun e21 w21 => ∃ s21, e21 = .returned (.string (mkS s21)) /\
 J_1 (s21 == [104, 116, 116, 112, 58, 47, 47]) w21)
 (J_1 false wx)) /\
 ∀ b23, AllJ 8 (∀ wj, J_1 b23 wj ->
 BCase b23
 (((0 <= (7 : Int) /\ (7 : Int) <= (((List.length s0) : Nat) : Int))) /\
 ∀ s25, s25 = (List.drop (Int.toNat (7 : Int)) s0) ->
 J s25 wj)
 (∃ J_2 : FP [.one (.bool)],
 (BCase (decide (((List.length s0 : Nat) : Int) >= (8 : Int)))
 (((0 <= (8 : Int) /\ (8 : Int) <= (((List.length s0) : Nat) : Int))) /\
 ∀ s31, s31 = (List.take (Int.toNat (8 : Int)) s0) ->
 Calls prog jg #[.string (mkS s31)] wj fun e32 w32 => ∃ s32, e32 = .returned (.string (mkS s32)) /\
 J_2 (s32 == [104, 116, 116, 112, 115, 58, 47, 47]) w32)
 (J_2 false wj)) /\
 ∀ b34, AllJ 8 (∀ wj_1, J_2 b34 wj_1 ->
 BCase b34
 (((0 <= (8 : Int) /\ (8 : Int) <= (((List.length s0) : Nat) : Int))) /\
 ∀ s36, s36 = (List.drop (Int.toNat (8 : Int)) s0) ->
 (true = true) /\
 ∃ wx_1, Sv qy (some ⟨k4, 0, none⟩) (.bool true) wj_1 wx_1 /\
 (true = true) /\
 ∃ wx_2, Sv qx (some ⟨k4, 19, none⟩) (.int .i64 (443 : Int)) wx_1 wx_2 /\
 J s36 wx_2)
 (∃ wx_3, Sv qg (some ⟨k2, 0, none⟩) (.agg z7) wj_1 wx_3 /\
 ∃ vr0, (qC qg (.pointer (some ⟨k2, 0, none⟩))).run prog wx_3 = .ok vr0 wx_3 /\
 K (.tuple #[vr0, .int .i64 (41 : Int)]) wx_3))))) /\
 ∀ s5, AllJ 26 (∀ wj_2, J s5 wj_2 ->
 Calls prog qa3 #[.string (mkS s5), .string (mkS [47, 63, 35])] wj_2 fun e41 w41 => ∃ n41, e41 = .returned (.int .i64 n41) /\
 ((0 <= n41 /\ n41 <= (((List.length s5) : Nat) : Int))) /\
 ∀ s44, s44 = (List.take (Int.toNat n41) s5) ->
 Calls prog qa3 #[.string (mkS s44), .string (mkS [58])] w41 fun e46 w46 => ∃ n46, e46 = .returned (.int .i64 n46) /\
 ∃ J_3 : FP [.one (.int .i64)],
 (∃ J_4 : FP [.one (.bool)],
 (BCase (decide (((List.length s44 : Nat) : Int) > (0 : Int)))
 (((0 <= (0 : Int) /\ (0 : Int) < ((List.length s44 : Nat) : Int))) /\
 J_4 ((qA s44 (0 : Int)) == (91 : Int)) w46)
 (J_4 false w46)) /\
 ∀ b54, AllJ 7 (∀ wj_3, J_4 b54 wj_3 ->
 BCase b54
 (Calls prog qa3 #[.string (mkS s44), .string (mkS [93])] wj_3 fun e56 w56 => ∃ n56, e56 = .returned (.int .i64 n56) /\
 ∃ n60, (Builtin.min_ #[qx, qx] qx #[.int .i64 (i64.wrap (n56 + (1 : Int))), .int .i64 ((List.length s44 : Nat) : Int)]).run prog w56 = .ok (.int .i64 n60) w56 /\
 J_3 n60 w56)
 (J_3 n46 wj_3))) /\
 ∀ n8, AllJ 14 (∀ wj_4, J_3 n8 wj_4 ->
 ((0 <= n8 /\ n8 <= (((List.length s44) : Nat) : Int))) /\
 ∀ s64, s64 = (List.take (Int.toNat n8) s44) ->
 Calls prog jh #[.string (mkS s64)] wj_4 fun e65 w65 => ∃ v65_0 n65_1, e65 = .returned (.tuple #[v65_0, .int .i64 n65_1]) /\
 ∀ k9 w9, k9 = w65.heap.size -> w9 = w65.alloc (.cells qK qc) ->
 ∃ wx_4, Sv qc (some ⟨k9, 0, none⟩) v65_0 w9 wx_4 /\
 ((0 <= n8 /\ n8 <= (((List.length s44) : Nat) : Int))) /\
 ∀ s70, s70 = (List.drop (Int.toNat n8) s44) ->
 ∃ J_5 : FP [],
 (∃ J_6 : FP [.one (.bool)],
 (BCase (n65_1 != (0 : Int))
 (J_6 true wx_4)
 (BCase (decide (((List.length s70 : Nat) : Int) > (0 : Int)))
 (((0 <= (0 : Int) /\ (0 : Int) < ((List.length s70 : Nat) : Int))) /\
 J_6 ((qA s70 (0 : Int)) != (58 : Int)) wx_4)
 (J_6 false wx_4))) /\
 ∀ b82, AllJ 11 (∀ wj_5, J_6 b82 wj_5 ->
 BCase b82
 (∃ wx_5, Sv qg (some ⟨k2, 0, none⟩) (.agg z7) wj_5 wx_5 /\
 ∃ vr0_1, (qC qg (.pointer (some ⟨k2, 0, none⟩))).run prog wx_5 = .ok vr0_1 wx_5 /\
 K (.tuple #[vr0_1, .int .i64 (31 : Int)]) wx_5)
 (J_5 wj_5))) /\
 AllJ 14 (∀ wj_6, J_5 wj_6 ->
 ∃ v84, Ld qc (some ⟨k9, 0, none⟩) wj_6 v84 /\
 (true = true) /\
 ∃ wx_6, Sv qc (some ⟨k4, 1, none⟩) v84 wj_6 wx_6 /\
 ∃ J_7 : FP [],
 (BCase (decide (((List.length s70 : Nat) : Int) > (0 : Int)))
 (((0 <= (1 : Int) /\ (1 : Int) <= (((List.length s70) : Nat) : Int))) /\
 ∀ s91, s91 = (List.drop (Int.toNat (1 : Int)) s70) ->
 Calls prog qdd #[.string (mkS s91)] wx_6 fun e92 w92 => ∃ n92_0 b92_1, e92 = .returned (.tuple #[.int .i64 n92_0, .bool b92_1]) /\
 ∃ J_8 : FP [.one (.bool)],
 (BCase (!b92_1)
 (J_8 true w92)
 (BCase (decide (n92_0 < (1 : Int)))
 (J_8 true w92)
 (J_8 (decide (n92_0 > (65535 : Int))) w92))) /\
 ∀ b104, AllJ 9 (∀ wj_7, J_8 b104 wj_7 ->
 BCase b104
 (∃ wx_7, Sv qg (some ⟨k2, 0, none⟩) (.agg z7) wj_7 wx_7 /\
 ∃ vr0_2, (qC qg (.pointer (some ⟨k2, 0, none⟩))).run prog wx_7 = .ok vr0_2 wx_7 /\
 K (.tuple #[vr0_2, .int .i64 (42 : Int)]) wx_7)
 ((true = true) /\
 ∃ wx_8, Sv qx (some ⟨k4, 19, none⟩) (.int .i64 n92_0) wj_7 wx_8 /\
 J_7 wx_8)))
 (J_7 wx_6)) /\
 AllJ 25 (∀ wj_8, J_7 wj_8 ->
 ((0 <= n41 /\ n41 <= (((List.length s5) : Nat) : Int))) /\
 ∀ s110, s110 = (List.drop (Int.toNat n41) s5) ->
 (true = true) /\
 ∃ wx_9, Sv qe (some ⟨k4, 20, none⟩) (.string (mkS s110)) wj_8 wx_9 /\
 (true = true) /\
 (true = true) /\
 (∃ s113, Ld qe (some ⟨k4, 20, none⟩) (World.drew wx_9) (.string (mkS s113)) /\
 ∃ s115, Ld qe (some ⟨k4, 20, none⟩) (World.drew wx_9) (.string (mkS s115)) /\
 Calls prog qa3 #[.string (mkS s115), .string (mkS [63, 35])] (World.drew wx_9) fun e116 w116 => ∃ n116, e116 = .returned (.int .i64 n116) /\
 ((0 <= n116 /\ n116 <= (((List.length s113) : Nat) : Int))) /\
 ∀ s117, s117 = (List.take (Int.toNat n116) s113) ->
 (true = true) /\
 ∃ wx_10, Sv qe (some ⟨k4, 20, none⟩) (.string (mkS s117)) w116 wx_10 /\
 ∃ J_9 : FP [],
 ((true = true) /\
 ∃ s120, Ld qe (some ⟨k4, 20, none⟩) wx_10 (.string (mkS s120)) /\
 BCase (s120 == [])
 ((true = true) /\
 ∃ wx_11, Sv qe (some ⟨k4, 20, none⟩) (.string (mkS [47])) wx_10 wx_11 /\
 J_9 wx_11)
 (J_9 wx_10)) /\
 AllJ 4 (∀ wj_9, J_9 wj_9 ->
 (true = true) /\
 ∃ s124, Ld qe (some ⟨k4, 20, none⟩) wj_9 (.string (mkS s124)) /\
 Calls prog qbH #[.string (mkS s124)] wj_9 fun e125 w125 => ∃ b125, e125 = .returned (.bool b125) /\
 BCase (!b125)
 (∃ wx_12, Sv qg (some ⟨k2, 0, none⟩) (.agg z7) w125 wx_12 /\
 ∃ vr0_3, (qC qg (.pointer (some ⟨k2, 0, none⟩))).run prog wx_12 = .ok vr0_3 wx_12 /\
 K (.tuple #[vr0_3, .int .i64 (43 : Int)]) wx_12)
 (∃ v128, Ld qg (some ⟨k4, 0, none⟩) w125 v128 /\
 ∃ wx_13, Sv qg (some ⟨k2, 0, none⟩) v128 w125 wx_13 /\
 ∃ vr0_4, (qC qg (.pointer (some ⟨k2, 0, none⟩))).run prog wx_13 = .ok vr0_4 wx_13 /\
 K (.tuple #[vr0_4, .int .i64 (0 : Int)]) wx_13))) /\
 ∃ s115_1, Ld qe (some ⟨k4, 20, none⟩) (World.drew wx_9) (.string (mkS s115_1)) /\
 (∃ s113_1, Ld qe (some ⟨k4, 20, none⟩) (World.drew wx_9) (.string (mkS s113_1)) /\
 Calls prog qa3 #[.string (mkS s115_1), .string (mkS [63, 35])] (World.drew wx_9) fun e116_1 w116_1 => ∃ n116_1, e116_1 = .returned (.int .i64 n116_1) /\
 ((0 <= n116_1 /\ n116_1 <= (((List.length s113_1) : Nat) : Int))) /\
 ∀ s117_1, s117_1 = (List.take (Int.toNat n116_1) s113_1) ->
 (true = true) /\
 ∃ wx_14, Sv qe (some ⟨k4, 20, none⟩) (.string (mkS s117_1)) w116_1 wx_14 /\
 ∃ J_10 : FP [],
 ((true = true) /\
 ∃ s120_1, Ld qe (some ⟨k4, 20, none⟩) wx_14 (.string (mkS s120_1)) /\
 BCase (s120_1 == [])
 ((true = true) /\
 ∃ wx_15, Sv qe (some ⟨k4, 20, none⟩) (.string (mkS [47])) wx_14 wx_15 /\
 J_10 wx_15)
 (J_10 wx_14)) /\
 AllJ 4 (∀ wj_10, J_10 wj_10 ->
 (true = true) /\
 ∃ s124_1, Ld qe (some ⟨k4, 20, none⟩) wj_10 (.string (mkS s124_1)) /\
 Calls prog qbH #[.string (mkS s124_1)] wj_10 fun e125_1 w125_1 => ∃ b125_1, e125_1 = .returned (.bool b125_1) /\
 BCase (!b125_1)
 (∃ wx_16, Sv qg (some ⟨k2, 0, none⟩) (.agg z7) w125_1 wx_16 /\
 ∃ vr0_5, (qC qg (.pointer (some ⟨k2, 0, none⟩))).run prog wx_16 = .ok vr0_5 wx_16 /\
 K (.tuple #[vr0_5, .int .i64 (43 : Int)]) wx_16)
 (∃ v128_1, Ld qg (some ⟨k4, 0, none⟩) w125_1 v128_1 /\
 ∃ wx_17, Sv qg (some ⟨k2, 0, none⟩) v128_1 w125_1 wx_17 /\
 ∃ vr0_6, (qC qg (.pointer (some ⟨k2, 0, none⟩))).run prog wx_17 = .ok vr0_6 wx_17 /\
 K (.tuple #[vr0_6, .int .i64 (0 : Int)]) wx_17))) /\
 Calls prog qa3 #[.string (mkS s115_1), .string (mkS [63, 35])] (World.drew wx_9) fun e116_2 w116_2 => ∃ n116_2, e116_2 = .returned (.int .i64 n116_2) /\
 ∃ s113_2, Ld qe (some ⟨k4, 20, none⟩) w116_2 (.string (mkS s113_2)) /\
 ((0 <= n116_2 /\ n116_2 <= (((List.length s113_2) : Nat) : Int))) /\
 ∀ s117_2, s117_2 = (List.take (Int.toNat n116_2) s113_2) ->
 (true = true) /\
 ∃ wx_18, Sv qe (some ⟨k4, 20, none⟩) (.string (mkS s117_2)) w116_2 wx_18 /\
 ∃ J_11 : FP [],
 ((true = true) /\
 ∃ s120_2, Ld qe (some ⟨k4, 20, none⟩) wx_18 (.string (mkS s120_2)) /\
 BCase (s120_2 == [])
 ((true = true) /\
 ∃ wx_19, Sv qe (some ⟨k4, 20, none⟩) (.string (mkS [47])) wx_18 wx_19 /\
 J_11 wx_19)
 (J_11 wx_18)) /\
 AllJ 4 (∀ wj_11, J_11 wj_11 ->
 (true = true) /\
 ∃ s124_2, Ld qe (some ⟨k4, 20, none⟩) wj_11 (.string (mkS s124_2)) /\
 Calls prog qbH #[.string (mkS s124_2)] wj_11 fun e125_2 w125_2 => ∃ b125_2, e125_2 = .returned (.bool b125_2) /\
 BCase (!b125_2)
 (∃ wx_20, Sv qg (some ⟨k2, 0, none⟩) (.agg z7) w125_2 wx_20 /\
 ∃ vr0_7, (qC qg (.pointer (some ⟨k2, 0, none⟩))).run prog wx_20 = .ok vr0_7 wx_20 /\
 K (.tuple #[vr0_7, .int .i64 (43 : Int)]) wx_20)
 (∃ v128_2, Ld qg (some ⟨k4, 0, none⟩) w125_2 v128_2 /\
 ∃ wx_21, Sv qg (some ⟨k2, 0, none⟩) v128_2 w125_2 wx_21 /\
 ∃ vr0_8, (qC qg (.pointer (some ⟨k2, 0, none⟩))).run prog wx_21 = .ok vr0_8 wx_21 /\
 K (.tuple #[vr0_8, .int .i64 (0 : Int)]) wx_21))))))
theorem qlg (s0 : List UInt8) {w : World} {K : Value -> World -> Prop} (h : qhw s0 w K) : Calls prog qfL #[.string (mkS s0)] w (Ret K) :=
 qo (c := qr Tryz.f80) (by kernel_rfl) Tryz.func80 (by kernel_rfl) [(6, [(5, .one (.str))]), (7, [(23, .one (.bool))]), (11, [(34, .one (.bool))]), (28, [(8, .one (.int .i64))]), (29, [(54, .one (.bool))]), (38, []), (39, [(82, .one (.bool))]), (48, []), (55, [(104, .one (.bool))]), (68, []), (68, []), (68, [])] [.string (mkS s0)] (of_decide_eq_true (by kernel_rfl)) _ (by kernel_rfl) h

--  cracknel/admit.given
def qhp (v0 : Value) (s1_0 : List UInt8) (s1_1 : List UInt8) (s1_2 : List UInt8) (s1_3 : List UInt8) (b1_4 : Bool) (n1_5 : Int) (b1_6 : Bool) (n1_7 : Int) (b1_8 : Bool) (b1_9 : Bool) (n1_10 : Int) (n2 : Int) (w : World) (K : Value -> World -> Prop) : Prop :=
 ∀ k3 w3, k3 = w.heap.size -> w3 = w.alloc (.cells (Value.cells v0) qg) ->
 ∀ k4 w4, k4 = w3.heap.size -> w4 = w3.alloc (.cells #[.string (mkS s1_0), .string (mkS s1_1), .string (mkS s1_2), .string (mkS s1_3), .bool b1_4, .int .i64 n1_5, .bool b1_6, .int .i64 n1_7, .bool b1_8, .bool b1_9, .int .i64 n1_10] qd) ->
 ∃ v8, Ld qg (some ⟨k3, 0, none⟩) w4 v8 /\
 Calls prog qic #[v8] w4 fun e9 w9 => ∃ b9, e9 = .returned (.bool b9) /\
 BCase (!b9)
 (K (.int .i64 (41 : Int)) w9)
 (∃ s12_0 s12_1 s12_2 s12_3 b12_4 n12_5 b12_6 n12_7 b12_8 b12_9 n12_10, Ld qd (some ⟨k4, 0, none⟩) w9 (hV s12_0 s12_1 s12_2 s12_3 b12_4 n12_5 b12_6 n12_7 b12_8 b12_9 n12_10) /\
 Calls prog qeF #[(hV s12_0 s12_1 s12_2 s12_3 b12_4 n12_5 b12_6 n12_7 b12_8 b12_9 n12_10)] w9 fun e13 w13 => ∃ b13, e13 = .returned (.bool b13) /\
 BCase (!b13)
 (K (.int .i64 (82 : Int)) w13)
 (BCase (decide (n2 < (0 : Int)))
 (K (.int .i64 (122 : Int)) w13)
 (BCase (decide (n2 > (1099511627776 : Int)))
 (K (.int .i64 (122 : Int)) w13)
 (K (.int .i64 (0 : Int)) w13))))
theorem qla (v0 : Value) (s1_0 : List UInt8) (s1_1 : List UInt8) (s1_2 : List UInt8) (s1_3 : List UInt8) (b1_4 : Bool) (n1_5 : Int) (b1_6 : Bool) (n1_7 : Int) (b1_8 : Bool) (b1_9 : Bool) (n1_10 : Int) (n2 : Int) {w : World} {K : Value -> World -> Prop} (h : qhp v0 s1_0 s1_1 s1_2 s1_3 b1_4 n1_5 b1_6 n1_7 b1_8 b1_9 n1_10 n2 w K) : Calls prog qfP #[v0, .agg #[.string (mkS s1_0), .string (mkS s1_1), .string (mkS s1_2), .string (mkS s1_3), .bool b1_4, .int .i64 n1_5, .bool b1_6, .int .i64 n1_7, .bool b1_8, .bool b1_9, .int .i64 n1_10], .int .i64 n2] w (Ret K) :=
 qo (c := qr Tryz.f82) (by kernel_rfl) Tryz.func82 (by kernel_rfl) [] [v0, .agg #[.string (mkS s1_0), .string (mkS s1_1), .string (mkS s1_2), .string (mkS s1_3), .bool b1_4, .int .i64 n1_5, .bool b1_6, .int .i64 n1_7, .bool b1_8, .bool b1_9, .int .i64 n1_10], .int .i64 n2] (of_decide_eq_true (by kernel_rfl)) _ (by kernel_rfl) h

--  cracknel/admit.domain
def qf3 (p0 : Option Addr) (v1 : Value) (s2 : List UInt8) (w : World) (K : Value -> World -> Prop) : Prop :=
 ∀ k4 w4, k4 = w.heap.size -> w4 = w.alloc (.cells (Value.cells v1) qc) ->
 ∀ k6 w6, k6 = w4.heap.size -> w6 = w4.alloc (.cells qK qc) ->
 BCase (s2 == [])
 (∃ v13, Ld qc (some ⟨k4, 0, none⟩) w6 v13 /\
 ∃ wx, Sv qc (some ⟨k6, 0, none⟩) v13 w6 wx /\
 ∃ vr0, (qC qc (.pointer (some ⟨k6, 0, none⟩))).run prog wx = .ok vr0 wx /\
 K (.tuple #[vr0, .bool true, .int .i64 (0 : Int)]) wx)
 (Calls prog qdl #[.string (mkS s2)] w6 fun e16 w16 => ∃ v16_0 n16_1, e16 = .returned (.tuple #[v16_0, .int .i64 n16_1]) /\
 ∀ k9 w9, k9 = w16.heap.size -> w9 = w16.alloc (.cells qK qc) ->
 ∃ wx_1, Sv qc (some ⟨k9, 0, none⟩) v16_0 w9 wx_1 /\
 ∃ J : FP [],
 (BCase (n16_1 != (0 : Int))
 (∃ v22, Ld qc (some ⟨k9, 0, none⟩) wx_1 v22 /\
 ∃ wx_2, Sv qc (some ⟨k6, 0, none⟩) v22 wx_1 wx_2 /\
 ∃ vr0_1, (qC qc (.pointer (some ⟨k6, 0, none⟩))).run prog wx_2 = .ok vr0_1 wx_2 /\
 K (.tuple #[vr0_1, .bool false, .int .i64 (101 : Int)]) wx_2)
 (∃ J_1 : FP [.one (.bool)],
 (∃ v25, Ld qc (some ⟨k9, 0, none⟩) wx_1 v25 /\
 Calls prog jm #[.pointer p0, v25] wx_1 fun e26 w26 => ∃ b26, e26 = .returned (.bool b26) /\
 BCase b26
 (∃ v28, Ld qc (some ⟨k9, 0, none⟩) w26 v28 /\
 ∃ v29, Ld qc (some ⟨k4, 0, none⟩) w26 v29 /\
 ∃ b30, ((do eqGuard .neq qc (.tmp 28) (.tmp 29) v28 v29; binOp .neq qc v28 v29 : Sem Value)).run prog w26 = .ok (.bool b30) w26 /\
 J_1 b30 w26)
 (J_1 false w26)) /\
 ∀ b23, AllJ 8 (∀ wj, J_1 b23 wj ->
 BCase b23
 (∃ v32, Ld qc (some ⟨k9, 0, none⟩) wj v32 /\
 ∃ wx_3, Sv qc (some ⟨k6, 0, none⟩) v32 wj wx_3 /\
 ∃ vr0_2, (qC qc (.pointer (some ⟨k6, 0, none⟩))).run prog wx_3 = .ok vr0_2 wx_3 /\
 K (.tuple #[vr0_2, .bool false, .int .i64 (102 : Int)]) wx_3)
 (∃ v34, Ld qc (some ⟨k4, 0, none⟩) wj v34 /\
 ∃ v35, Ld qc (some ⟨k9, 0, none⟩) wj v35 /\
 Calls prog qeS #[v34, v35] wj fun e36 w36 => ∃ b36, e36 = .returned (.bool b36) /\
 BCase (!b36)
 (∃ v38, Ld qc (some ⟨k9, 0, none⟩) w36 v38 /\
 ∃ wx_4, Sv qc (some ⟨k6, 0, none⟩) v38 w36 wx_4 /\
 ∃ vr0_3, (qC qc (.pointer (some ⟨k6, 0, none⟩))).run prog wx_4 = .ok vr0_3 wx_4 /\
 K (.tuple #[vr0_3, .bool false, .int .i64 (103 : Int)]) wx_4)
 (J w36))))) /\
 AllJ 22 (∀ wj_1, J wj_1 ->
 (∃ v39, Ld qc (some ⟨k9, 0, none⟩) (World.drew wj_1) v39 /\
 ∃ v41, Ld qc (some ⟨k9, 0, none⟩) (World.drew wj_1) v41 /\
 Calls prog jm #[.pointer p0, v41] (World.drew wj_1) fun e42 w42 => ∃ b42, e42 = .returned (.bool b42) /\
 ∃ wx_5, Sv qc (some ⟨k6, 0, none⟩) v39 w42 wx_5 /\
 ∃ vr0_4, (qC qc (.pointer (some ⟨k6, 0, none⟩))).run prog wx_5 = .ok vr0_4 wx_5 /\
 K (.tuple #[vr0_4, .bool b42, .int .i64 (0 : Int)]) wx_5) /\
 ∃ v41_1, Ld qc (some ⟨k9, 0, none⟩) (World.drew wj_1) v41_1 /\
 (∃ v39_1, Ld qc (some ⟨k9, 0, none⟩) (World.drew wj_1) v39_1 /\
 Calls prog jm #[.pointer p0, v41_1] (World.drew wj_1) fun e42_1 w42_1 => ∃ b42_1, e42_1 = .returned (.bool b42_1) /\
 ∃ wx_6, Sv qc (some ⟨k6, 0, none⟩) v39_1 w42_1 wx_6 /\
 ∃ vr0_5, (qC qc (.pointer (some ⟨k6, 0, none⟩))).run prog wx_6 = .ok vr0_5 wx_6 /\
 K (.tuple #[vr0_5, .bool b42_1, .int .i64 (0 : Int)]) wx_6) /\
 Calls prog jm #[.pointer p0, v41_1] (World.drew wj_1) fun e42_2 w42_2 => ∃ b42_2, e42_2 = .returned (.bool b42_2) /\
 ∃ v39_2, Ld qc (some ⟨k9, 0, none⟩) w42_2 v39_2 /\
 ∃ wx_7, Sv qc (some ⟨k6, 0, none⟩) v39_2 w42_2 wx_7 /\
 ∃ vr0_6, (qC qc (.pointer (some ⟨k6, 0, none⟩))).run prog wx_7 = .ok vr0_6 wx_7 /\
 K (.tuple #[vr0_6, .bool b42_2, .int .i64 (0 : Int)]) wx_7))
theorem qko (p0 : Option Addr) (v1 : Value) (s2 : List UInt8) {w : World} {K : Value -> World -> Prop} (h : qf3 p0 v1 s2 w K) : Calls prog qeK #[.pointer p0, v1, .string (mkS s2)] w (Ret K) :=
 qo (c := qr Tryz.f83) (by kernel_rfl) Tryz.func83 (by kernel_rfl) [(12, []), (20, [(23, .one (.bool))])] [.pointer p0, v1, .string (mkS s2)] (of_decide_eq_true (by kernel_rfl)) _ (by kernel_rfl) h

--  cracknel/admit.broken
def qgn (s0_0 : List UInt8) (s0_1 : List UInt8) (s0_2 : List UInt8) (s0_3 : List UInt8) (b0_4 : Bool) (n0_5 : Int) (b0_6 : Bool) (n0_7 : Int) (b0_8 : Bool) (b0_9 : Bool) (n0_10 : Int) (b1 : Bool) (w : World) (K : Value -> World -> Prop) : Prop :=
 ∀ k2 w2, k2 = w.heap.size -> w2 = w.alloc (.cells #[.string (mkS s0_0), .string (mkS s0_1), .string (mkS s0_2), .string (mkS s0_3), .bool b0_4, .int .i64 n0_5, .bool b0_6, .int .i64 n0_7, .bool b0_8, .bool b0_9, .int .i64 n0_10] qd) ->
 (true = true) /\
 ∃ s7, Ld qe (some ⟨k2, 0, none⟩) w2 (.string (mkS s7)) /\
 ∃ J : FP [.one (.str)],
 (BCase (s7 == [])
 ((true = true) /\
 ∃ s11, Ld qe (some ⟨k2, 1, none⟩) w2 (.string (mkS s11)) /\
 J s11 w2)
 (J s7 w2)) /\
 ∀ s5, AllJ 4 (∀ wj, J s5 wj ->
 Calls prog qdi #[.string (mkS s5)] wj fun e13 w13 => ∃ n13, e13 = .returned (.int .i64 n13) /\
 BCase (n13 == (1 : Int))
 ((true = true) /\
 ∃ b17, Ld qy (some ⟨k2, 8, none⟩) w13 (.bool b17) /\
 K (.bool (!b17)) w13)
 (BCase (n13 == (2 : Int))
 ((true = true) /\
 ∃ b22, Ld qy (some ⟨k2, 8, none⟩) w13 (.bool b22) /\
 BCase (!b22)
 (K (.bool true) w13)
 (BCase (!b1)
 (K (.bool true) w13)
 ((true = true) /\
 ∃ s30, Ld qe (some ⟨k2, 3, none⟩) w13 (.string (mkS s30)) /\
 K (.bool (!(s30 == [47]))) w13)))
 (K (.bool false) w13)))
theorem qkC (s0_0 : List UInt8) (s0_1 : List UInt8) (s0_2 : List UInt8) (s0_3 : List UInt8) (b0_4 : Bool) (n0_5 : Int) (b0_6 : Bool) (n0_7 : Int) (b0_8 : Bool) (b0_9 : Bool) (n0_10 : Int) (b1 : Bool) {w : World} {K : Value -> World -> Prop} (h : qgn s0_0 s0_1 s0_2 s0_3 b0_4 n0_5 b0_6 n0_7 b0_8 b0_9 n0_10 b1 w K) : Calls prog qeI #[.agg #[.string (mkS s0_0), .string (mkS s0_1), .string (mkS s0_2), .string (mkS s0_3), .bool b0_4, .int .i64 n0_5, .bool b0_6, .int .i64 n0_7, .bool b0_8, .bool b0_9, .int .i64 n0_10], .bool b1] w (Ret K) :=
 qo (c := qr Tryz.f84) (by kernel_rfl) Tryz.func84 (by kernel_rfl) [(4, [(5, .one (.str))])] [.agg #[.string (mkS s0_0), .string (mkS s0_1), .string (mkS s0_2), .string (mkS s0_3), .bool b0_4, .int .i64 n0_5, .bool b0_6, .int .i64 n0_7, .bool b0_8, .bool b0_9, .int .i64 n0_10], .bool b1] (of_decide_eq_true (by kernel_rfl)) _ (by kernel_rfl) h

--  cracknel/match.Default
def qf0 (s0 : List UInt8) (w : World) (K : Value -> World -> Prop) : Prop :=
 Calls prog qfC #[.string (mkS s0), .int .u8 (47 : Int)] w fun e5 w5 => ∃ n5, e5 = .returned (.int .i64 n5) /\
 ∃ J : FP [.one (.bool)],
 (BCase (decide (n5 > (0 : Int)))
 (((0 <= (0 : Int) /\ (0 : Int) < ((List.length s0 : Nat) : Int))) /\
 J ((qA s0 (0 : Int)) == (47 : Int)) w5)
 (J false w5)) /\
 ∀ b12, AllJ 6 (∀ wj, J b12 wj ->
 BCase b12
 (((0 <= n5 /\ n5 <= (((List.length s0) : Nat) : Int))) /\
 ∀ s15, s15 = (List.take (Int.toNat n5) s0) ->
 K (.string (mkS s15)) wj)
 (K (.string (mkS [47])) wj))
theorem qjD (s0 : List UInt8) {w : World} {K : Value -> World -> Prop} (h : qf0 s0 w K) : Calls prog qd5 #[.string (mkS s0)] w (Ret K) :=
 qo (c := qr Tryz.f85) (by kernel_rfl) Tryz.func85 (by kernel_rfl) [(5, [(12, .one (.bool))])] [.string (mkS s0)] (of_decide_eq_true (by kernel_rfl)) _ (by kernel_rfl) h

--  cracknel/admit.expires
def qfZ (s0_0 : List UInt8) (s0_1 : List UInt8) (s0_2 : List UInt8) (s0_3 : List UInt8) (b0_4 : Bool) (n0_5 : Int) (b0_6 : Bool) (n0_7 : Int) (b0_8 : Bool) (b0_9 : Bool) (n0_10 : Int) (n1 : Int) (w : World) (K : Value -> World -> Prop) : Prop :=
 ∀ k2 w2, k2 = w.heap.size -> w2 = w.alloc (.cells #[.string (mkS s0_0), .string (mkS s0_1), .string (mkS s0_2), .string (mkS s0_3), .bool b0_4, .int .i64 n0_5, .bool b0_6, .int .i64 n0_7, .bool b0_8, .bool b0_9, .int .i64 n0_10] qd) ->
 (true = true) /\
 ∃ b7, Ld qy (some ⟨k2, 6, none⟩) w2 (.bool b7) /\
 BCase b7
 ((true = true) /\
 ∃ n10, Ld qZ (some ⟨k2, 7, none⟩) w2 (.int .i64 n10) /\
 K (.int .i64 (i64.wrap (n1 + n10))) w2)
 ((true = true) /\
 ∃ b14, Ld qy (some ⟨k2, 4, none⟩) w2 (.bool b14) /\
 BCase b14
 ((true = true) /\
 ∃ n16, Ld qZ (some ⟨k2, 5, none⟩) w2 (.int .i64 n16) /\
 ∃ n19, (Builtin.min_ #[qZ, qZ] qZ #[.int .i64 n16, .int .i64 (i64.wrap (n1 + (34560000 : Int)))]).run prog w2 = .ok (.int .i64 n19) w2 /\
 K (.int .i64 n19) w2)
 (K (.int .i64 (9223372036854775807 : Int)) w2))
theorem qjX (s0_0 : List UInt8) (s0_1 : List UInt8) (s0_2 : List UInt8) (s0_3 : List UInt8) (b0_4 : Bool) (n0_5 : Int) (b0_6 : Bool) (n0_7 : Int) (b0_8 : Bool) (b0_9 : Bool) (n0_10 : Int) (n1 : Int) {w : World} {K : Value -> World -> Prop} (h : qfZ s0_0 s0_1 s0_2 s0_3 b0_4 n0_5 b0_6 n0_7 b0_8 b0_9 n0_10 n1 w K) : Calls prog qei #[.agg #[.string (mkS s0_0), .string (mkS s0_1), .string (mkS s0_2), .string (mkS s0_3), .bool b0_4, .int .i64 n0_5, .bool b0_6, .int .i64 n0_7, .bool b0_8, .bool b0_9, .int .i64 n0_10], .int .i64 n1] w (Ret K) :=
 qo (c := qr Tryz.f86) (by kernel_rfl) Tryz.func86 (by kernel_rfl) [] [.agg #[.string (mkS s0_0), .string (mkS s0_1), .string (mkS s0_2), .string (mkS s0_3), .bool b0_4, .int .i64 n0_5, .bool b0_6, .int .i64 n0_7, .bool b0_8, .bool b0_9, .int .i64 n0_10], .int .i64 n1] (of_decide_eq_true (by kernel_rfl)) _ (by kernel_rfl) h

--  cracknel/cracknelref04.Right
def qhP (s0 : List UInt8) (w : World) (K : Value -> World -> Prop) : Prop :=
 ∃ I : Nat -> FP [.one (.int .i64)],
 (∃ m, I m (0 : Int) w) /\
 ∀ m n9, AllJ 18 (∀ wl, I m n9 wl ->
 BCase (decide (n9 < (2 : Int)))
 (∃ n11, (Instr.index qq7 (.agg #[.int .i64 (2 : Int), .int .i64 (3 : Int)]) (.int .i64 n9)).run prog wl = .ok (.int .i64 n11) wl /\
 Calls prog qfv #[.int .i64 n11] wl fun e15 w15 => ∃ s15, e15 = .returned (.string (mkS s15)) /\
 Calls prog jj #[.string (mkS s0), .string (mkS s15)] w15 fun e16 w16 => ∃ s16_0 b16_1, e16 = .returned (.tuple #[.string (mkS s16_0), .bool b16_1]) /\
 BCase b16_1
 (K (.tuple #[.int .i64 n11, .string (mkS s16_0)]) w16)
 (∃ m' : Nat, m' < m /\ I m' (i64.wrap (n9 + (1 : Int))) w16))
 (K (.tuple #[.int .i64 (1 : Int), .string (mkS s0)]) wl))
theorem qlR (s0 : List UInt8) {w : World} {K : Value -> World -> Prop} (h : qhP s0 w K) : Calls prog qfx #[.string (mkS s0)] w (Ret K) :=
 qo (c := qr Tryz.f138) (by kernel_rfl) Tryz.func138 (by kernel_rfl) [(6, [(9, .one (.int .i64))])] [.string (mkS s0)] (of_decide_eq_true (by kernel_rfl)) _ (by kernel_rfl) h

--  cracknel/rule.mark
def qj5 (n0 : Int) (w : World) (K : Value -> World -> Prop) : Prop :=
 BCase (n0 == (2 : Int))
 (K (.string (mkS [42, 46])) w)
 (BCase (n0 == (3 : Int))
 (K (.string (mkS [33])) w)
 (K (.string (mkS [])) w))
theorem qnV (n0 : Int) {w : World} {K : Value -> World -> Prop} (h : qj5 n0 w K) : Calls prog qfv #[.int .i64 n0] w (Ret K) :=
 qo (c := qr Tryz.f139) (by kernel_rfl) Tryz.func139 (by kernel_rfl) [] [.int .i64 n0] (of_decide_eq_true (by kernel_rfl)) _ (by kernel_rfl) h

--  cracknel/cracknelref04.find
def qjm (s0 : List UInt8) (s1 : List UInt8) (w : World) (K : Value -> World -> Prop) : Prop :=
 ∃ I : Nat -> FP [.one (.int .i64)],
 (∃ m, I m (0 : Int) w) /\
 ∀ m n5, AllJ 22 (∀ wl, I m n5 wl ->
 BCase (decide (n5 < ((List.length s0 : Nat) : Int)))
 (∃ I_1 : Nat -> FP [.one (.int .i64)],
 (∃ m_1, I_1 m_1 (0 : Int) wl) /\
 ∀ m_1 n6, AllJ 15 (∀ wl_1, I_1 m_1 n6 wl_1 ->
 BCase (decide (n6 < ((List.length s1 : Nat) : Int)))
 (((0 <= n5 /\ n5 < ((List.length s0 : Nat) : Int))) /\
 ((0 <= n6 /\ n6 < ((List.length s1 : Nat) : Int))) /\
 ∀ wq, Below wl_1.heap.size wl_1 wq ->
 BCase ((qA s0 n5) == (qA s1 n6))
 (K (.int .i64 n5) wq)
 (∃ m'_1 : Nat, m'_1 < m_1 /\ I_1 m'_1 (i64.wrap (n6 + (1 : Int))) wq))
 (∃ m' : Nat, m' < m /\ I m' (i64.wrap (n5 + (1 : Int))) wl_1)))
 (K (.int .i64 ((List.length s0 : Nat) : Int)) wl))
theorem qmo (s0 : List UInt8) (s1 : List UInt8) {w : World} {K : Value -> World -> Prop} (h : qjm s0 s1 w K) : Calls prog qa3 #[.string (mkS s0), .string (mkS s1)] w (Ret K) :=
 qo (c := qr Tryz.f140) (by kernel_rfl) Tryz.func140 (by kernel_rfl) [(6, [(5, .one (.int .i64))]), (18, [(6, .one (.int .i64))])] [.string (mkS s0), .string (mkS s1)] (of_decide_eq_true (by kernel_rfl)) _ (by kernel_rfl) h

--  cracknel/cracknelref04.Path
def qjv (s0 : List UInt8) (w : World) (K : Value -> World -> Prop) : Prop :=
 ∃ I : Nat -> FP [.one (.int .i64)],
 (∃ m, I m (0 : Int) w) /\
 ∀ m n3, AllJ 29 (∀ wl, I m n3 wl ->
 BCase (decide (n3 < ((List.length s0 : Nat) : Int)))
 (((0 <= n3 /\ n3 < ((List.length s0 : Nat) : Int))) /\
 BCase (decide ((qA s0 n3) < (33 : Int)))
 (K (.bool false) wl)
 (((0 <= n3 /\ n3 < ((List.length s0 : Nat) : Int))) /\
 BCase (decide ((qA s0 n3) > (126 : Int)))
 (K (.bool false) wl)
 (((0 <= n3 /\ n3 < ((List.length s0 : Nat) : Int))) /\
 BCase ((qA s0 n3) == (63 : Int))
 (K (.bool false) wl)
 (((0 <= n3 /\ n3 < ((List.length s0 : Nat) : Int))) /\
 BCase ((qA s0 n3) == (35 : Int))
 (K (.bool false) wl)
 (∃ m' : Nat, m' < m /\ I m' (i64.wrap (n3 + (1 : Int))) wl)))))
 (BCase (decide (((List.length s0 : Nat) : Int) >= (1 : Int)))
 (BCase (decide (((List.length s0 : Nat) : Int) <= (2048 : Int)))
 (((0 <= (0 : Int) /\ (0 : Int) < ((List.length s0 : Nat) : Int))) /\
 K (.bool ((qA s0 (0 : Int)) == (47 : Int))) wl)
 (K (.bool false) wl))
 (K (.bool false) wl)))
theorem qmK (s0 : List UInt8) {w : World} {K : Value -> World -> Prop} (h : qjv s0 w K) : Calls prog qbH #[.string (mkS s0)] w (Ret K) :=
 qo (c := qr Tryz.f142) (by kernel_rfl) Tryz.func142 (by kernel_rfl) [(6, [(3, .one (.int .i64))])] [.string (mkS s0)] (of_decide_eq_true (by kernel_rfl)) _ (by kernel_rfl) h

--  cracknel/url.Right
def qj2 (v0 : Value) (w : World) (K : Value -> World -> Prop) : Prop :=
 ∀ k1 w1, k1 = w.heap.size -> w1 = w.alloc (.cells (Value.cells v0) qg) ->
 (true = true) /\
 ∃ v4, Ld qc (some ⟨k1, 1, none⟩) w1 v4 /\
 Calls prog qds #[v4] w1 fun e5 w5 => ∃ b5, e5 = .returned (.bool b5) /\
 BCase b5
 ((true = true) /\
 ∃ n8, Ld qx (some ⟨k1, 19, none⟩) w5 (.int .i64 n8) /\
 BCase (decide (n8 >= (1 : Int)))
 ((true = true) /\
 ∃ n13, Ld qx (some ⟨k1, 19, none⟩) w5 (.int .i64 n13) /\
 BCase (decide (n13 <= (65535 : Int)))
 ((true = true) /\
 ∃ s18, Ld qe (some ⟨k1, 20, none⟩) w5 (.string (mkS s18)) /\
 Calls prog qjL #[.string (mkS s18)] w5 fun e19 w19 => ∃ b19, e19 = .returned (.bool b19) /\
 K (.bool b19) w19)
 (K (.bool false) w5))
 (K (.bool false) w5))
 (K (.bool false) w5)
theorem qn4 (v0 : Value) {w : World} {K : Value -> World -> Prop} (h : qj2 v0 w K) : Calls prog qic #[v0] w (Ret K) :=
 qo (c := qr Tryz.f149) (by kernel_rfl) Tryz.func149 (by kernel_rfl) [] [v0] (of_decide_eq_true (by kernel_rfl)) _ (by kernel_rfl) h

--  (*cracknel/suffix.Table).Public
def qcY (p0 : Option Addr) (v1 : Value) (w : World) (K : Value -> World -> Prop) : Prop :=
 ∀ k3 w3, k3 = w.heap.size -> w3 = w.alloc (.cells (Value.cells v1) qc) ->
 ∃ v6, Ld qc (some ⟨k3, 0, none⟩) w3 v6 /\
 Calls prog zA #[v6] w3 fun e7 w7 => ∃ a7 l7 c7, e7 = .returned (.slice a7 l7 c7) /\
 BCase (decide (((l7 : Nat) : Int) > (0 : Int)))
 (∃ v13, Ld qc (some ⟨k3, 0, none⟩) w7 v13 /\
 Calls prog qbP #[.pointer p0, v13] w7 fun e14 w14 => ∃ n14, e14 = .returned (.int .i64 n14) /\
 K (.bool (n14 == ((l7 : Nat) : Int))) w14)
 (K (.bool false) w7)
theorem qfR (p0 : Option Addr) (v1 : Value) {w : World} {K : Value -> World -> Prop} (h : qcY p0 v1 w K) : Calls prog jm #[.pointer p0, v1] w (Ret K) :=
 qo (c := qr Tryz.f151) (by kernel_rfl) Tryz.func151 (by kernel_rfl) [] [.pointer p0, v1] (of_decide_eq_true (by kernel_rfl)) _ (by kernel_rfl) h

--  cracknel/match.Domain
def qgx (v0 : Value) (v1 : Value) (w : World) (K : Value -> World -> Prop) : Prop :=
 ∀ k2 w2, k2 = w.heap.size -> w2 = w.alloc (.cells (Value.cells v0) qc) ->
 ∀ k3 w3, k3 = w2.heap.size -> w3 = w2.alloc (.cells (Value.cells v1) qc) ->
 ∃ v5, Ld qc (some ⟨k2, 0, none⟩) w3 v5 /\
 ∃ v6, Ld qc (some ⟨k3, 0, none⟩) w3 v6 /\
 ∃ b7, ((do eqGuard .eql qc (.tmp 5) (.tmp 6) v5 v6; binOp .eql qc v5 v6 : Sem Value)).run prog w3 = .ok (.bool b7) w3 /\
 BCase b7
 (∃ v9, Ld qc (some ⟨k2, 0, none⟩) w3 v9 /\
 Calls prog qds #[v9] w3 fun e10 w10 => ∃ b10, e10 = .returned (.bool b10) /\
 BCase b10
 (K (.bool true) w10)
 (∃ v13, Ld qc (some ⟨k2, 0, none⟩) w10 v13 /\
 ∃ v14, Ld qc (some ⟨k3, 0, none⟩) w10 v14 /\
 Calls prog qdp #[v13, v14] w10 fun e15 w15 => ∃ b15, e15 = .returned (.bool b15) /\
 K (.bool b15) w15))
 (∃ v13_1, Ld qc (some ⟨k2, 0, none⟩) w3 v13_1 /\
 ∃ v14_1, Ld qc (some ⟨k3, 0, none⟩) w3 v14_1 /\
 Calls prog qdp #[v13_1, v14_1] w3 fun e15_1 w15_1 => ∃ b15_1, e15_1 = .returned (.bool b15_1) /\
 K (.bool b15_1) w15_1)
theorem qkF (v0 : Value) (v1 : Value) {w : World} {K : Value -> World -> Prop} (h : qgx v0 v1 w K) : Calls prog qeS #[v0, v1] w (Ret K) :=
 qo (c := qr Tryz.f152) (by kernel_rfl) Tryz.func152 (by kernel_rfl) [] [v0, v1] (of_decide_eq_true (by kernel_rfl)) _ (by kernel_rfl) h

--  cracknel/cracknelref06.Right
def qkZ (s0 : List UInt8) (w : World) (K : Value -> World -> Prop) : Prop :=
 ∃ J : FP [],
 (BCase (s0 == [])
 (K (.bool false) w)
 (BCase (decide (((List.length s0 : Nat) : Int) > (2048 : Int)))
 (K (.bool false) w)
 (((0 <= (0 : Int) /\ (0 : Int) < ((List.length s0 : Nat) : Int))) /\
 BCase ((qA s0 (0 : Int)) != (47 : Int))
 (K (.bool false) w)
 (J w)))) /\
 AllJ 13 (∀ wj, J wj ->
 ∃ w18 a18 l18 c18, (convert qe qE (.string (mkS s0))).run prog wj = .ok (.slice a18 l18 c18) w18 /\
 ∃ I : Nat -> FP [.one (.int .i64)],
 (∃ m, I m (0 : Int) w18) /\
 ∀ m n20, AllJ 20 (∀ wl, I m n20 wl ->
 BCase (decide (n20 < ((l18 : Nat) : Int)))
 (((0 <= n20 /\ n20 < ((l18 : Nat) : Int)) /\ Option.isSome a18 = true) /\
 ∃ n23, Ld qw (qn a18 n20 1) wl (.int .u8 n23) /\
 BCase (decide (n23 < (33 : Int)))
 (K (.bool false) wl)
 (BCase (decide (n23 > (126 : Int)))
 (K (.bool false) wl)
 (BCase (n23 == (63 : Int))
 (K (.bool false) wl)
 (BCase (n23 == (35 : Int))
 (K (.bool false) wl)
 (∃ m' : Nat, m' < m /\ I m' (i64.wrap (n20 + (1 : Int))) wl)))))
 (K (.bool true) wl)))
theorem qoU (s0 : List UInt8) {w : World} {K : Value -> World -> Prop} (h : qkZ s0 w K) : Calls prog qjL #[.string (mkS s0)] w (Ret K) :=
 qo (c := qr Tryz.f208) (by kernel_rfl) Tryz.func208 (by kernel_rfl) [(2, []), (14, [(20, .one (.int .i64))])] [.string (mkS s0)] (of_decide_eq_true (by kernel_rfl)) _ (by kernel_rfl) h

--  (*cracknel/suffix.Table).Suffix
def qcW (p0 : Option Addr) (v1 : Value) (w : World) (K : Value -> World -> Prop) : Prop :=
 ∀ k3 w3, k3 = w.heap.size -> w3 = w.alloc (.cells (Value.cells v1) qc) ->
 ∃ v12, Ld qc (some ⟨k3, 0, none⟩) w3 v12 /\
 Calls prog zA #[v12] w3 fun e13 w13 => ∃ a13 l13 c13, e13 = .returned (.slice a13 l13 c13) /\
 ∃ n16, (Builtin.min_ #[qx, qx] qx #[.int .i64 (1 : Int), .int .i64 ((l13 : Nat) : Int)]).run prog w13 = .ok (.int .i64 n16) w13 /\
 ∃ J : FP [.one (.int .i64), .one (.int .i64)],
 (∃ I : Nat -> FP [.one (.int .i64), .one (.int .i64), .one (.int .i64), .one (.int .i64)],
 (∃ m, I m (0 : Int) n16 (0 : Int) (1 : Int) w13) /\
 ∀ m n6 n7 n8 n9, AllJ 56 (∀ wl, I m n6 n7 n8 n9 wl ->
 BCase (decide (n9 <= ((l13 : Nat) : Int)))
 (∃ J_1 : FP [.one (.int .i64)],
 ((Option.isSome p0 = true) /\
 (Option.isSome p0 = true) /\
 ∃ a26 l26 c26, Ld zh (Option.map (fun x => x.add 1) p0) wl (.slice a26 l26 c26) /\
 ((0 <= n6 /\ n6 < ((l26 : Nat) : Int)) /\ Option.isSome a26 = true) /\
 ((0 <= (2 : Int) /\ (2 : Int) < ((4 : Nat) : Int)) /\ Option.isSome (qn a26 n6 4) = true) /\
 ∃ b30, Ld qy (qn (qn a26 n6 4) (2 : Int) 1) wl (.bool b30) /\
 BCase b30
 (J_1 n9 wl)
 (J_1 n7 wl)) /\
 ∀ n7_1, AllJ 9 (∀ wj, J_1 n7_1 wj ->
 (Option.isSome p0 = true) /\
 (Option.isSome p0 = true) /\
 ∃ (m36 : Option Nat), (∀ u36, Below wj.heap.size wj u36 -> Ld qX (Option.map (fun x => x.add 0) p0) u36 (.map m36)) /\
 ((0 <= (i64.wrap (((l13 : Nat) : Int) - n9)) /\ (i64.wrap (((l13 : Nat) : Int) - n9)) < ((l13 : Nat) : Int)) /\ Option.isSome a13 = true) /\
 ∃ s44, (∀ u44, Below wj.heap.size wj u44 -> Ld qe (qn a13 (i64.wrap (((l13 : Nat) : Int) - n9)) 1) u44 (.string (mkS s44))) /\
 ∃ n46_0 b46_1, (∀ u46, Below wj.heap.size wj u46 -> (Instr.lookup qX (.map m36) (.agg #[.int .i64 n6, .string (mkS s44)]) true).run prog u46 = .ok (.tuple #[.int .i64 n46_0, .bool b46_1]) u46) /\
 ∀ wq, Below wj.heap.size wj wq ->
 BCase (!b46_1)
 (J n7_1 n8 wq)
 (∃ J_2 : FP [.one (.int .i64)],
 ((Option.isSome p0 = true) /\
 (Option.isSome p0 = true) /\
 ∃ a55 l55 c55, Ld zh (Option.map (fun x => x.add 1) p0) wq (.slice a55 l55 c55) /\
 ((0 <= n46_0 /\ n46_0 < ((l55 : Nat) : Int)) /\ Option.isSome a55 = true) /\
 ((0 <= (1 : Int) /\ (1 : Int) < ((4 : Nat) : Int)) /\ Option.isSome (qn a55 n46_0 4) = true) /\
 ∃ b59, Ld qy (qn (qn a55 n46_0 4) (1 : Int) 1) wq (.bool b59) /\
 BCase b59
 (J_2 n9 wq)
 (J_2 n7_1 wq)) /\
 ∀ n7_2, AllJ 9 (∀ wj_1, J_2 n7_2 wj_1 ->
 (Option.isSome p0 = true) /\
 (Option.isSome p0 = true) /\
 ∃ a64 l64 c64, Ld zh (Option.map (fun x => x.add 1) p0) wj_1 (.slice a64 l64 c64) /\
 ((0 <= n46_0 /\ n46_0 < ((l64 : Nat) : Int)) /\ Option.isSome a64 = true) /\
 ((0 <= (3 : Int) /\ (3 : Int) < ((4 : Nat) : Int)) /\ Option.isSome (qn a64 n46_0 4) = true) /\
 ∃ b68, Ld qy (qn (qn a64 n46_0 4) (3 : Int) 1) wj_1 (.bool b68) /\
 BCase b68
 (∃ m' : Nat, m' < m /\ I m' n46_0 n7_2 (i64.wrap (n9 - (1 : Int))) (i64.wrap (n9 + (1 : Int))) wj_1)
 (∃ m' : Nat, m' < m /\ I m' n46_0 n7_2 n8 (i64.wrap (n9 + (1 : Int))) wj_1)))))
 (J n7 n8 wl))) /\
 ∀ n7_3 n8_1, AllJ 58 (∀ wj_2, J n7_3 n8_1 wj_2 ->
 BCase (decide (n8_1 > (0 : Int)))
 (K (.int .i64 n8_1) wj_2)
 (K (.int .i64 n7_3) wj_2))
theorem qfS (p0 : Option Addr) (v1 : Value) {w : World} {K : Value -> World -> Prop} (h : qcW p0 v1 w K) : Calls prog qbP #[.pointer p0, v1] w (Ret K) :=
 qo (c := qr Tryz.f211) (by kernel_rfl) Tryz.func211 (by kernel_rfl) [(6, [(7, .one (.int .i64)), (8, .one (.int .i64))]), (10, [(6, .one (.int .i64)), (7, .one (.int .i64)), (8, .one (.int .i64)), (9, .one (.int .i64))]), (19, [(7, .one (.int .i64))]), (35, [(7, .one (.int .i64))])] [.pointer p0, v1] (of_decide_eq_true (by kernel_rfl)) _ (by kernel_rfl) h

--  cracknel/cracknelref05.Line
end Go.Proofs.YtndbpedpdbjkpaaGreatDoor
