/- What the laws lean on: AddrA, AddrP, AddrB, AddrC, AddrD, AddrE, AddrF, AddrG, AddrH, AddrI, Eq, HostA, HostB; what is used. Its conditions: none. -/
import Derived.Test.YtlfolncaghkmcaaGreatDoorKD
import Derived.Laws.CopyRow
import Derived.Lib.ItoaLen
import Derived.Laws.StructEq
open Go.IntKind (i64)
open Go.Proofs.Tryz (prog)
set_option linter.unusedVariables false
set_option linter.unusedSimpArgs false
set_option maxRecDepth 20000
namespace Go.Pk
def adC (a : List UInt8) : List Value := a.map fun c => Value.int .u8 ((c.toNat : Nat) : Int)
def adV (a : List UInt8) : Value := .agg (adC a).toArray
def ad0 : List UInt8 := List.replicate 16 0
theorem qaT (a : List UInt8) : (adC a).length = a.length := by simp [adC]
theorem qfP (a : List UInt8) : One1 (adC a) := qDC a
theorem qpl (a : List UInt8) (i : Nat) (c : UInt8) : (adC a).set i (.int .u8 ((c.toNat : Nat) : Int)) = adC (a.set i c) := by unfold adC; rw [List.map_set]
theorem qiq {a : List UInt8} {i : Nat} (h : i < a.length) : (adC a)[i]? = some (.int .u8 ((a[i].toNat : Nat) : Int)) := by unfold adC; rw [List.getElem?_map, List.getElem?_eq_getElem h]; rfl
def adT : Option (List UInt8) -> Value
 | some a => .tuple #[adV a, .bool true]
 | none => .tuple #[adV ad0, .bool false]
def ipOk (x : List UInt8) : Prop := numP x /\ decV x <= 255
instance (x : List UInt8) : Decidable (ipOk x) := by unfold ipOk; infer_instance
def ipB (x : List UInt8) : UInt8 := UInt8.ofNat (decV x).toNat
def v4V (s : List UInt8) : Option (List UInt8) := if (cutC 46 [] s).length = 4 /\ ∀ x ∈ cutC 46 [] s, ipOk x then some (List.replicate 12 0 ++ (cutC 46 [] s).map ipB) else none
theorem qCb {x : List UInt8} (h : ipOk x) : IntKind.u8.wrap (decV x) = (((ipB x).toNat : Nat) : Int) := by
 have hd : 0 <= decV x := by
   have := h.1.1
   unfold jS at this
   rw [Bool.and_eq_true] at this
   exact (qdc x 0 (by decide) (fun c hc => List.all_eq_true.1 this.2 c hc)).1
 have h2 := h.2
 rw [qeZ hd h2]
 unfold ipB
 rw [UInt8.toNat_ofNat']
 omega
def v4S (L : List (List UInt8)) (k : Nat) : List UInt8 := List.replicate 12 0 ++ (L.take k).map ipB ++ List.replicate (4 - k) 0
theorem qwk {L : List (List UInt8)} (h : L.length = 4) {k : Nat} (hk : k <= 4) : (v4S L k).length = 16 := by simp [v4S]; omega
theorem qA7 {L : List (List UInt8)} (h : L.length = 4) {k : Nat} (hk : k < 4) : (v4S L k).set (12 + k) (ipB (L[k]'(by omega))) = v4S L (k + 1) := by
 unfold v4S
 have hl : (List.replicate 12 (0 : UInt8) ++ (L.take k).map ipB).length = 12 + k := by simp; omega
 rw [List.set_append_right _ _ (by omega), hl, Nat.sub_self, List.take_succ_eq_append_getElem (by omega), List.map_append]
 rw [show 4 - k = (4 - (k + 1)) + 1 by omega, List.replicate_succ (n := 4 - (k + 1)), List.set_cons_zero]
 simp
theorem qDH {L : List (List UInt8)} (h : L.length = 4) : v4S L 4 = List.replicate 12 0 ++ L.map ipB := by unfold v4S; rw [List.take_of_length_le (by omega)]; simp
theorem qCi {s : List UInt8} (h : ¬ ((cutC 46 [] s).length = 4 /\ ∀ x ∈ cutC 46 [] s, ipOk x)) : v4V s = none := if_neg h
end Go.Pk
namespace Go.Proofs.YtlfolncaghkmcaaGreatDoor
open Go.Pk
open Go.RowKit (Below)
theorem z6 : Whl prog qr 16 := ⟨⟨_, _, qx6⟩, by kernel_rfl⟩
theorem qnI (s : List UInt8) (hs : s.length <= 9223372036854775000) (w : World) :
   Calls prog qjd #[.string (mkS s)] w (Ret fun v w' => v = (if numP s then .tuple #[.int .i64 (decV s), .bool true] else .tuple #[.int .i64 0, .bool false]) /\ w' = w) := by
 apply qsh
 unfold qoh
 refine worldJ (fun w' => numP s /\ w' = w) ?_ ?_
 · refine callK (ref01_Digits_ok s (by omega) w) ?_
   rintro _ w' ⟨rfl, hw⟩
   rw [hw]
   refine ⟨_, rfl, ?_⟩
   have bad : ¬ numP s -> (.tuple #[.int .i64 (0 : Int), .bool false] : Value) = (if numP s then .tuple #[.int .i64 (decV s), .bool true] else .tuple #[.int .i64 0, .bool false]) /\ w = w := fun hn => ⟨by rw [if_neg hn], rfl⟩
   refine BCase.of (fun h => bad fun hn => by rw [hn.1] at h; cases h) (fun h => ?_)
   have hd : jS s = true := by simpa using h
   refine BCase.of (fun h2 => bad fun hn => by have := hn.2.1; simp at h2; omega) (fun h2 => ?_)
   have hl : s.length <= 18 := by simp at h2; omega
   refine BCase.of (fun h3 => ?_) (fun h3 => ?_) <;> simp only [dTx, dFx] at h3
   · have hl1 : 1 < s.length := by omega
     refine ⟨⟨by decide, by omega⟩, ?_⟩
     have hb := zG (s := s) (k := 0) (by omega)
     rw [show ((0 : Nat) : Int) = 0 from rfl] at hb
     have hu := qaf s[0] 48
     rw [show (((48 : UInt8).toNat : Nat) : Int) = 48 from rfl] at hu
     rw [hb, hu]
     have hhd : s.head? = some s[0] := by rw [List.head?_eq_getElem?, List.getElem?_eq_getElem]
     refine BCase.of (fun h4 => bad fun hn => hn.2.2 ⟨?_, hl1⟩) (fun h4 => ⟨⟨hd, hl, fun hn => ?_⟩, rfl⟩)
     · rw [beq_iff_eq] at h4; rw [hhd, h4]
     · rw [hhd] at hn
       rw [Option.some.inj hn.1] at h4; simp at h4
   · exact ⟨⟨hd, hl, fun hn => h3 (by omega)⟩, rfl⟩
 · rintro w' ⟨hn, hw⟩
   rw [hw]
   have hdg : ∀ c ∈ s, qaL c = true := by
     have := hn.1
     unfold jS at this
     rw [Bool.and_eq_true] at this
     exact fun c hc => List.all_eq_true.1 this.2 c hc
   have hl := hn.2.1
   refine ⟨fun m v i w' => ∃ k : Nat, k <= s.length /\ i = (k : Int) /\ m = s.length - k /\ v = decV (s.take k) /\ w' = w, ⟨_, 0, by omega, rfl, rfl, rfl, rfl⟩, ?_⟩
   intro m v i
   refine AllJ.of ?_ _
   rintro w' ⟨k, hk, rfl, rfl, rfl, hw'⟩
   rw [hw']
   refine BCase.of (fun h => ?_) (fun h => ?_) <;> simp only [dTx, dFx] at h
   · have hlt : k < s.length := by omega
     rw [zG hlt]
     have hc := hdg s[k] (List.getElem_mem hlt)
     have hu := qgK s[k]
     have hb := qdc (s.take k) 0 (by decide) (fun c hc => hdg c (List.mem_of_mem_take hc))
     have hpow : (10 : Int) ^ (s.take k).length <= 10 ^ 17 := by
       have : (s.take k).length <= 17 := by rw [List.length_take]; omega
       exact_mod_cast Nat.pow_le_pow_right (by decide : 0 < 10) this
     have hb2 : 0 <= decV (s.take k) /\ decV (s.take k) < 10 ^ 17 := ⟨hb.1, by
       have h2 := hb.2
       have : decV (s.take k) < (0 + 1) * 10 ^ (s.take k).length := h2
       omega⟩
     refine ⟨⟨by omega, h⟩, s.length - (k + 1), by omega, k + 1, by omega, by rw [wrap_i64 (by omega) (by omega)]; omega, rfl, ?_, rfl⟩
     rw [wrap_i64 (n := decV (s.take k) * 10) (by omega) (by omega), wrap_i64 (n := ((s[k].toNat : Nat) : Int)) (by omega) (by omega), wrap_i64 (n := _ + _) (by omega) (by omega), wrap_i64 (by omega) (by omega), List.take_succ_eq_append_getElem hlt]
     unfold decV
     rw [List.foldl_append]
     show _ = _ * 10 + (((s[k].toNat : Nat) : Int) - 48)
     omega
   · have : k = s.length := by omega
     subst this
     rw [List.take_length, if_pos hn]; exact ⟨rfl, rfl⟩
theorem qyV (s : List UInt8) (hs : s.length < 4294967281) (w : World) (he : Env w) : Calls prog qsS #[.string (mkS s)] w (Ret fun v w' => v = adT (v4V s) /\ Below w.heap.size w w') := by
 apply qxX
 unfold qvi
 intro k2 w2 hk2 hw2
 have hB2 := (hw2 ▸ qj w _ : Below w.heap.size w w2)
 have h2 : qk w2 k2 qr (adC ad0) := qk.new hk2 hw2
 refine callK (qgV s 46 hs w2 (he.step hB2)) ?_
 rintro _ w3 ⟨a, n, c, rfl, ho, hf, hb3⟩
 have hB3 := qd hB2 hb3 hB2.size
 have h23 := h2.below hb3
 have hn := ho.len
 have hlens : ∀ x ∈ cutC 46 [] s, x.length <= s.length := fun x hx => by simpa using qhE 46 s [] x hx
 have none_end : ∀ {wx : World}, v4V s = none -> qk wx k2 qr (adC ad0) -> Below w.heap.size w wx -> _ := fun {wx} hv h2x hBx => z6.fin (K := fun vr wy => (.tuple #[vr, .bool false] : Value) = adT (v4V s) /\ Below w.heap.size w wy) (cs := adC ad0) rfl (qfP _) h2x rfl hBx (by omega) fun wy hb => ⟨by rw [hv]; rfl, hb⟩
 refine ⟨_, _, _, rfl, BCase.of (fun h4 => ?_) (fun h4 => ?_)⟩
 · refine none_end (qCi fun hc => ?_) h23 hB3
   rw [bne_iff_ne] at h4; omega
 have hl4 : (cutC 46 [] s).length = 4 := by simp at h4; omega
 intro k5 w5 hk5 hw5
 have hb5 := (hw5 ▸ qj w3 _ : Below w3.heap.size w3 w5)
 have hB5 := qd hB3 hb5 hB3.size
 have h25 := h23.below hb5
 have h55 : qk w5 k5 qr (adC ad0) := qk.new hk5 hw5
 have ho5 := ho.below hb5
 have hlt2 := h23.lt
 have hog : ∀ g, ownB a = some g -> g ≠ k5 := fun g hg e => by have := ho.lt g hg; omega
 have hk5w : w.heap.size <= k5 := by have := hB3.size; omega
 obtain ⟨L, hL⟩ : ∃ L, L = cutC 46 [] s := ⟨_, rfl⟩
 rw [<- hL] at ho5 hl4 hlens hn
 have hv4 : v4V s = if L.length = 4 /\ ∀ x ∈ L, ipOk x then some (List.replicate 12 0 ++ L.map ipB) else none := by rw [hL]; rfl
 refine ⟨fun m i w' => ∃ k : Nat, k <= 4 /\ i = (k : Int) /\ m = 4 - k /\ (∀ j (hj : j < k) (h : j < L.length), ipOk L[j]) /\ qk w' k5 qr (adC (v4S L k)) /\ qk w' k2 qr (adC ad0) /\ Ow tS qh w' NoB a n c L /\ Below w.heap.size w w',
   ⟨_, 0, by omega, rfl, rfl, fun j hj => by omega, h55, h25, ho5, hB5⟩, ?_⟩
 intro m i
 refine AllJ.of ?_ _
 rintro w6 ⟨k, hk, rfl, rfl, hok, h56, h26, ho6, hB6⟩
 refine BCase.of (fun h => ?_) (fun h => ?_) <;> simp only [dTx, dFx] at h
 · have hk4 : k < 4 := by omega
   have hkL : k < L.length := by omega
   refine ⟨⟨⟨by omega, h⟩, ho6.all.isSome (by omega)⟩, _, ho6.all.text un_string hkL, ?_⟩
   have hlk := hlens L[k] (List.getElem_mem hkL)
   refine callK (qny L[k] (by omega) w6) ?_
   rintro _ w7 ⟨rfl, hb7⟩
   have hB7 := qd hB6 hb7 hB6.size
   have hnone : ¬ ipOk L[k] -> v4V s = none := fun hx => by
     rw [hv4, if_neg fun hc => hx (hc.2 _ (List.getElem_mem hkL))]
   refine ⟨if numP L[k] then decV L[k] else 0, if numP L[k] then true else false, by split <;> rfl, ?_⟩
   refine ⟨fun w' => w' = w7 /\ ipOk L[k], ?_, ?_⟩
   · refine j3 (B := fun J => BCase _ (J true w7) (J _ w7)) (!decide (ipOk L[k])) (BCase.of (fun h1 => ⟨rfl, ?_⟩) (fun h1 => ⟨rfl, ?_⟩)) ?_
     · have : ¬ numP L[k] := fun hc => by rw [if_pos hc] at h1; cases h1
       have h2 : ¬ ipOk L[k] := fun hc => this hc.1
       simp [h2]
     · have hnp : numP L[k] := Decidable.byContradiction fun hc => by rw [if_neg hc] at h1; cases h1
       rw [if_pos hnp, Bool.eq_iff_iff]
       simp [ipOk, hnp]
     · refine BCase.of (fun h1 => none_end (hnone (by simpa using h1)) (h26.below hb7) hB7) (fun h1 => ⟨rfl, by simpa using h1⟩)
   · refine AllJ.of ?_ _
     rintro wj ⟨hwj, hip⟩
     rw [hwj]; clear hwj
     have e12 : i64.wrap (12 + (k : Int)) = ((12 + k : Nat) : Int) := by rw [wrap_i64 (by omega) (by omega)]; omega
     rw [e12, qdO, if_pos hip.1, qCb hip, Nat.zero_add]
     refine ⟨⟨⟨by omega, by omega⟩, rfl⟩, ?_⟩
     have h57 := h56.below hb7
     obtain ⟨w8, hs8, h58, hg8⟩ := h57.put (P := prog) qkY (i := 12 + k) (v := .int .u8 (((ipB L[k]).toNat : Nat) : Int)) (by rw [qaT, qwk hl4 (by omega)]; omega) rfl rfl
     rw [qpl, qA7 hl4 hk4] at h58
     refine ⟨w8, hs8, 4 - (k + 1), by omega, k + 1, by omega, by rw [wrap_i64 (by omega) (by omega)]; omega, rfl, ?_, h58, (h26.below hb7).grown hg8 (qP (by omega)), (ho6.below hb7).put hog hg8, Below.put hB7 hg8 hk5w⟩
     intro j hj hjl
     by_cases e : j = k
     · subst e; exact hip
     · exact hok j (by omega) hjl
 · have : k = 4 := by omega
   subst this
   have hall : ∀ x ∈ L, ipOk x := fun x hx => by
     obtain ⟨j, hj, rfl⟩ := List.mem_iff_getElem.1 hx
     exact hok j (by omega) hj
   have hv : v4V s = some (v4S L 4) := by rw [hv4, if_pos ⟨hl4, hall⟩, qDH hl4]
   have hlen : (adC (v4S L 4)).length = 16 := by rw [qaT, qwk hl4 (by omega)]
   refine ⟨_, z6.load0 h56 hlen, ?_⟩
   exact z6.fin (K := fun vr wy => (.tuple #[vr, .bool true] : Value) = adT (v4V s) /\ Below w.heap.size w wy) hlen (qfP _) h26 rfl hB6 (by omega) fun wy hb => ⟨by rw [hv]; rfl, hb⟩
theorem qxW (s : List UInt8) (hs : s.length <= 100000000) (w : World) : Calls prog qq2 #[.string (mkS s)] w (Ret fun v w' => v = adT (v4V s) /\ Below w.heap.size w w') := by
 apply qw2
 unfold qt0
 intro k2 w2 hk2 hw2
 have hB2 := (hw2 ▸ qj w _ : Below w.heap.size w w2)
 have h2 : qk w2 k2 qr (adC ad0) := qk.new hk2 hw2
 intro k5 w4 hk5 hw4
 have hb4 := (hw4 ▸ qj w2 _ : Below w2.heap.size w2 w4)
 have hB4 := qd hB2 hb4 hB2.size
 have h54 : qk w4 k5 qr (adC ad0) := qk.new hk5 hw4
 obtain ⟨w5, hs5, h55, hg5⟩ := z6.store0 (cs := adC ad0) rfl (qfP _) h54 rfl
 refine ⟨w5, hs5, ?_⟩
 have hk5w : w.heap.size <= k5 := by have := hB2.size; omega
 have hlt2 := h2.lt
 have h25 := (h2.below hb4).grown hg5 (qP (by omega))
 have hB5 := Below.put hB4 hg5 hk5w
 refine callK (jX s 46 hs w5) ?_
 rintro _ w3 ⟨a, n, c, rfl, ho, hf, hb3⟩
 have hB3 := qd hB5 hb3 hB5.size
 have h23 := h25.below hb3
 have h53 := h55.below hb3
 have hn := ho.len
 have hlens : ∀ x ∈ cutC 46 [] s, x.length <= s.length := fun x hx => by simpa using qhE 46 s [] x hx
 have none_end : ∀ {wx : World}, v4V s = none -> qk wx k2 qr (adC ad0) -> Below w.heap.size w wx -> _ := fun {wx} hv h2x hBx => z6.fin (K := fun vr wy => (.tuple #[vr, .bool false] : Value) = adT (v4V s) /\ Below w.heap.size w wy) (cs := adC ad0) rfl (qfP _) h2x rfl hBx (by omega) fun wy hb => ⟨by rw [hv]; rfl, hb⟩
 refine ⟨_, _, _, rfl, BCase.of (fun h4 => ?_) (fun h4 => ?_)⟩
 · refine none_end (qCi fun hc => ?_) h23 hB3
   rw [bne_iff_ne] at h4; omega
 have hl4 : (cutC 46 [] s).length = 4 := by simp at h4; omega
 have hlt5 := h55.lt
 have hog : ∀ g, ownB a = some g -> g ≠ k5 := fun g hg e => by have := hf g hg; omega
 obtain ⟨L, hL⟩ : ∃ L, L = cutC 46 [] s := ⟨_, rfl⟩
 rw [<- hL] at ho hl4 hlens hn
 have hv4 : v4V s = if L.length = 4 /\ ∀ x ∈ L, ipOk x then some (List.replicate 12 0 ++ L.map ipB) else none := by rw [hL]; rfl
 refine ⟨fun m i w' => ∃ k : Nat, k <= 4 /\ i = (k : Int) /\ m = 4 - k /\ (∀ j (hj : j < k) (h : j < L.length), ipOk L[j]) /\ qk w' k5 qr (adC (v4S L k)) /\ qk w' k2 qr (adC ad0) /\ Ow tS qh w' NoB a n c L /\ Below w.heap.size w w',
   ⟨_, 0, by omega, rfl, rfl, fun j hj => by omega, h53, h23, ho, hB3⟩, ?_⟩
 intro m i
 refine AllJ.of ?_ _
 rintro w6 ⟨k, hk, rfl, rfl, hok, h56, h26, ho6, hB6⟩
 refine BCase.of (fun h => ?_) (fun h => ?_) <;> simp only [dTx, dFx] at h
 · have hk4 : k < 4 := by omega
   have hkL : k < L.length := by omega
   refine ⟨⟨⟨by omega, by omega⟩, ho6.all.isSome (by omega)⟩, _, ho6.all.text un_string hkL, ?_⟩
   have hlk := hlens L[k] (List.getElem_mem hkL)
   refine callK (qnI L[k] (by omega) w6) ?_
   rintro _ w7 ⟨rfl, hw7⟩
   have hb7 : Below w6.heap.size w6 w7 := hw7 ▸ Below.refl _ _
   have hB7 := qd hB6 hb7 hB6.size
   have hnone : ¬ ipOk L[k] -> v4V s = none := fun hx => by
     rw [hv4, if_neg fun hc => hx (hc.2 _ (List.getElem_mem hkL))]
   refine ⟨if numP L[k] then decV L[k] else 0, if numP L[k] then true else false, by split <;> rfl, ?_⟩
   refine ⟨fun w' => w' = w7 /\ ipOk L[k], ?_, ?_⟩
   · refine j3 (B := fun J => BCase _ (J true w7) (J _ w7)) (!decide (ipOk L[k])) (BCase.of (fun h1 => ⟨rfl, ?_⟩) (fun h1 => ⟨rfl, ?_⟩)) ?_
     · have : ¬ numP L[k] := fun hc => by rw [if_pos hc] at h1; cases h1
       have h2 : ¬ ipOk L[k] := fun hc => this hc.1
       simp [h2]
     · have hnp : numP L[k] := Decidable.byContradiction fun hc => by rw [if_neg hc] at h1; cases h1
       rw [if_pos hnp, Bool.eq_iff_iff]
       simp [ipOk, hnp]
     · refine BCase.of (fun h1 => none_end (hnone (by simpa using h1)) (h26.below hb7) hB7) (fun h1 => ⟨rfl, by simpa using h1⟩)
   · refine AllJ.of ?_ _
     rintro wj ⟨hwj, hip⟩
     rw [hwj]; clear hwj
     have e12 : i64.wrap (12 + (k : Int)) = ((12 + k : Nat) : Int) := by rw [wrap_i64 (by omega) (by omega)]; omega
     rw [e12, qdO, if_pos hip.1, qCb hip, Nat.zero_add]
     refine ⟨⟨⟨by omega, by omega⟩, rfl⟩, ?_⟩
     have h57 := h56.below hb7
     obtain ⟨w8, hs8, h58, hg8⟩ := h57.put (P := prog) qkY (i := 12 + k) (v := .int .u8 (((ipB L[k]).toNat : Nat) : Int)) (by rw [qaT, qwk hl4 (by omega)]; omega) rfl rfl
     rw [qpl, qA7 hl4 hk4] at h58
     refine ⟨w8, hs8, 4 - (k + 1), by omega, k + 1, by omega, by rw [wrap_i64 (by omega) (by omega)]; omega, rfl, ?_, h58, (h26.below hb7).grown hg8 (qP (by omega)), (ho6.below hb7).put hog hg8, Below.put hB7 hg8 hk5w⟩
     intro j hj hjl
     by_cases e : j = k
     · subst e; exact hip
     · exact hok j (by omega) hjl
 · have : k = 4 := by omega
   subst this
   have hall : ∀ x ∈ L, ipOk x := fun x hx => by
     obtain ⟨j, hj, rfl⟩ := List.mem_iff_getElem.1 hx
     exact hok j (by omega) hj
   have hv : v4V s = some (v4S L 4) := by rw [hv4, if_pos ⟨hl4, hall⟩, qDH hl4]
   have hlen : (adC (v4S L 4)).length = 16 := by rw [qaT, qwk hl4 (by omega)]
   refine ⟨_, z6.load0 h56 hlen, ?_⟩
   exact z6.fin (K := fun vr wy => (.tuple #[vr, .bool true] : Value) = adT (v4V s) /\ Below w.heap.size w wy) hlen (qfP _) h26 rfl hB6 (by omega) fun wy hb => ⟨by rw [hv]; rfl, hb⟩
end Go.Proofs.YtlfolncaghkmcaaGreatDoor
namespace Go.Pk
def hexN (c : UInt8) : Nat := if 48 <= c.toNat /\ c.toNat <= 57 then c.toNat - 48 else if 97 <= c.toNat /\ c.toNat <= 102 then c.toNat - 87 else if 65 <= c.toNat /\ c.toNat <= 70 then c.toNat - 55 else 16
def qnw (c : UInt8) : Bool := decide (hexN c < 16)
def grpN (s : List UInt8) : Nat := s.foldl (fun n c => n * 16 + hexN c) 0
def qef (s : List UInt8) : Bool := decide (1 <= s.length) && decide (s.length <= 4) && s.all qnw
def rowP (s : List UInt8) : List (List UInt8) := if s = [] then [] else cutC 58 [] s
def at2 (s : List UInt8) (i : Nat) : Prop := s[i]? = some 58 /\ s[i + 1]? = some 58
def e8 (s : List UInt8) : Bool := decide ((cutC 58 [] s).length = 8) && (cutC 58 [] s).all qef
def v6L (A B : List (List UInt8)) : List Nat := A.map grpN ++ List.replicate (8 - A.length - B.length) 0 ++ B.map grpN
def fit6 (gap : Bool) (A B : List (List UInt8)) : Bool := A.all qef && B.all qef && (if gap then decide (A.length + B.length < 8) else decide (A.length + B.length = 8))
def v6V (s : List UInt8) : Option (List Nat) :=
 if fit6 (Lib.cut s [58, 58]).2.2 (rowP (Lib.cut s [58, 58]).1) (rowP (Lib.cut s [58, 58]).2.1) = true then some (v6L (rowP (Lib.cut s [58, 58]).1) (rowP (Lib.cut s [58, 58]).2.1)) else none
theorem occ2 (s : List UInt8) (i : Nat) : Lib.occAt s [58, 58] i = true ↔ at2 s i := by
 unfold Lib.occAt at2
 have e0 : s[i]? = (s.drop i)[0]? := by rw [List.getElem?_drop]; rfl
 have e1 : s[i + 1]? = (s.drop i)[1]? := by rw [List.getElem?_drop]
 rw [e0, e1]
 generalize s.drop i = d
 match d with
 | [] => simp
 | [a] => simp
 | a :: b :: r =>
   simp only [List.isPrefixOf, Bool.and_true, Bool.and_eq_true, beq_iff_eq, List.getElem?_cons_zero, List.getElem?_cons_succ, Option.some.injEq]
   exact ⟨fun h => ⟨h.1.symm, h.2.symm⟩, fun h => ⟨h.1.symm, h.2.symm⟩⟩
theorem qp2 (s : List UInt8) : (Lib.cut s [58, 58] = (s, [], false) /\ ∀ i, ¬ at2 s i) \/ ∃ p, Lib.cut s [58, 58] = (s.take p, s.drop (p + 2), true) /\ at2 s p /\ (∀ j, j < p -> ¬ at2 s j) /\ p + 2 <= s.length := by
 rcases Lib.index_spec s [58, 58] with ⟨h1, h2⟩ | ⟨p, h1, h2, h3, h4⟩
 · refine .inl ⟨?_, fun i hi => ?_⟩
   · unfold Lib.cut; rw [if_neg (by omega)]
   · by_cases hl : i <= s.length
     · have := h2 i hl
       rw [(occ2 s i).2 hi] at this; cases this
     · have := hi.1
       rw [List.getElem?_eq_none (by omega)] at this; cases this
 · refine .inr ⟨p, ?_, (occ2 s p).1 h3, fun j hj hc => ?_, ?_⟩
   · unfold Lib.cut; rw [if_pos (by omega), h1]; rfl
   · have := h4 j hj
     rw [(occ2 s j).2 hc] at this; cases this
   · have := ((occ2 s p).1 h3).2
     have h5 := (List.getElem?_eq_some_iff.1 this).1
     omega
theorem qws {s : List UInt8} {p : Nat} (h : at2 s p) : s = s.take p ++ 58 :: 58 :: s.drop (p + 2) := by
 obtain ⟨h1, h2⟩ := h
 obtain ⟨l1, e1⟩ := List.getElem?_eq_some_iff.1 h1
 obtain ⟨l2, e2⟩ := List.getElem?_eq_some_iff.1 h2
 conv => lhs; rw [<- List.take_append_drop p s, List.drop_eq_getElem_cons l1, List.drop_eq_getElem_cons l2, e1, e2]
theorem qu3 (c : UInt8) (r : List UInt8) (h : r = [] \/ ∃ t, r = c :: t) : ([] : List UInt8) ∈ cutC c [] r := by
 rcases h with rfl | ⟨t, rfl⟩
 · simp [cutC]
 · show _ ∈ (if c = c then _ else _)
   rw [if_pos rfl]; simp
theorem nogrp {l : List (List UInt8)} (h : ([] : List UInt8) ∈ l) : l.all qef = false := by
 rw [Bool.eq_false_iff]
 intro hc
 have := List.all_eq_true.1 hc [] h
 revert this; decide
theorem qCH {s : List UInt8} (h : e8 s = true) (i : Nat) : ¬ at2 s i := by
 intro hi
 unfold e8 at h
 rw [Bool.and_eq_true] at h
 have hm : ([] : List UInt8) ∈ cutC 58 [] s := by
   rw [qws hi, qaj]
   exact List.mem_append_right _ (qu3 58 _ (.inr ⟨_, rfl⟩))
 rw [nogrp hm] at h
 exact absurd h.2 (by decide)
theorem late {s : List UInt8} {p q : Nat} (h : at2 s p) (hq : p < q) (hq2 : at2 s q) : (rowP (s.take q)).all qef = false := by
 have hl := (List.getElem?_eq_some_iff.1 hq2.1).1
 have hs := qws h
 have hp : p < s.length := by omega
 have hne : s.take q ≠ [] := by
   intro e
   have := congrArg List.length e
   rw [List.length_take, List.length_nil] at this
   omega
 unfold rowP
 rw [if_neg hne]
 have e : s.take q = s.take p ++ 58 :: (58 :: s.drop (p + 2)).take (q - p - 1) := by
   conv => lhs; rw [hs]
   rw [List.take_append, List.length_take, Nat.min_eq_left (by omega), List.take_of_length_le (by rw [List.length_take]; omega)]
   rw [show q - p = (q - p - 1) + 1 by omega, List.take_succ_cons]; rfl
 rw [e, qaj]
 refine nogrp (List.mem_append_right _ (qu3 58 _ ?_))
 cases hk : q - p - 1 with
 | zero => exact .inl rfl
 | succ k => exact .inr ⟨_, rfl⟩
def zsK : Nat -> List UInt8
 | 0 => [48]
 | k + 1 => zsK k ++ [58, 48]
theorem qCj : ∀ k, (zsK k).length = 2 * k + 1
 | 0 => rfl
 | k + 1 => by rw [zsK, List.length_append, qCj k]; simp; omega
theorem qzV : ∀ k, cutC 58 [] (zsK k) = List.replicate (k + 1) [48]
 | 0 => rfl
 | k + 1 => by
   rw [zsK, qaj, qzV k, List.replicate_succ' (n := k + 1)]; rfl
def qrz (f : List UInt8) : List UInt8 := if f = [] then [] else f ++ [58]
def qxp (b : List UInt8) : List UInt8 := if b = [] then [] else 58 :: b
def tryT (f b : List UInt8) (k : Nat) : List UInt8 := qrz f ++ zsK k ++ qxp b
theorem qzU (f b : List UInt8) (k : Nat) : cutC 58 [] (tryT f b k) = rowP f ++ List.replicate (k + 1) [48] ++ rowP b := by
 unfold tryT qrz qxp rowP
 have e : ∀ b : List UInt8, cutC 58 [] (zsK k ++ if b = [] then [] else 58 :: b) = List.replicate (k + 1) [48] ++ (if b = [] then [] else cutC 58 [] b) := by
   intro b
   split
   · rw [List.append_nil, List.append_nil, qzV]
   · rw [qaj, qzV]
 by_cases hf : f = []
 · rw [if_pos hf, if_pos hf, List.nil_append, e, List.nil_append]
 · rw [if_neg hf, if_neg hf, List.append_assoc, List.append_assoc, List.singleton_append, qaj, e, List.append_assoc]
theorem qz6 (f b : List UInt8) (k : Nat) : e8 (tryT f b k) = true ↔ ((rowP f).all qef = true /\ (rowP b).all qef = true) /\ (rowP f).length + (k + 1) + (rowP b).length = 8 := by
 unfold e8
 rw [qzU]
 have h0 : qef [48] = true := by decide
 have hz : (List.replicate (k + 1) ([48] : List UInt8)).all qef = true := List.all_eq_true.2 fun x hx => by rw [(List.mem_replicate.1 hx).2]; exact h0
 rw [List.all_append, List.all_append, hz, Bool.and_true, Bool.and_eq_true, Bool.and_eq_true, dTx, List.length_append, List.length_append, List.length_replicate]
 exact And.comm
theorem qDe {f b : List UInt8} {k : Nat} (h : e8 (tryT f b k) = true) : (cutC 58 [] (tryT f b k)).map grpN = v6L (rowP f) (rowP b) := by
 have hk := ((qz6 f b k).1 h).2
 rw [qzU, List.map_append, List.map_append, List.map_replicate, show grpN [48] = 0 by decide]
 unfold v6L
 rw [show 8 - (rowP f).length - (rowP b).length = k + 1 by omega]
theorem qDW {s : List UInt8} (h : e8 s = true) : v6V s = some ((cutC 58 [] s).map grpN) := by
 rcases qp2 s with ⟨h1, h2⟩ | ⟨p, h1, h2, h3⟩
 · unfold v6V
   have hc := h
   unfold e8 at hc
   rw [Bool.and_eq_true, dTx] at hc
   have hn : s ≠ [] := by rintro rfl; exact absurd hc.1 (by decide)
   have hr : rowP s = cutC 58 [] s := by unfold rowP; rw [if_neg hn]
   have hr0 : rowP [] = [] := rfl
   rw [h1]
   simp only [hr, hr0]
   rw [if_pos]
   · unfold v6L
     rw [hc.1]
     simp
   · unfold fit6
     rw [hc.2]
     simp [hc.1]
 · exact absurd h2 (qCH h p)
theorem qDX {s : List UInt8} (h : e8 s = false) (hn : ∀ i, ¬ at2 s i) : v6V s = none := by
 rcases qp2 s with ⟨h1, h2⟩ | ⟨p, h1, h2, h3⟩
 · unfold v6V
   rw [h1]
   rw [if_neg]
   intro hc
   have hr0 : rowP [] = [] := rfl
   unfold fit6 at hc
   simp only [hr0, List.all_nil, Bool.and_true, Bool.and_eq_true, List.length_nil, Nat.add_zero] at hc
   have hc2 : (rowP s).all qef = true /\ (rowP s).length = 8 := by simpa using hc
   unfold rowP at hc2
   split at hc2
   · exact absurd hc2.2 (by decide)
   · rw [<- Bool.not_eq_true] at h
     refine h ?_
     unfold e8
     rw [hc2.1, hc2.2]; rfl
 · exact absurd h2 (hn p)
theorem qDI {s : List UInt8} {p : Nat} (h : at2 s p) (h2 : ∀ j, j < p -> ¬ at2 s j) :
   v6V s = if ((rowP (s.take p)).all qef = true /\ (rowP (s.drop (p + 2))).all qef = true) /\ (rowP (s.take p)).length + (rowP (s.drop (p + 2))).length < 8 then some (v6L (rowP (s.take p)) (rowP (s.drop (p + 2)))) else none := by
 rcases qp2 s with ⟨h1, h3⟩ | ⟨q, h1, h3, h4, h5⟩
 · exact absurd h (h3 p)
 · have e : q = p := by
     rcases Nat.lt_trichotomy q p with hl | hl | hl
     · exact absurd h3 (h2 q hl)
     · exact hl
     · exact absurd h (h4 p hl)
   subst e
   unfold v6V fit6
   rw [h1]
   simp only [if_true, Bool.and_eq_true, dTx]
theorem qDJ {s : List UInt8} {g : List Nat} (h : v6V s = some g) : g.length = 8 := by
 unfold v6V at h
 split at h
 · rename_i hf
   rw [<- Option.some.inj h]
   unfold v6L
   unfold fit6 at hf
   rw [Bool.and_eq_true] at hf
   have : (rowP (Lib.cut s [58, 58]).1).length + (rowP (Lib.cut s [58, 58]).2.1).length <= 8 := by
     have := hf.2
     split at this
     · have := of_decide_eq_true this; omega
     · have := of_decide_eq_true this; omega
   simp; omega
 · cases h
theorem qp9 : ∀ (s : List UInt8) (n : Nat), s.all qnw = true -> s.foldl (fun n c => n * 16 + hexN c) n < (n + 1) * 16 ^ s.length
 | [], n, _ => by simp
 | c :: s, n, h => by
   rw [List.all_cons, Bool.and_eq_true] at h
   have hc : hexN c < 16 := by simpa [qnw] using h.1
   have := qp9 s (n * 16 + hexN c) h.2
   rw [List.foldl_cons, List.length_cons, Nat.pow_succ]
   refine Nat.lt_of_lt_of_le this ?_
   rw [Nat.mul_comm (16 ^ s.length) 16, <- Nat.mul_assoc]
   exact Nat.mul_le_mul_right _ (by omega)
theorem qCa {s : List UInt8} (h : qef s = true) : grpN s < 65536 := by
 unfold qef at h
 simp only [Bool.and_eq_true, dTx] at h
 have := qp9 s 0 h.2
 have h2 : 16 ^ s.length <= 16 ^ 4 := Nat.pow_le_pow_right (by decide) h.1.2
 unfold grpN
 have h3 : (16 : Nat) ^ 4 = 65536 := rfl
 omega
end Go.Pk
namespace Go.Pk
def qkM (l : List Nat) : List UInt8 := l.flatMap fun n => [UInt8.ofNat (n / 256), UInt8.ofNat (n % 256)]
theorem qnq : ∀ l : List Nat, (qkM l).length = 2 * l.length
 | [] => rfl
 | n :: l => by
   have := qnq l
   unfold qkM at this ⊢
   rw [List.flatMap_cons, List.length_append, this]; simp; omega
theorem qAl (a b : List Nat) : qkM (a ++ b) = qkM a ++ qkM b := by unfold qkM; rw [List.flatMap_append]
def grpS (gs : List Nat) (k : Nat) : List UInt8 := qkM (gs.take k) ++ List.replicate (16 - 2 * k) 0
theorem qsn {gs : List Nat} (h : gs.length = 8) {k : Nat} (hk : k <= 8) : (grpS gs k).length = 16 := by
 unfold grpS; rw [List.length_append, qnq, List.length_take, List.length_replicate]; omega
theorem qyu {gs : List Nat} (h : gs.length = 8) {k : Nat} (hk : k < 8) : ((grpS gs k).set (2 * k) (UInt8.ofNat ((gs[k]'(by omega)) / 256))).set (2 * k + 1) (UInt8.ofNat ((gs[k]'(by omega)) % 256)) = grpS gs (k + 1) := by
 unfold grpS
 have hl : (qkM (gs.take k)).length = 2 * k := by rw [qnq, List.length_take]; omega
 rw [show 16 - 2 * k = (16 - 2 * (k + 1)) + 1 + 1 by omega, List.replicate_succ (n := 16 - 2 * (k + 1) + 1), List.replicate_succ (n := 16 - 2 * (k + 1))]
 rw [List.set_append_right _ _ (by omega), hl, Nat.sub_self, List.set_cons_zero, List.set_append_right _ _ (by omega), hl, show 2 * k + 1 - 2 * k = 0 + 1 by omega, List.set_cons_succ, List.set_cons_zero,
   List.take_succ_eq_append_getElem (by omega), qAl]
 simp [qkM]
theorem qB9 {gs : List Nat} (h : gs.length = 8) : grpS gs 8 = qkM gs := by unfold grpS; rw [List.take_of_length_le (by omega)]; simp
def e8V (s : List UInt8) : Option (List UInt8) := if e8 s = true then some (qkM ((cutC 58 [] s).map grpN)) else none
theorem qyv (x : List UInt8) {j : Nat} (h : j < x.length) : grpN (x.take (j + 1)) = grpN (x.take j) * 16 + hexN x[j] := by
 unfold grpN; rw [List.take_succ_eq_append_getElem h, List.foldl_append]; rfl
theorem qsY {x : List UInt8} {j : Nat} (h : ∀ i (hi : i < j) (h : i < x.length), qnw x[i] = true) (hj : j <= 4) : grpN (x.take j) < 65536 := by
 have ha : (x.take j).all qnw = true := List.all_eq_true.2 fun c hc => by
   obtain ⟨i, hi, rfl⟩ := List.mem_iff_getElem.1 hc
   rw [List.length_take] at hi
   rw [List.getElem_take]
   exact h i (by omega) (by omega)
 have h1 := qp9 (x.take j) 0 ha
 have h2 : 16 ^ (x.take j).length <= 16 ^ 4 := Nat.pow_le_pow_right (by decide) (by rw [List.length_take]; omega)
 have h3 : (16 : Nat) ^ 4 = 65536 := rfl
 unfold grpN; omega
theorem qrH {n : Nat} (h : n < 256) : ((UInt8.ofNat n).toNat : Int) = (n : Int) := by rw [UInt8.toNat_ofNat']; omega
end Go.Pk
namespace Go.Proofs.YtlfolncaghkmcaaGreatDoor
open Go.Pk
open Go.RowKit (Below)
theorem qum (c : UInt8) (w : World) : Calls prog ql6 #[.int .u8 ((c.toNat : Nat) : Int)] w (Ret fun v w' => v = .int .i64 (if qnw c = true then (hexN c : Int) else -1) /\ w' = w) := by
 apply qtC
 unfold qpc
 have hu := qgK c
 have h16 : qnw c = decide (hexN c < 16) := rfl
 refine factJ (w := w) (¬ (48 <= c.toNat /\ c.toNat <= 57)) (andJ (BCase.of (fun h => ?_) (fun h => ⟨rfl, by simp at h; omega⟩))) (fun h1 => ?_)
 · have : 48 <= c.toNat /\ c.toNat <= 57 := by simp at h; omega
   have e : hexN c = c.toNat - 48 := by unfold hexN; rw [if_pos this]
   rw [h16, e, if_pos (by simp; omega), wrap_i64 (n := ((c.toNat : Nat) : Int)) (by omega) (by omega), wrap_i64 (by omega) (by omega)]
   exact ⟨by congr 1; omega, rfl⟩
 refine factJ (w := w) (¬ (97 <= c.toNat /\ c.toNat <= 102)) (andJ (BCase.of (fun h => ?_) (fun h => ⟨rfl, by simp at h; omega⟩))) (fun h2 => ?_)
 · have : 97 <= c.toNat /\ c.toNat <= 102 := by simp at h; omega
   have e : hexN c = c.toNat - 87 := by unfold hexN; rw [if_neg h1, if_pos this]
   rw [h16, e, if_pos (by simp; omega), wrap_i64 (n := ((c.toNat : Nat) : Int)) (by omega) (by omega), wrap_i64 (by omega) (by omega)]
   exact ⟨by congr 1; omega, rfl⟩
 refine andJ (BCase.of (fun h => ?_) (fun h => ?_))
 · have : 65 <= c.toNat /\ c.toNat <= 70 := by simp at h; omega
   have e : hexN c = c.toNat - 55 := by unfold hexN; rw [if_neg h1, if_neg h2, if_pos this]
   rw [h16, e, if_pos (by simp; omega), wrap_i64 (n := ((c.toNat : Nat) : Int)) (by omega) (by omega), wrap_i64 (by omega) (by omega)]
   exact ⟨by congr 1; omega, rfl⟩
 · have : ¬ (65 <= c.toNat /\ c.toNat <= 70) := by simp at h; omega
   have e : hexN c = 16 := by unfold hexN; rw [if_neg h1, if_neg h2, if_neg this]
   rw [h16, e, if_neg (by decide)]
   exact ⟨rfl, rfl⟩
theorem qoR (s : List UInt8) (hs : s.length <= 100000000) (w : World) : Calls prog qjL #[.string (mkS s)] w (Ret fun v w' => v = adT (e8V s) /\ Below w.heap.size w w') := by
 apply qtD
 unfold qpd
 intro k2 w2 hk2 hw2
 have hB2 := (hw2 ▸ qj w _ : Below w.heap.size w w2)
 have h2 : qk w2 k2 qr (adC ad0) := qk.new hk2 hw2
 intro k5 w4 hk5 hw4
 have hb4 := (hw4 ▸ qj w2 _ : Below w2.heap.size w2 w4)
 have hB4 := qd hB2 hb4 hB2.size
 have h54 : qk w4 k5 qr (adC ad0) := qk.new hk5 hw4
 obtain ⟨w5, hs5, h55, hg5⟩ := z6.store0 (cs := adC ad0) rfl (qfP _) h54 rfl
 refine ⟨w5, hs5, ?_⟩
 have hk5w : w.heap.size <= k5 := by have := hB2.size; omega
 have hlt2 := h2.lt
 have h25 := (h2.below hb4).grown hg5 (qP (by omega))
 have hB5 := Below.put hB4 hg5 hk5w
 refine callK (jX s 58 hs w5) ?_
 rintro _ w3 ⟨a, n, c, rfl, ho, hf, hb3⟩
 have hB3 := qd hB5 hb3 hB5.size
 have h23 := h25.below hb3
 have h53 := h55.below hb3
 have hn := ho.len
 have hlens : ∀ x ∈ cutC 58 [] s, x.length <= s.length := fun x hx => by simpa using qhE 58 s [] x hx
 have none_end : ∀ {wx : World}, e8 s = false -> qk wx k2 qr (adC ad0) -> Below w.heap.size w wx -> _ := fun {wx} hv h2x hBx => z6.fin (K := fun vr wy => (.tuple #[vr, .bool false] : Value) = adT (e8V s) /\ Below w.heap.size w wy) (cs := adC ad0) rfl (qfP _) h2x rfl hBx (by omega) fun wy hb => ⟨by unfold e8V; rw [hv]; rfl, hb⟩
 refine ⟨_, _, _, rfl, BCase.of (fun h4 => ?_) (fun h4 => ?_)⟩
 · refine none_end ?_ h23 hB3
   rw [bne_iff_ne] at h4
   unfold e8
   rw [decide_eq_false (by omega), Bool.false_and]
 have hl8 : (cutC 58 [] s).length = 8 := by simp at h4; omega
 have hlt5 := h55.lt
 have hog : ∀ g, ownB a = some g -> g ≠ k5 := fun g hg e => by have := hf g hg; omega
 have he8 : e8 s = (cutC 58 [] s).all qef := by unfold e8; rw [decide_eq_true hl8, Bool.true_and]
 have he8V : e8 s = true -> e8V s = some (qkM ((cutC 58 [] s).map grpN)) := fun h => if_pos h
 obtain ⟨L, hL⟩ : ∃ L, L = cutC 58 [] s := ⟨_, rfl⟩
 rw [<- hL] at ho hl8 hlens hn he8 he8V
 have hbad : ∀ {x}, x ∈ L -> qef x = false -> e8 s = false := fun {x} hx hg => by
   rw [he8, Bool.eq_false_iff]
   intro hc
   rw [List.all_eq_true.1 hc x hx] at hg; cases hg
 have hG : (L.map grpN).length = 8 := by simp [hl8]
 refine ⟨fun m i w' => ∃ k : Nat, k <= 8 /\ i = (k : Int) /\ m = 8 - k /\ (∀ j (hj : j < k) (h : j < L.length), qef L[j] = true) /\ qk w' k5 qr (adC (grpS (L.map grpN) k)) /\ qk w' k2 qr (adC ad0) /\ Ow tS qh w' NoB a n c L /\ Below w.heap.size w w',
   ⟨_, 0, by omega, rfl, rfl, fun j hj => by omega, h53, h23, ho, hB3⟩, ?_⟩
 intro m i
 refine AllJ.of ?_ _
 rintro w6 ⟨k, hk, rfl, rfl, hok, h56, h26, ho6, hB6⟩
 refine BCase.of (fun h => ?_) (fun h => ?_) <;> simp only [dTx, dFx] at h
 · have hk8 : k < 8 := by omega
   have hkL : k < L.length := by omega
   have hld := ho6.all.text (P := prog) un_string hkL
   have hlk := hlens L[k] (List.getElem_mem hkL)
   have hin : (0 <= (k : Int) /\ (k : Int) < ((n : Nat) : Int)) /\ Option.isSome a = true := ⟨⟨by omega, by omega⟩, ho6.all.isSome (by omega)⟩
   have hmem : L[k] ∈ L := List.getElem_mem hkL
   refine factJ (w := w6) (1 <= L[k].length /\ L[k].length <= 4) ?_ (fun hl4 => ?_)
   · refine ⟨fun b w' => w' = w6 /\ b = (!(decide (1 <= L[k].length) && decide (L[k].length <= 4))), ⟨hin, _, hld, BCase.of (fun h1 => ⟨rfl, ?_⟩) (fun h1 => ⟨hin, _, hld, rfl, ?_⟩)⟩, ?_⟩
     · have : ¬ 1 <= L[k].length := by simp at h1; omega
       simp [this]
     · have : 1 <= L[k].length := by simp at h1; omega
       rw [decide_eq_true this, Bool.true_and, Bool.eq_iff_iff]; simp; omega
     · intro b
       refine AllJ.of ?_ _
       rintro wj ⟨hwj, hb⟩
       rw [hwj, hb]; clear hwj hb
       refine BCase.of (fun h1 => none_end (hbad hmem ?_) h26 hB6) (fun h1 => ⟨rfl, by simpa using h1⟩)
       unfold qef
       have h1' : (decide (1 <= L[k].length) && decide (L[k].length <= 4)) = false := by simpa only [Bool.not_eq_true'] using h1
       rw [h1', Bool.false_and]
   · refine ⟨fun m v i w' => w' = w6 /\ ∃ j : Nat, j <= L[k].length /\ i = (j : Int) /\ m = L[k].length - j /\ v = ((grpN (L[k].take j) : Nat) : Int) /\ ∀ q (hq : q < j) (h : q < L[k].length), qnw (L[k][q]) = true,
       ⟨_, rfl, 0, by omega, rfl, rfl, rfl, fun q hq => by omega⟩, ?_⟩
     intro m v i
     refine AllJ.of ?_ _
     rintro wj ⟨hwj, j, hj, rfl, rfl, rfl, hx⟩
     rw [hwj]; clear hwj
     refine ⟨hin, _, hld, ?_⟩
     have hgl := qsY hx (by omega)
     refine BCase.of (fun h5 => ?_) (fun h5 => ?_) <;> simp only [dTx, dFx] at h5
     · have hjl : j < L[k].length := by omega
       refine ⟨hin, _, hld, ⟨by omega, h5⟩, ?_⟩
       rw [zG hjl]
       refine callK (qum (L[k][j]) w6) ?_
       rintro _ w7 ⟨rfl, hw7⟩
       rw [hw7]
       refine ⟨_, rfl, ?_⟩
       by_cases hh : qnw (L[k][j]) = true
       · rw [if_pos hh]
         have h16 : hexN (L[k][j]) < 16 := by simpa [qnw] using hh
         refine BCase.no (by simp) ⟨L[k].length - (j + 1), by omega, rfl, j + 1, by omega, by rw [wrap_i64 (by omega) (by omega)]; omega, rfl, ?_, fun q hq hql => ?_⟩
         · rw [wrap_i64 (n := _ * _) (by omega) (by omega), wrap_i64 (by omega) (by omega), qyv _ hjl]; omega
         · by_cases e : q = j
           · subst e; exact hh
           · exact hx q (by omega) hql
       · rw [if_neg hh]
         refine BCase.yes (by decide) (none_end (hbad hmem ?_) h26 hB6)
         unfold qef
         have : (L[k]).all qnw = false := by
           rw [Bool.eq_false_iff]
           intro hc
           exact hh (List.all_eq_true.1 hc _ (List.getElem_mem hjl))
         rw [this, Bool.and_false]
     · have : j = L[k].length := by omega
       subst this
       rw [List.take_length] at hgl ⊢
       have hg : qef L[k] = true := by
         unfold qef
         rw [decide_eq_true hl4.1, decide_eq_true hl4.2, Bool.true_and, Bool.true_and]
         exact List.all_eq_true.2 fun c hc => by
           obtain ⟨q, hq, rfl⟩ := List.mem_iff_getElem.1 hc
           exact hx q hq hq
       have hGk : (L.map grpN)[k]'(by omega) = grpN L[k] := by simp
       refine ⟨by decide, ?_⟩
       rintro _ rfl
       have e1 : i64.wrap (2 * (k : Int)) = ((2 * k : Nat) : Int) := by rw [wrap_i64 (by omega) (by omega)]; omega
       have e2 : i64.wrap (((2 * k : Nat) : Int) + 1) = ((2 * k + 1 : Nat) : Int) := by rw [wrap_i64 (by omega) (by omega)]; omega
       have e3 : IntKind.u8.wrap (i64.wrap (Int.tdiv ((grpN L[k] : Nat) : Int) 256)) = (((UInt8.ofNat (grpN L[k] / 256)).toNat : Nat) : Int) := by
         rw [tdiv_pos (by omega), wrap_i64 (by omega) (by omega), qeZ (by omega) (by omega), qrH (by omega)]; omega
       have e4 : IntKind.u8.wrap (Int.tmod ((grpN L[k] : Nat) : Int) 256) = (((UInt8.ofNat (grpN L[k] % 256)).toNat : Nat) : Int) := by
         rw [tmod_pos (by omega), qeZ (by omega) (by omega), qrH (by omega)]; omega
       rw [e1, e2, qdO, qdO, e3]
       simp only [Nat.zero_add]
       have hlen := qsn hG hk
       obtain ⟨w8, hs8, h58, hg8⟩ := h56.put (P := prog) qkY (i := 2 * k) (v := .int .u8 (((UInt8.ofNat (grpN L[k] / 256)).toNat : Nat) : Int)) (by rw [qaT, hlen]; omega) rfl rfl
       rw [qpl] at h58
       refine ⟨⟨⟨by omega, by omega⟩, trivial⟩, w8, hs8, by decide, ?_⟩
       rintro _ rfl
       rw [e4]
       obtain ⟨w9, hs9, h59, hg9⟩ := h58.put (P := prog) qkY (i := 2 * k + 1) (v := .int .u8 (((UInt8.ofNat (grpN L[k] % 256)).toNat : Nat) : Int)) (by rw [qaT, List.length_set, hlen]; omega) rfl rfl
       rw [qpl, <- hGk, qyu hG hk8] at h59
       refine ⟨⟨⟨by omega, by omega⟩, trivial⟩, w9, hs9, 8 - (k + 1), by omega, k + 1, by omega, by rw [wrap_i64 (by omega) (by omega)]; omega, rfl, ?_, h59, (h26.grown hg8 (qP (by omega))).grown hg9 (qP (by omega)), (ho6.put hog hg8).put hog hg9, Below.put (Below.put hB6 hg8 hk5w) hg9 hk5w⟩
       intro q hq hql
       by_cases e : q = k
       · subst e; exact hg
       · exact hok q (by omega) hql
 · have : k = 8 := by omega
   subst this
   have hv : e8 s = true := by
     rw [he8]
     exact List.all_eq_true.2 fun x hx => by
       obtain ⟨j, hj, rfl⟩ := List.mem_iff_getElem.1 hx
       exact hok j (by omega) hj
   have hlen : (adC (grpS (L.map grpN) 8)).length = 16 := by rw [qaT, qsn hG (by omega)]
   refine ⟨_, z6.load0 h56 hlen, ?_⟩
   exact z6.fin (K := fun vr wy => (.tuple #[vr, .bool true] : Value) = adT (e8V s) /\ Below w.heap.size w wy) hlen (qfP _) h26 rfl hB6 (by omega) fun wy hb => ⟨by rw [he8V hv, <- qB9 hG]; rfl, hb⟩
end Go.Proofs.YtlfolncaghkmcaaGreatDoor
namespace Go.Pk
def v6A (s : List UInt8) : Option (List UInt8) := (v6V s).map qkM
def ad16 (o : Option (List UInt8)) : Prop := ∀ a, o = some a -> a.length = 16
theorem quW (o : Option (List UInt8)) : adT o = .tuple #[adV (o.getD ad0), .bool o.isSome] := by cases o <;> rfl
theorem qrv {o : Option (List UInt8)} (h : ad16 o) : (adC (o.getD ad0)).length = 16 := by
 rw [qaT]
 cases o with
 | none => rfl
 | some a => exact h a rfl
theorem qBo (s : List UInt8) : ad16 (e8V s) := fun a h => by
 unfold e8V at h
 split at h
 · rename_i h8
   unfold e8 at h8
   rw [Bool.and_eq_true, dTx] at h8
   rw [<- Option.some.inj h, qnq, List.length_map, h8.1]
 · cases h
theorem qA8 (s : List UInt8) : ad16 (v6A s) := fun a h => by
 unfold v6A at h
 cases hv : v6V s with
 | none => rw [hv] at h; cases h
 | some g =>
   rw [hv] at h
   rw [<- Option.some.inj h, qnq, qDJ hv]
theorem qDd (s : List UInt8) : ad16 (v4V s) := fun a h => by
 unfold v4V at h
 split at h
 · rename_i h4
   rw [<- Option.some.inj h]; simp; omega
 · cases h
end Go.Pk
namespace Go.Proofs.YtlfolncaghkmcaaGreatDoor
open Go.Pk
open Go.RowKit (Below)
theorem ref02_V6_ok (s : List UInt8) (hs : s.length <= 99999000) (w : World) : Calls prog qq3 #[.string (mkS s)] w (Ret fun v w' => v = adT (v6A s) /\ Below w.heap.size w w') := by
 apply qw3
 unfold qt1
 intro k2 w2 hk2 hw2
 have hB2 := (hw2 ▸ qj w _ : Below w.heap.size w w2)
 have h2 : qk w2 k2 qr (adC ad0) := qk.new hk2 hw2
 refine callK (qoR s (by omega) w2) ?_
 rintro _ w3 ⟨rfl, hb3⟩
 have hB3 := qd hB2 hb3 hB2.size
 have h23 := h2.below hb3
 refine ⟨_, _, by rw [quW], ?_⟩
 refine z6.new (zs := adC ad0) (cs := adC ((e8V s).getD ad0)) rfl (qrv (qBo s)) (qfP _) w3 fun k4 w4 hk4 h44 hb4 => ?_
 have hB4 := qd hB3 hb4 hB3.size
 have h24 := h23.below hb4
 have good : ∀ {x : List UInt8} {wx : World}, v6A s = some x -> qk wx k2 qr (adC ad0) -> Below w.heap.size w wx -> _ := fun {x wx} hv h2x hBx => z6.fin (K := fun vr wy => (.tuple #[vr, .bool true] : Value) = adT (v6A s) /\ Below w.heap.size w wy) (cs := adC x) (by rw [qaT]; exact qA8 s _ hv) (qfP _) h2x rfl hBx (by omega) fun wy hb => ⟨by rw [hv]; rfl, hb⟩
 refine BCase.of (fun h => ?_) (fun h => ?_)
 · have h8 : e8 s = true := by
     unfold e8V at h
     split at h
     · assumption
     · cases h
   refine ⟨_, z6.load0 h44 (qrv (qBo s)), ?_⟩
   have he : e8V s = some (qkM ((cutC 58 [] s).map grpN)) := if_pos h8
   rw [he]
   exact good (x := qkM ((cutC 58 [] s).map grpN)) (by unfold v6A; rw [qDW h8]; rfl) h24 hB4
 have h8 : e8 s = false := by
   unfold e8V at h
   split at h
   · cases h
   · rename_i hne; simpa using hne
 refine ⟨fun m i w' => ∃ k : Nat, k <= s.length /\ i = (k : Int) /\ m = s.length - k /\
     (∀ j, j < k -> at2 s j -> (∀ i, i < j -> ¬ at2 s i) -> ¬ (((rowP (s.take j)).all qef = true /\ (rowP (s.drop (j + 2))).all qef = true) /\ (rowP (s.take j)).length + (rowP (s.drop (j + 2))).length < 8)) /\
     qk w' k2 qr (adC ad0) /\ Below w.heap.size w w', ⟨_, 0, by omega, rfl, rfl, fun j hj => by omega, h24, hB4⟩, ?_⟩
 intro m i
 refine AllJ.of ?_ _
 rintro w5 ⟨k, hk, rfl, rfl, hno, h25, hB5⟩
 have e2 : i64.wrap ((k : Int) + 2) = ((k + 2 : Nat) : Int) := by rw [wrap_i64 (by omega) (by omega)]; omega
 have e1 : i64.wrap ((k : Int) + 1) = ((k + 1 : Nat) : Int) := by rw [wrap_i64 (by omega) (by omega)]; omega
 rw [e2, e1]
 refine BCase.of (fun h => ?_) (fun h => ?_) <;> simp only [dTx, dFx] at h
 · have hk2' : k + 2 <= s.length := by omega
   have hk0 : k < s.length := by omega
   have hk1 : k + 1 < s.length := by omega
   have hstep : ∀ {wx : World}, (at2 s k -> (∀ i, i < k -> ¬ at2 s i) -> ¬ (((rowP (s.take k)).all qef = true /\ (rowP (s.drop (k + 2))).all qef = true) /\ (rowP (s.take k)).length + (rowP (s.drop (k + 2))).length < 8)) ->
       qk wx k2 qr (adC ad0) -> Below w.heap.size w wx -> ∃ m' : Nat, m' < s.length - k /\ ∃ k' : Nat, k' <= s.length /\ ((k + 1 : Nat) : Int) = (k' : Int) /\ m' = s.length - k' /\
     (∀ j, j < k' -> at2 s j -> (∀ i, i < j -> ¬ at2 s i) -> ¬ (((rowP (s.take j)).all qef = true /\ (rowP (s.drop (j + 2))).all qef = true) /\ (rowP (s.take j)).length + (rowP (s.drop (j + 2))).length < 8)) /\
     qk wx k2 qr (adC ad0) /\ Below w.heap.size w wx := fun {wx} hc h2x hBx => ⟨s.length - (k + 1), by omega, k + 1, by omega, rfl, rfl, fun j hj => by
       by_cases e : j = k
       · subst e; exact hc
       · exact hno j (by omega), h2x, hBx⟩
   have u0 := qaf s[k] 58
   have u1 := qaf s[k + 1] 58
   rw [show (((58 : UInt8).toNat : Nat) : Int) = 58 from rfl] at u0 u1
   refine factJ (w := w5) (at2 s k) ⟨⟨by omega, by omega⟩, ?_⟩ (fun hat => ?_)
   · rw [zG hk0, bne, u0]
     refine BCase.of (fun hx => hstep (fun hat => ?_) h25 hB5) (fun hx => ⟨⟨by omega, by omega⟩, ?_⟩)
     · have := hat.1
       rw [List.getElem?_eq_getElem hk0] at this
       rw [Option.some.inj this] at hx; simp at hx
     · rw [zG hk1, bne, u1]
       refine BCase.of (fun hy => hstep (fun hat => ?_) h25 hB5) (fun hy => ⟨rfl, ?_⟩)
       · have := hat.2
         rw [List.getElem?_eq_getElem hk1] at this
         rw [Option.some.inj this] at hy; simp at hy
       · exact ⟨by rw [List.getElem?_eq_getElem hk0]; simp at hx; rw [hx], by rw [List.getElem?_eq_getElem hk1]; simp at hy; rw [hy]⟩
   · refine ⟨⟨by omega, by omega⟩, ?_⟩
     intro s40 e40
     refine ⟨⟨by omega, by omega⟩, ?_⟩
     intro s44 e44
     simp only [Int.toNat_natCast] at e40 e44
     have l40 : s40.length <= s.length := by rw [e40, List.length_take]; omega
     have l44 : s44.length <= s.length := by rw [e44, List.length_drop]; omega
     have l4 : s40.length + s44.length + 2 = s.length := by rw [e40, e44, List.length_take, List.length_drop]; omega
     refine strJ (B := fun J => BCase _ (_ /\ ∀ s48, s48 = (s40 ++ [58]) -> J s48 w5) (J s40 w5)) (qrz s40) (BCase.of (fun hx => ⟨fits (by simp; omega), ?_⟩) (fun hx => ⟨rfl, ?_⟩)) ?_
     · rintro _ rfl
       exact ⟨rfl, by unfold qrz; rw [if_neg (by simpa using hx)]⟩
     · unfold qrz; rw [if_pos (by simpa using hx)]; simpa using hx
     refine strJ (B := fun J => BCase _ (_ /\ ∀ s48, s48 = ([58] ++ s44) -> J s48 w5) (J s44 w5)) (qxp s44) (BCase.of (fun hx => ⟨fits (by simp; omega), ?_⟩) (fun hx => ⟨rfl, ?_⟩)) ?_
     · rintro _ rfl
       exact ⟨rfl, by unfold qxp; rw [if_neg (by simpa using hx)]; rfl⟩
     · unfold qxp; rw [if_pos (by simpa using hx)]; simpa using hx
     have lf : (qrz s40).length <= s40.length + 1 := by unfold qrz; split <;> simp
     have lb : (qxp s44).length <= s44.length + 1 := by unfold qxp; split <;> simp
     refine ⟨fun m z i w' => ∃ q : Nat, q <= 8 /\ i = (q : Int) /\ m = 8 - q /\ z = zsK q /\ (∀ j, j < q -> e8 (tryT s40 s44 j) = false) /\ qk w' k2 qr (adC ad0) /\ Below w.heap.size w w', ⟨_, 0, by omega, rfl, rfl, rfl, fun j hj => by omega, h25, hB5⟩, ?_⟩
     intro m z i
     refine AllJ.of ?_ _
     rintro w6 ⟨q, hq, rfl, rfl, rfl, hq8, h26, hB6⟩
     have hzl := qCj q
     refine BCase.of (fun h5 => ?_) (fun h5 => ?_) <;> simp only [dTx, dFx] at h5
     · refine ⟨fits (by omega), ?_⟩
       intro s60 e60
       have l60 : s60.length = (qrz s40).length + (zsK q).length := by rw [e60, List.length_append]
       refine ⟨fits (by omega), ?_⟩
       intro s62 e62
       have f62 : s62 = tryT s40 s44 q := by rw [e62, e60]; rfl
       have l62 : s62.length <= 100000000 := by rw [e62, List.length_append]; omega
       refine callK (qoR s62 l62 w6) ?_
       rintro _ w7 ⟨rfl, hb7⟩
       have hB7 := qd hB6 hb7 hB6.size
       rw [f62]
       refine ⟨_, _, by rw [quW], ?_⟩
       refine z6.new (zs := adC ad0) (cs := adC ((e8V (tryT s40 s44 q)).getD ad0)) rfl (qrv (qBo _)) (qfP _) w7 fun k11 w8 hk11 h118 hb8 => ?_
       have hB8 := qd hB7 hb8 hB7.size
       have h28 := (h26.below hb7).below hb8
       by_cases ht : e8 (tryT s40 s44 q) = true
       · have he : e8V (tryT s40 s44 q) = some (qkM ((cutC 58 [] (tryT s40 s44 q)).map grpN)) := if_pos ht
         have hl := qrv (qBo (tryT s40 s44 q))
         rw [he] at h118 hl ⊢
         refine BCase.yes rfl ⟨_, z6.load0 h118 hl, ?_⟩
         refine good (x := qkM ((cutC 58 [] (tryT s40 s44 q)).map grpN)) ?_ h28 hB8
         have ht2 := (qz6 s40 s44 q).1 ht
         rw [qDe ht]
         have hfirst : ∀ j, j < k -> ¬ at2 s j := fun j hj hc => by
           have := late hc hj hat
           rw [<- e40, ht2.1.1] at this; cases this
         unfold v6A
         rw [qDI hat hfirst, <- e40, <- e44, if_pos ⟨ht2.1, by omega⟩]; rfl
       · have he : e8V (tryT s40 s44 q) = none := if_neg ht
         rw [he] at h118 ⊢
         refine BCase.no rfl ⟨fits (by simp; omega), ?_⟩
         rintro _ rfl
         refine ⟨8 - (q + 1), by omega, q + 1, by omega, by rw [wrap_i64 (by omega) (by omega)]; omega, rfl, rfl, fun j hj => ?_, h28, hB8⟩
         by_cases e : j = q
         · subst e; simpa using ht
         · exact hq8 j (by omega)
     · have : q = 8 := by omega
       subst this
       refine hstep (fun _ hfirst hc => ?_) h26 hB6
       rw [<- e40, <- e44] at hc
       have := (qz6 s40 s44 (7 - (rowP s40).length - (rowP s44).length)).2 ⟨hc.1, by omega⟩
       rw [hq8 _ (by omega)] at this; cases this
 · have hv : v6A s = none := by
     unfold v6A
     rcases qp2 s with ⟨h1, h2⟩ | ⟨p, h1, h2, h3, h4⟩
     · rw [qDX h8 h2]; rfl
     · rw [qDI h2 h3, if_neg (hno p (by omega) h2 h3)]; rfl
   exact z6.fin (K := fun vr wy => (.tuple #[vr, .bool false] : Value) = adT (v6A s) /\ Below w.heap.size w wy) (cs := adC ad0) rfl (qfP _) h25 rfl hB5 (by omega) fun wy hb => ⟨by rw [hv]; rfl, hb⟩
end Go.Proofs.YtlfolncaghkmcaaGreatDoor
namespace Go.Pk
def tU16 : Ty Int := tInt .u16 fun _ => True
theorem qBp : Flat tU16 := fun _ _ _ _ _ _ h => h
def i16 (l : List Int) : List Value := l.map fun n => Value.int .u16 n
theorem qC1 {w : World} {A : Bl} {n : Int} : tU16.rep w A [.int .u16 n] n := ⟨rfl, trivial⟩
theorem qAT : ∀ n, n < 256 -> Lib.indexByte [48, 49, 50, 51, 52, 53, 54, 55, 56, 57, 97, 98, 99, 100, 101, 102] (lowC (UInt8.ofNat n)) = if hexN (UInt8.ofNat n) < 16 then (hexN (UInt8.ofNat n) : Int) else -1 := by decide +kernel
theorem qAU (c : UInt8) : Lib.indexByte [48, 49, 50, 51, 52, 53, 54, 55, 56, 57, 97, 98, 99, 100, 101, 102] (lowC c) = if hexN c < 16 then (hexN c : Int) else -1 := by
 have := qAT c.toNat (by have := c.toNat_lt; omega)
 rwa [UInt8.ofNat_toNat] at this
theorem or16 {a d : Nat} (ha : a < 4096) (hd : d < 16) : IntKind.u16.wrap (((BitVec.ofInt (IntKind.bits .u16) (IntKind.u16.wrap ((a : Int) * 2 ^ (min (Int.toNat (4 : Int)) (IntKind.bits .u16))))) ||| (BitVec.ofInt (IntKind.bits .u16) (IntKind.u16.wrap (d : Int)))).toNat : Nat) = ((a * 16 + d : Nat) : Int) := by
 have e1 : (2 : Int) ^ (min (Int.toNat (4 : Int)) (IntKind.bits .u16)) = 16 := by decide
 have w16 : ∀ n : Nat, n < 65536 -> IntKind.u16.wrap (n : Int) = (n : Int) := fun n hn => by
   have : IntKind.u16.wrap (n : Int) = (n : Int) % 65536 := rfl
   rw [this]; omega
 have e2 : (a : Int) * 16 = ((a * 16 : Nat) : Int) := by omega
 have b16 : ∀ n : Nat, n < 65536 -> (BitVec.ofInt (IntKind.bits .u16) (n : Int)).toNat = n := fun n hn => by
   show (BitVec.ofInt 16 (n : Int)).toNat = n
   rw [BitVec.toNat_ofInt]
   have : ((n : Int) % ((2 ^ 16 : Nat) : Int)).toNat = n := by
     have h : ((2 ^ 16 : Nat) : Int) = 65536 := by decide
     rw [h]; omega
   exact this
 rw [e1, e2, w16 (a * 16) (by omega), w16 d (by omega), BitVec.toNat_or, b16 (a * 16) (by omega), b16 d (by omega)]
 have h3 : a * 16 ||| d = a * 16 + d := by
   have := Nat.two_pow_add_eq_or_of_lt (i := 4) hd a
   rw [Nat.mul_comm a 16]; exact this.symm
 rw [h3, w16 _ (by omega)]
def rowI (s : List UInt8) : List Int := (rowP s).map fun x => (grpN x : Int)
end Go.Pk
namespace Go.Proofs.YtlfolncaghkmcaaGreatDoor
open Go.Pk
open Go.RowKit (Below)
theorem qvt (s : List UInt8) (hs : s.length <= 9223372036854775800) (w : World) : Calls prog qne #[.string (mkS s)] w
   (Ret fun v w' => v = (if qef s = true then .tuple #[.int .u16 (grpN s : Int), .bool true] else .tuple #[.int .u16 0, .bool false]) /\ Below w.heap.size w w') := by
 apply quu
 unfold qqE
 have bad : ∀ {wx : World}, qef s = false -> Below w.heap.size w wx -> (.tuple #[.int .u16 (0 : Int), .bool false] : Value) = (if qef s = true then .tuple #[.int .u16 (grpN s : Int), .bool true] else .tuple #[.int .u16 0, .bool false]) /\ Below w.heap.size w wx := fun hg hb => ⟨by rw [hg]; rfl, hb⟩
 refine factJ (w := w) (1 <= s.length /\ s.length <= 4) ?_ (fun hl => ?_)
 · refine BCase.of (fun h => bad ?_ (Below.refl _ _)) (fun h => BCase.of (fun h2 => bad ?_ (Below.refl _ _)) (fun h2 => ⟨rfl, ?_⟩))
   · unfold qef; rw [decide_eq_false (by simp only [dTx] at h; omega), Bool.false_and, Bool.false_and]
   · unfold qef; rw [decide_eq_false (p := s.length <= 4) (by simp only [dTx] at h2; omega), Bool.and_false, Bool.false_and]
   · simp only [dFx] at h h2
     exact ⟨by omega, by omega⟩
 refine callK (octet_Lower_ok s hs w) ?_
 rintro _ w1 ⟨rfl, hb1⟩
 refine ⟨_, rfl, ?_⟩
 have ll : (lowL s).length = s.length := by simp [lowL]
 obtain ⟨w2, a, n, c, hr, ho, hb2, hf⟩ := qol (P := prog) un_string qac un_uint8 w1 (lowL s) (by omega) NoB
 have hB2 := qd hb1 hb2 hb1.size
 have hnn := ho.len
 subst hnn
 refine ⟨w2, a, _, c, hr, ?_⟩
 refine ⟨fun m v i w' => ∃ j : Nat, j <= s.length /\ i = (j : Int) /\ m = s.length - j /\ v = ((grpN (s.take j) : Nat) : Int) /\ (∀ q (hq : q < j) (h : q < s.length), qnw s[q] = true) /\ w' = w2, ⟨_, 0, by omega, rfl, rfl, rfl, fun q hq => by omega, rfl⟩, ?_⟩
 intro m v i
 refine AllJ.of ?_ _
 rintro w' ⟨j, hj, rfl, rfl, rfl, hx, hw'⟩
 rw [hw']; clear hw'
 rw [ll]
 refine BCase.of (fun h => ?_) (fun h => ?_) <;> simp only [dTx, dFx] at h
 · have hlt : j < s.length := by omega
   have hgl := qsY hx (by omega)
   have hlt' : j < (lowL s).length := by omega
   obtain ⟨v, hv, hrep⟩ := ho.all.load1 (i := (j : Int)) un_uint8 rfl rfl (by simpa using hlt')
   have := qvh hrep
   subst this
   simp only [Int.toNat_natCast] at hv
   have elow : (lowL s)[j] = lowC s[j] := by simp [lowL]
   rw [elow] at hv
   refine ⟨⟨⟨by omega, h⟩, ho.all.isSome hlt'⟩, _, hv, ?_⟩
   refine (Tryz.strings_IndexByte (mkS [48, 49, 50, 51, 52, 53, 54, 55, 56, 57, 97, 98, 99, 100, 101, 102]) _ w2).mono ?_
   rintro _ w3 ⟨rfl, hw3⟩
   rw [hw3]; clear hw3
   have e5 : Lib.indexByte (mkS [48, 49, 50, 51, 52, 53, 54, 55, 56, 57, 97, 98, 99, 100, 101, 102]).data.toList (Int.toNat (((lowC s[j]).toNat : Nat) : Int)).toUInt8 = if hexN s[j] < 16 then (hexN s[j] : Int) else -1 := by
     rw [Int.toNat_natCast, show (lowC s[j]).toNat.toUInt8 = lowC s[j] from UInt8.ofNat_toNat]
     exact qAU s[j]
   rw [e5]
   refine ⟨_, rfl, ?_⟩
   by_cases hh : hexN s[j] < 16
   · rw [if_pos hh]
     have hhx : qnw s[j] = true := by simpa [qnw] using hh
     have h4096 : grpN (s.take j) < 4096 := by
       have ha : (s.take j).all qnw = true := List.all_eq_true.2 fun c hc => by
         obtain ⟨i, hi, rfl⟩ := List.mem_iff_getElem.1 hc
         rw [List.length_take] at hi
         rw [List.getElem_take]
         exact hx i (by omega) (by omega)
       have h1 := qp9 (s.take j) 0 ha
       have h2 : 16 ^ (s.take j).length <= 16 ^ 3 := Nat.pow_le_pow_right (by decide) (by rw [List.length_take]; omega)
       have h3 : (16 : Nat) ^ 3 = 4096 := rfl
       unfold grpN; omega
     refine BCase.no (by simp) ⟨by decide, s.length - (j + 1), by omega, j + 1, by omega, by rw [wrap_i64 (by omega) (by omega)]; omega, rfl, ?_, fun q hq hql => ?_, rfl⟩
     · rw [or16 h4096 hh, qyv _ hlt]
     · by_cases e : q = j
       · subst e; exact hhx
       · exact hx q (by omega) hql
   · rw [if_neg hh]
     refine BCase.yes (by decide) (bad ?_ hB2)
     unfold qef
     have : s.all qnw = false := by
       rw [Bool.eq_false_iff]
       intro hc
       have := List.all_eq_true.1 hc _ (List.getElem_mem hlt)
       exact hh (by simpa [qnw] using this)
     rw [this, Bool.and_false]
 · have : j = s.length := by omega
   subst this
   have hg : qef s = true := by
     unfold qef
     rw [decide_eq_true hl.1, decide_eq_true hl.2, Bool.true_and, Bool.true_and]
     exact List.all_eq_true.2 fun c hc => by
       obtain ⟨q, hq, rfl⟩ := List.mem_iff_getElem.1 hc
       exact hx q hq hq
   rw [List.take_length, if_pos hg]
   exact ⟨rfl, hB2⟩
def qzB (s : List UInt8) (w : World) (v : Value) (w' : World) : Prop :=
 ∃ (a : Option Addr) (n c : Nat), v = .tuple #[.slice a n c, .bool ((rowP s).all qef)] /\ ((rowP s).all qef = true -> Ow tU16 qge w' NoB a n c (rowI s) /\ zq w.heap.size a /\ (rowI s = [] -> a = none /\ n = 0 /\ c = 0)) /\ ((rowP s).all qef = false -> n = 0) /\ Below w.heap.size w w'
theorem qsv (s : List UInt8) (hs : s.length < 4294967281) (w : World) (he : Env w) : Calls prog qoq #[.string (mkS s)] w (Ret (qzB s w)) := by
 apply qwX
 unfold qtW
 refine BCase.of (fun h => ?_) (fun h => ?_)
 · have h0 : s = [] := by simpa using h
   subst h0
   exact ⟨none, 0, 0, rfl, fun _ => ⟨Ow.nil _ _ _ _, zq.none _, fun _ => ⟨rfl, rfl, rfl⟩⟩, fun _ => rfl, Below.refl _ _⟩
 have hne : s ≠ [] := by simpa using h
 have hrow : rowP s = cutC 58 [] s := by unfold rowP; rw [if_neg hne]
 have hI : rowI s = (cutC 58 [] s).map fun x => (grpN x : Int) := by unfold rowI; rw [hrow]
 unfold qzB
 rw [hrow, hI]
 refine callK (qgV s 58 hs w he) ?_
 rintro _ w3 ⟨a, n, c, rfl, ho, hf, hb3⟩
 have hn := ho.len
 have hlens : ∀ x ∈ cutC 58 [] s, x.length <= s.length := fun x hx => by simpa using qhE 58 s [] x hx
 have hcn := qbH 58 s []
 have hnz := qcw 58 s []
 refine ⟨_, _, _, rfl, ?_⟩
 generalize cutC 58 [] s = L at *
 refine ⟨fun m a4 l4 c4 i w' => ∃ k : Nat, k <= L.length /\ i = (k : Int) /\ m = L.length - k /\ (∀ j (hj : j < k) (h : j < L.length), qef L[j] = true) /\ Ow tU16 qge w' NoB a4 l4 c4 ((L.take k).map fun x => (grpN x : Int)) /\ zq w3.heap.size a4 /\ Below w3.heap.size w3 w',
   ⟨_, 0, by omega, rfl, rfl, fun j hj => by omega, Ow.nil _ _ _ _, zq.none _, Below.refl _ _⟩, ?_⟩
 intro m a4 l4 c4 i
 refine AllJ.of ?_ _
 rintro w6 ⟨k, hk, rfl, rfl, hok, ho4, hf4, hB6⟩
 have ho6 := ho.below hB6
 refine BCase.of (fun h => ?_) (fun h => ?_) <;> simp only [dTx, dFx] at h
 · have hkL : k < L.length := by omega
   have hlk := hlens L[k] (List.getElem_mem hkL)
   refine ⟨⟨⟨by omega, h⟩, ho6.all.isSome (by omega)⟩, _, ho6.all.text un_string hkL, ?_⟩
   refine callK (qvt L[k] (by omega) w6) ?_
   rintro _ w7 ⟨rfl, hb7⟩
   have hB7 := qd hB6 hb7 hB6.size
   by_cases hg : qef L[k] = true
   · rw [if_pos hg]
     refine ⟨_, _, rfl, BCase.no rfl ?_⟩
     intro k1 w8 hk1 hw8
     have ho47 := ho4.below hb7
     obtain ⟨w9, a9, n9, c9, hr, ho9, hf9, hb9⟩ := qnH (ty := qei) (w0 := w3) (cm := 1) (vs := [_]) qBp qn1 qxe (by decide) ho47 hf4 hB7 hk1 hw8 (qC1) (by simp; omega)
     refine ⟨w9, a9, n9, c9, hr, L.length - (k + 1), by omega, k + 1, by omega, by rw [wrap_i64 (by omega) (by omega)]; omega, rfl, fun j hj hjl => ?_, ?_, hf9, hb9⟩
     · by_cases e : j = k
       · subst e; exact hg
       · exact hok j (by omega) hjl
     · rw [List.take_succ_eq_append_getElem hkL, List.map_append]; exact ho9
   · rw [if_neg hg]
     refine ⟨_, _, rfl, BCase.yes rfl ?_⟩
     have hall : L.all qef = false := by
       rw [Bool.eq_false_iff]
       intro hc
       exact hg (List.all_eq_true.1 hc _ (List.getElem_mem hkL))
     rw [hall]
     exact ⟨none, 0, 0, rfl, (fun h => by cases h), (fun _ => rfl), qd hb3 hB7 hb3.size⟩
 · have : k = L.length := by omega
   subst this
   have hall : L.all qef = true := List.all_eq_true.2 fun x hx => by
     obtain ⟨j, hj, rfl⟩ := List.mem_iff_getElem.1 hx
     exact hok j (by omega) hj
   rw [List.take_length] at ho4
   rw [hall]
   refine ⟨a4, l4, c4, rfl, (fun _ => ⟨ho4, hf4.mono hb3.size, fun h0 => ?_⟩), (fun h => by cases h), qd hb3 hB6 hb3.size⟩
   exact absurd (List.map_eq_nil_iff.1 h0) hnz
end Go.Proofs.YtlfolncaghkmcaaGreatDoor
namespace Go.Pk
theorem qAs (l : List Int) : One1 (i16 l) := fun c hc => by
 obtain ⟨x, _, rfl⟩ := List.mem_map.1 hc; rfl
theorem qzf (w : World) (k : Nat) : w.grownBy w (some k) := ⟨rfl, rfl, rfl, Nat.le_refl _, fun _ _ _ => rfl⟩
theorem qyl {P : Program} {dT sT ty elem : TypeId} (hu : P.underlying dT = some (.slice elem)) (hs : (P.info? elem).map (·.size) = some 1) {w : World} {k : Nat} {T : TypeId} {vs : List Value} (h : qk w k T vs)
   {a : Option Addr} {n c : Nat} {xs : List Int} (ho : Ow tU16 elem w NoB a n c xs) (hnil : xs = [] -> a = none /\ n = 0 /\ c = 0) {o dLen dCap : Nat} {A : Addr} (hA : xs ≠ [] -> A = ⟨k, o, none⟩) (hd : xs.length <= dLen) (hfit : o + xs.length <= vs.length) :
   ∃ w', (Builtin.copy_ #[dT, sT] ty #[.slice (some A) dLen dCap, .slice a n c]).run P w = .ok (.int .i64 ((xs.length : Nat) : Int)) w' /\ qk w' k T (vs.take o ++ i16 xs ++ vs.drop (o + xs.length)) /\ w.grownBy w' (some k) := by
 by_cases hx : xs = []
 · obtain ⟨rfl, rfl, rfl⟩ := hnil hx
   subst hx
   refine ⟨w, run_copy_nil P w dT sT ty elem A dLen dCap hu (by rw [hs]; rfl), ?_, qzf w k⟩
   simpa [i16] using h
 · have hn := ho.len
   obtain ⟨h1, h2, h3, h4⟩ := ho.all
   obtain ⟨b, off, rfl, hb, -, l, hr, hcells⟩ := h4.resolve_left hx
   have hl : l = i16 xs := qh2 (h1 := fun _ => rfl) hr
   subst hl
   rw [hA hx]
   have hln : (i16 xs).length = xs.length := by simp [i16]
   have hsrc : ∀ (j : Nat) (v : Value), (i16 xs)[j]? = some v -> w.cell? ((⟨b, off, none⟩ : Addr).add j) = some v := by
     intro j v hj
     have hjl : j < (i16 xs).length := (List.getElem?_eq_some_iff.1 hj).1
     have e : (⟨b, off, none⟩ : Addr).add j = ⟨b, off + j, none⟩ := by unfold Addr.add; split <;> simp_all
     rw [e, hcells j hjl, hj]
   have hmin : (i16 xs).length = Nat.min n dLen := by rw [hln, hn]; exact (Nat.min_eq_left (by omega)).symm
   have hrun := run_copy_row P w dT sT ty elem k o dLen dCap ⟨b, off, none⟩ n c vs.toArray T (i16 xs) hu hs h hmin hsrc (by rw [hln]; simpa using hfit) (qAs xs)
   rw [hln] at hrun
   have hh := setRow_heap w k vs.toArray (vs.take o ++ i16 xs ++ vs.drop (o + xs.length)).toArray T (0, 0) h
   exact ⟨_, hrun, hh, qe8 w k _⟩
theorem qx9 {n : Nat} : IntKind.u8.wrap (n : Int) = (((UInt8.ofNat (n % 256)).toNat : Nat) : Int) := by
 have e : IntKind.u8.wrap (n : Int) = (n : Int) % 256 := rfl
 rw [e, qrH (by omega)]; omega
theorem qDT {n : Nat} (h : n < 65536) : IntKind.u8.wrap (Int.fdiv (n : Int) (2 ^ (min (Int.toNat (8 : Int)) (IntKind.bits .u16)))) = (((UInt8.ofNat (n / 256)).toNat : Nat) : Int) := by
 have e1 : (2 : Int) ^ (min (Int.toNat (8 : Int)) (IntKind.bits .u16)) = 256 := by decide
 have e2 : Int.fdiv (n : Int) 256 = ((n / 256 : Nat) : Int) := by rw [Int.fdiv_eq_ediv_of_nonneg _ (by decide)]; omega
 rw [e1, e2, qeZ (by omega) (by omega), qrH (by omega)]
end Go.Pk
namespace Go.Proofs.YtlfolncaghkmcaaGreatDoor
open Go.Pk
open Go.RowKit (Below)
theorem qwr (g0 g1 g2 g3 g4 g5 g6 g7 : Nat) (hb : ∀ g ∈ [g0, g1, g2, g3, g4, g5, g6, g7], g < 65536) (w : World) :
   Calls prog qpr #[.agg #[.int .u16 (g0 : Int), .int .u16 (g1 : Int), .int .u16 (g2 : Int), .int .u16 (g3 : Int), .int .u16 (g4 : Int), .int .u16 (g5 : Int), .int .u16 (g6 : Int), .int .u16 (g7 : Int)]] w
     (Ret fun v w' => v = adV (qkM [g0, g1, g2, g3, g4, g5, g6, g7]) /\ Below w.heap.size w w') := by
 apply qv5
 unfold qrJ
 intro k1 w1 hk1 hw1
 have hB1 := (hw1 ▸ qj w _ : Below w.heap.size w w1)
 have h11 : qk w1 k1 zl (i16 ([g0, g1, g2, g3, g4, g5, g6, g7].map fun g : Nat => (g : Int))) := qk.new hk1 hw1
 obtain ⟨G, hG⟩ : ∃ G, G = [g0, g1, g2, g3, g4, g5, g6, g7] := ⟨_, rfl⟩
 have hl8 : G.length = 8 := by rw [hG]; rfl
 rw [<- hG] at h11 hb ⊢
 clear hG
 intro k2 w2 hk2 hw2
 have hb2 := (hw2 ▸ qj w1 _ : Below w1.heap.size w1 w2)
 have hB2 := qd hB1 hb2 hB1.size
 have h22 : qk w2 k2 qr (adC ad0) := qk.new hk2 hw2
 intro k3 w3 hk3 hw3
 have hb3 := (hw3 ▸ qj w2 _ : Below w2.heap.size w2 w3)
 have hB3 := qd hB2 hb3 hB2.size
 have h33 : qk w3 k3 qr (adC ad0) := qk.new hk3 hw3
 have h23 := h22.below hb3
 have h13 := (h11.below hb2).below hb3
 have l1 := h11.lt
 have l2 := h22.lt
 have hk3w : w.heap.size <= k3 := by have := hB2.size; omega
 refine ⟨fun m i w' => ∃ k : Nat, k <= 8 /\ i = (k : Int) /\ m = 8 - k /\ qk w' k3 qr (adC (grpS G k)) /\ qk w' k2 qr (adC ad0) /\ qk w' k1 zl (i16 (G.map fun g : Nat => (g : Int))) /\ Below w.heap.size w w',
   ⟨_, 0, by omega, rfl, rfl, h33, h23, h13, hB3⟩, ?_⟩
 intro m i
 refine AllJ.of ?_ _
 rintro w6 ⟨k, hk, rfl, rfl, h36, h26, h16, hB6⟩
 refine BCase.of (fun h => ?_) (fun h => ?_) <;> simp only [dTx, dFx] at h
 · have hk8 : k < 8 := by omega
   have hgk := hb G[k] (List.getElem_mem (by omega))
   have e1 : i64.wrap (2 * (k : Int)) = ((2 * k : Nat) : Int) := by rw [wrap_i64 (by omega) (by omega)]; omega
   have e2 : i64.wrap (((2 * k : Nat) : Int) + 1) = ((2 * k + 1 : Nat) : Int) := by rw [wrap_i64 (by omega) (by omega)]; omega
   rw [e1, e2, qdO, qdO, qdO]
   simp only [Nat.zero_add]
   have hin : (0 <= (k : Int) /\ (k : Int) < ((8 : Nat) : Int)) /\ True := ⟨⟨by omega, by omega⟩, trivial⟩
   have hin1 : (0 <= ((2 * k : Nat) : Int) /\ ((2 * k : Nat) : Int) < ((16 : Nat) : Int)) /\ True := ⟨⟨by omega, by omega⟩, trivial⟩
   have hin2 : (0 <= ((2 * k + 1 : Nat) : Int) /\ ((2 * k + 1 : Nat) : Int) < ((16 : Nat) : Int)) /\ True := ⟨⟨by omega, by omega⟩, trivial⟩
   have hd : Below w.heap.size w (World.drew w6) := qd hB6 (qiF rfl rfl rfl (Nat.le_refl _) (fun _ _ => rfl)) hB6.size
   have d3 : qk (World.drew w6) k3 qr (adC (grpS G k)) := h36
   have d2 : qk (World.drew w6) k2 qr (adC ad0) := h26
   have d1 : qk (World.drew w6) k1 zl (i16 (G.map fun g : Nat => (g : Int))) := h16
   have hget : (i16 (G.map fun g : Nat => (g : Int)))[k]? = some (.int .u16 ((G[k]'(by omega) : Nat) : Int)) := by
     unfold i16
     rw [List.getElem?_map, List.getElem?_map, List.getElem?_eq_getElem (by omega)]; rfl
   have ld : ∀ {wx : World}, qk wx k1 zl (i16 (G.map fun g : Nat => (g : Int))) -> (Instr.loadAt qge (.pointer (some ⟨k1, k, none⟩))).run prog wx = .ok (.int .u16 ((G[k]'(by omega) : Nat) : Int)) wx := fun hx => hx.load1 qtU rfl hget
   have hlen := qsn hl8 hk
   obtain ⟨w8, hs8, h58, hg8⟩ := d3.put (P := prog) qkY (i := 2 * k) (v := .int .u8 (((UInt8.ofNat (G[k] / 256)).toNat : Nat) : Int)) (by rw [qaT, hlen]; omega) rfl rfl
   rw [qpl] at h58
   have d18 := d1.grown hg8 (qP (by omega))
   obtain ⟨w9, hs9, h59, hg9⟩ := h58.put (P := prog) qkY (i := 2 * k + 1) (v := .int .u8 (((UInt8.ofNat (G[k] % 256)).toNat : Nat) : Int)) (by rw [qaT, List.length_set, hlen]; omega) rfl rfl
   rw [qpl, qyu hl8 hk8] at h59
   have hfin : ∃ m' : Nat, m' < 8 - k /\ ∃ k' : Nat, k' <= 8 /\ i64.wrap ((k : Int) + 1) = (k' : Int) /\ m' = 8 - k' /\ qk w9 k3 qr (adC (grpS G k')) /\ qk w9 k2 qr (adC ad0) /\ qk w9 k1 zl (i16 (G.map fun g : Nat => (g : Int))) /\ Below w.heap.size w w9 :=
     ⟨8 - (k + 1), by omega, k + 1, by omega, by rw [wrap_i64 (by omega) (by omega)]; omega, rfl, h59, (d2.grown hg8 (qP (by omega))).grown hg9 (qP (by omega)), d18.grown hg9 (qP (by omega)), Below.put (Below.put hd hg8 hk3w) hg9 hk3w⟩
   rw [<- qDT hgk] at hs8
   rw [<- qx9] at hs9
   refine ⟨hin, hin, ⟨_, ld d1, by decide, hin1, ⟨_, ld d1, w8, hs8, hin2, w9, hs9, hfin⟩, w8, hs8, _, ld d18, hin2, w9, hs9, hfin⟩, _, ld d1, _, ld d1, by decide, hin1, w8, hs8, hin2, w9, hs9, hfin⟩
 · have : k = 8 := by omega
   subst this
   have hlen : (adC (grpS G 8)).length = 16 := by rw [qaT, qsn hl8 (by omega)]
   refine ⟨_, z6.load0 h36 hlen, ?_⟩
   exact z6.fin (K := fun vr wy => vr = adV (qkM G) /\ Below w.heap.size w wy) hlen (qfP _) h26 rfl hB6 (by omega) fun wy hb => ⟨by rw [qB9 hl8]; rfl, hb⟩
theorem qrt : Whl prog zl 8 := ⟨⟨_, _, quR⟩, by kernel_rfl⟩
theorem qyW (s : List UInt8) (hs : s.length < 4294967281) (w : World) (he : Env w) : Calls prog qsT #[.string (mkS s)] w (Ret fun v w' => v = adT (v6A s) /\ Below w.heap.size w w') := by
 apply qxY
 unfold qvj
 intro k2 w2 hk2 hw2
 have hB2 := (hw2 ▸ qj w _ : Below w.heap.size w w2)
 have h2 : qk w2 k2 qr (adC ad0) := qk.new hk2 hw2
 obtain ⟨m, hm⟩ := (he.step hB2).max
 refine (Tryz.strings_Cut (mkS s) (mkS [58, 58]) m w2 hs hm).mono ?_
 rintro _ w3 ⟨rfl, q, rfl⟩
 have hb3 : Below w2.heap.size w2 (w2.drewN q) := qiF rfl rfl rfl (Nat.le_refl _) (fun _ _ => rfl)
 have hB3 := qd hB2 hb3 hB2.size
 have h23 := h2.below hb3
 have hlen : (Lib.cut s [58, 58]).1.length <= s.length /\ (Lib.cut s [58, 58]).2.1.length <= s.length := by
   rcases qp2 s with ⟨h1, -⟩ | ⟨p, h1, -⟩ <;> rw [h1]
   · exact ⟨Nat.le_refl _, Nat.zero_le _⟩
   · exact ⟨by rw [List.length_take]; omega, by rw [List.length_drop]; omega⟩
 have hv6 : v6A s = (if fit6 (Lib.cut s [58, 58]).2.2 (rowP (Lib.cut s [58, 58]).1) (rowP (Lib.cut s [58, 58]).2.1) = true then some (v6L (rowP (Lib.cut s [58, 58]).1) (rowP (Lib.cut s [58, 58]).2.1)) else none).map qkM := rfl
 show ∃ (s15_0 : List UInt8) (s15_1 : List UInt8) (b15_2 : Bool), (Ending.returned (.tuple #[.string (mkS (Lib.cut s [58, 58]).1), .string (mkS (Lib.cut s [58, 58]).2.1), .bool (Lib.cut s [58, 58]).2.2]) : Ending) = .returned (.tuple #[.string (mkS s15_0), .string (mkS s15_1), .bool b15_2]) /\ _
 generalize Lib.cut s [58, 58] = C at *
 obtain ⟨f, b, g⟩ := C
 refine ⟨f, b, g, rfl, ?_⟩
 have hlf : f.length <= s.length := hlen.1
 have hlb : b.length <= s.length := hlen.2
 have hv : v6A s = (if fit6 g (rowP f) (rowP b) = true then some (v6L (rowP f) (rowP b)) else none).map qkM := hv6
 clear hv6 hlen
 refine callK (qsv f (by omega) _ (he.step hB3)) ?_
 rintro _ w4 ⟨a4, n4, c4, rfl, hok4, hno4, hb4⟩
 have hB4 := qd hB3 hb4 hB3.size
 refine ⟨_, _, _, _, rfl, ?_⟩
 refine callK (qsv b (by omega) w4 (he.step hB4)) ?_
 rintro _ w5 ⟨a5, n5, c5, rfl, hok5, hno5, hb5⟩
 have hB5 := qd hB4 hb5 hB4.size
 have h25 := (h23.below hb4).below hb5
 refine ⟨_, _, _, _, rfl, ?_⟩
 have hrl : ∀ t : List UInt8, (rowP t).length <= t.length + 1 := fun t => by
   unfold rowP
   split
   · simp
   · exact qbH 58 t []
 have hIl : ∀ t : List UInt8, (rowI t).length = (rowP t).length := fun t => by simp [rowI]
 have hrf := hrl f
 have hrb := hrl b
 have hn4 : (rowP f).all qef = true -> n4 = (rowP f).length := fun h => by rw [<- hIl]; exact (hok4 h).1.len
 have hn5 : (rowP b).all qef = true -> n5 = (rowP b).length := fun h => by rw [<- hIl]; exact (hok5 h).1.len
 have none_end : ∀ {wx : World}, fit6 g (rowP f) (rowP b) = false -> qk wx k2 qr (adC ad0) -> Below w.heap.size w wx -> _ := fun {wx} hf h2x hBx => z6.fin (K := fun vr wy => (.tuple #[vr, .bool false] : Value) = adT (v6A s) /\ Below w.heap.size w wy) (cs := adC ad0) rfl (qfP _) h2x rfl hBx (by omega) fun wy hb => ⟨by rw [hv, hf]; rfl, hb⟩
 refine factJ (w := w5) (fit6 g (rowP f) (rowP b) = true) ?_ (fun hfit => ?_)
 · refine ⟨fun x w' => w' = w5 /\ x = !(fit6 g (rowP f) (rowP b)), ?_, ?_⟩
   · refine BCase.of (fun h1 => ⟨rfl, ?_⟩) (fun h1 => ?_)
     · have h1' : (rowP f).all qef = false := by simpa only [Bool.not_eq_true'] using h1
       unfold fit6; rw [h1', Bool.false_and, Bool.false_and]; rfl
     have h1' : (rowP f).all qef = true := by simpa only [Bool.not_eq_false'] using h1
     refine BCase.of (fun h2 => ⟨rfl, ?_⟩) (fun h2 => ?_)
     · have h2' : (rowP b).all qef = false := by simpa only [Bool.not_eq_true'] using h2
       unfold fit6; rw [h2', Bool.and_false, Bool.false_and]; rfl
     have h2' : (rowP b).all qef = true := by simpa only [Bool.not_eq_false'] using h2
     have ef : fit6 g (rowP f) (rowP b) = if g then decide ((rowP f).length + (rowP b).length < 8) else decide ((rowP f).length + (rowP b).length = 8) := by unfold fit6; rw [h1', h2', Bool.and_self, Bool.true_and]
     rw [ef, hn4 h1', hn5 h2', wrap_i64 (by omega) (by omega)]
     cases g with
     | true =>
       refine BCase.yes rfl (BCase.of (fun h3 => ⟨rfl, ?_⟩) (fun h3 => BCase.no rfl ⟨rfl, ?_⟩)) <;> simp at h3 ⊢ <;> omega
     | false =>
       refine BCase.no rfl (BCase.yes rfl ⟨rfl, ?_⟩)
       rw [Bool.eq_iff_iff]; simp; omega
   · intro x
     refine AllJ.of ?_ _
     rintro wj ⟨hwj, hx⟩
     rw [hwj, hx]; clear hwj hx
     exact BCase.of (fun h1 => none_end (by simpa only [Bool.not_eq_true'] using h1) h25 hB5) (fun h1 => ⟨rfl, by simpa only [Bool.not_eq_false'] using h1⟩)
 · have hf2 := hfit
   unfold fit6 at hf2
   rw [Bool.and_eq_true, Bool.and_eq_true] at hf2
   obtain ⟨⟨ga, gb⟩, gl⟩ := hf2
   have hl8 : (rowP f).length + (rowP b).length <= 8 := by
     split at gl
     · have := of_decide_eq_true gl; omega
     · have := of_decide_eq_true gl; omega
   obtain ⟨ho4, hf4, hz4⟩ := hok4 ga
   obtain ⟨ho5, hf5, hz5⟩ := hok5 gb
   rw [hn5 gb]
   intro k12 w12 hk12 hw12
   have hb12 := (hw12 ▸ qj w5 _ : Below w5.heap.size w5 w12)
   have hB12 := qd hB5 hb12 hB5.size
   have h12 : qk w12 k12 zl (i16 [0, 0, 0, 0, 0, 0, 0, 0]) := qk.new hk12 hw12
   have ho42 := (ho4.below hb5).below hb12
   have ho52 := ho5.below hb12
   have og4 : ∀ g, ownB a4 = some g -> g ≠ k12 := fun g hg e => by have := ho4.lt g hg; have := hb5.size; omega
   have og5 : ∀ g, ownB a5 = some g -> g ≠ k12 := fun g hg e => by have := ho5.lt g hg; omega
   have hk12w : w.heap.size <= k12 := by have := hB5.size; omega
   have l2 := h25.lt
   obtain ⟨w6, hr6, h16, hg6⟩ := qyl (P := prog) (sT := qei) (ty := qt) (dLen := 8) (dCap := 8) (o := 0) (A := ⟨k12, 0, none⟩) qn1 (by kernel_rfl) h12 ho42 hz4 (fun _ => rfl) (by rw [hIl]; omega) (by rw [hIl]; simp [i16]; omega)
   have e5 : Int.toNat (i64.wrap ((8 : Int) - (((rowP b).length : Nat) : Int))) = 8 - (rowP b).length := by rw [wrap_i64 (by omega) (by omega)]; omega
   have e5' : i64.wrap ((8 : Int) - (((rowP b).length : Nat) : Int)) = ((8 - (rowP b).length : Nat) : Int) := by rw [wrap_i64 (by omega) (by omega)]; omega
   refine ⟨trivial, w6, _, hr6, ⟨by rw [e5']; omega, by rw [e5']; omega⟩, ?_⟩
   rw [e5]
   have ho56 := ho52.put og5 hg6
   have hlen16 : (List.take 0 (i16 [0, 0, 0, 0, 0, 0, 0, 0]) ++ i16 (rowI f) ++ List.drop (0 + (rowI f).length) (i16 [0, 0, 0, 0, 0, 0, 0, 0])).length = 8 := by
     have := hIl f
     simp [i16]; omega
   obtain ⟨w7, hr7, h17, hg7⟩ := qyl (P := prog) (sT := qei) (ty := qt) (dLen := 8 - (8 - (rowP b).length)) (dCap := 8 - (8 - (rowP b).length)) (o := 8 - (rowP b).length) (A := if 8 = 8 - (rowP b).length then ⟨k12, 0, none⟩ else Addr.add ⟨k12, 0, none⟩ ((8 - (rowP b).length) * 1)) qn1 (by kernel_rfl) h16 ho56 hz5
     (fun hne => by
       have : (rowP b).length ≠ 0 := fun e => hne (List.length_eq_zero_iff.1 (by rw [hIl]; exact e))
       rw [if_neg (by omega)]
       unfold Addr.add; split <;> simp_all) (by rw [hIl]; omega) (by rw [hIl, hlen16]; omega)
   rw [hn5 gb] at hr7
   refine ⟨w7, _, hr7, ?_⟩
   obtain ⟨G, hG⟩ : ∃ G, G = v6L (rowP f) (rowP b) := ⟨_, rfl⟩
   have hGl : G.length = 8 := by rw [hG]; simp [v6L]; omega
   have hGb : ∀ x ∈ G, x < 65536 := fun x hx => by
     rw [hG] at hx
     unfold v6L at hx
     rcases List.mem_append.1 hx with hx | hx
     · rcases List.mem_append.1 hx with hx | hx
       · obtain ⟨y, hy, rfl⟩ := List.mem_map.1 hx; exact qCa (List.all_eq_true.1 ga y hy)
       · rw [(List.mem_replicate.1 hx).2]; decide
     · obtain ⟨y, hy, rfl⟩ := List.mem_map.1 hx; exact qCa (List.all_eq_true.1 gb y hy)
   have hcells : (List.take 0 (i16 [0, 0, 0, 0, 0, 0, 0, 0]) ++ i16 (rowI f) ++ List.drop (0 + (rowI f).length) (i16 [0, 0, 0, 0, 0, 0, 0, 0])).take (8 - (rowP b).length) ++ i16 (rowI b) ++ (List.take 0 (i16 [0, 0, 0, 0, 0, 0, 0, 0]) ++ i16 (rowI f) ++ List.drop (0 + (rowI f).length) (i16 [0, 0, 0, 0, 0, 0, 0, 0])).drop (8 - (rowP b).length + (rowI b).length) = i16 (G.map fun x : Nat => (x : Int)) := by
     have hz : i16 [0, 0, 0, 0, 0, 0, 0, 0] = List.replicate 8 (Value.int .u16 0) := rfl
     rw [hz, List.take_zero, List.nil_append, List.drop_replicate, hIl, hIl, Nat.zero_add, hG]
     rw [show 8 - (rowP b).length + (rowP b).length = 8 by omega, List.drop_eq_nil_of_le (by simp [i16, rowI]; omega), List.append_nil]
     rw [List.take_append, List.take_of_length_le (by simp [i16, rowI]; omega), List.take_replicate]
     have e1 : min (8 - (rowP b).length - (i16 (rowI f)).length) (8 - (rowP f).length) = 8 - (rowP f).length - (rowP b).length := by
       have : (i16 (rowI f)).length = (rowP f).length := by simp [i16, rowI]
       omega
     rw [e1]
     unfold v6L i16 rowI
     simp
     rfl
   rw [hcells] at h17
   have hB7 := Below.put (Below.put hB12 hg6 hk12w) hg7 hk12w
   have h27 := ((h25.below hb12).grown hg6 (qP (by omega))).grown hg7 (qP (by omega))
   have hvG : v6A s = some (qkM G) := by rw [hv, hfit, hG]; rfl
   clear hG hcells hlen16
   match G, hGl, hGb, h17, hvG with
   | [g0, g1, g2, g3, g4, g5, g6, g7], _, hGb, h17, hvG =>
     refine ⟨_, _, _, _, _, _, _, _, qrt.load0 h17 rfl, ?_⟩
     refine callK (qwr g0 g1 g2 g3 g4 g5 g6 g7 hGb w7) ?_
     rintro _ w8 ⟨rfl, hb8⟩
     have hB8 := qd hB7 hb8 hB7.size
     refine ⟨_, rfl, ?_⟩
     exact z6.fin (K := fun vr wy => (.tuple #[vr, .bool true] : Value) = adT (v6A s) /\ Below w.heap.size w wy) (by rw [qaT]; exact qA8 s _ hvG) (qfP _) (h27.below hb8) rfl hB8 (by omega) fun wy hb => ⟨by rw [hvG]; rfl, hb⟩
end Go.Proofs.YtlfolncaghkmcaaGreatDoor
namespace Go.Pk
abbrev decL (n : Nat) : List UInt8 := Lib.decDigits n
theorem qyz {n : Nat} : Lib.itoa (n : Int) = decL n := by unfold Lib.itoa; rw [if_neg (by omega)]; rfl
theorem qbE {n : Nat} (h : n <= 9223372036854775807) : (decL n).length <= 21 := by rw [<- qyz]; exact Lib.itoa_length_le n (by omega) (by omega)
def qjB (a : List UInt8) : List UInt8 := Lib.join ((a.drop 12).map fun c => decL c.toNat) [46]
theorem qs3 (xs : List (List UInt8)) (c : UInt8) (M : Nat) (h : ∀ x ∈ xs, x.length <= M) : (Lib.join xs [c]).length <= xs.length * (M + 1) := by
 cases xs with
 | nil => simp [Lib.join_nil]
 | cons x r =>
   rw [Lib.join_cons]
   have : ∀ r : List (List UInt8), (∀ x ∈ r, x.length <= M) -> (Lib.joinTail [c] r).length <= r.length * (M + 1) := by
     intro r
     induction r with
     | nil => intro _; simp [Lib.joinTail]
     | cons y r ih =>
       intro hr
       have h1 := ih fun x hx => hr x (List.mem_cons_of_mem _ hx)
       have h2 := hr y List.mem_cons_self
       have e : Lib.joinTail [c] (y :: r) = [c] ++ y ++ Lib.joinTail [c] r := by simp [Lib.joinTail]
       rw [e]
       simp only [List.length_append, List.length_cons, List.length_nil, Nat.add_mul]; omega
   have h1 := this r fun y hy => h y (List.mem_cons_of_mem _ hy)
   have h2 := h x List.mem_cons_self
   simp only [List.length_append, List.length_cons, Nat.add_mul]; omega
end Go.Pk
namespace Go.Proofs.YtlfolncaghkmcaaGreatDoor
open Go.Pk
open Go.RowKit (Below)
theorem qs1 {w : World} {A : Bl} {a : Option Addr} {n c : Nat} {xs : List (List UInt8)} (ho : Sl tS w A a n c xs) (sep : List UInt8) (hx : xs.length <= 140737488355328) (hl : (Lib.join xs sep).length <= 140737488355328) :
   Calls prog qct #[.slice a n c, .string (mkS sep)] w (Ret fun v w' => v = .string (mkS (Lib.join xs sep)) /\ Below w.heap.size w w') := by
 obtain ⟨hn, hnc, hcm, h4⟩ := ho
 subst hn
 rcases h4 with h4 | ⟨b, off, rfl, hbl, _, cs, hcs, hcell⟩
 · subst h4
   refine (Tryz.strings_Join_none a c (mkS sep) w).mono ?_
   rintro _ _ ⟨rfl, rfl⟩
   exact ⟨_, rfl, rfl, Below.refl _ _⟩
 · have he := qh2 hcs
   have e : (xs.map mkS).map (fun s => s.data.toList) = xs := by rw [List.map_map]; exact List.map_id xs
   have hj := Tryz.strings_Join b off c (xs.map mkS) (mkS sep) w (fun j x hx => by
     rw [List.getElem?_map] at hx
     cases hxj : xs[j]? with
     | none => rw [hxj] at hx; cases hx
     | some y =>
       rw [hxj] at hx
       cases hx
       have hjl := (List.getElem?_eq_some_iff.1 hxj).1
       rw [hcell j (by rw [he]; simpa using hjl), he, List.getElem?_map, hxj]; rfl) hbl (by rw [List.length_map]; omega) (by rw [List.length_map]; exact hnc) (by
       rw [e]; exact hl)
   rw [List.length_map] at hj
   refine hj.mono ?_
   rintro _ w' ⟨rfl, hb'⟩
   rw [e]
   exact ⟨_, rfl, rfl, hb'⟩
theorem qCS (n : Nat) (h : n <= 9223372036854775807) (w : World) (he : Env w) : Calls prog qlb #[.int .i64 (n : Int)] w (Ret fun v w' => v = .string (mkS (decL n)) /\ Below w.heap.size w w') := by
 refine (Tryz.strconv_Itoa n (by omega) (by omega) w he.tab).mono ?_
 rintro _ _ ⟨rfl, k, os, rfl⟩
 rw [qyz]
 exact ⟨_, rfl, rfl, qpm w k os⟩
theorem qvr (a : List UInt8) (ha : a.length = 16) (w : World) (he : Env w) : Calls prog qnc #[adV a] w (Ret fun v w' => v = .string (mkS (qjB a)) /\ Below w.heap.size w w') := by
 apply qus
 unfold qqC
 intro k1 w1 hk1 hw1
 have hB1 := (hw1 ▸ qj w _ : Below w.heap.size w w1)
 have h1 : qk w1 k1 qr (adC a) := qk.new hk1 hw1
 have e12 : (if 16 = (Int.toNat (12 : Int)) then (⟨k1, 0, none⟩ : Addr) else Addr.add ⟨k1, 0, none⟩ ((Int.toNat (12 : Int)) * 1)) = ⟨k1, 12, none⟩ := by
   rw [if_neg (by decide)]; unfold Addr.add; split <;> simp_all
 have e4 : (16 - (Int.toNat (12 : Int)) : Nat) = 4 := rfl
 rw [e12, e4]
 refine ⟨⟨by decide, by decide⟩, ?_⟩
 refine ⟨fun m a3 l3 c3 i w' => ∃ k : Nat, k <= 4 /\ i = (k : Int) /\ m = 4 - k /\ Ow tS qh w' NoB a3 l3 c3 (((a.drop 12).take k).map fun c => decL c.toNat) /\ zq w1.heap.size a3 /\ Below w1.heap.size w1 w',
   ⟨_, 0, by omega, rfl, rfl, Ow.nil _ _ _ _, zq.none _, Below.refl _ _⟩, ?_⟩
 intro m a3 l3 c3 i
 refine AllJ.of ?_ _
 rintro w2 ⟨k, hk, rfl, rfl, ho2, hf2, hB2⟩
 have hl4 : (a.drop 12).length = 4 := by rw [List.length_drop]; omega
 refine BCase.of (fun h => ?_) (fun h => ?_) <;> simp only [dTx, dFx] at h
 · have hk4 : k < 4 := by omega
   rw [qdO]
   have hu := qgK (a[12 + k]'(by omega))
   refine ⟨⟨⟨by omega, h⟩, rfl⟩, _, (h1.below hB2).load1 un_uint8 rfl (qiq (i := 12 + k) (by omega)), ?_⟩
   rw [wrap_i64 (by omega) (by omega)]
   refine callK (qCS _ (by omega) w2 ((he.step hB1).step hB2)) ?_
   rintro _ w3 ⟨rfl, hb3⟩
   have hB3 := qd hB2 hb3 hB2.size
   refine ⟨_, rfl, ?_⟩
   intro k4 w4 hk4' hw4
   have hll : (((a.drop 12).take k).map fun c => decL c.toNat).length <= 4 := by simp; omega
   obtain ⟨w5, a5, n5, c5, hr, ho5, hf5, hb5⟩ := qnH (ty := qV) (w0 := w1) (cm := 1) (vs := [_]) (qaS _) qc6 ze (by decide) (ho2.below hb3) hf2 hB3 hk4' hw4 (qgz trivial) (by omega)
   refine ⟨w5, a5, n5, c5, hr, 4 - (k + 1), by omega, k + 1, by omega, by rw [wrap_i64 (by omega) (by omega)]; omega, rfl, ?_, hf5, hb5⟩
   rw [List.take_succ_eq_append_getElem (by omega), List.map_append]
   have : (a.drop 12)[k]'(by omega) = a[12 + k]'(by omega) := by rw [List.getElem_drop]
   rw [this]; exact ho5
 · have : k = 4 := by omega
   subst this
   rw [List.take_of_length_le (by omega)] at ho2
   have hlen : (qjB a).length <= 4 * (21 + 1) := by
     have := qs3 ((a.drop 12).map fun c => decL c.toNat) 46 21 (fun x hx => by
       obtain ⟨c, _, rfl⟩ := List.mem_map.1 hx
       have := qgK c
       exact qbE (by omega))
     rw [List.length_map, hl4] at this
     exact this
   refine callK (qs1 ho2.all [46] (by rw [List.length_map]; omega) (Nat.le_trans hlen (by decide))) ?_
   rintro _ w3 ⟨rfl, hb3⟩
   have hB3 := qd hB2 hb3 hB2.size
   exact ⟨_, rfl, rfl, qd hB1 hB3 hB1.size⟩
end Go.Proofs.YtlfolncaghkmcaaGreatDoor
namespace Go.Pk
def hexC (d : Nat) : UInt8 := UInt8.ofNat (if d < 10 then 48 + d else 87 + d)
def hexL (n : Nat) : List UInt8 := if n < 16 then [hexC n] else hexL (n / 16) ++ [hexC (n % 16)]
termination_by n
theorem qmg {n : Nat} (h : n < 16) : hexL n = [hexC n] := by rw [hexL, if_pos h]
theorem hexL_more {n : Nat} (h : ¬ n < 16) : hexL n = hexL (n / 16) ++ [hexC (n % 16)] := by rw [hexL, if_neg h]
theorem qje {n : Nat} (h : n < 65536) : (hexL n).length <= 4 := by
 have step : ∀ m M : Nat, (m / 16 < M -> (hexL (m / 16)).length <= 3) -> True := fun _ _ _ => trivial
 have l1 : ∀ n, n < 16 -> (hexL n).length = 1 := fun n h => by rw [qmg h]; rfl
 have l2 : ∀ n, n < 256 -> (hexL n).length <= 2 := fun n h => by
   by_cases c : n < 16
   · rw [l1 n c]; omega
   · rw [hexL_more c, List.length_append, l1 (n / 16) (by omega)]; simp
 have l3 : ∀ n, n < 4096 -> (hexL n).length <= 3 := fun n h => by
   by_cases c : n < 16
   · rw [l1 n c]; omega
   · have := l2 (n / 16) (by omega)
     rw [hexL_more c, List.length_append]; simp; omega
 by_cases c : n < 16
 · rw [l1 n c]; omega
 · have := l3 (n / 16) (by omega)
   rw [hexL_more c, List.length_append]; simp; omega
def qDM : List UInt8 := [48, 49, 50, 51, 52, 53, 54, 55, 56, 57, 97, 98, 99, 100, 101, 102, 103, 104, 105, 106, 107, 108, 109, 110, 111, 112, 113, 114, 115, 116, 117, 118, 119, 120, 121, 122]
theorem qwB : ∀ d : Nat, d < 16 -> qH qDM (d : Int) = (((hexC d).toNat : Nat) : Int) := by decide
theorem qCg {n : Int} (h0 : 0 <= n) (h1 : n < 18446744073709551616) : IntKind.u64.wrap n = n := by
 have e : IntKind.u64.wrap n = n % 18446744073709551616 := rfl
 rw [e]; omega
theorem qDK {u : Nat} (h : u < 65536) : IntKind.u64.wrap (((BitVec.ofInt (IntKind.bits .u64) (u : Int)) &&& (BitVec.ofInt (IntKind.bits .u64) (IntKind.u64.wrap ((IntKind.u64.wrap (16 : Int)) - (1 : Int))))).toNat : Nat) = ((u % 16 : Nat) : Int) := by
 have e15 : IntKind.u64.wrap ((IntKind.u64.wrap (16 : Int)) - (1 : Int)) = ((15 : Nat) : Int) := by decide
 have b64 : ∀ n : Nat, n < 65536 -> (BitVec.ofInt (IntKind.bits .u64) (n : Int)).toNat = n := fun n hn => by
   show (BitVec.ofInt 64 (n : Int)).toNat = n
   rw [BitVec.toNat_ofInt]
   have h : ((2 ^ 64 : Nat) : Int) = 18446744073709551616 := by decide
   rw [h]; omega
 rw [e15, BitVec.toNat_and, b64 u h, b64 15 (by decide)]
 have : u &&& 15 = u % 16 := Nat.and_two_pow_sub_one_eq_mod u 4
 rw [this, qCg (by omega) (by omega)]
theorem shr4 {u : Nat} : Int.fdiv (u : Int) (2 ^ (min (Int.toNat (IntKind.u64.wrap (4 : Int))) (IntKind.bits .u64))) = ((u / 16 : Nat) : Int) := by
 have e1 : (2 : Int) ^ (min (Int.toNat (IntKind.u64.wrap (4 : Int))) (IntKind.bits .u64)) = 16 := by decide
 rw [e1, Int.fdiv_eq_ediv_of_nonneg _ (by decide)]; omega
theorem qB4 (k o j : Nat) : Addr.add ⟨k, o, none⟩ j = ⟨k, o + j, none⟩ := by unfold Addr.add; split <;> simp_all
theorem qk.sl8 {w : World} {k : Nat} {T : TypeId} {p xs : List UInt8} (h : qk w k T (adC (p ++ xs))) (hl : xs.length <= maxLen) : Sl tU8 w AllB (some ⟨k, p.length, none⟩) xs.length xs.length xs := by
 refine ⟨rfl, Nat.le_refl _, hl, .inr ⟨k, p.length, rfl, h.lt, trivial, adC xs, qfM (fun _ _ => trivial), fun j hj => ?_⟩⟩
 rw [h.cell]
 unfold adC
 rw [List.map_append, List.getElem?_append_right (by simp)]
 simp
end Go.Pk
namespace Go.Proofs.YtlfolncaghkmcaaGreatDoor
open Go.Pk
open Go.RowKit (Below)
theorem qm4 (w : World) (he : Env w) : Calls prog qfe #[.int .u64 (IntKind.u64.wrap (16 : Int))] w (Ret fun v w' => v = .int .i64 4 /\ w' = w) := by
 have e16 : IntKind.u64.wrap (16 : Int) = 16 := by decide
 rw [e16]
 apply qku
 unfold qhG
 refine callK (K := fun v w' => v = .int .i64 4 /\ w' = w) ?_ ?_
 · apply qjz
   unfold qg6
   refine BCase.no (by decide) ⟨by decide, ⟨⟨by decide +kernel, by decide +kernel⟩, rfl⟩, 4, ?_, rfl, rfl⟩
   have hE : ∀ E : Int, E = 15 -> (Instr.loadAt qU (.pointer (ql (some ⟨7, 0, none⟩) E 1))).run prog w = .ok (.int .u8 4) w := by
     rintro _ rfl
     exact loadVar_one un_uint8 rfl he.tz
   exact hE _ (by decide +kernel)
 · rintro _ w1 ⟨rfl, hw⟩
   exact ⟨_, rfl, rfl, hw⟩
theorem qvJ (n : Nat) (hn : n < 65536) (w : World) (he : Env w) : Calls prog qdP #[.slice none 0 0, .int .u64 (n : Int), .int .i64 16, .bool false, .bool false] w
   (Ret fun v w' => v = .tuple #[.slice none 0 0, .string (mkS (hexL n))] /\ Below w.heap.size w w') := by
 apply qi7
 unfold qgd
 refine factJ (w := w) True ?_ (fun _ => ?_)
 · refine ⟨fun b w' => w' = w /\ b = false, BCase.no (by decide) (BCase.no (by decide) ⟨rfl, by decide⟩), fun b => AllJ.of ?_ _⟩
   rintro wj ⟨hw, hb⟩
   rw [hw, hb]
   exact BCase.no rfl ⟨rfl, trivial⟩
 intro k w1 hk hw1
 have hB1 := (hw1 ▸ qj w _ : Below w.heap.size w w1)
 have h1 : qk w1 k qjG (adC (List.replicate 65 0 ++ [])) := qk.new hk hw1
 have hk0 : w.heap.size <= k := by omega
 refine intJ (w := w1) (n : Int) (BCase.no rfl ⟨rfl, rfl⟩) ?_
 refine ⟨fun i w' => ∃ xs : List UInt8, i = ((65 - xs.length : Nat) : Int) /\ xs = hexL n /\ qk w' k qjG (adC (List.replicate (65 - xs.length) 0 ++ xs)) /\ Below w.heap.size w w', ?_, fun i => AllJ.of ?_ _⟩
 · refine callK (K := fun v w' => v = .bool true /\ w' = w1) ?_ ?_
   · apply qiN
     unfold qfK
     exact ⟨congrArg Value.bool (by decide +kernel), rfl⟩
   rintro _ w2 ⟨rfl, hw2⟩
   rw [hw2]
   refine ⟨_, rfl, BCase.yes rfl ?_⟩
   refine callK (qm4 w1 (he.step hB1)) ?_
   rintro _ w3 ⟨rfl, hw3⟩
   rw [hw3]
   refine ⟨_, rfl, ?_⟩
   refine ⟨fun m u i w' => ∃ (q t : Nat) (xs : List UInt8), u = (q : Int) /\ m = q /\ t = xs.length /\ i = ((65 - t : Nat) : Int) /\ hexL n = hexL q ++ xs /\ q * 16 ^ t <= 65535 /\ (t = 0 \/ 0 < q) /\ qk w' k qjG (adC (List.replicate (65 - t) 0 ++ xs)) /\ Below w.heap.size w w',
     ⟨_, n, 0, [], rfl, rfl, rfl, rfl, by rw [List.append_nil], by omega, .inl rfl, h1, hB1⟩, ?_⟩
   intro m u i
   refine AllJ.of ?_ _
   rintro w4 ⟨q, t, xs, rfl, hm, rfl, rfl, hx, hq, ht, h4, hB4⟩
   obtain rfl : q = m := hm.symm
   have ht3 : xs.length <= 3 := by
     rcases ht with h0 | h0
     · omega
     · refine Decidable.byContradiction fun hc => ?_
       have h16 : 16 ^ 4 <= 16 ^ xs.length := Nat.pow_le_pow_right (by decide) (by omega)
       have : 16 ^ xs.length <= q * 16 ^ xs.length := Nat.le_mul_of_pos_left _ h0
       have e : (16 : Nat) ^ 4 = 65536 := rfl
       omega
   have hq6 : q < 65536 := by
     have : q <= q * 16 ^ xs.length := Nat.le_mul_of_pos_right _ (Nat.pos_of_ne_zero (by simp))
     omega
   have e16 : IntKind.u64.wrap (16 : Int) = 16 := by decide
   have ei : i64.wrap (((65 - xs.length : Nat) : Int) - 1) = ((65 - (xs.length + 1) : Nat) : Int) := by rw [wrap_i64 (by omega) (by omega)]; omega
   have hset : ∀ c : UInt8, (adC (List.replicate (65 - xs.length) 0 ++ xs)).set (65 - (xs.length + 1)) (.int .u8 ((c.toNat : Nat) : Int)) = adC (List.replicate (65 - (xs.length + 1)) 0 ++ (c :: xs)) := fun c => by
     rw [qpl, show 65 - xs.length = (65 - (xs.length + 1)) + 1 by omega, List.replicate_succ' (n := 65 - (xs.length + 1)), List.append_assoc, List.set_append_right _ _ (by simp), List.length_replicate, Nat.sub_self]; rfl
   have hput := fun c : UInt8 => h4.put (P := prog) qkY (i := 65 - (xs.length + 1)) (v := .int .u8 ((c.toNat : Nat) : Int)) (by rw [qaT]; simp; omega) rfl rfl
   rw [ei, qdO, Nat.zero_add]
   have hin : (0 <= ((65 - (xs.length + 1) : Nat) : Int) /\ ((65 - (xs.length + 1) : Nat) : Int) < ((65 : Nat) : Int)) /\ true = true := ⟨⟨by omega, by omega⟩, rfl⟩
   refine BCase.of (fun h => ?_) (fun h => ?_)
   · rw [e16] at h
     simp only [ge_iff_le, dTx] at h
     have hq16 : 16 <= q := by omega
     rw [qDK hq6, shr4, show qH [48, 49, 50, 51, 52, 53, 54, 55, 56, 57, 97, 98, 99, 100, 101, 102, 103, 104, 105, 106, 107, 108, 109, 110, 111, 112, 113, 114, 115, 116, 117, 118, 119, 120, 121, 122] ((q % 16 : Nat) : Int) = _ from qwB (q % 16) (by omega)]
     obtain ⟨w5, hs5, h5, hg5⟩ := hput (hexC (q % 16))
     rw [hset] at h5
     refine ⟨⟨by omega, by simp; omega⟩, hin, w5, hs5, by decide, q / 16, by omega, q / 16, xs.length + 1, hexC (q % 16) :: xs, rfl, rfl, by simp, rfl, ?_, ?_, .inr (by omega), h5, Below.put hB4 hg5 hk0⟩
     · rw [hx, hexL_more (n := q) (by omega)]; simp
     · have e : q / 16 * 16 ^ (xs.length + 1) = (q / 16 * 16) * 16 ^ xs.length := by rw [Nat.pow_succ, Nat.mul_comm (16 ^ xs.length) 16, Nat.mul_assoc]
       rw [e]
       exact Nat.le_trans (Nat.mul_le_mul_right _ (by omega)) hq
   · rw [e16] at h
     simp only [ge_iff_le, dFx] at h
     have hq16 : q < 16 := by omega
     rw [show qH [48, 49, 50, 51, 52, 53, 54, 55, 56, 57, 97, 98, 99, 100, 101, 102, 103, 104, 105, 106, 107, 108, 109, 110, 111, 112, 113, 114, 115, 116, 117, 118, 119, 120, 121, 122] (q : Int) = _ from qwB q hq16]
     obtain ⟨w5, hs5, h5, hg5⟩ := hput (hexC q)
     rw [hset] at h5
     refine ⟨⟨by omega, by simp; omega⟩, hin, w5, hs5, hexC q :: xs, rfl, ?_, h5, Below.put hB4 hg5 hk0⟩
     rw [hx, qmg hq16]; rfl
 · rintro w5 ⟨xs, rfl, hxs, h5, hB5⟩
   have hl := qje hn
   rw [<- hxs] at hl
   refine intJ (w := w5) ((65 - xs.length : Nat) : Int) (BCase.no rfl ⟨rfl, rfl⟩) ?_
   refine BCase.no rfl ⟨⟨by omega, by omega⟩, ?_⟩
   have hpos : 0 < xs.length := by
     rw [hxs]
     by_cases c : n < 16
     · rw [qmg c]; exact Nat.one_pos
     · rw [hexL_more c]; simp
   have ea : (if 65 = (Int.toNat ((65 - xs.length : Nat) : Int)) then (⟨k, 0, none⟩ : Addr) else Addr.add ⟨k, 0, none⟩ ((Int.toNat ((65 - xs.length : Nat) : Int)) * 1)) = ⟨k, (List.replicate (65 - xs.length) (0 : UInt8)).length, none⟩ := by
     rw [List.length_replicate, Int.toNat_natCast, if_neg (by omega), qB4, Nat.zero_add, Nat.mul_one]
   have en : 65 - (Int.toNat ((65 - xs.length : Nat) : Int)) = xs.length := by rw [Int.toNat_natCast]; omega
   rw [ea, en]
   refine ⟨xs, qi9 qac un_string un_uint8 (h5.sl8 (by unfold maxLen; omega)), ?_⟩
   rw [hxs]
   exact ⟨rfl, hB5⟩
theorem qvK (n : Nat) (hn : n < 65536) (w : World) (he : Env w) : Calls prog qhM #[.int .u64 (n : Int), .int .i64 16] w (Ret fun v w' => v = .string (mkS (hexL n)) /\ Below w.heap.size w w') := by
 apply qm0
 unfold qju
 refine callK (K := fun v w' => v = .string (mkS (hexL n)) /\ Below w.heap.size w w') ?_ ?_
 · apply qi6
   unfold qgc
   refine BCase.no (by decide) ?_
   refine callK (qvJ n hn w he) ?_
   rintro _ w1 ⟨rfl, hb1⟩
   exact ⟨_, _, _, _, rfl, rfl, hb1⟩
 · rintro _ w1 ⟨rfl, hb1⟩
   exact ⟨_, rfl, rfl, hb1⟩
end Go.Proofs.YtlfolncaghkmcaaGreatDoor
namespace Go.Pk
def grpA (a : List UInt8) (k : Nat) : Nat := (a.getD (2 * k) 0).toNat * 256 + (a.getD (2 * k + 1) 0).toNat
def gL (a : List UInt8) : List Nat := [grpA a 0, grpA a 1, grpA a 2, grpA a 3, grpA a 4, grpA a 5, grpA a 6, grpA a 7]
theorem qjo (a : List UInt8) : (gL a).length = 8 := rfl
theorem qmf (a : List UInt8) (k : Nat) : grpA a k < 65536 := by
 have h1 := qgK (a.getD (2 * k) 0); have h2 := qgK (a.getD (2 * k + 1) 0)
 unfold grpA; omega
theorem qoN (a : List UInt8) : ∀ (k : Nat) (h : k < (gL a).length), (gL a)[k] = grpA a k
 | 0, _ => rfl
 | 1, _ => rfl
 | 2, _ => rfl
 | 3, _ => rfl
 | 4, _ => rfl
 | 5, _ => rfl
 | 6, _ => rfl
 | 7, _ => rfl
 | n + 8, h => by rw [qjo] at h; omega
theorem qmT (a : List UInt8) : ∀ x ∈ gL a, x < 65536 := fun x hx => by
 obtain ⟨i, hi, rfl⟩ := List.mem_iff_getElem.1 hx
 rw [qoN]; exact qmf a i
def wrL (l : List Nat) : List UInt8 := Lib.join (l.map hexL) [58]
theorem qgY {l : List Nat} (h : ∀ x ∈ l, x < 65536) : (wrL l).length <= l.length * 5 := by
 have := qs3 (l.map hexL) 58 4 (fun x hx => by
   obtain ⟨c, hc, rfl⟩ := List.mem_map.1 hx
   exact qje (h c hc))
 rwa [List.length_map] at this
def zst (s : Nat × Nat × Nat) (i : Nat) (z : Bool) : Nat × Nat × Nat :=
 if s.2.1 < (if z = true then s.2.2 + 1 else 0) then (i + 1 - (if z = true then s.2.2 + 1 else 0), (if z = true then s.2.2 + 1 else 0), (if z = true then s.2.2 + 1 else 0)) else (s.1, s.2.1, (if z = true then s.2.2 + 1 else 0))
def qkJ (zs : List Bool) : Nat -> Nat × Nat × Nat
 | 0 => (0, 0, 0)
 | k + 1 => zst (qkJ zs k) k (zs.getD k false)
def jI (zs : List Bool) : Nat × Nat := ((qkJ zs 8).1, (qkJ zs 8).2.1)
def allZ (zs : List Bool) (p l : Nat) : Bool := (List.range l).all fun j => zs.getD (p + j) false
def zok (zs : List Bool) : Bool :=
 decide ((jI zs).1 + (jI zs).2 <= 8) && (decide ((jI zs).2 < 2) || allZ zs (jI zs).1 (jI zs).2) &&
   (List.range 9).all fun L => (List.range 9).all fun A => !(decide (2 <= L) && decide (A + L <= 8) && allZ zs A L) || (decide (L < (jI zs).2) || (decide (L = (jI zs).2) && decide ((jI zs).1 <= A)))
theorem qDi : ∀ b0 b1 b2 b3 b4 b5 b6 b7 : Bool, zok [b0, b1, b2, b3, b4, b5, b6, b7] = true := by decide +kernel
theorem qlN {zs : List Bool} (h : zs.length = 8) : (jI zs).1 + (jI zs).2 <= 8 /\ (2 <= (jI zs).2 -> allZ zs (jI zs).1 (jI zs).2 = true) /\
   ∀ L A, 2 <= L -> A + L <= 8 -> allZ zs A L = true -> L < (jI zs).2 \/ (L = (jI zs).2 /\ (jI zs).1 <= A) := by
 match zs, h with
 | [b0, b1, b2, b3, b4, b5, b6, b7], _ =>
   have := qDi b0 b1 b2 b3 b4 b5 b6 b7
   unfold zok at this
   rw [Bool.and_eq_true, Bool.and_eq_true] at this
   obtain ⟨⟨h1, h2⟩, h3⟩ := this
   refine ⟨of_decide_eq_true h1, fun hl => ?_, fun L A hL hA hz => ?_⟩
   · rw [Bool.or_eq_true, dTx] at h2
     exact h2.resolve_left (by omega)
   · have := List.all_eq_true.1 (List.all_eq_true.1 h3 L (List.mem_range.2 (by omega))) A (List.mem_range.2 (by omega))
     rw [decide_eq_true hL, decide_eq_true hA, hz] at this
     simpa using this
theorem qxk (zs : List Bool) : ∀ k, (qkJ zs k).2.2 <= k /\ (qkJ zs k).2.1 <= k /\ (qkJ zs k).1 <= k
 | 0 => ⟨Nat.le_refl _, Nat.le_refl _, Nat.le_refl _⟩
 | k + 1 => by
   obtain ⟨h1, h2, h3⟩ := qxk zs k
   unfold qkJ zst
   cases zs.getD k false <;> simp only [Bool.false_eq_true, if_false, if_true] <;> split <;> simp <;> omega
def zsA (a : List UInt8) : List Bool := (gL a).map (· == 0)
theorem qt7 (a : List UInt8) : (zsA a).length = 8 := rfl
def qlF (a : List UInt8) : List UInt8 :=
 if (jI (zsA a)).2 < 2 then wrL (gL a) else wrL ((gL a).take (jI (zsA a)).1) ++ [58, 58] ++ wrL ((gL a).drop ((jI (zsA a)).1 + (jI (zsA a)).2))
theorem qDR {a d : Nat} (ha : a < 256) (hd : d < 256) : IntKind.u16.wrap (((BitVec.ofInt (IntKind.bits .u16) (IntKind.u16.wrap ((IntKind.u16.wrap (a : Int)) * 2 ^ (min (Int.toNat (8 : Int)) (IntKind.bits .u16))))) ||| (BitVec.ofInt (IntKind.bits .u16) (IntKind.u16.wrap (d : Int)))).toNat : Nat) = ((a * 256 + d : Nat) : Int) := by
 have e1 : (2 : Int) ^ (min (Int.toNat (8 : Int)) (IntKind.bits .u16)) = 256 := by decide
 have w16 : ∀ n : Nat, n < 65536 -> IntKind.u16.wrap (n : Int) = (n : Int) := fun n hn => by
   have : IntKind.u16.wrap (n : Int) = (n : Int) % 65536 := rfl
   rw [this]; omega
 have e2 : (a : Int) * 256 = ((a * 256 : Nat) : Int) := by omega
 have b16 : ∀ n : Nat, n < 65536 -> (BitVec.ofInt (IntKind.bits .u16) (n : Int)).toNat = n := fun n hn => by
   show (BitVec.ofInt 16 (n : Int)).toNat = n
   rw [BitVec.toNat_ofInt]
   have h : ((2 ^ 16 : Nat) : Int) = 65536 := by decide
   rw [h]; omega
 rw [e1, w16 a (by omega), e2, w16 (a * 256) (by omega), w16 d (by omega), BitVec.toNat_or, b16 (a * 256) (by omega), b16 d (by omega)]
 have h3 : a * 256 ||| d = a * 256 + d := by
   have := Nat.two_pow_add_eq_or_of_lt (i := 8) hd a
   rw [Nat.mul_comm a 256]; exact this.symm
 rw [h3, w16 _ (by omega)]
def i16N (l : List Nat) : List Value := i16 (l.map fun x : Nat => (x : Int))
theorem qvQ (l : List Nat) : (i16N l).length = l.length := by simp [i16N, i16]
theorem qyx (l : List Nat) : One1 (i16N l) := qAs _
theorem qBs (l : List Nat) (i x : Nat) : (i16N l).set i (.int .u16 (x : Int)) = i16N (l.set i x) := by unfold i16N i16; rw [List.map_set, List.map_set]
theorem qvP {l : List Nat} {i : Nat} (h : i < l.length) : (i16N l)[i]? = some (.int .u16 ((l[i] : Nat) : Int)) := by
 unfold i16N i16; rw [List.getElem?_map, List.getElem?_map, List.getElem?_eq_getElem h]; rfl
theorem qk.sl16 {w : World} {k : Nat} {T : TypeId} {l : List Nat} (h : qk w k T (i16N l)) {o n c : Nat} {A : Addr} (hA : 0 < n -> A = ⟨k, o, none⟩) (hn : o + n <= l.length) (hc : n <= c) (hm : c <= maxLen) : Sl tU16 w AllB (some A) n c (((l.drop o).take n).map fun x : Nat => (x : Int)) := by
 have hl : (((l.drop o).take n).map fun x : Nat => (x : Int)).length = n := by simp; omega
 refine ⟨hl.symm, hc, hm, ?_⟩
 by_cases h0 : 0 < n
 · refine .inr ⟨k, o, by rw [hA h0], h.lt, trivial, i16N ((l.drop o).take n), qfM (h1 := fun _ => rfl) (fun _ _ => trivial), fun j hj => ?_⟩
   rw [qvQ] at hj
   have hj2 : j < n := by rw [List.length_take] at hj; omega
   rw [h.cell, qvP (by omega), qvP hj]
   simp
 · exact .inl (List.length_eq_zero_iff.1 (by omega))
end Go.Pk
namespace Go.Proofs.YtlfolncaghkmcaaGreatDoor
open Go.Pk
open Go.RowKit (Below)
theorem qt8 (a : List UInt8) (ha : a.length = 16) (w : World) : Calls prog qlY #[adV a] w (Ret fun v w' => v = .agg (i16N (gL a)).toArray /\ Below w.heap.size w w') := by
 apply qtk
 unfold qoV
 intro k1 w1 hk1 hw1
 have hB1 := (hw1 ▸ qj w _ : Below w.heap.size w w1)
 have h11 : qk w1 k1 qr (adC a) := qk.new hk1 hw1
 intro k2 w2 hk2 hw2
 have hb2 := (hw2 ▸ qj w1 _ : Below w1.heap.size w1 w2)
 have hB2 := qd hB1 hb2 hB1.size
 have h22 : qk w2 k2 zl (i16N [0, 0, 0, 0, 0, 0, 0, 0]) := qk.new hk2 hw2
 intro k3 w3 hk3 hw3
 have hb3 := (hw3 ▸ qj w2 _ : Below w2.heap.size w2 w3)
 have hB3 := qd hB2 hb3 hB2.size
 have h33 : qk w3 k3 zl (i16N [0, 0, 0, 0, 0, 0, 0, 0]) := qk.new hk3 hw3
 have h23 := h22.below hb3
 have h13 := (h11.below hb2).below hb3
 have l1 := h11.lt
 have l2 := h22.lt
 have hk3w : w.heap.size <= k3 := by have := hB2.size; omega
 refine ⟨fun m i w' => ∃ k : Nat, k <= 8 /\ i = (k : Int) /\ m = 8 - k /\ qk w' k3 zl (i16N ((gL a).take k ++ List.replicate (8 - k) 0)) /\ qk w' k2 zl (i16N [0, 0, 0, 0, 0, 0, 0, 0]) /\ qk w' k1 qr (adC a) /\ Below w.heap.size w w',
   ⟨_, 0, by omega, rfl, rfl, h33, h23, h13, hB3⟩, ?_⟩
 intro m i
 refine AllJ.of ?_ _
 rintro w6 ⟨k, hk, rfl, rfl, h36, h26, h16, hB6⟩
 refine BCase.of (fun h => ?_) (fun h => ?_) <;> simp only [dTx, dFx] at h
 · have hk8 : k < 8 := by omega
   have e1 : i64.wrap (2 * (k : Int)) = ((2 * k : Nat) : Int) := by rw [wrap_i64 (by omega) (by omega)]; omega
   have e2 : i64.wrap (((2 * k : Nat) : Int) + 1) = ((2 * k + 1 : Nat) : Int) := by rw [wrap_i64 (by omega) (by omega)]; omega
   rw [e1, e2, qdO, qdO, qdO]
   simp only [Nat.zero_add]
   have hin : (0 <= (k : Int) /\ (k : Int) < ((8 : Nat) : Int)) /\ True := ⟨⟨by omega, by omega⟩, trivial⟩
   have hin1 : (0 <= ((2 * k : Nat) : Int) /\ ((2 * k : Nat) : Int) < ((16 : Nat) : Int)) /\ True := ⟨⟨by omega, by omega⟩, trivial⟩
   have hin2 : (0 <= ((2 * k + 1 : Nat) : Int) /\ ((2 * k + 1 : Nat) : Int) < ((16 : Nat) : Int)) /\ True := ⟨⟨by omega, by omega⟩, trivial⟩
   have ld : ∀ (i : Nat) (hi : i < a.length) (u : World), Below w6.heap.size w6 u -> (Instr.loadAt qU (.pointer (some ⟨k1, i, none⟩))).run prog u = .ok (.int .u8 ((a[i].toNat : Nat) : Int)) u := fun i hi u hu => (h16.below hu).load1 un_uint8 rfl (qiq hi)
   refine ⟨hin1, _, ld _ (by omega), by decide, hin2, _, ld _ (by omega), hin, ?_⟩
   intro wq hq
   have hd := qd hB6 hq hB6.size
   have d3 := h36.below hq
   have d2 := h26.below hq
   have d1 := h16.below hq
   have hval : (a[2 * k]'(by omega)).toNat * 256 + (a[2 * k + 1]'(by omega)).toNat = grpA a k := by
     unfold grpA
     rw [List.getD_eq_getElem?_getD, List.getD_eq_getElem?_getD, List.getElem?_eq_getElem (by omega), List.getElem?_eq_getElem (by omega)]; rfl
   have hor := qDR (a := (a[2 * k]'(by omega)).toNat) (d := (a[2 * k + 1]'(by omega)).toNat) (by have := qgK (a[2 * k]'(by omega)); omega) (by have := qgK (a[2 * k + 1]'(by omega)); omega)
   rw [hval] at hor
   have hgl := qjo a
   have hlen : ((gL a).take k ++ List.replicate (8 - k) 0).length = 8 := by simp [hgl]; omega
   obtain ⟨w8, hs8, h58, hg8⟩ := d3.put (P := prog) qxe (i := k) (v := .int .u16 ((grpA a k : Nat) : Int)) (by rw [qvQ, hlen]; omega) rfl rfl
   have hset : ((gL a).take k ++ List.replicate (8 - k) 0).set k (grpA a k) = (gL a).take (k + 1) ++ List.replicate (8 - (k + 1)) 0 := by
     have hl : ((gL a).take k).length = k := by rw [List.length_take, hgl]; omega
     rw [List.set_append_right _ _ (by omega), hl, Nat.sub_self, show 8 - k = (8 - (k + 1)) + 1 by omega, List.replicate_succ (n := 8 - (k + 1)), List.set_cons_zero, List.take_succ_eq_append_getElem (by omega), qoN, List.append_assoc]; rfl
   rw [qBs, hset] at h58
   rw [<- hor] at hs8
   have hfin : ∃ m' : Nat, m' < 8 - k /\ ∃ k' : Nat, k' <= 8 /\ i64.wrap ((k : Int) + 1) = (k' : Int) /\ m' = 8 - k' /\ qk w8 k3 zl (i16N ((gL a).take k' ++ List.replicate (8 - k') 0)) /\ qk w8 k2 zl (i16N [0, 0, 0, 0, 0, 0, 0, 0]) /\ qk w8 k1 qr (adC a) /\ Below w.heap.size w w8 :=
     ⟨8 - (k + 1), by omega, k + 1, by omega, by rw [wrap_i64 (by omega) (by omega)]; omega, rfl, h58, d2.grown hg8 (qP (by omega)), d1.grown hg8 (qP (by omega)), Below.put hd hg8 hk3w⟩
   exact ⟨w8, hs8, hfin⟩
 · have : k = 8 := by omega
   subst this
   have e8 : (gL a).take 8 ++ List.replicate (8 - 8) 0 = gL a := by rw [List.take_of_length_le (by rw [qjo]; exact Nat.le_refl _)]; simp
   rw [e8] at h36
   have hlen : (i16N (gL a)).length = 8 := by rw [qvQ]; rfl
   obtain ⟨w7, hs7, h27, hg7⟩ := qrt.store0 hlen (qyx _) h26 rfl
   refine ⟨_, _, _, _, _, _, _, _, qrt.load0 h36 hlen, w7, hs7, _, _, _, _, _, _, _, _, qk.res (qrt.load0 h27 hlen), rfl, Below.put hB6 hg7 (by omega)⟩
theorem qjY {w : World} {A : Bl} {a : Option Addr} {n c : Nat} {l : List Nat} (hs : Sl tU16 w AllB a n c (l.map fun x : Nat => (x : Int))) (hl : l.length <= 8) (hb : ∀ x ∈ l, x < 65536) (he : Env w) :
   Calls prog qhS #[.slice a n c] w (Ret fun v w' => v = .string (mkS (wrL l)) /\ Below w.heap.size w w') := by
 apply qr3
 unfold qn3
 have hn := hs.len
 rw [List.length_map] at hn
 refine ⟨fun m a3 l3 c3 i w' => ∃ k : Nat, k <= l.length /\ i = (k : Int) /\ m = l.length - k /\ Ow tS qh w' NoB a3 l3 c3 ((l.take k).map hexL) /\ zq w.heap.size a3 /\ Below w.heap.size w w',
   ⟨_, 0, by omega, rfl, rfl, Ow.nil _ _ _ _, zq.none _, Below.refl _ _⟩, ?_⟩
 intro m a3 l3 c3 i
 refine AllJ.of ?_ _
 rintro w2 ⟨k, hk, rfl, rfl, ho2, hf2, hB2⟩
 refine BCase.of (fun h => ?_) (fun h => ?_) <;> simp only [dTx, dFx] at h
 · have hkl : k < l.length := by omega
   have hs2 := hs.below hB2
   obtain ⟨v, hv, hrep⟩ := hs2.load1 (i := (k : Int)) qtU rfl rfl (by simp; omega)
   simp only [Int.toNat_natCast, List.getElem_map] at hv hrep
   obtain ⟨hv', -⟩ := hrep
   obtain rfl := (List.cons.inj hv').1
   have hgk := hb l[k] (List.getElem_mem hkl)
   refine ⟨⟨⟨by omega, h⟩, hs2.isSome (by simp; omega)⟩, _, hv, ?_⟩
   rw [qCg (by omega) (by omega)]
   refine callK (qvK _ hgk w2 (he.step hB2)) ?_
   rintro _ w3 ⟨rfl, hb3⟩
   have hB3 := qd hB2 hb3 hB2.size
   refine ⟨_, rfl, ?_⟩
   intro k4 w4 hk4' hw4
   have hll : ((l.take k).map hexL).length <= 8 := by simp; omega
   obtain ⟨w5, a5, n5, c5, hr, ho5, hf5, hb5⟩ := qnH (ty := qV) (w0 := w) (cm := 1) (vs := [_]) (qaS _) qc6 ze (by decide) (ho2.below hb3) hf2 hB3 hk4' hw4 (qgz trivial) (by omega)
   refine ⟨w5, a5, n5, c5, hr, l.length - (k + 1), by omega, k + 1, by omega, by rw [wrap_i64 (by omega) (by omega)]; omega, rfl, ?_, hf5, hb5⟩
   rw [List.take_succ_eq_append_getElem hkl, List.map_append]
   exact ho5
 · have : k = l.length := by omega
   subst this
   rw [List.take_length] at ho2
   have hlen := qgY hb
   refine callK (qs1 ho2.all [58] (by rw [List.length_map]; omega) (by show (wrL l).length <= _; omega)) ?_
   rintro _ w3 ⟨rfl, hb3⟩
   exact ⟨_, rfl, rfl, qd hB2 hb3 hB2.size⟩
theorem qvu (g0 g1 g2 g3 g4 g5 g6 g7 : Nat) (w : World) :
   Calls prog qnf #[.agg #[.int .u16 (g0 : Int), .int .u16 (g1 : Int), .int .u16 (g2 : Int), .int .u16 (g3 : Int), .int .u16 (g4 : Int), .int .u16 (g5 : Int), .int .u16 (g6 : Int), .int .u16 (g7 : Int)]] w
     (Ret fun v w' => v = .tuple #[.int .i64 ((jI ([g0, g1, g2, g3, g4, g5, g6, g7].map (· == 0))).1 : Int), .int .i64 ((jI ([g0, g1, g2, g3, g4, g5, g6, g7].map (· == 0))).2 : Int)] /\ Below w.heap.size w w') := by
 apply quv
 unfold qqF
 intro k1 w1 hk1 hw1
 have hB1 := (hw1 ▸ qj w _ : Below w.heap.size w w1)
 have h11 : qk w1 k1 zl (i16N [g0, g1, g2, g3, g4, g5, g6, g7]) := qk.new hk1 hw1
 obtain ⟨G, hG⟩ : ∃ G, G = [g0, g1, g2, g3, g4, g5, g6, g7] := ⟨_, rfl⟩
 have hl8 : G.length = 8 := by rw [hG]; rfl
 rw [<- hG] at h11 ⊢
 clear hG
 refine ⟨fun m p lo ru i w' => ∃ k : Nat, k <= 8 /\ i = (k : Int) /\ m = 8 - k /\ p = ((qkJ (G.map (· == 0)) k).1 : Int) /\ lo = ((qkJ (G.map (· == 0)) k).2.1 : Int) /\ ru = ((qkJ (G.map (· == 0)) k).2.2 : Int) /\ w' = w1, ⟨_, 0, by omega, rfl, rfl, rfl, rfl, rfl, rfl⟩, ?_⟩
 intro m p lo ru i
 refine AllJ.of ?_ _
 rintro w2 ⟨k, hk, rfl, rfl, rfl, rfl, rfl, hw2⟩
 rw [hw2]; clear hw2
 obtain ⟨b1, b2, b3⟩ := qxk (G.map (· == 0)) k
 refine BCase.of (fun h => ?_) (fun h => ?_) <;> simp only [dTx, dFx] at h
 · have hk8 : k < G.length := by omega
   have hzk : (G.map (· == 0)).getD k false = (G[k] == 0) := by
     rw [List.getD_eq_getElem?_getD, List.getElem?_map, List.getElem?_eq_getElem hk8]; rfl
   rw [qdO, Nat.zero_add]
   have ew : i64.wrap ((k : Int) + 1) = ((k + 1 : Nat) : Int) := by rw [wrap_i64 (by omega) (by omega)]; omega
   rw [ew]
   refine intJ (B := fun J => _ /\ ∃ n15 : Int, _ /\ BCase (n15 != 0) (J 0 w1) (J _ w1)) ((if (G[k] == 0) = true then (qkJ (G.map (· == 0)) k).2.2 + 1 else 0 : Nat) : Int) ⟨⟨⟨by omega, by omega⟩, rfl⟩, _, h11.load1 qtU rfl (qvP hk8), BCase.of (fun h2 => ⟨rfl, ?_⟩) (fun h2 => ⟨rfl, ?_⟩)⟩ ?_
   · rw [if_neg (by simp at h2 ⊢; omega)]; rfl
   · rw [if_pos (by simp at h2 ⊢; omega), wrap_i64 (by omega) (by omega)]; omega
   · have hz : qkJ (G.map (· == 0)) (k + 1) = zst (qkJ (G.map (· == 0)) k) k (G[k] == 0) := by rw [<- hzk]; rfl
     have hru : (if (G[k] == 0) = true then (qkJ (G.map (· == 0)) k).2.2 + 1 else 0) <= k + 1 := by split <;> omega
     unfold zst at hz
     generalize (if (G[k] == 0) = true then (qkJ (G.map (· == 0)) k).2.2 + 1 else 0) = ru at *
     refine BCase.of (fun h2 => ?_) (fun h2 => ?_) <;> simp only [gt_iff_lt, dTx, dFx] at h2
     · rw [if_pos (by omega)] at hz
       refine ⟨8 - (k + 1), by omega, k + 1, by omega, rfl, rfl, ?_, ?_, ?_, rfl⟩
       · rw [hz, wrap_i64 (by omega) (by omega)]; show _ = ((k + 1 - ru : Nat) : Int); omega
       · rw [hz]
       · rw [hz]
     · rw [if_neg (by omega)] at hz
       exact ⟨8 - (k + 1), by omega, k + 1, by omega, rfl, rfl, by rw [hz], by rw [hz], by rw [hz], rfl⟩
 · have : k = 8 := by omega
   subst this
   exact ⟨rfl, hB1⟩
end Go.Proofs.YtlfolncaghkmcaaGreatDoor
namespace Go.Proofs.YtlfolncaghkmcaaGreatDoor
open Go.Pk
open Go.RowKit (Below)
theorem qvs (a : List UInt8) (ha : a.length = 16) (w : World) (he : Env w) : Calls prog qnd #[adV a] w (Ret fun v w' => v = .string (mkS (qlF a)) /\ Below w.heap.size w w') := by
 apply qut
 unfold qqD
 intro k1 w1 hk1 hw1
 have hB1 := (hw1 ▸ qj w _ : Below w.heap.size w w1)
 have h11 : qk w1 k1 qr (adC a) := qk.new hk1 hw1
 refine ⟨_, z6.load0 h11 (by rw [qaT, ha]), ?_⟩
 refine callK (qt8 a ha w1) ?_
 rintro _ w2 ⟨rfl, hb2⟩
 have hB2 := qd hB1 hb2 hB1.size
 refine ⟨_, _, _, _, _, _, _, _, rfl, ?_⟩
 refine qrt.new (zs := i16N [0, 0, 0, 0, 0, 0, 0, 0]) (cs := i16N (gL a)) rfl rfl (qyx _) w2 fun k3 w3 hk3 h3 hb3 => ?_
 have hB3 := qd hB2 hb3 hB2.size
 refine ⟨_, _, _, _, _, _, _, _, qrt.load0 h3 rfl, ?_⟩
 refine callK (qvu (grpA a 0) (grpA a 1) (grpA a 2) (grpA a 3) (grpA a 4) (grpA a 5) (grpA a 6) (grpA a 7) w3) ?_
 rintro _ w4 ⟨rfl, hb4⟩
 have hB4 := qd hB3 hb4 hB3.size
 have h4 := h3.below hb4
 have hz := qlN (qt7 a)
 show ∃ n10_0 n10_1 : Int, (Ending.returned (.tuple #[.int .i64 ((jI (zsA a)).1 : Int), .int .i64 ((jI (zsA a)).2 : Int)]) : Ending) = .returned (.tuple #[.int .i64 n10_0, .int .i64 n10_1]) /\ _
 have ht : qlF a = if (jI (zsA a)).2 < 2 then wrL (gL a) else wrL ((gL a).take (jI (zsA a)).1) ++ [58, 58] ++ wrL ((gL a).drop ((jI (zsA a)).1 + (jI (zsA a)).2)) := rfl
 rw [ht]; clear ht
 generalize jI (zsA a) = Z at *
 obtain ⟨p, lo⟩ := Z
 have hsum : p + lo <= 8 := hz.1
 refine ⟨(p : Int), (lo : Int), rfl, ?_⟩
 show BCase _ _ _
 have hgl := qjo a
 refine BCase.of (fun h => ?_) (fun h => ?_) <;> simp only [dTx, dFx] at h
 · rw [if_pos (show lo < 2 by omega)]
   have hs := h4.sl16 (o := 0) (n := 8) (c := 8) (A := ⟨k3, 0, none⟩) (fun _ => rfl) (by rw [hgl]; omega) (Nat.le_refl _) (by unfold maxLen; omega)
   have e8 : ((gL a).drop 0).take 8 = gL a := by rw [List.drop_zero, List.take_of_length_le (by omega)]
   rw [e8] at hs
   refine ⟨trivial, ?_⟩
   refine callK (qjY (A := AllB) hs (by omega) (qmT a) (he.step hB4)) ?_
   rintro _ w5 ⟨rfl, hb5⟩
   exact ⟨_, rfl, rfl, qd hB4 hb5 hB4.size⟩
 · rw [if_neg (show ¬ lo < 2 by omega)]
   have e1 : i64.wrap ((p : Int) + (lo : Int)) = ((p + lo : Nat) : Int) := by rw [wrap_i64 (by omega) (by omega)]; omega
   rw [e1]
   simp only [Int.toNat_natCast]
   have hb1 : ∀ x ∈ (gL a).take p, x < 65536 := fun x hx => qmT a x (List.mem_of_mem_take hx)
   have hb2' : ∀ x ∈ (gL a).drop (p + lo), x < 65536 := fun x hx => qmT a x (List.mem_of_mem_drop hx)
   have l1 := qgY hb1
   have l2 := qgY hb2'
   rw [List.length_take] at l1
   rw [List.length_drop] at l2
   refine ⟨⟨by omega, by omega⟩, wrL ((gL a).take p), fun u hu => ?_, fits (by simp; omega), ?_⟩
   · have hs := (h4.below hu).sl16 (o := 0) (n := p) (c := 8) (A := ⟨k3, 0, none⟩) (fun _ => rfl) (by rw [hgl]; omega) (by omega) (by unfold maxLen; omega)
     rw [List.drop_zero] at hs
     exact qaF (qjY (A := AllB) hs (by rw [List.length_take]; omega) hb1 ((he.step hB4).step hu)) hu
   rintro _ rfl
   refine ⟨⟨by omega, by omega⟩, wrL ((gL a).drop (p + lo)), fun u hu => ?_, fits (by simp; omega), ?_⟩
   · have hs := (h4.below hu).sl16 (o := p + lo) (n := 8 - (p + lo)) (c := 8 - (p + lo)) (A := if 8 = p + lo then ⟨k3, 0, none⟩ else Addr.add ⟨k3, 0, none⟩ ((p + lo) * 1)) (fun hpos => by rw [if_neg (by omega), qB4, Nat.zero_add, Nat.mul_one]) (by rw [hgl]; omega) (Nat.le_refl _) (by unfold maxLen; omega)
     rw [List.take_of_length_le (by rw [List.length_drop]; omega)] at hs
     exact qaF (qjY (A := AllB) hs (by rw [List.length_drop]; omega) hb2' ((he.step hB4).step hu)) hu
   rintro _ rfl
   intro wq hwq
   exact ⟨by simp only [List.append_assoc], qd hB4 hwq hB4.size⟩
end Go.Proofs.YtlfolncaghkmcaaGreatDoor
namespace Go.Pk
def eqV (P : Program) : Nat -> TypeId -> Value -> Value -> Option Bool
 | 0, _, _, _ => none
 | d + 1, t, x, y => match P.underlying t, x, y with
   | some .bool, .bool a, .bool b => some (a == b)
   | some (.int _), .int k a, .int k' b => if k = k' then some (a == b) else none
   | some .string, .string a, .string b => some (toL a == toL b)
   | some (.struct fs), .agg xs, .agg ys => if P.stoodInHeld t then none else
       fs.toList.foldr (fun f r => if f.name = "_" then r else match qwT P f.type xs f.offset, qwT P f.type ys f.offset with
         | some a, some b => match eqV P d f.type a b, r with
           | some p, some q => some (p && q)
           | _, _ => none
         | _, _ => none) (some true)
   | some (.array n e), .agg xs, .agg ys => match P.info? e with
     | some i => (List.range n).foldr (fun j r => match qwT P e xs (j * i.size), qwT P e ys (j * i.size) with
         | some a, some b => match eqV P d e a b, r with
           | some p, some q => some (p && q)
           | _, _ => none
         | _, _ => none) (some true)
     | none => none
   | _, _, _ => none
theorem qz8 {P : Program} : ∀ (d : Nat) (t : TypeId) (x y : Value) (b : Bool) (w : World), eqV P d t x y = some b -> (Op.equalIn d t x y).run P w = .ok b w := by
 intro d
 induction d with
 | zero => intro t x y b w h; cases h
 | succ d ih =>
   intro t x y b w h
   unfold eqV at h
   split at h
   · rename_i hu; cases h
     exact run_equalIn_bool' w d t _ _ hu
   · rename_i k0 k a k' c hu
     split at h
     · rename_i e; subst e; cases h
       exact run_equalIn_int w d t _ _ _ _ hu
     · cases h
   · rename_i a c hu; cases h
     rw [run_equalIn_string w d t _ _ hu]
     rw [ByteArray.toList_eq, ByteArray.toList_eq]; rfl
   · rename_i fs xs ys hu
     split at h
     · cases h
     · rename_i hp
       have hf : P.fieldsOf t = fs := by unfold Program.fieldsOf; rw [hu]
       rw [run_equalIn_struct w d t xs ys (by rw [hf]; exact hu) (by simpa using hp), hf]
       revert h
       generalize fs.toList = l
       induction l generalizing b with
       | nil => intro h; cases h; rfl
       | cons f l ihl =>
         intro h
         rw [List.foldr_cons] at h
         unfold Op.eqFields
         by_cases hn : f.name = "_"
         · rw [if_pos hn] at h
           rw [if_neg (by simpa using hn)]
           exact ihl b h
         · rw [if_neg hn] at h
           rw [if_pos hn]
           split at h
           · rename_i a c ha hc
             split at h
             · rename_i p q hpq hq
               cases h
               have h1 := ih f.type a c p w hpq
               have h2 := ihl q hq
               simp only [Sem.run_bind, qql ha, qql hc, Result.andThen_ok, h1]
               cases p
               · simp
               · simpa using h2
             · cases h
           · cases h
   · rename_i n e xs ys hu
     split at h
     · rename_i i hi
       simp only [Op.equalIn, Sem.run_bind, jE hu, Result.andThen_ok, qfO hi]
       rw [Std.Legacy.Range.forIn_eq_forIn_range']
       have er : List.range' 0 ([0:n] : Std.Legacy.Range).size 1 = List.range n := by
         rw [List.range_eq_range']; simp [Std.Legacy.Range.size]
       rw [er]
       clear er
       revert h
       generalize List.range n = l
       induction l generalizing b with
       | nil => intro h; cases h; simp
       | cons j l ihl =>
         intro h
         rw [List.foldr_cons] at h
         split at h
         · rename_i a c ha hc
           split at h
           · rename_i p q hpq hq
             cases h
             have h1 := ih e a c p w hpq
             have h2 := ihl q hq
             simp only [List.forIn_cons, Sem.run_bind, qql ha, qql hc, Result.andThen_ok, h1]
             cases p
             · simp
             · simpa using h2
           · cases h
         · cases h
     · cases h
   · cases h
theorem qyM {P : Program} {t : TypeId} {x y : Operand} {xs ys : Array Value} {b : Bool} (hm : P.eqGuardType P.depth t = false) (h : eqV P 10000 t (.agg xs) (.agg ys) = some b) (w : World) :
   ((do eqGuard .eql t x y (.agg xs) (.agg ys); binOp .eql t (.agg xs) (.agg ys) : Sem Value)).run P w = .ok (.bool b) w := by
 rw [Sem.run_bind, run_eqGuard_agg w .eql t x y xs ys hm, Result.andThen_ok, run_eql_struct, qz8 _ _ _ _ _ w h, Result.andThen_ok]
theorem qtx {P : Program} {t : TypeId} {x y : Operand} {xs ys : Array Value} {b : Bool} (hm : P.eqGuardType P.depth t = false) (h : eqV P 10000 t (.agg xs) (.agg ys) = some b) (w : World) :
   ((do eqGuard .neq t x y (.agg xs) (.agg ys); binOp .neq t (.agg xs) (.agg ys) : Sem Value)).run P w = .ok (.bool (!b)) w := by
 rw [Sem.run_bind, run_eqGuard_agg w .neq t x y xs ys hm, Result.andThen_ok, run_neq_struct, qz8 _ _ _ _ _ w h, Result.andThen_ok]
end Go.Pk
namespace Go.Pk
structure Hst where
 kind : Int
 name : List UInt8
 ad : List UInt8
def Hst.cells (h : Hst) : List Value := .int .i64 h.kind :: .string (mkS h.name) :: adC h.ad
def Hst.v (h : Hst) : Value := .agg h.cells.toArray
def hst0 : Hst := ⟨0, [], ad0⟩
def Hst.ok (h : Hst) : Prop := h.ad.length = 16
theorem Hst.len {h : Hst} (o : h.ok) : h.cells.length = 18 := by unfold Hst.cells; rw [List.length_cons, List.length_cons, qaT, o]
theorem Hst.one (h : Hst) : One1 h.cells := qx rfl (qx rfl (qfP _))
def adEq : List UInt8 -> List UInt8 -> Bool
 | x :: xs, y :: ys => ((((x.toNat : Nat) : Int)) == ((y.toNat : Nat) : Int)) && adEq xs ys
 | _, _ => true
theorem qyf : ∀ (xs ys : List UInt8), xs.length = ys.length -> (adEq xs ys = true ↔ xs = ys)
 | [], [], _ => by simp [adEq]
 | x :: xs, [], h => by simp at h
 | [], y :: ys, h => by simp at h
 | x :: xs, y :: ys, h => by
   unfold adEq
   rw [Bool.and_eq_true, qyf xs ys (by simpa using h), beq_iff_eq]
   have e : ((x.toNat : Nat) : Int) = ((y.toNat : Nat) : Int) ↔ x = y := ⟨fun h => UInt8.toNat_inj.1 (by omega), fun h => by rw [h]⟩
   rw [e]
   simp
theorem qfY {α : Type} : ∀ (a : List α), a.length = 16 -> ∃ x0 x1 x2 x3 x4 x5 x6 x7 x8 x9 x10 x11 x12 x13 x14 x15, a = [x0, x1, x2, x3, x4, x5, x6, x7, x8, x9, x10, x11, x12, x13, x14, x15]
 | [x0, x1, x2, x3, x4, x5, x6, x7, x8, x9, x10, x11, x12, x13, x14, x15], _ => ⟨x0, x1, x2, x3, x4, x5, x6, x7, x8, x9, x10, x11, x12, x13, x14, x15, rfl⟩
def qbA (h g : Hst) : Bool := (h.kind == g.kind) && ((h.name == g.name) && (adEq h.ad g.ad && true))
theorem qaD {h g : Hst} (o : h.ok) (p : g.ok) : qbA h g = true ↔ h = g := by
 unfold qbA
 rw [Bool.and_eq_true, Bool.and_eq_true, Bool.and_true, qyf _ _ (o.trans p.symm), beq_iff_eq, beq_iff_eq]
 cases h; cases g; simp
def qlt (c : UInt8) : Bool := (decide (97 <= c.toNat) && decide (c.toNat <= 122)) || (decide (48 <= c.toNat) && decide (c.toNat <= 57)) || c == 45 || c == 95
def labelB (s : List UInt8) : Bool := decide (1 <= s.length) && decide (s.length <= 63) && s.all qlt
def qui (L : List (List UInt8)) : List UInt8 := L[L.length - 1]?.getD []
def jl (s : List UInt8) : Option Hst :=
 if s.head? = some 91 then (if s.getLast? = some 93 then (v6A ((s.drop 1).take (s.length - 2))).map fun a => ⟨3, [], a⟩ else none)
 else if jS (qui (cutC 46 [] (lowL s))) = true then (v4V s).map fun a => ⟨2, [], a⟩
 else if s.length <= 253 /\ (cutC 46 [] (lowL s)).all labelB = true then some ⟨1, lowL s, ad0⟩ else none
def qAq : Option Hst -> Value
 | some h => .tuple #[h.v, .int .i64 0]
 | none => .tuple #[hst0.v, .int .i64 31]
theorem qdN {s : List UInt8} {h : Hst} (e : jl s = some h) : h.ok := by
 unfold jl at e
 split at e
 · split at e
   · cases hv : v6A ((s.drop 1).take (s.length - 2)) with
     | none => rw [hv] at e; cases e
     | some a => rw [hv] at e; cases e; exact qA8 _ a hv
   · cases e
 split at e
 · cases hv : v4V s with
   | none => rw [hv] at e; cases e
   | some a => rw [hv] at e; cases e; exact qDd _ a hv
 split at e
 · cases e; rfl
 · cases e
theorem qae (c : UInt8) : ∀ (s cur : List UInt8), Lib.join (cutC c cur s) [c] = cur ++ s
 | [], cur => by simp [cutC, Lib.join_one]
 | x :: r, cur => by
   show Lib.join (if x = c then cur :: cutC c [] r else cutC c (cur ++ [x]) r) [c] = _
   split
   · rename_i h
     subst h
     have ih := qae x r []
     have hne := qcw x r []
     cases hL : cutC x [] r with
     | nil => exact absurd hL hne
     | cons y l =>
       rw [hL, Lib.join_cons, List.nil_append] at ih
       rw [Lib.join_cons]
       have e : Lib.joinTail [x] (y :: l) = [x] ++ y ++ Lib.joinTail [x] l := by simp [Lib.joinTail]
       rw [e, List.append_assoc [x] y, ih]; rfl
   · rw [qae c r (cur ++ [x])]; simp
theorem qyO (s : List UInt8) (c : UInt8) : Lib.hasSuffix s [c] = decide (s.getLast? = some c) /\ Lib.trimSuffix s [c] = if s.getLast? = some c then s.take (s.length - 1) else s := by
 have h1 : Lib.hasSuffix s [c] = decide (s.getLast? = some c) := by
   unfold Lib.hasSuffix
   rw [Bool.eq_iff_iff, dTx, List.isSuffixOf_iff_suffix]
   constructor
   · rintro ⟨t, rfl⟩; simp
   · intro h
     obtain ⟨t, rfl⟩ := List.getLast?_eq_some_iff.1 h
     exact ⟨t, rfl⟩
 refine ⟨h1, ?_⟩
 unfold Lib.trimSuffix
 rw [h1]
 by_cases h : s.getLast? = some c
 · rw [if_pos (decide_eq_true h), if_pos h]; rfl
 · rw [if_neg (by rw [decide_eq_false h]; decide), if_neg h]
theorem qAy {s : List UInt8} (h : s.head? = some 91) : ((s.drop 1).getLast? = some 93 ↔ s.getLast? = some 93) := by
 cases s with
 | nil => cases h
 | cons x r =>
   obtain rfl : x = 91 := Option.some.inj h
   cases r with
   | nil => simp
   | cons y r => simp [List.getLast?_cons_cons]
theorem qqb {L : List (List UInt8)} (h : 0 < L.length) : qui L = L[L.length - 1]'(by omega) := by unfold qui; rw [List.getElem?_eq_getElem (by omega)]; rfl
end Go.Pk
namespace Go.Proofs.YtlfolncaghkmcaaGreatDoor
open Go.Pk
open Go.RowKit (Below)
theorem qv : Whl prog qf 18 := ⟨⟨_, _, qx7⟩, by kernel_rfl⟩
theorem qz7 {h g : Hst} (o : h.ok) (p : g.ok) : eqV prog 10000 qf h.v g.v = some (qbA h g) := by
 obtain ⟨k, n, a⟩ := h
 obtain ⟨k', n', a'⟩ := g
 obtain ⟨x0, x1, x2, x3, x4, x5, x6, x7, x8, x9, x10, x11, x12, x13, x14, x15, rfl⟩ := qfY a o
 obtain ⟨y0, y1, y2, y3, y4, y5, y6, y7, y8, y9, y10, y11, y12, y13, y14, y15, rfl⟩ := qfY a' p
 kernel_rfl
theorem qwH : prog.eqGuardType prog.depth qf = false := by kernel_rfl
theorem qg3 {h g : Hst} (o : h.ok) (p : g.ok) {x y : Operand} (w : World) : ((do eqGuard .eql qf x y h.v g.v; binOp .eql qf h.v g.v : Sem Value)).run prog w = .ok (.bool (qbA h g)) w :=
 qyM qwH (qz7 o p) w
theorem qqa {h g : Hst} (o : h.ok) (p : g.ok) {x y : Operand} (w : World) : ((do eqGuard .neq qf x y h.v g.v; binOp .neq qf h.v g.v : Sem Value)).run prog w = .ok (.bool (!qbA h g)) w :=
 qtx qwH (qz7 o p) w
theorem qqY (k : Int) {a : List UInt8} (o : a.length = 16) (w : World) : (Instr.build qf #[(0, .int .i64 k), (2, adV a)]).run prog w = .ok (Hst.v ⟨k, [], a⟩) w := by
 obtain ⟨x0, x1, x2, x3, x4, x5, x6, x7, x8, x9, x10, x11, x12, x13, x14, x15, rfl⟩ := qfY a o
 kernel_rfl
theorem qud (c : UInt8) (w : World) : Calls prog ql2 #[.int .u8 ((c.toNat : Nat) : Int)] w (Ret fun v w' => v = .bool (qlt c) /\ w' = w) := by
 apply qtr
 unfold qo2
 have e45 := qaf c 45
 have e95 := qaf c 95
 rw [show (((45 : UInt8).toNat : Nat) : Int) = 45 from rfl] at e45
 rw [show (((95 : UInt8).toNat : Nat) : Int) = 95 from rfl] at e95
 rw [e45, e95]
 unfold qlt
 have lf : ∀ {b : Bool} {x : Bool}, b = x -> (.bool b : Value) = .bool x /\ w = w := fun h => ⟨by rw [h], rfl⟩
 refine BCase.of (fun h => ?_) (fun h => ?_) <;> simp only [ge_iff_le, dTx, dFx] at h
 · refine BCase.of (fun h2 => lf ?_) (fun h2 => ?_) <;> simp only [ge_iff_le, dTx, dFx] at h2
   · rw [decide_eq_true (p := 97 <= c.toNat) (by omega), decide_eq_true (p := c.toNat <= 122) (by omega)]; rfl
   · rw [decide_eq_false (p := c.toNat <= 122) (by omega), Bool.and_false, Bool.false_or]
     refine BCase.yes (by simp; omega) (BCase.no (by simp; omega) ?_)
     rw [decide_eq_false (p := c.toNat <= 57) (by omega), Bool.and_false, Bool.false_or]
     exact BCase.of (fun h3 => lf (by rw [h3]; rfl)) (fun h3 => lf (by rw [h3, Bool.false_or]))
 · rw [decide_eq_false (p := 97 <= c.toNat) (by omega), Bool.false_and, Bool.false_or]
   refine BCase.of (fun h2 => ?_) (fun h2 => ?_) <;> simp only [ge_iff_le, dTx, dFx] at h2
   · rw [decide_eq_true (p := 48 <= c.toNat) (by omega), Bool.true_and]
     refine BCase.of (fun h3 => lf ?_) (fun h3 => ?_) <;> simp only [ge_iff_le, dTx, dFx] at h3
     · rw [decide_eq_true (p := c.toNat <= 57) (by omega)]; rfl
     · rw [decide_eq_false (p := c.toNat <= 57) (by omega), Bool.false_or]
       exact BCase.of (fun h4 => lf (by rw [h4]; rfl)) (fun h4 => lf (by rw [h4, Bool.false_or]))
   · rw [decide_eq_false (p := 48 <= c.toNat) (by omega), Bool.false_and, Bool.false_or]
     exact BCase.of (fun h4 => lf (by rw [h4]; rfl)) (fun h4 => lf (by rw [h4, Bool.false_or]))
theorem qvO (s : List UInt8) (hs : s.length <= 9223372036854775800) (w : World) : Calls prog qnl #[.string (mkS s)] w (Ret fun v w' => v = .bool (labelB s) /\ Below w.heap.size w w') := by
 apply quF
 unfold qqP
 refine BCase.of (fun h => ?_) (fun h => ⟨?_, Below.refl _ _⟩)
 · have hne : s ≠ [] := by simpa using h
   have h1 : 1 <= s.length := List.length_pos_iff.2 hne
   refine BCase.of (fun h2 => ?_) (fun h2 => ⟨?_, Below.refl _ _⟩) <;> simp only [dTx, dFx] at h2
   · obtain ⟨w2, a, n, c, hr, ho, hb2, hf⟩ := qol (P := prog) un_string qac un_uint8 w s (by omega) NoB
     have hnn := ho.len
     subst hnn
     refine ⟨w2, a, _, c, hr, ?_⟩
     have hl : labelB s = s.all qlt := by unfold labelB; rw [decide_eq_true h1, decide_eq_true (by omega), Bool.true_and, Bool.true_and]
     refine callK (K := fun v w' => v = .bool (!(s.all qlt)) /\ w' = w2) ?_ ?_
     · apply qfI
       unfold qca
       refine callK (K := fun v w' => ∃ i : Int, v = .int .i64 i /\ (decide (i >= 0)) = (!(s.all qlt)) /\ w' = w2) ?_ ?_
       · apply qf6
         unfold qc2
         refine ⟨fun m i w' => ∃ k : Nat, k <= s.length /\ i = (k : Int) /\ m = s.length - k /\ (s.take k).all qlt = true /\ w' = w2, ⟨_, 0, by omega, rfl, rfl, rfl, rfl⟩, ?_⟩
         intro m i
         refine AllJ.of ?_ _
         rintro w' ⟨k, hk, rfl, rfl, hno, hw'⟩
         rw [hw']; clear hw'
         refine BCase.of (fun h => ?_) (fun h => ?_) <;> simp only [dTx, dFx] at h
         · have hlt : k < s.length := by omega
           obtain ⟨v, hv, hrep⟩ := ho.all.load1 (i := (k : Int)) un_uint8 rfl rfl (by simpa using hlt)
           have := qvh hrep
           subst this
           simp only [Int.toNat_natCast] at hv
           refine ⟨⟨⟨by omega, h⟩, ho.all.isSome hlt⟩, _, hv, ?_⟩
           refine callK (K := fun v w' => v = .bool (!qlt s[k]) /\ w' = w2) ?_ ?_
           · apply qrh
             unfold qmM
             refine callK (qud _ w2) ?_
             rintro _ w3 ⟨rfl, hw3⟩
             exact ⟨_, rfl, rfl, hw3⟩
           rintro _ w3 ⟨rfl, hw3⟩
           rw [hw3]
           refine ⟨_, rfl, BCase.of (fun h3 => ?_) (fun h3 => ?_)⟩
           · refine ⟨_, rfl, ?_, rfl⟩
             have : s.all qlt = false := by
               rw [Bool.eq_false_iff]
               intro hc
               rw [List.all_eq_true.1 hc _ (List.getElem_mem hlt)] at h3; cases h3
             rw [this, decide_eq_true (by omega)]; rfl
           · refine ⟨s.length - (k + 1), by omega, k + 1, by omega, by rw [wrap_i64 (by omega) (by omega)]; omega, rfl, ?_, rfl⟩
             rw [List.take_succ_eq_append_getElem hlt, List.all_append, hno]
             simpa using h3
         · have : k = s.length := by omega
           subst this
           rw [List.take_length] at hno
           exact ⟨_, rfl, by rw [hno]; decide, rfl⟩
       · rintro _ w3 ⟨i, rfl, hi, hw3⟩
         exact ⟨_, rfl, by rw [hi], hw3⟩
     · rintro _ w3 ⟨rfl, hw3⟩
       rw [hw3]
       exact ⟨_, rfl, by rw [hl, Bool.not_not], hb2⟩
   · unfold labelB; rw [decide_eq_false (p := s.length <= 63) (by omega), Bool.and_false, Bool.false_and]
 · have hne : s = [] := by simpa using h
   subst hne; rfl
theorem qun (s : List UInt8) (hs : s.length <= 9223372036854775800) (w : World) : Calls prog ql7 #[.string (mkS s)] w (Ret fun v w' => v = .bool (labelB s) /\ w' = w) := by
 apply qtF
 unfold qpf
 refine ⟨fun m i w' => ∃ k : Nat, k <= s.length /\ i = (k : Int) /\ m = s.length - k /\ (s.take k).all qlt = true /\ w' = w, ⟨_, 0, by omega, rfl, rfl, rfl, rfl⟩, ?_⟩
 intro m i
 refine AllJ.of ?_ _
 rintro w' ⟨k, hk, rfl, rfl, hno, hw'⟩
 rw [hw']; clear hw'
 refine BCase.of (fun h => ?_) (fun h => ?_) <;> simp only [dTx, dFx] at h
 · have hlt : k < s.length := by omega
   rw [zG hlt]
   have e45 := qaf s[k] 45
   have e95 := qaf s[k] 95
   rw [show (((45 : UInt8).toNat : Nat) : Int) = 45 from rfl] at e45
   rw [show (((95 : UInt8).toNat : Nat) : Int) = 95 from rfl] at e95
   simp only [bne, e45, e95]
   have good : qlt s[k] = true -> ∃ m' : Nat, m' < s.length - k /\ ∃ k2 : Nat, k2 <= s.length /\ i64.wrap ((k : Int) + 1) = (k2 : Int) /\ m' = s.length - k2 /\ (s.take k2).all qlt = true /\ True := fun hc =>
     ⟨s.length - (k + 1), by omega, k + 1, by omega, by rw [wrap_i64 (by omega) (by omega)]; omega, rfl, by rw [List.take_succ_eq_append_getElem hlt, List.all_append, hno]; simp [hc], trivial⟩
   have bad : qlt s[k] = false -> (.bool false : Value) = .bool (labelB s) /\ True := fun hc => ⟨by
     have : s.all qlt = false := by
       rw [Bool.eq_false_iff]
       intro hx
       rw [List.all_eq_true.1 hx _ (List.getElem_mem hlt)] at hc; cases hc
     unfold labelB; rw [this, Bool.and_false], trivial⟩
   refine ⟨⟨by omega, h⟩, ?_⟩
   generalize s[k] = c at *
   have tail : ¬ (97 <= c.toNat /\ c.toNat <= 122) -> ¬ (48 <= c.toNat /\ c.toNat <= 57) -> BCase (!(c == 45)) (BCase (!(c == 95)) ((.bool false : Value) = .bool (labelB s) /\ True) (∃ m' : Nat, m' < s.length - k /\ ∃ k2 : Nat, k2 <= s.length /\ i64.wrap ((k : Int) + 1) = (k2 : Int) /\ m' = s.length - k2 /\ (s.take k2).all qlt = true /\ True)) (∃ m' : Nat, m' < s.length - k /\ ∃ k2 : Nat, k2 <= s.length /\ i64.wrap ((k : Int) + 1) = (k2 : Int) /\ m' = s.length - k2 /\ (s.take k2).all qlt = true /\ True) := fun n1 n2 => by
     have d1 : (decide (97 <= c.toNat) && decide (c.toNat <= 122)) = false := by rw [Bool.eq_false_iff]; intro hc; simp at hc; exact n1 hc
     have d2 : (decide (48 <= c.toNat) && decide (c.toNat <= 57)) = false := by rw [Bool.eq_false_iff]; intro hc; simp at hc; exact n2 hc
     have hc : qlt c = (c == 45 || c == 95) := by unfold qlt; rw [d1, d2]; simp
     rw [hc] at good bad
     refine BCase.of (fun h4 => BCase.of (fun h5 => bad ?_) (fun h5 => good ?_)) (fun h4 => good ?_)
     · rw [Bool.not_eq_true'] at h4 h5; rw [h4, h5]; rfl
     · rw [Bool.not_eq_false'] at h5; rw [h5]; simp
     · rw [Bool.not_eq_false'] at h4; rw [h4]; simp
   refine BCase.of (fun h2 => ?_) (fun h2 => ?_) <;> simp only [dTx, dFx] at h2
   · refine BCase.of (fun h3 => tail (by omega) ?_) (fun h3 => ?_) <;> simp only [gt_iff_lt, dTx, dFx] at h3
     · omega
     · refine BCase.of (fun h4 => tail (by omega) ?_) (fun h4 => good ?_) <;> simp only [gt_iff_lt, dTx, dFx] at h4
       · omega
       · unfold qlt; rw [decide_eq_true (p := 48 <= c.toNat) (by omega), decide_eq_true (p := c.toNat <= 57) (by omega)]; simp
   · refine BCase.of (fun h3 => ?_) (fun h3 => good ?_) <;> simp only [gt_iff_lt, dTx, dFx] at h3
     · refine BCase.no (by simp; omega) (BCase.yes (by simp; omega) (tail (by omega) (by omega)))
     · unfold qlt; rw [decide_eq_true (p := 97 <= c.toNat) (by omega), decide_eq_true (p := c.toNat <= 122) (by omega)]; simp
 · have : k = s.length := by omega
   subst this
   rw [List.take_length] at hno
   unfold labelB
   rw [hno, Bool.and_true]
   refine BCase.of (fun h2 => ⟨?_, rfl⟩) (fun h2 => ⟨?_, rfl⟩) <;> simp only [ge_iff_le, dTx, dFx] at h2
   · rw [decide_eq_true (p := 1 <= s.length) (by omega), Bool.true_and]; congr 1; rw [Bool.eq_iff_iff]; simp; omega
   · rw [decide_eq_false (p := 1 <= s.length) (by omega), Bool.false_and]
end Go.Proofs.YtlfolncaghkmcaaGreatDoor
namespace Go.Pk
theorem qdq (o : Option Hst) : qAq o = .tuple #[(o.getD hst0).v, .int .i64 (if o.isSome then 0 else 31)] := by cases o <;> rfl
theorem qgX {o : Option Hst} (h : ∀ x, o = some x -> x.ok) : (o.getD hst0).ok := by
 cases o with
 | none => rfl
 | some x => exact h x rfl
end Go.Pk
namespace Go.Proofs.YtlfolncaghkmcaaGreatDoor
open Go.Pk
open Go.RowKit (Below)
theorem qke (k : Int) (a : List UInt8) (o : a.length = 16) (b : Bool) (w : World) : Calls prog qhU #[.int .i64 k, adV a, .bool b] w (Ret fun v w' => v = qAq (if b = true then some ⟨k, [], a⟩ else none) /\ Below w.heap.size w w') := by
 apply qsa
 unfold qoa
 intro k4 w4 hk4 hw4
 have hB4 := (hw4 ▸ qj w _ : Below w.heap.size w w4)
 have h4 : qk w4 k4 qr (adC a) := qk.new hk4 hw4
 intro k6 w6 hk6 hw6
 have hb6 := (hw6 ▸ qj w4 _ : Below w4.heap.size w4 w6)
 have hB6 := qd hB4 hb6 hB4.size
 have h6 : qk w6 k6 qf hst0.cells := qk.new hk6 hw6
 have hk : w.heap.size <= k6 := by have := hB4.size; omega
 refine BCase.of (fun h => ?_) (fun h => ?_)
 · have hb : b = false := by simpa using h
   rw [hb]
   exact qv.fin (K := fun vr wy => (.tuple #[vr, .int .i64 (31 : Int)] : Value) = qAq (if false = true then some ⟨k, [], a⟩ else none) /\ Below w.heap.size w wy) (cs := hst0.cells) rfl (Hst.one _) h6 rfl hB6 hk fun wy hb => ⟨rfl, hb⟩
 · have hb : b = true := by simpa using h
   rw [hb]
   refine ⟨_, z6.load0 (h4.below hb6) (by rw [qaT, o]), _, qqY k o w6, ?_⟩
   exact qv.fin (K := fun vr wy => (.tuple #[vr, .int .i64 (0 : Int)] : Value) = qAq (if true = true then some ⟨k, [], a⟩ else none) /\ Below w.heap.size w wy) (cs := Hst.cells ⟨k, [], a⟩) (Hst.len o) (Hst.one _) h6 rfl hB6 hk fun wy hb => ⟨rfl, hb⟩
theorem qAw {w : World} {A : Bl} {a : Option Addr} {n c : Nat} {L : List (List UInt8)} (hs : Sl tS w AllB a n c L) (hl : ∀ x ∈ L, x.length <= 9223372036854775800) (hL : L.length <= 9223372036854775800) :
   Calls prog qcg #[.slice a n c, .func (.func qcx) #[] #[]] w (Ret fun v w' => v = .bool (!(L.all labelB)) /\ Below w.heap.size w w') := by
 have hn := hs.len
 apply qeM
 unfold qbt
 refine callK (K := fun v w' => ∃ i : Int, v = .int .i64 i /\ (decide (i >= 0)) = (!(L.all labelB)) /\ Below w.heap.size w w') ?_ ?_
 · apply qe7
   unfold qb8
   refine ⟨fun m i w' => ∃ k : Nat, k <= L.length /\ i = (k : Int) /\ m = L.length - k /\ (L.take k).all labelB = true /\ Below w.heap.size w w', ⟨_, 0, by omega, rfl, rfl, rfl, Below.refl _ _⟩, ?_⟩
   intro m i
   refine AllJ.of ?_ _
   rintro w2 ⟨k, hk, rfl, rfl, hno, hB2⟩
   refine BCase.of (fun h => ?_) (fun h => ?_) <;> simp only [dTx, dFx] at h
   · have hlt : k < L.length := by omega
     have hs2 := hs.below hB2
     refine ⟨⟨⟨by omega, h⟩, hs2.isSome (by omega)⟩, _, hs2.text un_string hlt, ?_⟩
     refine callK (K := fun v w' => v = .bool (!labelB L[k]) /\ Below w2.heap.size w2 w') ?_ ?_
     · apply qrg
       unfold qmL
       refine callK (qvO _ (hl _ (List.getElem_mem hlt)) w2) ?_
       rintro _ w3 ⟨rfl, hb3⟩
       exact ⟨_, rfl, rfl, hb3⟩
     rintro _ w3 ⟨rfl, hb3⟩
     have hB3 := qd hB2 hb3 hB2.size
     refine ⟨_, rfl, BCase.of (fun h3 => ?_) (fun h3 => ?_)⟩
     · refine ⟨_, rfl, ?_, hB3⟩
       have : L.all labelB = false := by
         rw [Bool.eq_false_iff]
         intro hc
         rw [List.all_eq_true.1 hc _ (List.getElem_mem hlt)] at h3; cases h3
       rw [this, decide_eq_true (by omega)]; rfl
     · refine ⟨L.length - (k + 1), by omega, k + 1, by omega, by rw [wrap_i64 (by omega) (by omega)]; omega, rfl, ?_, hB3⟩
       rw [List.take_succ_eq_append_getElem hlt, List.all_append, hno]
       simpa using h3
   · have : k = L.length := by omega
     subst this
     rw [List.take_length] at hno
     exact ⟨_, rfl, by rw [hno]; decide, hB2⟩
 · rintro _ w3 ⟨i, rfl, hi, hB3⟩
   exact ⟨_, rfl, by rw [hi], hB3⟩
def qok (s : List UInt8) (w : World) (v : Value) (w' : World) : Prop := v = qAq (jl s) /\ Below w.heap.size w w'
theorem qmh (s : List UInt8) (hs : s.length <= 2000000000) (w : World) (he : Env w) : Calls prog qjm #[.string (mkS s)] w (Ret (qok s w)) := by
 apply quC
 unfold qqM
 intro k2 w2 hk2 hw2
 have hB2 := (hw2 ▸ qj w _ : Below w.heap.size w w2)
 have h2 : qk w2 k2 qf hst0.cells := qk.new hk2 hw2
 have hk2w : w.heap.size <= k2 := by omega
 refine callK (qwx s 91 w2) ?_
 rintro _ w3 ⟨rfl, hw3⟩
 rw [hw3]; clear hw3
 refine ⟨_, _, rfl, ?_⟩
 -- the result of a call is stored, and read
 have fin : ∀ {wx : World} (o : Option Hst), (∀ x, o = some x -> x.ok) -> jl s = o -> qk wx k2 qf hst0.cells -> Below w.heap.size w wx ->
     ∃ wy, (Instr.storeAt qf (.pointer (some ⟨k2, 0, none⟩)) (o.getD hst0).v).run prog wx = .ok () wy /\ ∃ vr : Value, (qs qf (.pointer (some ⟨k2, 0, none⟩))).run prog wy = .ok vr wy /\ qok s w (.tuple #[vr, .int .i64 (if o.isSome then 0 else 31)]) wy := fun {wx} o ho hv h2x hBx =>
   qv.fin (K := fun vr wy => qok s w (.tuple #[vr, .int .i64 (if o.isSome then 0 else 31)]) wy) (cs := (o.getD hst0).cells) (Hst.len (qgX ho)) (Hst.one _) h2x rfl hBx hk2w fun wy hb => ⟨by rw [hv, qdq]; rfl, hb⟩
 by_cases h91 : s.head? = some 91
 · rw [if_pos h91, decide_eq_true h91]
   refine BCase.yes rfl ?_
   have hv : jl s = if s.getLast? = some 93 then (v6A ((s.drop 1).take (s.length - 2))).map fun a => ⟨3, [], a⟩ else none := by unfold jl; rw [if_pos h91]
   have hlt := qAy h91
   refine (Tryz.strings_CutSuffix (mkS (s.drop 1)) (mkS [93]) w2 (by show (s.drop 1).length <= _; rw [List.length_drop]; omega)).mono ?_
   rintro _ w3 ⟨rfl, hw3⟩
   rw [hw3]; clear hw3
   have hsb := qyO (s.drop 1) 93
   have e1 : (mkS (s.drop 1)).data.toList = s.drop 1 := rfl
   have e2 : (mkS [93]).data.toList = [93] := rfl
   rw [e1, e2, hsb.1, hsb.2]
   obtain ⟨inner, hin⟩ : ∃ inner, inner = if (s.drop 1).getLast? = some 93 then (s.drop 1).take ((s.drop 1).length - 1) else s.drop 1 := ⟨_, rfl⟩
   rw [<- hin]
   have hil : inner.length <= s.length := by rw [hin]; split <;> simp <;> omega
   refine ⟨inner, _, rfl, ?_⟩
   refine callK (qyW inner (by omega) w2 (he.step hB2)) ?_
   rintro _ w4 ⟨rfl, hb4⟩
   have hB4 := qd hB2 hb4 hB2.size
   refine ⟨_, _, by rw [quW], ?_⟩
   have hal := qrv (qA8 inner)
   refine z6.new (zs := adC ad0) (cs := adC ((v6A inner).getD ad0)) rfl hal (qfP _) w4 fun k8 w8 hk8 h8 hb8 => ?_
   have hB8 := qd hB4 hb8 hB4.size
   have h28 := (h2.below hb4).below hb8
   refine ⟨_, z6.load0 h8 hal, ?_⟩
   have hvo : jl s = if (v6A inner).isSome = true /\ (s.drop 1).getLast? = some 93 then some ⟨3, [], (v6A inner).getD ad0⟩ else none := by
     rw [hv]
     by_cases hc : s.getLast? = some 93
     · have hc' := hlt.2 hc
       rw [if_pos hc, if_pos hc'] at *
       rw [List.length_drop, show s.length - 1 - 1 = s.length - 2 by omega] at hin
       rw [<- hin]
       cases v6A inner with
       | none => rw [if_neg (fun h => by cases h.1)]; rfl
       | some x => rw [if_pos ⟨rfl, hc'⟩]; rfl
     · rw [if_neg hc, if_neg (fun h => hc (hlt.1 h.2))]
   refine BCase.of (fun hs1 => ?_) (fun hs1 => ?_)
   · refine callK (qke 3 _ (by rw [<- qaT]; exact hal) _ w8) ?_
     rintro _ w9 ⟨rfl, hb9⟩
     have hB9 := qd hB8 hb9 hB8.size
     refine ⟨_, _, by rw [qdq], ?_⟩
     refine fin _ (fun x hx => ?_) ?_ (h28.below hb9) hB9
     · split at hx
       · cases hx; show ((v6A inner).getD ad0).length = 16; rw [<- qaT]; exact hal
       · cases hx
     · rw [hvo, hs1]
       by_cases hc : (s.drop 1).getLast? = some 93
       · rw [if_pos ⟨rfl, hc⟩, if_pos (by simpa using hc)]
       · rw [if_neg (fun h => hc h.2), if_neg (by simpa using hc)]
   · refine callK (qke 3 _ (by rw [<- qaT]; exact hal) _ w8) ?_
     rintro _ w9 ⟨rfl, hb9⟩
     have hB9 := qd hB8 hb9 hB8.size
     refine ⟨_, _, by rw [qdq], ?_⟩
     refine fin _ (fun x hx => by cases hx) ?_ (h28.below hb9) hB9
     rw [hvo, hs1, if_neg (fun h => by cases h.1)]; rfl
 · rw [if_neg h91, decide_eq_false h91]
   refine BCase.no rfl ?_
   have hv : jl s = if jS (qui (cutC 46 [] (lowL s))) = true then (v4V s).map fun a => ⟨2, [], a⟩ else if s.length <= 253 /\ (cutC 46 [] (lowL s)).all labelB = true then some ⟨1, lowL s, ad0⟩ else none := by unfold jl; rw [if_neg h91]
   refine callK (octet_Lower_ok s (by omega) w2) ?_
   rintro _ w3 ⟨rfl, hb3⟩
   have hB3 := qd hB2 hb3 hB2.size
   refine ⟨_, rfl, ?_⟩
   have ll : (lowL s).length = s.length := by simp [lowL]
   refine callK (qgV (lowL s) 46 (by omega) w3 (he.step hB3)) ?_
   rintro _ w4 ⟨a, n, c, rfl, ho, hf, hb4⟩
   have hB4 := qd hB3 hb4 hB3.size
   have h24 := (h2.below hb3).below hb4
   have hn := ho.len
   subst hn
   have hlens : ∀ x ∈ cutC 46 [] (lowL s), x.length <= s.length := fun x hx => by have := qhE 46 (lowL s) [] x hx; simp [ll] at this; omega
   have hcn := qbH 46 (lowL s) []
   have hnz : 0 < (cutC 46 [] (lowL s)).length := List.length_pos_iff.2 (qcw 46 (lowL s) [])
   have hjoin := qae 46 (lowL s) []
   refine ⟨_, _, _, rfl, ?_⟩
   generalize cutC 46 [] (lowL s) = L at *
   have ei : i64.wrap (((L.length : Nat) : Int) - 1) = ((L.length - 1 : Nat) : Int) := by rw [wrap_i64 (by omega) (by omega)]; omega
   rw [ei]
   refine ⟨⟨⟨by omega, by omega⟩, ho.all.isSome hnz⟩, _, ho.all.text un_string (by omega), ?_⟩
   rw [<- qqb hnz]
   have hll : (qui L).length <= s.length := by rw [qqb hnz]; exact hlens _ (List.getElem_mem _)
   refine callK (qkq (qui L) (by omega) w4) ?_
   rintro _ w5 ⟨rfl, hb5⟩
   have hB5 := qd hB4 hb5 hB4.size
   have h25 := h24.below hb5
   refine ⟨_, rfl, BCase.of (fun hd => ?_) (fun hd => ?_)⟩
   · rw [if_pos hd] at hv
     refine callK (qyV s (by omega) w5 (he.step hB5)) ?_
     rintro _ w6 ⟨rfl, hb6⟩
     have hB6 := qd hB5 hb6 hB5.size
     refine ⟨_, _, by rw [quW], ?_⟩
     have hal := qrv (qDd s)
     refine z6.new (zs := adC ad0) (cs := adC ((v4V s).getD ad0)) rfl hal (qfP _) w6 fun k8 w8 hk8 h8 hb8 => ?_
     have hB8 := qd hB6 hb8 hB6.size
     have h28 := (h25.below hb6).below hb8
     refine ⟨_, z6.load0 h8 hal, ?_⟩
     refine callK (qke 2 _ (by rw [<- qaT]; exact hal) _ w8) ?_
     rintro _ w9 ⟨rfl, hb9⟩
     have hB9 := qd hB8 hb9 hB8.size
     refine ⟨_, _, by rw [qdq], ?_⟩
     refine fin _ (fun x hx => ?_) ?_ (h28.below hb9) hB9
     · split at hx
       · cases hx; show ((v4V s).getD ad0).length = 16; rw [<- qaT]; exact hal
       · cases hx
     · rw [hv]
       cases v4V s <;> rfl
   · rw [if_neg (by rw [hd]; decide)] at hv
     have hbad : ¬ (s.length <= 253 /\ L.all labelB = true) -> jl s = none := fun h => by rw [hv, if_neg h]
     refine worldJ (fun w' => (s.length <= 253 /\ L.all labelB = true) /\ Below w5.heap.size w5 w') ?_ ?_
     · refine qgN (fun b w' => b = (!decide (s.length <= 253 /\ L.all labelB = true)) /\ Below w5.heap.size w5 w') ?_ ?_
       · refine BCase.of (fun h => ⟨?_, Below.refl _ _⟩) (fun h => ?_) <;> simp only [gt_iff_lt, dTx, dFx] at h
         · rw [decide_eq_false (fun hc => by have := hc.1; omega)]; rfl
         · refine callK (qAw (A := AllB) (ho.below hb5).all (fun x hx => by have := hlens x hx; omega) (by omega)) ?_
           rintro _ w6 ⟨rfl, hb6⟩
           refine ⟨_, rfl, ?_, hb6⟩
           have h253 : s.length <= 253 := by omega
           congr 1
           rw [Bool.eq_iff_iff, dTx]
           exact ⟨fun h => ⟨h253, h⟩, fun h => h.2⟩
       · rintro b w6 ⟨rfl, hb6⟩
         refine BCase.of (fun h => ?_) (fun h => ⟨by rw [Bool.not_eq_false'] at h; exact of_decide_eq_true h, hb6⟩)
         exact fin none (fun x hx => by cases hx) (hbad (by rw [Bool.not_eq_true'] at h; exact of_decide_eq_false h)) (h25.below hb6) (qd hB5 hb6 hB5.size)
     · rintro w6 ⟨hgood, hb6⟩
       have hB6 := qd hB5 hb6 hB5.size
       refine callK (qs1 ((ho.below hb5).below hb6).all [46] (by omega) (by rw [hjoin]; simp [ll]; omega)) ?_
       rintro _ w7 ⟨rfl, hb7⟩
       have hB7 := qd hB6 hb7 hB6.size
       rw [hjoin, List.nil_append]
       refine ⟨_, rfl, ?_⟩
       exact fin (some ⟨1, lowL s, ad0⟩) (fun x hx => by cases hx; rfl) (by rw [hv, if_pos hgood]) ((h25.below hb6).below hb7) hB7
end Go.Proofs.YtlfolncaghkmcaaGreatDoor
