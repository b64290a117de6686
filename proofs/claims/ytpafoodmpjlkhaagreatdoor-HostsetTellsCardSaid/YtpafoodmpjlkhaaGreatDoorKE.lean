/- What the laws lean on: SymF, SymG, Sub, HostD, MapG, DfaP, DfaQ, DfaR, DfaH, HwP, HosA, HwQ, HosB, HwT; what is used. Its conditions: none. -/
import Derived.Test.YtpafoodmpjlkhaaGreatDoorKD
import Derived.Laws.Strings
open Go.IntKind (i64)
open Go.Proofs.Tryz (prog)
set_option linter.unusedVariables false
set_option linter.unusedSimpArgs false
set_option maxRecDepth 20000
namespace Go.Proofs.YtpafoodmpjlkhaaGreatDoor
open Go.Pk
open Go.RowKit (Below)
theorem yB {ts : List Txt} (hp : ts.Pairwise (· < ·)) (s : Txt) : oH s (AW ts) = if s ∈ ts then some (ofT ts s) else none := by
 by_cases h : s ∈ ts
 · rw [if_pos h]
   obtain ⟨i, hi, rfl⟩ := List.getElem_of_mem h
   rw [zM hp hi]
   have e : ts = ts.take i ++ [ts[i]] ++ ts.drop (i + 1) := by
     rw [<- dm hi, List.take_append_drop]
   have hno : ts[i] ∉ ts.take i := fun hmem => by
     obtain ⟨j, hj, e⟩ := List.getElem_of_mem hmem
     rw [List.length_take] at hj
     rw [List.getElem_take] at e
     have := List.pairwise_iff_getElem.1 hp j i (by omega) hi (by omega)
     rw [e] at this
     exact List.lt_irrefl _ this
   have e2 : AW ts = AW (ts.take i ++ [ts[i]]) ++ ((ts.drop (i + 1)).zipIdx (i + 1)).map fun p => (p.1, ((p.2 : Nat) : Int)) := by
     conv => lhs; rw [e]
     unfold AW
     rw [List.zipIdx_append, List.map_append]
     congr 2
     simp; congr 1; omega
   rw [e2, qj, AX, qj, lR hno]
   simp [oH]; omega
 · rw [if_neg h]; exact lR h
theorem gU.pw {w : World} {p : Option Addr} {ts : List Txt} (h : gU w p ts) : ts.Pairwise (· < ·) := by
 obtain ⟨b, a, n, c, m, cs, fr, _, _, _, _, _, h⟩ := h; exact h
theorem gU.nd {w : World} {p : Option Addr} {ts : List Txt} (h : gU w p ts) : ts.Nodup := h.pw.imp fun {a b} h e => by subst e; exact List.lt_irrefl a h
theorem gU.some {w : World} {p : Option Addr} {ts : List Txt} (h : gU w p ts) : Option.isSome p = true := by
 obtain ⟨b, a, n, c, m, cs, fr, rfl, _⟩ := h; rfl
theorem gU.load0 {w : World} {p : Option Addr} {ts : List Txt} (h : gU w p ts) : ∃ a n c, (Instr.loadAt aw (.pointer (Option.map (fun x => x.add 0) p))).run prog w = .ok (.slice a n c) w /\ Sl tS w gT a n c ts := by
 obtain ⟨b, a, n, c, m, cs, fr, rfl, h2, rfl, h4, _⟩ := h
 refine ⟨a, n, c, ?_, h4⟩
 show (Instr.loadAt aw (.pointer (Option.some ((⟨b, 0, none⟩ : Addr).add 0)))).run prog w = _
 rw [dp]
 exact dJ bh rfl (by rw [eQ h2]; rfl)
theorem gU.load1 {w : World} {p : Option Addr} {ts : List Txt} (h : gU w p ts) : ∃ m, (Instr.loadAt bt (.pointer (Option.map (fun x => x.add 1) p))).run prog w = .ok (.map (Option.some m)) w /\ pA w m (AW ts) /\ p.isSome = true := by
 obtain ⟨b, a, n, c, m, cs, fr, rfl, h2, rfl, h4, h5, _⟩ := h
 refine ⟨m, ?_, h5, rfl⟩
 show (Instr.loadAt bt (.pointer (Option.some ((⟨b, 0, none⟩ : Addr).add 1)))).run prog w = _
 rw [dp]
 exact dJ cN rfl (by rw [eQ h2]; rfl)
theorem ci (p : Option Addr) (ts : List Txt) (hl : ts.length <= 1000000) (w : World) (h : gU w p ts) :
   Calls prog aR #[.pointer p] w (Ret fun v w' => v = .int .i64 ((ts.length : Int) + 1) /\ w' = w) := by
 apply oP
 unfold jS
 obtain ⟨a, n, c, hr, hs⟩ := h.load0
 have hn := hs.len
 refine ⟨h.some, h.some, a, n, c, hr, ?_, rfl⟩
 rw [ak (by omega) (by omega), hn]
theorem BB (p : Option Addr) (ts : List Txt) (s : Txt) (w : World) (h : gU w p ts) :
   Calls prog kT #[.pointer p, .string (mkS s)] w (Ret fun v w' => v = .int .i64 (ofT ts s) /\ w' = w) := by
 apply px
 unfold kH
 obtain ⟨m, hr1, hm, hp⟩ := h.load1
 refine ⟨hp, hp, Option.some m, hr1, _, _, Bf (z := .int .i64 0) cN aC jA hm s, ?_⟩
 rw [yB h.pw]
 refine af.of (fun hc => ?_) (fun hc => ?_)
 · by_cases hs : s ∈ ts
   · rw [if_pos hs]; exact ⟨rfl, rfl⟩
   · rw [if_neg hs] at hc; simp at hc
 · by_cases hs : s ∈ ts
   · rw [if_pos hs] at hc; simp at hc
   · obtain ⟨a, n, c, hr, hsl⟩ := h.load0
     have hn := hsl.len
     refine ⟨hp, hp, a, n, c, hr, ?_, rfl⟩
     rw [hn]; unfold ofT; rw [if_neg hs]
def pp (xs : List UInt8) (i : Nat) : List UInt8 := (List.range xs.length).map fun k => if k < i \/ xs.length <= k + i then xs[xs.length - 1 - k]?.getD 0 else xs[k]?.getD 0
theorem kw (xs : List UInt8) (i : Nat) : (pp xs i).length = xs.length := by simp [pp]
theorem El (xs : List UInt8) : pp xs 0 = xs := by
 apply List.ext_getElem
 · simp [pp]
 · intro k h1 h2
   have : ¬ xs.length <= k := by omega
   simp [pp, this, h2]
theorem FE (xs : List UInt8) (i : Nat) (h : xs.length <= 2 * i + 1) : pp xs i = xs.reverse := by
 apply List.ext_getElem
 · simp [pp]
 · intro k h1 h2
   have hk : k < xs.length := by simpa using h2
   simp only [pp, List.getElem_map, List.getElem_range, List.getElem_reverse]
   by_cases c : k < i \/ xs.length <= k + i
   · rw [if_pos c, List.getElem?_eq_getElem (by omega)]; rfl
   · rw [if_neg c]
     have : xs.length - 1 - k = k := by omega
     rw [List.getElem?_eq_getElem hk]; simp only [this]; rfl
theorem FF (xs : List UInt8) (i k : Nat) (hk : k < (pp xs i).length) (h : ¬ (k < i \/ xs.length <= k + i)) : (pp xs i)[k] = xs[k]'(by rw [kw] at hk; exact hk) := by
 have hk' : k < xs.length := by rw [kw] at hk; exact hk
 simp only [pp, List.getElem_map, List.getElem_range]
 rw [if_neg h, List.getElem?_eq_getElem hk']; rfl
theorem Ek (xs : List UInt8) (i : Nat) (h : 2 * i + 1 < xs.length) :
   ((pp xs i).set i (xs[xs.length - 1 - i]'(by omega))).set (xs.length - 1 - i) (xs[i]'(by omega)) = pp xs (i + 1) := by
 apply List.ext_getElem
 · simp [pp]
 · intro k h1 h2
   have hk : k < xs.length := by rw [kw] at h2; exact h2
   rw [List.getElem_set, List.getElem_set]
   simp only [pp, List.getElem_map, List.getElem_range]
   by_cases c1 : xs.length - 1 - i = k
   · rw [if_pos c1, if_pos (by omega), List.getElem?_eq_getElem (by omega)]
     have : xs.length - 1 - k = i := by omega
     simp only [this]; rfl
   · rw [if_neg c1]
     by_cases c2 : i = k
     · subst c2
       rw [if_pos rfl, if_pos (by omega), List.getElem?_eq_getElem (by omega)]; rfl
     · rw [if_neg c2]
       by_cases c3 : k < i \/ xs.length <= k + i
       · rw [if_pos c3, if_pos (by omega)]
       · rw [if_neg c3, if_neg (by omega)]
theorem Em (a : Option Addr) (n c : Nat) (xs : List UInt8) (hl : xs.length <= 1000000) (w : World) (ho : Ow tU8 aF w NoB a n c xs) :
   Calls prog dU #[.slice a n c] w (Ret fun v w' => v = .tuple #[] /\ Ow tU8 aF w' NoB a n c xs.reverse /\ w.grownBy w' (bE a)) := by
 apply lx
 unfold gR
 have hn := ho.len
 subst hn
 refine ⟨fun m i j w' => ∃ k : Nat, 2 * k <= xs.length /\ i = (k : Int) /\ j = (xs.length : Int) - 1 - k /\ m = xs.length - k /\ Ow tU8 aF w' NoB a xs.length c (pp xs k) /\ w.grownBy w' (bE a),
   ⟨_, 0, by omega, rfl, ?_, rfl, by rw [El]; exact ho, ⟨rfl, rfl, rfl, Nat.le_refl _, fun _ _ _ => rfl⟩⟩, ?_⟩
 · rw [ak (by omega) (by omega)]; omega
 intro m i j
 refine aE.of ?_ _
 rintro w' ⟨k, hk, rfl, rfl, rfl, ho', hg⟩
 refine af.of (fun h => ?_) (fun h => ?_) <;> simp at h
 · have hk2 : 2 * k + 1 < xs.length := by omega
   have hsm := (ho'.below (gV w')).all.isSome (i := 0) (by rw [kw]; omega)
   have hod : Ow tU8 aF w'.drew NoB a xs.length c (pp xs k) := ho'.below (gV w')
   have hgd : w.grownBy w'.drew (bE a) := ⟨hg.os, hg.tape, hg.output, hg.size, hg.block⟩
   have hin1 : (0 : Int) <= (xs.length : Int) - 1 - k /\ (xs.length : Int) - 1 - k < (xs.length : Int) := by omega
   have hin2 : (0 : Int) <= (k : Int) /\ (k : Int) < (xs.length : Int) := by omega
   have et : ((xs.length : Int) - 1 - k).toNat = xs.length - 1 - k := by omega
   obtain ⟨v1, hv1, hr1⟩ := hod.all.load1 (i := (xs.length : Int) - 1 - k) bF rfl rfl (by rw [kw, et]; omega)
   obtain ⟨v2, hv2, hr2⟩ := hod.all.load1 (i := (k : Int)) bF rfl rfl (by rw [kw]; simp; omega)
   have e1 := yO hr1
   have e2 := yO hr2
   simp only [et] at e1
   simp only [Int.toNat_natCast] at e2
   rw [FF _ _ _ _ (by omega)] at e1 e2
   subst e1 e2
   obtain ⟨w3, hs3, ho3, hg3⟩ := hod.store (P := prog) (bytes := 1) (z := .int .u8 0) gu (fun _ _ h => h) (i := (k : Int)) (by rw [kw]; simp; omega) (k := 1) rfl (v := .int .u8 ((xs[xs.length - 1 - k]'(by omega)).toNat : Nat)) (sK rfl)
   obtain ⟨w4, hs4, ho4, hg4⟩ := ho3.store (P := prog) (bytes := 1) (z := .int .u8 0) gu (fun _ _ h => h) (i := (xs.length : Int) - 1 - k) (by rw [List.length_set, kw, et]; omega) (k := 1) rfl (v := .int .u8 ((xs[k]'(by omega)).toNat : Nat)) (sK rfl)
   have hgt : w.grownBy w4 (bE a) := ⟨(hg4.os.trans hg3.os).trans hgd.os, (hg4.tape.trans hg3.tape).trans hgd.tape, (hg4.output.trans hg3.output).trans hgd.output, Nat.le_trans hgd.size (Nat.le_trans hg3.size hg4.size),
     fun q hq hne => ((hg4.block q (Nat.lt_of_lt_of_le hq (Nat.le_trans hgd.size hg3.size)) hne).trans (hg3.block q (Nat.lt_of_lt_of_le hq hgd.size) hne)).trans (hgd.block q hq hne)⟩
   have hend : ∃ m' : Nat, m' < xs.length - k /\ ∃ k' : Nat, 2 * k' <= xs.length /\ i64.wrap ((k : Int) + 1) = (k' : Int) /\ i64.wrap ((xs.length : Int) - 1 - k - 1) = (xs.length : Int) - 1 - k' /\ m' = xs.length - k' /\ Ow tU8 aF w4 NoB a xs.length c (pp xs k') /\ w.grownBy w4 (bE a) := by
     refine ⟨xs.length - (k + 1), by omega, k + 1, by omega, ?_, ?_, rfl, ?_, hgt⟩
     · rw [ak (by omega) (by omega)]; omega
     · rw [ak (by omega) (by omega)]; omega
     · rw [<- Ek xs k hk2]
       simp only [et, Int.toNat_natCast] at ho4
       exact ho4
   exact ⟨⟨hin1, hsm⟩, ⟨hin2, hsm⟩, ⟨_, hv1, _, hv2, ⟨hin2, hsm⟩, w3, hs3, ⟨hin1, hsm⟩, w4, hs4, hend⟩, _, hv2, _, hv1, ⟨hin2, hsm⟩, w3, hs3, ⟨hin1, hsm⟩, w4, hs4, hend⟩
 · refine ⟨rfl, ?_, hg⟩
   rw [<- FE xs k (by omega)]; exact ho'
end Go.Proofs.YtpafoodmpjlkhaaGreatDoor
namespace Go.Proofs.YtpafoodmpjlkhaaGreatDoor
open Go.Pk
open Go.RowKit (Below)
theorem Fq (r : Nat) (h : r < 38) : aP [97, 98, 99, 100, 101, 102, 103, 104, 105, 106, 107, 108, 109, 110, 111, 112, 113, 114, 115, 116, 117, 118, 119, 120, 121, 122, 48, 49, 50, 51, 52, 53, 54, 55, 56, 57, 45, 95] (r : Int) = (((sD r).toNat : Nat) : Int) := by
 rw [eX (by simpa using h)]
 unfold sD
 rw [List.getElem?_eq_getElem (by simpa [zG] using h)]
 rfl
theorem rn (n : Nat) (hn : n <= 1000000) (w : World) : Calls prog lp #[.int .i64 (n : Int)] w (Ret fun v w' => v = .string (mkS (iu n)) /\ Below w.heap.size w w') := by
 apply xa
 unfold rD
 refine ⟨fun m i a l c w' => ∃ (k : Nat) (xs : List UInt8), k <= n /\ xs.length + k <= n /\ i = (k : Int) /\ m = k + 1 /\ Et n = xs ++ Et k /\ Ow tU8 aF w' NoB a l c xs /\ bD w.heap.size a /\ Below w.heap.size w w',
   ⟨_, n, [], Nat.le_refl _, by simp, rfl, rfl, rfl, Ow.nil _ _ _ _, bD.none _, Below.refl _ _⟩, ?_⟩
 intro m i a l c
 refine aE.of ?_ _
 rintro w' ⟨k, xs, hk, hx, rfl, rfl, hd, ho, hf, hb⟩
 refine af.of (fun h => ?_) (fun h => ?_) <;> simp at h
 · have e1 : i64.wrap ((k : Int) - 1) = ((k - 1 : Nat) : Int) := by rw [ak (by omega) (by omega)]; omega
   have e2 : Int.tmod ((k - 1 : Nat) : Int) 38 = (((k - 1) % 38 : Nat) : Int) := rfl
   have e3 : Int.tdiv ((k - 1 : Nat) : Int) 38 = (((k - 1) / 38 : Nat) : Int) := rfl
   refine ⟨by decide, fun q12 hq12 => ?_⟩
   rw [e1, e2] at hq12
   subst hq12
   rw [Fq _ (by omega)]
   refine ⟨⟨by omega, by simp; omega⟩, ?_⟩
   intro k1 w3 hk1 hw3
   have ho3 : Ow tU8 aF w3 NoB a l c xs := ho.below (hw3 ▸ ah _ _)
   have hsrc : Src tU8 w3 NoB (some ⟨k1, 0, none⟩) 1 [sD ((k - 1) % 38)] := Src.new1F rN hk1 hw3 (sK rfl)
   obtain ⟨w4, a', n', c', hr, ho4, hgr, hfr⟩ := cJ (ty := aV) cD gu (by decide) ho3 (fun _ _ h => h) (cm := 1) hsrc (by simp; omega)
   refine ⟨w4, a', n', c', hr, by decide, fun q8 hq8 => ?_⟩
   rw [e1, e3, ak (by omega) (by omega)] at hq8
   subst hq8
   refine ⟨(k - 1) / 38 + 1, by omega, (k - 1) / 38, xs ++ [sD ((k - 1) % 38)], by omega, ?_, rfl, rfl, ?_, ho4, ?_, ?_⟩
   · simp; omega
   · rw [hd, ou (by omega)]; simp
   · subst hw3; exact hf.app (by have := hb.size; simp; omega) hfr
   · subst hw3; exact (ab hb (ah _ _) hb.size).grown hgr (by have := hb.size; simp; omega) hf
 · have : k = 0 := by omega
   subst this
   rw [nG, List.append_nil] at hd
   refine ax (Em a l c xs (by omega) w' ho) ?_
   rintro _ w5 ⟨rfl, ho5, hg5⟩
   refine ⟨rfl, _, oU cD aC bF ho5.all, ?_, hb.grown hg5 hb.size hf⟩
   unfold iu; rw [hd]
theorem mv (p : Option Addr) (ts : List Txt) (hl : ts.length <= 100000) (w : World) (h : gU w p ts) :
   Calls prog cC #[.pointer p] w (Ret fun v w' => v = .string (mkS (kU ts)) /\ Below w.heap.size w w') := by
 apply nw
 unfold jf
 refine ⟨fun m i w' => ∃ k : Nat, 1 <= k /\ k <= ts.length + 1 /\ i = (k : Int) /\ m = ts.length + 2 - k /\ (∀ j, 1 <= j -> j < k -> iu j ∈ ts) /\ Below w.heap.size w w',
   ⟨_, 1, by omega, by omega, rfl, rfl, fun j h1 h2 => by omega, Below.refl _ _⟩, ?_⟩
 intro m i
 refine aE.of ?_ _
 rintro w' ⟨k, hk1, hk2, rfl, rfl, hall, hb⟩
 have h' := h.below hb
 obtain ⟨r, hr, hm, hp⟩ := h'.load1
 refine ⟨hp, hp, some r, ?_, iu k, ?_, (oH (iu k) (AW ts)).getD 0, (oH (iu k) (AW ts)).isSome, ?_, ?_⟩
 · intro u hu
   have hb' := h'
   obtain ⟨b, a, n, c, m, cs, fr, rfl, h2, rfl, h4, h5, _⟩ := h'
   have hh2 := (hu.block b (Array.getElem?_eq_some_iff.1 h2).1).trans h2
   have em : m = r := by
     have hr0 : (Instr.loadAt bt (.pointer (Option.map (fun (x : Addr) => x.add 1) (some (⟨b, 0, none⟩ : Addr))))).run prog w' = .ok (.map (some m)) w' := by
       show (Instr.loadAt bt (.pointer (Option.some ((⟨b, 0, none⟩ : Addr).add 1)))).run prog w' = _
       rw [dp]
       exact dJ cN rfl (by rw [eQ h2]; rfl)
     rw [hr0] at hr
     injection hr with hr _
     injection hr with hr
     exact Option.some.inj hr
   subst em
   show (Instr.loadAt bt (.pointer (Option.some ((⟨b, 0, none⟩ : Addr).add 1)))).run prog u = _
   rw [dp]
   exact dJ cN rfl (by rw [eQ hh2]; rfl)
 · intro u hu
   refine (rn k (by omega) u).mono ?_
   rintro _ w2 ⟨_, rfl, rfl, hb2⟩
   exact ⟨rfl, hb2.mono hu.size⟩
 · intro u hu
   exact Bf (z := .int .i64 0) cN aC jA (hm.below hu) (iu k)
 · intro wq hwq
   rw [yB h.pw]
   refine af.of (fun hc => ?_) (fun hc => ?_)
   · refine ax (rn k (by omega) wq) ?_
     rintro _ w3 ⟨rfl, hb3⟩
     have hno : iu k ∉ ts := fun hmem => by rw [if_pos hmem] at hc; simp at hc
     have hB := ab hb hwq hb.size
     exact ⟨_, rfl, by rw [AN ⟨hk1, hno, hall⟩], ab hB hb3 hB.size⟩
   · have hyes : iu k ∈ ts := by
       by_cases hmem : iu k ∈ ts
       · exact hmem
       · rw [if_neg hmem] at hc; simp at hc
     have hall' : ∀ j, 1 <= j -> j < k + 1 -> iu j ∈ ts := fun j h1 h2 => by
       by_cases e : j = k
       · rw [e]; exact hyes
       · exact hall j h1 (by omega)
     have hle := zo hall'
     refine ⟨ts.length + 2 - (k + 1), by omega, k + 1, by omega, hle, ?_, rfl, hall', ab hb hwq hb.size⟩
     rw [ak (by omega) (by omega)]; omega
theorem ny (p : Option Addr) (ts : List Txt) (hl : ts.length <= 100000) (i : Int) (w : World) (h : gU w p ts) :
   Calls prog dO #[.pointer p, .int .i64 i] w (Ret fun v w' => v = .string (mkS (py ts i)) /\ Below w.heap.size w w') := by
 apply nR
 unfold jI
 obtain ⟨a, n, c, hr, hs⟩ := h.load0
 have hn := hs.len
 refine ⟨fun w' => w' = w /\ 0 <= i /\ i < (ts.length : Int), ⟨fun b w' => w' = w /\ b = decide (i < 0 \/ i > (ts.length : Int)), ?_, ?_⟩, ?_⟩
 · refine af.of (fun hc => ?_) (fun hc => ?_) <;> simp at hc
   · exact ⟨rfl, by simp [hc]⟩
   · refine ⟨h.some, h.some, a, n, c, hr, rfl, ?_⟩
     rw [hn]; simp; omega
 · intro b
   refine aE.of ?_ _
   rintro _ ⟨rfl, rfl⟩
   refine af.of (fun hc => ?_) (fun hc => ?_) <;> simp at hc
   · refine ⟨?_, Below.refl _ _⟩
     unfold py
     rw [if_neg (by omega), if_neg (by omega)]
   · refine ⟨h.some, h.some, a, n, c, hr, ?_⟩
     rw [hn]
     refine af.of (fun hc2 => ?_) (fun hc2 => ?_) <;> simp at hc2
     · refine ax (mv p ts hl _ h) ?_
       rintro _ w2 ⟨rfl, hb⟩
       refine ⟨_, rfl, ?_, hb⟩
       unfold py
       rw [if_pos hc2]
     · exact ⟨rfl, by omega, by omega⟩
 · refine aE.of ?_ _
   rintro _ ⟨rfl, h0, h1⟩
   have hi : i.toNat < ts.length := by omega
   obtain ⟨v, hv, hrep⟩ := hs.load1 (i := i) aC rfl rfl hi
   obtain ⟨rfl, -⟩ := i6 hrep
   refine ⟨h.some, h.some, a, n, c, hr, ⟨⟨by omega, by omega⟩, hs.isSome hi⟩, _, hv, ?_, Below.refl _ _⟩
   unfold py
   rw [if_neg (by omega), if_pos ⟨h0, h1⟩, List.getElem?_eq_getElem hi]; rfl
end Go.Proofs.YtpafoodmpjlkhaaGreatDoor
namespace Go.Pk
theorem gw.drop {α : Type} {T : Ty α} {w : World} {A : Bl} {l : List Value} {xs : List α} (h : gw T w A l xs) (j : Nat) : gw T w A (l.drop (j * T.k)) (xs.drop j) := by
 refine ⟨by rw [List.length_drop, List.length_drop, h.len, Nat.sub_mul], fun i hi => ?_⟩
 have hi' : j + i < xs.length := by rw [List.length_drop] at hi; omega
 have := h.rep (j + i) hi'
 rw [List.drop_drop, List.getElem_drop]
 rw [Nat.add_mul] at this
 exact this
theorem Sl.from {α : Type} {T : Ty α} {w : World} {A : Bl} {a : Option Addr} {n c : Nat} {xs : List α} (h : Sl T w A a n c xs) (j : Nat) (hj : j <= xs.length) {k : Nat} (hk : T.k = k) : Sl T w A (xh a c j k) (n - j) (c - j) (xs.drop j) := by
 subst hk
 obtain ⟨h1, h2, h3, h4⟩ := h
 refine ⟨by rw [List.length_drop, h1], by omega, by omega, ?_⟩
 rcases h4 with h4 | ⟨b, off, e, hb, hab, l, h5, h6⟩
 · left; rw [h4]; simp
 · by_cases hc : c = j
   · left
     exact List.drop_eq_nil_of_le (by omega)
   · right
     refine ⟨b, off + j * T.k, ?_, hb, hab, l.drop (j * T.k), h5.drop j, fun i hi => ?_⟩
     · unfold xh; rw [if_neg hc, e, Option.map_some, dp]
     · rw [List.length_drop] at hi
       rw [Nat.add_assoc, h6 _ (by omega), List.getElem?_drop]
end Go.Pk
namespace Go.Pk
theorem FY {o : Option (List UInt8)} {h : Hst} (e : (o.map fun a => (⟨3, [], a⟩ : Hst)) = some h) : h.kind = 3 := by
 cases o with
 | none => cases e
 | some a => cases e; rfl
theorem dV {d : Hst} (o : d.ok) (hk : d.kind = 1) (hr : aU d = true) : d = ⟨1, d.name, ad0⟩ /\ fU d.name = d.name /\ (aZ 46 [] d.name).all aX = true /\ d.name.length <= 253 /\ bU (po (aZ 46 [] d.name)) = false /\ ct d.name = some d := by
 have hx : cX d = d.name := by unfold cX; rw [if_pos hk]
 unfold aU at hr
 rw [hx] at hr
 cases hv : ct d.name with
 | none => rw [hv] at hr; cases hr
 | some g =>
   rw [hv] at hr
   obtain rfl := (d7 (fP hv) o).1 hr
   have hv' := hv
   unfold ct at hv'
   split at hv'
   · split at hv'
     · have := FY hv'; omega
     · cases hv'
   split at hv'
   · cases h4 : v4V g.name with
     | none => rw [h4] at hv'; cases hv'
     | some a =>
       rw [h4] at hv'
       have : g.kind = 2 := by rw [<- Option.some.inj hv']
       omega
   rename_i hd
   split at hv'
   · rename_i hc
     have e := Option.some.inj hv'
     have e2 : fU g.name = g.name := congrArg Hst.name e
     rw [e2] at hc e hd
     exact ⟨e.symm, e2, hc.2, hc.1, by simpa using hd, rfl⟩
   · cases hv'
theorem di {d : Hst} (o : d.ok) (h : (aq d).length ≠ 0) : (d.kind = 1 /\ aU d = true) /\ aq d = aZ 46 [] d.name := by
 unfold aq at h ⊢
 split at h
 · rename_i hc; exact ⟨hc, by rw [if_pos hc]⟩
 · exact absurd rfl h
end Go.Pk

set_option linter.unusedSectionVars false
namespace Go.Pk
open Go.RowKit (Below)
section
variable {α β : Type} [DecidableEq α]
def KVg (ek : α -> Value) (ev : β -> Value) (es : List MapEntry) (kvs : List (α × β)) : Prop := es.map (fun e => (e.key, e.val)) = kvs.map fun p => (ek p.1, ev p.2)
def vp (ek : α -> Value) (ev : β -> Value) (w : World) (r : Nat) (kvs : List (α × β)) : Prop := ∃ es clock, w.heap[r]? = some (.map es clock) /\ KVg ek ev es.toList kvs
def u3 (k : α) : List (α × β) -> Option β
 | [] => none
 | (k', v) :: l => if k = k' then some v else u3 k l
def uG (k : α) : List (α × β) -> Nat -> Option (Nat × β)
 | [], _ => none
 | (k', v) :: l, i => if k = k' then some (i, v) else uG k l (i + 1)
theorem Cv (k : α) : ∀ (l : List (α × β)) (i : Nat), (uG k l i).map (·.2) = u3 k l
 | [], _ => rfl
 | (k', v) :: l, i => by
   unfold uG u3
   split
   · rfl
   · exact Cv k l (i + 1)
structure DE (P : Program) (kt : TypeId) (ek : α -> Value) : Prop where
 check : ∀ (b : Bool) (k : α) (w : World), (Instr.checkKey b 10000 kt (ek k)).run P w = .ok () w
 find : ∀ {β : Type} (ev : β -> Value) (k : α) (es : List MapEntry) (kvs : List (α × β)) (w : World), KVg ek ev es kvs -> (Instr.findKey kt (ek k) es).run P w = .ok ((uG k kvs 0).map fun p => (p.1, ev p.2)) w
theorem DE.struct {P : Program} {kt : TypeId} {fs : Array Field} (hu : P.underlying kt = some (.struct fs)) {ek : α -> Value} (heq : ∀ a b, eqV P 10000 kt (ek a) (ek b) = some (decide (a = b)))
   (check : ∀ (b : Bool) (k : α) (w : World), (Instr.checkKey b 10000 kt (ek k)).run P w = .ok () w) : DE P kt ek where
 check := check
 find := by
   intro β ev k es kvs w h
   have ask : ∀ (es : List MapEntry) (kvs : List (α × β)) (i : Nat), KVg ek ev es kvs -> (Instr.findAsking kt (ek k) es i).run P w = .ok ((uG k kvs i).map fun p => (p.1, ev p.2)) w := by
     intro es
     induction es with
     | nil =>
       intro kvs i h
       have : kvs = [] := by unfold KVg at h; simp at h; exact h
       subst this; rfl
     | cons e es ih =>
       intro kvs i h
       cases kvs with
       | nil => unfold KVg at h; simp at h
       | cons p kvs =>
         obtain ⟨k', v⟩ := p
         unfold KVg at h
         simp only [List.map_cons, List.cons.injEq, Prod.mk.injEq] at h
         obtain ⟨⟨hk, hv⟩, ht⟩ := h
         unfold Instr.findAsking uG
         rw [hk]
         have he : (Op.equal kt (ek k) (ek k')).run P w = .ok (decide (k = k')) w := EX 10000 kt _ _ _ w (heq k k')
         rw [Sem.run_bind, he, Result.andThen_ok]
         by_cases e1 : k = k'
         · simp [e1, hv]
         · simp only [e1, decide_false, if_false]
           exact ih kvs (i + 1) ht
   unfold Instr.findKey
   rw [Sem.run_bind, br hu, Result.andThen_ok]
   cases es with
   | nil =>
     have : kvs = [] := by unfold KVg at h; simp at h; exact h
     subst this; rfl
   | cons e es => exact ask (e :: es) kvs 0 h
variable {ek : α -> Value} {ev : β -> Value}
theorem vp.below {w w' : World} {r : Nat} {kvs : List (α × β)} (h : vp ek ev w r kvs) (hb : Below w.heap.size w w') : vp ek ev w' r kvs := by
 obtain ⟨es, c, hh, hkv⟩ := h
 exact ⟨es, c, (hb.block r (Array.getElem?_eq_some_iff.1 hh).1).trans hh, hkv⟩
theorem vp.lt {w : World} {r : Nat} {kvs : List (α × β)} (h : vp ek ev w r kvs) : r < w.heap.size := by
 obtain ⟨es, c, hh, hkv⟩ := h
 exact (Array.getElem?_eq_some_iff.1 hh).1
theorem vp.keep {w w' : World} {r : Nat} {kvs : List (α × β)} (h : vp ek ev w r kvs) (hb : w'.heap[r]? = w.heap[r]?) : vp ek ev w' r kvs := by
 obtain ⟨es, c, hh, hkv⟩ := h
 exact ⟨es, c, hb.trans hh, hkv⟩
theorem vp.grown {w w' : World} {r : Nat} {kvs : List (α × β)} (h : vp ek ev w r kvs) {k : Nat} (hg : w.grownBy w' (some k)) (hne : r ≠ k) : vp ek ev w' r kvs := h.keep (hg.block r h.lt fun e => hne (Option.some.inj e))
theorem vp.new {w w' : World} {r : Nat} (hr : r = w.heap.size) (hw : w' = w.alloc (.map #[] 0)) : vp ek ev w' r [] := by
 subst hr hw
 exact ⟨#[], 0, heap_alloc_new w _, rfl⟩
theorem E5 {P : Program} {w : World} {r : Nat} {es : Array MapEntry} {c : Nat} (h : w.heap[r]? = some (.map es c)) : (getObj r).run P w = .ok (.map es c) w := by
 simp only [getObj, Sem.run, h]
theorem vp.look2 {P : Program} {mt kt et : TypeId} {n bytes : Nat} {z : Value} (hm : P.underlying mt = some (.map kt et)) (hk : DE P kt ek) (he : TF P et n bytes z) {w : World} {r : Nat} {kvs : List (α × β)} (h : vp ek ev w r kvs) (k : α) :
   (Instr.lookup mt (.map (some r)) (ek k) true).run P w = .ok (.tuple #[((u3 k kvs).map ev).getD z, .bool (u3 k kvs).isSome]) w := by
 obtain ⟨es, c, hh, hkv⟩ := h
 obtain ⟨i, hi, _, _, hz⟩ := he.info
 unfold Instr.lookup
 simp only [Sem.run_bind, br hm, Result.andThen_ok, E5 hh, Sem.run_pure, hk.check, hk.find ev k _ _ _ hkv]
 rw [<- Cv k kvs 0]
 cases uG k kvs 0 with
 | none => simp [zeroValue, lw hi, hz]
 | some p => simp
theorem vp.put {P : Program} {mt kt et : TypeId} (hm : P.underlying mt = some (.map kt et)) (hk : DE P kt ek) {w : World} {r : Nat} {kvs : List (α × β)} (h : vp ek ev w r kvs) {k : α} (hno : u3 k kvs = none) (v : β) :
   ∃ w', (Instr.mapUpdate mt (.map (some r)) (ek k) (ev v)).run P w = .ok () w' /\ vp ek ev w' r (kvs ++ [(k, v)]) /\ w.grownBy w' (some r) := by
 obtain ⟨es, c, hh, hkv⟩ := h
 have hlt : r < w.heap.size := (Array.getElem?_eq_some_iff.1 hh).1
 have hnone : uG k kvs 0 = none := by
   have := Cv k kvs 0
   rw [hno] at this
   simpa using this
 refine ⟨{ w with heap := w.heap.setIfInBounds r (.map (es.push { key := ek k, val := ev v, born := c }) (c + 1)) }, ?_, ⟨es.push { key := ek k, val := ev v, born := c }, c + 1, by simp [hlt], ?_⟩, ⟨rfl, rfl, rfl, by simp, fun j hj hne => ?_⟩⟩
 · unfold Instr.mapUpdate
   simp only [Sem.run_bind, br hm, Result.andThen_ok, E5 hh, hk.check, hk.find ev k _ _ _ hkv, hnone, Option.map_none]
   simp only [setObj, Sem.run, hh]
 · unfold KVg at hkv ⊢
   simp only [Array.toList_push, List.map_append, List.map_cons, List.map_nil, hkv]
 · have : r ≠ j := fun e => hne (by rw [e])
   simp [Array.getElem?_setIfInBounds_ne this]
end
end Go.Pk
namespace Go.Pk
structure DA where
 k : Int
 st : Int
 nx : List Int
 ac : List Bool
structure DA.Ok (d : DA) : Prop where
 k1 : 1 <= d.k
 k2 : d.k <= 512
 n1 : 1 <= d.ac.length
 n2 : d.ac.length <= 65536
 len : (d.nx.length : Int) = (d.ac.length : Int) * d.k
 s0 : 0 <= d.st
 s1 : d.st < (d.ac.length : Int)
 nx0 : ∀ x ∈ d.nx, 0 <= x /\ x < (d.ac.length : Int)
abbrev DA.n (d : DA) : Nat := d.ac.length
abbrev DA.K (d : DA) : Nat := d.k.toNat
abbrev DA.s (d : DA) : Nat := d.st.toNat
def DA.to (d : DA) (s x : Nat) : Nat := (d.nx.getD (s * d.K + x) 0).toNat
def DA.run (d : DA) : Nat -> List Nat -> Nat
 | s, [] => s
 | s, x :: w => d.run (d.to s x) w
def DA.acc (d : DA) (s : Nat) : Bool := d.ac.getD s false
def DA.Lang (d : DA) (s : Nat) (w : List Nat) : Prop := (∀ x ∈ w, x < d.K) /\ d.acc (d.run s w) = true
theorem DA.Ok.kk {d : DA} (h : d.Ok) : (d.K : Int) = d.k := by have := h.k1; show ((d.k.toNat : Nat) : Int) = d.k; omega
theorem DA.Ok.lenN {d : DA} (h : d.Ok) : d.nx.length = d.n * d.K := by
 have h1 := h.len
 rw [<- h.kk, <- Int.natCast_mul] at h1
 exact Int.ofNat.inj h1
theorem qd {s x n K : Nat} (hs : s < n) (hx : x < K) : s * K + x < n * K := by
 have : (s + 1) * K <= n * K := Nat.mul_le_mul_right _ hs
 rw [Nat.succ_mul] at this
 omega
theorem DA.Ok.at {d : DA} (h : d.Ok) {s x : Nat} (hs : s < d.n) (hx : x < d.K) : ∃ v, d.nx[s * d.K + x]? = some v /\ 0 <= v /\ v < (d.n : Int) /\ d.to s x = v.toNat := by
 have hi : s * d.K + x < d.nx.length := by rw [h.lenN]; exact qd hs hx
 refine ⟨d.nx[s * d.K + x], List.getElem?_eq_getElem hi, (h.nx0 _ (List.getElem_mem hi)).1, (h.nx0 _ (List.getElem_mem hi)).2, ?_⟩
 unfold DA.to
 rw [List.getD_eq_getElem?_getD, List.getElem?_eq_getElem hi]; rfl
theorem DA.Ok.to_lt {d : DA} (h : d.Ok) {s x : Nat} (hs : s < d.n) (hx : x < d.K) : d.to s x < d.n := by
 obtain ⟨v, _, h1, h2, e⟩ := h.at hs hx
 rw [e]; omega
theorem DA.Ok.s_lt {d : DA} (h : d.Ok) : d.s < d.n := by have := h.s0; have := h.s1; show d.st.toNat < d.ac.length; omega
theorem DA.Ok.run_lt {d : DA} (h : d.Ok) : ∀ {w : List Nat} {s : Nat}, s < d.n -> (∀ x ∈ w, x < d.K) -> d.run s w < d.n
 | [], s, hs, _ => hs
 | x :: w, s, hs, hw => by
   show d.run (d.to s x) w < d.n
   exact h.run_lt (h.to_lt hs (hw x List.mem_cons_self)) fun y hy => hw y (List.mem_cons_of_mem _ hy)
theorem DA.Lang.cons {d : DA} {s x : Nat} {w : List Nat} : d.Lang s (x :: w) ↔ x < d.K /\ d.Lang (d.to s x) w := by
 unfold DA.Lang
 simp only [List.mem_cons, forall_eq_or_imp, DA.run]
 exact and_assoc
theorem DA.Lang.nil {d : DA} {s : Nat} : d.Lang s [] ↔ d.acc s = true := by simp [DA.Lang, DA.run]
theorem qT (d : DA) : ∀ (u v : List Nat) (s : Nat), d.run s (u ++ v) = d.run (d.run s u) v
 | [], _, _ => rfl
 | x :: u, v, s => qT d u v (d.to s x)
def cAt (cs : List Int) (x : Nat) : Int := cs.getD x 0
def cr (cs : List Int) : List Nat -> Int
 | [] => 0
 | x :: w => cAt cs x + cr cs w
abbrev INF : Int := 9223372036854775807
theorem uF : INF = 9223372036854775807 := rfl
def oAt (out : List Int) (s : Nat) : Int := out.getD s 0
def qU (cs : List Int) : Prop := ∀ c ∈ cs, 1 <= c /\ c <= 1048576
theorem qU.at {cs : List Int} (h : qU cs) {x : Nat} (hx : x < cs.length) : 1 <= cAt cs x /\ cAt cs x <= 1048576 := by
 unfold cAt
 rw [List.getD_eq_getElem?_getD, List.getElem?_eq_getElem hx]
 exact h _ (List.getElem_mem hx)
theorem dF {out : List Int} {s : Nat} (h : s < out.length) (v : Int) : oAt (out.set s v) s = v := by simp [oAt, List.getD_eq_getElem?_getD, h]
theorem cM {out : List Int} {s t : Nat} (h : s ≠ t) (v : Int) : oAt (out.set s v) t = oAt out t := by simp [oAt, List.getD_eq_getElem?_getD, List.getElem?_set_ne h]
structure rb (d : DA) (cs out : List Int) : Prop where
 len : out.length = d.n
 lo : ∀ s, s < d.n -> 0 <= oAt out s /\ oAt out s <= INF
 acc0 : ∀ s, s < d.n -> d.acc s = true -> oAt out s = 0
 sound : ∀ s, s < d.n -> oAt out s ≠ INF -> ∃ w, d.Lang s w /\ cr cs w = oAt out s
 step : ∀ s x, s < d.n -> x < d.K -> oAt out (d.to s x) ≠ INF -> oAt out s ≠ INF /\ oAt out s <= oAt out (d.to s x) + cAt cs x
 most : ∀ s, s < d.n -> oAt out s ≠ INF -> oAt out s <= 68719476736
theorem rb.le {d : DA} {cs out : List Int} (h : rb d cs out) (hd : d.Ok) : ∀ {w : List Nat} {s : Nat}, s < d.n -> d.Lang s w -> oAt out s ≠ INF /\ oAt out s <= cr cs w
 | [], s, hs, hw => by
   rw [h.acc0 s hs (DA.Lang.nil.1 hw)]
   exact ⟨by decide, by simp [cr]⟩
 | x :: w, s, hs, hw => by
   obtain ⟨hx, hw'⟩ := DA.Lang.cons.1 hw
   obtain ⟨h1, h2⟩ := h.le hd (hd.to_lt hs hx) hw'
   obtain ⟨h3, h4⟩ := h.step s x hs hx h1
   exact ⟨h3, by simp only [cr]; omega⟩
def xe : List Nat -> List Nat -> Prop
 | a :: u, b :: v => a < b \/ a = b /\ xe u v
 | _, _ => False
def zN (d : DA) (cs out : List Int) (s x : Nat) : Prop := oAt out (d.to s x) < INF /\ oAt out (d.to s x) + cAt cs x = oAt out s
inductive Gr (d : DA) (cs out : List Int) : Nat -> List Nat -> Nat -> Prop
 | nil (s : Nat) : Gr d cs out s [] s
 | cons {s x t : Nat} {w : List Nat} : x < d.K -> 0 < oAt out s -> zN d cs out s x -> (∀ y, y < x -> ¬ zN d cs out s y) -> Gr d cs out (d.to s x) w t -> Gr d cs out s (x :: w) t
theorem Gr.snoc {d : DA} {cs out : List Int} {s t x : Nat} {w : List Nat} (h : Gr d cs out s w t) (hx : x < d.K) (h0 : 0 < oAt out t) (hk : zN d cs out t x) (hl : ∀ y, y < x -> ¬ zN d cs out t y) : Gr d cs out s (w ++ [x]) (d.to t x) := by
 induction h with
 | nil s => exact .cons hx h0 hk hl (.nil _)
 | cons a b c e _ ih => exact .cons a b c e (ih h0 hk hl)
theorem Gr.lt {d : DA} {cs out : List Int} (hd : d.Ok) {s t : Nat} {w : List Nat} (h : Gr d cs out s w t) (hs : s < d.n) : t < d.n := by
 induction h with
 | nil s => exact hs
 | cons a b c e _ ih => exact ih (hd.to_lt hs a)
theorem rb.next {d : DA} {cs out : List Int} (h : rb d cs out) (hd : d.Ok) (hc : qU cs) (hk : cs.length = d.K) {s : Nat} (hs : s < d.n) (h0 : oAt out s ≠ INF) (h1 : 0 < oAt out s) : ∃ x, x < d.K /\ zN d cs out s x := by
 obtain ⟨w, hw, e⟩ := h.sound s hs h0
 cases w with
 | nil => rw [<- e] at h1; simp [cr] at h1
 | cons x w =>
   obtain ⟨hx, hw'⟩ := DA.Lang.cons.1 hw
   have ht := hd.to_lt hs hx
   obtain ⟨h2, h3⟩ := h.le hd ht hw'
   obtain ⟨h4, h5⟩ := h.step s x hs hx h2
   simp only [cr] at e
   have := (h.lo _ ht).2
   exact ⟨x, hx, by omega, by omega⟩
theorem Gr.law {d : DA} {cs out : List Int} (h : rb d cs out) (hd : d.Ok) (hc : qU cs) (hk : cs.length = d.K) {s t : Nat} {w : List Nat} (hg : Gr d cs out s w t) (hs : s < d.n) (h0 : oAt out s ≠ INF) (ht : oAt out t = 0) :
   d.Lang s w /\ cr cs w = oAt out s /\ ∀ v, d.Lang s v -> cr cs w < cr cs v \/ cr cs v = cr cs w /\ (v = w \/ xe w v) := by
 induction hg with
 | nil s =>
   obtain ⟨w, hw, e⟩ := h.sound s hs h0
   have hw0 : w = [] := by
     cases w with
     | nil => rfl
     | cons x w =>
       obtain ⟨hx, hw'⟩ := DA.Lang.cons.1 hw
       have h2 := (h.le hd (hd.to_lt hs hx) hw').2
       have h3 := (h.lo _ (hd.to_lt hs hx)).1
       have h4 := (hc.at (x := x) (by omega)).1
       simp only [cr] at e
       omega
   subst hw0
   refine ⟨hw, by simp [cr, ht], fun v hv => ?_⟩
   cases v with
   | nil => exact .inr ⟨rfl, .inl rfl⟩
   | cons x v =>
     obtain ⟨hx, hv'⟩ := DA.Lang.cons.1 hv
     have h2 := (h.le hd (hd.to_lt hs hx) hv').2
     have h3 := (h.lo _ (hd.to_lt hs hx)).1
     have h4 := (hc.at (x := x) (by omega)).1
     left
     simp only [cr]
     omega
 | @cons s x t w hx hp hok hl hg ih =>
   have hs' := hd.to_lt hs hx
   obtain ⟨i1, i2, i3⟩ := ih hs' (by have := hok.1; omega) ht
   refine ⟨DA.Lang.cons.2 ⟨hx, i1⟩, by simp only [cr]; rw [i2]; have := hok.2; omega, fun v hv => ?_⟩
   have e0 : cr cs (x :: w) = oAt out s := by simp only [cr]; rw [i2]; have := hok.2; omega
   rw [e0]
   cases v with
   | nil =>
     have := (h.acc0 s hs (DA.Lang.nil.1 hv))
     omega
   | cons y v =>
     obtain ⟨hy, hv'⟩ := DA.Lang.cons.1 hv
     obtain ⟨h2, h3⟩ := h.le hd (hd.to_lt hs hy) hv'
     obtain ⟨h4, h5⟩ := h.step s y hs hy h2
     have e1 : cr cs (y :: v) = cAt cs y + cr cs v := rfl
     by_cases hlt : oAt out s < cr cs (y :: v)
     · exact .inl hlt
     · right
       have hlo := (h.lo _ (hd.to_lt hs hy)).2
       have hoky : zN d cs out s y := ⟨by omega, by omega⟩
       refine ⟨by omega, ?_⟩
       rcases Nat.lt_trichotomy x y with hxy | hxy | hxy
       · exact .inr (.inl hxy)
       · subst hxy
         rcases i3 v hv' with h6 | ⟨h6, h7⟩
         · omega
         · rcases h7 with h7 | h7
           · exact .inl (by rw [h7])
           · exact .inr (.inr ⟨rfl, h7⟩)
       · exact absurd hoky (hl y hxy)
theorem sP : ∀ {u v : List Nat}, xe u v -> ¬ xe v u
 | [], _, h, _ => h
 | _ :: _, [], h, _ => h
 | a :: u, b :: v, h, k => by
   rcases h with h | ⟨h, h'⟩ <;> rcases k with k | ⟨k, k'⟩ <;> first | omega | exact sP h' k'
def oX (cs : List Int) (L : List Nat -> Prop) (w : List Nat) : Prop := L w /\ ∀ v, L v -> cr cs w < cr cs v \/ cr cs v = cr cs w /\ (v = w \/ xe w v)
theorem oX.one {cs : List Int} {L : List Nat -> Prop} {w v : List Nat} (h : oX cs L w) (k : oX cs L v) : w = v := by
 rcases h.2 v k.1 with h1 | ⟨h1, h1' | h1'⟩ <;> rcases k.2 w h.1 with h2 | ⟨h2, h2' | h2'⟩
 all_goals first
   | exact h1'.symm
   | exact h2'
   | (exfalso; omega)
   | exact absurd h2' (sP h1')
theorem oX.congr {cs : List Int} {L L' : List Nat -> Prop} {w : List Nat} (h : oX cs L w) (e : ∀ v, L v ↔ L' v) : oX cs L' w := ⟨(e _).1 h.1, fun v hv => h.2 v ((e _).2 hv)⟩
def Ha (d : DA) (cs out : List Int) (s : Nat) : Prop := ∀ f x, f < d.n -> x < d.K -> d.to f x = s -> oAt out f <= oAt out s + cAt cs x
def Bnd (d : DA) (C : Int) (out : List Int) (s : Nat) : Prop := ∃ p : List Nat, (s :: p).Nodup /\ (∀ t ∈ p, t < d.n /\ oAt out t < oAt out s) /\ oAt out s <= (p.length : Int) * C
structure GU (cs : List Int) (C : Int) : Prop where
 lo : 1 <= C
 hi : C <= 1048576
 all : ∀ x, x < cs.length -> cAt cs x <= C
structure F3 (d : DA) (cs : List Int) (C : Int) (out : List Int) : Prop where
 len : out.length = d.n
 lo : ∀ s, s < d.n -> 0 <= oAt out s /\ oAt out s <= INF
 acc0 : ∀ s, s < d.n -> d.acc s = true -> oAt out s = 0
 sound : ∀ s, s < d.n -> oAt out s ≠ INF -> ∃ w, d.Lang s w /\ cr cs w = oAt out s
 bnd : ∀ s, s < d.n -> oAt out s ≠ INF -> Bnd d C out s
abbrev Hp := List (Int × Nat)
def HIn (d : DA) (out : List Int) (H : Hp) : Prop := ∀ p ∈ H, p.2 < d.n /\ oAt out p.2 <= p.1 /\ p.1 <= 68719476736
def F5 (d : DA) (cs out : List Int) (H : Hp) (s : Nat) : Prop := oAt out s ≠ INF -> (oAt out s, s) ∈ H \/ Ha d cs out s
theorem Dt : ∀ {n : Nat} {l : List Nat}, l.Nodup -> (∀ x ∈ l, x < n) -> l.length <= n := by
 intro n
 induction n with
 | zero =>
   intro l _ h
   cases l with
   | nil => exact Nat.le_refl _
   | cons x l => exact absurd (h x List.mem_cons_self) (Nat.not_lt_zero _)
 | succ n ih =>
   intro l hn h
   have h1 : (l.filter fun x => decide (x ≠ n)).length <= n := by
     refine ih (hn.filter _) fun x hx => ?_
     obtain ⟨hx, hne⟩ := List.mem_filter.1 hx
     have := h x hx
     have : x ≠ n := by simpa using hne
     omega
   have h2 : l.length <= (l.filter fun x => decide (x ≠ n)).length + 1 := by
     clear ih h h1
     induction l with
     | nil => exact Nat.zero_le _
     | cons x l ih2 =>
       obtain ⟨hx, hl⟩ := List.nodup_cons.1 hn
       rw [List.filter_cons]
       by_cases e : x = n
       · subst e
         have : (l.filter fun y => decide (y ≠ x)) = l := List.filter_eq_self.2 fun y hy => by
           have : y ≠ x := fun e => hx (e ▸ hy)
           simpa using this
         rw [if_neg (by simp), this]
         exact Nat.le_refl _
       · have := ih2 hl
         simp only [ne_eq, e, not_false_eq_true, decide_true, if_true, List.length_cons]
         simp only [ne_eq] at this
         omega
   omega
theorem Bnd.leC {d : DA} {C : Int} (hC : 0 <= C) {out : List Int} {s : Nat} (hs : s < d.n) (h : Bnd d C out s) : oAt out s <= ((d.n - 1 : Nat) : Int) * C := by
 obtain ⟨p, hn, hp, hb⟩ := h
 have h1 : (s :: p).length <= d.n := Dt hn fun x hx => by
   rcases List.mem_cons.1 hx with rfl | hx
   · exact hs
   · exact (hp x hx).1
 simp only [List.length_cons] at h1
 exact Int.le_trans hb (Int.mul_le_mul_of_nonneg_right (by omega) hC)
theorem Bnd.le {d : DA} (hd : d.Ok) {C : Int} (hC : 0 <= C) (hC2 : C <= 1048576) {out : List Int} {s : Nat} (hs : s < d.n) (h : Bnd d C out s) : oAt out s <= 68719476736 - 1048576 := by
 have h1 := h.leC hC hs
 have h2 : d.n <= 65536 := hd.n2
 have h3 : ((d.n - 1 : Nat) : Int) * C <= 65535 * 1048576 := Int.mul_le_mul (by omega) hC2 hC (by omega)
 omega
theorem F3.first {d : DA} {cs : List Int} {C : Int} {out : List Int} (hl : out.length = d.n) (h : ∀ s, s < d.n -> oAt out s = if d.acc s = true then 0 else INF) : F3 d cs C out where
 len := hl
 lo := fun s hs => by rw [h s hs]; split <;> decide
 acc0 := fun s hs ha => by rw [h s hs, if_pos ha]
 sound := fun s hs hi => by
   rw [h s hs] at hi ⊢
   by_cases ha : d.acc s = true
   · exact ⟨[], DA.Lang.nil.2 ha, by rw [if_pos ha]; rfl⟩
   · rw [if_neg ha] at hi; exact absurd rfl hi
 bnd := fun s hs hi => by
   rw [h s hs] at hi
   by_cases ha : d.acc s = true
   · refine ⟨[], by simp, by simp, ?_⟩
     rw [h s hs, if_pos ha]; simp
   · rw [if_neg ha] at hi; exact absurd rfl hi
theorem F3.down {d : DA} {cs : List Int} {C : Int} {out : List Int} (hd : d.Ok) (hc : qU cs) (hC : GU cs C) (hk : cs.length = d.K) (h : F3 d cs C out) {f x s : Nat} (hf : f < d.n) (hx : x < d.K) (e : d.to f x = s) (hi : oAt out s ≠ INF) {v : Int} (hv : v = oAt out s + cAt cs x) (hlt : v < oAt out f) :
   F3 d cs C (out.set f v) := by
 have hs : s < d.n := e ▸ hd.to_lt hf hx
 have hfl : f < out.length := by rw [h.len]; exact hf
 have hcx := hc.at (x := x) (by omega)
 have hne : f ≠ s := fun e => by subst e; omega
 have hb := h.bnd s hs hi
 have hbl := hb.le hd (by have := hC.lo; omega) hC.hi hs
 have hxC := hC.all x (by omega)
 have hlos := (h.lo s hs).1
 have hI := uF
 have hmono : ∀ t, oAt (out.set f v) t <= oAt out t := fun t => by
   by_cases et : f = t
   · subst et; rw [dF hfl]; omega
   · rw [cM et]; exact Int.le_refl _
 refine ⟨by simp [h.len], fun t ht => ?_, fun t ht ha => ?_, fun t ht hti => ?_, fun t ht hti => ?_⟩
 · by_cases et : f = t
   · subst et; rw [dF hfl]; omega
   · rw [cM et]; exact h.lo t ht
 · by_cases et : f = t
   · subst et; have := h.acc0 f ht ha; omega
   · rw [cM et]; exact h.acc0 t ht ha
 · by_cases et : f = t
   · subst et
     rw [dF hfl]
     obtain ⟨w, hw, ew⟩ := h.sound s hs hi
     refine ⟨x :: w, DA.Lang.cons.2 ⟨hx, by rw [e]; exact hw⟩, ?_⟩
     simp only [cr]; omega
   · rw [cM et] at hti ⊢; exact h.sound t ht hti
 · by_cases et : f = t
   · subst et
     obtain ⟨p, hn, hp, hbb⟩ := hb
     refine ⟨s :: p, ?_, fun t ht => ?_, ?_⟩
     · refine List.nodup_cons.2 ⟨fun hm => ?_, hn⟩
       rcases List.mem_cons.1 hm with hm | hm
       · exact hne hm
       · have := (hp f hm).2; omega
     · rw [dF hfl]
       rcases List.mem_cons.1 ht with rfl | ht
       · exact ⟨hs, by rw [cM hne]; omega⟩
       · have h1 := hp t ht
         exact ⟨h1.1, by have := hmono t; omega⟩
     · rw [dF hfl]
       simp only [List.length_cons]
       have e2 : (((p.length + 1 : Nat) : Int)) * C = (p.length : Int) * C + C := by rw [Int.natCast_add, Int.add_mul]; simp
       omega
   · rw [cM et] at hti
     obtain ⟨p, hn, hp, hbb⟩ := h.bnd t ht hti
     refine ⟨p, hn, fun u hu => ⟨(hp u hu).1, ?_⟩, ?_⟩
     · rw [cM et]
       have := hmono u
       have := (hp u hu).2
       omega
     · rw [cM et]; exact hbb
theorem F3.done {d : DA} {cs : List Int} {C : Int} {out : List Int} (hd : d.Ok) (hc : qU cs) (hC : GU cs C) (hk : cs.length = d.K) (h : F3 d cs C out) (hr : ∀ s, s < d.n -> F5 d cs out [] s) : rb d cs out where
 len := h.len
 lo := h.lo
 acc0 := h.acc0
 sound := h.sound
 step := fun s x hs hx hi => by
   have ht := hd.to_lt hs hx
   have hcx := hc.at (x := x) (by omega)
   rcases hr _ ht hi with h1 | h1
   · cases h1
   · have h2 := h1 s x hs hx rfl
     have h3 := (h.bnd _ ht hi).le hd (by have := hC.lo; omega) hC.hi ht
     have hI := uF
     exact ⟨by omega, h2⟩
 most := fun s hs hi => by have := (h.bnd s hs hi).le hd (by have := hC.lo; omega) hC.hi hs; omega
theorem F5.down {d : DA} {cs out : List Int} {H : Hp} {f t : Nat} {v : Int} (hl : f < out.length) (hlt : v < oAt out f) (hft : f ≠ t) (h : F5 d cs out H t) : F5 d cs (out.set f v) H t := by
 intro hi
 rw [cM hft] at hi ⊢
 rcases h hi with h1 | h1
 · exact .inl h1
 · refine .inr fun g x hg hx e => ?_
   have h2 := h1 g x hg hx e
   rw [cM hft]
   by_cases eg : f = g
   · subst eg; rw [dF hl]; omega
   · rw [cM eg]; exact h2
theorem F5.sub {d : DA} {cs out : List Int} {H H' : Hp} {t : Nat} (hs : ∀ p ∈ H, p ∈ H') (h : F5 d cs out H t) : F5 d cs out H' t := fun hi => (h hi).imp (hs _) id
theorem HIn.down {d : DA} {out : List Int} {H : Hp} {f : Nat} {v : Int} (hl : f < out.length) (hf : f < d.n) (hlt : v < oAt out f) (hv : v <= 68719476736) (h : HIn d out H) : HIn d (out.set f v) ((v, f) :: H) := by
 intro p hp
 rcases List.mem_cons.1 hp with rfl | hp
 · exact ⟨hf, by rw [dF hl]; exact Int.le_refl _, hv⟩
 · obtain ⟨h1, h2, h3⟩ := h p hp
   refine ⟨h1, ?_, h3⟩
   by_cases e : f = p.2
   · rw [e] at hlt hl; rw [e, dF hl]; omega
   · rw [cM e]; exact h2
def CH (M : Nat) (out : List Int) : Nat := (out.map fun o => min o.toNat (M + 1)).sum
theorem Dy {M : Nat} {v : Int} : ∀ {out : List Int} {f : Nat}, f < out.length -> v.toNat <= M -> v.toNat < (oAt out f).toNat -> CH M (out.set f v) < CH M out
 | [], _, h, _, _ => absurd h (Nat.not_lt_zero _)
 | o :: out, 0, _, hM, h => by
   simp only [List.set_cons_zero, CH, List.map_cons, List.sum_cons]
   have : oAt (o :: out) 0 = o := rfl
   rw [this] at h
   omega
 | o :: out, f + 1, hl, hM, h => by
   simp only [List.set_cons_succ, CH, List.map_cons, List.sum_cons]
   have := Dy (M := M) (v := v) (out := out) (f := f) (by simpa using hl) hM h
   unfold CH at this
   omega
theorem FN (M : Nat) : ∀ out : List Int, CH M out <= out.length * (M + 1)
 | [] => Nat.zero_le _
 | o :: out => by
   have := FN M out
   unfold CH at this ⊢
   simp only [List.map_cons, List.sum_cons, List.length_cons, Nat.succ_mul]
   omega
end Go.Pk
namespace Go.Pk
abbrev Pr := Nat × Nat
def toP (a b : DA) (p : Pr) (x : Nat) : Pr := (a.to p.1 x, b.to p.2 x)
def Bo (a b : DA) (p : Pr) (w : List Nat) : Pr := (a.run p.1 w, b.run p.2 w)
structure jh (a b : DA) (f : Bool -> Bool -> Bool) (d : DA) (ps : List Pr) : Prop where
 k : d.k = a.k
 st : d.st = 0
 first : ps[0]? = some (a.s, b.s)
 nd : ps.Nodup
 inn : ∀ p ∈ ps, p.1 < a.n /\ p.2 < b.n
 reach : ∀ p ∈ ps, ∃ w : List Nat, (∀ x ∈ w, x < a.K) /\ Bo a b (a.s, b.s) w = p
 ac : d.ac = ps.map fun p => f (a.acc p.1) (b.acc p.2)
 len : d.nx.length = ps.length * a.K
 nx : ∀ i x p, ps[i]? = some p -> x < a.K -> ∃ j : Nat, d.nx[i * a.K + x]? = some (j : Int) /\ ps[j]? = some (toP a b p x)
theorem AP {α : Type} {l : List α} {i : Nat} {d v : α} (h : l[i]? = some v) : l.getD i d = v := by rw [List.getD_eq_getElem?_getD, h]; rfl
theorem iX {α : Type} {l : List α} {i : Nat} {v : α} (h : l[i]? = some v) : i < l.length := (List.getElem?_eq_some_iff.1 h).1
theorem jh.kk {a b : DA} {f : Bool -> Bool -> Bool} {d : DA} {ps : List Pr} (h : jh a b f d ps) : d.K = a.K := by unfold DA.K; rw [h.k]
theorem jh.n {a b : DA} {f : Bool -> Bool -> Bool} {d : DA} {ps : List Pr} (h : jh a b f d ps) : d.ac.length = ps.length := by rw [h.ac, List.length_map]
theorem jh.ok {a b : DA} {f : Bool -> Bool -> Bool} {d : DA} {ps : List Pr} (h : jh a b f d ps) (ha : a.Ok) (hl : ps.length <= 65536) : d.Ok where
 k1 := by rw [h.k]; exact ha.k1
 k2 := by rw [h.k]; exact ha.k2
 n1 := by have := iX h.first; have := h.n; omega
 n2 := by have := h.n; omega
 len := by
   have h1 := h.len
   have h2 := h.n
   have h3 : d.ac.length = ps.length := h2
   rw [h1, h3, h.k, <- ha.kk, Int.natCast_mul]
 s0 := by rw [h.st]; exact Int.le_refl _
 s1 := by have := iX h.first; have := h.n; rw [h.st]; omega
 nx0 := fun v hv => by
   obtain ⟨i, hi, e⟩ := List.mem_iff_getElem.1 hv
   have hK : 0 < a.K := by have := ha.k1; show 0 < a.k.toNat; omega
   have hi' := hi
   rw [h.len] at hi'
   have hr : i / a.K < ps.length := Nat.div_lt_of_lt_mul (by rw [Nat.mul_comm]; exact hi')
   obtain ⟨j, e1, e2⟩ := h.nx (i / a.K) (i % a.K) _ (List.getElem?_eq_getElem hr) (Nat.mod_lt _ hK)
   rw [show i / a.K * a.K + i % a.K = i from by rw [Nat.mul_comm]; exact Nat.div_add_mod i a.K, List.getElem?_eq_getElem hi, e] at e1
   have hj := iX e2
   have h2 : d.ac.length = ps.length := h.n
   have e3 : v = (j : Int) := Option.some.inj e1
   omega
theorem jh.to {a b : DA} {f : Bool -> Bool -> Bool} {d : DA} {ps : List Pr} (h : jh a b f d ps) {i x : Nat} {p : Pr} (hi : ps[i]? = some p) (hx : x < a.K) : ps[d.to i x]? = some (toP a b p x) := by
 obtain ⟨j, e1, e2⟩ := h.nx i x p hi hx
 unfold DA.to
 rw [h.kk, AP e1]
 exact e2
theorem jh.run {a b : DA} {f : Bool -> Bool -> Bool} {d : DA} {ps : List Pr} (h : jh a b f d ps) : ∀ {w : List Nat} {i : Nat} {p : Pr}, ps[i]? = some p -> (∀ x ∈ w, x < a.K) -> ps[d.run i w]? = some (Bo a b p w)
 | [], i, p, hi, _ => hi
 | x :: w, i, p, hi, hw => by
   show ps[d.run (d.to i x) w]? = some (Bo a b (toP a b p x) w)
   exact h.run (h.to hi (hw x List.mem_cons_self)) fun y hy => hw y (List.mem_cons_of_mem _ hy)
theorem jh.acc {a b : DA} {f : Bool -> Bool -> Bool} {d : DA} {ps : List Pr} (h : jh a b f d ps) {i : Nat} {p : Pr} (hi : ps[i]? = some p) : d.acc i = f (a.acc p.1) (b.acc p.2) := by
 unfold DA.acc
 rw [h.ac]
 exact AP (by rw [List.getElem?_map, hi]; rfl)
theorem jh.lang {a b : DA} {f : Bool -> Bool -> Bool} {d : DA} {ps : List Pr} (h : jh a b f d ps) (w : List Nat) :
   d.Lang d.s w ↔ (∀ x ∈ w, x < a.K) /\ f (a.acc (a.run a.s w)) (b.acc (b.run b.s w)) = true := by
 unfold DA.Lang
 rw [h.kk]
 have hs : d.s = 0 := by unfold DA.s; rw [h.st]; rfl
 constructor
 · rintro ⟨h1, h2⟩
   rw [hs, h.acc (h.run h.first h1)] at h2
   exact ⟨h1, h2⟩
 · rintro ⟨h1, h2⟩
   refine ⟨h1, ?_⟩
   rw [hs, h.acc (h.run h.first h1)]
   exact h2
theorem Bg {n m : Nat} : ∀ {ps : List Pr}, ps.Nodup -> (∀ p ∈ ps, p.1 < n /\ p.2 < m) -> ps.length <= n * m := by
 intro ps hn hp
 have h1 : (ps.map fun p => p.1 * m + p.2).Nodup := by
   rw [List.Nodup, List.pairwise_map]
   refine List.Pairwise.imp_of_mem (fun {p q} hpm hqm hne e => hne ?_) hn
   have h2 := (hp p hpm).2
   have h3 := (hp q hqm).2
   have e1 : (p.1 * m + p.2) / m = p.1 := by rw [Nat.mul_comm, Nat.mul_add_div (by omega), Nat.div_eq_of_lt h2, Nat.add_zero]
   have e2 : (q.1 * m + q.2) / m = q.1 := by rw [Nat.mul_comm, Nat.mul_add_div (by omega), Nat.div_eq_of_lt h3, Nat.add_zero]
   have e3 : p.1 = q.1 := by rw [<- e1, <- e2, e]
   rw [e3] at e
   exact Prod.ext e3 (by omega)
 have h2 := Dt (n := n * m) h1 fun x hx => by
   obtain ⟨p, hpm, rfl⟩ := List.mem_map.1 hx
   exact qd (hp p hpm).1 (hp p hpm).2
 simpa using h2
structure Aj (a b : DA) (f : Bool -> Bool -> Bool) (ps : List Pr) (ac : List Bool) (nx : List Int) (i x : Nat) : Prop where
 first : ps[0]? = some (a.s, b.s)
 nd : ps.Nodup
 inn : ∀ p ∈ ps, p.1 < a.n /\ p.2 < b.n
 reach : ∀ p ∈ ps, ∃ w : List Nat, (∀ x ∈ w, x < a.K) /\ Bo a b (a.s, b.s) w = p
 le : ac.length <= ps.length
 acs : ac = (ps.take ac.length).map fun p => f (a.acc p.1) (b.acc p.2)
 len : nx.length = ac.length * a.K
 ways : ∀ j y p, (j < i /\ y < a.K \/ j = i /\ y < x) -> ps[j]? = some p -> ∃ t : Nat, nx[j * a.K + y]? = some (t : Int) /\ ps[t]? = some (toP a b p y)
theorem Aj.start {a b : DA} {f : Bool -> Bool -> Bool} (ha : a.Ok) (hb : b.Ok) : Aj a b f [(a.s, b.s)] [] [] 0 0 where
 first := rfl
 nd := by simp
 inn := fun p hp => by
   rw [List.mem_singleton] at hp; subst hp; exact ⟨ha.s_lt, hb.s_lt⟩
 reach := fun p hp => by
   rw [List.mem_singleton] at hp; subst hp; exact ⟨[], by simp, rfl⟩
 le := by simp
 acs := rfl
 len := by simp
 ways := fun j y p h => by omega
theorem Bp (a b : DA) (p : Pr) (w : List Nat) (x : Nat) : Bo a b p (w ++ [x]) = toP a b (Bo a b p w) x := by
 unfold Bo toP
 rw [qT, qT]
 rfl
theorem Aj.state {a b : DA} {f : Bool -> Bool -> Bool} {ps : List Pr} {ac : List Bool} {nx : List Int} {i : Nat} (h : Aj a b f ps ac nx i 0) (hi : ac.length = i) {p : Pr} (hp : ps[i]? = some p) :
   Aj a b f ps (ac ++ [f (a.acc p.1) (b.acc p.2)]) (nx ++ List.replicate a.K 0) i 0 where
 first := h.first
 nd := h.nd
 inn := h.inn
 reach := h.reach
 le := by have := iX hp; simp; omega
 acs := by
   have hl := iX hp
   rw [List.length_append, List.length_singleton, hi, List.take_succ_eq_append_getElem hl, List.map_append]
   have h1 := h.acs
   rw [hi] at h1
   rw [<- h1, (List.getElem?_eq_some_iff.1 hp).2]
   rfl
 len := by rw [List.length_append, List.length_replicate, List.length_append, List.length_singleton, Nat.succ_mul, h.len]
 ways := fun j y q hj hq => by
   obtain ⟨t, e1, e2⟩ := h.ways j y q hj hq
   exact ⟨t, by rw [List.getElem?_append_left (iX e1)]; exact e1, e2⟩
theorem Aj.put {a b : DA} {f : Bool -> Bool -> Bool} (ha : a.Ok) (hb : b.Ok) (hk : a.k = b.k) {ps : List Pr} {ac : List Bool} {nx : List Int} {i x : Nat} (h : Aj a b f ps ac nx i x) (hi : ac.length = i + 1) (hx : x < a.K) {p : Pr} (hp : ps[i]? = some p)
   {ps' : List Pr} {t : Nat} (hps : ps' = ps \/ ps' = ps ++ [toP a b p x] /\ toP a b p x ∉ ps) (ht : ps'[t]? = some (toP a b p x)) :
   Aj a b f ps' ac (nx.set (i * a.K + x) (t : Int)) i (x + 1) := by
 have hpm : p ∈ ps := List.mem_of_getElem? hp
 have hin := h.inn p hpm
 have hkK : b.K = a.K := by unfold DA.K; rw [hk]
 have hq : (toP a b p x).1 < a.n /\ (toP a b p x).2 < b.n := ⟨ha.to_lt hin.1 hx, hb.to_lt hin.2 (by rw [hkK]; exact hx)⟩
 have hr : ∃ w : List Nat, (∀ x ∈ w, x < a.K) /\ Bo a b (a.s, b.s) w = toP a b p x := by
   obtain ⟨w, hw, e⟩ := h.reach p hpm
   refine ⟨w ++ [x], fun y hy => ?_, by rw [Bp, e]⟩
   rcases List.mem_append.1 hy with hy | hy
   · exact hw y hy
   · rw [List.mem_singleton] at hy; subst hy; exact hx
 have hold : ∀ {j : Nat} {q : Pr}, ps[j]? = some q -> ps'[j]? = some q := fun {j q} hj => by
   rcases hps with rfl | ⟨rfl, _⟩
   · exact hj
   · rw [List.getElem?_append_left (iX hj)]; exact hj
 have hlen : i * a.K + x < nx.length := by rw [h.len, hi]; exact qd (Nat.lt_succ_self i) hx
 have hmem : ∀ q ∈ ps', q ∈ ps \/ q = toP a b p x := fun q hq => by
   rcases hps with rfl | ⟨rfl, _⟩
   · exact .inl hq
   · rcases List.mem_append.1 hq with hq | hq
     · exact .inl hq
     · exact .inr (List.mem_singleton.1 hq)
 refine ⟨hold h.first, ?_, fun q hq' => ?_, fun q hq' => ?_, ?_, ?_, by rw [List.length_set]; exact h.len, fun j y q hj hq' => ?_⟩
 · rcases hps with rfl | ⟨rfl, hno⟩
   · exact h.nd
   · refine List.nodup_append.2 ⟨h.nd, by simp, fun u hu v hv e => ?_⟩
     rw [List.mem_singleton] at hv
     subst hv
     exact hno (e ▸ hu)
 · rcases hmem q hq' with h1 | rfl
   · exact h.inn q h1
   · exact hq
 · rcases hmem q hq' with h1 | rfl
   · exact h.reach q h1
   · exact hr
 · rcases hps with rfl | ⟨rfl, _⟩
   · exact h.le
   · have := h.le; simp; omega
 · have h1 := h.acs
   rcases hps with rfl | ⟨rfl, _⟩
   · exact h1
   · rw [List.take_append_of_le_length h.le]; exact h1
 · have hjl : j <= i := by omega
   have hil : i < ps.length := iX hp
   have hq0 : ps[j]? = some q := by
     rcases hps with rfl | ⟨rfl, _⟩
     · exact hq'
     · rw [List.getElem?_append_left (by omega)] at hq'; exact hq'
   by_cases e : j = i /\ y = x
   · obtain ⟨rfl, rfl⟩ := e
     refine ⟨t, by rw [List.getElem?_set_self hlen], ?_⟩
     rw [hp] at hq0
     rw [<- Option.some.inj hq0]
     exact ht
   · have hy : y < a.K := by omega
     obtain ⟨t', e1, e2⟩ := h.ways j y q (by omega) hq0
     refine ⟨t', ?_, hold e2⟩
     rw [List.getElem?_set_ne]
     · exact e1
     · intro e3
       have hK : 0 < a.K := by omega
       have h4 : (i * a.K + x) / a.K = i := by rw [Nat.mul_comm, Nat.mul_add_div hK, Nat.div_eq_of_lt hx, Nat.add_zero]
       have h5 : (j * a.K + y) / a.K = j := by rw [Nat.mul_comm, Nat.mul_add_div hK, Nat.div_eq_of_lt hy, Nat.add_zero]
       have h6 : i = j := by rw [<- h4, <- h5, e3]
       subst h6
       exact e ⟨rfl, by omega⟩
theorem Aj.row {a b : DA} {f : Bool -> Bool -> Bool} {ps : List Pr} {ac : List Bool} {nx : List Int} {i : Nat} (h : Aj a b f ps ac nx i a.K) : Aj a b f ps ac nx (i + 1) 0 :=
 { h with ways := fun j y p hj hp => h.ways j y p (by omega) hp }
theorem Aj.done {a b : DA} {f : Bool -> Bool -> Bool} {ps : List Pr} {ac : List Bool} {nx : List Int} {i : Nat} (h : Aj a b f ps ac nx i 0) (hi : ac.length = i) (hl : ps.length <= ac.length) : jh a b f ⟨a.k, 0, nx, ac⟩ ps where
 k := rfl
 st := rfl
 first := h.first
 nd := h.nd
 inn := h.inn
 reach := h.reach
 ac := by
   have h1 := h.acs
   rw [List.take_of_length_le hl] at h1
   exact h1
 len := by
   have := h.le
   show nx.length = _
   rw [h.len, show ac.length = ps.length by omega]
 nx := fun j x p hj hx => h.ways j x p (.inl ⟨by have := iX hj; omega, hx⟩) hj
end Go.Pk
namespace Go.Pk
def sd (m : Nat) (w v : List Nat) : Prop := if m = 0 then v = w else if m = 1 then w <+: v else w <+: v /\ w.length < v.length
structure CY (d : DA) (w : List Nat) (m : Nat) : Prop where
 ok : d.Ok
 st : d.s = 1
 mm : m <= 2
 n : d.n = w.length + 2 + m / 2
 acc : ∀ s, s < d.n -> d.acc s = decide (s = w.length + 1 + m / 2)
 sink : ∀ x, x < d.K -> d.to 0 x = 0
 mid : ∀ (i x : Nat) (hi : i < w.length), x < d.K -> d.to (i + 1) x = if x = w[i] then i + 2 else 0
 last : ∀ x, x < d.K -> d.to (w.length + 1) x = if m = 0 then 0 else w.length + m
 more : m = 2 -> ∀ x, x < d.K -> d.to (w.length + 2) x = w.length + 2
theorem CY.run0 {d : DA} {w : List Nat} {m : Nat} (h : CY d w m) : ∀ {v : List Nat}, (∀ x ∈ v, x < d.K) -> d.run 0 v = 0
 | [], _ => rfl
 | x :: v, hv => by
   show d.run (d.to 0 x) v = 0
   rw [h.sink x (hv x List.mem_cons_self)]
   exact h.run0 fun y hy => hv y (List.mem_cons_of_mem _ hy)
theorem CY.runM {d : DA} {w : List Nat} {m s : Nat} (h : CY d w m) (hs : ∀ x, x < d.K -> d.to s x = s) : ∀ {v : List Nat}, (∀ x ∈ v, x < d.K) -> d.run s v = s
 | [], _ => rfl
 | x :: v, hv => by
   show d.run (d.to s x) v = s
   rw [hs x (hv x List.mem_cons_self)]
   exact h.runM hs fun y hy => hv y (List.mem_cons_of_mem _ hy)
theorem CY.acc_at {d : DA} {w : List Nat} {m s : Nat} (h : CY d w m) (hs : s < w.length + 2 + m / 2) : d.acc s = true ↔ s = w.length + 1 + m / 2 := by
 rw [h.acc s (by rw [h.n]; exact hs)]; simp
theorem Gl {w : List Nat} {i : Nat} (h : i < w.length) : w.drop i = w[i] :: w.drop (i + 1) := List.drop_eq_getElem_cons h
theorem CY.from {d : DA} {w : List Nat} {m : Nat} (h : CY d w m) : ∀ {v : List Nat} {i : Nat}, i <= w.length -> (∀ x ∈ v, x < d.K) -> (d.acc (d.run (i + 1) v) = true ↔ sd m (w.drop i) v)
 | [], i, hi, _ => by
   have hm := h.mm
   show d.acc (i + 1) = true ↔ _
   rw [h.acc_at (by omega)]
   unfold sd
   by_cases h0 : m = 0
   · subst h0
     simp only [if_true]
     constructor
     · intro e; rw [List.drop_eq_nil_of_le (by omega)]
     · intro e
       have := congrArg List.length e
       simp only [List.length_nil, List.length_drop] at this
       omega
   · rw [if_neg h0]
     by_cases h1 : m = 1
     · subst h1
       simp only [if_true, List.prefix_nil, List.drop_eq_nil_iff]
       omega
     · rw [if_neg h1]
       simp only [List.length_nil]
       omega
 | x :: v, i, hi, hv => by
   have hm := h.mm
   have hx := hv x List.mem_cons_self
   have hv' : ∀ y ∈ v, y < d.K := fun y hy => hv y (List.mem_cons_of_mem _ hy)
   show d.acc (d.run (d.to (i + 1) x) v) = true ↔ _
   rcases Nat.lt_or_ge i w.length with hlt | hge
   · rw [h.mid i x hlt hx, Gl hlt]
     by_cases e : x = w[i]
     · rw [if_pos e, h.from (i := i + 1) hlt hv']
       unfold sd
       subst e
       simp only [List.cons.injEq, true_and, List.cons_prefix_cons, List.length_cons, Nat.add_lt_add_iff_right]
     · rw [if_neg e, h.run0 hv', h.acc_at (by omega)]
       have hne : ¬ (x :: v = w[i] :: w.drop (i + 1)) := fun h0 => e (List.cons.inj h0).1
       have hnp : ¬ (w[i] :: w.drop (i + 1) <+: x :: v) := fun h0 => e (List.cons_prefix_cons.1 h0).1.symm
       constructor
       · intro h0; omega
       · intro h0
         unfold sd at h0
         split at h0
         · exact (hne h0).elim
         · split at h0
           · exact (hnp h0).elim
           · exact (hnp h0.1).elim
   · have hi' : i = w.length := by omega
     subst hi'
     rw [List.drop_length, h.last x hx]
     unfold sd
     by_cases h0 : m = 0
     · subst h0
       rw [if_pos rfl, h.run0 hv', h.acc_at (by omega)]
       simp
     · rw [if_neg h0, if_neg h0]
       by_cases h1 : m = 1
       · subst h1
         rw [h.runM (fun y hy => by rw [h.last y hy]; simp) hv', h.acc_at (by omega)]
         simp
       · have h2 : m = 2 := by omega
         subst h2
         rw [h.runM (h.more rfl) hv', h.acc_at (by omega)]
         simp
theorem CY.lang {d : DA} {w : List Nat} {m : Nat} (h : CY d w m) (v : List Nat) : d.Lang d.s v ↔ (∀ x ∈ v, x < d.K) /\ sd m w v := by
 unfold DA.Lang
 rw [h.st]
 refine and_congr_right fun hv => ?_
 have := h.from (i := 0) (Nat.zero_le _) hv
 simpa using this
def oK (k : Nat) (t : Int) : List Int := List.replicate k t
def fV (k : Nat) : List Nat -> Nat -> List Int
 | [], _ => []
 | x :: w, s => (oK k 0).set x ((s + 1 : Nat) : Int) ++ fV k w (s + 1)
theorem vD (k : Nat) : ∀ (u : List Nat) (x s : Nat), fV k (u ++ [x]) s = fV k u s ++ (oK k 0).set x ((s + u.length + 1 : Nat) : Int)
 | [], x, s => by simp [fV]
 | y :: u, x, s => by
   simp only [List.cons_append, fV]
   rw [vD k u x (s + 1), List.append_assoc]
   simp only [List.length_cons]
   rw [show s + 1 + u.length + 1 = s + (u.length + 1) + 1 by omega]
theorem nC (k : Nat) : ∀ (u : List Nat) (s : Nat), (fV k u s).length = u.length * k
 | [], s => by simp [fV]
 | y :: u, s => by
   simp only [fV, List.length_append, List.length_set, oK, List.length_replicate, List.length_cons, Nat.succ_mul, nC k u (s + 1)]
   omega
theorem IH {nx A R B : List Int} {s k x : Nat} (e : nx = A ++ (R ++ B)) (hA : A.length = s * k) (hR : R.length = k) (hx : x < k) : nx.getD (s * k + x) 0 = R.getD x 0 := by
 subst e
 rw [List.getD_eq_getElem?_getD, List.getD_eq_getElem?_getD, List.getElem?_append_right (by omega), hA, show s * k + x - s * k = x by omega, List.getElem?_append_left (by omega)]
theorem yp (k : Nat) : ∀ (u : List Nat) (s i : Nat) (hi : i < u.length), fV k u s = fV k (u.take i) s ++ ((oK k 0).set u[i] ((s + i + 1 : Nat) : Int) ++ fV k (u.drop (i + 1)) (s + i + 1))
 | [], _, _, h => absurd h (Nat.not_lt_zero _)
 | y :: u, s, 0, _ => by simp [fV]
 | y :: u, s, i + 1, h => by
   have hi : i < u.length := by simpa using h
   have e := yp k u (s + 1) i hi
   simp only [List.take_succ_cons, List.drop_succ_cons, List.getElem_cons_succ, fV]
   rw [e, List.append_assoc]
   rw [show s + 1 + i + 1 = s + (i + 1) + 1 by omega]
theorem wi {k x : Nat} (t : Int) (hx : x < k) : (oK k t).getD x 0 = t := by simp [oK, List.getD_eq_getElem?_getD, hx]
theorem AO {k x y : Nat} (v : Int) (hx : x < k) (hy : y < k) : ((oK k 0).set y v).getD x 0 = if x = y then v else 0 := by
 rw [List.getD_eq_getElem?_getD]
 by_cases e : x = y
 · subst e
   rw [List.getElem?_set_self (by simpa [oK] using hx), if_pos rfl]; rfl
 · rw [List.getElem?_set_ne (fun e2 => e e2.symm), if_neg e]
   simp [oK, hx]
def Cc (k : Nat) (w : List Nat) (t : Int) : List Int := oK k 0 ++ (fV k w 1 ++ oK k t)
def DM (w : List Nat) : List Bool := List.replicate (w.length + 1) false ++ [true]
def chD (k : Nat) (w : List Nat) (t : Int) : DA := ⟨(k : Int), 1, Cc k w t, DM w⟩
theorem gq (w : List Nat) : (DM w).length = w.length + 2 := by simp [DM]
theorem ot (k : Nat) (w : List Nat) (t : Int) : (Cc k w t).length = (w.length + 2) * k := by
 simp only [Cc, List.length_append, oK, List.length_replicate, nC]
 rw [show w.length + 2 = w.length + 1 + 1 by omega, Nat.succ_mul, Nat.succ_mul]
 omega
theorem yD (k : Nat) : ∀ (u : List Nat) (s : Nat) (v : Int), v ∈ fV k u s -> v = 0 \/ ((s : Int) < v /\ v <= ((s + u.length : Nat) : Int))
 | [], s, v, h => by simp [fV] at h
 | y :: u, s, v, h => by
   simp only [fV, List.mem_append] at h
   rcases h with h | h
   · rcases List.mem_or_eq_of_mem_set h with h | h
     · simp [oK, List.mem_replicate] at h; exact .inl h.2
     · simp only [List.length_cons]; omega
   · rcases yD k u (s + 1) v h with h | h
     · exact .inl h
     · simp only [List.length_cons]; omega
theorem GY {w : List Nat} {s : Nat} (hs : s < w.length + 2) : (DM w).getD s false = decide (s = w.length + 1) := by
 unfold DM
 rw [List.getD_eq_getElem?_getD]
 by_cases e : s = w.length + 1
 · subst e
   rw [List.getElem?_append_right (by simp)]
   simp
 · rw [List.getElem?_append_left (by simp; omega), List.getElem?_replicate, if_pos (by omega)]
   simp [e]
theorem Cr {k : Nat} (hk1 : 1 <= k) (hk2 : k <= 512) {w : List Nat} (hw : ∀ x ∈ w, x < k) (hl : w.length <= 65534) (m : Nat) (hm : m < 2) : CY (chD k w (if m = 0 then 0 else ((w.length + 1 : Nat) : Int))) w m := by
 have hK : (chD k w (if m = 0 then 0 else ((w.length + 1 : Nat) : Int))).K = k := by simp [DA.K, chD]
 have hto : ∀ {s x : Nat} {A R B : List Int}, Cc k w (if m = 0 then 0 else ((w.length + 1 : Nat) : Int)) = A ++ (R ++ B) -> A.length = s * k -> R.length = k -> x < k -> (chD k w (if m = 0 then 0 else ((w.length + 1 : Nat) : Int))).to s x = (R.getD x 0).toNat := fun e hA hR hx => by
   unfold DA.to
   rw [hK]
   exact congrArg Int.toNat (IH e hA hR hx)
 have hn : (chD k w (if m = 0 then 0 else ((w.length + 1 : Nat) : Int))).n = w.length + 2 := gq w
 have hm2 : m / 2 = 0 := by omega
 refine ⟨⟨?_, ?_, ?_, ?_, ?_, ?_, ?_, ?_⟩, rfl, by omega, by rw [hn, hm2], fun s hs => ?_, fun x hx => ?_, fun i x hi hx => ?_, fun x hx => ?_, fun e => by omega⟩
 · show (1 : Int) <= (k : Int); omega
 · show (k : Int) <= 512; omega
 · rw [show (chD k w (if m = 0 then 0 else ((w.length + 1 : Nat) : Int))).ac = DM w from rfl, gq]; omega
 · rw [show (chD k w (if m = 0 then 0 else ((w.length + 1 : Nat) : Int))).ac = DM w from rfl, gq]; omega
 · show ((Cc k w _).length : Int) = ((DM w).length : Int) * (k : Int)
   rw [ot, gq, Int.natCast_mul]
 · show (0 : Int) <= 1; omega
 · show (1 : Int) < ((DM w).length : Int); rw [gq]; omega
 · intro v hv
   show 0 <= v /\ v < ((DM w).length : Int)
   rw [gq]
   have hv' : v ∈ Cc k w (if m = 0 then 0 else ((w.length + 1 : Nat) : Int)) := hv
   unfold Cc at hv'
   rcases List.mem_append.1 hv' with h | h
   · simp [oK, List.mem_replicate] at h; omega
   · rcases List.mem_append.1 h with h | h
     · rcases yD k w 1 v h with h | h <;> omega
     · have := (List.mem_replicate.1 h).2
       split at this <;> omega
 · show (DM w).getD s false = _
   rw [hn] at hs
   rw [GY hs, hm2]
   try simp
 · rw [hK] at hx
   rw [hto (A := []) (s := 0) (x := x) (by unfold Cc; rfl) (by simp) (by simp [oK]) hx, wi _ hx]
   try rfl
 · rw [hK] at hx
   have e := yp k w 1 i hi
   rw [hto (A := oK k 0 ++ fV k (w.take i) 1) (s := i + 1) (x := x) (R := (oK k 0).set w[i] ((1 + i + 1 : Nat) : Int)) (by unfold Cc; rw [e]; simp only [List.append_assoc]; rfl)
     (by rw [List.length_append, nC, List.length_take, Nat.min_eq_left (by omega), oK, List.length_replicate, Nat.succ_mul]; omega) (by simp [oK]) hx, AO _ hx (hw _ (List.getElem_mem hi))]
   split
   · show (((1 + i + 1 : Nat) : Int)).toNat = i + 2
     omega
   · rfl
 · rw [hK] at hx
   rw [hto (A := oK k 0 ++ fV k w 1) (s := w.length + 1) (x := x) (B := []) (by unfold Cc; simp only [List.append_assoc, List.append_nil]; rfl)
     (by rw [List.length_append, nC, oK, List.length_replicate, Nat.succ_mul]; omega) (by simp [oK]) hx, wi _ hx]
   split
   · rfl
   · have : m = 1 := by omega
     subst this; rfl
def gd (k at_ : Nat) (v : Int) (nx : List Int) : Nat -> List Int
 | 0 => nx
 | j + 1 => (gd k at_ v nx j).set (at_ * k + j) v
theorem nT (k a : Nat) (v : Int) (nx : List Int) : ∀ j, (gd k a v nx j).length = nx.length
 | 0 => rfl
 | j + 1 => by simp [gd, nT k a v nx j]
theorem ui (k a : Nat) (v : Int) (nx : List Int) : ∀ j i, (gd k a v nx j)[i]? = if a * k <= i /\ i < a * k + j /\ i < nx.length then some v else nx[i]?
 | 0, i => by rw [gd, if_neg (by omega)]
 | j + 1, i => by
   rw [gd, List.getElem?_set, nT, ui k a v nx j i]
   by_cases e : a * k + j = i
   · subst e
     rw [if_pos rfl]
     by_cases hl : a * k + j < nx.length
     · rw [if_pos hl, if_pos (by omega)]
     · rw [if_neg hl, if_neg (by omega), List.getElem?_eq_none (by omega)]
   · rw [if_neg e]
     by_cases h1 : a * k <= i /\ i < a * k + j /\ i < nx.length
     · rw [if_pos h1, if_pos (by omega)]
     · rw [if_neg h1, if_neg (by omega)]
theorem HN {k : Nat} (hk1 : 1 <= k) (hk2 : k <= 512) {w : List Nat} (hw : ∀ x ∈ w, x < k) (hl : w.length <= 65533) {nx : List Int} {ac : List Bool}
   (hnx : nx = gd k (w.length + 1) ((w.length + 2 : Nat) : Int) (Cc k w ((w.length + 1 : Nat) : Int) ++ oK k ((w.length + 2 : Nat) : Int)) k) (hac : ac = (DM w).set (w.length + 1) false ++ [true]) :
   CY ⟨(k : Int), 1, nx, ac⟩ w 2 := by
 have hb := Cr hk1 hk2 hw (by omega) 1 (by omega)
 simp only [show (1 : Nat) ≠ 0 by omega, if_false] at hb
 have hKb : (chD k w ((w.length + 1 : Nat) : Int)).K = k := by simp [DA.K, chD]
 have hnb : (chD k w ((w.length + 1 : Nat) : Int)).n = w.length + 2 := gq w
 have hlen : nx.length = (w.length + 3) * k := by
   rw [hnx, nT, List.length_append, ot, oK, List.length_replicate, <- Nat.succ_mul]
 have hacl : ac.length = w.length + 3 := by rw [hac]; simp [gq]
 have hK : (⟨(k : Int), 1, nx, ac⟩ : DA).K = k := by simp [DA.K]
 -- the ways
 have hto : ∀ s x, x < k -> s < w.length + 3 -> (⟨(k : Int), 1, nx, ac⟩ : DA).to s x = if s < w.length + 1 then (chD k w ((w.length + 1 : Nat) : Int)).to s x else w.length + 2 := fun s x hx hs => by
   have hlt := qd hs hx
   unfold DA.to
   rw [hK, hKb]
   show (nx.getD (s * k + x) 0).toNat = _
   have hl2 : (Cc k w ((w.length + 1 : Nat) : Int) ++ oK k ((w.length + 2 : Nat) : Int)).length = (w.length + 3) * k := by
     rw [List.length_append, ot, oK, List.length_replicate, <- Nat.succ_mul]
   rw [hnx, List.getD_eq_getElem?_getD, ui, hl2]
   have e1 : (w.length + 2) * k = (w.length + 1) * k + k := by rw [<- Nat.succ_mul]
   by_cases h1 : s < w.length + 1
   · have h2 := qd h1 hx
     rw [if_neg (by omega), if_pos h1, List.getElem?_append_left (by rw [ot]; omega), <- List.getD_eq_getElem?_getD]
     rfl
   · rw [if_neg h1]
     by_cases h3 : s = w.length + 1
     · subst h3
       rw [if_pos ⟨by omega, by omega, hlt⟩]; rfl
     · have h4 : s = w.length + 2 := by omega
       subst h4
       rw [if_neg (by omega), List.getElem?_append_right (by rw [ot]; omega), ot, show (w.length + 2) * k + x - (w.length + 2) * k = x by omega, <- List.getD_eq_getElem?_getD, wi _ hx]
       rfl
 refine ⟨⟨by show (1 : Int) <= (k : Int); omega, by show (k : Int) <= 512; omega, by show 1 <= ac.length; omega, by show ac.length <= 65536; omega, by show (nx.length : Int) = (ac.length : Int) * (k : Int); rw [hlen, hacl, Int.natCast_mul], by show (0 : Int) <= 1; omega, by show (1 : Int) < (ac.length : Int); omega, fun v hv => ?_⟩, rfl, by omega, hacl, fun s hs => ?_, fun x hx => ?_, fun i x hi hx => ?_, fun x hx => ?_, fun _ x hx => ?_⟩
 · show 0 <= v /\ v < (ac.length : Int)
   obtain ⟨i, hi, e⟩ := List.mem_iff_getElem.1 hv
   have hi' : i < nx.length := hi
   have e' : nx[i]? = some v := by rw [List.getElem?_eq_getElem hi']; exact congrArg some e
   have hs : i / k < w.length + 3 := Nat.div_lt_of_lt_mul (by rw [Nat.mul_comm]; omega)
   have hx : i % k < k := Nat.mod_lt _ (by omega)
   rw [hnx, ui] at e'
   split at e'
   · have := Option.some.inj e'; omega
   · rcases Nat.lt_or_ge i (Cc k w ((w.length + 1 : Nat) : Int)).length with h | h
     · rw [List.getElem?_append_left h] at e'
       have h0 := hb.ok.nx0 v (List.mem_of_getElem? e')
       have h1 : ((chD k w ((w.length + 1 : Nat) : Int)).ac.length : Int) = ((w.length + 2 : Nat) : Int) := congrArg Int.ofNat hnb
       omega
     · rw [List.getElem?_append_right h] at e'
       have := List.mem_of_getElem? e'
       have := (List.mem_replicate.1 this).2
       omega
 · have hs' : s < w.length + 3 := by have : s < ac.length := hs; omega
   show ac.getD s false = decide (s = w.length + 1 + 2 / 2)
   rw [hac, List.getD_eq_getElem?_getD]
   rcases Nat.lt_or_ge s (w.length + 2) with h | h
   · rw [List.getElem?_append_left (by simp [gq]; omega), List.getElem?_set]
     by_cases e : w.length + 1 = s
     · subst e; simp [gq]
     · rw [if_neg e, <- List.getD_eq_getElem?_getD, GY h]
       have h1 : ¬ s = w.length + 1 := fun e2 => e e2.symm
       have h2 : ¬ s = w.length + 1 + 2 / 2 := by omega
       simp [h1]
       omega
   · have : s = w.length + 2 := by omega
     subst this
     rw [List.getElem?_append_right (by simp [gq])]
     simp [gq]
 · rw [hK] at hx
   rw [hto 0 x hx (by omega), if_pos (by omega)]
   exact hb.sink x (by rw [hKb]; exact hx)
 · rw [hK] at hx
   rw [hto (i + 1) x hx (by omega), if_pos (by omega)]
   exact hb.mid i x hi (by rw [hKb]; exact hx)
 · rw [hK] at hx
   rw [hto _ x hx (by omega), if_neg (by omega)]
   rfl
 · rw [hK] at hx
   rw [hto _ x hx (by omega), if_neg (by omega)]
def noD (k : Nat) : DA := ⟨(k : Int), 0, List.replicate k 0, [false]⟩
theorem G4 {k : Nat} (h1 : 1 <= k) (h2 : k <= 512) : (noD k).Ok := by
 refine ⟨?_, ?_, ?_, ?_, ?_, ?_, ?_, fun v hv => ?_⟩
 · show (1 : Int) <= (k : Int); omega
 · show (k : Int) <= 512; omega
 · show 1 <= 1; omega
 · show 1 <= 65536; omega
 · show ((List.replicate k (0 : Int)).length : Int) = ((1 : Nat) : Int) * (k : Int); rw [List.length_replicate]; omega
 · show (0 : Int) <= 0; omega
 · show (0 : Int) < ((1 : Nat) : Int); omega
 · have := (List.mem_replicate.1 (show v ∈ List.replicate k (0 : Int) from hv)).2
   subst this
   show (0 : Int) <= 0 /\ (0 : Int) < ((1 : Nat) : Int)
   omega
end Go.Pk
namespace Go.Pk
def F6 (ad lb dg : Nat -> Bool) (s x : Nat) : Nat :=
 if s = 1 then (if ad x = true then 3 else if lb x = true /\ dg x = false then 2 else 0) else if s = 2 then (if ad x = false /\ lb x = true then 2 else 0) else 0
def hNx (ad lb dg : Nat -> Bool) (k j : Nat) : List Int := (List.range (4 * k)).map fun i => if i % k < j then ((F6 ad lb dg (i / k) (i % k) : Nat) : Int) else 0
theorem tR (ad lb dg : Nat -> Bool) (k j : Nat) : (hNx ad lb dg k j).length = 4 * k := by simp [hNx]
theorem tQ {ad lb dg : Nat -> Bool} {k j i : Nat} (hi : i < 4 * k) : (hNx ad lb dg k j)[i]? = some (if i % k < j then ((F6 ad lb dg (i / k) (i % k) : Nat) : Int) else 0) := by
 unfold hNx; rw [List.getElem?_map, List.getElem?_range hi]; rfl
theorem Gy (ad lb dg : Nat -> Bool) (k : Nat) : hNx ad lb dg k 0 = List.replicate (4 * k) 0 := by
 refine List.ext_getElem? fun i => ?_
 rcases Nat.lt_or_ge i (4 * k) with h | h
 · rw [tQ h, if_neg (Nat.not_lt_zero _), List.getElem?_replicate, if_pos h]
 · rw [List.getElem?_eq_none (by rw [tR]; exact h), List.getElem?_eq_none (by rw [List.length_replicate]; exact h)]
theorem De {s k x : Nat} (hx : x < k) : (s * k + x) / k = s /\ (s * k + x) % k = x := by
 have hk : 0 < k := by omega
 refine ⟨by rw [Nat.mul_comm, Nat.mul_add_div hk, Nat.div_eq_of_lt hx, Nat.add_zero], ?_⟩
 rw [Nat.mul_comm, Nat.mul_add_mod]; exact Nat.mod_eq_of_lt hx
theorem Gx {ad lb dg : Nat -> Bool} {k j : Nat} (hj : j < k) {l : List Int} (hl : l.length = 4 * k)
   (h : ∀ i, i < 4 * k -> l[i]? = some (if i % k = j then ((F6 ad lb dg (i / k) j : Nat) : Int) else (hNx ad lb dg k j).getD i 0)) : l = hNx ad lb dg k (j + 1) := by
 refine List.ext_getElem? fun i => ?_
 rcases Nat.lt_or_ge i (4 * k) with hi | hi
 · rw [h i hi, tQ hi]
   by_cases e : i % k = j
   · rw [if_pos e, if_pos (by omega), e]
   · rw [if_neg e, List.getD_eq_getElem?_getD, tQ hi]
     by_cases e2 : i % k < j
     · rw [if_pos e2, if_pos (by omega)]; rfl
     · rw [if_neg e2, if_neg (by omega)]; rfl
 · rw [List.getElem?_eq_none (by omega), List.getElem?_eq_none (by rw [tR]; exact hi)]
theorem zw {ad lb dg : Nat -> Bool} {k j : Nat} (hj : j < k) {l : List Int} (h1 : l = (if ad j = true then (hNx ad lb dg k j).set (1 * k + j) 3 else if lb j = true then (if dg j = false then ((hNx ad lb dg k j).set (2 * k + j) 2).set (1 * k + j) 2 else (hNx ad lb dg k j).set (2 * k + j) 2) else hNx ad lb dg k j)) :
   l = hNx ad lb dg k (j + 1) := by
 have b1 : 1 * k + j < 4 * k := by omega
 have b2 : 2 * k + j < 4 * k := by omega
 refine Gx hj (by rw [h1]; repeat' (first | split | simp [tR])) fun i hi => ?_
 have hd := Nat.div_add_mod i k
 have hdiv : i / k < 4 := Nat.div_lt_of_lt_mul (by rw [Nat.mul_comm]; omega)
 have old : (hNx ad lb dg k j)[i]? = some ((hNx ad lb dg k j).getD i 0) := by rw [List.getD_eq_getElem?_getD, tQ hi]; rfl
 by_cases e : i % k = j
 · -- a cell of this symbol
   have hz : (hNx ad lb dg k j).getD i 0 = 0 := by rw [List.getD_eq_getElem?_getD, tQ hi, if_neg (by omega)]; rfl
   rw [if_pos e]
   rw [hz] at old
   have hs : i / k = 0 \/ i / k = 1 \/ i / k = 2 \/ i / k = 3 := by
     clear hd
     revert hdiv
     generalize i / k = q
     intro hq
     omega
   have ei : i = i / k * k + j := by rw [Nat.mul_comm]; omega
   have l1 : (hNx ad lb dg k j).length = 4 * k := tR ad lb dg k j
   have og : (hNx ad lb dg k j)[i]'(by rw [l1]; exact hi) = 0 := by
     rw [List.getElem?_eq_getElem (by rw [l1]; exact hi)] at old
     exact Option.some.inj old
   rcases hs with hs | hs | hs | hs <;> rw [hs] at ei ⊢ <;> rw [h1] <;> unfold F6
   · have n1 : ¬ k + j = i := by omega
     have n2 : ¬ 2 * k + j = i := by omega
     cases ha : ad j <;> cases hb : lb j <;> cases hg : dg j <;> simp [List.getElem?_set, n1, n2, old]
   · have n2 : ¬ 2 * k + j = i := by omega
     have n1 : k + j = i := by omega
     cases ha : ad j <;> cases hb : lb j <;> cases hg : dg j <;> simp [List.getElem?_set, n1, n2, old, og, l1, hi]
   · have n1 : ¬ k + j = i := by omega
     have n2 : 2 * k + j = i := by omega
     cases ha : ad j <;> cases hb : lb j <;> cases hg : dg j <;> simp [List.getElem?_set, n1, n2, old, og, l1, hi]
   · have n1 : ¬ k + j = i := by omega
     have n2 : ¬ 2 * k + j = i := by omega
     cases ha : ad j <;> cases hb : lb j <;> cases hg : dg j <;> simp [List.getElem?_set, n1, n2, old]
 · rw [if_neg e, h1]
   have n1 : ¬ k + j = i := fun e2 => e (by rw [<- e2, <- Nat.one_mul k, Nat.one_mul k]; exact (by have := (De (s := 1) hj).2; rwa [Nat.one_mul] at this))
   have n2 : ¬ 2 * k + j = i := fun e2 => e (by rw [<- e2]; exact (De hj).2)
   generalize (hNx ad lb dg k j).getD i 0 = v at old ⊢
   cases ha : ad j <;> cases hb : lb j <;> cases hg : dg j <;> simp [List.getElem?_set, n1, n2, old]
def hD (ad lb dg : Nat -> Bool) (k : Nat) : DA := ⟨(k : Int), 1, hNx ad lb dg k k, [false, false, true, true]⟩
def hsW (ad lb dg : Nat -> Bool) : List Nat -> Prop
 | [] => False
 | x :: r => ad x = true /\ r = [] \/ ad x = false /\ lb x = true /\ dg x = false /\ ∀ y ∈ r, ad y = false /\ lb y = true
theorem HJ (ad lb dg : Nat -> Bool) (s x : Nat) : F6 ad lb dg s x < 4 := by unfold F6; repeat' (first | split | omega)
theorem Jf {ad lb dg : Nat -> Bool} {k : Nat} (h1 : 1 <= k) (h2 : k <= 512) : (hD ad lb dg k).Ok := by
 refine ⟨?_, ?_, ?_, ?_, ?_, ?_, ?_, fun v hv => ?_⟩
 · show (1 : Int) <= (k : Int); omega
 · show (k : Int) <= 512; omega
 · show 1 <= 4; omega
 · show 4 <= 65536; omega
 · show ((hNx ad lb dg k k).length : Int) = ((4 : Nat) : Int) * (k : Int); rw [tR, Int.natCast_mul]
 · show (0 : Int) <= 1; omega
 · show (1 : Int) < ((4 : Nat) : Int); omega
 · obtain ⟨i, _, rfl⟩ := List.mem_map.1 (show v ∈ hNx ad lb dg k k from hv)
   show 0 <= _ /\ _ < ((4 : Nat) : Int)
   have := HJ ad lb dg (i / k) (i % k)
   split <;> omega
theorem Gw {ad lb dg : Nat -> Bool} {k s x : Nat} (hs : s < 4) (hx : x < k) : (hD ad lb dg k).to s x = F6 ad lb dg s x := by
 unfold DA.to
 have hK : (hD ad lb dg k).K = k := by simp [DA.K, hD]
 rw [hK]
 show ((hNx ad lb dg k k).getD (s * k + x) 0).toNat = _
 have hi : s * k + x < 4 * k := qd hs hx
 rw [List.getD_eq_getElem?_getD, tQ hi, (De hx).1, (De hx).2, if_pos hx]
 rfl
theorem zu {ad lb dg : Nat -> Bool} {k : Nat} : ∀ {v : List Nat}, (∀ x ∈ v, x < k) -> (hD ad lb dg k).run 0 v = 0
 | [], _ => rfl
 | x :: v, hv => by
   show (hD ad lb dg k).run ((hD ad lb dg k).to 0 x) v = 0
   rw [Gw (by omega) (hv x List.mem_cons_self)]
   exact zu fun y hy => hv y (List.mem_cons_of_mem _ hy)
theorem E9 {ad lb dg : Nat -> Bool} {k : Nat} : ∀ {v : List Nat}, (∀ x ∈ v, x < k) -> ((hD ad lb dg k).acc ((hD ad lb dg k).run 2 v) = true ↔ ∀ y ∈ v, ad y = false /\ lb y = true)
 | [], _ => by simp [DA.run, DA.acc, hD]
 | x :: v, hv => by
   have hv' : ∀ y ∈ v, y < k := fun y hy => hv y (List.mem_cons_of_mem _ hy)
   show (hD ad lb dg k).acc ((hD ad lb dg k).run ((hD ad lb dg k).to 2 x) v) = true ↔ _
   rw [Gw (by omega) (hv x List.mem_cons_self)]
   unfold F6
   rw [if_neg (by omega), if_pos rfl]
   by_cases h : ad x = false /\ lb x = true
   · rw [if_pos h, E9 hv']
     simp [h]
   · rw [if_neg h, zu hv']
     simp only [List.mem_cons, forall_eq_or_imp, h, false_and, iff_false]
     simp [DA.acc, hD]
theorem HI {ad lb dg : Nat -> Bool} {k : Nat} (v : List Nat) : (hD ad lb dg k).Lang 1 v ↔ (∀ x ∈ v, x < k) /\ hsW ad lb dg v := by
 have hK : (hD ad lb dg k).K = k := by simp [DA.K, hD]
 unfold DA.Lang
 rw [hK]
 refine and_congr_right fun hv => ?_
 cases v with
 | nil => simp [hsW, DA.run, DA.acc, hD]
 | cons x v =>
   have hv' : ∀ y ∈ v, y < k := fun y hy => hv y (List.mem_cons_of_mem _ hy)
   show (hD ad lb dg k).acc ((hD ad lb dg k).run ((hD ad lb dg k).to 1 x) v) = true ↔ _
   rw [Gw (by omega) (hv x List.mem_cons_self)]
   unfold F6 hsW
   rw [if_pos rfl]
   by_cases ha : ad x = true
   · rw [if_pos ha]
     simp only [ha, true_and, Bool.true_eq_false, false_and, or_false]
     cases v with
     | nil => simp [DA.run, DA.acc, hD]
     | cons y v =>
       have hv2 : ∀ z ∈ v, z < k := fun z hz => hv' z (List.mem_cons_of_mem _ hz)
       show (hD ad lb dg k).acc ((hD ad lb dg k).run ((hD ad lb dg k).to 3 y) v) = true ↔ _
       rw [Gw (by omega) (hv' y List.mem_cons_self)]
       unfold F6
       rw [if_neg (by omega), if_neg (by omega), zu hv2]
       simp [DA.acc, hD]
   · have ha' : ad x = false := by simpa using ha
     rw [if_neg ha]
     simp only [ha', Bool.false_eq_true, false_and, false_or, true_and]
     by_cases hb : lb x = true /\ dg x = false
     · rw [if_pos hb, E9 hv']
       simp [hb]
     · rw [if_neg hb, zu hv']
       simp only [DA.acc, hD]
       constructor
       · intro h; simp at h
       · intro h; exact absurd ⟨h.1, h.2.1⟩ hb
end Go.Pk
namespace Go.Pk
theorem Fz (ts : List Txt) (s : Txt) : 0 <= ofT ts s /\ ofT ts s <= (ts.length : Int) := by
 unfold ofT
 have := List.countP_le_length (p := fun x => decide (x < s)) (l := ts)
 split <;> omega
theorem lM {h : Hst} (o : h.ok) (r : aU h = true) : ct (cX h) = some h := by
 unfold aU at r
 cases hh : ct (cX h) with
 | none => rw [hh] at r; cases r
 | some g => rw [hh] at r; rw [(d7 (fP hh) o).1 r]
theorem D6 {s : List UInt8} {h : Hst} (e : ct s = some h) : h.kind = 1 \/ h.kind = 2 \/ h.kind = 3 := by
 unfold ct at e
 split at e
 · split at e
   · rw [Option.map_eq_some_iff] at e
     obtain ⟨a, _, rfl⟩ := e
     exact .inr (.inr rfl)
   · cases e
 split at e
 · rw [Option.map_eq_some_iff] at e
   obtain ⟨a, _, rfl⟩ := e
   exact .inr (.inl rfl)
 split at e
 · rw [<- Option.some.inj e]; exact .inl rfl
 · cases e
def bL (h : Hst) : List Txt := if aU h = true then (if h.kind = 1 then (aq h).reverse else [cX h]) else []
def hwV (ts : List Txt) (h : Hst) : List Int := (bL h).map (ofT ts)
theorem dv {h : Hst} (o : h.ok) (hk : h.kind = 1) (hr : aU h = true) : aq h = aZ 46 [] h.name /\ aq h ≠ [] := by
 have e : aq h = aZ 46 [] h.name := by unfold aq; rw [if_pos ⟨hk, hr⟩]
 exact ⟨e, by rw [e]; exact gy 46 h.name []⟩
theorem iV {h : Hst} (o : h.ok) : bL h ≠ [] ↔ aU h = true := by
 unfold bL
 by_cases hr : aU h = true
 · rw [if_pos hr]
   simp only [hr, iff_true]
   by_cases hk : h.kind = 1
   · rw [if_pos hk]
     intro e
     exact (dv o hk hr).2 (List.reverse_eq_nil_iff.1 e)
   · rw [if_neg hk]; simp
 · rw [if_neg hr]; simp [hr]
theorem lD {h : Hst} (o : h.ok) : ∀ x ∈ aq h, aX x = true := by
 intro x hx
 unfold aq at hx
 split at hx
 · rename_i hc
   exact List.all_eq_true.1 (dV o hc.1 hc.2).2.2.1 x hx
 · cases hx
theorem mW {h : Hst} (o : h.ok) (hr : aU h = true) (hk : h.kind ≠ 1) : aX (cX h) = false := by
 have hk' := D6 (lM o hr)
 have key : ∃ c ∈ cX h, fQ c = false := by
   rcases hk' with hk' | hk' | hk'
   · exact absurd hk' hk
   · refine ⟨46, ?_, by decide⟩
     unfold cX
     rw [if_neg hk, if_pos hk', r8 o]
     simp
   · refine ⟨91, ?_, by decide⟩
     unfold cX
     rw [if_neg hk, if_neg (by omega), if_pos hk']
     simp
 obtain ⟨c, hc, hl⟩ := key
 cases hb : aX (cX h) with
 | false => rfl
 | true =>
   unfold aX at hb
   rw [Bool.and_eq_true] at hb
   have := List.all_eq_true.1 hb.2 c hc
   rw [hl] at this; cases this
def ko (s : Txt) : Bool := match ct s with | some h => !decide (h.kind = 1) && (cX h == s) | none => false
def cY (t : List Txt) : Option Hst :=
 if t.length = 1 /\ t.all ko = true then ct (t.headD [])
 else if t.all aX = true then (match ct (Lib.join t.reverse [46]) with | some h => if h.kind = 1 then some h else none | none => none)
 else none
def jt (t : List Txt) : Prop := match t with
 | [] => False
 | x :: r => ko x = true /\ r = [] \/ aX x = true /\ bU x = false /\ ∀ y ∈ r, aX y = true
theorem qG {s : Txt} (h : ko s = true) : aX s = false := by
 unfold ko at h
 cases hv : ct s with
 | none => rw [hv] at h; cases h
 | some g =>
   rw [hv] at h
   rw [Bool.and_eq_true, beq_iff_eq] at h
   have hk : g.kind ≠ 1 := by simpa using h.1
   have hr : aU g = true := by
     unfold aU
     rw [h.2, hv]
     exact (d7 (fP hv) (fP hv)).2 rfl
   rw [<- h.2]
   exact mW (fP hv) hr hk
theorem Cu : ∀ n, n < 256 -> fQ (UInt8.ofNat n) = true -> Am (UInt8.ofNat n) = UInt8.ofNat n /\ UInt8.ofNat n ≠ 46 /\ UInt8.ofNat n ≠ 91 := by decide +kernel
theorem Ct {c : UInt8} (h : fQ c = true) : Am c = c /\ c ≠ 46 /\ c ≠ 91 := by
 have e : UInt8.ofNat c.toNat = c := by simp
 have := Cu c.toNat c.toNat_lt
 rw [e] at this
 exact this h
theorem lu (x y : Txt) (r : List Txt) : Lib.join (x :: y :: r) [46] = x ++ 46 :: Lib.join (y :: r) [46] := by
 rw [Lib.join_cons, Lib.join_cons]
 simp [Lib.joinTail]
theorem yq : ∀ (r : List Txt) (x : Txt), (∀ c ∈ x, c ≠ 46) -> (∀ y ∈ r, ∀ c ∈ y, c ≠ 46) -> aZ 46 [] (Lib.join (x :: r) [46]) = x :: r
 | [], x, hx, _ => by rw [Lib.join_one, vJ 46 x [] hx]; rfl
 | y :: r, x, hx, hr => by
   rw [lu x y r, ze 46 x [] _ hx, yq r y (hr y List.mem_cons_self) fun z hz => hr z (List.mem_cons_of_mem _ hz)]
   rfl
theorem Fg (s : Txt) : (⟨1, s, ad0⟩ : Hst).ok := by unfold Hst.ok; rfl
theorem gH {x : Txt} (h : aX x = true) : 1 <= x.length /\ x.length <= 63 /\ ∀ c ∈ x, fQ c = true := by
 unfold aX at h
 rw [Bool.and_eq_true, Bool.and_eq_true, dTx, dTx] at h
 exact ⟨h.1.1, h.1.2, fun c hc => List.all_eq_true.1 h.2 c hc⟩
theorem mO {L : List Txt} (hne : L ≠ []) (hl : ∀ x ∈ L, aX x = true) (hd : bU (po L) = false) (hs : (Lib.join L [46]).length <= 253) :
   ct (Lib.join L [46]) = some ⟨1, Lib.join L [46], ad0⟩ /\ aU ⟨1, Lib.join L [46], ad0⟩ = true /\ aq ⟨1, Lib.join L [46], ad0⟩ = L := by
 obtain ⟨x, r, rfl⟩ : ∃ x r, L = x :: r := by cases L with | nil => exact absurd rfl hne | cons x r => exact ⟨x, r, rfl⟩
 have hf := fun y hy => gH (hl y hy)
 have hcut : aZ 46 [] (Lib.join (x :: r) [46]) = x :: r := yq r x (fun c hc => (Ct ((hf x List.mem_cons_self).2.2 c hc)).2.1)
   (fun y hy c hc => (Ct ((hf y (List.mem_cons_of_mem _ hy)).2.2 c hc)).2.1)
 have hch : ∀ c ∈ Lib.join (x :: r) [46], c = 46 \/ fQ c = true := by
   intro c hc
   by_cases e : c = 46
   · exact .inl e
   · right
     have hj := d8 46 (Lib.join (x :: r) [46]) []
     obtain ⟨y, hy, hcy⟩ : ∃ y ∈ x :: r, c ∈ y := by
       clear hj hcut hs hd hf hl hne
       induction r generalizing x with
       | nil => exact ⟨x, List.mem_cons_self, by rwa [Lib.join_one] at hc⟩
       | cons y r ih =>
         rw [lu] at hc
         rcases List.mem_append.1 hc with h | h
         · exact ⟨x, List.mem_cons_self, h⟩
         · rcases List.mem_cons.1 h with h | h
           · exact absurd h e
           · obtain ⟨z, hz, hcz⟩ := ih y h
             exact ⟨z, List.mem_cons_of_mem _ hz, hcz⟩
     exact (hf y hy).2.2 c hcy
 have hlow : fU (Lib.join (x :: r) [46]) = Lib.join (x :: r) [46] := by
   unfold fU
   conv => rhs; rw [<- List.map_id (Lib.join (x :: r) [46])]
   refine List.map_congr_left fun c hc => ?_
   rcases hch c hc with rfl | h
   · rfl
   · exact (Ct h).1
 have h91 : (Lib.join (x :: r) [46]).head? ≠ some 91 := by
   intro e
   have hm : (91 : UInt8) ∈ Lib.join (x :: r) [46] := List.mem_of_mem_head? e
   rcases hch 91 hm with h | h
   · revert h; decide
   · revert h; decide
 have hv : ct (Lib.join (x :: r) [46]) = some ⟨1, Lib.join (x :: r) [46], ad0⟩ := by
   unfold ct
   rw [if_neg h91, hlow, hcut, if_neg (by rw [hd]; simp), if_pos ⟨hs, List.all_eq_true.2 hl⟩]
 have hr : aU ⟨1, Lib.join (x :: r) [46], ad0⟩ = true := by
   unfold aU
   rw [show cX ⟨1, Lib.join (x :: r) [46], ad0⟩ = Lib.join (x :: r) [46] from if_pos rfl, hv]
   exact (d7 (Fg _) (Fg _)).2 rfl
 refine ⟨hv, hr, ?_⟩
 unfold aq
 rw [if_pos ⟨rfl, hr⟩]
 exact hcut
theorem Fe {t : List Txt} (h : jt t) (hs : t.length = 1 \/ (Lib.join t.reverse [46]).length <= 253) : ∃ g, cY t = some g /\ g.ok /\ aU g = true /\ bL g = t := by
 cases t with
 | nil => exact h.elim
 | cons x r =>
   by_cases ha : ko x = true /\ r = []
   · obtain ⟨ha, rfl⟩ := ha
     have ho : cY [x] = ct x := by unfold cY; rw [if_pos ⟨rfl, by simp [ha]⟩]; rfl
     unfold ko at ha
     cases hv : ct x with
     | none => rw [hv] at ha; cases ha
     | some g =>
       rw [hv] at ha
       rw [Bool.and_eq_true, beq_iff_eq] at ha
       have hk : g.kind ≠ 1 := by simpa using ha.1
       have hr : aU g = true := by
         unfold aU
         rw [ha.2, hv]
         exact (d7 (fP hv) (fP hv)).2 rfl
       refine ⟨g, ho.trans hv, fP hv, hr, ?_⟩
       unfold bL
       rw [if_pos hr, if_neg hk, ha.2]
   · rcases h with h | ⟨h1, h2, h3⟩
     · exact absurd h ha
     · have hall : ∀ y ∈ (x :: r).reverse, aX y = true := fun y hy => by
         rcases List.mem_cons.1 (List.mem_reverse.1 hy) with rfl | hy
         · exact h1
         · exact h3 y hy
       have hlast : po (x :: r).reverse = x := by unfold po; simp
       have hs' : (Lib.join (x :: r).reverse [46]).length <= 253 := by
         rcases hs with hs | hs
         · have : r = [] := List.eq_nil_of_length_eq_zero (by simpa using hs)
           subst this
           have := (gH h1).2.1
           rw [List.reverse_singleton, Lib.join_one]
           omega
         · exact hs
       obtain ⟨e1, e2, e3⟩ := mO (L := (x :: r).reverse) (by simp) hall (by rw [hlast]; exact h2) hs'
       refine ⟨_, ?_, Fg _, e2, ?_⟩
       · unfold cY
         rw [if_neg, if_pos (List.all_eq_true.2 fun y hy => hall y (List.mem_reverse.2 hy)), e1]
         · simp
         · rintro ⟨_, h5⟩
           have := qG (List.all_eq_true.1 h5 x List.mem_cons_self)
           rw [h1] at this; cases this
       · unfold bL
         rw [if_pos e2, if_pos rfl, e3, List.reverse_reverse]
end Go.Pk
namespace Go.Proofs.YtpafoodmpjlkhaaGreatDoor
open Go.Pk Go.RowKit Go.Shelf
attribute [local go_sem] Oper.semAt_some
theorem Hy (a : Option Addr) (n c : Nat) (w : World) : Calls prog 70 #[.slice a n c] w fun e w' => e = .returned (.func (.func 130) #[] #[.pointer (some ⟨w.heap.size, 0, none⟩)]) /\ w' = w.alloc (.cells #[.slice a n c] aw) := by
 refine (jx a n c (K := fun v w' => v = (.func (.func 130) #[] #[.pointer (some ⟨w.heap.size, 0, none⟩)]) /\ w' = w.alloc (.cells #[.slice a n c] aw)) ?_).mono ?_
 · intro k1 w1 hk1 hw1
   subst hk1 hw1
   exact ⟨rfl, rfl⟩
 · rintro e w' ⟨v, rfl, rfl, rfl⟩
   exact ⟨rfl, rfl⟩
theorem Ft (s : List UInt8) (w : World) : (Instr.buildSlice aw 1 #[(0, .string (mkS s))]).run prog w = .ok (.slice (some ⟨w.heap.size, 0, none⟩) 1 1) (w.alloc (.cells #[.string (mkS s)] ar)) := by kernel_rfl
theorem HT {w : World} {k : Nat} {t : TypeId} {s : List UInt8} (h : am w k t [.string (mkS s)]) : Sl tS w gT (some ⟨k, 0, none⟩) 1 1 [s] :=
 ⟨rfl, Nat.le_refl _, by decide, .inr ⟨k, 0, rfl, h.lt, trivial, [.string (mkS s)], gw.one (nn trivial), fun j hj => by rw [Nat.zero_add]; exact h.cell j⟩⟩
theorem zd : ∀ (s cur : List UInt8), (aZ 46 cur s).length <= s.length + 1
 | [], cur => by simp [aZ]
 | x :: s, cur => by
   unfold aZ
   split
   · rw [List.length_cons, List.length_cons]; exact Nat.succ_le_succ (zd s _)
   · rw [List.length_cons]; exact Nat.le_succ_of_le (zd s _)
theorem Ea {h : Hst} (o : h.ok) (hn : h.name.length <= 1000000) : (aq h).length <= 1000001 := by
 unfold aq
 split
 · have := zd h.name []; omega
 · simp
def IF : List (List Nat) := [[0, 1, 2, 3, 4, 5, 6], [0, 2, 1, 3, 4, 5, 6], [1, 0, 2, 3, 4, 5, 6], [1, 2, 0, 3, 4, 5, 6], [1, 2, 3, 0, 4, 5, 6], [1, 2, 3, 4, 0, 5, 6], [2, 0, 1, 3, 4, 5, 6], [2, 1, 0, 3, 4, 5, 6], [2, 1, 3, 0, 4, 5, 6], [2, 1, 3, 4, 0, 5, 6]]
theorem Ow.inside {α : Type} {T : Ty α} {t : TypeId} {w : World} {A : Bl} {a : Option Addr} {n c : Nat} {xs : List α} (h : Ow T t w A a n c xs) : ∀ b o, a = some ⟨b, o, none⟩ -> b < w.heap.size := by
 intro b o e
 rcases h.2.2.2 with ⟨e1, _⟩ | ⟨g, cur, fr, e1, hh, _⟩
 · rw [e1] at e; cases e
 · rw [e1] at e; cases e
   exact (Array.getElem?_eq_some_iff.1 hh).1
set_option maxRecDepth 100000 in
set_option maxHeartbeats 4000000 in
theorem wv {h : Hst} (o : h.ok) (hn : h.name.length <= 1000000) {w : World} (he : Env w) {p : Option Addr} {ts : List Txt} (hA : gU w p ts) :
   CallsIn Fence.wide 6 prog 29 #[.pointer p, h.v] w fun e w' => ∃ (a : Option Addr) (n c : Nat), e = .returned (.slice a n c) /\ Ow i7 az w' NoB a n c (hwV ts h) /\ bD w.heap.size a /\ Below w.heap.size w w' := by
 have hF : ∀ g : FuncId, Fence.wide.fn g := fun _ => trivial
 obtain ⟨w1, hw1⟩ : ∃ w1, w1 = w.alloc (.cells (Value.cells (.pointer p)) aY) := ⟨_, rfl⟩
 obtain ⟨w2, hw2⟩ : ∃ w2, w2 = w1.alloc (.cells (Value.cells h.v) ae) := ⟨_, rfl⟩
 obtain ⟨k1, hk1⟩ : ∃ k1, k1 = w.heap.size := ⟨_, rfl⟩
 obtain ⟨k2, hk2⟩ : ∃ k2, k2 = w1.heap.size := ⟨_, rfl⟩
 have b1 : Below w.heap.size w w1 := hw1 ▸ ah w _
 have b2 : Below w1.heap.size w1 w2 := hw2 ▸ ah w1 _
 have A1 : am w1 k1 aY [.pointer p] := am.new hk1 hw1
 have A2 : am w2 k2 ae h.cells := am.new hk2 hw2
 have B2 := ab b1 b2 b1.size
 refine callsIn_of_wp_marks Tryz.func29 rfl trivial ?_ rfl
 simp only [Tryz.ntmps29, List.size_toArray, List.length_cons, List.length_nil, Nat.reduceAdd, Nat.reduceSub, Array.replicate_succ, Array.replicate_zero, List.push_toArray, List.append_toArray, List.nil_append, List.cons_append]
 have eR := enters_of Tryz.func67 (by kernel_rfl) rfl
 have eL := enters_of Tryz.func68 (by kernel_rfl) rfl
 have eT := enters_of Tryz.func69 (by kernel_rfl) rfl
 have eB := enters_of Tryz.func70 (by kernel_rfl) rfl
 have eO := enters_of Tryz.func71 (by kernel_rfl) rfl
 refine sp ?_
 apply wpIn_region_lit
 refine Jd rfl rfl (u := .pointer p) rfl hk1 hw1 ?_
 refine Jd rfl rfl (u := h.v) rfl hk2 hw2 ?_
 refine dh rfl (.inr rfl) (u := .slice none 0 0) rfl ?_
 refine sf ?_
 simp only [Act.put, List.setIfInBounds_toArray, List.set_cons_succ, List.set_cons_zero]
 refine sp ?_
 refine sp ?_
 apply wpIn_region_lit
 refine cS rfl rfl rfl (aB.load0 A2 (Hst.len o)) ?_
 refine uA rfl rfl (u := h.v) rfl (by decide) hF eR ((callsIn_wide.2 (sr o (by omega) w2 (he.step B2))).mono ?_)
 rintro _ w3 ⟨_, rfl, rfl, b3⟩
 refine ⟨_, rfl, ?_⟩
 have B3 := ab B2 b3 B2.size
 refine wo rfl (fun c hc => by cases hc) rfl (v := .bool (!aU h)) (w' := w3) (by kernel_rfl) ?_
 refine sf ?_
 simp only [Act.put, List.setIfInBounds_toArray, List.set_cons_succ, List.set_cons_zero]
 have early : aU h = false -> hwV ts h = [] := fun hr => by unfold hwV bL; rw [if_neg (by rw [hr]; simp)]; rfl
 cases hr : aU h with
 | false =>
   refine wpIn_cond_true rfl ?_
   refine sp ?_
   apply wpIn_region_lit
   refine dh rfl (.inr rfl) (u := .slice none 0 0) rfl ?_
   refine sf ?_
   refine wpIn_ret ?_
   simp only [Act.put, List.setIfInBounds_toArray, List.set_cons_succ, List.set_cons_zero]
   refine ⟨_, Go.results_tmp rfl _ _ _, none, 0, 0, rfl, ?_, bD.none _, B3⟩
   rw [early hr]; exact Ow.nil _ _ _ _
 | true =>
 refine wpIn_cond_false rfl ?_
 refine wpIn_skip ?_
 refine sp ?_
 apply wpIn_region_lit
 refine cS rfl rfl rfl (aB.load0 (A2.below b3) (Hst.len o)) ?_
 refine uA rfl rfl (u := h.v) rfl (by decide) hF eL ((callsIn_wide.2 (rg o (by omega) w3 (he.step B3))).mono ?_)
 rintro _ w4 ⟨_, rfl, la, ln, lc, rfl, ol, fl, b4⟩
 refine ⟨_, rfl, ?_⟩
 have B4 := ab B3 b4 B3.size
 have A24 := (A2.below b3).below b4
 refine dh rfl (.inr rfl) (u := .slice la ln lc) rfl ?_
 refine sf ?_
 simp only [Act.put, List.setIfInBounds_toArray, List.set_cons_succ, List.set_cons_zero]
 refine HG (fun a' W => ∃ (x4 x6 x7 x8 x9 x10 x11 x12 x13 x14 x15 x16 x17 x18 x19 x20 x21 x22 x23 x24 x25 x26 x27 x28 x29 x30 : Value) (a : Option Addr) (n c : Nat) (T : List Txt), a' = { tmps := #[.pointer p, h.v, .pointer (some ⟨k1, 0, none⟩), .pointer (some ⟨k2, 0, none⟩), x4, .slice a n c, x6, x7, x8, x9, x10, x11, x12, x13, x14, x15, x16, x17, x18, x19, x20, x21, x22, x23, x24, x25, x26, x27, x28, x29, x30], defers := [] } /\ Sl tS W gT a n c T /\ (∀ b o, a = some ⟨b, o, none⟩ -> b < W.heap.size) /\ T.reverse.map (ofT ts) = hwV ts h /\ T.length <= 1000001 /\ Below w.heap.size w W /\ Below w2.heap.size w2 W) ?_ ?_
 · refine sp ?_
   apply wpIn_region_lit
   refine wo rfl (fun c hc => by cases hc) rfl (v := .pointer (some ⟨k2, 0, none⟩)) (w' := w4) (by kernel_rfl) ?_
   refine cS rfl rfl rfl (A24.load1 aI rfl rfl) ?_
   refine wo rfl (fun c hc => by cases hc) rfl (v := .bool (h.kind != 1)) (w' := w4) (by kernel_rfl) ?_
   refine sf ?_
   simp only [Act.put, List.setIfInBounds_toArray, List.set_cons_succ, List.set_cons_zero]
   by_cases hk : h.kind = 1
   · refine wpIn_cond_false (by show Value.bool (h.kind != 1) = _; rw [hk]; rfl) ?_
     refine wpIn_skip ?_
     have ew : bL h = (aq h).reverse := by unfold bL; rw [if_pos hr, if_pos hk]
     exact ⟨_, _, _, _, _, _, _, _, _, _, _, _, _, _, _, _, _, _, _, _, _, _, _, _, _, _, la, ln, lc, aq h, rfl, ol.all, Ow.inside ol, by unfold hwV; rw [ew], Ea o hn, B4, ab b3 b4 b3.size⟩
   · refine wpIn_cond_true (by show Value.bool (h.kind != 1) = _; congr 1; simp [hk]) ?_
     apply wpIn_region_lit
     refine cS rfl rfl rfl (aB.load0 A24 (Hst.len o)) ?_
     refine uA rfl rfl (u := h.v) rfl (by decide) hF eT ((callsIn_wide.2 (pZ o w4 (he.step B4))).mono ?_)
     rintro _ w5 ⟨_, rfl, rfl, b5⟩
     refine ⟨_, rfl, ?_⟩
     have B5 := ab B4 b5 B4.size
     refine eF rfl rfl (u := .string (mkS (cX h))) rfl (Ft _ w5) ?_
     refine dh rfl (.inr rfl) (u := .slice (some ⟨w5.heap.size, 0, none⟩) 1 1) rfl ?_
     apply Iz
     simp only [Act.put, List.setIfInBounds_toArray, List.set_cons_succ, List.set_cons_zero]
     have b6 : Below w5.heap.size w5 (w5.alloc (.cells #[.string (mkS (cX h))] ar)) := ah w5 _
     have ew : bL h = [cX h] := by unfold bL; rw [if_pos hr, if_neg hk]
     exact ⟨_, _, _, _, _, _, _, _, _, _, _, _, _, _, _, _, _, _, _, _, _, _, _, _, _, _, _, 1, 1, [cX h], rfl, HT (am.new rfl rfl), (fun b o e => by cases e; simp), by unfold hwV; rw [ew]; rfl, by simp, ab B5 b6 B5.size, ab (ab b3 b4 b3.size) (ab b5 b6 b5.size) (Nat.le_trans b3.size b4.size)⟩
 · rintro a' W ⟨x4, x6, x7, x8, x9, x10, x11, x12, x13, x14, x15, x16, x17, x18, x19, x20, x21, x22, x23, x24, x25, x26, x27, x28, x29, x30, a, n, c, T, rfl, hT, hTa, hTw, hTl, BW, B2W⟩
   obtain ⟨w6, hw6⟩ : ∃ w6, w6 = W.alloc (.cells #[.slice none 0 0] aA) := ⟨_, rfl⟩
   obtain ⟨k6, hk6⟩ : ∃ k6, k6 = W.heap.size := ⟨_, rfl⟩
   obtain ⟨w7, hw7⟩ : ∃ w7, w7 = w6.alloc (.cells #[.slice a n c] aw) := ⟨_, rfl⟩
   obtain ⟨k7, hk7⟩ : ∃ k7, k7 = w6.heap.size := ⟨_, rfl⟩
   have b6 : Below W.heap.size W w6 := hw6 ▸ ah W _
   have b7 : Below w6.heap.size w6 w7 := hw7 ▸ ah w6 _
   have A6 : am w6 k6 aA [.slice none 0 0] := am.new hk6 hw6
   have A7 : am w7 k7 aw [.slice a n c] := am.new hk7 hw7
   have B7 := ab BW (ab b6 b7 b6.size) BW.size
   have B27 := ab B2W (ab b6 b7 b6.size) B2W.size
   refine sp ?_
   apply wpIn_region_lit
   refine yw rfl rfl (v := .pointer (some ⟨k6, 0, none⟩)) (w' := w6) (by rw [hk6, hw6]; rfl) ?_
   refine sf ?_
   simp only [Act.put, List.setIfInBounds_toArray, List.set_cons_succ, List.set_cons_zero]
   refine sp ?_
   refine sp ?_
   apply wpIn_region_lit
   refine dh rfl (.inl rfl) (u := .slice a n c) rfl ?_
   refine uA rfl rfl (u := .slice a n c) rfl (by decide) hF eB ((callsIn_wide.2 (Hy a n c w6)).mono ?_)
   rintro _ w7' ⟨rfl, hw7'⟩
   rw [<- hw7] at hw7'
   rw [hw7']
   clear hw7' w7'
   rw [<- hk7]
   refine ⟨_, rfl, ?_⟩
   refine sf ?_
   simp only [Act.put, List.setIfInBounds_toArray, List.set_cons_succ, List.set_cons_zero]
   apply wpIn_block
   have hTs := (hT.below b6).below b7
   have k67 : k6 < k7 := by have := A6.lt; omega
   have k7l := A7.lt
   have AW0 : am w7 k6 aA [.slice none 0 0] := A6.below b7
   have hAp : gU w7 p ts := hA.below B7
   have A17 : am w7 k1 aY [.pointer p] := ((A1.below b2)).below B27
   obtain ⟨w7s, hw7s⟩ : ∃ n, n = w7.heap.size := ⟨_, rfl⟩
   have hTa7 : ∀ b o, a = some ⟨b, o, none⟩ -> b < k6 := fun b o e => by rw [hk6]; exact hTa b o e
   have k6lt : k6 < w7.heap.size := by omega
   have I0 : Es i7 az aA k6 w7.heap.size w7 (([] : List (Int × Txt)).map fun x => ofT ts x.2) w7 := ⟨none, 0, 0, AW0, Ow.nil _ _ _ _, (fun g hg => by cases hg), Below.refl _ _⟩
   refine wpIn_rangeFunc_ownG rfl (by decide) (gf := 130) (lb := #[.pointer (some ⟨k7, 0, none⟩)]) rfl trivial (enters_of Tryz.func130 (by kernel_rfl) rfl)
     (DL Fence.wide 5 trivial rfl (by decide) k7 T (by omega) A7 hTs) (fun h1 h2 => h1.trans h2) (fun V l o o' hl _ _ _ => wC fun b hb e => ?hKb) (Below.refl _ _) (fun _ => rfl)
     (fun pre V => Es i7 az aA k6 w7.heap.size w7 (pre.map fun x => ofT ts x.2) V /\ pre.length <= 1000001) (fun _ _ _ => False) (OwnFrom.and (Db k6lt) (ownFrom_pure _ _)) (fun _ _ _ _ _ hs _ _ => hs) ⟨I0, by simp⟩
     (fun x => { tmps := #[.pointer p, h.v, .pointer (some ⟨k1, 0, none⟩), .pointer (some ⟨k2, 0, none⟩), x4, .slice a n c, .pointer (some ⟨k6, 0, none⟩), x7, .string (mkS x.2), x9, x10, x11, x12, x13, x14, x15, x16, x17, x18, x19, .slice a n c, .func (.func 130) #[] #[.pointer (some ⟨k7, 0, none⟩)], .int .i64 x.1, .string (mkS x.2), x24, x25, x26, x27, x28, x29, x30], defers := [] }) ?assign ?body ?done ?stop
   case hKb =>
     rcases hb with rfl | ⟨o2, e2⟩
     · omega
     · have := hTa7 b o2 e2; omega
   case assign =>
     intro l x V K hK
     apply wpIn_region_lit
     simp only [List.zip_toArray, List.foldl_toArray', List.foldl_toArray, List.zip_cons_cons, List.zip_nil_left, List.zip_nil_right, List.foldl_cons, List.foldl_nil, List.setIfInBounds_toArray, List.set_cons_succ, List.set_cons_zero]
     refine dh rfl (.inr rfl) (u := .string (mkS x.2)) rfl ?_
     exact Iz hK
   case body =>
     rintro l pre x V ⟨hC, hlen0⟩ hlen
     obtain ⟨a1, n1, c1, C1, C2, C3, C4⟩ := hC.drew
     have hwk : w.heap.size <= k6 := by rw [hk6]; exact BW.size
     have hAV : gU V.drew p ts := hA.below (B7.trans (C4.mono hwk))
     have hk1k : k1 < k6 := by have := A1.lt; have := b2.size; have := B2W.size; omega
     have A1V : am V.drew k1 aY [.pointer p] := A17.block (C4.block k1 hk1k)
     obtain ⟨V1, hV1⟩ : ∃ V1, V1 = V.drew.alloc (.cells #[.int .i64 (ofT ts x.2)] az) := ⟨_, rfl⟩
     obtain ⟨kx, hkx⟩ : ∃ kx, kx = V.drew.heap.size := ⟨_, rfl⟩
     have bV : Below V.drew.heap.size V.drew V1 := hV1 ▸ ah _ _
     obtain ⟨V2, a2, n2, c2, q2, V3, q3, C', kf, oth⟩ := Az jr bi jA (by decide) xk C1 C2 C3 C4 k6lt C4.size hkx hV1 (show i7.rep V.drew NoB [.int .i64 (ofT ts x.2)] (ofT ts x.2) from ⟨rfl, trivial⟩) (by rw [List.length_map]; omega)
     have l6 : (Instr.loadAt aA (.pointer (some ⟨k6, 0, none⟩))).run prog V.drew = .ok (.slice a1 n1 c1) V.drew := C1.load1 bi rfl rfl
     have l6' : (Instr.loadAt aA (.pointer (some ⟨k6, 0, none⟩))).run prog V1 = .ok (.slice a1 n1 c1) V1 := (C1.below bV).load1 bi rfl rfl
     have l1 : (Instr.loadAt aY (.pointer (some ⟨k1, 0, none⟩))).run prog V.drew = .ok (.pointer p) V.drew := A1V.load1 io rfl rfl
     have qb : (Instr.buildSlice aA 1 #[(0, .int .i64 (ofT ts x.2))]).run prog V.drew = .ok (.slice (some ⟨kx, 0, none⟩) 1 1) V1 := by rw [hV1, hkx]; kernel_rfl
     have qc : CallsIn Fence.wide (6 - 1 - 1 - 1) prog 71 #[.pointer p, .string (mkS x.2)] V.drew fun e w' => e = .returned (.int .i64 (ofT ts x.2)) /\ w' = V.drew :=
       (callsIn_wide.2 (BB p ts x.2 V.drew hAV)).mono fun e w' ⟨v, he, hv, hw⟩ => ⟨by rw [he, hv], hw⟩
     have gfin : ∀ {aa : Act}, (Exit.inBlock 1 (ownPostG w7.heap.size (sg fun b => b = k7 \/ ∃ o, a = some ⟨b, o, none⟩) (fun pre V => Es i7 az aA k6 w7.heap.size w7 (pre.map fun x => ofT ts x.2) V /\ pre.length <= 1000001) (fun _ _ _ => False) (pre ++ [x]) V)) .normal aa V3 := by
       intro aa
       refine ⟨⟨kf.size, kf.same⟩, ⟨kf.size, fun b hb hab => ?_⟩, ?_, by simp; omega⟩
       · rcases hab with rfl | ⟨o2, e2⟩
         · exact oth b k7l (by omega)
         · have := hTa7 b o2 e2
           exact oth b (by omega) (by omega)
       · rw [List.map_append]; exact C'
     apply wpIn_block
     refine E6 rfl IF (by kernel_rfl) ?_
     intro ord hord
     simp only [IF, List.mem_cons, List.not_mem_nil, or_false] at hord
     rcases hord with rfl | rfl | rfl | rfl | rfl | rfl | rfl | rfl | rfl | rfl
     all_goals simp only [List.filterMap_cons, List.filterMap_nil, List.getElem?_toArray, List.getElem?_cons_zero, List.getElem?_cons_succ]
     · refine cS (by kernel_rfl) rfl (by kernel_rfl) l6 ?_
       refine cS (by kernel_rfl) rfl (by kernel_rfl) l1 ?_
       refine dh (by kernel_rfl) (.inl rfl) (u := .string (mkS x.2)) (by kernel_rfl) ?_
       refine hZ (by kernel_rfl) rfl (u := .pointer p) (v := .string (mkS x.2)) (by kernel_rfl) (by kernel_rfl) (by decide) (fun _ => trivial) eO (qc.mono ?_)
       rintro _ _ ⟨rfl, rfl⟩
       refine ⟨_, rfl, ?_⟩
       refine eF (by kernel_rfl) rfl (by kernel_rfl) qb ?_
       refine fe (by kernel_rfl) rfl (by kernel_rfl) (by kernel_rfl) q2 ?_
       exact cO (by kernel_rfl) rfl (by kernel_rfl) (by kernel_rfl) q3 (wpListIn_nil gfin)
     · refine cS (by kernel_rfl) rfl (by kernel_rfl) l6 ?_
       refine dh (by kernel_rfl) (.inl rfl) (u := .string (mkS x.2)) (by kernel_rfl) ?_
       refine cS (by kernel_rfl) rfl (by kernel_rfl) l1 ?_
       refine hZ (by kernel_rfl) rfl (u := .pointer p) (v := .string (mkS x.2)) (by kernel_rfl) (by kernel_rfl) (by decide) (fun _ => trivial) eO (qc.mono ?_)
       rintro _ _ ⟨rfl, rfl⟩
       refine ⟨_, rfl, ?_⟩
       refine eF (by kernel_rfl) rfl (by kernel_rfl) qb ?_
       refine fe (by kernel_rfl) rfl (by kernel_rfl) (by kernel_rfl) q2 ?_
       exact cO (by kernel_rfl) rfl (by kernel_rfl) (by kernel_rfl) q3 (wpListIn_nil gfin)
     · refine cS (by kernel_rfl) rfl (by kernel_rfl) l1 ?_
       refine cS (by kernel_rfl) rfl (by kernel_rfl) l6 ?_
       refine dh (by kernel_rfl) (.inl rfl) (u := .string (mkS x.2)) (by kernel_rfl) ?_
       refine hZ (by kernel_rfl) rfl (u := .pointer p) (v := .string (mkS x.2)) (by kernel_rfl) (by kernel_rfl) (by decide) (fun _ => trivial) eO (qc.mono ?_)
       rintro _ _ ⟨rfl, rfl⟩
       refine ⟨_, rfl, ?_⟩
       refine eF (by kernel_rfl) rfl (by kernel_rfl) qb ?_
       refine fe (by kernel_rfl) rfl (by kernel_rfl) (by kernel_rfl) q2 ?_
       exact cO (by kernel_rfl) rfl (by kernel_rfl) (by kernel_rfl) q3 (wpListIn_nil gfin)
     · refine cS (by kernel_rfl) rfl (by kernel_rfl) l1 ?_
       refine dh (by kernel_rfl) (.inl rfl) (u := .string (mkS x.2)) (by kernel_rfl) ?_
       refine cS (by kernel_rfl) rfl (by kernel_rfl) l6 ?_
       refine hZ (by kernel_rfl) rfl (u := .pointer p) (v := .string (mkS x.2)) (by kernel_rfl) (by kernel_rfl) (by decide) (fun _ => trivial) eO (qc.mono ?_)
       rintro _ _ ⟨rfl, rfl⟩
       refine ⟨_, rfl, ?_⟩
       refine eF (by kernel_rfl) rfl (by kernel_rfl) qb ?_
       refine fe (by kernel_rfl) rfl (by kernel_rfl) (by kernel_rfl) q2 ?_
       exact cO (by kernel_rfl) rfl (by kernel_rfl) (by kernel_rfl) q3 (wpListIn_nil gfin)
     · refine cS (by kernel_rfl) rfl (by kernel_rfl) l1 ?_
       refine dh (by kernel_rfl) (.inl rfl) (u := .string (mkS x.2)) (by kernel_rfl) ?_
       refine hZ (by kernel_rfl) rfl (u := .pointer p) (v := .string (mkS x.2)) (by kernel_rfl) (by kernel_rfl) (by decide) (fun _ => trivial) eO (qc.mono ?_)
       rintro _ _ ⟨rfl, rfl⟩
       refine ⟨_, rfl, ?_⟩
       refine cS (by kernel_rfl) rfl (by kernel_rfl) l6 ?_
       refine eF (by kernel_rfl) rfl (by kernel_rfl) qb ?_
       refine fe (by kernel_rfl) rfl (by kernel_rfl) (by kernel_rfl) q2 ?_
       exact cO (by kernel_rfl) rfl (by kernel_rfl) (by kernel_rfl) q3 (wpListIn_nil gfin)
     · refine cS (by kernel_rfl) rfl (by kernel_rfl) l1 ?_
       refine dh (by kernel_rfl) (.inl rfl) (u := .string (mkS x.2)) (by kernel_rfl) ?_
       refine hZ (by kernel_rfl) rfl (u := .pointer p) (v := .string (mkS x.2)) (by kernel_rfl) (by kernel_rfl) (by decide) (fun _ => trivial) eO (qc.mono ?_)
       rintro _ _ ⟨rfl, rfl⟩
       refine ⟨_, rfl, ?_⟩
       refine eF (by kernel_rfl) rfl (by kernel_rfl) qb ?_
       refine cS (by kernel_rfl) rfl (by kernel_rfl) l6' ?_
       refine fe (by kernel_rfl) rfl (by kernel_rfl) (by kernel_rfl) q2 ?_
       exact cO (by kernel_rfl) rfl (by kernel_rfl) (by kernel_rfl) q3 (wpListIn_nil gfin)
     · refine dh (by kernel_rfl) (.inl rfl) (u := .string (mkS x.2)) (by kernel_rfl) ?_
       refine cS (by kernel_rfl) rfl (by kernel_rfl) l6 ?_
       refine cS (by kernel_rfl) rfl (by kernel_rfl) l1 ?_
       refine hZ (by kernel_rfl) rfl (u := .pointer p) (v := .string (mkS x.2)) (by kernel_rfl) (by kernel_rfl) (by decide) (fun _ => trivial) eO (qc.mono ?_)
       rintro _ _ ⟨rfl, rfl⟩
       refine ⟨_, rfl, ?_⟩
       refine eF (by kernel_rfl) rfl (by kernel_rfl) qb ?_
       refine fe (by kernel_rfl) rfl (by kernel_rfl) (by kernel_rfl) q2 ?_
       exact cO (by kernel_rfl) rfl (by kernel_rfl) (by kernel_rfl) q3 (wpListIn_nil gfin)
     · refine dh (by kernel_rfl) (.inl rfl) (u := .string (mkS x.2)) (by kernel_rfl) ?_
       refine cS (by kernel_rfl) rfl (by kernel_rfl) l1 ?_
       refine cS (by kernel_rfl) rfl (by kernel_rfl) l6 ?_
       refine hZ (by kernel_rfl) rfl (u := .pointer p) (v := .string (mkS x.2)) (by kernel_rfl) (by kernel_rfl) (by decide) (fun _ => trivial) eO (qc.mono ?_)
       rintro _ _ ⟨rfl, rfl⟩
       refine ⟨_, rfl, ?_⟩
       refine eF (by kernel_rfl) rfl (by kernel_rfl) qb ?_
       refine fe (by kernel_rfl) rfl (by kernel_rfl) (by kernel_rfl) q2 ?_
       exact cO (by kernel_rfl) rfl (by kernel_rfl) (by kernel_rfl) q3 (wpListIn_nil gfin)
     · refine dh (by kernel_rfl) (.inl rfl) (u := .string (mkS x.2)) (by kernel_rfl) ?_
       refine cS (by kernel_rfl) rfl (by kernel_rfl) l1 ?_
       refine hZ (by kernel_rfl) rfl (u := .pointer p) (v := .string (mkS x.2)) (by kernel_rfl) (by kernel_rfl) (by decide) (fun _ => trivial) eO (qc.mono ?_)
       rintro _ _ ⟨rfl, rfl⟩
       refine ⟨_, rfl, ?_⟩
       refine cS (by kernel_rfl) rfl (by kernel_rfl) l6 ?_
       refine eF (by kernel_rfl) rfl (by kernel_rfl) qb ?_
       refine fe (by kernel_rfl) rfl (by kernel_rfl) (by kernel_rfl) q2 ?_
       exact cO (by kernel_rfl) rfl (by kernel_rfl) (by kernel_rfl) q3 (wpListIn_nil gfin)
     · refine dh (by kernel_rfl) (.inl rfl) (u := .string (mkS x.2)) (by kernel_rfl) ?_
       refine cS (by kernel_rfl) rfl (by kernel_rfl) l1 ?_
       refine hZ (by kernel_rfl) rfl (u := .pointer p) (v := .string (mkS x.2)) (by kernel_rfl) (by kernel_rfl) (by decide) (fun _ => trivial) eO (qc.mono ?_)
       rintro _ _ ⟨rfl, rfl⟩
       refine ⟨_, rfl, ?_⟩
       refine eF (by kernel_rfl) rfl (by kernel_rfl) qb ?_
       refine cS (by kernel_rfl) rfl (by kernel_rfl) l6' ?_
       refine fe (by kernel_rfl) rfl (by kernel_rfl) (by kernel_rfl) q2 ?_
       exact cO (by kernel_rfl) rfl (by kernel_rfl) (by kernel_rfl) q3 (wpListIn_nil gfin)
   case done =>
     rintro D xs V hD hxs ⟨⟨a3, n3, c3, D1, D2, D3, D4⟩, _⟩ hK
     have l6 : (Instr.loadAt aA (.pointer (some ⟨k6, 0, none⟩))).run prog V = .ok (.slice a3 n3 c3) V := D1.load1 bi rfl rfl
     refine sp ?_
     apply wpIn_region_lit
     refine cS (by kernel_rfl) rfl (by kernel_rfl) l6 ?_
     refine dh (by kernel_rfl) (.inr rfl) (u := .slice a3 n3 c3) (by kernel_rfl) ?_
     refine sf ?_
     refine wpIn_ret ?_
     simp only [Act.put, List.setIfInBounds_toArray, List.set_cons_succ, List.set_cons_zero]
     have gD := grownBy_putObj' V D (.deferred none)
     have nD : yS V (some D) := fun r e => by cases e; exact ⟨_, hK, rfl⟩
     have hwk : w.heap.size <= k6 := by rw [hk6]; exact BW.size
     have BV : Below w.heap.size w V := B7.trans (D4.mono hwk)
     have ew : xs.map (fun x => ofT ts x.2) = hwV ts h := by
       rw [<- hTw, <- show xs.map Prod.snd = T.reverse from hxs, List.map_map]; rfl
     rw [ew] at D2
     refine ⟨by simp, .inl ⟨_, _, rfl, run_takeDeferred hK, ?_⟩⟩
     exact ⟨_, Go.results_tmp rfl _ _ _, a3, n3, c3, rfl, D2.turned gD nD, (fun g hg => Nat.le_trans B7.size (D3 g hg)), ux BV BV.size gD (fun r e => by cases e; have := B7.size; omega)⟩
   case stop =>
     rintro D c pre W _ _ h _
     exact h.elim
def yU (ts : List Txt) (h : Hst) (w : World) (v : Value) (w' : World) : Prop := ∃ (a : Option Addr) (n c : Nat), v = .slice a n c /\ Ow i7 az w' NoB a n c (hwV ts h) /\ bD w.heap.size a /\ Below w.heap.size w w'
theorem lP {h : Hst} (o : h.ok) (hn : h.name.length <= 1000000) {w : World} (he : Env w) {p : Option Addr} {ts : List Txt} (hA : gU w p ts) : Calls prog j9 #[.pointer p, h.v] w (Ret (yU ts h w)) :=
 (callsIn_wide.1 (wv o hn he hA)).mono fun e w' ⟨a, n, c, he, h1, h2, h3⟩ => ⟨_, he, a, n, c, rfl, h1, h2, h3⟩
end Go.Proofs.YtpafoodmpjlkhaaGreatDoor
namespace Go.Pk
noncomputable def tx (ts : List Txt) (x : Nat) : Txt := py ts (x : Int)
theorem CN {ts : List Txt} {x : Nat} (h : x < ts.length) : tx ts x = ts[x] := by
 unfold tx py
 rw [if_neg (by omega), if_pos (by omega)]
 simp [h]
theorem uq (ts : List Txt) : tx ts ts.length = kU ts := by
 unfold tx py
 rw [if_pos rfl]
def be (ts : List Txt) (h : Hst) : List Nat := (bL h).map fun s => (ofT ts s).toNat
theorem qa (ts : List Txt) (h : Hst) : hwV ts h = (be ts h).map fun (x : Nat) => (x : Int) := by
 unfold hwV be
 rw [List.map_map]
 refine List.map_congr_left fun s _ => ?_
 have := (Fz ts s).1
 show _ = (((ofT ts s).toNat : Nat) : Int)
 omega
theorem iU (ts : List Txt) (h : Hst) : ∀ x ∈ be ts h, x < ts.length + 1 := by
 intro x hx
 obtain ⟨s, _, rfl⟩ := List.mem_map.1 hx
 have := Fz ts s
 omega
noncomputable def hAd (ts : List Txt) (x : Nat) : Bool := ko (tx ts x)
noncomputable def hLb (ts : List Txt) (x : Nat) : Bool := aX (tx ts x)
noncomputable def hDg (ts : List Txt) (x : Nat) : Bool := bU (tx ts x)
theorem HK (ts : List Txt) (v : List Nat) : hsW (hAd ts) (hLb ts) (hDg ts) v ↔ jt (v.map (tx ts)) := by
 cases v with
 | nil => rfl
 | cons x r =>
   unfold hsW jt
   simp only [List.map_cons, List.map_eq_nil_iff]
   refine or_congr Iff.rfl ?_
   unfold hAd hLb hDg
   constructor
   · rintro ⟨_, h1, h2, h3⟩
     refine ⟨h1, h2, fun y hy => ?_⟩
     obtain ⟨z, hz, rfl⟩ := List.mem_map.1 hy
     exact (h3 z hz).2
   · rintro ⟨h1, h2, h3⟩
     have no : ∀ {s : Txt}, aX s = true -> ko s = false := fun {s} h => by
       cases ha : ko s with
       | false => rfl
       | true => rw [qG ha] at h; cases h
     exact ⟨no h1, h1, h2, fun y hy => ⟨no (h3 _ (List.mem_map.2 ⟨y, hy, rfl⟩)), h3 _ (List.mem_map.2 ⟨y, hy, rfl⟩)⟩⟩
def kI : List Txt -> Nat
 | [] => 0
 | x :: r => x.length + 1 + kI r
theorem vE : ∀ a b : List Txt, kI (a ++ b) = kI a + kI b
 | [], b => by simp [kI]
 | x :: a, b => by simp only [List.cons_append, kI]; rw [vE a b]; omega
theorem AE : ∀ a : List Txt, kI a.reverse = kI a
 | [] => rfl
 | x :: a => by rw [List.reverse_cons, vE, AE a]; simp only [kI]; omega
theorem tL : ∀ (r : List Txt) (x : Txt), (Lib.join (x :: r) [46]).length + 1 = kI (x :: r)
 | [], x => by rw [Lib.join_one]; simp [kI]
 | y :: r, x => by
   have := tL r y
   rw [lu, List.length_append, List.length_cons]
   show x.length + ((Lib.join (y :: r) [46]).length + 1) + 1 = x.length + 1 + kI (y :: r)
   omega
theorem vF {t : List Txt} (h : t ≠ []) : (Lib.join t.reverse [46]).length + 1 = kI t := by
 rw [<- AE t]
 cases hr : t.reverse with
 | nil => exact absurd (List.reverse_eq_nil_iff.1 hr) h
 | cons x r => exact tL r x
noncomputable def co (ts : List Txt) : List Int := (List.range (ts.length + 1)).map fun x => (((tx ts x).length : Nat) : Int) + 1
theorem lC (ts : List Txt) : (co ts).length = ts.length + 1 := by simp [co]
theorem nL {ts : List Txt} {x : Nat} (h : x < ts.length + 1) : cAt (co ts) x = (((tx ts x).length : Nat) : Int) + 1 := by
 unfold cAt co
 rw [List.getD_eq_getElem?_getD, List.getElem?_map, List.getElem?_range h]; rfl
theorem oF {ts : List Txt} : ∀ {v : List Nat}, (∀ x ∈ v, x < ts.length + 1) -> cr (co ts) v = (kI (v.map (tx ts)) : Int)
 | [], _ => rfl
 | x :: v, h => by
   have e := oF (v := v) fun y hy => h y (List.mem_cons_of_mem _ hy)
   simp only [cr, List.map_cons, kI]
   rw [nL (h x List.mem_cons_self), e]
   omega
end Go.Pk
namespace Go.Pk
def Dn (s : Txt) : Bool := match ct (s ++ [46, 120]) with | some h => (h.name == s ++ [46, 120]) && ((aq h).length == 2) | none => false
theorem Fnq (s : Txt) : Dn s = aX s := by
 have hx : aX [120] = true := by decide
 have hdx : bU [120] = false := by decide
 cases hl : aX s with
 | true =>
   have e : Lib.join [s, [120]] [46] = s ++ [46, 120] := by rw [lu, Lib.join_one]
   have hs := (gH hl).2.1
   obtain ⟨h1, h2, h3⟩ := mO (L := [s, [120]]) (by simp) (by intro x hx'; simp at hx'; rcases hx' with rfl | rfl <;> assumption) hdx (by rw [e]; simp; omega)
   unfold Dn
   rw [e] at h1 h3
   rw [h1]
   simp [h3]
 | false =>
   unfold Dn
   cases hv : ct (s ++ [46, 120]) with
   | none => rfl
   | some h =>
     simp only
     rw [Bool.eq_false_iff]
     intro hc
     rw [Bool.and_eq_true, beq_iff_eq, beq_iff_eq] at hc
     obtain ⟨c1, c2⟩ := hc
     have o := fP hv
     have e := (di o (d := h) (by omega)).2
     have hm : s ∈ aq h := by
       rw [c1, bC] at e
       rw [e, List.length_append] at c2
       rw [e]
       have e2 : aZ 46 [] [120] = [[120]] := by decide
       rw [e2] at c2 ⊢
       have c3 : (aZ 46 [] s).length = 1 := by simpa using c2
       obtain ⟨x, ex⟩ := List.length_eq_one_iff.1 c3
       have hj := d8 46 s []
       rw [ex, Lib.join_one, List.nil_append] at hj
       rw [ex, hj]; simp
     have := lD o s hm
     rw [hl] at this; cases this
end Go.Pk
namespace Go.Proofs.YtpafoodmpjlkhaaGreatDoor
open Go.Pk
open Go.RowKit (Below)
theorem mP (s : Txt) (hs : s.length <= 1000000) (w : World) (he : Env w) : Calls prog jV #[.string (mkS s)] w (Ret fun v w' => v = .bool (ko s) /\ Below w.heap.size w w') := by
 apply rW
 unfold mS
 refine ax (ls s (by omega) w he) ?_
 rintro _ w7 ⟨rfl, hb7⟩
 unfold ko
 cases hv : ct s with
 | none =>
   refine ⟨_, _, rfl, fun k3 w3 hk3 hw3 => ?_⟩
   have hb3 := (hw3 ▸ ah w7 _ : Below w7.heap.size w7 w3)
   have A3 : am w3 k3 ae gj.cells := am.new hk3 hw3
   obtain ⟨wx, hs4, A4, g4⟩ := aB.store0 (P := prog) (cs := gj.cells) rfl (Hst.one _) A3 rfl
   refine ⟨wx, hs4, af.no rfl ⟨rfl, ab hb7 (Below.put hb3 g4 (by omega)) hb7.size⟩⟩
 | some h =>
   have o := fP hv
   refine ⟨_, _, rfl, fun k3 w3 hk3 hw3 => ?_⟩
   have hb3 := (hw3 ▸ ah w7 _ : Below w7.heap.size w7 w3)
   have A3 : am w3 k3 ae gj.cells := am.new hk3 hw3
   obtain ⟨wx, hs4, A4, g4⟩ := aB.store0 (P := prog) (cs := h.cells) (Hst.len o) (Hst.one _) A3 rfl
   have hB := ab hb7 (Below.put hb3 g4 (by omega)) hb7.size
   refine ⟨wx, hs4, af.yes rfl ⟨rfl, h.kind, A4.load1 aI rfl rfl, ?_⟩⟩
   refine af.of (fun h1 => ?_) (fun h1 => ⟨?_, hB⟩)
   · refine ⟨_, aB.load0 A4 (Hst.len o), ?_⟩
     refine ax (pZ o wx (he.step hB)) ?_
     rintro _ w9 ⟨rfl, hb9⟩
     refine ⟨_, rfl, ?_, ab hB hb9 hB.size⟩
     have : h.kind ≠ 1 := by simpa using h1
     simp [this]
   · have : h.kind = 1 := by simpa using h1
     simp [this]
theorem o0 (s : Txt) (hs : s.length <= 1000000) (w : World) (he : Env w) : Calls prog jp #[.string (mkS s)] w (Ret fun v w' => v = .bool (aX s) /\ Below w.heap.size w w') := by
 apply uf
 unfold pj
 have hl : ((s.length + [46, 120].length : Nat) : Int) <= i64.max := by show ((s.length + 2 : Nat) : Int) <= 9223372036854775807; omega
 refine ⟨hl, ?_⟩
 rintro _ rfl
 rw [<- Fnq]
 unfold Dn
 refine ax (ls (s ++ [46, 120]) (by simp; omega) w he) ?_
 rintro _ w7 ⟨rfl, hb7⟩
 cases hv : ct (s ++ [46, 120]) with
 | none =>
   refine ⟨_, _, rfl, fun k3 w3 hk3 hw3 => ?_⟩
   have hb3 := (hw3 ▸ ah w7 _ : Below w7.heap.size w7 w3)
   have A3 : am w3 k3 ae gj.cells := am.new hk3 hw3
   obtain ⟨wx, hs4, A4, g4⟩ := aB.store0 (P := prog) (cs := gj.cells) rfl (Hst.one _) A3 rfl
   refine ⟨wx, hs4, af.no rfl ⟨rfl, ab hb7 (Below.put hb3 g4 (by omega)) hb7.size⟩⟩
 | some h =>
   have o := fP hv
   refine ⟨_, _, rfl, fun k3 w3 hk3 hw3 => ?_⟩
   have hb3 := (hw3 ▸ ah w7 _ : Below w7.heap.size w7 w3)
   have A3 : am w3 k3 ae gj.cells := am.new hk3 hw3
   obtain ⟨wx, hs4, A4, g4⟩ := aB.store0 (P := prog) (cs := h.cells) (Hst.len o) (Hst.one _) A3 rfl
   have hB := ab hb7 (Below.put hb3 g4 (by omega)) hb7.size
   refine ⟨wx, hs4, af.yes rfl ⟨rfl, h.name, A4.load1 aC rfl rfl, hl, ?_⟩⟩
   rintro _ rfl
   refine af.of (fun h1 => ?_) (fun h1 => ⟨?_, hB⟩)
   · refine ⟨_, aB.load0 A4 (Hst.len o), ?_⟩
     have hn : h.name = s ++ [46, 120] := by simpa using h1
     refine ax (rg o (by rw [hn]; simp; omega) wx (he.step hB)) ?_
     rintro _ w9 ⟨a, n, c, rfl, ho, _, hb9⟩
     refine ⟨_, _, _, rfl, ?_, ab hB hb9 hB.size⟩
     rw [ho.len]
     simp only [h1, Bool.true_and]
     congr 1
     rw [Bool.eq_iff_iff, beq_iff_eq, beq_iff_eq]
     omega
   · simp [h1]
theorem su (s : Txt) (hs : s.length <= 1000000) (w : World) (he : Env w) : Calls prog bP #[.string (mkS s)] w (Ret fun v w' => v = .bool (!aX s) /\ Below w.heap.size w w') := by
 apply rV
 unfold mR
 refine ax (o0 s hs w he) ?_
 rintro _ w4 ⟨rfl, hb⟩
 exact ⟨_, rfl, rfl, hb⟩
theorem zc {w : World} (he : Env w) {A : Bl} {a : Option Addr} {n c : Nat} {xs : List Txt} (hs : Sl tS w A a n c xs) (hx : ∀ x ∈ xs, x.length <= 1000000) :
   Calls prog bf #[.slice a n c, .func (.func bP) #[] #[]] w (Ret fun v w' => v = .bool (!xs.all aX) /\ Below w.heap.size w w') := by
 have hn := hs.len
 subst hn
 have hle := hs.le
 apply dw
 unfold bH
 refine ax (K := fun v w' => ∃ i : Int, v = .int .i64 i /\ (decide (i >= 0)) = (!xs.all aX) /\ Below w.heap.size w w') ?_ ?_
 · apply dQ
   unfold bR
   refine ⟨fun m i w' => ∃ j : Nat, j <= xs.length /\ i = (j : Int) /\ m = xs.length - j /\ (xs.take j).all aX = true /\ Below w.heap.size w w', ⟨_, 0, by omega, rfl, rfl, rfl, Below.refl _ _⟩, ?_⟩
   intro m i
   refine aE.of ?_ _
   rintro w' ⟨j, hj, rfl, rfl, hno, hB⟩
   refine af.of (fun h => ?_) (fun h => ?_) <;> simp only [dTx, dFx] at h
   · have hlt : j < xs.length := by omega
     have hs' := hs.below hB
     obtain ⟨v, hv, hrep⟩ := hs'.load1 (P := prog) (i := (j : Int)) aC rfl rfl (by simpa using hlt)
     obtain ⟨rfl, _⟩ := i6 hrep
     simp only [Int.toNat_natCast] at hv
     refine ⟨⟨⟨by omega, h⟩, hs'.isSome hlt⟩, _, hv, ?_⟩
     refine ax (su xs[j] (hx _ (List.getElem_mem hlt)) w' (he.step hB)) ?_
     rintro _ w3 ⟨rfl, hb3⟩
     have hB3 := ab hB hb3 hB.size
     refine ⟨_, rfl, af.of (fun h3 => ?_) (fun h3 => ?_)⟩
     · refine ⟨_, rfl, ?_, hB3⟩
       have : xs.all aX = false := by
         rw [Bool.eq_false_iff]
         intro hc
         rw [List.all_eq_true.1 hc _ (List.getElem_mem hlt)] at h3; cases h3
       rw [this, decide_eq_true (by omega)]; rfl
     · refine ⟨xs.length - (j + 1), by omega, j + 1, by omega, by rw [ak (by omega) (by omega)]; omega, rfl, ?_, hB3⟩
       rw [List.take_succ_eq_append_getElem hlt, List.all_append, hno]
       simpa using h3
   · have : j = xs.length := by omega
     subst this
     rw [List.take_length] at hno
     exact ⟨_, rfl, by rw [hno]; decide, hB⟩
 · rintro _ w3 ⟨i, rfl, hi, hw3⟩
   exact ⟨_, rfl, by rw [hi], hw3⟩
end Go.Proofs.YtpafoodmpjlkhaaGreatDoor
namespace Go.Pk
theorem Eb : ∀ i, i < 38 -> fQ (sD i) = true := by decide
theorem Gj (n : Nat) : ∀ c ∈ Et n, fQ c = true := by
 induction n using Nat.strongRecOn with
 | ind n ih =>
   intro c hc
   by_cases h : n = 0
   · subst h; rw [nG] at hc; cases hc
   · rw [ou h] at hc
     rcases List.mem_cons.1 hc with rfl | hc
     · exact Eb _ (Nat.mod_lt _ (by omega))
     · exact ih ((n - 1) / 38) (by omega) c hc
theorem Cy {n : Nat} (h : 1 <= n) : 1 <= (iu n).length /\ ∀ c ∈ iu n, fQ c = true := by
 refine ⟨?_, fun c hc => Gj n c (by unfold iu at hc; exact List.mem_reverse.1 hc)⟩
 unfold iu
 rw [ou (by omega), List.length_reverse, List.length_cons]
 omega
theorem HD (n : Nat) : (Et n).length <= n := by
 induction n using Nat.strongRecOn with
 | ind n ih =>
   by_cases h : n = 0
   · subst h; rw [nG]; exact Nat.le_refl _
   · rw [ou h, List.length_cons]
     have := ih ((n - 1) / 38) (by omega)
     omega
theorem lJ {ts : List Txt} (hl : ts.length <= 60) : aX (kU ts) = true := by
 have h1 := (qM ts).1
 have h2 := DT ts
 obtain ⟨h3, h4⟩ := Cy h1
 have h5 : (iu (wh ts)).length <= wh ts := by unfold iu; rw [List.length_reverse]; exact HD _
 unfold aX kU
 rw [Bool.and_eq_true, Bool.and_eq_true, dTx, dTx]
 exact ⟨⟨h3, by omega⟩, List.all_eq_true.2 h4⟩
theorem AG {h : Hst} (o : h.ok) (hk : h.kind = 1) (hr : aU h = true) : kI (bL h) = h.name.length + 1 := by
 obtain ⟨el, hne⟩ := dv o hk hr
 have e : bL h = (aq h).reverse := by unfold bL; rw [if_pos hr, if_pos hk]
 rw [e]
 have h1 := vF (t := (aq h).reverse) (by simpa using hne)
 rw [List.reverse_reverse, el] at h1
 have hj := d8 46 h.name []
 rw [List.nil_append] at hj
 rw [hj] at h1
 rw [el]; omega
theorem ET {h : Hst} (o : h.ok) (hk : h.kind ≠ 1) (hr : aU h = true) : kI (bL h) = (cX h).length + 1 := by
 have e : bL h = [cX h] := by unfold bL; rw [if_pos hr, if_neg hk]
 rw [e]; simp [kI]
theorem AF {h : Hst} (o : h.ok) (hr : aU h = true) : kI (bL h) <= 254 := by
 by_cases hk : h.kind = 1
 · rw [AG o hk hr]
   have := (dV o hk hr).2.2.2.1
   omega
 · rw [ET o hk hr]
   have := nM o
   have hv := lM o hr
   have hn : h.name = [] := by
     unfold ct at hv
     split at hv
     · split at hv
       · rw [Option.map_eq_some_iff] at hv
         obtain ⟨a, _, e⟩ := hv
         rw [<- e]
       · cases hv
     split at hv
     · rw [Option.map_eq_some_iff] at hv
       obtain ⟨a, _, e⟩ := hv
       rw [<- e]
     split at hv
     · exact absurd (by rw [<- Option.some.inj hv]) hk
     · cases hv
   rw [hn] at this
   simp only [List.length_nil] at this
   omega
theorem yt {ts : List Txt} {v : List Nat} (hv : ∀ x ∈ v, x < ts.length + 1) (h : jt (v.map (tx ts))) (hc : cr (co ts) v <= 254) :
   ∃ g, cY (v.map (tx ts)) = some g /\ g.ok /\ aU g = true /\ bL g = v.map (tx ts) := by
 refine Fe h (.inr ?_)
 rw [oF hv] at hc
 have hne : v.map (tx ts) ≠ [] := fun e => by rw [e] at h; exact h
 have := vF hne
 omega
end Go.Pk
