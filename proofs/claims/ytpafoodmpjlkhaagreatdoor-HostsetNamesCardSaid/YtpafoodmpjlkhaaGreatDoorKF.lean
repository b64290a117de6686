/- What the laws lean on: HosC, V31, V32, Elem, PrT, DaM; what is used. Its conditions: none. -/
import Derived.Test.YtpafoodmpjlkhaaGreatDoorKE
open Go.IntKind (i64)
open Go.Proofs.Tryz (prog)
set_option linter.unusedVariables false
set_option linter.unusedSimpArgs false
namespace Go.Pk
theorem xN {P : Program} {a b : Tmp} {t u : TypeId} {ρ : Tmp -> Value} {w : World} {v v2 : Value} (h1 : (bm t (ρ a)).run P w = .ok v w) (h2 : (bm u (ρ b)).run P w = .ok v2 w) :
   (Ig #[.cell a t, .cell b u] ρ).run P w = .ok (.tuple #[v, v2]) w := by
 have e1 : Ay ρ (.cell a t) = bm t (ρ a) := rfl
 have e2 : Ay ρ (.cell b u) = bm u (ρ b) := rfl
 unfold Ig
 rw [Sem.run_bind, Array.mapM_eq_mapM_toList, Sem.run_map]
 simp only [List.mapM_cons, List.mapM_nil, e1, e2, Sem.run_bind, Sem.run_pure, Result.andThen_ok, h1, h2]
 rfl
section
variable {F : Fence} {n : Nat} {P : Program} {ops : Array Oper} {Q : Exit -> Act -> World -> Prop} {a : Act} {w : World} {rest : List Oper} {o : Oper}
theorem jc (hw : Region.wanted o (yielded ops a.tmps) = false) (hF : ∀ g, F.fn g) (hK : wpListIn F n P ops Q rest (a.put o.dst undef) w) : wpListIn F n P ops Q (o :: rest) a w := by
 simp only [wpListIn, hw]
 exact ⟨fun f _ => hF f, hK⟩
theorem jO (hw : Region.wanted o (yielded ops a.tmps) = true) (hd : ∀ c, o.op ≠ .defer c) (ha : o.about P w a.eval = none) {b b' : Bool} (hrun : (execOp a.eval o).run P w = .ok (.value (.bool b')) w) (hb : b' = b) (hK : wpListIn F n P ops Q rest (a.put o.dst (.bool b)) w) : wpListIn F n P ops Q (o :: rest) a w := by
 subst hb; exact wo hw hd ha hrun hK
end
theorem tK {P : Program} {tb : TypeId} {bytes : Nat} {z : Value} (tf : TF P tb 1 bytes z) {w : World} {k : Nat} {t : TypeId} {x : Value} (h : am w k t [x]) (b : Bool) : ∃ w', (Instr.storeAt tb (.pointer (some ⟨k, 0, none⟩)) (.bool b)).run P w = .ok () w' /\ am w' k t [.bool b] /\ w.grownBy w' (some k) :=
 h.store tf (i := 0) (v := .bool b) rfl (by simp) (by intro c hcc; simp [Value.cells] at hcc; subst hcc; rfl)
theorem AD : ∀ {L : List Txt}, (∀ x ∈ L, x.length <= 1000) -> kI L <= 1001 * L.length
 | [], _ => by simp [kI]
 | x :: L, h => by
   have h1 := h x List.mem_cons_self
   have h2 := AD (L := L) fun y hy => h y (List.mem_cons_of_mem _ hy)
   simp only [kI, List.length_cons]
   omega
theorem GA {L : List Txt} (hl : L.length <= 1000) (hx : ∀ x ∈ L, x.length <= 1000) : (Lib.join L [46]).length <= 1001000 := by
 cases L with
 | nil => rw [Lib.join_nil]; simp
 | cons x r =>
   have h1 := tL r x
   have h2 := AD hx
   rw [List.length_cons] at hl h2
   omega
section
variable {L t : List Txt} (hL : L = t.reverse)
include hL
theorem uE (hb : (decide (L.length = 1) && L.all ko) = true) : cY t = ct (Lib.join L [46]) := by
 subst hL
 rw [Bool.and_eq_true, dTx, List.length_reverse, List.all_reverse] at hb
 unfold cY
 rw [if_pos hb]
 obtain ⟨x, rfl⟩ := List.length_eq_one_iff.1 hb.1
 rw [List.reverse_singleton, Lib.join_one]; rfl
theorem tU (hb : (decide (L.length = 1) && L.all ko) = false) : ¬ (t.length = 1 /\ t.all ko = true) := by
 subst hL
 rintro ⟨h1, h2⟩
 rw [List.length_reverse, List.all_reverse, h2, decide_eq_true h1] at hb
 cases hb
theorem Fdq (hb : (decide (L.length = 1) && L.all ko) = false) (ha : L.all aX = false) : cY t = none := by
 have := tU hL hb
 subst hL
 rw [List.all_reverse] at ha
 unfold cY
 rw [if_neg this, ha]; rfl
theorem AU (hb : (decide (L.length = 1) && L.all ko) = false) (ha : L.all aX = true) {h : Hst} (hv : ct (Lib.join L [46]) = some h) : cY t = if h.kind = 1 then some h else none := by
 have := tU hL hb
 subst hL
 rw [List.all_reverse] at ha
 unfold cY
 rw [if_neg this, if_pos ha, hv]
theorem D5 {b : Bool} (hb : b = (decide (L.length = 1) && L.all ko)) (hbl : b = true \/ L.all aX = true) (hv : ct (Lib.join L [46]) = none) : cY t = none := by
 cases b with
 | true => rw [uE hL hb.symm]; exact hv
 | false =>
   have := tU hL hb.symm
   have ha := hbl.resolve_left (by simp)
   subst hL
   rw [List.all_reverse] at ha
   unfold cY
   rw [if_neg this, if_pos ha, hv]
end
noncomputable def txs (ts : List Txt) (ws : List Int) : List Txt := ws.map (py ts)
end Go.Pk
namespace Go.Proofs.YtpafoodmpjlkhaaGreatDoor
open Go.Pk Go.RowKit Go.Shelf
attribute [local go_sem] Oper.semAt_some
theorem Hw (a : Option Addr) (n c : Nat) (w : World) : Calls prog 62 #[.slice a n c] w fun e w' => e = .returned (.func (.func 114) #[] #[.pointer (some ⟨w.heap.size, 0, none⟩)]) /\ w' = w.alloc (.cells #[.slice a n c] aA) := by
 refine (mr a n c (K := fun v w' => v = (.func (.func 114) #[] #[.pointer (some ⟨w.heap.size, 0, none⟩)]) /\ w' = w.alloc (.cells #[.slice a n c] aA)) ?_).mono ?_
 · intro k1 w1 hk1 hw1
   subst hk1 hw1
   exact ⟨rfl, rfl⟩
 · rintro e w' ⟨v, rfl, rfl, rfl⟩
   exact ⟨rfl, rfl⟩
def IG : List (List Nat) := [[0, 1, 2, 3, 4, 5, 6], [0, 2, 1, 3, 4, 5, 6], [1, 0, 2, 3, 4, 5, 6], [1, 2, 0, 3, 4, 5, 6], [1, 2, 3, 0, 4, 5, 6], [1, 2, 3, 4, 0, 5, 6], [2, 0, 1, 3, 4, 5, 6], [2, 1, 0, 3, 4, 5, 6], [2, 1, 3, 0, 4, 5, 6], [2, 1, 3, 4, 0, 5, 6]]
set_option maxRecDepth 100000 in
set_option maxHeartbeats 8000000 in
theorem wu {ws : List Int} {w : World} (he : Env w) {p : Option Addr} {ts : List Txt} (hA : gU w p ts) (htl : ts.length <= 100000) {a : Option Addr} {n c : Nat} (hs : Sl i7 w gT a n c ws) (hin : ∀ b o, a = some ⟨b, o, none⟩ -> b < w.heap.size)
   (hw0 : ∀ x ∈ ws, 0 <= x /\ x <= (ts.length : Int)) (hwl : ws.length <= 1000) (hxl : ∀ x ∈ txs ts ws, x.length <= 1000) :
   CallsIn Fence.wide 6 prog 28 #[.pointer p, .slice a n c] w fun e w' => e = .returned (.tuple #[((cY (txs ts ws)).getD gj).v, .bool (cY (txs ts ws)).isSome]) /\ Below w.heap.size w w' := by
 have hF : ∀ g : FuncId, Fence.wide.fn g := fun _ => trivial
 have hn := hs.len
 subst hn
 obtain ⟨w1, hw1⟩ : ∃ w1, w1 = w.alloc (.cells (Value.cells (.pointer p)) aY) := ⟨_, rfl⟩
 obtain ⟨w2, hw2⟩ : ∃ w2, w2 = w1.alloc (.cells aL ae) := ⟨_, rfl⟩
 obtain ⟨w3, hw3⟩ : ∃ w3, w3 = w2.alloc (.cells #[.bool false] eV) := ⟨_, rfl⟩
 obtain ⟨w6, hw6⟩ : ∃ w6, w6 = w3.alloc (.cells #[.slice none 0 0] aw) := ⟨_, rfl⟩
 obtain ⟨w7, hw7⟩ : ∃ w7, w7 = w6.alloc (.cells #[.slice a ws.length c] aA) := ⟨_, rfl⟩
 obtain ⟨k2, hk2⟩ : ∃ k, k = w.heap.size := ⟨_, rfl⟩
 obtain ⟨k4, hk4⟩ : ∃ k, k = w1.heap.size := ⟨_, rfl⟩
 obtain ⟨k5, hk5⟩ : ∃ k, k = w2.heap.size := ⟨_, rfl⟩
 obtain ⟨k6, hk6⟩ : ∃ k, k = w3.heap.size := ⟨_, rfl⟩
 obtain ⟨k7, hk7⟩ : ∃ k, k = w6.heap.size := ⟨_, rfl⟩
 have b1 : Below w.heap.size w w1 := hw1 ▸ ah w _
 have b2 : Below w1.heap.size w1 w2 := hw2 ▸ ah w1 _
 have b3 : Below w2.heap.size w2 w3 := hw3 ▸ ah w2 _
 have b6 : Below w3.heap.size w3 w6 := hw6 ▸ ah w3 _
 have b7 : Below w6.heap.size w6 w7 := hw7 ▸ ah w6 _
 have s1 : w1.heap.size = w.heap.size + 1 := by rw [hw1]; simp
 have s2 : w2.heap.size = w1.heap.size + 1 := by rw [hw2]; simp
 have s3 : w3.heap.size = w2.heap.size + 1 := by rw [hw3]; simp
 have s6 : w6.heap.size = w3.heap.size + 1 := by rw [hw6]; simp
 have s7 : w7.heap.size = w6.heap.size + 1 := by rw [hw7]; simp
 have A2 : am w1 k2 aY [.pointer p] := am.new hk2 hw1
 have A4 : am w2 k4 ae gj.cells := am.new hk4 hw2
 have A5 : am w3 k5 eV [.bool false] := am.new hk5 hw3
 have A6 : am w6 k6 aw [.slice none 0 0] := am.new hk6 hw6
 have A7 : am w7 k7 aA [.slice a ws.length c] := am.new hk7 hw7
 have B6 : Below w.heap.size w w6 := ((b1.trans (b2.mono (by omega))).trans (b3.mono (by omega))).trans (b6.mono (by omega))
 have B7 : Below w.heap.size w w7 := B6.trans (b7.mono (by omega))
 have A2' : am w7 k2 aY [.pointer p] := (((A2.below b2).below b3).below b6).below b7
 have A4' : am w7 k4 ae gj.cells := ((A4.below b3).below b6).below b7
 have A5' : am w7 k5 eV [.bool false] := (A5.below b6).below b7
 have A6' : am w7 k6 aw [.slice none 0 0] := A6.below b7
 refine callsIn_of_wp_marks Tryz.func28 rfl trivial ?_ rfl
 simp only [Tryz.ntmps28, List.size_toArray, List.length_cons, List.length_nil, Nat.reduceAdd, Nat.reduceSub, Array.replicate_succ, Array.replicate_zero, List.push_toArray, List.append_toArray, List.nil_append, List.cons_append]
 have eB := enters_of Tryz.func62 (by kernel_rfl) rfl
 have eN := enters_of Tryz.func50 (by kernel_rfl) rfl
 have eT := enters_of Tryz.func52 (by kernel_rfl) rfl
 have eA := enters_of Tryz.func54 (by kernel_rfl) rfl
 have eC := enters_of Tryz.func63 (by kernel_rfl) rfl
 have eJ := enters_of Tryz.func66 (by kernel_rfl) rfl
 have eP := enters_of Tryz.func65 (by kernel_rfl) rfl
 refine sp ?_
 apply wpIn_region_lit
 refine Jd (by kernel_rfl) rfl (u := .pointer p) (by kernel_rfl) hk2 hw1 ?_
 refine yw (by kernel_rfl) rfl (v := .pointer (some ⟨k4, 0, none⟩)) (w' := w2) (by rw [hk4, hw2]; kernel_rfl) ?_
 refine yw (by kernel_rfl) rfl (v := .pointer (some ⟨k5, 0, none⟩)) (w' := w3) (by rw [hk5, hw3]; kernel_rfl) ?_
 refine sf ?_
 refine sp ?_
 apply wpIn_region_lit
 refine yw (by kernel_rfl) rfl (v := .pointer (some ⟨k6, 0, none⟩)) (w' := w6) (by rw [hk6, hw6]; kernel_rfl) ?_
 refine sf ?_
 refine sp ?_
 refine sp ?_
 apply wpIn_region_lit
 refine dh (by kernel_rfl) (.inl rfl) (u := .slice a ws.length c) (by kernel_rfl) ?_
 refine uA (by kernel_rfl) rfl (u := .slice a ws.length c) (by kernel_rfl) (by decide) hF eB ((callsIn_wide.2 (Hw a ws.length c w6)).mono ?_)
 rintro _ w7' ⟨rfl, hw7'⟩
 rw [<- hw7] at hw7'
 rw [hw7']
 clear hw7' w7'
 rw [<- hk7]
 refine ⟨_, rfl, ?_⟩
 refine sf ?_
 simp only [Act.put, List.setIfInBounds_toArray, List.set_cons_succ, List.set_cons_zero]
 apply wpIn_block
 have hws := hs.below B7
 have I0 : Es tS ar aw k6 w7.heap.size w7 (([] : List (Int × Int)).map fun x => py ts x.2) w7 := ⟨none, 0, 0, A6', Ow.nil _ _ _ _, (fun g hg => by cases hg), Below.refl _ _⟩
 refine wpIn_rangeFunc_ownG rfl (by decide) (gf := 114) (lb := #[.pointer (some ⟨k7, 0, none⟩)]) (by kernel_rfl) trivial (enters_of Tryz.func114 (by kernel_rfl) rfl)
   (DK Fence.wide 5 trivial rfl (by decide) k7 ws (by omega) A7 hws) (fun h1 h2 => h1.trans h2) (fun V l o o' hl _ _ _ => wC fun b hb e => ?hKb) (Below.refl _ _) (fun _ => rfl)
   (fun pre V => Es tS ar aw k6 w7.heap.size w7 (pre.map fun x => py ts x.2) V /\ pre.length <= 1000) (fun (_ : Code) (pre : List (Int × Int)) (_ : World) => ∃ x ∈ pre, ¬ (0 <= x.2 /\ x.2 <= (ts.length : Int))) (OwnFrom.and (Db (by omega)) (ownFrom_pure _ _)) (fun _ => ownFrom_pure _ _) ⟨I0, by simp⟩
   (fun x => { tmps := #[.pointer p, .slice a ws.length c, .pointer (some ⟨k2, 0, none⟩), undef, .pointer (some ⟨k4, 0, none⟩), .pointer (some ⟨k5, 0, none⟩), .pointer (some ⟨k6, 0, none⟩), undef, .int .i64 x.2, undef, undef, undef, .slice a ws.length c, .func (.func 114) #[] #[.pointer (some ⟨k7, 0, none⟩)], .int .i64 x.1, .int .i64 x.2, undef, undef, undef, undef, undef, undef, undef, undef, undef, undef, undef, undef, undef, undef, undef, undef, undef, undef, undef, undef, undef, undef, undef, undef, undef, undef, undef, undef, undef, undef, undef, undef, undef, undef, undef, undef, undef, undef, undef, undef, undef, undef, undef, undef, undef, undef, undef, undef, undef, undef], defers := [] }) ?assign ?body ?done ?stop
 case hKb =>
   rcases hb with rfl | ⟨o2, e2⟩
   · omega
   · have := hin b o2 e2; omega
 case assign =>
   intro l x V K hK
   apply wpIn_region_lit
   simp only [List.zip_toArray, List.foldl_toArray', List.foldl_toArray, List.zip_cons_cons, List.zip_nil_left, List.zip_nil_right, List.foldl_cons, List.foldl_nil, List.setIfInBounds_toArray, List.set_cons_succ, List.set_cons_zero]
   refine dh (by kernel_rfl) (.inr rfl) (u := .int .i64 x.2) (by kernel_rfl) ?_
   exact Iz hK
 case body =>
   rintro l pre x V ⟨hC, hlen0⟩ hlen
   have hwk : w.heap.size <= k6 := by omega
   have hCd := hC.drew
   obtain ⟨a1, n1, c1, C1, C2, C3, C4⟩ := hC
   have BV : Below w.heap.size w V := B7.trans (C4.mono hwk)
   have hAV : gU V p ts := hA.below BV
   have A2V : am V k2 aY [.pointer p] := A2'.block (C4.block k2 (by omega))
   have A4V : am V k4 ae gj.cells := A4'.block (C4.block k4 (by omega))
   have A5V : am V k5 eV [.bool false] := A5'.block (C4.block k5 (by omega))
   have l2V : (Instr.loadAt aY (.pointer (some ⟨k2, 0, none⟩))).run prog V = .ok (.pointer p) V := A2V.load1 io rfl rfl
   have qn : CallsIn Fence.wide (6 - 1 - 1 - 1) prog 50 #[.pointer p] V fun e w' => e = .returned (.int .i64 ((ts.length : Int) + 1)) /\ w' = V :=
     (callsIn_wide.2 (ci p ts (by omega) V hAV)).mono fun e w' ⟨v, he, hv, hw⟩ => ⟨by rw [he, hv], hw⟩
   obtain ⟨V4, q4, _, g4⟩ := aB.store0 (P := prog) (cs := gj.cells) rfl (Hst.one _) A4V rfl
   obtain ⟨V5, q5, _, g5⟩ := tK (P := prog) uo (A5V.grown g4 (fun e => by cases e; omega)) false
   apply wpIn_block
   refine sp ?_
   refine sp ?_
   apply wpIn_region_lit
   refine dh (by kernel_rfl) (.inl rfl) (u := .int .i64 x.2) (by kernel_rfl) ?_
   by_cases c0 : x.2 < 0
   · refine jO (by kernel_rfl) (fun c hc => by cases hc) (by kernel_rfl) (b' := decide (x.2 < 0)) (by kernel_rfl) (decide_eq_true c0) ?_
     refine dh (by kernel_rfl) (.inl rfl) (u := .bool true) (by kernel_rfl) ?_
     refine jc (by kernel_rfl) (fun _ => trivial) ?_
     try simp only [Act.put, List.setIfInBounds_toArray, List.set_cons_succ, List.set_cons_zero]
     refine jc (by kernel_rfl) (fun _ => trivial) ?_
     refine jc (by kernel_rfl) (fun _ => trivial) ?_
     refine jc (by kernel_rfl) (fun _ => trivial) ?_
     try simp only [Act.put, List.setIfInBounds_toArray, List.set_cons_succ, List.set_cons_zero]
     refine jO (by kernel_rfl) (fun c hc => by cases hc) (by kernel_rfl) (b' := true) (by kernel_rfl) rfl ?_
     refine sf ?_
     try simp only [Act.put, List.setIfInBounds_toArray, List.set_cons_succ, List.set_cons_zero]
     refine wpIn_cond_true (by kernel_rfl) ?_
     refine sp ?_
     apply wpIn_region_lit
     refine wo (by kernel_rfl) (fun c hc => by cases hc) (by kernel_rfl) (v := gj.v) (w' := V) (by kernel_rfl) ?_
     refine cO (by kernel_rfl) rfl (by kernel_rfl) (by kernel_rfl) q4 ?_
     refine cO (by kernel_rfl) rfl (by kernel_rfl) (by kernel_rfl) q5 ?_
     try simp only [Act.put, List.setIfInBounds_toArray, List.set_cons_succ, List.set_cons_zero]
     refine sf ?_
     try simp only [Act.put, List.setIfInBounds_toArray, List.set_cons_succ, List.set_cons_zero]
     exact wpIn_ret ⟨KeepsFrom.trans (KeepsFrom.of_grownBy g4 (fun j hj => by cases hj; omega)) (KeepsFrom.of_grownBy g5 (fun j hj => by cases hj; omega)), x, by simp, by omega⟩
   refine jO (by kernel_rfl) (fun c hc => by cases hc) (by kernel_rfl) (b' := decide (x.2 < 0)) (by kernel_rfl) (decide_eq_false c0) ?_
   refine dh (by kernel_rfl) (.inl rfl) (u := .bool false) (by kernel_rfl) ?_
   refine dh (by kernel_rfl) (.inl rfl) (u := .int .i64 x.2) (by kernel_rfl) ?_
   try simp only [Act.put, List.setIfInBounds_toArray, List.set_cons_succ, List.set_cons_zero]
   refine cS (by kernel_rfl) rfl (by kernel_rfl) l2V ?_
   refine uA (by kernel_rfl) rfl (u := .pointer p) (by kernel_rfl) (by decide) (fun _ => trivial) eN (qn.mono ?_)
   rintro _ w' ⟨rfl, hw'⟩
   rw [hw']
   clear hw' w'
   refine ⟨_, rfl, ?_⟩
   try simp only [Act.put, List.setIfInBounds_toArray, List.set_cons_succ, List.set_cons_zero]
   by_cases c1 : x.2 >= (ts.length : Int) + 1
   · refine jO (by kernel_rfl) (fun c hc => by cases hc) (by kernel_rfl) (b' := decide (x.2 >= (ts.length : Int) + 1)) (by kernel_rfl) (decide_eq_true c1) ?_
     refine jO (by kernel_rfl) (fun c hc => by cases hc) (by kernel_rfl) (b' := true) (by kernel_rfl) rfl ?_
     refine sf ?_
     try simp only [Act.put, List.setIfInBounds_toArray, List.set_cons_succ, List.set_cons_zero]
     refine wpIn_cond_true (by kernel_rfl) ?_
     refine sp ?_
     apply wpIn_region_lit
     refine wo (by kernel_rfl) (fun c hc => by cases hc) (by kernel_rfl) (v := gj.v) (w' := V) (by kernel_rfl) ?_
     refine cO (by kernel_rfl) rfl (by kernel_rfl) (by kernel_rfl) q4 ?_
     refine cO (by kernel_rfl) rfl (by kernel_rfl) (by kernel_rfl) q5 ?_
     try simp only [Act.put, List.setIfInBounds_toArray, List.set_cons_succ, List.set_cons_zero]
     refine sf ?_
     try simp only [Act.put, List.setIfInBounds_toArray, List.set_cons_succ, List.set_cons_zero]
     exact wpIn_ret ⟨KeepsFrom.trans (KeepsFrom.of_grownBy g4 (fun j hj => by cases hj; omega)) (KeepsFrom.of_grownBy g5 (fun j hj => by cases hj; omega)), x, by simp, by omega⟩
   refine jO (by kernel_rfl) (fun c hc => by cases hc) (by kernel_rfl) (b' := decide (x.2 >= (ts.length : Int) + 1)) (by kernel_rfl) (decide_eq_false c1) ?_
   refine jO (by kernel_rfl) (fun c hc => by cases hc) (by kernel_rfl) (b' := false) (by kernel_rfl) rfl ?_
   refine sf ?_
   try simp only [Act.put, List.setIfInBounds_toArray, List.set_cons_succ, List.set_cons_zero]
   refine wpIn_cond_false (by kernel_rfl) ?_
   refine wpIn_skip ?_
   obtain ⟨a1, n1, c1', C1, C2, C3, C4⟩ := hCd
   have hAV' : gU V.drew p ts := hAV.below (gV V)
   have l2 : (Instr.loadAt aY (.pointer (some ⟨k2, 0, none⟩))).run prog V.drew = .ok (.pointer p) V.drew := (A2V.below (gV V)).load1 io rfl rfl
   have l6 : (Instr.loadAt aw (.pointer (some ⟨k6, 0, none⟩))).run prog V.drew = .ok (.slice a1 n1 c1') V.drew := C1.load1 bh rfl rfl
   have qc := callsIn_wide (n := 6 - 1 - 1 - 1).2 (ny p ts htl x.2 V.drew hAV')
   have fin : ∀ Vc, Below V.drew.heap.size V.drew Vc -> (Instr.loadAt aw (.pointer (some ⟨k6, 0, none⟩))).run prog Vc = .ok (.slice a1 n1 c1') Vc /\ ∃ (kx : Nat) (V1 : World),
       (Instr.buildSlice aw 1 #[(0, .string (mkS (py ts x.2)))]).run prog Vc = .ok (.slice (some ⟨kx, 0, none⟩) 1 1) V1 /\ (Instr.loadAt aw (.pointer (some ⟨k6, 0, none⟩))).run prog V1 = .ok (.slice a1 n1 c1') V1 /\
       ∃ (V2 : World) (a2 : Option Addr) (n2 c2 : Nat), (Builtin.append_ #[aw, aw] aw #[.slice a1 n1 c1', .slice (some ⟨kx, 0, none⟩) 1 1]).run prog V1 = .ok (.slice a2 n2 c2) V2 /\
       ∃ V3 : World, (Instr.storeAt aw (.pointer (some ⟨k6, 0, none⟩)) (.slice a2 n2 c2)).run prog V2 = .ok () V3 /\ ∀ {aa : Act}, (Exit.inBlock 1 (ownPostG w7.heap.size (sg fun b => b = k7 \/ ∃ o, a = some ⟨b, o, none⟩) (fun pre V => Es tS ar aw k6 w7.heap.size w7 (pre.map fun x => py ts x.2) V /\ pre.length <= 1000) (fun (_ : Code) (pre : List (Int × Int)) (_ : World) => ∃ x ∈ pre, ¬ (0 <= x.2 /\ x.2 <= (ts.length : Int))) (pre ++ [x]) V)) .normal aa V3 := by
     intro Vc hbc
     have C1c := C1.below hbc
     have C2c := C2.below hbc
     have C4c : Below k6 w7 Vc := C4.trans (hbc.mono (by have := C4.size; omega))
     obtain ⟨V1, hV1⟩ : ∃ V1, V1 = Vc.alloc (.cells #[.string (mkS (py ts x.2))] ar) := ⟨_, rfl⟩
     have bV : Below Vc.heap.size Vc V1 := hV1 ▸ ah _ _
     obtain ⟨V2, a2, n2, c2, q2, V3, q3, C', kf, oth⟩ := Az (dP _) bh iD (by decide) BE C1c C2c C3 C4c (by omega) C4c.size rfl hV1 (show tS.rep Vc NoB [.string (mkS (py ts x.2))] (py ts x.2) from ⟨rfl, trivial⟩) (by rw [List.length_map]; omega)
     refine ⟨C1c.load1 bh rfl rfl, _, V1, by rw [hV1]; exact Ft _ Vc, (C1c.below bV).load1 bh rfl rfl, V2, a2, n2, c2, q2, V3, q3, ?_⟩
     intro aa
     have sV : V.heap.size <= Vc.heap.size := hbc.size
     refine ⟨⟨Nat.le_trans sV kf.size, fun k o hk h1 h2 => kf.same k o hk ((hbc.block k (Array.getElem?_eq_some_iff.1 h1).1).trans h1) h2⟩, ⟨Nat.le_trans sV kf.size, fun b hb hab => ?_⟩, ?_, by simp; omega⟩
     · refine (?_ : V3.heap[b]? = Vc.heap[b]?).trans (hbc.block b hb)
       rcases hab with rfl | ⟨o2, e2⟩
       · exact oth b (by omega) (by omega)
       · have := hin b o2 e2
         exact oth b (by omega) (by omega)
     · rw [List.map_append]; exact C'
   refine E6 rfl IG (by kernel_rfl) ?_
   intro ord hord
   simp only [IG, List.mem_cons, List.not_mem_nil, or_false] at hord
   rcases hord with rfl | rfl | rfl | rfl | rfl | rfl | rfl | rfl | rfl | rfl
   all_goals simp only [List.filterMap_cons, List.filterMap_nil, List.getElem?_toArray, List.getElem?_cons_zero, List.getElem?_cons_succ]
   · refine cS (by kernel_rfl) rfl (by kernel_rfl) l6 ?_
     refine cS (by kernel_rfl) rfl (by kernel_rfl) l2 ?_
     refine dh (by kernel_rfl) (.inl rfl) (u := .int .i64 x.2) (by kernel_rfl) ?_
     refine hZ (by kernel_rfl) rfl (u := .pointer p) (v := .int .i64 x.2) (by kernel_rfl) (by kernel_rfl) (by decide) (fun _ => trivial) eT (qc.mono ?_)
     rintro _ Vc ⟨_, rfl, rfl, hbc⟩
     obtain ⟨l6c, kx, V1, qb, l6', V2, a2, n2, c2, q2, V3, q3, gfin⟩ := fin Vc hbc
     refine ⟨_, rfl, ?_⟩
     refine eF (by kernel_rfl) rfl (by kernel_rfl) qb ?_
     refine fe (by kernel_rfl) rfl (by kernel_rfl) (by kernel_rfl) q2 ?_
     exact cO (by kernel_rfl) rfl (by kernel_rfl) (by kernel_rfl) q3 (wpListIn_nil gfin)
   · refine cS (by kernel_rfl) rfl (by kernel_rfl) l6 ?_
     refine dh (by kernel_rfl) (.inl rfl) (u := .int .i64 x.2) (by kernel_rfl) ?_
     refine cS (by kernel_rfl) rfl (by kernel_rfl) l2 ?_
     refine hZ (by kernel_rfl) rfl (u := .pointer p) (v := .int .i64 x.2) (by kernel_rfl) (by kernel_rfl) (by decide) (fun _ => trivial) eT (qc.mono ?_)
     rintro _ Vc ⟨_, rfl, rfl, hbc⟩
     obtain ⟨l6c, kx, V1, qb, l6', V2, a2, n2, c2, q2, V3, q3, gfin⟩ := fin Vc hbc
     refine ⟨_, rfl, ?_⟩
     refine eF (by kernel_rfl) rfl (by kernel_rfl) qb ?_
     refine fe (by kernel_rfl) rfl (by kernel_rfl) (by kernel_rfl) q2 ?_
     exact cO (by kernel_rfl) rfl (by kernel_rfl) (by kernel_rfl) q3 (wpListIn_nil gfin)
   · refine cS (by kernel_rfl) rfl (by kernel_rfl) l2 ?_
     refine cS (by kernel_rfl) rfl (by kernel_rfl) l6 ?_
     refine dh (by kernel_rfl) (.inl rfl) (u := .int .i64 x.2) (by kernel_rfl) ?_
     refine hZ (by kernel_rfl) rfl (u := .pointer p) (v := .int .i64 x.2) (by kernel_rfl) (by kernel_rfl) (by decide) (fun _ => trivial) eT (qc.mono ?_)
     rintro _ Vc ⟨_, rfl, rfl, hbc⟩
     obtain ⟨l6c, kx, V1, qb, l6', V2, a2, n2, c2, q2, V3, q3, gfin⟩ := fin Vc hbc
     refine ⟨_, rfl, ?_⟩
     refine eF (by kernel_rfl) rfl (by kernel_rfl) qb ?_
     refine fe (by kernel_rfl) rfl (by kernel_rfl) (by kernel_rfl) q2 ?_
     exact cO (by kernel_rfl) rfl (by kernel_rfl) (by kernel_rfl) q3 (wpListIn_nil gfin)
   · refine cS (by kernel_rfl) rfl (by kernel_rfl) l2 ?_
     refine dh (by kernel_rfl) (.inl rfl) (u := .int .i64 x.2) (by kernel_rfl) ?_
     refine cS (by kernel_rfl) rfl (by kernel_rfl) l6 ?_
     refine hZ (by kernel_rfl) rfl (u := .pointer p) (v := .int .i64 x.2) (by kernel_rfl) (by kernel_rfl) (by decide) (fun _ => trivial) eT (qc.mono ?_)
     rintro _ Vc ⟨_, rfl, rfl, hbc⟩
     obtain ⟨l6c, kx, V1, qb, l6', V2, a2, n2, c2, q2, V3, q3, gfin⟩ := fin Vc hbc
     refine ⟨_, rfl, ?_⟩
     refine eF (by kernel_rfl) rfl (by kernel_rfl) qb ?_
     refine fe (by kernel_rfl) rfl (by kernel_rfl) (by kernel_rfl) q2 ?_
     exact cO (by kernel_rfl) rfl (by kernel_rfl) (by kernel_rfl) q3 (wpListIn_nil gfin)
   · refine cS (by kernel_rfl) rfl (by kernel_rfl) l2 ?_
     refine dh (by kernel_rfl) (.inl rfl) (u := .int .i64 x.2) (by kernel_rfl) ?_
     refine hZ (by kernel_rfl) rfl (u := .pointer p) (v := .int .i64 x.2) (by kernel_rfl) (by kernel_rfl) (by decide) (fun _ => trivial) eT (qc.mono ?_)
     rintro _ Vc ⟨_, rfl, rfl, hbc⟩
     obtain ⟨l6c, kx, V1, qb, l6', V2, a2, n2, c2, q2, V3, q3, gfin⟩ := fin Vc hbc
     refine ⟨_, rfl, ?_⟩
     refine cS (by kernel_rfl) rfl (by kernel_rfl) l6c ?_
     refine eF (by kernel_rfl) rfl (by kernel_rfl) qb ?_
     refine fe (by kernel_rfl) rfl (by kernel_rfl) (by kernel_rfl) q2 ?_
     exact cO (by kernel_rfl) rfl (by kernel_rfl) (by kernel_rfl) q3 (wpListIn_nil gfin)
   · refine cS (by kernel_rfl) rfl (by kernel_rfl) l2 ?_
     refine dh (by kernel_rfl) (.inl rfl) (u := .int .i64 x.2) (by kernel_rfl) ?_
     refine hZ (by kernel_rfl) rfl (u := .pointer p) (v := .int .i64 x.2) (by kernel_rfl) (by kernel_rfl) (by decide) (fun _ => trivial) eT (qc.mono ?_)
     rintro _ Vc ⟨_, rfl, rfl, hbc⟩
     obtain ⟨l6c, kx, V1, qb, l6', V2, a2, n2, c2, q2, V3, q3, gfin⟩ := fin Vc hbc
     refine ⟨_, rfl, ?_⟩
     refine eF (by kernel_rfl) rfl (by kernel_rfl) qb ?_
     refine cS (by kernel_rfl) rfl (by kernel_rfl) l6' ?_
     refine fe (by kernel_rfl) rfl (by kernel_rfl) (by kernel_rfl) q2 ?_
     exact cO (by kernel_rfl) rfl (by kernel_rfl) (by kernel_rfl) q3 (wpListIn_nil gfin)
   · refine dh (by kernel_rfl) (.inl rfl) (u := .int .i64 x.2) (by kernel_rfl) ?_
     refine cS (by kernel_rfl) rfl (by kernel_rfl) l6 ?_
     refine cS (by kernel_rfl) rfl (by kernel_rfl) l2 ?_
     refine hZ (by kernel_rfl) rfl (u := .pointer p) (v := .int .i64 x.2) (by kernel_rfl) (by kernel_rfl) (by decide) (fun _ => trivial) eT (qc.mono ?_)
     rintro _ Vc ⟨_, rfl, rfl, hbc⟩
     obtain ⟨l6c, kx, V1, qb, l6', V2, a2, n2, c2, q2, V3, q3, gfin⟩ := fin Vc hbc
     refine ⟨_, rfl, ?_⟩
     refine eF (by kernel_rfl) rfl (by kernel_rfl) qb ?_
     refine fe (by kernel_rfl) rfl (by kernel_rfl) (by kernel_rfl) q2 ?_
     exact cO (by kernel_rfl) rfl (by kernel_rfl) (by kernel_rfl) q3 (wpListIn_nil gfin)
   · refine dh (by kernel_rfl) (.inl rfl) (u := .int .i64 x.2) (by kernel_rfl) ?_
     refine cS (by kernel_rfl) rfl (by kernel_rfl) l2 ?_
     refine cS (by kernel_rfl) rfl (by kernel_rfl) l6 ?_
     refine hZ (by kernel_rfl) rfl (u := .pointer p) (v := .int .i64 x.2) (by kernel_rfl) (by kernel_rfl) (by decide) (fun _ => trivial) eT (qc.mono ?_)
     rintro _ Vc ⟨_, rfl, rfl, hbc⟩
     obtain ⟨l6c, kx, V1, qb, l6', V2, a2, n2, c2, q2, V3, q3, gfin⟩ := fin Vc hbc
     refine ⟨_, rfl, ?_⟩
     refine eF (by kernel_rfl) rfl (by kernel_rfl) qb ?_
     refine fe (by kernel_rfl) rfl (by kernel_rfl) (by kernel_rfl) q2 ?_
     exact cO (by kernel_rfl) rfl (by kernel_rfl) (by kernel_rfl) q3 (wpListIn_nil gfin)
   · refine dh (by kernel_rfl) (.inl rfl) (u := .int .i64 x.2) (by kernel_rfl) ?_
     refine cS (by kernel_rfl) rfl (by kernel_rfl) l2 ?_
     refine hZ (by kernel_rfl) rfl (u := .pointer p) (v := .int .i64 x.2) (by kernel_rfl) (by kernel_rfl) (by decide) (fun _ => trivial) eT (qc.mono ?_)
     rintro _ Vc ⟨_, rfl, rfl, hbc⟩
     obtain ⟨l6c, kx, V1, qb, l6', V2, a2, n2, c2, q2, V3, q3, gfin⟩ := fin Vc hbc
     refine ⟨_, rfl, ?_⟩
     refine cS (by kernel_rfl) rfl (by kernel_rfl) l6c ?_
     refine eF (by kernel_rfl) rfl (by kernel_rfl) qb ?_
     refine fe (by kernel_rfl) rfl (by kernel_rfl) (by kernel_rfl) q2 ?_
     exact cO (by kernel_rfl) rfl (by kernel_rfl) (by kernel_rfl) q3 (wpListIn_nil gfin)
   · refine dh (by kernel_rfl) (.inl rfl) (u := .int .i64 x.2) (by kernel_rfl) ?_
     refine cS (by kernel_rfl) rfl (by kernel_rfl) l2 ?_
     refine hZ (by kernel_rfl) rfl (u := .pointer p) (v := .int .i64 x.2) (by kernel_rfl) (by kernel_rfl) (by decide) (fun _ => trivial) eT (qc.mono ?_)
     rintro _ Vc ⟨_, rfl, rfl, hbc⟩
     obtain ⟨l6c, kx, V1, qb, l6', V2, a2, n2, c2, q2, V3, q3, gfin⟩ := fin Vc hbc
     refine ⟨_, rfl, ?_⟩
     refine eF (by kernel_rfl) rfl (by kernel_rfl) qb ?_
     refine cS (by kernel_rfl) rfl (by kernel_rfl) l6' ?_
     refine fe (by kernel_rfl) rfl (by kernel_rfl) (by kernel_rfl) q2 ?_
     exact cO (by kernel_rfl) rfl (by kernel_rfl) (by kernel_rfl) q3 (wpListIn_nil gfin)
 case done =>
   rintro D xs V hD hxs ⟨⟨a3, n3, c3, D1, D2, D3, D4⟩, _⟩ hK
   have eL : xs.map (fun x => py ts x.2) = (txs ts ws).reverse := by
     unfold txs
     rw [<- List.map_reverse, <- show xs.map Prod.snd = ws.reverse from hxs, List.map_map]; rfl
   rw [eL] at D2
   have hwk : w.heap.size <= k6 := by omega
   have BV : Below w.heap.size w V := B7.trans (D4.mono hwk)
   have A4V : am V k4 ae gj.cells := A4'.block (D4.block k4 (by omega))
   have A5V : am V k5 eV [.bool false] := A5'.block (D4.block k5 (by omega))
   have DV : D < V.heap.size := (Array.getElem?_eq_some_iff.1 hK).1
   obtain ⟨L, hL⟩ : ∃ L, L = (txs ts ws).reverse := ⟨_, rfl⟩
   rw [<- hL] at D2
   have hLl : L.length <= 1000 := by rw [hL, List.length_reverse]; unfold txs; rw [List.length_map]; exact hwl
   have hLx : ∀ x ∈ L, x.length <= 1000 := fun x hx => hxl x (by rw [hL] at hx; simpa using hx)
   have n3e : n3 = L.length := D2.len
   subst n3e
   -- what is handed back
   have back : ∀ {tm : Array Value} {V' : World} {g : Hst} {b : Bool} {w4 w5 : World}, tm.getD 4 undef = .pointer (some ⟨k4, 0, none⟩) -> tm.getD 5 undef = .pointer (some ⟨k5, 0, none⟩) -> g.ok -> Below V.heap.size V V' -> V'.grownBy w4 (some k4) -> am w4 k4 ae g.cells -> w4.grownBy w5 (some k5) -> am w5 k5 eV [.bool b] ->
       (((cY (txs ts ws)).getD gj).v = g.v /\ (cY (txs ts ws)).isSome = b) ->
       LeavesInM Fence.wide 6 prog Tryz.f28 tm (fun e w' => e = .returned (.tuple #[((cY (txs ts ws)).getD gj).v, .bool (cY (txs ts ws)).isSome]) /\ Below w.heap.size w w') [{ target := .collected D, args := #[] }] .returning w5 := by
     intro tm V' g b w4 w5 t4 t5 og hbV g4 h4 g5 h5 he
     have s4 : V'.heap.size <= w4.heap.size := g4.size
     have hKD : w5.heap[D]? = some (.deferred (some [])) := by
       have h1 := hbV.size
       rw [g5.block D (by omega) (fun e => by cases e; omega), g4.block D (by omega) (fun e => by cases e; omega), hbV.block D DV]; exact hK
     have gD := grownBy_putObj' w5 D (.deferred none)
     have h4' : am (w5.putObj D (.deferred none)) k4 ae g.cells := (h4.grown g5 (fun e => by cases e; omega)).grown gD (fun e => by cases e; omega)
     have h5' : am (w5.putObj D (.deferred none)) k5 eV [.bool b] := h5.grown gD (fun e => by cases e; omega)
     have B5 : Below w.heap.size w w5 := by
       have e1 := ab BV hbV BV.size
       refine (e1.grown g4 e1.size fun x e => by cases e; omega).grown g5 ?_ fun x e => by cases e; omega
       exact Nat.le_trans e1.size g4.size
     refine ⟨by simp, .inl ⟨_, _, rfl, run_takeDeferred hKD, ?_⟩⟩
     refine ⟨_, xN (v := g.v) (v2 := .bool b) ?_ ?_, ?_, B5.grown gD B5.size fun x e => by cases e; omega⟩
     · rw [t4]; exact am.res (aB.load0 h4' (Hst.len og))
     · rw [t5]; exact am.res (h5'.load1 qw rfl rfl)
     · rw [he.1, he.2]
   have none_ : ∀ {V' : World}, Below V.heap.size V V' -> cY (txs ts ws) = none ->
       ∃ w4 w5, (Instr.storeAt ae (.pointer (some ⟨k4, 0, none⟩)) gj.v).run prog V' = .ok () w4 /\ (Instr.storeAt eV (.pointer (some ⟨k5, 0, none⟩)) (.bool false)).run prog w4 = .ok () w5 /\
       ∀ {tm : Array Value}, tm.getD 4 undef = .pointer (some ⟨k4, 0, none⟩) -> tm.getD 5 undef = .pointer (some ⟨k5, 0, none⟩) -> LeavesInM Fence.wide 6 prog Tryz.f28 tm (fun e w' => e = .returned (.tuple #[((cY (txs ts ws)).getD gj).v, .bool (cY (txs ts ws)).isSome]) /\ Below w.heap.size w w') [{ target := .collected D, args := #[] }] .returning w5 := by
     intro V' hbV hno
     obtain ⟨w4, q4, h4, g4⟩ := aB.store0 (P := prog) (cs := gj.cells) rfl (Hst.one _) (A4V.below hbV) rfl
     obtain ⟨w5, q5, h5, g5⟩ := tK (P := prog) uo ((A5V.below hbV).grown g4 (fun e => by cases e; omega)) false
     exact ⟨w4, w5, q4, q5, fun t4 t5 => back (g := gj) t4 t5 rfl hbV g4 h4 g5 h5 ⟨by rw [hno]; rfl, by rw [hno]; rfl⟩⟩
   have some_ : ∀ {V' : World} {g : Hst}, Below V.heap.size V V' -> g.ok -> cY (txs ts ws) = some g ->
       ∃ w4 w5, (Instr.storeAt ae (.pointer (some ⟨k4, 0, none⟩)) g.v).run prog V' = .ok () w4 /\ (Instr.storeAt eV (.pointer (some ⟨k5, 0, none⟩)) (.bool true)).run prog w4 = .ok () w5 /\
       ∀ {tm : Array Value}, tm.getD 4 undef = .pointer (some ⟨k4, 0, none⟩) -> tm.getD 5 undef = .pointer (some ⟨k5, 0, none⟩) -> LeavesInM Fence.wide 6 prog Tryz.f28 tm (fun e w' => e = .returned (.tuple #[((cY (txs ts ws)).getD gj).v, .bool (cY (txs ts ws)).isSome]) /\ Below w.heap.size w w') [{ target := .collected D, args := #[] }] .returning w5 := by
     intro V' g hbV og hsm
     obtain ⟨w4, q4, h4, g4⟩ := aB.store0 (P := prog) (cs := g.cells) (Hst.len og) (Hst.one _) (A4V.below hbV) rfl
     obtain ⟨w5, q5, h5, g5⟩ := tK (P := prog) uo ((A5V.below hbV).grown g4 (fun e => by cases e; omega)) true
     exact ⟨w4, w5, q4, q5, fun t4 t5 => back (g := g) t4 t5 og hbV g4 h4 g5 h5 ⟨by rw [hsm]; rfl, by rw [hsm]; rfl⟩⟩
   refine HG (fun a' W => ∃ (x31 x32 x33 x34 x35 x36 x37 x38 x39 : Value) (b : Bool), a' = { tmps := #[.pointer p, .slice a ws.length c, .pointer (some ⟨k2, 0, none⟩), undef, .pointer (some ⟨k4, 0, none⟩), .pointer (some ⟨k5, 0, none⟩), .pointer (some ⟨k6, 0, none⟩), undef, undef, .bool b, undef, undef, .slice a ws.length c, .func (.func 114) #[] #[.pointer (some ⟨k7, 0, none⟩)], undef, undef, undef, undef, undef, undef, undef, undef, undef, undef, undef, undef, undef, undef, undef, undef, undef, x31, x32, x33, x34, x35, x36, x37, x38, x39, undef, undef, undef, undef, undef, undef, undef, undef, undef, undef, undef, undef, undef, undef, undef, undef, undef, undef, undef, undef, undef, undef, undef, undef, undef, undef], defers := [{ target := .collected D, args := #[] }] } /\ b = (decide (L.length = 1) && L.all ko) /\ Below V.heap.size V W) ?_ ?_
   · apply wpIn_region_lit
     have l6 : (Instr.loadAt aw (.pointer (some ⟨k6, 0, none⟩))).run prog V = .ok (.slice a3 L.length c3) V := D1.load1 bh rfl rfl
     refine cS (by kernel_rfl) rfl (by kernel_rfl) l6 ?_
     refine wo (by kernel_rfl) (fun c hc => by cases hc) (by kernel_rfl) (v := .int .i64 ((L.length : Nat) : Int)) (w' := V) (by kernel_rfl) ?_
     by_cases cc : L.length = 1
     · obtain ⟨x, hx⟩ := List.length_eq_one_iff.1 cc
       clear hL
       subst hx
       obtain ⟨g, rfl⟩ : ∃ g, a3 = some ⟨g, 0, none⟩ := by
         rcases D2.2.2.2 with ⟨_, _, h⟩ | ⟨g, _, _, h, _⟩
         · cases h
         · exact ⟨g, h⟩
       obtain ⟨v, qv, hv⟩ := D2.all.load1 (P := prog) (i := 0) aC rfl rfl (by simp)
       obtain ⟨rfl, _⟩ := i6 hv
       refine jO (by kernel_rfl) (fun c hc => by cases hc) (by kernel_rfl) (b' := true) (by kernel_rfl) rfl ?_
       try simp only [Act.put, List.setIfInBounds_toArray, List.set_cons_succ, List.set_cons_zero]
       refine dh (by kernel_rfl) (.inl rfl) (u := .bool true) (by kernel_rfl) ?_
       refine cS (by kernel_rfl) rfl (by kernel_rfl) l6 ?_
       refine wo (by kernel_rfl) (fun c hc => by cases hc) (by kernel_rfl) (v := .pointer (ao (some ⟨g, 0, none⟩) 0 1)) (w' := V) (by kernel_rfl) ?_
       try simp only [Act.put, List.setIfInBounds_toArray, List.set_cons_succ, List.set_cons_zero]
       refine cS (by kernel_rfl) rfl (by kernel_rfl) qv ?_
       refine uA (by kernel_rfl) rfl (u := .string (mkS x)) (by kernel_rfl) (by decide) hF eA ((callsIn_wide.2 (mP x (by have := hLx x (by simp); omega) V (he.step BV))).mono ?_)
       rintro _ Vw ⟨_, rfl, rfl, hbw⟩
       refine ⟨_, rfl, ?_⟩
       try simp only [Act.put, List.setIfInBounds_toArray, List.set_cons_succ, List.set_cons_zero]
       refine wo (by kernel_rfl) (fun c hc => by cases hc) (by kernel_rfl) (v := .bool (ko x)) (w' := Vw) (by kernel_rfl) ?_
       refine dh (by kernel_rfl) (.inr rfl) (u := .bool (ko x)) (by kernel_rfl) ?_
       apply Iz
       exact ⟨.slice (some ⟨g, 0, none⟩) [x].length c3, .int .i64 (([x].length : Nat) : Int), .bool true, .bool true, .slice (some ⟨g, 0, none⟩) [x].length c3, .pointer (ao (some ⟨g, 0, none⟩) 0 1), .string (mkS x), .bool (ko x), .bool (ko x), ko x, (by kernel_rfl), by simp, hbw⟩
     · refine jO (by kernel_rfl) (fun c hc => by cases hc) (by kernel_rfl) (b' := ((L.length : Nat) : Int) == 1) (b := false) (by kernel_rfl) (by rw [beq_eq_false_iff_ne]; omega) ?_
       try simp only [Act.put, List.setIfInBounds_toArray, List.set_cons_succ, List.set_cons_zero]
       refine dh (by kernel_rfl) (.inl rfl) (u := .bool false) (by kernel_rfl) ?_
       refine jc (by kernel_rfl) hF ?_
       refine jc (by kernel_rfl) hF ?_
       try simp only [Act.put, List.setIfInBounds_toArray, List.set_cons_succ, List.set_cons_zero]
       refine jc (by kernel_rfl) hF ?_
       refine jc (by kernel_rfl) hF ?_
       refine jO (by kernel_rfl) (fun c hc => by cases hc) (by kernel_rfl) (b' := false) (by kernel_rfl) rfl ?_
       try simp only [Act.put, List.setIfInBounds_toArray, List.set_cons_succ, List.set_cons_zero]
       refine dh (by kernel_rfl) (.inr rfl) (u := .bool false) (by kernel_rfl) ?_
       apply Iz
       exact ⟨.slice a3 L.length c3, .int .i64 ((L.length : Nat) : Int), .bool false, .bool false, undef, undef, undef, undef, .bool false, false, (by kernel_rfl), by simp [cc], Below.refl _ _⟩
   · rintro a' W ⟨x31, x32, x33, x34, x35, x36, x37, x38, x39, b, rfl, hb, BW⟩
     have B0W : Below w.heap.size w W := ab BV BW BV.size
     refine HG (fun a' W => ∃ (x31 x32 x33 x34 x35 x36 x37 x38 x39 x40 x41 x42 x43 x44 x45 : Value), a' = { tmps := #[.pointer p, .slice a ws.length c, .pointer (some ⟨k2, 0, none⟩), undef, .pointer (some ⟨k4, 0, none⟩), .pointer (some ⟨k5, 0, none⟩), .pointer (some ⟨k6, 0, none⟩), undef, undef, .bool b, undef, undef, .slice a ws.length c, .func (.func 114) #[] #[.pointer (some ⟨k7, 0, none⟩)], undef, undef, undef, undef, undef, undef, undef, undef, undef, undef, undef, undef, undef, undef, undef, undef, undef, x31, x32, x33, x34, x35, x36, x37, x38, x39, x40, x41, x42, x43, x44, x45, undef, undef, undef, undef, undef, undef, undef, undef, undef, undef, undef, undef, undef, undef, undef, undef, undef, undef, undef, undef], defers := [{ target := .collected D, args := #[] }] } /\ (b = true \/ L.all aX = true) /\ Below V.heap.size V W) ?_ ?_
     · have l6 : (Instr.loadAt aw (.pointer (some ⟨k6, 0, none⟩))).run prog W = .ok (.slice a3 L.length c3) W := (D1.below BW).load1 bh rfl rfl
       refine sp ?_
       apply wpIn_region_lit
       refine dh (by kernel_rfl) (.inl rfl) (u := .bool b) (by kernel_rfl) ?_
       cases b with
       | true =>
         refine jO (by kernel_rfl) (fun c hc => by cases hc) (by kernel_rfl) (b' := false) (by kernel_rfl) rfl ?_
         refine dh (by kernel_rfl) (.inl rfl) (u := .bool false) (by kernel_rfl) ?_
         try simp only [Act.put, List.setIfInBounds_toArray, List.set_cons_succ, List.set_cons_zero]
         refine jc (by kernel_rfl) hF ?_
         refine jc (by kernel_rfl) hF ?_
         refine jO (by kernel_rfl) (fun c hc => by cases hc) (by kernel_rfl) (b' := false) (by kernel_rfl) rfl ?_
         try simp only [Act.put, List.setIfInBounds_toArray, List.set_cons_succ, List.set_cons_zero]
         refine sf ?_
         try simp only [Act.put, List.setIfInBounds_toArray, List.set_cons_succ, List.set_cons_zero]
         refine wpIn_cond_false (by kernel_rfl) ?_
         refine wpIn_skip ?_
         exact ⟨x31, x32, x33, x34, x35, x36, x37, x38, x39, .bool true, .bool false, .bool false, undef, undef, .bool false, (by kernel_rfl), by first | exact .inl rfl | simp, BW⟩
       | false =>
         refine jO (by kernel_rfl) (fun c hc => by cases hc) (by kernel_rfl) (b' := true) (by kernel_rfl) rfl ?_
         refine dh (by kernel_rfl) (.inl rfl) (u := .bool true) (by kernel_rfl) ?_
         refine cS (by kernel_rfl) rfl (by kernel_rfl) l6 ?_
         try simp only [Act.put, List.setIfInBounds_toArray, List.set_cons_succ, List.set_cons_zero]
         refine hZ (by kernel_rfl) rfl (u := .slice a3 L.length c3) (v := .func (.func 64) #[] #[]) (by kernel_rfl) (by kernel_rfl) (by decide) hF eC ((callsIn_wide.2 (zc (he.step B0W) (D2.below BW).all (fun x hx => by have := hLx x hx; omega))).mono ?_)
         rintro _ Wc ⟨_, rfl, rfl, hbc⟩
         refine ⟨_, rfl, ?_⟩
         have BWc := ab BW hbc BW.size
         rcases Bool.eq_false_or_eq_true (L.all aX) with hall | hall
         rotate_left
         ·
           obtain ⟨w4, w5, q4, q5, hl⟩ := none_ BWc (Fdq hL hb.symm hall)
           refine jO (by kernel_rfl) (fun c hc => by cases hc) (by kernel_rfl) (b' := !L.all aX) (b := true) (by kernel_rfl) (by simp [hall]) ?_
           refine sf ?_
           try simp only [Act.put, List.setIfInBounds_toArray, List.set_cons_succ, List.set_cons_zero]
           refine wpIn_cond_true (by kernel_rfl) ?_
           refine sp ?_
           apply wpIn_region_lit
           refine wo (by kernel_rfl) (fun c hc => by cases hc) (by kernel_rfl) (v := gj.v) (w' := Wc) (by kernel_rfl) ?_
           refine cO (by kernel_rfl) rfl (by kernel_rfl) (by kernel_rfl) q4 ?_
           refine cO (by kernel_rfl) rfl (by kernel_rfl) (by kernel_rfl) q5 ?_
           try simp only [Act.put, List.setIfInBounds_toArray, List.set_cons_succ, List.set_cons_zero]
           refine sf ?_
           try simp only [Act.put, List.setIfInBounds_toArray, List.set_cons_succ, List.set_cons_zero]
           exact wpIn_ret (hl (by kernel_rfl) (by kernel_rfl))
         ·
           refine jO (by kernel_rfl) (fun c hc => by cases hc) (by kernel_rfl) (b' := !L.all aX) (b := false) (by kernel_rfl) (by simp [hall]) ?_
           refine sf ?_
           try simp only [Act.put, List.setIfInBounds_toArray, List.set_cons_succ, List.set_cons_zero]
           refine wpIn_cond_false (by kernel_rfl) ?_
           refine wpIn_skip ?_
           exact ⟨x31, x32, x33, x34, x35, x36, x37, x38, x39, .bool false, .bool true, .bool true, .slice a3 L.length c3, .bool (!L.all aX), .bool false, (by kernel_rfl), by first | exact .inr hall | simp [hall], BWc⟩
     · rintro a' W ⟨x31, x32, x33, x34, x35, x36, x37, x38, x39, x40, x41, x42, x43, x44, x45, rfl, hbl, BW⟩
       have B0W : Below w.heap.size w W := ab BV BW BV.size
       have l6 : (Instr.loadAt aw (.pointer (some ⟨k6, 0, none⟩))).run prog W = .ok (.slice a3 L.length c3) W := (D1.below BW).load1 bh rfl rfl
       have hJ : (Lib.join L [46]).length <= 1001000 := GA hLl hLx
       refine sp ?_
       apply wpIn_region_lit
       refine cS (by kernel_rfl) rfl (by kernel_rfl) l6 ?_
       refine hZ (by kernel_rfl) rfl (u := .slice a3 L.length c3) (v := .string (mkS [46])) (by kernel_rfl) (by kernel_rfl) (by decide) hF eJ ((callsIn_wide.2 (zC (D2.below BW).all [46] (by omega) (by omega))).mono ?_)
       rintro _ Wj ⟨_, rfl, rfl, hbj⟩
       refine ⟨_, rfl, ?_⟩
       try simp only [Act.put, List.setIfInBounds_toArray, List.set_cons_succ, List.set_cons_zero]
       have BWj := ab BW hbj BW.size
       have B0j := ab BV BWj BV.size
       refine uA (by kernel_rfl) rfl (u := .string (mkS (Lib.join L [46]))) (by kernel_rfl) (by decide) hF eP ((callsIn_wide.2 (ls (Lib.join L [46]) (by omega) Wj (he.step B0j))).mono ?_)
       rintro _ Wp ⟨_, rfl, rfl, hbp⟩
       have BWp := ab BWj hbp BWj.size
       obtain ⟨Wq, hWq⟩ : ∃ Wq, Wq = Wp.alloc (.cells gj.cells.toArray ae) := ⟨_, rfl⟩
       obtain ⟨k10, hk10⟩ : ∃ k, k = Wp.heap.size := ⟨_, rfl⟩
       have bq : Below Wp.heap.size Wp Wq := hWq ▸ ah Wp _
       have A10 : am Wq k10 ae gj.cells := am.new hk10 hWq
       refine ⟨_, rfl, ?_⟩
       cases hv : ct (Lib.join L [46]) with
       | none =>
         obtain ⟨Wr, q10, A10', g10⟩ := aB.store0 (P := prog) (cs := gj.cells) rfl (Hst.one _) A10 rfl
         have BWr : Below V.heap.size V Wr := ab BWp (Below.put bq g10 (by omega)) BWp.size
         obtain ⟨w4, w5, q4, q5, hl⟩ := none_ BWr (D5 hL (b := b) hb hbl hv)
         refine dh (by kernel_rfl) (.inl rfl) (u := .tuple #[gj.v, .int .i64 31]) (by kernel_rfl) ?_
         refine wo (by kernel_rfl) (fun c hc => by cases hc) (by kernel_rfl) (v := gj.v) (w' := Wp) (by kernel_rfl) ?_
         try simp only [Act.put, List.setIfInBounds_toArray, List.set_cons_succ, List.set_cons_zero]
         refine wo (by kernel_rfl) (fun c hc => by cases hc) (by kernel_rfl) (v := .int .i64 31) (w' := Wp) (by kernel_rfl) ?_
         refine yw (by kernel_rfl) rfl (v := .pointer (some ⟨k10, 0, none⟩)) (w' := Wq) (by rw [hk10, hWq]; kernel_rfl) ?_
         refine cO (by kernel_rfl) rfl (by kernel_rfl) (by kernel_rfl) q10 ?_
         try simp only [Act.put, List.setIfInBounds_toArray, List.set_cons_succ, List.set_cons_zero]
         refine dh (by kernel_rfl) (.inr rfl) (u := .int .i64 31) (by kernel_rfl) ?_
         refine sf ?_
         try simp only [Act.put, List.setIfInBounds_toArray, List.set_cons_succ, List.set_cons_zero]
         refine sp ?_
         refine sp ?_
         apply wpIn_region_lit
         refine dh (by kernel_rfl) (.inl rfl) (u := .int .i64 31) (by kernel_rfl) ?_
         refine jO (by kernel_rfl) (fun c hc => by cases hc) (by kernel_rfl) (b' := true) (by kernel_rfl) rfl ?_
         refine dh (by kernel_rfl) (.inl rfl) (u := .bool true) (by kernel_rfl) ?_
         try simp only [Act.put, List.setIfInBounds_toArray, List.set_cons_succ, List.set_cons_zero]
         refine jc (by kernel_rfl) hF ?_
         refine jc (by kernel_rfl) hF ?_
         refine jc (by kernel_rfl) hF ?_
         try simp only [Act.put, List.setIfInBounds_toArray, List.set_cons_succ, List.set_cons_zero]
         refine jc (by kernel_rfl) hF ?_
         refine jc (by kernel_rfl) hF ?_
         refine jc (by kernel_rfl) hF ?_
         try simp only [Act.put, List.setIfInBounds_toArray, List.set_cons_succ, List.set_cons_zero]
         refine jc (by kernel_rfl) hF ?_
         refine jO (by kernel_rfl) (fun c hc => by cases hc) (by kernel_rfl) (b' := true) (by kernel_rfl) rfl ?_
         refine sf ?_
         try simp only [Act.put, List.setIfInBounds_toArray, List.set_cons_succ, List.set_cons_zero]
         refine wpIn_cond_true (by kernel_rfl) ?_
         refine sp ?_
         apply wpIn_region_lit
         refine wo (by kernel_rfl) (fun c hc => by cases hc) (by kernel_rfl) (v := gj.v) (w' := Wr) (by kernel_rfl) ?_
         refine cO (by kernel_rfl) rfl (by kernel_rfl) (by kernel_rfl) q4 ?_
         refine cO (by kernel_rfl) rfl (by kernel_rfl) (by kernel_rfl) q5 ?_
         try simp only [Act.put, List.setIfInBounds_toArray, List.set_cons_succ, List.set_cons_zero]
         refine sf ?_
         try simp only [Act.put, List.setIfInBounds_toArray, List.set_cons_succ, List.set_cons_zero]
         exact wpIn_ret (hl (by kernel_rfl) (by kernel_rfl))
       | some h =>
         have og := fP hv
         obtain ⟨Wr, q10, A10', g10⟩ := aB.store0 (P := prog) (cs := h.cells) (Hst.len og) (Hst.one _) A10 rfl
         have BWr : Below V.heap.size V Wr := ab BWp (Below.put bq g10 (by omega)) BWp.size
         have l10 : (Instr.loadAt ae (.pointer (some ⟨k10, 0, none⟩))).run prog Wr = .ok h.v Wr := aB.load0 A10' (Hst.len og)
         refine dh (by kernel_rfl) (.inl rfl) (u := .tuple #[h.v, .int .i64 0]) (by kernel_rfl) ?_
         refine wo (by kernel_rfl) (fun c hc => by cases hc) (by kernel_rfl) (v := h.v) (w' := Wp) (by kernel_rfl) ?_
         refine wo (by kernel_rfl) (fun c hc => by cases hc) (by kernel_rfl) (v := .int .i64 0) (w' := Wp) (by kernel_rfl) ?_
         try simp only [Act.put, List.setIfInBounds_toArray, List.set_cons_succ, List.set_cons_zero]
         refine yw (by kernel_rfl) rfl (v := .pointer (some ⟨k10, 0, none⟩)) (w' := Wq) (by rw [hk10, hWq]; kernel_rfl) ?_
         refine cO (by kernel_rfl) rfl (by kernel_rfl) (by kernel_rfl) q10 ?_
         refine dh (by kernel_rfl) (.inr rfl) (u := .int .i64 0) (by kernel_rfl) ?_
         try simp only [Act.put, List.setIfInBounds_toArray, List.set_cons_succ, List.set_cons_zero]
         refine sf ?_
         try simp only [Act.put, List.setIfInBounds_toArray, List.set_cons_succ, List.set_cons_zero]
         refine sp ?_
         refine sp ?_
         apply wpIn_region_lit
         refine dh (by kernel_rfl) (.inl rfl) (u := .int .i64 0) (by kernel_rfl) ?_
         refine jO (by kernel_rfl) (fun c hc => by cases hc) (by kernel_rfl) (b' := false) (by kernel_rfl) rfl ?_
         refine dh (by kernel_rfl) (.inl rfl) (u := .bool false) (by kernel_rfl) ?_
         try simp only [Act.put, List.setIfInBounds_toArray, List.set_cons_succ, List.set_cons_zero]
         refine dh (by kernel_rfl) (.inl rfl) (u := .bool b) (by kernel_rfl) ?_
         cases b with
         | true =>
           obtain ⟨w4, w5, q4, q5, hl⟩ := some_ BWr og ((uE hL hb.symm).trans hv)
           refine jO (by kernel_rfl) (fun c hc => by cases hc) (by kernel_rfl) (b' := false) (by kernel_rfl) rfl ?_
           refine dh (by kernel_rfl) (.inl rfl) (u := .bool false) (by kernel_rfl) ?_
           try simp only [Act.put, List.setIfInBounds_toArray, List.set_cons_succ, List.set_cons_zero]
           refine jc (by kernel_rfl) hF ?_
           refine jc (by kernel_rfl) hF ?_
           refine jc (by kernel_rfl) hF ?_
           try simp only [Act.put, List.setIfInBounds_toArray, List.set_cons_succ, List.set_cons_zero]
           refine jO (by kernel_rfl) (fun c hc => by cases hc) (by kernel_rfl) (b' := false) (by kernel_rfl) rfl ?_
           refine jO (by kernel_rfl) (fun c hc => by cases hc) (by kernel_rfl) (b' := false) (by kernel_rfl) rfl ?_
           refine sf ?_
           try simp only [Act.put, List.setIfInBounds_toArray, List.set_cons_succ, List.set_cons_zero]
           refine wpIn_cond_false (by kernel_rfl) ?_
           refine wpIn_skip ?_
           refine sp ?_
           apply wpIn_region_lit
           refine cS (by kernel_rfl) rfl (by kernel_rfl) l10 ?_
           refine cO (by kernel_rfl) rfl (by kernel_rfl) (by kernel_rfl) q4 ?_
           refine cO (by kernel_rfl) rfl (by kernel_rfl) (by kernel_rfl) q5 ?_
           try simp only [Act.put, List.setIfInBounds_toArray, List.set_cons_succ, List.set_cons_zero]
           refine sf ?_
           try simp only [Act.put, List.setIfInBounds_toArray, List.set_cons_succ, List.set_cons_zero]
           exact wpIn_ret (hl (by kernel_rfl) (by kernel_rfl))
         | false =>
           have hall : L.all aX = true := hbl.resolve_left (by simp)
           have eo := AU hL hb.symm hall hv
           refine jO (by kernel_rfl) (fun c hc => by cases hc) (by kernel_rfl) (b' := true) (by kernel_rfl) rfl ?_
           refine dh (by kernel_rfl) (.inl rfl) (u := .bool true) (by kernel_rfl) ?_
           refine wo (by kernel_rfl) (fun c hc => by cases hc) (by kernel_rfl) (v := .pointer (some ⟨k10, 0, none⟩)) (w' := Wr) (by kernel_rfl) ?_
           try simp only [Act.put, List.setIfInBounds_toArray, List.set_cons_succ, List.set_cons_zero]
           refine cS (by kernel_rfl) rfl (by kernel_rfl) (A10'.load1 (i := 0) aI rfl (v := .int .i64 h.kind) rfl) ?_
           by_cases hk : h.kind = 1
           · rw [if_pos hk] at eo
             obtain ⟨w4, w5, q4, q5, hl⟩ := some_ BWr og eo
             refine jO (by kernel_rfl) (fun c hc => by cases hc) (by kernel_rfl) (b' := h.kind != 1) (b := false) (by kernel_rfl) (by simp [hk]) ?_
             refine jO (by kernel_rfl) (fun c hc => by cases hc) (by kernel_rfl) (b' := false) (by kernel_rfl) rfl ?_
             try simp only [Act.put, List.setIfInBounds_toArray, List.set_cons_succ, List.set_cons_zero]
             refine jO (by kernel_rfl) (fun c hc => by cases hc) (by kernel_rfl) (b' := false) (by kernel_rfl) rfl ?_
             refine sf ?_
             try simp only [Act.put, List.setIfInBounds_toArray, List.set_cons_succ, List.set_cons_zero]
             refine wpIn_cond_false (by kernel_rfl) ?_
             refine wpIn_skip ?_
             refine sp ?_
             apply wpIn_region_lit
             refine cS (by kernel_rfl) rfl (by kernel_rfl) l10 ?_
             refine cO (by kernel_rfl) rfl (by kernel_rfl) (by kernel_rfl) q4 ?_
             refine cO (by kernel_rfl) rfl (by kernel_rfl) (by kernel_rfl) q5 ?_
             try simp only [Act.put, List.setIfInBounds_toArray, List.set_cons_succ, List.set_cons_zero]
             refine sf ?_
             try simp only [Act.put, List.setIfInBounds_toArray, List.set_cons_succ, List.set_cons_zero]
             exact wpIn_ret (hl (by kernel_rfl) (by kernel_rfl))
           · rw [if_neg hk] at eo
             obtain ⟨w4, w5, q4, q5, hl⟩ := none_ BWr eo
             refine jO (by kernel_rfl) (fun c hc => by cases hc) (by kernel_rfl) (b' := h.kind != 1) (by kernel_rfl) (bne_iff_ne.2 hk) ?_
             refine jO (by kernel_rfl) (fun c hc => by cases hc) (by kernel_rfl) (b' := true) (by kernel_rfl) rfl ?_
             refine jO (by kernel_rfl) (fun c hc => by cases hc) (by kernel_rfl) (b' := true) (by kernel_rfl) rfl ?_
             try simp only [Act.put, List.setIfInBounds_toArray, List.set_cons_succ, List.set_cons_zero]
             refine sf ?_
             try simp only [Act.put, List.setIfInBounds_toArray, List.set_cons_succ, List.set_cons_zero]
             refine wpIn_cond_true (by kernel_rfl) ?_
             refine sp ?_
             apply wpIn_region_lit
             refine wo (by kernel_rfl) (fun c hc => by cases hc) (by kernel_rfl) (v := gj.v) (w' := Wr) (by kernel_rfl) ?_
             refine cO (by kernel_rfl) rfl (by kernel_rfl) (by kernel_rfl) q4 ?_
             refine cO (by kernel_rfl) rfl (by kernel_rfl) (by kernel_rfl) q5 ?_
             try simp only [Act.put, List.setIfInBounds_toArray, List.set_cons_succ, List.set_cons_zero]
             refine sf ?_
             try simp only [Act.put, List.setIfInBounds_toArray, List.set_cons_succ, List.set_cons_zero]
             exact wpIn_ret (hl (by kernel_rfl) (by kernel_rfl))
 case stop =>
   rintro D c pre W _ hp ⟨x, hx, hno⟩ _
   exact absurd (hw0 _ (hp x hx)) hno
theorem p8 {ws : List Int} {w : World} (he : Env w) {p : Option Addr} {ts : List Txt} (hA : gU w p ts) (htl : ts.length <= 100000) {a : Option Addr} {n c : Nat} (hs : Sl i7 w gT a n c ws) (hin : ∀ b o, a = some ⟨b, o, none⟩ -> b < w.heap.size)
   (hw0 : ∀ x ∈ ws, 0 <= x /\ x <= (ts.length : Int)) (hwl : ws.length <= 1000) (hxl : ∀ x ∈ txs ts ws, x.length <= 1000) :
   Calls prog mY #[.pointer p, .slice a n c] w (Ret fun v w' => v = .tuple #[((cY (txs ts ws)).getD gj).v, .bool (cY (txs ts ws)).isSome] /\ Below w.heap.size w w') :=
 (callsIn_wide.1 (wu he hA htl hs hin hw0 hwl hxl)).mono fun e w' ⟨he, hb⟩ => ⟨_, he, rfl, hb⟩
end Go.Proofs.YtpafoodmpjlkhaaGreatDoor
set_option maxRecDepth 100000
namespace Go.Proofs.YtpafoodmpjlkhaaGreatDoor
open Go.Pk
open Go.RowKit (Below)
--  cracknel/dfa.Right$1
def qz (n0 : Int) (p1 : Option Addr) (w : World) (K : Value -> World -> Prop) : Prop :=
 af (decide (n0 < (0 : Int)))
 (K (.bool true) w)
 (∃ n8, Ld az p1 w (.int .i64 n8) /\
 K (.bool (decide (n0 >= n8))) w)
theorem vc (n0 : Int) (p1 : Option Addr) {w : World} {K : Value -> World -> Prop} (h : qz n0 p1 w K) : Calls prog cu #[.int .i64 n0, .pointer p1] w (Ret K) :=
 au (c := ay Tryz.f155) (by kernel_rfl) Tryz.func155 (by kernel_rfl) [] [.int .i64 n0, .pointer p1] (of_decide_eq_true (by kernel_rfl)) _ (by kernel_rfl) h

--  slices.IndexFunc[[]int,int]
def cP (a0 : Option Addr) (l0 c0 : Nat) (q0 : Option Addr) (w : World) (K : Value -> World -> Prop) : Prop :=
 ∃ I : Nat -> FP [.one (.int .i64)],
 (∃ m, I m (0 : Int) w) /\
 ∀ m n8, aE 12 (∀ wl, I m n8 wl ->
 af (decide (n8 < ((l0 : Nat) : Int)))
 (((0 <= n8 /\ n8 < ((l0 : Nat) : Int)) /\ Option.isSome a0 = true) /\
 ∃ n15, Ld az (ao a0 n8 1) wl (.int .i64 n15) /\
 Calls prog cu #[.int .i64 n15, .pointer q0] wl fun e16 w16 => ∃ b16, e16 = .returned (.bool b16) /\
 af b16
 (K (.int .i64 n8) w16)
 (∃ m' : Nat, m' < m /\ I m' (i64.wrap (n8 + (1 : Int))) w16))
 (K (.int .i64 (-1 : Int)) wl))
theorem gn (a0 : Option Addr) (l0 c0 : Nat) (q0 : Option Addr) {w : World} {K : Value -> World -> Prop} (h : cP a0 l0 c0 q0 w K) : Calls prog bA #[.slice a0 l0 c0, .func (.func cu) #[] #[.pointer q0]] w (Ret K) :=
 au (c := ay Tryz.f202) (by kernel_rfl) Tryz.func202 (by kernel_rfl) [(6, [(8, .one (.int .i64))])] [.slice a0 l0 c0, .func (.func cu) #[] #[.pointer q0]] (of_decide_eq_true (by kernel_rfl)) _ (by kernel_rfl) h

--  slices.ContainsFunc[[]int,int]
def cE (a0 : Option Addr) (l0 c0 : Nat) (q0 : Option Addr) (w : World) (K : Value -> World -> Prop) : Prop :=
 Calls prog bA #[.slice a0 l0 c0, .func (.func cu) #[] #[.pointer q0]] w fun e7 w7 => ∃ n7, e7 = .returned (.int .i64 n7) /\
 K (.bool (decide (n7 >= (0 : Int)))) w7
theorem fi (a0 : Option Addr) (l0 c0 : Nat) (q0 : Option Addr) {w : World} {K : Value -> World -> Prop} (h : cE a0 l0 c0 q0 w K) : Calls prog aN #[.slice a0 l0 c0, .func (.func cu) #[] #[.pointer q0]] w (Ret K) :=
 au (c := ay Tryz.f152) (by kernel_rfl) Tryz.func152 (by kernel_rfl) [] [.slice a0 l0 c0, .func (.func cu) #[] #[.pointer q0]] (of_decide_eq_true (by kernel_rfl)) _ (by kernel_rfl) h

--  cracknel/dfa.Right
def uO (n0_0 : Int) (n0_1 : Int) (a0_2 : Option Addr) (l0_2 c0_2 : Nat) (a0_3 : Option Addr) (l0_3 c0_3 : Nat) (w : World) (K : Value -> World -> Prop) : Prop :=
 ∀ k1 w1, k1 = w.heap.size -> w1 = w.alloc (.cells #[.int .i64 n0_0, .int .i64 n0_1, .slice a0_2 l0_2 c0_2, .slice a0_3 l0_3 c0_3] aj) ->
 (true = true) /\
 ∃ a5 l5 c5, Ld aS (some ⟨k1, 3, none⟩) w1 (.slice a5 l5 c5) /\
 ∀ k3 w3, k3 = w1.heap.size -> w3 = w1.alloc (.cells #[.int .i64 (0 : Int)] az) ->
 ∃ wx, Sv az (some ⟨k3, 0, none⟩) (.int .i64 ((l5 : Nat) : Int)) w3 wx /\
 ∃ J : FP [],
 ((true = true) /\
 ∃ n8, Ld az (some ⟨k1, 0, none⟩) wx (.int .i64 n8) /\
 af (decide (n8 < (1 : Int)))
 (K (.bool false) wx)
 ((true = true) /\
 ∃ n12, Ld az (some ⟨k1, 0, none⟩) wx (.int .i64 n12) /\
 af (decide (n12 > (512 : Int)))
 (K (.bool false) wx)
 (∃ n16, Ld az (some ⟨k3, 0, none⟩) wx (.int .i64 n16) /\
 af (decide (n16 < (1 : Int)))
 (K (.bool false) wx)
 (∃ n20, Ld az (some ⟨k3, 0, none⟩) wx (.int .i64 n20) /\
 af (decide (n20 > (65536 : Int)))
 (K (.bool false) wx)
 ((true = true) /\
 ∃ a25 l25 c25, Ld aA (some ⟨k1, 2, none⟩) wx (.slice a25 l25 c25) /\
 ∃ n27, Ld az (some ⟨k3, 0, none⟩) wx (.int .i64 n27) /\
 (true = true) /\
 ∃ n29, Ld az (some ⟨k1, 0, none⟩) wx (.int .i64 n29) /\
 af (((l25 : Nat) : Int) != (i64.wrap (n27 * n29)))
 (K (.bool false) wx)
 ((true = true) /\
 ∃ n35, Ld az (some ⟨k1, 1, none⟩) wx (.int .i64 n35) /\
 af (decide (n35 < (0 : Int)))
 (K (.bool false) wx)
 ((true = true) /\
 ∃ n40, Ld az (some ⟨k1, 1, none⟩) wx (.int .i64 n40) /\
 ∃ n41, Ld az (some ⟨k3, 0, none⟩) wx (.int .i64 n41) /\
 af (decide (n40 >= n41))
 (K (.bool false) wx)
 (J wx)))))))) /\
 aE 38 (∀ wj, J wj ->
 (true = true) /\
 ∃ a45 l45 c45, Ld aA (some ⟨k1, 2, none⟩) wj (.slice a45 l45 c45) /\
 Calls prog aN #[.slice a45 l45 c45, .func (.func cu) #[] #[.pointer (some ⟨k3, 0, none⟩)]] wj fun e47 w47 => ∃ b47, e47 = .returned (.bool b47) /\
 K (.bool (!b47)) w47)
theorem zV (n0_0 : Int) (n0_1 : Int) (a0_2 : Option Addr) (l0_2 c0_2 : Nat) (a0_3 : Option Addr) (l0_3 c0_3 : Nat) {w : World} {K : Value -> World -> Prop} (h : uO n0_0 n0_1 a0_2 l0_2 c0_2 a0_3 l0_3 c0_3 w K) : Calls prog lF #[.agg #[.int .i64 n0_0, .int .i64 n0_1, .slice a0_2 l0_2 c0_2, .slice a0_3 l0_3 c0_3]] w (Ret K) :=
 au (c := ay Tryz.f102) (by kernel_rfl) Tryz.func102 (by kernel_rfl) [(4, [])] [.agg #[.int .i64 n0_0, .int .i64 n0_1, .slice a0_2 l0_2 c0_2, .slice a0_3 l0_3 c0_3]] (of_decide_eq_true (by kernel_rfl)) _ (by kernel_rfl) h

--  cracknel/dfa.Tells
def mT (n0 : Int) (n1 : Int) (w : World) (K : Value -> World -> Prop) : Prop :=
 (0 <= (32 : Int)) /\
 (0 <= (32 : Int)) /\
 (0 <= (32 : Int)) /\
 (0 <= (32 : Int)) /\
 (0 <= (32 : Int)) /\
 K (.tuple #[.int .u64 (IntKind.u64.wrap ((IntKind.u64.wrap ((IntKind.u64.wrap ((Int.fdiv n0 (2 ^ (min (Int.toNat (32 : Int)) (IntKind.bits .u64)))) * (Int.fdiv n1 (2 ^ (min (Int.toNat (32 : Int)) (IntKind.bits .u64)))))) + (Int.fdiv (IntKind.u64.wrap ((IntKind.u64.wrap ((Int.fdiv n0 (2 ^ (min (Int.toNat (32 : Int)) (IntKind.bits .u64)))) * (IntKind.u64.wrap (((BitVec.ofInt (IntKind.bits .u64) n1) &&& (BitVec.ofInt (IntKind.bits .u64) (4294967295 : Int))).toNat : Nat)))) + (Int.fdiv (IntKind.u64.wrap ((IntKind.u64.wrap (((BitVec.ofInt (IntKind.bits .u64) n0) &&& (BitVec.ofInt (IntKind.bits .u64) (4294967295 : Int))).toNat : Nat)) * (IntKind.u64.wrap (((BitVec.ofInt (IntKind.bits .u64) n1) &&& (BitVec.ofInt (IntKind.bits .u64) (4294967295 : Int))).toNat : Nat)))) (2 ^ (min (Int.toNat (32 : Int)) (IntKind.bits .u64)))))) (2 ^ (min (Int.toNat (32 : Int)) (IntKind.bits .u64)))))) + (Int.fdiv (IntKind.u64.wrap ((IntKind.u64.wrap (((BitVec.ofInt (IntKind.bits .u64) (IntKind.u64.wrap ((IntKind.u64.wrap ((Int.fdiv n0 (2 ^ (min (Int.toNat (32 : Int)) (IntKind.bits .u64)))) * (IntKind.u64.wrap (((BitVec.ofInt (IntKind.bits .u64) n1) &&& (BitVec.ofInt (IntKind.bits .u64) (4294967295 : Int))).toNat : Nat)))) + (Int.fdiv (IntKind.u64.wrap ((IntKind.u64.wrap (((BitVec.ofInt (IntKind.bits .u64) n0) &&& (BitVec.ofInt (IntKind.bits .u64) (4294967295 : Int))).toNat : Nat)) * (IntKind.u64.wrap (((BitVec.ofInt (IntKind.bits .u64) n1) &&& (BitVec.ofInt (IntKind.bits .u64) (4294967295 : Int))).toNat : Nat)))) (2 ^ (min (Int.toNat (32 : Int)) (IntKind.bits .u64))))))) &&& (BitVec.ofInt (IntKind.bits .u64) (4294967295 : Int))).toNat : Nat)) + (IntKind.u64.wrap ((IntKind.u64.wrap (((BitVec.ofInt (IntKind.bits .u64) n0) &&& (BitVec.ofInt (IntKind.bits .u64) (4294967295 : Int))).toNat : Nat)) * (Int.fdiv n1 (2 ^ (min (Int.toNat (32 : Int)) (IntKind.bits .u64)))))))) (2 ^ (min (Int.toNat (32 : Int)) (IntKind.bits .u64)))))), .int .u64 (IntKind.u64.wrap (n0 * n1))]) w
theorem rX (n0 : Int) (n1 : Int) {w : World} {K : Value -> World -> Prop} (h : mT n0 n1 w K) : Calls prog nJ #[.int .u64 n0, .int .u64 n1] w (Ret K) :=
 au (c := ay Tryz.f204) (by kernel_rfl) Tryz.func204 (by kernel_rfl) [] [.int .u64 n0, .int .u64 n1] (of_decide_eq_true (by kernel_rfl)) _ (by kernel_rfl) h

--  math/bits.Mul
def pk (n0 : Int) (n1 : Int) (w : World) (K : Value -> World -> Prop) : Prop :=
 Calls prog nJ #[.int .u64 n0, .int .u64 n1] w fun e25 w25 => ∃ n25_0 n25_1, e25 = .returned (.tuple #[.int .u64 n25_0, .int .u64 n25_1]) /\
 K (.tuple #[.int .u64 n25_0, .int .u64 n25_1]) w25
theorem ug (n0 : Int) (n1 : Int) {w : World} {K : Value -> World -> Prop} (h : pk n0 n1 w K) : Calls prog lH #[.int .u64 n0, .int .u64 n1] w (Ret K) :=
 au (c := ay Tryz.f154) (by kernel_rfl) Tryz.func154 (by kernel_rfl) [] [.int .u64 n0, .int .u64 n1] (of_decide_eq_true (by kernel_rfl)) _ (by kernel_rfl) h

--  slices.Repeat[[]int,int]
def je (a0 : Option Addr) (l0 c0 : Nat) (n1 : Int) (w : World) (K : Value -> World -> Prop) : Prop :=
 ∃ J : FP [],
 (af (decide (n1 < (0 : Int)))
 (False)
 (J w)) /\
 aE 3 (∀ wj, J wj ->
 Calls prog lH #[.int .u64 (IntKind.u64.wrap ((l0 : Nat) : Int)), .int .u64 (IntKind.u64.wrap n1)] wj fun e18 w18 => ∃ n18_0 n18_1, e18 = .returned (.tuple #[.int .u64 n18_0, .int .u64 n18_1]) /\
 ∃ J_1 : FP [],
 (∃ J_2 : FP [.one (.bool)],
 (af (decide (n18_0 > (0 : Int)))
 (J_2 true w18)
 (J_2 (decide (n18_1 > (9223372036854775807 : Int))) w18)) /\
 ∀ b26, aE 5 (∀ wj_1, J_2 b26 wj_1 ->
 af b26
 (False)
 (J_1 wj_1))) /\
 aE 7 (∀ wj_2, J_1 wj_2 ->
 ∃ w30 a30 l30 c30, (Instr.makeSlice aA (.int .i64 (i64.wrap n18_1)) (.int .i64 (i64.wrap n18_1))).run prog wj_2 = .ok (.slice a30 l30 c30) w30 /\
 ∃ w33 n33, (Builtin.copy_ #[aA, aA] az #[.slice a30 l30 c30, .slice a0 l0 c0]).run prog w30 = .ok (.int .i64 n33) w33 /\
 ∃ I : Nat -> FP [.one (.int .i64)],
 (∃ m, I m n33 w33) /\
 ∀ m n8, aE 13 (∀ wl, I m n8 wl ->
 af (decide (n8 < ((l30 : Nat) : Int)))
 (((0 <= n8 /\ n8 <= ((l30 : Nat) : Int))) /\
 ((0 <= n8 /\ n8 <= ((c30 : Nat) : Int))) /\
 ∃ w45 n45, (Builtin.copy_ #[aA, aA] az #[.slice (xh a30 c30 (Int.toNat n8) 1) (l30 - (Int.toNat n8)) (c30 - (Int.toNat n8)), .slice a30 (Int.toNat n8) c30]).run prog (World.drew wl) = .ok (.int .i64 n45) w45 /\
 ∃ m' : Nat, m' < m /\ I m' (i64.wrap (n8 + n45)) w45)
 (K (.slice a30 l30 c30) wl))))
theorem nv (a0 : Option Addr) (l0 c0 : Nat) (n1 : Int) {w : World} {K : Value -> World -> Prop} (h : je a0 l0 c0 n1 w K) : Calls prog cB #[.slice a0 l0 c0, .int .i64 n1] w (Ret K) :=
 au (c := ay Tryz.f101) (by kernel_rfl) Tryz.func101 (by kernel_rfl) [(2, []), (10, []), (11, [(26, .one (.bool))]), (22, [(8, .one (.int .i64))])] [.slice a0 l0 c0, .int .i64 n1] (of_decide_eq_true (by kernel_rfl)) _ (by kernel_rfl) h

--  (*cracknel/dfa.maker).state
def mQ (p0 : Option Addr) (b1 : Bool) (n2 : Int) (w : World) (K : Value -> World -> Prop) : Prop :=
 (Option.isSome p0 = true) /\
 (Option.isSome p0 = true) /\
 (Option.isSome (Option.map (fun x => x.add 0) p0) = true) /\
 ∃ a12 l12 c12, Ld aS (Option.map (fun x => x.add 3) (Option.map (fun x => x.add 0) p0)) w (.slice a12 l12 c12) /\
 ∀ k14 w14, k14 = w.heap.size -> w14 = w.alloc (.cells #[.bool b1] eV) ->
 ∃ w15 a15 l15 c15, (Builtin.append_ #[aS, aS] aS #[.slice a12 l12 c12, .slice (some ⟨k14, 0, none⟩) 1 1]).run prog w14 = .ok (.slice a15 l15 c15) w15 /\
 (Option.isSome p0 = true) /\
 (Option.isSome p0 = true) /\
 (Option.isSome (Option.map (fun x => x.add 0) p0) = true) /\
 ∃ wx, Sv aS (Option.map (fun x => x.add 3) (Option.map (fun x => x.add 0) p0)) (.slice a15 l15 c15) w15 wx /\
 (Option.isSome p0 = true) /\
 (Option.isSome p0 = true) /\
 (Option.isSome (Option.map (fun x => x.add 0) p0) = true) /\
 (Option.isSome p0 = true) /\
 (Option.isSome p0 = true) /\
 (Option.isSome (Option.map (fun x => x.add 0) p0) = true) /\
 ∃ a24 l24 c24, (∀ u24, Below wx.heap.size wx u24 -> Ld aA (Option.map (fun x => x.add 2) (Option.map (fun x => x.add 0) p0)) u24 (.slice a24 l24 c24)) /\
 ∃ n31, (∀ u31, Below wx.heap.size wx u31 -> Ld az (Option.map (fun x => x.add 0) (Option.map (fun x => x.add 0) p0)) u31 (.int .i64 n31)) /\
 ∀ k26, wx.heap.size <= k26 ->
 ∃ J : FP [.one .slice],
 (∀ a32 l32 c32 x y, J a32 l32 c32 x -> Below x.heap.size x y -> J a32 l32 c32 y) /\
 (∀ u32, Below wx.heap.size wx u32 -> u32.heap[k26]? = some (.cells #[.int .i64 n2] az) -> Calls prog cB #[.slice (some ⟨k26, 0, none⟩) 1 1, .int .i64 n31] u32 fun e32 w32 => ∃ a32 l32 c32, e32 = .returned (.slice a32 l32 c32) /\ J a32 l32 c32 w32 /\ Below u32.heap.size u32 w32) /\
 ∀ a32 l32 c32,
 ∀ wq, Below wx.heap.size wx wq ->
 J a32 l32 c32 wq ->
 wq.heap[k26]? = some (.cells #[.int .i64 n2] az) ->
 ∃ w33 a33 l33 c33, (Builtin.append_ #[aA, aA] aA #[.slice a24 l24 c24, .slice a32 l32 c32]).run prog wq = .ok (.slice a33 l33 c33) w33 /\
 (Option.isSome p0 = true) /\
 (Option.isSome p0 = true) /\
 (Option.isSome (Option.map (fun x => x.add 0) p0) = true) /\
 ∃ wx_1, Sv aA (Option.map (fun x => x.add 2) (Option.map (fun x => x.add 0) p0)) (.slice a33 l33 c33) w33 wx_1 /\
 (Option.isSome p0 = true) /\
 (Option.isSome p0 = true) /\
 (Option.isSome (Option.map (fun x => x.add 0) p0) = true) /\
 ∃ a41 l41 c41, Ld aS (Option.map (fun x => x.add 3) (Option.map (fun x => x.add 0) p0)) wx_1 (.slice a41 l41 c41) /\
 K (.int .i64 (i64.wrap (((l41 : Nat) : Int) - (1 : Int)))) wx_1
theorem rU (p0 : Option Addr) (b1 : Bool) (n2 : Int) {w : World} {K : Value -> World -> Prop} (h : mQ p0 b1 n2 w K) : Calls prog cK #[.pointer p0, .bool b1, .int .i64 n2] w (Ret K) :=
 au (c := ay Tryz.f132) (by kernel_rfl) Tryz.func132 (by kernel_rfl) [(3000005, [(0, .one (.bool)), (1, .one (.bool)), (2, .one (.bool)), (3, .one (.bool)), (4, .one (.bool)), (6, .one (.bool)), (8, .one (.bool)), (9, .one (.bool)), (10, .one (.bool)), (11, .one (.bool)), (5, .one (.bool)), (12, .one (.bool)), (7, .one (.bool)), (13, .one (.slice))])] [.pointer p0, .bool b1, .int .i64 n2] (of_decide_eq_true (by kernel_rfl)) _ (by kernel_rfl) h

--  cracknel/dfa.chain$1
def qA (n0 : Int) (p1 : Option Addr) (w : World) (K : Value -> World -> Prop) : Prop :=
 af (decide (n0 < (0 : Int)))
 (K (.bool true) w)
 (∃ n8, Ld az p1 w (.int .i64 n8) /\
 K (.bool (decide (n0 >= n8))) w)
theorem vd (n0 : Int) (p1 : Option Addr) {w : World} {K : Value -> World -> Prop} (h : qA n0 p1 w K) : Calls prog cv #[.int .i64 n0, .pointer p1] w (Ret K) :=
 au (c := ay Tryz.f153) (by kernel_rfl) Tryz.func153 (by kernel_rfl) [] [.int .i64 n0, .pointer p1] (of_decide_eq_true (by kernel_rfl)) _ (by kernel_rfl) h

--  slices.IndexFunc[[]int,int]
def cQ (a0 : Option Addr) (l0 c0 : Nat) (q0 : Option Addr) (w : World) (K : Value -> World -> Prop) : Prop :=
 ∃ I : Nat -> FP [.one (.int .i64)],
 (∃ m, I m (0 : Int) w) /\
 ∀ m n8, aE 12 (∀ wl, I m n8 wl ->
 af (decide (n8 < ((l0 : Nat) : Int)))
 (((0 <= n8 /\ n8 < ((l0 : Nat) : Int)) /\ Option.isSome a0 = true) /\
 ∃ n15, Ld az (ao a0 n8 1) wl (.int .i64 n15) /\
 Calls prog cv #[.int .i64 n15, .pointer q0] wl fun e16 w16 => ∃ b16, e16 = .returned (.bool b16) /\
 af b16
 (K (.int .i64 n8) w16)
 (∃ m' : Nat, m' < m /\ I m' (i64.wrap (n8 + (1 : Int))) w16))
 (K (.int .i64 (-1 : Int)) wl))
theorem gp (a0 : Option Addr) (l0 c0 : Nat) (q0 : Option Addr) {w : World} {K : Value -> World -> Prop} (h : cQ a0 l0 c0 q0 w K) : Calls prog bA #[.slice a0 l0 c0, .func (.func cv) #[] #[.pointer q0]] w (Ret K) :=
 au (c := ay Tryz.f202) (by kernel_rfl) Tryz.func202 (by kernel_rfl) [(6, [(8, .one (.int .i64))])] [.slice a0 l0 c0, .func (.func cv) #[] #[.pointer q0]] (of_decide_eq_true (by kernel_rfl)) _ (by kernel_rfl) h

--  slices.ContainsFunc[[]int,int]
def cF (a0 : Option Addr) (l0 c0 : Nat) (q0 : Option Addr) (w : World) (K : Value -> World -> Prop) : Prop :=
 Calls prog bA #[.slice a0 l0 c0, .func (.func cv) #[] #[.pointer q0]] w fun e7 w7 => ∃ n7, e7 = .returned (.int .i64 n7) /\
 K (.bool (decide (n7 >= (0 : Int)))) w7
theorem fj (a0 : Option Addr) (l0 c0 : Nat) (q0 : Option Addr) {w : World} {K : Value -> World -> Prop} (h : cF a0 l0 c0 q0 w K) : Calls prog aN #[.slice a0 l0 c0, .func (.func cv) #[] #[.pointer q0]] w (Ret K) :=
 au (c := ay Tryz.f152) (by kernel_rfl) Tryz.func152 (by kernel_rfl) [] [.slice a0 l0 c0, .func (.func cv) #[] #[.pointer q0]] (of_decide_eq_true (by kernel_rfl)) _ (by kernel_rfl) h

--  cracknel/dfa.chain
def uQ (n0 : Int) (a1 : Option Addr) (l1 c1 : Nat) (b2 : Bool) (w : World) (K : Value -> World -> Prop) : Prop :=
 ∀ k3 w3, k3 = w.heap.size -> w3 = w.alloc (.cells #[.int .i64 n0] az) ->
 ∀ k6 w6, k6 = w3.heap.size -> w6 = w3.alloc (.cells #[.int .i64 (0 : Int), .int .i64 (0 : Int), .slice none 0 0, .slice none 0 0] aj) ->
 ∃ J : FP [],
 (∃ J_1 : FP [.one (.bool)],
 (∃ n14, Ld az (some ⟨k3, 0, none⟩) w6 (.int .i64 n14) /\
 af (decide (n14 < (1 : Int)))
 (J_1 true w6)
 (∃ n17, Ld az (some ⟨k3, 0, none⟩) w6 (.int .i64 n17) /\
 af (decide (n17 > (512 : Int)))
 (J_1 true w6)
 (Calls prog aN #[.slice a1 l1 c1, .func (.func cv) #[] #[.pointer (some ⟨k3, 0, none⟩)]] w6 fun e23 w23 => ∃ b23, e23 = .returned (.bool b23) /\
 J_1 b23 w23))) /\
 ∀ b24, aE 10 (∀ wj, J_1 b24 wj ->
 af b24
 (∃ wx, Sv aj (some ⟨k6, 0, none⟩) (.agg #[.int .i64 (0 : Int), .int .i64 (0 : Int), .slice none 0 0, .slice none 0 0]) wj wx /\
 ∃ nr0_0 nr0_1 ar0_2 lr0_2 cr0_2 ar0_3 lr0_3 cr0_3, (bm aj (.pointer (some ⟨k6, 0, none⟩))).run prog wx = .ok (.agg #[.int .i64 nr0_0, .int .i64 nr0_1, .slice ar0_2 lr0_2 cr0_2, .slice ar0_3 lr0_3 cr0_3]) wx /\
 K (.tuple #[.agg #[.int .i64 nr0_0, .int .i64 nr0_1, .slice ar0_2 lr0_2 cr0_2, .slice ar0_3 lr0_3 cr0_3], .int .i64 (151 : Int)]) wx)
 (J wj))) /\
 aE 13 (∀ wj_1, J wj_1 ->
 af (decide (((l1 : Nat) : Int) > (65534 : Int)))
 (∃ wx_1, Sv aj (some ⟨k6, 0, none⟩) (.agg #[.int .i64 (0 : Int), .int .i64 (0 : Int), .slice none 0 0, .slice none 0 0]) wj_1 wx_1 /\
 ∃ nr0_0_1 nr0_1_1 ar0_2_1 lr0_2_1 cr0_2_1 ar0_3_1 lr0_3_1 cr0_3_1, (bm aj (.pointer (some ⟨k6, 0, none⟩))).run prog wx_1 = .ok (.agg #[.int .i64 nr0_0_1, .int .i64 nr0_1_1, .slice ar0_2_1 lr0_2_1 cr0_2_1, .slice ar0_3_1 lr0_3_1 cr0_3_1]) wx_1 /\
 K (.tuple #[.agg #[.int .i64 nr0_0_1, .int .i64 nr0_1_1, .slice ar0_2_1 lr0_2_1 cr0_2_1, .slice ar0_3_1 lr0_3_1 cr0_3_1], .int .i64 (152 : Int)]) wx_1)
 (∃ n30, Ld az (some ⟨k3, 0, none⟩) wj_1 (.int .i64 n30) /\
 ∀ k33 w33, k33 = wj_1.heap.size -> w33 = wj_1.alloc (.cells #[.int .i64 n30, .int .i64 (1 : Int), .slice none 0 0, .slice none 0 0] jT) ->
 Calls prog cK #[.pointer (some ⟨k33, 0, none⟩), .bool false, .int .i64 (0 : Int)] w33 fun e35 w35 => ∃ n35, e35 = .returned (.int .i64 n35) /\
 ∃ I : Nat -> FP [.one (.int .i64)],
 (∃ m, I m (0 : Int) w35) /\
 ∀ m n38, aE 21 (∀ wl, I m n38 wl ->
 af (decide (n38 < ((l1 : Nat) : Int)))
 (((0 <= n38 /\ n38 < ((l1 : Nat) : Int)) /\ Option.isSome a1 = true) /\
 ∃ n41, Ld az (ao a1 n38 1) wl (.int .i64 n41) /\
 Calls prog cK #[.pointer (some ⟨k33, 0, none⟩), .bool false, .int .i64 (0 : Int)] wl fun e43 w43 => ∃ n43, e43 = .returned (.int .i64 n43) /\
 (true = true) /\
 (true = true) /\
 (true = true) /\
 ∃ a48 l48 c48, (∀ u48, Below w43.heap.size w43 u48 -> Ld aA (some ⟨k33, 2, none⟩) u48 (.slice a48 l48 c48)) /\
 ∃ n50, (∀ u50, Below w43.heap.size w43 u50 -> Ld az (some ⟨k3, 0, none⟩) u50 (.int .i64 n50)) /\
 ((0 <= (i64.wrap ((i64.wrap (n43 * n50)) + n41)) /\ (i64.wrap ((i64.wrap (n43 * n50)) + n41)) < ((l48 : Nat) : Int)) /\ Option.isSome a48 = true) /\
 ∀ wq, Below w43.heap.size w43 wq ->
 ∃ wx_2, Sv az (ao a48 (i64.wrap ((i64.wrap (n43 * n50)) + n41)) 1) (.int .i64 (i64.wrap (n43 + (1 : Int)))) wq wx_2 /\
 ∃ m' : Nat, m' < m /\ I m' (i64.wrap (n38 + (1 : Int))) wx_2)
 ((true = true) /\
 (true = true) /\
 (true = true) /\
 ∃ a62 l62 c62, Ld aS (some ⟨k33, 3, none⟩) wl (.slice a62 l62 c62) /\
 ∃ J_2 : FP [.one (.int .i64)],
 (af b2
 (J_2 ((l62 : Nat) : Int) wl)
 (J_2 (0 : Int) wl)) /\
 ∀ n13, aE 2 (∀ wj_2, J_2 n13 wj_2 ->
 Calls prog cK #[.pointer (some ⟨k33, 0, none⟩), .bool true, .int .i64 n13] wj_2 fun e68 w68 => ∃ n68, e68 = .returned (.int .i64 n68) /\
 (true = true) /\
 (true = true) /\
 ∃ n72_0 n72_1 a72_2 l72_2 c72_2 a72_3 l72_3 c72_3, Ld aj (some ⟨k33, 0, none⟩) w68 (.agg #[.int .i64 n72_0, .int .i64 n72_1, .slice a72_2 l72_2 c72_2, .slice a72_3 l72_3 c72_3]) /\
 ∃ wx_3, Sv aj (some ⟨k6, 0, none⟩) (.agg #[.int .i64 n72_0, .int .i64 n72_1, .slice a72_2 l72_2 c72_2, .slice a72_3 l72_3 c72_3]) w68 wx_3 /\
 ∃ nr0_0_2 nr0_1_2 ar0_2_2 lr0_2_2 cr0_2_2 ar0_3_2 lr0_3_2 cr0_3_2, (bm aj (.pointer (some ⟨k6, 0, none⟩))).run prog wx_3 = .ok (.agg #[.int .i64 nr0_0_2, .int .i64 nr0_1_2, .slice ar0_2_2 lr0_2_2 cr0_2_2, .slice ar0_3_2 lr0_3_2 cr0_3_2]) wx_3 /\
 K (.tuple #[.agg #[.int .i64 nr0_0_2, .int .i64 nr0_1_2, .slice ar0_2_2 lr0_2_2 cr0_2_2, .slice ar0_3_2 lr0_3_2 cr0_3_2], .int .i64 (0 : Int)]) wx_3)))))
theorem zW (n0 : Int) (a1 : Option Addr) (l1 c1 : Nat) (b2 : Bool) {w : World} {K : Value -> World -> Prop} (h : uQ n0 a1 l1 c1 b2 w K) : Calls prog oy #[.int .i64 n0, .slice a1 l1 c1, .bool b2] w (Ret K) :=
 au (c := ay Tryz.f98) (by kernel_rfl) Tryz.func98 (by kernel_rfl) [(2, []), (3, [(24, .one (.bool))]), (26, [(38, .one (.int .i64))]), (3000039, [(0, .one (.bool)), (1, .one (.bool)), (2, .one (.bool)), (3, .one (.bool)), (5, .one (.bool)), (8, .one (.bool)), (10, .one (.bool)), (11, .one (.bool)), (4, .one (.bool)), (6, .one (.bool)), (7, .one (.bool)), (9, .one (.bool)), (12, .one (.bool))]), (45, [(13, .one (.int .i64))])] [.int .i64 n0, .slice a1 l1 c1, .bool b2] (of_decide_eq_true (by kernel_rfl)) _ (by kernel_rfl) h

--  cracknel/dfa.None
def xv (n0 : Int) (w : World) (K : Value -> World -> Prop) : Prop :=
 ∀ k2 w2, k2 = w.heap.size -> w2 = w.alloc (.cells #[.int .i64 (0 : Int), .int .i64 (0 : Int), .slice none 0 0, .slice none 0 0] aj) ->
 ∃ J : FP [],
 (∃ J_1 : FP [.one (.bool)],
 (af (decide (n0 < (1 : Int)))
 (J_1 true w2)
 (J_1 (decide (n0 > (512 : Int))) w2)) /\
 ∀ b10, aE 5 (∀ wj, J_1 b10 wj ->
 af b10
 (∃ wx, Sv aj (some ⟨k2, 0, none⟩) (.agg #[.int .i64 (0 : Int), .int .i64 (0 : Int), .slice none 0 0, .slice none 0 0]) wj wx /\
 ∃ nr0_0 nr0_1 ar0_2 lr0_2 cr0_2 ar0_3 lr0_3 cr0_3, (bm aj (.pointer (some ⟨k2, 0, none⟩))).run prog wx = .ok (.agg #[.int .i64 nr0_0, .int .i64 nr0_1, .slice ar0_2 lr0_2 cr0_2, .slice ar0_3 lr0_3 cr0_3]) wx /\
 K (.tuple #[.agg #[.int .i64 nr0_0, .int .i64 nr0_1, .slice ar0_2 lr0_2 cr0_2, .slice ar0_3 lr0_3 cr0_3], .int .i64 (151 : Int)]) wx)
 (J wj))) /\
 aE 8 (∀ wj_1, J wj_1 ->
 ∀ k15 w15, k15 = wj_1.heap.size -> w15 = wj_1.alloc (.cells #[.int .i64 n0, .int .i64 (0 : Int), .slice none 0 0, .slice none 0 0] jT) ->
 Calls prog cK #[.pointer (some ⟨k15, 0, none⟩), .bool false, .int .i64 (0 : Int)] w15 fun e17 w17 => ∃ n17, e17 = .returned (.int .i64 n17) /\
 (true = true) /\
 (true = true) /\
 ∃ n21_0 n21_1 a21_2 l21_2 c21_2 a21_3 l21_3 c21_3, Ld aj (some ⟨k15, 0, none⟩) w17 (.agg #[.int .i64 n21_0, .int .i64 n21_1, .slice a21_2 l21_2 c21_2, .slice a21_3 l21_3 c21_3]) /\
 ∃ wx_1, Sv aj (some ⟨k2, 0, none⟩) (.agg #[.int .i64 n21_0, .int .i64 n21_1, .slice a21_2 l21_2 c21_2, .slice a21_3 l21_3 c21_3]) w17 wx_1 /\
 ∃ nr0_0_1 nr0_1_1 ar0_2_1 lr0_2_1 cr0_2_1 ar0_3_1 lr0_3_1 cr0_3_1, (bm aj (.pointer (some ⟨k2, 0, none⟩))).run prog wx_1 = .ok (.agg #[.int .i64 nr0_0_1, .int .i64 nr0_1_1, .slice ar0_2_1 lr0_2_1 cr0_2_1, .slice ar0_3_1 lr0_3_1 cr0_3_1]) wx_1 /\
 K (.tuple #[.agg #[.int .i64 nr0_0_1, .int .i64 nr0_1_1, .slice ar0_2_1 lr0_2_1 cr0_2_1, .slice ar0_3_1 lr0_3_1 cr0_3_1], .int .i64 (0 : Int)]) wx_1)
theorem Bu (n0 : Int) {w : World} {K : Value -> World -> Prop} (h : xv n0 w K) : Calls prog tM #[.int .i64 n0] w (Ret K) :=
 au (c := ay Tryz.f99) (by kernel_rfl) Tryz.func99 (by kernel_rfl) [(2, []), (3, [(10, .one (.bool))])] [.int .i64 n0] (of_decide_eq_true (by kernel_rfl)) _ (by kernel_rfl) h

--  cracknel/dfa.Word
def xw (n0 : Int) (a1 : Option Addr) (l1 c1 : Nat) (w : World) (K : Value -> World -> Prop) : Prop :=
 ∀ k4 w4, k4 = w.heap.size -> w4 = w.alloc (.cells #[.int .i64 (0 : Int), .int .i64 (0 : Int), .slice none 0 0, .slice none 0 0] aj) ->
 Calls prog oy #[.int .i64 n0, .slice a1 l1 c1, .bool false] w4 fun e8 w8 => ∃ n8_0_0 n8_0_1 a8_0_2 l8_0_2 c8_0_2 a8_0_3 l8_0_3 c8_0_3 n8_1, e8 = .returned (.tuple #[.agg #[.int .i64 n8_0_0, .int .i64 n8_0_1, .slice a8_0_2 l8_0_2 c8_0_2, .slice a8_0_3 l8_0_3 c8_0_3], .int .i64 n8_1]) /\
 ∃ wx, Sv aj (some ⟨k4, 0, none⟩) (.agg #[.int .i64 n8_0_0, .int .i64 n8_0_1, .slice a8_0_2 l8_0_2 c8_0_2, .slice a8_0_3 l8_0_3 c8_0_3]) w8 wx /\
 ∃ nr0_0 nr0_1 ar0_2 lr0_2 cr0_2 ar0_3 lr0_3 cr0_3, (bm aj (.pointer (some ⟨k4, 0, none⟩))).run prog wx = .ok (.agg #[.int .i64 nr0_0, .int .i64 nr0_1, .slice ar0_2 lr0_2 cr0_2, .slice ar0_3 lr0_3 cr0_3]) wx /\
 K (.tuple #[.agg #[.int .i64 nr0_0, .int .i64 nr0_1, .slice ar0_2 lr0_2 cr0_2, .slice ar0_3 lr0_3 cr0_3], .int .i64 n8_1]) wx
theorem Bv (n0 : Int) (a1 : Option Addr) (l1 c1 : Nat) {w : World} {K : Value -> World -> Prop} (h : xw n0 a1 l1 c1 w K) : Calls prog qL #[.int .i64 n0, .slice a1 l1 c1] w (Ret K) :=
 au (c := ay Tryz.f49) (by kernel_rfl) Tryz.func49 (by kernel_rfl) [] [.int .i64 n0, .slice a1 l1 c1] (of_decide_eq_true (by kernel_rfl)) _ (by kernel_rfl) h

--  cracknel/dfa.Begins
def tj (n0 : Int) (a1 : Option Addr) (l1 c1 : Nat) (w : World) (K : Value -> World -> Prop) : Prop :=
 ∀ k4 w4, k4 = w.heap.size -> w4 = w.alloc (.cells #[.int .i64 (0 : Int), .int .i64 (0 : Int), .slice none 0 0, .slice none 0 0] aj) ->
 Calls prog oy #[.int .i64 n0, .slice a1 l1 c1, .bool true] w4 fun e8 w8 => ∃ n8_0_0 n8_0_1 a8_0_2 l8_0_2 c8_0_2 a8_0_3 l8_0_3 c8_0_3 n8_1, e8 = .returned (.tuple #[.agg #[.int .i64 n8_0_0, .int .i64 n8_0_1, .slice a8_0_2 l8_0_2 c8_0_2, .slice a8_0_3 l8_0_3 c8_0_3], .int .i64 n8_1]) /\
 ∃ wx, Sv aj (some ⟨k4, 0, none⟩) (.agg #[.int .i64 n8_0_0, .int .i64 n8_0_1, .slice a8_0_2 l8_0_2 c8_0_2, .slice a8_0_3 l8_0_3 c8_0_3]) w8 wx /\
 ∃ nr0_0 nr0_1 ar0_2 lr0_2 cr0_2 ar0_3 lr0_3 cr0_3, (bm aj (.pointer (some ⟨k4, 0, none⟩))).run prog wx = .ok (.agg #[.int .i64 nr0_0, .int .i64 nr0_1, .slice ar0_2 lr0_2 cr0_2, .slice ar0_3 lr0_3 cr0_3]) wx /\
 K (.tuple #[.agg #[.int .i64 nr0_0, .int .i64 nr0_1, .slice ar0_2 lr0_2 cr0_2, .slice ar0_3 lr0_3 cr0_3], .int .i64 n8_1]) wx
theorem xS (n0 : Int) (a1 : Option Addr) (l1 c1 : Nat) {w : World} {K : Value -> World -> Prop} (h : tj n0 a1 l1 c1 w K) : Calls prog pM #[.int .i64 n0, .slice a1 l1 c1] w (Ret K) :=
 au (c := ay Tryz.f100) (by kernel_rfl) Tryz.func100 (by kernel_rfl) [] [.int .i64 n0, .slice a1 l1 c1] (of_decide_eq_true (by kernel_rfl)) _ (by kernel_rfl) h

--  cracknel/dfa.Both$1
def rq (b0 : Bool) (b1 : Bool) (w : World) (K : Value -> World -> Prop) : Prop :=
 af b0
 (K (.bool b1) w)
 (K (.bool false) w)
theorem wQ (b0 : Bool) (b1 : Bool) {w : World} {K : Value -> World -> Prop} (h : rq b0 b1 w K) : Calls prog fB #[.bool b0, .bool b1] w (Ret K) :=
 au (c := ay Tryz.f74) (by kernel_rfl) Tryz.func74 (by kernel_rfl) [] [.bool b0, .bool b1] (of_decide_eq_true (by kernel_rfl)) _ (by kernel_rfl) h

--  cracknel/dfa.product
def ic (n0_0 : Int) (n0_1 : Int) (a0_2 : Option Addr) (l0_2 c0_2 : Nat) (a0_3 : Option Addr) (l0_3 c0_3 : Nat) (n1_0 : Int) (n1_1 : Int) (a1_2 : Option Addr) (l1_2 c1_2 : Nat) (a1_3 : Option Addr) (l1_3 c1_3 : Nat) (w : World) (K : Value -> World -> Prop) : Prop :=
 ∀ k3 w3, k3 = w.heap.size -> w3 = w.alloc (.cells #[.int .i64 n0_0, .int .i64 n0_1, .slice a0_2 l0_2 c0_2, .slice a0_3 l0_3 c0_3] aj) ->
 ∀ k4 w4, k4 = w3.heap.size -> w4 = w3.alloc (.cells #[.int .i64 n1_0, .int .i64 n1_1, .slice a1_2 l1_2 c1_2, .slice a1_3 l1_3 c1_3] aj) ->
 ∀ k6 w6, k6 = w4.heap.size -> w6 = w4.alloc (.cells #[.int .i64 (0 : Int), .int .i64 (0 : Int), .slice none 0 0, .slice none 0 0] aj) ->
 ∃ J : FP [],
 (∃ J_1 : FP [.one (.bool)],
 (∃ n18_0 n18_1 a18_2 l18_2 c18_2 a18_3 l18_3 c18_3, Ld aj (some ⟨k3, 0, none⟩) w6 (.agg #[.int .i64 n18_0, .int .i64 n18_1, .slice a18_2 l18_2 c18_2, .slice a18_3 l18_3 c18_3]) /\
 Calls prog lF #[.agg #[.int .i64 n18_0, .int .i64 n18_1, .slice a18_2 l18_2 c18_2, .slice a18_3 l18_3 c18_3]] w6 fun e19 w19 => ∃ b19, e19 = .returned (.bool b19) /\
 af (!b19)
 (J_1 true w19)
 (∃ n22_0 n22_1 a22_2 l22_2 c22_2 a22_3 l22_3 c22_3, Ld aj (some ⟨k4, 0, none⟩) w19 (.agg #[.int .i64 n22_0, .int .i64 n22_1, .slice a22_2 l22_2 c22_2, .slice a22_3 l22_3 c22_3]) /\
 Calls prog lF #[.agg #[.int .i64 n22_0, .int .i64 n22_1, .slice a22_2 l22_2 c22_2, .slice a22_3 l22_3 c22_3]] w19 fun e23 w23 => ∃ b23, e23 = .returned (.bool b23) /\
 af (!b23)
 (J_1 true w23)
 ((true = true) /\
 ∃ n28, Ld az (some ⟨k3, 0, none⟩) w23 (.int .i64 n28) /\
 (true = true) /\
 ∃ n30, Ld az (some ⟨k4, 0, none⟩) w23 (.int .i64 n30) /\
 J_1 (n28 != n30) w23))) /\
 ∀ b32, aE 14 (∀ wj, J_1 b32 wj ->
 af b32
 (∃ wx, Sv aj (some ⟨k6, 0, none⟩) (.agg #[.int .i64 (0 : Int), .int .i64 (0 : Int), .slice none 0 0, .slice none 0 0]) wj wx /\
 ∃ nr0_0 nr0_1 ar0_2 lr0_2 cr0_2 ar0_3 lr0_3 cr0_3, (bm aj (.pointer (some ⟨k6, 0, none⟩))).run prog wx = .ok (.agg #[.int .i64 nr0_0, .int .i64 nr0_1, .slice ar0_2 lr0_2 cr0_2, .slice ar0_3 lr0_3 cr0_3]) wx /\
 K (.tuple #[.agg #[.int .i64 nr0_0, .int .i64 nr0_1, .slice ar0_2 lr0_2 cr0_2, .slice ar0_3 lr0_3 cr0_3], .int .i64 (151 : Int)]) wx)
 (J wj))) /\
 aE 17 (∀ wj_1, J wj_1 ->
 (true = true) /\
 ∃ n35, Ld az (some ⟨k3, 0, none⟩) wj_1 (.int .i64 n35) /\
 ∀ k38 w38, k38 = wj_1.heap.size -> w38 = wj_1.alloc (.cells #[.int .i64 n35, .int .i64 (0 : Int), .slice none 0 0, .slice none 0 0] jT) ->
 (true = true) /\
 ∃ n40, Ld az (some ⟨k3, 1, none⟩) w38 (.int .i64 n40) /\
 (true = true) /\
 ∃ n42, Ld az (some ⟨k4, 1, none⟩) w38 (.int .i64 n42) /\
 ∀ k9 w9, k9 = w38.heap.size -> w9 = w38.alloc (.cells #[.int .i64 (0 : Int), .int .i64 (0 : Int)] aO) ->
 ∃ wx_1, Sv aO (some ⟨k9, 0, none⟩) (.agg #[.int .i64 n40, .int .i64 n42]) w9 wx_1 /\
 ∀ k44 w44, k44 = wx_1.heap.size -> w44 = wx_1.alloc (.map #[] 0) ->
 ∃ n45_0 n45_1, Ld aO (some ⟨k9, 0, none⟩) w44 (.agg #[.int .i64 n45_0, .int .i64 n45_1]) /\
 ∃ wx_2, (Instr.mapUpdate dW (.map (some k44)) (.agg #[.int .i64 n45_0, .int .i64 n45_1]) (.int .i64 (0 : Int))).run prog w44 = .ok () wx_2 /\
 ∃ n47_0 n47_1, Ld aO (some ⟨k9, 0, none⟩) wx_2 (.agg #[.int .i64 n47_0, .int .i64 n47_1]) /\
 ∀ k48 w48, k48 = wx_2.heap.size -> w48 = wx_2.alloc (.cells #[.int .i64 n47_0, .int .i64 n47_1] aO) ->
 ∃ I : Nat -> FP [.one (.slice)],
 (∃ m, I m (some ⟨k48, 0, none⟩) 1 1 w48) /\
 ∀ m a11 l11 c11, aE 104 (∀ wl, I m a11 l11 c11 wl ->
 (true = true) /\
 (true = true) /\
 (true = true) /\
 ∃ a53 l53 c53, Ld aS (some ⟨k38, 3, none⟩) wl (.slice a53 l53 c53) /\
 af (decide (((l53 : Nat) : Int) < ((l11 : Nat) : Int)))
 ((true = true) /\
 (true = true) /\
 (true = true) /\
 ∃ a63 l63 c63, Ld aS (some ⟨k38, 3, none⟩) wl (.slice a63 l63 c63) /\
 ((0 <= ((l63 : Nat) : Int) /\ ((l63 : Nat) : Int) < ((l11 : Nat) : Int)) /\ Option.isSome a11 = true) /\
 ∃ n66_0 n66_1, Ld aO (ao a11 ((l63 : Nat) : Int) 2) wl (.agg #[.int .i64 n66_0, .int .i64 n66_1]) /\
 ∀ k12 w12, k12 = wl.heap.size -> w12 = wl.alloc (.cells #[.int .i64 (0 : Int), .int .i64 (0 : Int)] aO) ->
 ∃ wx_3, Sv aO (some ⟨k12, 0, none⟩) (.agg #[.int .i64 n66_0, .int .i64 n66_1]) w12 wx_3 /\
 ∃ J_2 : FP [.one (.int .i64)],
 ((true = true) /\
 (true = true) /\
 (true = true) /\
 (true = true) /\
 ∃ a70 l70 c70, (∀ u70, Below wx_3.heap.size wx_3 u70 -> Ld aS (some ⟨k3, 3, none⟩) u70 (.slice a70 l70 c70)) /\
 ∃ n72, (∀ u72, Below wx_3.heap.size wx_3 u72 -> Ld az (some ⟨k12, 0, none⟩) u72 (.int .i64 n72)) /\
 ((0 <= n72 /\ n72 < ((l70 : Nat) : Int)) /\ Option.isSome a70 = true) /\
 ∃ b74, (∀ u74, Below wx_3.heap.size wx_3 u74 -> Ld eV (ao a70 n72 1) u74 (.bool b74)) /\
 ∃ a76 l76 c76, (∀ u76, Below wx_3.heap.size wx_3 u76 -> Ld aS (some ⟨k4, 3, none⟩) u76 (.slice a76 l76 c76)) /\
 ∃ n78, (∀ u78, Below wx_3.heap.size wx_3 u78 -> Ld az (some ⟨k12, 1, none⟩) u78 (.int .i64 n78)) /\
 ((0 <= n78 /\ n78 < ((l76 : Nat) : Int)) /\ Option.isSome a76 = true) /\
 ∃ b80, (∀ u80, Below wx_3.heap.size wx_3 u80 -> Ld eV (ao a76 n78 1) u80 (.bool b80)) /\
 ∀ wq, Below wx_3.heap.size wx_3 wq ->
 Calls prog fB #[.bool b74, .bool b80] wq fun e81 w81 => ∃ b81, e81 = .returned (.bool b81) /\
 Calls prog cK #[.pointer (some ⟨k38, 0, none⟩), .bool b81, .int .i64 (0 : Int)] w81 fun e82 w82 => ∃ n82, e82 = .returned (.int .i64 n82) /\
 J_2 n82 w82) /\
 ∀ n13, aE 16 (∀ wj_2, J_2 n13 wj_2 ->
 (true = true) /\
 ∃ n84, Ld az (some ⟨k3, 0, none⟩) wj_2 (.int .i64 n84) /\
 ∃ I_1 : Nat -> FP [.one (.slice), .one (.int .i64)],
 (∃ m_1, I_1 m_1 a11 l11 c11 (0 : Int) wj_2) /\
 ∀ m_1 a11_1 l11_1 c11_1 n85, aE 60 (∀ wl_1, I_1 m_1 a11_1 l11_1 c11_1 n85 wl_1 ->
 af (decide (n85 < n84))
 ((true = true) /\
 (true = true) /\
 (true = true) /\
 (true = true) /\
 (true = true) /\
 (true = true) /\
 ∃ a89 l89 c89, (∀ u89, Below wl_1.heap.size wl_1 u89 -> Ld aA (some ⟨k3, 2, none⟩) u89 (.slice a89 l89 c89)) /\
 ∃ n91, (∀ u91, Below wl_1.heap.size wl_1 u91 -> Ld az (some ⟨k12, 0, none⟩) u91 (.int .i64 n91)) /\
 ∃ n93, (∀ u93, Below wl_1.heap.size wl_1 u93 -> Ld az (some ⟨k3, 0, none⟩) u93 (.int .i64 n93)) /\
 ((0 <= (i64.wrap ((i64.wrap (n91 * n93)) + n85)) /\ (i64.wrap ((i64.wrap (n91 * n93)) + n85)) < ((l89 : Nat) : Int)) /\ Option.isSome a89 = true) /\
 ∃ n98, (∀ u98, Below wl_1.heap.size wl_1 u98 -> Ld az (ao a89 (i64.wrap ((i64.wrap (n91 * n93)) + n85)) 1) u98 (.int .i64 n98)) /\
 ∃ a100 l100 c100, (∀ u100, Below wl_1.heap.size wl_1 u100 -> Ld aA (some ⟨k4, 2, none⟩) u100 (.slice a100 l100 c100)) /\
 ∃ n102, (∀ u102, Below wl_1.heap.size wl_1 u102 -> Ld az (some ⟨k12, 1, none⟩) u102 (.int .i64 n102)) /\
 ∃ n104, (∀ u104, Below wl_1.heap.size wl_1 u104 -> Ld az (some ⟨k4, 0, none⟩) u104 (.int .i64 n104)) /\
 ((0 <= (i64.wrap ((i64.wrap (n102 * n104)) + n85)) /\ (i64.wrap ((i64.wrap (n102 * n104)) + n85)) < ((l100 : Nat) : Int)) /\ Option.isSome a100 = true) /\
 ∃ n109, (∀ u109, Below wl_1.heap.size wl_1 u109 -> Ld az (ao a100 (i64.wrap ((i64.wrap (n102 * n104)) + n85)) 1) u109 (.int .i64 n109)) /\
 ∀ k15, wl_1.heap.size <= k15 ->
 ∀ wq_1, Below wl_1.heap.size wl_1 wq_1 ->
 wq_1.heap[k15]? = some (.cells #[.int .i64 (0 : Int), .int .i64 (0 : Int)] aO) ->
 ∃ wx_4, Sv aO (some ⟨k15, 0, none⟩) (.agg #[.int .i64 n98, .int .i64 n109]) wq_1 wx_4 /\
 ∃ n113_0 n113_1, Ld aO (some ⟨k15, 0, none⟩) wx_4 (.agg #[.int .i64 n113_0, .int .i64 n113_1]) /\
 ∃ n114_0 b114_1, (Instr.lookup dW (.map (some k44)) (.agg #[.int .i64 n113_0, .int .i64 n113_1]) true).run prog wx_4 = .ok (.tuple #[.int .i64 n114_0, .bool b114_1]) wx_4 /\
 ∃ J_3 : FP [.one (.slice), .one (.int .i64)],
 (af (!b114_1)
 (∃ n122_0 n122_1, Ld aO (some ⟨k15, 0, none⟩) wx_4 (.agg #[.int .i64 n122_0, .int .i64 n122_1]) /\
 ∃ wx_5, (Instr.mapUpdate dW (.map (some k44)) (.agg #[.int .i64 n122_0, .int .i64 n122_1]) (.int .i64 ((l11_1 : Nat) : Int))).run prog wx_4 = .ok () wx_5 /\
 ∃ n125_0 n125_1, Ld aO (some ⟨k15, 0, none⟩) wx_5 (.agg #[.int .i64 n125_0, .int .i64 n125_1]) /\
 ∀ k126 w126, k126 = wx_5.heap.size -> w126 = wx_5.alloc (.cells #[.int .i64 n125_0, .int .i64 n125_1] aO) ->
 ∃ w127 a127 l127 c127, (Builtin.append_ #[jk, jk] jk #[.slice a11_1 l11_1 c11_1, .slice (some ⟨k126, 0, none⟩) 1 1]).run prog w126 = .ok (.slice a127 l127 c127) w127 /\
 J_3 a127 l127 c127 ((l11_1 : Nat) : Int) w127)
 (J_3 a11_1 l11_1 c11_1 n114_0 wx_4)) /\
 ∀ a11_2 l11_2 c11_2 n16, aE 11 (∀ wj_3, J_3 a11_2 l11_2 c11_2 n16 wj_3 ->
 (true = true) /\
 (true = true) /\
 (true = true) /\
 (true = true) /\
 ∃ a132 l132 c132, (∀ u132, Below wj_3.heap.size wj_3 u132 -> Ld aA (some ⟨k38, 2, none⟩) u132 (.slice a132 l132 c132)) /\
 ∃ n135, (∀ u135, Below wj_3.heap.size wj_3 u135 -> Ld az (some ⟨k3, 0, none⟩) u135 (.int .i64 n135)) /\
 ((0 <= (i64.wrap ((i64.wrap (n13 * n135)) + n85)) /\ (i64.wrap ((i64.wrap (n13 * n135)) + n85)) < ((l132 : Nat) : Int)) /\ Option.isSome a132 = true) /\
 ∀ wq_2, Below wj_3.heap.size wj_3 wq_2 ->
 ∃ wx_6, Sv az (ao a132 (i64.wrap ((i64.wrap (n13 * n135)) + n85)) 1) (.int .i64 n16) wq_2 wx_6 /\
 ∃ m'_1 : Nat, m'_1 < m_1 /\ I_1 m'_1 a11_2 l11_2 c11_2 (i64.wrap (n85 + (1 : Int))) wx_6))
 (af (decide (((l11_1 : Nat) : Int) > (65536 : Int)))
 (∃ wx_7, Sv aj (some ⟨k6, 0, none⟩) (.agg #[.int .i64 (0 : Int), .int .i64 (0 : Int), .slice none 0 0, .slice none 0 0]) wl_1 wx_7 /\
 ∃ nr0_0_1 nr0_1_1 ar0_2_1 lr0_2_1 cr0_2_1 ar0_3_1 lr0_3_1 cr0_3_1, (bm aj (.pointer (some ⟨k6, 0, none⟩))).run prog wx_7 = .ok (.agg #[.int .i64 nr0_0_1, .int .i64 nr0_1_1, .slice ar0_2_1 lr0_2_1 cr0_2_1, .slice ar0_3_1 lr0_3_1 cr0_3_1]) wx_7 /\
 K (.tuple #[.agg #[.int .i64 nr0_0_1, .int .i64 nr0_1_1, .slice ar0_2_1 lr0_2_1 cr0_2_1, .slice ar0_3_1 lr0_3_1 cr0_3_1], .int .i64 (152 : Int)]) wx_7)
 (∃ m' : Nat, m' < m /\ I m' a11_1 l11_1 c11_1 wl_1)))))
 ((true = true) /\
 (true = true) /\
 ∃ n149_0 n149_1 a149_2 l149_2 c149_2 a149_3 l149_3 c149_3, Ld aj (some ⟨k38, 0, none⟩) wl (.agg #[.int .i64 n149_0, .int .i64 n149_1, .slice a149_2 l149_2 c149_2, .slice a149_3 l149_3 c149_3]) /\
 ∃ wx_8, Sv aj (some ⟨k6, 0, none⟩) (.agg #[.int .i64 n149_0, .int .i64 n149_1, .slice a149_2 l149_2 c149_2, .slice a149_3 l149_3 c149_3]) wl wx_8 /\
 ∃ nr0_0_2 nr0_1_2 ar0_2_2 lr0_2_2 cr0_2_2 ar0_3_2 lr0_3_2 cr0_3_2, (bm aj (.pointer (some ⟨k6, 0, none⟩))).run prog wx_8 = .ok (.agg #[.int .i64 nr0_0_2, .int .i64 nr0_1_2, .slice ar0_2_2 lr0_2_2 cr0_2_2, .slice ar0_3_2 lr0_3_2 cr0_3_2]) wx_8 /\
 K (.tuple #[.agg #[.int .i64 nr0_0_2, .int .i64 nr0_1_2, .slice ar0_2_2 lr0_2_2 cr0_2_2, .slice ar0_3_2 lr0_3_2 cr0_3_2], .int .i64 (0 : Int)]) wx_8)))
theorem lW (n0_0 : Int) (n0_1 : Int) (a0_2 : Option Addr) (l0_2 c0_2 : Nat) (a0_3 : Option Addr) (l0_3 c0_3 : Nat) (n1_0 : Int) (n1_1 : Int) (a1_2 : Option Addr) (l1_2 c1_2 : Nat) (a1_3 : Option Addr) (l1_3 c1_3 : Nat) {w : World} {K : Value -> World -> Prop} (h : ic n0_0 n0_1 a0_2 l0_2 c0_2 a0_3 l0_3 c0_3 n1_0 n1_1 a1_2 l1_2 c1_2 a1_3 l1_3 c1_3 w K) : Calls prog oz #[.agg #[.int .i64 n0_0, .int .i64 n0_1, .slice a0_2 l0_2 c0_2, .slice a0_3 l0_3 c0_3], .agg #[.int .i64 n1_0, .int .i64 n1_1, .slice a1_2 l1_2 c1_2, .slice a1_3 l1_3 c1_3], .func (.func fB) #[] #[]] w (Ret K) :=
 au (c := ay Tryz.f73) (by kernel_rfl) Tryz.func73 (by kernel_rfl) [(2, []), (3, [(32, .one (.bool))]), (20, [(11, .one (.slice))]), (30, [(13, .one (.int .i64))]), (1000031, []), (3000031, [(0, .one (.bool)), (1, .one (.bool)), (2, .one (.bool)), (4, .one (.bool)), (8, .one (.bool)), (10, .one (.bool)), (3, .one (.bool)), (5, .one (.bool)), (6, .one (.bool)), (7, .one (.bool)), (9, .one (.bool)), (11, .one (.bool)), (12, .one (.bool)), (13, .one (.bool))]), (36, [(11, .one (.slice)), (85, .one (.int .i64))]), (3000048, [(0, .one (.bool)), (2, .one (.bool)), (4, .one (.bool)), (7, .one (.bool)), (11, .one (.bool)), (13, .one (.bool)), (15, .one (.bool)), (18, .one (.bool)), (1, .one (.bool)), (3, .one (.bool)), (5, .one (.bool)), (6, .one (.bool)), (8, .one (.bool)), (9, .one (.bool)), (10, .one (.bool)), (12, .one (.bool)), (14, .one (.bool)), (16, .one (.bool)), (17, .one (.bool)), (19, .one (.bool)), (20, .one (.bool)), (21, .one (.bool)), (22, .one (.bool)), (23, .one (.bool))]), (51, [(11, .one (.slice)), (16, .one (.int .i64))]), (3000061, [(0, .one (.bool)), (1, .one (.bool)), (2, .one (.bool)), (3, .one (.bool)), (5, .one (.bool)), (6, .one (.bool)), (9, .one (.bool)), (11, .one (.bool)), (4, .one (.bool)), (7, .one (.bool)), (8, .one (.bool)), (10, .one (.bool)), (12, .one (.bool))])] [.agg #[.int .i64 n0_0, .int .i64 n0_1, .slice a0_2 l0_2 c0_2, .slice a0_3 l0_3 c0_3], .agg #[.int .i64 n1_0, .int .i64 n1_1, .slice a1_2 l1_2 c1_2, .slice a1_3 l1_3 c1_3], .func (.func fB) #[] #[]] (of_decide_eq_true (by kernel_rfl)) _ (by kernel_rfl) h

--  cracknel/dfa.Both
def xu (n0_0 : Int) (n0_1 : Int) (a0_2 : Option Addr) (l0_2 c0_2 : Nat) (a0_3 : Option Addr) (l0_3 c0_3 : Nat) (n1_0 : Int) (n1_1 : Int) (a1_2 : Option Addr) (l1_2 c1_2 : Nat) (a1_3 : Option Addr) (l1_3 c1_3 : Nat) (w : World) (K : Value -> World -> Prop) : Prop :=
 ∀ k2 w2, k2 = w.heap.size -> w2 = w.alloc (.cells #[.int .i64 n0_0, .int .i64 n0_1, .slice a0_2 l0_2 c0_2, .slice a0_3 l0_3 c0_3] aj) ->
 ∀ k3 w3, k3 = w2.heap.size -> w3 = w2.alloc (.cells #[.int .i64 n1_0, .int .i64 n1_1, .slice a1_2 l1_2 c1_2, .slice a1_3 l1_3 c1_3] aj) ->
 ∀ k4 w4, k4 = w3.heap.size -> w4 = w3.alloc (.cells #[.int .i64 (0 : Int), .int .i64 (0 : Int), .slice none 0 0, .slice none 0 0] aj) ->
 ∃ n6_0 n6_1 a6_2 l6_2 c6_2 a6_3 l6_3 c6_3, Ld aj (some ⟨k2, 0, none⟩) w4 (.agg #[.int .i64 n6_0, .int .i64 n6_1, .slice a6_2 l6_2 c6_2, .slice a6_3 l6_3 c6_3]) /\
 ∃ n7_0 n7_1 a7_2 l7_2 c7_2 a7_3 l7_3 c7_3, Ld aj (some ⟨k3, 0, none⟩) w4 (.agg #[.int .i64 n7_0, .int .i64 n7_1, .slice a7_2 l7_2 c7_2, .slice a7_3 l7_3 c7_3]) /\
 Calls prog oz #[.agg #[.int .i64 n6_0, .int .i64 n6_1, .slice a6_2 l6_2 c6_2, .slice a6_3 l6_3 c6_3], .agg #[.int .i64 n7_0, .int .i64 n7_1, .slice a7_2 l7_2 c7_2, .slice a7_3 l7_3 c7_3], .func (.func fB) #[] #[]] w4 fun e8 w8 => ∃ n8_0_0 n8_0_1 a8_0_2 l8_0_2 c8_0_2 a8_0_3 l8_0_3 c8_0_3 n8_1, e8 = .returned (.tuple #[.agg #[.int .i64 n8_0_0, .int .i64 n8_0_1, .slice a8_0_2 l8_0_2 c8_0_2, .slice a8_0_3 l8_0_3 c8_0_3], .int .i64 n8_1]) /\
 ∃ wx, Sv aj (some ⟨k4, 0, none⟩) (.agg #[.int .i64 n8_0_0, .int .i64 n8_0_1, .slice a8_0_2 l8_0_2 c8_0_2, .slice a8_0_3 l8_0_3 c8_0_3]) w8 wx /\
 ∃ nr0_0 nr0_1 ar0_2 lr0_2 cr0_2 ar0_3 lr0_3 cr0_3, (bm aj (.pointer (some ⟨k4, 0, none⟩))).run prog wx = .ok (.agg #[.int .i64 nr0_0, .int .i64 nr0_1, .slice ar0_2 lr0_2 cr0_2, .slice ar0_3 lr0_3 cr0_3]) wx /\
 K (.tuple #[.agg #[.int .i64 nr0_0, .int .i64 nr0_1, .slice ar0_2 lr0_2 cr0_2, .slice ar0_3 lr0_3 cr0_3], .int .i64 n8_1]) wx
theorem Bt (n0_0 : Int) (n0_1 : Int) (a0_2 : Option Addr) (l0_2 c0_2 : Nat) (a0_3 : Option Addr) (l0_3 c0_3 : Nat) (n1_0 : Int) (n1_1 : Int) (a1_2 : Option Addr) (l1_2 c1_2 : Nat) (a1_3 : Option Addr) (l1_3 c1_3 : Nat) {w : World} {K : Value -> World -> Prop} (h : xu n0_0 n0_1 a0_2 l0_2 c0_2 a0_3 l0_3 c0_3 n1_0 n1_1 a1_2 l1_2 c1_2 a1_3 l1_3 c1_3 w K) : Calls prog qK #[.agg #[.int .i64 n0_0, .int .i64 n0_1, .slice a0_2 l0_2 c0_2, .slice a0_3 l0_3 c0_3], .agg #[.int .i64 n1_0, .int .i64 n1_1, .slice a1_2 l1_2 c1_2, .slice a1_3 l1_3 c1_3]] w (Ret K) :=
 au (c := ay Tryz.f31) (by kernel_rfl) Tryz.func31 (by kernel_rfl) [] [.agg #[.int .i64 n0_0, .int .i64 n0_1, .slice a0_2 l0_2 c0_2, .slice a0_3 l0_3 c0_3], .agg #[.int .i64 n1_0, .int .i64 n1_1, .slice a1_2 l1_2 c1_2, .slice a1_3 l1_3 c1_3]] (of_decide_eq_true (by kernel_rfl)) _ (by kernel_rfl) h

--  slices.Index[[]int,int]
def jG (a0 : Option Addr) (l0 c0 : Nat) (n1 : Int) (w : World) (K : Value -> World -> Prop) : Prop :=
 ∃ I : Nat -> FP [.one (.int .i64)],
 (∃ m, I m (0 : Int) w) /\
 ∀ m n8, aE 12 (∀ wl, I m n8 wl ->
 af (decide (n8 < ((l0 : Nat) : Int)))
 (((0 <= n8 /\ n8 < ((l0 : Nat) : Int)) /\ Option.isSome a0 = true) /\
 ∃ n15, Ld az (ao a0 n8 1) wl (.int .i64 n15) /\
 af (n1 == n15)
 (K (.int .i64 n8) wl)
 (∃ m' : Nat, m' < m /\ I m' (i64.wrap (n8 + (1 : Int))) wl))
 (K (.int .i64 (-1 : Int)) wl))
theorem nP (a0 : Option Addr) (l0 c0 : Nat) (n1 : Int) {w : World} {K : Value -> World -> Prop} (h : jG a0 l0 c0 n1 w K) : Calls prog jR #[.slice a0 l0 c0, .int .i64 n1] w (Ret K) :=
 au (c := ay Tryz.f151) (by kernel_rfl) Tryz.func151 (by kernel_rfl) [(6, [(8, .one (.int .i64))])] [.slice a0 l0 c0, .int .i64 n1] (of_decide_eq_true (by kernel_rfl)) _ (by kernel_rfl) h

--  slices.Contains[[]int,int]
def ii (a0 : Option Addr) (l0 c0 : Nat) (n1 : Int) (w : World) (K : Value -> World -> Prop) : Prop :=
 Calls prog jR #[.slice a0 l0 c0, .int .i64 n1] w fun e7 w7 => ∃ n7, e7 = .returned (.int .i64 n7) /\
 K (.bool (decide (n7 >= (0 : Int)))) w7
theorem ms (a0 : Option Addr) (l0 c0 : Nat) (n1 : Int) {w : World} {K : Value -> World -> Prop} (h : ii a0 l0 c0 n1 w K) : Calls prog eE #[.slice a0 l0 c0, .int .i64 n1] w (Ret K) :=
 au (c := ay Tryz.f97) (by kernel_rfl) Tryz.func97 (by kernel_rfl) [] [.slice a0 l0 c0, .int .i64 n1] (of_decide_eq_true (by kernel_rfl)) _ (by kernel_rfl) h

--  slices.Index[[]bool,bool]
def iS (a0 : Option Addr) (l0 c0 : Nat) (b1 : Bool) (w : World) (K : Value -> World -> Prop) : Prop :=
 ∃ I : Nat -> FP [.one (.int .i64)],
 (∃ m, I m (0 : Int) w) /\
 ∀ m n8, aE 12 (∀ wl, I m n8 wl ->
 af (decide (n8 < ((l0 : Nat) : Int)))
 (((0 <= n8 /\ n8 < ((l0 : Nat) : Int)) /\ Option.isSome a0 = true) /\
 ∃ b15, Ld eV (ao a0 n8 1) wl (.bool b15) /\
 af (b1 == b15)
 (K (.int .i64 n8) wl)
 (∃ m' : Nat, m' < m /\ I m' (i64.wrap (n8 + (1 : Int))) wl))
 (K (.int .i64 (-1 : Int)) wl))
theorem mJ (a0 : Option Addr) (l0 c0 : Nat) (b1 : Bool) {w : World} {K : Value -> World -> Prop} (h : iS a0 l0 c0 b1 w K) : Calls prog fc #[.slice a0 l0 c0, .bool b1] w (Ret K) :=
 au (c := ay Tryz.f90) (by kernel_rfl) Tryz.func90 (by kernel_rfl) [(6, [(8, .one (.int .i64))])] [.slice a0 l0 c0, .bool b1] (of_decide_eq_true (by kernel_rfl)) _ (by kernel_rfl) h
end Go.Proofs.YtpafoodmpjlkhaaGreatDoor
namespace Go.Proofs.YtpafoodmpjlkhaaGreatDoor
open Go.Pk
open Go.RowKit (Below)
--  cracknel/short.fine$1
def pm (n0 : Int) (w : World) (K : Value -> World -> Prop) : Prop :=
 af (decide (n0 < (1 : Int)))
 (K (.bool true) w)
 (K (.bool (decide (n0 > (1048576 : Int)))) w)
theorem uh (n0 : Int) {w : World} {K : Value -> World -> Prop} (h : pm n0 w K) : Calls prog bY #[.int .i64 n0] w (Ret K) :=
 au (c := ay Tryz.f156) (by kernel_rfl) Tryz.func156 (by kernel_rfl) [] [.int .i64 n0] (of_decide_eq_true (by kernel_rfl)) _ (by kernel_rfl) h

--  slices.IndexFunc[[]int,int]
def cI (a0 : Option Addr) (l0 c0 : Nat) (w : World) (K : Value -> World -> Prop) : Prop :=
 ∃ I : Nat -> FP [.one (.int .i64)],
 (∃ m, I m (0 : Int) w) /\
 ∀ m n8, aE 12 (∀ wl, I m n8 wl ->
 af (decide (n8 < ((l0 : Nat) : Int)))
 (((0 <= n8 /\ n8 < ((l0 : Nat) : Int)) /\ Option.isSome a0 = true) /\
 ∃ n15, Ld az (ao a0 n8 1) wl (.int .i64 n15) /\
 Calls prog bY #[.int .i64 n15] wl fun e16 w16 => ∃ b16, e16 = .returned (.bool b16) /\
 af b16
 (K (.int .i64 n8) w16)
 (∃ m' : Nat, m' < m /\ I m' (i64.wrap (n8 + (1 : Int))) w16))
 (K (.int .i64 (-1 : Int)) wl))
theorem gc (a0 : Option Addr) (l0 c0 : Nat) {w : World} {K : Value -> World -> Prop} (h : cI a0 l0 c0 w K) : Calls prog bA #[.slice a0 l0 c0, .func (.func bY) #[] #[]] w (Ret K) :=
 au (c := ay Tryz.f202) (by kernel_rfl) Tryz.func202 (by kernel_rfl) [(6, [(8, .one (.int .i64))])] [.slice a0 l0 c0, .func (.func bY) #[] #[]] (of_decide_eq_true (by kernel_rfl)) _ (by kernel_rfl) h

--  slices.ContainsFunc[[]int,int]
def cq (a0 : Option Addr) (l0 c0 : Nat) (w : World) (K : Value -> World -> Prop) : Prop :=
 Calls prog bA #[.slice a0 l0 c0, .func (.func bY) #[] #[]] w fun e7 w7 => ∃ n7, e7 = .returned (.int .i64 n7) /\
 K (.bool (decide (n7 >= (0 : Int)))) w7
theorem fg (a0 : Option Addr) (l0 c0 : Nat) {w : World} {K : Value -> World -> Prop} (h : cq a0 l0 c0 w K) : Calls prog aN #[.slice a0 l0 c0, .func (.func bY) #[] #[]] w (Ret K) :=
 au (c := ay Tryz.f152) (by kernel_rfl) Tryz.func152 (by kernel_rfl) [] [.slice a0 l0 c0, .func (.func bY) #[] #[]] (of_decide_eq_true (by kernel_rfl)) _ (by kernel_rfl) h

--  cracknel/short.fine
def tw (a0 : Option Addr) (l0 c0 : Nat) (w : World) (K : Value -> World -> Prop) : Prop :=
 Calls prog aN #[.slice a0 l0 c0, .func (.func bY) #[] #[]] w fun e4 w4 => ∃ b4, e4 = .returned (.bool b4) /\
 K (.bool (!b4)) w4
theorem ya (a0 : Option Addr) (l0 c0 : Nat) {w : World} {K : Value -> World -> Prop} (h : tw a0 l0 c0 w K) : Calls prog pS #[.slice a0 l0 c0] w (Ret K) :=
 au (c := ay Tryz.f103) (by kernel_rfl) Tryz.func103 (by kernel_rfl) [] [.slice a0 l0 c0] (of_decide_eq_true (by kernel_rfl)) _ (by kernel_rfl) h

--  (cracknel/short.stops).Len
def tB (a0 : Option Addr) (l0 c0 : Nat) (w : World) (K : Value -> World -> Prop) : Prop :=
 K (.int .i64 ((l0 : Nat) : Int)) w
theorem mq (a0 : Option Addr) (l0 c0 : Nat) {w : World} {K : Value -> World -> Prop} (h : tB a0 l0 c0 w K) : Calls prog jZ #[.slice a0 l0 c0] w (Ret K) :=
 au (c := ay Tryz.f278) (by kernel_rfl) Tryz.func278 (by kernel_rfl) [] [.slice a0 l0 c0] (of_decide_eq_true (by kernel_rfl)) _ (by kernel_rfl) h

--  (cracknel/short.stops).Less
def mC (a0 : Option Addr) (l0 c0 : Nat) (n1 : Int) (n2 : Int) (w : World) (K : Value -> World -> Prop) : Prop :=
 ((0 <= n1 /\ n1 < ((l0 : Nat) : Int)) /\ Option.isSome a0 = true) /\
 (Option.isSome (ao a0 n1 2) = true) /\
 ∃ n11, (∀ u11, Below w.heap.size w u11 -> Ld az (Option.map (fun x => x.add 0) (ao a0 n1 2)) u11 (.int .i64 n11)) /\
 ((0 <= n2 /\ n2 < ((l0 : Nat) : Int)) /\ Option.isSome a0 = true) /\
 (Option.isSome (ao a0 n2 2) = true) /\
 ∃ n16, (∀ u16, Below w.heap.size w u16 -> Ld az (Option.map (fun x => x.add 0) (ao a0 n2 2)) u16 (.int .i64 n16)) /\
 ∀ wq, Below w.heap.size w wq ->
 K (.bool (decide (n11 < n16))) wq
theorem qZ (a0 : Option Addr) (l0 c0 : Nat) (n1 : Int) (n2 : Int) {w : World} {K : Value -> World -> Prop} (h : mC a0 l0 c0 n1 n2 w K) : Calls prog d5 #[.slice a0 l0 c0, .int .i64 n1, .int .i64 n2] w (Ret K) :=
 au (c := ay Tryz.f279) (by kernel_rfl) Tryz.func279 (by kernel_rfl) [] [.slice a0 l0 c0, .int .i64 n1, .int .i64 n2] (of_decide_eq_true (by kernel_rfl)) _ (by kernel_rfl) h

--  (cracknel/short.stops).Swap
def mE (a0 : Option Addr) (l0 c0 : Nat) (n1 : Int) (n2 : Int) (w : World) (K : Value -> World -> Prop) : Prop :=
 ((0 <= n2 /\ n2 < ((l0 : Nat) : Int)) /\ Option.isSome a0 = true) /\
 ((0 <= n1 /\ n1 < ((l0 : Nat) : Int)) /\ Option.isSome a0 = true) /\
 ∃ n13_0 n13_1, (∀ u13, Below w.heap.size w u13 -> Ld aH (ao a0 n2 2) u13 (.agg #[.int .i64 n13_0, .int .i64 n13_1])) /\
 ∃ n17_0 n17_1, (∀ u17, Below w.heap.size w u17 -> Ld aH (ao a0 n1 2) u17 (.agg #[.int .i64 n17_0, .int .i64 n17_1])) /\
 ((0 <= n1 /\ n1 < ((l0 : Nat) : Int)) /\ Option.isSome a0 = true) /\
 ∀ wq, Below w.heap.size w wq ->
 ∃ wx, Sv aH (ao a0 n1 2) (.agg #[.int .i64 n13_0, .int .i64 n13_1]) wq wx /\
 ((0 <= n2 /\ n2 < ((l0 : Nat) : Int)) /\ Option.isSome a0 = true) /\
 ∃ wx_1, Sv aH (ao a0 n2 2) (.agg #[.int .i64 n17_0, .int .i64 n17_1]) wx wx_1 /\
 K (.tuple #[]) wx_1
theorem q9 (a0 : Option Addr) (l0 c0 : Nat) (n1 : Int) (n2 : Int) {w : World} {K : Value -> World -> Prop} (h : mE a0 l0 c0 n1 n2 w K) : Calls prog d6 #[.slice a0 l0 c0, .int .i64 n1, .int .i64 n2] w (Ret K) :=
 au (c := ay Tryz.f280) (by kernel_rfl) Tryz.func280 (by kernel_rfl) [(3000000, [(0, .one (.bool)), (1, .one (.bool)), (2, .one (.bool)), (3, .one (.bool)), (4, .one (.bool)), (5, .one (.bool)), (6, .one (.bool)), (8, .one (.bool)), (9, .one (.bool)), (10, .one (.bool)), (7, .one (.bool)), (11, .one (.bool)), (12, .one (.bool))])] [.slice a0 l0 c0, .int .i64 n1, .int .i64 n2] (of_decide_eq_true (by kernel_rfl)) _ (by kernel_rfl) h

--  (*cracknel/short.stops).Push
def mD (p0 : Option Addr) (v1 : Value) (w : World) (K : Value -> World -> Prop) : Prop :=
 (Option.isSome p0 = true) /\
 ∃ a7 l7 c7, (∀ u7, Below w.heap.size w u7 -> Ld aK p0 u7 (.slice a7 l7 c7)) /\
 ∃ n9_0 n9_1, (∀ u9, Below w.heap.size w u9 -> (Instr.typeAssert v1 rF aH false).run prog u9 = .ok (.agg #[.int .i64 n9_0, .int .i64 n9_1]) u9) /\
 ∀ k10, w.heap.size <= k10 ->
 ∀ wq, Below w.heap.size w wq ->
 wq.heap[k10]? = some (.cells #[.int .i64 n9_0, .int .i64 n9_1] aH) ->
 ∃ w11 a11 l11 c11, (Builtin.append_ #[aK, aK] aK #[.slice a7 l7 c7, .slice (some ⟨k10, 0, none⟩) 1 1]).run prog wq = .ok (.slice a11 l11 c11) w11 /\
 (Option.isSome p0 = true) /\
 ∃ wx, Sv aK p0 (.slice a11 l11 c11) w11 wx /\
 K (.tuple #[]) wx
theorem q6 (p0 : Option Addr) (v1 : Value) {w : World} {K : Value -> World -> Prop} (h : mD p0 v1 w K) : Calls prog jq #[.pointer p0, v1] w (Ret K) :=
 au (c := ay Tryz.f282) (by kernel_rfl) Tryz.func282 (by kernel_rfl) [(3000000, [(0, .one (.bool)), (1, .one (.bool)), (2, .one (.bool)), (4, .one (.bool)), (3, .one (.bool)), (5, .one (.bool)), (6, .one (.bool))])] [.pointer p0, v1] (of_decide_eq_true (by kernel_rfl)) _ (by kernel_rfl) h

--  (*cracknel/short.stops).Pop
def mU (p0 : Option Addr) (w : World) (K : Value -> World -> Prop) : Prop :=
 (Option.isSome p0 = true) /\
 (Option.isSome p0 = true) /\
 ∃ a6 l6 c6, (∀ u6, Below w.heap.size w u6 -> Ld aK p0 u6 (.slice a6 l6 c6)) /\
 ∃ a9 l9 c9, (∀ u9, Below w.heap.size w u9 -> Ld aK p0 u9 (.slice a9 l9 c9)) /\
 ((0 <= (i64.wrap (((l9 : Nat) : Int) - (1 : Int))) /\ (i64.wrap (((l9 : Nat) : Int) - (1 : Int))) < ((l6 : Nat) : Int)) /\ Option.isSome a6 = true) /\
 ∃ n13_0 n13_1, (∀ u13, Below w.heap.size w u13 -> Ld aH (ao a6 (i64.wrap (((l9 : Nat) : Int) - (1 : Int))) 2) u13 (.agg #[.int .i64 n13_0, .int .i64 n13_1])) /\
 ∀ k3, w.heap.size <= k3 ->
 ∀ wq, Below w.heap.size w wq ->
 wq.heap[k3]? = some (.cells #[.int .i64 (0 : Int), .int .i64 (0 : Int)] aH) ->
 ∃ wx, Sv aH (some ⟨k3, 0, none⟩) (.agg #[.int .i64 n13_0, .int .i64 n13_1]) wq wx /\
 (Option.isSome p0 = true) /\
 (Option.isSome p0 = true) /\
 ∃ a17 l17 c17, (∀ u17, Below wx.heap.size wx u17 -> Ld aK p0 u17 (.slice a17 l17 c17)) /\
 ∃ a20 l20 c20, (∀ u20, Below wx.heap.size wx u20 -> Ld aK p0 u20 (.slice a20 l20 c20)) /\
 ((0 <= (i64.wrap (((l20 : Nat) : Int) - (1 : Int))) /\ (i64.wrap (((l20 : Nat) : Int) - (1 : Int))) <= ((c17 : Nat) : Int))) /\
 (Option.isSome p0 = true) /\
 ∀ wq_1, Below wx.heap.size wx wq_1 ->
 ∃ wx_1, Sv aK p0 (.slice a17 (Int.toNat (i64.wrap (((l20 : Nat) : Int) - (1 : Int)))) c17) wq_1 wx_1 /\
 ∃ n25_0 n25_1, Ld aH (some ⟨k3, 0, none⟩) wx_1 (.agg #[.int .i64 n25_0, .int .i64 n25_1]) /\
 K (.iface aH (.agg #[.int .i64 n25_0, .int .i64 n25_1])) wx_1
theorem rY (p0 : Option Addr) {w : World} {K : Value -> World -> Prop} (h : mU p0 w K) : Calls prog j0 #[.pointer p0] w (Ret K) :=
 au (c := ay Tryz.f281) (by kernel_rfl) Tryz.func281 (by kernel_rfl) [(3000003, [(0, .one (.bool)), (1, .one (.bool)), (3, .one (.bool)), (4, .one (.bool)), (2, .one (.bool)), (5, .one (.bool)), (6, .one (.bool)), (7, .one (.bool)), (8, .one (.bool)), (9, .one (.bool)), (10, .one (.bool))]), (3000005, [(0, .one (.bool)), (1, .one (.bool)), (2, .one (.bool)), (4, .one (.bool)), (5, .one (.bool)), (3, .one (.bool)), (6, .one (.bool)), (7, .one (.bool)), (8, .one (.bool)), (9, .one (.bool)), (10, .one (.bool))])] [.pointer p0] (of_decide_eq_true (by kernel_rfl)) _ (by kernel_rfl) h

--  container/heap.up
def dR (q : Addr) (n1 : Int) (w : World) (K : Value -> World -> Prop) : Prop :=
 ∃ I : Nat -> FP [.one (.int .i64)],
 (∃ m, I m n1 w) /\
 ∀ m n1_1, aE 19 (∀ wl, I m n1_1 wl ->
 ((2 : Int) ≠ 0) /\
 ∀ q7, q7 = (i64.wrap (Int.tdiv (i64.wrap (n1_1 - (1 : Int))) (2 : Int))) ->
 ∃ J : FP [],
 (af (q7 == n1_1)
 (K (.tuple #[]) wl)
 (∃ av15 lv15 cv15, Ld aK (some q) wl (.slice av15 lv15 cv15) /\
 Calls prog d5 #[.slice av15 lv15 cv15, .int .i64 n1_1, .int .i64 q7] wl fun e15 w15 => ∃ b15, e15 = .returned (.bool b15) /\
 af (!b15)
 (K (.tuple #[]) w15)
 (J w15))) /\
 aE 10 (∀ wj, J wj ->
 ∃ av21 lv21 cv21, Ld aK (some q) wj (.slice av21 lv21 cv21) /\
 Calls prog d6 #[.slice av21 lv21 cv21, .int .i64 q7, .int .i64 n1_1] wj fun e21 w21 => e21 = .returned (.tuple #[]) /\
 ∃ m' : Nat, m' < m /\ I m' q7 w21))
theorem iZ (q : Addr) (n1 : Int) {w : World} {K : Value -> World -> Prop} (h : dR q n1 w K) : Calls prog iW #[.iface aW (.pointer (some q)), .int .i64 n1] w (Ret K) :=
 au (c := ay Tryz.f205) (by kernel_rfl) Tryz.func205 (by kernel_rfl) [(1, [(1, .one (.int .i64))]), (5, [])] [.iface aW (.pointer (some q)), .int .i64 n1] (of_decide_eq_true (by kernel_rfl)) _ (by kernel_rfl) h

--  container/heap.down
def dE (q : Addr) (n1 : Int) (n2 : Int) (w : World) (K : Value -> World -> Prop) : Prop :=
 ∃ I : Nat -> FP [.one (.int .i64)],
 (∃ m, I m n1 w) /\
 ∀ m n7, aE 36 (∀ wl, I m n7 wl ->
 ∃ J : FP [],
 (af (decide ((i64.wrap ((i64.wrap ((2 : Int) * n7)) + (1 : Int))) >= n2))
 (K (.bool (decide (n7 > n1))) wl)
 (af (decide ((i64.wrap ((i64.wrap ((2 : Int) * n7)) + (1 : Int))) < (0 : Int)))
 (K (.bool (decide (n7 > n1))) wl)
 (J wl))) /\
 aE 7 (∀ wj, J wj ->
 ∃ J_1 : FP [.one (.int .i64)],
 (af (decide ((i64.wrap ((i64.wrap ((i64.wrap ((2 : Int) * n7)) + (1 : Int))) + (1 : Int))) < n2))
 (∃ av32 lv32 cv32, Ld aK (some q) wj (.slice av32 lv32 cv32) /\
 Calls prog d5 #[.slice av32 lv32 cv32, .int .i64 (i64.wrap ((i64.wrap ((i64.wrap ((2 : Int) * n7)) + (1 : Int))) + (1 : Int))), .int .i64 (i64.wrap ((i64.wrap ((2 : Int) * n7)) + (1 : Int)))] wj fun e32 w32 => ∃ b32, e32 = .returned (.bool b32) /\
 af b32
 (J_1 (i64.wrap ((i64.wrap ((i64.wrap ((2 : Int) * n7)) + (1 : Int))) + (1 : Int))) w32)
 (J_1 (i64.wrap ((i64.wrap ((2 : Int) * n7)) + (1 : Int))) w32))
 (J_1 (i64.wrap ((i64.wrap ((2 : Int) * n7)) + (1 : Int))) wj)) /\
 ∀ n9, aE 13 (∀ wj_1, J_1 n9 wj_1 ->
 ∃ av38 lv38 cv38, Ld aK (some q) wj_1 (.slice av38 lv38 cv38) /\
 Calls prog d5 #[.slice av38 lv38 cv38, .int .i64 n9, .int .i64 n7] wj_1 fun e38 w38 => ∃ b38, e38 = .returned (.bool b38) /\
 af (!b38)
 (K (.bool (decide (n7 > n1))) w38)
 (∃ av43 lv43 cv43, Ld aK (some q) w38 (.slice av43 lv43 cv43) /\
 Calls prog d6 #[.slice av43 lv43 cv43, .int .i64 n7, .int .i64 n9] w38 fun e43 w43 => e43 = .returned (.tuple #[]) /\
 ∃ m' : Nat, m' < m /\ I m' n9 w43))))
theorem im (q : Addr) (n1 : Int) (n2 : Int) {w : World} {K : Value -> World -> Prop} (h : dE q n1 n2 w K) : Calls prog gz #[.iface aW (.pointer (some q)), .int .i64 n1, .int .i64 n2] w (Ret K) :=
 au (c := ay Tryz.f206) (by kernel_rfl) Tryz.func206 (by kernel_rfl) [(6, [(7, .one (.int .i64))]), (10, []), (18, [(9, .one (.int .i64))])] [.iface aW (.pointer (some q)), .int .i64 n1, .int .i64 n2] (of_decide_eq_true (by kernel_rfl)) _ (by kernel_rfl) h

--  container/heap.Push
def dD (q : Addr) (v1 : Value) (w : World) (K : Value -> World -> Prop) : Prop :=
 Calls prog jq #[.pointer (some q), v1] w fun e6 w6 => e6 = .returned (.tuple #[]) /\
 ∃ av9 lv9 cv9, Ld aK (some q) w6 (.slice av9 lv9 cv9) /\
 Calls prog jZ #[.slice av9 lv9 cv9] w6 fun e9 w9 => ∃ n9, e9 = .returned (.int .i64 n9) /\
 Calls prog iW #[.iface aW (.pointer (some q)), .int .i64 (i64.wrap (n9 - (1 : Int)))] w9 fun e11 w11 => e11 = .returned (.tuple #[]) /\
 K (.tuple #[]) w11
theorem il (q : Addr) (v1 : Value) {w : World} {K : Value -> World -> Prop} (h : dD q v1 w K) : Calls prog dX #[.iface aW (.pointer (some q)), v1] w (Ret K) :=
 au (c := ay Tryz.f157) (by kernel_rfl) Tryz.func157 (by kernel_rfl) [] [.iface aW (.pointer (some q)), v1] (of_decide_eq_true (by kernel_rfl)) _ (by kernel_rfl) h

--  container/heap.Pop
def dN (q : Addr) (w : World) (K : Value -> World -> Prop) : Prop :=
 ∃ av5 lv5 cv5, Ld aK (some q) w (.slice av5 lv5 cv5) /\
 Calls prog jZ #[.slice av5 lv5 cv5] w fun e5 w5 => ∃ n5, e5 = .returned (.int .i64 n5) /\
 ∃ av9 lv9 cv9, Ld aK (some q) w5 (.slice av9 lv9 cv9) /\
 Calls prog d6 #[.slice av9 lv9 cv9, .int .i64 (0 : Int), .int .i64 (i64.wrap (n5 - (1 : Int)))] w5 fun e9 w9 => e9 = .returned (.tuple #[]) /\
 Calls prog gz #[.iface aW (.pointer (some q)), .int .i64 (0 : Int), .int .i64 (i64.wrap (n5 - (1 : Int)))] w9 fun e12 w12 => ∃ b12, e12 = .returned (.bool b12) /\
 Calls prog j0 #[.pointer (some q)] w12 fun e14 w14 => ∃ v14, e14 = .returned v14 /\
 K v14 w14
theorem iB (q : Addr) {w : World} {K : Value -> World -> Prop} (h : dN q w K) : Calls prog ij #[.iface aW (.pointer (some q))] w (Ret K) :=
 au (c := ay Tryz.f159) (by kernel_rfl) Tryz.func159 (by kernel_rfl) [] [.iface aW (.pointer (some q))] (of_decide_eq_true (by kernel_rfl)) _ (by kernel_rfl) h

--  cracknel/short.back
def tu (n0_0 : Int) (n0_1 : Int) (a0_2 : Option Addr) (l0_2 c0_2 : Nat) (a0_3 : Option Addr) (l0_3 c0_3 : Nat) (w : World) (K : Value -> World -> Prop) : Prop :=
 ∀ k1 w1, k1 = w.heap.size -> w1 = w.alloc (.cells #[.int .i64 n0_0, .int .i64 n0_1, .slice a0_2 l0_2 c0_2, .slice a0_3 l0_3 c0_3] aj) ->
 (true = true) /\
 ∃ a7 l7 c7, Ld aS (some ⟨k1, 3, none⟩) w1 (.slice a7 l7 c7) /\
 ∃ w9 a9 l9 c9, (Instr.makeSlice jU (.int .i64 ((l7 : Nat) : Int)) (.int .i64 ((l7 : Nat) : Int))).run prog w1 = .ok (.slice a9 l9 c9) w9 /\
 (true = true) /\
 ∃ a11 l11 c11, Ld aA (some ⟨k1, 2, none⟩) w9 (.slice a11 l11 c11) /\
 ∃ I : Nat -> FP [.one (.int .i64)],
 (∃ m, I m (0 : Int) w9) /\
 ∀ m n13, aE 25 (∀ wl, I m n13 wl ->
 af (decide (n13 < ((l11 : Nat) : Int)))
 (((0 <= n13 /\ n13 < ((l11 : Nat) : Int)) /\ Option.isSome a11 = true) /\
 ∃ n17, Ld az (ao a11 n13 1) wl (.int .i64 n17) /\
 ((0 <= n17 /\ n17 < ((l9 : Nat) : Int)) /\ Option.isSome a9 = true) /\
 (true = true) /\
 (true = true) /\
 ∃ a23 l23 c23, (∀ u23, Below wl.heap.size wl u23 -> Ld bv (ao a9 n17 1) u23 (.slice a23 l23 c23)) /\
 ∃ n26, (∀ u26, Below wl.heap.size wl u26 -> Ld az (some ⟨k1, 0, none⟩) u26 (.int .i64 n26)) /\
 (n26 ≠ 0) /\
 ∀ q27, q27 = (i64.wrap (Int.tdiv n13 n26)) ->
 ∃ n30, (∀ u30, Below wl.heap.size wl u30 -> Ld az (some ⟨k1, 0, none⟩) u30 (.int .i64 n30)) /\
 (n30 ≠ 0) /\
 ∀ q31, q31 = (Int.tmod n13 n30) ->
 ∀ k33, wl.heap.size <= k33 ->
 ∀ wq, Below wl.heap.size wl wq ->
 wq.heap[k33]? = some (.cells #[.int .i64 q27, .int .i64 q31] ep) ->
 ∃ w34 a34 l34 c34, (Builtin.append_ #[bv, bv] bv #[.slice a23 l23 c23, .slice (some ⟨k33, 0, none⟩) 1 1]).run prog wq = .ok (.slice a34 l34 c34) w34 /\
 ((0 <= n17 /\ n17 < ((l9 : Nat) : Int)) /\ Option.isSome a9 = true) /\
 ∃ wx, Sv bv (ao a9 n17 1) (.slice a34 l34 c34) w34 wx /\
 ∃ m' : Nat, m' < m /\ I m' (i64.wrap (n13 + (1 : Int))) wx)
 (K (.slice a9 l9 c9) wl))
theorem xZ (n0_0 : Int) (n0_1 : Int) (a0_2 : Option Addr) (l0_2 c0_2 : Nat) (a0_3 : Option Addr) (l0_3 c0_3 : Nat) {w : World} {K : Value -> World -> Prop} (h : tu n0_0 n0_1 a0_2 l0_2 c0_2 a0_3 l0_3 c0_3 w K) : Calls prog pR #[.agg #[.int .i64 n0_0, .int .i64 n0_1, .slice a0_2 l0_2 c0_2, .slice a0_3 l0_3 c0_3]] w (Ret K) :=
 au (c := ay Tryz.f158) (by kernel_rfl) Tryz.func158 (by kernel_rfl) [(8, [(13, .one (.int .i64))]), (3000019, [(0, .one (.bool)), (1, .one (.bool)), (2, .one (.bool)), (3, .one (.bool)), (4, .one (.bool)), (6, .one (.bool)), (7, .one (.bool)), (10, .one (.bool)), (11, .one (.bool)), (5, .one (.bool)), (8, .one (.bool)), (9, .one (.bool)), (12, .one (.bool)), (13, .one (.bool)), (14, .one (.bool)), (15, .one (.bool))])] [.agg #[.int .i64 n0_0, .int .i64 n0_1, .slice a0_2 l0_2 c0_2, .slice a0_3 l0_3 c0_3]] (of_decide_eq_true (by kernel_rfl)) _ (by kernel_rfl) h

--  cracknel/short.left
def tA (n0_0 : Int) (n0_1 : Int) (a0_2 : Option Addr) (l0_2 c0_2 : Nat) (a0_3 : Option Addr) (l0_3 c0_3 : Nat) (a1 : Option Addr) (l1 c1 : Nat) (w : World) (K : Value -> World -> Prop) : Prop :=
 ∀ k2 w2, k2 = w.heap.size -> w2 = w.alloc (.cells #[.int .i64 n0_0, .int .i64 n0_1, .slice a0_2 l0_2 c0_2, .slice a0_3 l0_3 c0_3] aj) ->
 ∀ k14 w14, k14 = w2.heap.size -> w14 = w2.alloc (.cells #[.int .i64 (9223372036854775807 : Int)] az) ->
 (true = true) /\
 ∃ a16 l16 c16, Ld aS (some ⟨k2, 3, none⟩) w14 (.slice a16 l16 c16) /\
 Calls prog cB #[.slice (some ⟨k14, 0, none⟩) 1 1, .int .i64 ((l16 : Nat) : Int)] w14 fun e18 w18 => ∃ a18 l18 c18, e18 = .returned (.slice a18 l18 c18) /\
 ∀ k6 w6, k6 = w18.heap.size -> w6 = w18.alloc (.cells #[.slice none 0 0] aK) ->
 (true = true) /\
 ∃ a20 l20 c20, Ld aS (some ⟨k2, 3, none⟩) w6 (.slice a20 l20 c20) /\
 ∃ I : Nat -> FP [.one (.int .i64)],
 (∃ m, I m (0 : Int) w6) /\
 ∀ m n22, aE 16 (∀ wl, I m n22 wl ->
 af (decide (n22 < ((l20 : Nat) : Int)))
 (((0 <= n22 /\ n22 < ((l20 : Nat) : Int)) /\ Option.isSome a20 = true) /\
 ∃ b26, Ld eV (ao a20 n22 1) wl (.bool b26) /\
 af b26
 (((0 <= n22 /\ n22 < ((l18 : Nat) : Int)) /\ Option.isSome a18 = true) /\
 ∃ wx, Sv az (ao a18 n22 1) (.int .i64 (0 : Int)) wl wx /\
 Calls prog dX #[.iface aW (.pointer (some ⟨k6, 0, none⟩)), .iface aH (.agg #[.int .i64 (0 : Int), .int .i64 n22])] wx fun e35 w35 => e35 = .returned (.tuple #[]) /\
 ∃ m' : Nat, m' < m /\ I m' (i64.wrap (n22 + (1 : Int))) w35)
 (∃ m' : Nat, m' < m /\ I m' (i64.wrap (n22 + (1 : Int))) wl))
 (∃ n37_0 n37_1 a37_2 l37_2 c37_2 a37_3 l37_3 c37_3, Ld aj (some ⟨k2, 0, none⟩) wl (.agg #[.int .i64 n37_0, .int .i64 n37_1, .slice a37_2 l37_2 c37_2, .slice a37_3 l37_3 c37_3]) /\
 Calls prog pR #[.agg #[.int .i64 n37_0, .int .i64 n37_1, .slice a37_2 l37_2 c37_2, .slice a37_3 l37_3 c37_3]] wl fun e38 w38 => ∃ a38 l38 c38, e38 = .returned (.slice a38 l38 c38) /\
 ∃ I_1 : Nat -> FP [],
 (∃ m_1, I_1 m_1 w38) /\
 ∀ m_1, aE 55 (∀ wl_1, I_1 m_1 wl_1 ->
 ∃ a39 l39 c39, Ld aK (some ⟨k6, 0, none⟩) wl_1 (.slice a39 l39 c39) /\
 af (decide (((l39 : Nat) : Int) > (0 : Int)))
 (Calls prog ij #[.iface aW (.pointer (some ⟨k6, 0, none⟩))] wl_1 fun e43 w43 => ∃ v43, e43 = .returned v43 /\
 ∃ n44_0 n44_1, (Instr.typeAssert v43 rF aH false).run prog w43 = .ok (.agg #[.int .i64 n44_0, .int .i64 n44_1]) w43 /\
 ∀ k10 w10, k10 = w43.heap.size -> w10 = w43.alloc (.cells #[.int .i64 (0 : Int), .int .i64 (0 : Int)] aH) ->
 ∃ wx_1, Sv aH (some ⟨k10, 0, none⟩) (.agg #[.int .i64 n44_0, .int .i64 n44_1]) w10 wx_1 /\
 (true = true) /\
 ∃ n46, (∀ u46, Below wx_1.heap.size wx_1 u46 -> Ld az (some ⟨k10, 0, none⟩) u46 (.int .i64 n46)) /\
 (true = true) /\
 ∃ n49, (∀ u49, Below wx_1.heap.size wx_1 u49 -> Ld az (some ⟨k10, 1, none⟩) u49 (.int .i64 n49)) /\
 ((0 <= n49 /\ n49 < ((l18 : Nat) : Int)) /\ Option.isSome a18 = true) /\
 ∃ n51, (∀ u51, Below wx_1.heap.size wx_1 u51 -> Ld az (ao a18 n49 1) u51 (.int .i64 n51)) /\
 ∀ wq, Below wx_1.heap.size wx_1 wq ->
 af (decide (n46 > n51))
 (∃ m'_1 : Nat, m'_1 < m_1 /\ I_1 m'_1 wq)
 ((true = true) /\
 ∃ n55, Ld az (some ⟨k10, 1, none⟩) wq (.int .i64 n55) /\
 ((0 <= n55 /\ n55 < ((l38 : Nat) : Int)) /\ Option.isSome a38 = true) /\
 ∃ a57 l57 c57, Ld bv (ao a38 n55 1) wq (.slice a57 l57 c57) /\
 ∃ I_2 : Nat -> FP [.one (.int .i64)],
 (∃ m_2, I_2 m_2 (0 : Int) wq) /\
 ∀ m_2 n59, aE 33 (∀ wl_2, I_2 m_2 n59 wl_2 ->
 af (decide (n59 < ((l57 : Nat) : Int)))
 (((0 <= n59 /\ n59 < ((l57 : Nat) : Int)) /\ Option.isSome a57 = true) /\
 ∃ n62_0 n62_1, Ld ep (ao a57 n59 2) wl_2 (.agg #[.int .i64 n62_0, .int .i64 n62_1]) /\
 ∀ k12 w12, k12 = wl_2.heap.size -> w12 = wl_2.alloc (.cells #[.int .i64 (0 : Int), .int .i64 (0 : Int)] ep) ->
 ∃ wx_2, Sv ep (some ⟨k12, 0, none⟩) (.agg #[.int .i64 n62_0, .int .i64 n62_1]) w12 wx_2 /\
 (true = true) /\
 ∃ n64, (∀ u64, Below wx_2.heap.size wx_2 u64 -> Ld az (some ⟨k10, 0, none⟩) u64 (.int .i64 n64)) /\
 (true = true) /\
 ∃ n67, (∀ u67, Below wx_2.heap.size wx_2 u67 -> Ld az (some ⟨k12, 1, none⟩) u67 (.int .i64 n67)) /\
 ((0 <= n67 /\ n67 < ((l1 : Nat) : Int)) /\ Option.isSome a1 = true) /\
 ∃ n69, (∀ u69, Below wx_2.heap.size wx_2 u69 -> Ld az (ao a1 n67 1) u69 (.int .i64 n69)) /\
 ∀ wq_1, Below wx_2.heap.size wx_2 wq_1 ->
 (true = true) /\
 ∃ n74, Ld az (some ⟨k12, 0, none⟩) wq_1 (.int .i64 n74) /\
 ((0 <= n74 /\ n74 < ((l18 : Nat) : Int)) /\ Option.isSome a18 = true) /\
 ∃ n76, Ld az (ao a18 n74 1) wq_1 (.int .i64 n76) /\
 af (decide ((i64.wrap (n64 + n69)) < n76))
 ((true = true) /\
 ∃ n80, Ld az (some ⟨k12, 0, none⟩) wq_1 (.int .i64 n80) /\
 ((0 <= n80 /\ n80 < ((l18 : Nat) : Int)) /\ Option.isSome a18 = true) /\
 ∃ wx_3, Sv az (ao a18 n80 1) (.int .i64 (i64.wrap (n64 + n69))) wq_1 wx_3 /\
 (true = true) /\
 ∃ n86, Ld az (some ⟨k12, 0, none⟩) wx_3 (.int .i64 n86) /\
 Calls prog dX #[.iface aW (.pointer (some ⟨k6, 0, none⟩)), .iface aH (.agg #[.int .i64 (i64.wrap (n64 + n69)), .int .i64 n86])] wx_3 fun e89 w89 => e89 = .returned (.tuple #[]) /\
 ∃ m'_2 : Nat, m'_2 < m_2 /\ I_2 m'_2 (i64.wrap (n59 + (1 : Int))) w89)
 (∃ m'_2 : Nat, m'_2 < m_2 /\ I_2 m'_2 (i64.wrap (n59 + (1 : Int))) wq_1))
 (∃ m'_1 : Nat, m'_1 < m_1 /\ I_1 m'_1 wl_2))))
 (K (.slice a18 l18 c18) wl_1))))
theorem yb (n0_0 : Int) (n0_1 : Int) (a0_2 : Option Addr) (l0_2 c0_2 : Nat) (a0_3 : Option Addr) (l0_3 c0_3 : Nat) (a1 : Option Addr) (l1 c1 : Nat) {w : World} {K : Value -> World -> Prop} (h : tA n0_0 n0_1 a0_2 l0_2 c0_2 a0_3 l0_3 c0_3 a1 l1 c1 w K) : Calls prog pT #[.agg #[.int .i64 n0_0, .int .i64 n0_1, .slice a0_2 l0_2 c0_2, .slice a0_3 l0_3 c0_3], .slice a1 l1 c1] w (Ret K) :=
 au (c := ay Tryz.f104) (by kernel_rfl) Tryz.func104 (by kernel_rfl) [(10, [(22, .one (.int .i64))]), (33, []), (52, [(59, .one (.int .i64))])] [.agg #[.int .i64 n0_0, .int .i64 n0_1, .slice a0_2 l0_2 c0_2, .slice a0_3 l0_3 c0_3], .slice a1 l1 c1] (of_decide_eq_true (by kernel_rfl)) _ (by kernel_rfl) h

--  cracknel/short.Least
def rC (n0_0 : Int) (n0_1 : Int) (a0_2 : Option Addr) (l0_2 c0_2 : Nat) (a0_3 : Option Addr) (l0_3 c0_3 : Nat) (a1 : Option Addr) (l1 c1 : Nat) (n2 : Int) (w : World) (K : Value -> World -> Prop) : Prop :=
 ∀ k3 w3, k3 = w.heap.size -> w3 = w.alloc (.cells #[.int .i64 n0_0, .int .i64 n0_1, .slice a0_2 l0_2 c0_2, .slice a0_3 l0_3 c0_3] aj) ->
 ∃ J : FP [],
 (∃ n14_0 n14_1 a14_2 l14_2 c14_2 a14_3 l14_3 c14_3, Ld aj (some ⟨k3, 0, none⟩) w3 (.agg #[.int .i64 n14_0, .int .i64 n14_1, .slice a14_2 l14_2 c14_2, .slice a14_3 l14_3 c14_3]) /\
 Calls prog lF #[.agg #[.int .i64 n14_0, .int .i64 n14_1, .slice a14_2 l14_2 c14_2, .slice a14_3 l14_3 c14_3]] w3 fun e15 w15 => ∃ b15, e15 = .returned (.bool b15) /\
 af (!b15)
 (K (.tuple #[.slice none 0 0, .bool false, .int .i64 (151 : Int)]) w15)
 ((true = true) /\
 ∃ n21, Ld az (some ⟨k3, 0, none⟩) w15 (.int .i64 n21) /\
 af (((l1 : Nat) : Int) != n21)
 (K (.tuple #[.slice none 0 0, .bool false, .int .i64 (151 : Int)]) w15)
 (Calls prog pS #[.slice a1 l1 c1] w15 fun e26 w26 => ∃ b26, e26 = .returned (.bool b26) /\
 af (!b26)
 (K (.tuple #[.slice none 0 0, .bool false, .int .i64 (151 : Int)]) w26)
 (J w26)))) /\
 aE 18 (∀ wj, J wj ->
 ∃ n29_0 n29_1 a29_2 l29_2 c29_2 a29_3 l29_3 c29_3, Ld aj (some ⟨k3, 0, none⟩) wj (.agg #[.int .i64 n29_0, .int .i64 n29_1, .slice a29_2 l29_2 c29_2, .slice a29_3 l29_3 c29_3]) /\
 Calls prog pT #[.agg #[.int .i64 n29_0, .int .i64 n29_1, .slice a29_2 l29_2 c29_2, .slice a29_3 l29_3 c29_3], .slice a1 l1 c1] wj fun e31 w31 => ∃ a31 l31 c31, e31 = .returned (.slice a31 l31 c31) /\
 ∃ J_1 : FP [],
 ((true = true) /\
 ∃ n34, Ld az (some ⟨k3, 1, none⟩) w31 (.int .i64 n34) /\
 ((0 <= n34 /\ n34 < ((l31 : Nat) : Int)) /\ Option.isSome a31 = true) /\
 ∃ n36, Ld az (ao a31 n34 1) w31 (.int .i64 n36) /\
 af (decide (n36 > n2))
 (K (.tuple #[.slice none 0 0, .bool false, .int .i64 (0 : Int)]) w31)
 ((true = true) /\
 ∃ n42, Ld az (some ⟨k3, 1, none⟩) w31 (.int .i64 n42) /\
 ((0 <= n42 /\ n42 < ((l31 : Nat) : Int)) /\ Option.isSome a31 = true) /\
 ∃ n44, Ld az (ao a31 n42 1) w31 (.int .i64 n44) /\
 af (n44 == (9223372036854775807 : Int))
 (K (.tuple #[.slice none 0 0, .bool false, .int .i64 (0 : Int)]) w31)
 (J_1 w31))) /\
 aE 18 (∀ wj_1, J_1 wj_1 ->
 (true = true) /\
 ∃ n48, Ld az (some ⟨k3, 1, none⟩) wj_1 (.int .i64 n48) /\
 ∃ I : Nat -> FP [.one (.slice), .one (.int .i64)],
 (∃ m, I m none 0 0 n48 wj_1) /\
 ∀ m a10 l10 c10 n11, aE 49 (∀ wl, I m a10 l10 c10 n11 wl ->
 ((0 <= n11 /\ n11 < ((l31 : Nat) : Int)) /\ Option.isSome a31 = true) /\
 ∃ n52, Ld az (ao a31 n11 1) wl (.int .i64 n52) /\
 af (decide (n52 > (0 : Int)))
 ((true = true) /\
 ∃ n55, Ld az (some ⟨k3, 0, none⟩) wl (.int .i64 n55) /\
 ∃ I_1 : Nat -> FP [.one (.slice), .one (.int .i64), .one (.int .i64)],
 (∃ m_1, I_1 m_1 a10 l10 c10 n11 (0 : Int) wl) /\
 ∀ m_1 a10_1 l10_1 c10_1 n11_1 n56, aE 41 (∀ wl_1, I_1 m_1 a10_1 l10_1 c10_1 n11_1 n56 wl_1 ->
 af (decide (n56 < n55))
 ((true = true) /\
 ∃ a60 l60 c60, Ld aA (some ⟨k3, 2, none⟩) wl_1 (.slice a60 l60 c60) /\
 (true = true) /\
 ∃ n63, Ld az (some ⟨k3, 0, none⟩) wl_1 (.int .i64 n63) /\
 ((0 <= (i64.wrap ((i64.wrap (n11_1 * n63)) + n56)) /\ (i64.wrap ((i64.wrap (n11_1 * n63)) + n56)) < ((l60 : Nat) : Int)) /\ Option.isSome a60 = true) /\
 ∃ n68, Ld az (ao a60 (i64.wrap ((i64.wrap (n11_1 * n63)) + n56)) 1) wl_1 (.int .i64 n68) /\
 ∃ J_2 : FP [.one (.bool)],
 (((0 <= n68 /\ n68 < ((l31 : Nat) : Int)) /\ Option.isSome a31 = true) /\
 ∃ n72, (∀ u72, Below wl_1.heap.size wl_1 u72 -> Ld az (ao a31 n68 1) u72 (.int .i64 n72)) /\
 af (decide (n72 < (9223372036854775807 : Int)))
 (((0 <= n68 /\ n68 < ((l31 : Nat) : Int)) /\ Option.isSome a31 = true) /\
 ∃ n78, (∀ u78, Below wl_1.heap.size wl_1 u78 -> Ld az (ao a31 n68 1) u78 (.int .i64 n78)) /\
 ((0 <= n56 /\ n56 < ((l1 : Nat) : Int)) /\ Option.isSome a1 = true) /\
 ∃ n82, (∀ u82, Below wl_1.heap.size wl_1 u82 -> Ld az (ao a1 n56 1) u82 (.int .i64 n82)) /\
 ((0 <= n11_1 /\ n11_1 < ((l31 : Nat) : Int)) /\ Option.isSome a31 = true) /\
 ∃ n87, (∀ u87, Below wl_1.heap.size wl_1 u87 -> Ld az (ao a31 n11_1 1) u87 (.int .i64 n87)) /\
 ∀ wq, Below wl_1.heap.size wl_1 wq ->
 J_2 ((i64.wrap (n78 + n82)) == n87) wq)
 (∀ wq_1, Below wl_1.heap.size wl_1 wq_1 ->
 J_2 false wq_1)) /\
 ∀ b89, aE 20 (∀ wj_2, J_2 b89 wj_2 ->
 af b89
 (∀ k92 w92, k92 = wj_2.heap.size -> w92 = wj_2.alloc (.cells #[.int .i64 n56] az) ->
 ∃ w93 a93 l93 c93, (Builtin.append_ #[aA, aA] aA #[.slice a10_1 l10_1 c10_1, .slice (some ⟨k92, 0, none⟩) 1 1]).run prog w92 = .ok (.slice a93 l93 c93) w93 /\
 ∃ m' : Nat, m' < m /\ I m' a93 l93 c93 n68 w93)
 (∃ m'_1 : Nat, m'_1 < m_1 /\ I_1 m'_1 a10_1 l10_1 c10_1 n11_1 (i64.wrap (n56 + (1 : Int))) wj_2)))
 (∃ m' : Nat, m' < m /\ I m' a10_1 l10_1 c10_1 n11_1 wl_1)))
 (K (.tuple #[.slice a10 l10 c10, .bool true, .int .i64 (0 : Int)]) wl))))
theorem wZ (n0_0 : Int) (n0_1 : Int) (a0_2 : Option Addr) (l0_2 c0_2 : Nat) (a0_3 : Option Addr) (l0_3 c0_3 : Nat) (a1 : Option Addr) (l1 c1 : Nat) (n2 : Int) {w : World} {K : Value -> World -> Prop} (h : rC n0_0 n0_1 a0_2 l0_2 c0_2 a0_3 l0_3 c0_3 a1 l1 c1 n2 w K) : Calls prog oE #[.agg #[.int .i64 n0_0, .int .i64 n0_1, .slice a0_2 l0_2 c0_2, .slice a0_3 l0_3 c0_3], .slice a1 l1 c1, .int .i64 n2] w (Ret K) :=
 au (c := ay Tryz.f53) (by kernel_rfl) Tryz.func53 (by kernel_rfl) [(2, []), (12, []), (26, [(10, .one (.slice)), (11, .one (.int .i64))]), (37, [(10, .one (.slice)), (11, .one (.int .i64)), (56, .one (.int .i64))]), (50, [(89, .one (.bool))])] [.agg #[.int .i64 n0_0, .int .i64 n0_1, .slice a0_2 l0_2 c0_2, .slice a0_3 l0_3 c0_3], .slice a1 l1 c1, .int .i64 n2] (of_decide_eq_true (by kernel_rfl)) _ (by kernel_rfl) h
end Go.Proofs.YtpafoodmpjlkhaaGreatDoor
namespace Go.Pk
theorem Whl.elem {α : Type} {T : Ty α} {P : Program} {t : TypeId} {n : Nat} (hw : Whl P t n) (hk : T.k = n) {w : World} {A : Bl} {a : Option Addr} {l c : Nat} {xs : List α} (h : Sl T w A a l c xs) {i : Nat} (hi : i < xs.length) :
   ∃ vs, (Instr.loadAt t (.pointer (ao a (i : Int) n))).run P w = .ok (.agg vs.toArray) w /\ T.rep w A vs xs[i] := by
 obtain ⟨bytes, z, tf⟩ := hw.tf
 obtain ⟨ti, hti, hsz, _, _⟩ := tf.info
 have hag := hw.ag
 cases hu : P.underlying t with
 | none => rw [hu] at hag; cases hag
 | some d =>
   rw [hu] at hag
   simp only [Option.map_some, Option.some.injEq] at hag
   have := h.loadA hu hag hti hk hsz (i := (i : Int)) (by simpa using hi)
   simpa using this
end Go.Pk
namespace Go.Pk
open Go.RowKit (Below)
abbrev Pi := Int × Int
def prC (p : Pi) : List Value := [.int .i64 p.1, .int .i64 p.2]
def prV (p : Pi) : Value := .agg #[.int .i64 p.1, .int .i64 p.2]
def tP : Ty Pi where
 k := 2
 pos := by decide
 rep := fun _ _ vs p => vs = prC p
 len := fun h => by rw [h]; rfl
 one := fun {_ _ _ x} h v hv => by rw [h] at hv; exact (bS rfl (bS rfl nf) : BQ (prC x)) v hv
 keep := fun h _ => h
 mono := fun h _ => h
theorem tO : BP tP := fun _ _ _ _ _ _ h => h
theorem Sl.pair {P : Program} {t : TypeId} (hw : Whl P t 2) {w : World} {A : Bl} {a : Option Addr} {l c : Nat} {xs : List Pi} (h : Sl tP w A a l c xs) {i : Nat} (hi : i < xs.length) :
   (Instr.loadAt t (.pointer (ao a (i : Int) 2))).run P w = .ok (prV xs[i]) w := by
 obtain ⟨vs, h1, h2⟩ := hw.elem rfl h hi
 have h2 : vs = prC xs[i] := h2
 rw [h2] at h1; exact h1
theorem Sl.pair0 {P : Program} {t : TypeId} (hu : P.underlying t = some (.int .i64)) {w : World} {A : Bl} {a : Option Addr} {l c : Nat} {xs : List Pi} (h : Sl tP w A a l c xs) {i : Nat} (hi : i < xs.length) :
   (Instr.loadAt t (.pointer (Option.map (fun x => x.add 0) (ao a (i : Int) 2)))).run P w = .ok (.int .i64 xs[i].1) w /\ (Instr.loadAt t (.pointer (Option.map (fun x => x.add 1) (ao a (i : Int) 2)))).run P w = .ok (.int .i64 xs[i].2) w := by
 rcases h.2.2.2 with h4 | ⟨b, off, e, hb, hab, h4⟩
 · subst h4; cases hi
 · obtain ⟨vs, h5, h6⟩ := h4.elem hi
   have h5 : vs = prC xs[i] := h5
   subst h5
   rw [e, zi]
   simp only [Option.map_some, dp, Int.toNat_natCast]
   constructor
   · show (do loadVar t (<- Instr.sureAddr (.pointer (some _)))).run P w = _
     rw [Sem.run_bind, gM]
     exact dJ hu rfl (h6 0 (by decide))
   · show (do loadVar t (<- Instr.sureAddr (.pointer (some _)))).run P w = _
     rw [Sem.run_bind, gM]
     exact dJ hu rfl (h6 1 (by decide))
theorem Sl.some_of {α : Type} {T : Ty α} {w : World} {A : Bl} {a : Option Addr} {n c : Nat} {xs : List α} (h : Sl T w A a n c xs) {i : Nat} (hi : i < xs.length) (k : Nat) : (ao a (i : Int) k).isSome = true := by
 have := h.isSome hi
 cases a with
 | none => cases this
 | some x => rfl
theorem Sl.num {P : Program} {t : TypeId} (hu : P.underlying t = some (.int .i64)) {w : World} {A : Bl} {a : Option Addr} {l c : Nat} {xs : List Int} (h : Sl i7 w A a l c xs) {i : Nat} (hi : i < xs.length) :
   (Instr.loadAt t (.pointer (ao a (i : Int) 1))).run P w = .ok (.int .i64 xs[i]) w := by
 obtain ⟨v, h1, h2⟩ := h.load1 hu rfl rfl (i := (i : Int)) (by simpa using hi)
 rw [h1, Cp h2]
 simp
theorem Sl.tru {P : Program} {t : TypeId} (hu : P.underlying t = some .bool) {w : World} {A : Bl} {a : Option Addr} {l c : Nat} {xs : List Bool} (h : Sl ul w A a l c xs) {i : Nat} (hi : i < xs.length) :
   (Instr.loadAt t (.pointer (ao a (i : Int) 1))).run P w = .ok (.bool xs[i]) w := by
 obtain ⟨v, h1, h2⟩ := h.load1 hu rfl rfl (i := (i : Int)) (by simpa using hi)
 rw [h1, zb h2]
 simp
theorem xi {α : Type} {xs : List α} {i j : Nat} (hi : i < xs.length) (hj : j < xs.length) : ((xs.set i xs[j]).set j xs[i]).Perm xs := List.set_set_perm hi hj
end Go.Pk
namespace Go.Pk
open Go.RowKit (Below)
structure DaS (w : World) (a : Option Addr) (n c : Nat) (b : Option Addr) (m e : Nat) (d : DA) : Prop where
 nx : Sl i7 w gT a n c d.nx
 ac : Sl ul w gT b m e d.ac
theorem DaS.below {w w' : World} {a b : Option Addr} {n c m e : Nat} {d : DA} (h : DaS w a n c b m e d) (hb : Below w.heap.size w w') : DaS w' a n c b m e d := ⟨h.nx.below hb, h.ac.below hb⟩
def daV (a : Option Addr) (n c : Nat) (b : Option Addr) (m e : Nat) (d : DA) : Value := .agg #[.int .i64 d.k, .int .i64 d.st, .slice a n c, .slice b m e]
def okD (d : DA) : Bool := decide (1 <= d.k) && decide (d.k <= 512) && decide (1 <= d.ac.length) && decide (d.ac.length <= 65536) && decide ((d.nx.length : Int) = (d.ac.length : Int) * d.k) && decide (0 <= d.st) && decide (d.st < (d.ac.length : Int)) &&
 d.nx.all fun x => decide (0 <= x) && decide (x < (d.ac.length : Int))
theorem ff {d : DA} : okD d = true ↔ d.Ok := by
 unfold okD
 simp only [Bool.and_eq_true, dTx, List.all_eq_true]
 constructor
 · rintro ⟨⟨⟨⟨⟨⟨⟨h1, h2⟩, h3⟩, h4⟩, h5⟩, h6⟩, h7⟩, h8⟩
   exact ⟨h1, h2, h3, h4, h5, h6, h7, h8⟩
 · rintro ⟨h1, h2, h3, h4, h5, h6, h7, h8⟩
   exact ⟨⟨⟨⟨⟨⟨⟨h1, h2⟩, h3⟩, h4⟩, h5⟩, h6⟩, h7⟩, h8⟩
end Go.Pk
