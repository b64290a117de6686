/- Contracts of written, Right, Text. Its conditions: none. -/
import Derived.Test.YtmlcilfcaogdcaaGreatDoorHdrF
import Derived.Test.YtmlcilfcaogdcaaGreatDoorEq
import Derived.Test.YtmlcilfcaogdcaaGreatDoorV2
import Derived.Test.YtmlcilfcaogdcaaGreatDoorShelfB
import Derived.Lib.ItoaLen
import Derived.Lib.Join
set_option linter.unusedVariables false
set_option linter.unusedSimpArgs false
set_option maxRecDepth 20000
namespace Go.Pk
open Go.RowKit (Below)
def dotV (s : List UInt8) : List UInt8 := if trimB s = s ∧ s.head? ≠ some 46 then s else 46 :: s
def pE : List UInt8 := [69, 120, 112, 105, 114, 101, 115, 61]
def pA : List UInt8 := [77, 97, 120, 45, 65, 103, 101, 61]
def pD : List UInt8 := [68, 111, 109, 97, 105, 110, 61]
def pP : List UInt8 := [80, 97, 116, 104, 61]
def pS : List UInt8 := [83, 101, 99, 117, 114, 101]
def pH : List UInt8 := [72, 116, 116, 112, 79, 110, 108, 121]
def pM : List UInt8 := [83, 97, 109, 101, 83, 105, 116, 101, 61]
/-- a part, if it is told -/
def opt (b : Bool) (x : List UInt8) : List (List UInt8) := if b then [x] else []
noncomputable def wparts (h : Hdr) : List (List UInt8) :=
  [h.name ++ [61] ++ h.value] ++ opt h.hasE (pE ++ textV h.exp) ++ opt h.hasA (pA ++ Lib.itoa h.age) ++ opt (!(h.domain == [])) (pD ++ dotV h.domain) ++ opt (!(h.path == [])) (pP ++ h.path) ++ opt h.sec pS ++ opt h.http pH ++
    opt (decide (0 < h.same) && decide (h.same ≤ 3)) (pM ++ nmL[h.same.toNat]?.getD [])
noncomputable def writtenV (h : Hdr) : List UInt8 := Lib.join (wparts h) [59, 32]
structure HdrOk (h : Hdr) : Prop where
  name : h.name.length ≤ 20000
  value : h.value.length ≤ 20000
  domain : h.domain.length ≤ 20000
  path : h.path.length ≤ 20000
  exp : -9223372036854775808 ≤ h.exp ∧ h.exp ≤ 9223372036854775807
  age : -9223372036854775808 ≤ h.age ∧ h.age ≤ 9223372036854775807
theorem dotV_len (s : List UInt8) : (dotV s).length ≤ s.length + 1 := by unfold dotV; split <;> simp
theorem textV_len (t : Int) : (textV t).length ≤ 29 := by
  by_cases hr : t / 86400 < -134774 ∨ 2932896 < t / 86400
  · rw [textV_none hr]; simp
  · obtain ⟨y, m, d, hd, he⟩ := civ_ex (n := t / 86400) (by omega) (by omega)
    rw [textV_of hd he]
    have h1 : ∀ k : Nat, k < 7 → (weekN (k : Int)).length = 3 := by decide
    have h2 : ∀ k : Nat, k < 12 → (monN ((k : Int) + 1)).length = 3 := by decide
    have e1 := h1 (t / 86400 % 7).toNat (by omega)
    have e2 := h2 (m - 1).toNat (by have := hd.2.2.1; have := hd.2.2.2.1; omega)
    rw [show (((t / 86400 % 7).toNat : Nat) : Int) = t / 86400 % 7 by omega] at e1
    rw [show (((m - 1).toNat : Nat) : Int) + 1 = m by have := hd.2.2.1; omega] at e2
    unfold textD clockL
    simp only [List.length_append, two_len, e1, e2, List.length_cons, List.length_nil]
    omega
def hdrEq (h g : Hdr) : Bool := (h.name == g.name) && ((h.value == g.value) && ((h.domain == g.domain) && ((h.path == g.path) && ((h.hasE == g.hasE) && ((h.exp == g.exp) && ((h.hasA == g.hasA) && ((h.age == g.age) && ((h.sec == g.sec) && ((h.http == g.http) && ((h.same == g.same) && true))))))))))
theorem hdrEq_iff (h g : Hdr) : hdrEq h g = true ↔ h = g := by
  unfold hdrEq
  simp only [Bool.and_eq_true, beq_iff_eq, and_true]
  constructor
  · rintro ⟨h1, h2, h3, h4, h5, h6, h7, h8, h9, h10, h11⟩
    cases h; cases g; simp_all
  · rintro rfl; simp
/-- the slice in the variable that the closure holds -/
structure Accu (w0 : World) (tl ts th : TypeId) (k1 k3 : Nat) (h : Hdr) (xs : List (List UInt8)) (w : World) : Prop where
  slot : ∃ a l c, ArrAt w k3 tl [.slice a l c] ∧ Ow tS ts w NoB a l c xs ∧ Fresh w0.heap.size a ∧ ∀ g, ownB a = some g → g ≠ k3 ∧ g ≠ k1
  hdr : ArrAt w k1 th h.cells
  hb : Below w0.heap.size w0 w
  hk1 : w0.heap.size ≤ k1
  hk3 : w0.heap.size ≤ k3
  hne : k1 ≠ k3
theorem Accu.below {w0 : World} {tl ts th : TypeId} {k1 k3 : Nat} {h : Hdr} {xs : List (List UInt8)} {w w' : World} (S : Accu w0 tl ts th k1 k3 h xs w) (hb : Below w.heap.size w w') : Accu w0 tl ts th k1 k3 h xs w' := by
  obtain ⟨a, l, c, h1, h2, h3, h4⟩ := S.slot
  exact ⟨⟨a, l, c, h1.below hb, h2.below hb, h3, h4⟩, S.hdr.below hb, below_step S.hb hb S.hb.size, S.hk1, S.hk3, S.hne⟩
theorem Accu.get {P : Program} {u : TypeId} {d : TypeDesc} (hu : P.underlying u = some d) (ha : aggD d = false) {w0 : World} {tl ts th : TypeId} {k1 k3 : Nat} {h : Hdr} {xs : List (List UInt8)} {w : World} (S : Accu w0 tl ts th k1 k3 h xs w)
    {i : Nat} {v : Value} (hv : h.cells[i]? = some v) : (Instr.loadAt u (.pointer (some ⟨k1, i, none⟩))).run P w = .ok v w := S.hdr.load1 hu ha hv
end Go.Pk
namespace Go.Proofs.YtmlcilfcaogdcaaGreatDoor
open Go.Pk
open Go.RowKit (Below)
abbrev AccH (w0 : World) (k1 k3 : Nat) (h : Hdr) (xs : List (List UInt8)) (w : World) : Prop := Accu w0 T_sl_string T_string T_api_Header k1 k3 h xs w
theorem header_c1_ok {w0 : World} {k1 k3 : Nat} {h : Hdr} {xs : List (List UInt8)} {w : World} (S : AccH w0 k1 k3 h xs w) (hx : xs.length ≤ 1000) (b : Bool) (s : List UInt8) :
    Calls Tryz.prog f_header_written_c1 #[.bool b, .string (mkS s), .pointer (some ⟨k3, 0, none⟩)] w (Ret fun v w' => v = .tuple #[] ∧ AccH w0 k1 k3 h (xs ++ opt b s) w') := by
  apply run_header_written_c1
  unfold vc_header_written_c1
  refine BCase.of (fun hb => ?_) (fun hb => ?_)
  · subst hb
    obtain ⟨a, l, c, h1, h2, h3, h4⟩ := S.slot
    refine ⟨a, l, c, h1.load1 un_sl_string rfl rfl, ?_⟩
    intro k8 w8 hk8 hw8
    have hB8 := (hw8 ▸ below_alloc w _ : Below w.heap.size w w8)
    have hsrc : Src tS w8 NoB (some ⟨k8, 0, none⟩) 1 [s] := Src.new1F (flat_str _) hk8 hw8 (rep_str trivial)
    obtain ⟨w9, a9, l9, c9, hr, ho9, hg9, hf9⟩ := append_own (ty := T_sl_string) un_sl_string tf_string (by decide) (h2.below hB8) (fun _ _ h => h) (cm := 1) hsrc (by simp; omega)
    have hlt1 := S.hdr.lt
    have hlt3 := h1.lt
    have h1' := (h1.below hB8).grown hg9 (fun e => (h4 k3 e.symm).1 rfl)
    have hh' := (S.hdr.below hB8).grown hg9 (fun e => (h4 k1 e.symm).2 rfl)
    have hbb := below_step S.hb hB8 S.hb.size
    have h49 : ∀ g, ownB a9 = some g → g ≠ k3 ∧ g ≠ k1 := fun g hg => by
      rcases hf9 g hg with e | e
      · exact h4 g e
      · have := hB8.size; exact ⟨by omega, by omega⟩
    refine ⟨w9, a9, l9, c9, hr, ?_⟩
    obtain ⟨wx, hsx, hax, hgx⟩ := h1'.put (P := Tryz.prog) tf_sl_string (i := 0) (v := .slice a9 l9 c9) (by simp) rfl rfl
    refine ⟨wx, hsx, rfl, ⟨a9, l9, c9, hax, ho9.keep (grown_keep hgx fun g hg e => ?_), ?_, h49⟩, hh'.grown hgx (fun e => S.hne (Option.some.inj e)), (hbb.grown hg9 hbb.size h3).grown hgx ?_ ?_, S.hk1, S.hk3, S.hne⟩
    · rcases hg with hg | hg
      · exact hg
      · exact (h49 g hg.symm).1 (Option.some.inj e)
    · exact h3.app hbb.size hf9
    · exact (hbb.grown hg9 hbb.size h3).size
    · intro x e; cases e; exact S.hk3
  · subst hb
    refine ⟨rfl, ?_⟩
    show AccH w0 k1 k3 h (xs ++ []) w
    rw [List.append_nil]; exact S
theorem header_dotted_ok (s : List UInt8) (hs : s.length ≤ 1000000) (w : World) : Calls Tryz.prog f_header_dotted #[.string (mkS s)] w (Ret fun v w' => v = .string (mkS (dotV s)) ∧ Below w.heap.size w w') := by
  apply run_header_dotted
  unfold vc_header_dotted
  refine callK (octet_Trim_ok s (by omega) w) ?_
  rintro _ w1 ⟨rfl, hb⟩
  refine ⟨_, rfl, ?_⟩
  refine BCase.of (fun h => ?_) (fun h => ?_)
  · refine ⟨fits (by simp; omega), ?_⟩
    rintro _ rfl
    refine ⟨?_, hb⟩
    unfold dotV
    rw [if_neg (fun hc => by rw [hc.1] at h; simp at h)]; rfl
  · have ht : trimB s = s := by simpa using h
    refine (Tryz.strings_HasPrefix (mkS s) (mkS [46]) w1).mono ?_
    rintro _ _ ⟨rfl, rfl⟩
    have e : Lib.hasPrefix (mkS s).data.toList (mkS [46]).data.toList = decide (s.head? = some 46) := (pre_byte s 46).1
    rw [e]
    refine ⟨_, rfl, ?_⟩
    refine BCase.of (fun h2 => ?_) (fun h2 => ?_) <;> simp only [decide_eq_true_eq, decide_eq_false_iff_not] at h2
    · refine ⟨fits (by simp; omega), ?_⟩
      rintro _ rfl
      refine ⟨?_, hb⟩
      unfold dotV
      rw [if_neg (fun hc => hc.2 h2)]; rfl
    · refine ⟨?_, hb⟩
      unfold dotV
      rw [if_pos ⟨ht, h2⟩]
theorem format10_ok (n : Int) (h0 : -9223372036854775808 ≤ n) (h1 : n ≤ 9223372036854775807) (w : World) (ht : TabOk Tryz.prog w) : Calls Tryz.prog f_strconv_FormatInt #[.int .i64 n, .int .i64 10] w (Ret fun v w' => v = .string (mkS (Lib.itoa n)) ∧ Below w.heap.size w w') := by
  apply run_strconv_FormatInt
  unfold vc_strconv_FormatInt
  refine (Tryz.internal_strconv_FormatInt_10 n h0 h1 w ht).mono ?_
  rintro _ _ ⟨rfl, k, os, rfl⟩
  exact ⟨Lib.itoa n, rfl, rfl, below_grow2 w k os⟩
theorem join_text (xs : List (List UInt8)) {w0 : World} {k1 k3 : Nat} {h : Hdr} {w : World} (S : AccH w0 k1 k3 h xs w) (hx : xs.length ≤ 1000) (hl : (Lib.join xs [59, 32]).length ≤ 1000000) (K : Value → World → Prop) (hK : ∀ w', Below w0.heap.size w0 w' → K (.string (mkS (Lib.join xs [59, 32]))) w') :
    ∃ (a : Option Addr) (l c : Nat), (Instr.loadAt T_sl_string (.pointer (some ⟨k3, 0, none⟩))).run Tryz.prog w = .ok (.slice a l c) w ∧
      Calls Tryz.prog f_strings_Join #[.slice a l c, .string (mkS [59, 32])] w fun e w' => ∃ (s : List UInt8), e = .returned (.string (mkS s)) ∧ K (.string (mkS s)) w' := by
  obtain ⟨a, l, c, h1, h2, _, _⟩ := S.slot
  refine ⟨a, l, c, h1.load1 un_sl_string rfl rfl, ?_⟩
  obtain ⟨hn, hnc, hcm, h4⟩ := h2.all
  subst hn
  rcases h4 with h4 | ⟨b, off, rfl, hbl, _, cs, hcs, hcell⟩
  · subst h4
    refine (Tryz.strings_Join_none a c (mkS [59, 32]) w).mono ?_
    rintro _ _ ⟨rfl, rfl⟩
    exact ⟨[], rfl, hK _ S.hb⟩
  · have he := RepL_enc_eq hcs
    have hj := Tryz.strings_Join b off c (xs.map mkS) (mkS [59, 32]) w (fun j x hx => by
      rw [List.getElem?_map] at hx
      cases hxj : xs[j]? with
      | none => rw [hxj] at hx; cases hx
      | some y =>
        rw [hxj] at hx
        cases hx
        have hjl := (List.getElem?_eq_some_iff.1 hxj).1
        rw [hcell j (by rw [he]; simpa using hjl), he, List.getElem?_map, hxj]; rfl) hbl (by rw [List.length_map]; omega) (by rw [List.length_map]; exact hnc) (by
        have e : (xs.map mkS).map (fun s => s.data.toList) = xs := by rw [List.map_map]; exact List.map_id xs
        rw [e]; show (Lib.join xs [59, 32]).length ≤ _; omega)
    rw [List.length_map] at hj
    refine hj.mono ?_
    rintro _ w' ⟨rfl, hb'⟩
    have e : (xs.map mkS).map (fun s => s.data.toList) = xs := by rw [List.map_map]; exact List.map_id xs
    rw [e]
    exact ⟨_, rfl, hK _ (below_step S.hb hb' S.hb.size)⟩
theorem join_len (xs : List (List UInt8)) (M : Nat) (h : ∀ x ∈ xs, x.length ≤ M) : (Lib.join xs [59, 32]).length ≤ xs.length * (M + 2) := by
  cases xs with
  | nil => simp [Lib.join_nil]
  | cons x r =>
    rw [Lib.join_cons]
    have : ∀ r : List (List UInt8), (∀ x ∈ r, x.length ≤ M) → (Lib.joinTail [59, 32] r).length ≤ r.length * (M + 2) := by
      intro r
      induction r with
      | nil => intro _; simp [Lib.joinTail]
      | cons y r ih =>
        intro hr
        have h1 := ih fun x hx => hr x (List.mem_cons_of_mem _ hx)
        have h2 := hr y List.mem_cons_self
        have e : Lib.joinTail [59, 32] (y :: r) = [59, 32] ++ y ++ Lib.joinTail [59, 32] r := by simp [Lib.joinTail]
        rw [e]
        simp only [List.length_append, List.length_cons, List.length_nil, Nat.add_mul]; omega
    have h1 := this r fun y hy => h y (List.mem_cons_of_mem _ hy)
    have h2 := h x List.mem_cons_self
    simp only [List.length_append, List.length_cons, Nat.add_mul]; omega
theorem opt_len (b : Bool) (x : List UInt8) : (opt b x).length ≤ 1 := by unfold opt; split <;> simp
theorem opt_mem {b : Bool} {x y : List UInt8} (h : y ∈ opt b x) : y = x := by unfold opt at h; split at h <;> simp_all
theorem wlen (h : Hdr) (ho : HdrOk h) : (Lib.join (wparts h) [59, 32]).length ≤ 1000000 := by
  have hl1 := ho.name; have hl2 := ho.value; have hl3 := ho.domain; have hl4 := ho.path
  have tl := textV_len h.exp
  have il := Lib.itoa_length_le h.age ho.age.1 ho.age.2
  have dl := dotV_len h.domain
  have ol := opt_len
  have h1 : (wparts h).length ≤ 8 := by
    unfold wparts
    simp only [List.length_append]
    exact Nat.add_le_add (Nat.add_le_add (Nat.add_le_add (Nat.add_le_add (Nat.add_le_add (Nat.add_le_add (Nat.add_le_add (Nat.le_refl 1) (ol _ _)) (ol _ _)) (ol _ _)) (ol _ _)) (ol _ _)) (ol _ _)) (ol _ _)
  have h2 := join_len (wparts h) 41000 fun x hx => by
    unfold wparts at hx
    simp only [List.mem_append] at hx
    rcases hx with ((((((hx | hx) | hx) | hx) | hx) | hx) | hx) | hx
    · rw [List.mem_singleton.1 hx]; simp; omega
    · rw [opt_mem hx]; simp [pE]; omega
    · rw [opt_mem hx]; simp [pA]; omega
    · rw [opt_mem hx]; simp [pD]; omega
    · rw [opt_mem hx]; simp [pP]; omega
    · rw [opt_mem hx]; simp [pS]
    · rw [opt_mem hx]; simp [pH]
    · rw [opt_mem hx]
      have nl : ∀ k : Nat, (nmL[k]?.getD []).length ≤ 6 := fun k => by
        by_cases hk : k < 4
        · have : ∀ k : Nat, k < 4 → (nmL[k]?.getD []).length ≤ 6 := by decide
          exact this k hk
        · rw [List.getElem?_eq_none (by simp [nmL]; omega)]; simp
      have := nl h.same.toNat
      simp only [List.length_append]; simp only [pM, List.length_cons, List.length_nil]; omega
  have : (wparts h).length * (41000 + 2) ≤ 8 * (41000 + 2) := Nat.mul_le_mul_right _ h1
  omega
theorem header_written_ok (h : Hdr) (ho : HdrOk h) (w : World) (he : Env w) : Calls Tryz.prog f_header_written #[h.v] w (Ret fun v w' => v = .string (mkS (writtenV h)) ∧ Below w.heap.size w w') := by
  refine run_header_written h.name h.value h.domain h.path h.hasE h.exp h.hasA h.age h.sec h.http h.same ?_
  unfold vc_header_written
  have hl1 := ho.name; have hl2 := ho.value; have hl3 := ho.domain; have hl4 := ho.path
  intro k1 w1 hk1 hw1
  have hB1 := (hw1 ▸ below_alloc w _ : Below w.heap.size w w1)
  have hh1 : ArrAt w1 k1 T_api_Header h.cells := ArrAt.new hk1 hw1
  refine ⟨rfl, _, hh1.load1 un_string rfl rfl, fits (by simp; omega), ?_⟩
  rintro _ rfl
  refine ⟨rfl, _, hh1.load1 un_string rfl rfl, fits (by simp; omega), ?_⟩
  rintro _ rfl
  intro k11 w11 hk11 hw11 k3 w3 hk3 hw3
  have hB11 := (hw11 ▸ below_alloc w1 _ : Below w1.heap.size w1 w11)
  have hB3 := (hw3 ▸ below_alloc w11 _ : Below w11.heap.size w11 w3)
  have ho11 : Ow tS T_string w11 NoB (some ⟨k11, 0, none⟩) 1 1 [h.name ++ [61] ++ h.value] := Ow.newF (l := [_]) (flat_str _) hk11 hw11 (RepL.one (rep_str trivial)) (show 1 ≤ maxLen by decide)
  have ha3 : ArrAt w3 k3 T_sl_string [.slice none 0 0] := ArrAt.new hk3 hw3
  have hs1 : w1.heap.size = w.heap.size + 1 := by rw [hw1]; simp
  have hs11 : w11.heap.size = w1.heap.size + 1 := by rw [hw11]; simp
  obtain ⟨wx, hsx, hax, hgx⟩ := ha3.put (P := Tryz.prog) tf_sl_string (i := 0) (v := .slice (some ⟨k11, 0, none⟩) 1 1) (by simp) rfl rfl
  refine ⟨wx, hsx, ?_⟩
  have hB13 := below_step (below_step hB1 hB11 hB1.size) hB3 (below_step hB1 hB11 hB1.size).size
  have S0 : AccH w k1 k3 h [h.name ++ [61] ++ h.value] wx := by
    refine ⟨⟨_, _, _, hax, (ho11.below hB3).keep (grown_keep hgx fun g hg e => ?_), fun g hg => ?_, fun g hg => ?_⟩, ((hh1.below hB11).below hB3).grown hgx (fun e => by cases e; omega), hB13.grown hgx hB13.size (fun x e => by cases e; omega), by omega, by omega, by omega⟩
    · rcases hg with hg | hg
      · exact hg
      · have hg' : g = k11 := by simpa [ownB] using hg
        cases e; omega
    · have hg' : g = k11 := by simpa [ownB] using hg.symm
      omega
    · have hg' : g = k11 := by simpa [ownB] using hg.symm
      exact ⟨by omega, by omega⟩
  have htab : ∀ {u : World} {xs : List (List UInt8)}, AccH w k1 k3 h xs u → TabOk Tryz.prog u := fun S => (he.step S.hb).tab
  have htr : true = true := rfl
  clear hax hgx hsx ha3 ho11 hh1 hB13 hB3 hB11 hB1 hw3 hw11 hw1
  have ol := opt_len
  have tl := textV_len h.exp
  have il := Lib.itoa_length_le h.age ho.age.1 ho.age.2
  have dl := dotV_len h.domain
  obtain ⟨x0, e0⟩ : ∃ x, x = [h.name ++ [61] ++ h.value] := ⟨_, rfl⟩
  rw [← e0] at S0
  have n0 : x0.length ≤ 1 := by rw [e0]; simp
  -- Expires
  refine worldJ (fun w' => AccH w k1 k3 h (x0 ++ opt h.hasE (pE ++ textV h.exp)) w') ?_ ?_
  · have Sd := S0.below (below_drew _)
    repeat' (first
      | exact htr
      | refine Exists.intro _ (And.intro (Accu.get un_bool rfl (by assumption) rfl) ?_)
      | refine Exists.intro _ (And.intro (Accu.get un_int64 rfl (by assumption) rfl) ?_)
      | (refine callK (date_Text_ok _ ho.exp.1 ho.exp.2 _ (htab (by assumption))) ?_
         rintro _ u ⟨rfl, hbu⟩
         have Su := Accu.below (by assumption) hbu
         refine Exists.intro _ (And.intro rfl ?_)
         refine And.intro (fits (by simp only [List.length_cons, List.length_nil]; omega)) ?_
         rintro _ rfl)
      | (refine callK (header_c1_ok (by assumption) (by omega) _ _) ?_
         rintro _ u ⟨rfl, Su⟩
         exact And.intro rfl Su)
      | refine And.intro ?_ ?_)
  intro w4 S1
  clear S0
  obtain ⟨x1, e1⟩ : ∃ x, x = x0 ++ opt h.hasE (pE ++ textV h.exp) := ⟨_, rfl⟩
  have n1 : x1.length ≤ 2 := by rw [e1, List.length_append]; exact Nat.add_le_add n0 (ol _ _)
  rw [← e1] at S1
  -- Max-Age
  refine worldJ (fun w' => AccH w k1 k3 h (x1 ++ opt h.hasA (pA ++ Lib.itoa h.age)) w') ?_ ?_
  · have Sd := S1.below (below_drew _)
    repeat' (first
      | exact htr
      | refine Exists.intro _ (And.intro (Accu.get un_bool rfl (by assumption) rfl) ?_)
      | refine Exists.intro _ (And.intro (Accu.get un_int64 rfl (by assumption) rfl) ?_)
      | (refine callK (format10_ok _ ho.age.1 ho.age.2 _ (htab (by assumption))) ?_
         rintro _ u ⟨rfl, hbu⟩
         have Su := Accu.below (by assumption) hbu
         refine Exists.intro _ (And.intro rfl ?_)
         refine And.intro (fits (by simp only [List.length_cons, List.length_nil]; omega)) ?_
         rintro _ rfl)
      | (refine callK (header_c1_ok (by assumption) (by omega) _ _) ?_
         rintro _ u ⟨rfl, Su⟩
         exact And.intro rfl Su)
      | refine And.intro ?_ ?_)
  intro w5 S2
  clear S1
  obtain ⟨x2, e2⟩ : ∃ x, x = x1 ++ opt h.hasA (pA ++ Lib.itoa h.age) := ⟨_, rfl⟩
  have n2 : x2.length ≤ 3 := by rw [e2, List.length_append]; exact Nat.add_le_add n1 (ol _ _)
  rw [← e2] at S2
  -- Domain
  refine worldJ (fun w' => AccH w k1 k3 h (x2 ++ opt (!(h.domain == [])) (pD ++ dotV h.domain)) w') ?_ ?_
  · have Sd := S2.below (below_drew _)
    repeat' (first
      | exact htr
      | refine Exists.intro _ (And.intro (Accu.get un_string rfl (by assumption) rfl) ?_)
      | (refine callK (header_dotted_ok _ (by omega) _) ?_
         rintro _ u ⟨rfl, hbu⟩
         have Su := Accu.below (by assumption) hbu
         refine Exists.intro _ (And.intro rfl ?_)
         refine And.intro (fits (by simp only [List.length_cons, List.length_nil]; omega)) ?_
         rintro _ rfl)
      | (refine callK (header_c1_ok (by assumption) (by omega) _ _) ?_
         rintro _ u ⟨rfl, Su⟩
         exact And.intro rfl Su)
      | refine And.intro ?_ ?_)
  intro w6 S3
  clear S2
  obtain ⟨x3, e3⟩ : ∃ x, x = x2 ++ opt (!(h.domain == [])) (pD ++ dotV h.domain) := ⟨_, rfl⟩
  have n3 : x3.length ≤ 4 := by rw [e3, List.length_append]; exact Nat.add_le_add n2 (ol _ _)
  rw [← e3] at S3
  refine ⟨rfl, _, Accu.get un_string rfl S3 rfl, ?_⟩
  refine ⟨rfl, _, Accu.get un_string rfl S3 rfl, fits (by simp only [List.length_cons, List.length_nil]; omega), ?_⟩
  rintro _ rfl
  refine callK (header_c1_ok S3 (by omega) _ _) ?_
  rintro _ w7 ⟨rfl, S4⟩
  refine ⟨rfl, ?_⟩
  obtain ⟨x4, e4⟩ : ∃ x, x = x3 ++ opt (!(h.path == [])) (pP ++ h.path) := ⟨_, rfl⟩
  have n4 : x4.length ≤ 5 := by rw [e4, List.length_append]; exact Nat.add_le_add n3 (ol _ _)
  replace S4 : AccH w k1 k3 h x4 w7 := by rw [e4]; exact S4
  clear S3
  refine ⟨rfl, _, Accu.get un_bool rfl S4 rfl, ?_⟩
  refine callK (header_c1_ok S4 (by omega) _ _) ?_
  rintro _ w8 ⟨rfl, S5⟩
  refine ⟨rfl, ?_⟩
  obtain ⟨x5, e5⟩ : ∃ x, x = x4 ++ opt h.sec pS := ⟨_, rfl⟩
  have n5 : x5.length ≤ 6 := by rw [e5, List.length_append]; exact Nat.add_le_add n4 (ol _ _)
  replace S5 : AccH w k1 k3 h x5 w8 := by rw [e5]; exact S5
  clear S4
  refine ⟨rfl, _, Accu.get un_bool rfl S5 rfl, ?_⟩
  refine callK (header_c1_ok S5 (by omega) _ _) ?_
  rintro _ w9 ⟨rfl, S6⟩
  refine ⟨rfl, ?_⟩
  obtain ⟨x6, e6⟩ : ∃ x, x = x5 ++ opt h.http pH := ⟨_, rfl⟩
  have n6 : x6.length ≤ 7 := by rw [e6, List.length_append]; exact Nat.add_le_add n5 (ol _ _)
  replace S6 : AccH w k1 k3 h x6 w9 := by rw [e6]; exact S6
  clear S5
  obtain ⟨x7, e7⟩ : ∃ x, x = x6 ++ opt (decide (0 < h.same) && decide (h.same ≤ 3)) (pM ++ nmL[h.same.toNat]?.getD []) := ⟨_, rfl⟩
  have n7 : x7.length ≤ 8 := by rw [e7, List.length_append]; exact Nat.add_le_add n6 (ol _ _)
  have ew : wparts h = x7 := by subst e7; subst e6; subst e5; subst e4; subst e3; subst e2; subst e1; subst e0; rfl
  have hJ : (Lib.join x7 [59, 32]).length ≤ 1000000 := by rw [← ew]; exact wlen h ho
  refine boolWJ (fun b w' => b = (decide (0 < h.same) && decide (h.same ≤ 3)) ∧ AccH w k1 k3 h x6 w') ?_ ?_
  · refine ⟨rfl, _, Accu.get un_int rfl S6 rfl, ?_⟩
    refine BCase.of (fun hc => ?_) (fun hc => ?_) <;> simp only [decide_eq_true_eq, decide_eq_false_iff_not, gt_iff_lt] at hc
    · exact ⟨rfl, _, Accu.get un_int rfl S6 rfl, by rw [decide_eq_true hc]; rfl, S6⟩
    · exact ⟨by rw [decide_eq_false hc]; rfl, S6⟩
  rintro b w10 ⟨hb, S⟩
  refine BCase.of (fun hc => ?_) (fun hc => ?_)
  · rw [hb] at hc
    have hc' : 0 < h.same ∧ h.same ≤ 3 := by simpa using hc
    have hx : x7 = x6 ++ opt true (pM ++ nmL[h.same.toNat]?.getD []) := by rw [e7, hc]
    have hn : ((h.same.toNat : Nat) : Int) = h.same := by omega
    have hi : ∀ u, (Instr.index T_arr4_string nmV (.int .i64 h.same)).run Tryz.prog u = .ok (.string (mkS (nmL[h.same.toNat]?.getD []))) u := fun u => by
      have := index_nm u h.same.toNat (by omega)
      rwa [hn] at this
    have nl : (nmL[h.same.toNat]?.getD []).length ≤ 6 := by
      have : ∀ k : Nat, k < 4 → (nmL[k]?.getD []).length ≤ 6 := by decide
      exact this _ (by omega)
    have Sd := S.below (below_drew _)
    clear S6
    refine ⟨rfl, ?_, ?_⟩
    · refine callK (header_names_ok _) ?_
      rintro _ u ⟨rfl, hbu⟩
      have Su := Sd.below hbu
      refine ⟨_, _, _, _, rfl, _, Accu.get un_int rfl Su rfl, _, hi u, fits (by simp only [List.length_cons, List.length_nil]; omega), ?_⟩
      rintro _ rfl
      refine callK (header_c1_ok Su (by omega) _ _) ?_
      rintro _ u2 ⟨rfl, S7⟩
      have S7' : AccH w k1 k3 h x7 u2 := by rw [hx]; exact S7
      refine ⟨rfl, ?_⟩
      exact join_text x7 S7' (by omega) hJ (fun v w' => v = .string (mkS (writtenV h)) ∧ Below w.heap.size w w') fun w' hb' => ⟨by rw [writtenV, ew], hb'⟩
    · refine ⟨_, Accu.get un_int rfl Sd rfl, ?_⟩
      refine callK (header_names_ok _) ?_
      rintro _ u ⟨rfl, hbu⟩
      have Su := Sd.below hbu
      refine ⟨_, _, _, _, rfl, _, hi u, fits (by simp only [List.length_cons, List.length_nil]; omega), ?_⟩
      rintro _ rfl
      refine callK (header_c1_ok Su (by omega) _ _) ?_
      rintro _ u2 ⟨rfl, S7⟩
      have S7' : AccH w k1 k3 h x7 u2 := by rw [hx]; exact S7
      refine ⟨rfl, ?_⟩
      exact join_text x7 S7' (by omega) hJ (fun v w' => v = .string (mkS (writtenV h)) ∧ Below w.heap.size w w') fun w' hb' => ⟨by rw [writtenV, ew], hb'⟩
  · rw [hb] at hc
    have hx : x7 = x6 := by rw [e7, hc]; exact List.append_nil _
    have S7' : AccH w k1 k3 h x7 w10 := by rw [hx]; exact S
    exact join_text x7 S7' (by omega) hJ (fun v w' => v = .string (mkS (writtenV h)) ∧ Below w.heap.size w w') fun w' hb' => ⟨by rw [writtenV, ew], hb'⟩
end Go.Proofs.YtmlcilfcaogdcaaGreatDoor
