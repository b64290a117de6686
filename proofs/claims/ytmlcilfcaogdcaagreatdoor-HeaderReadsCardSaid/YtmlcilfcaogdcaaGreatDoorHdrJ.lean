/- A header's text tells the header: plain law, second part. Its conditions: none. -/
import Derived.Test.YtmlcilfcaogdcaaGreatDoorHdrI
set_option linter.unusedVariables false
set_option linter.unusedSimpArgs false
set_option maxRecDepth 20000
namespace Go.Pk
theorem cut_join : ∀ (r : List (List UInt8)) (x : List UInt8), (∀ c ∈ x, c ≠ 59) → (∀ y ∈ r, ∀ c ∈ y, c ≠ 59) → cutC 59 [] (x ++ Lib.joinTail [59, 32] r) = x :: r.map (32 :: ·)
  | [], x, hx, _ => by
    have : Lib.joinTail [59, 32] [] = [] := rfl
    rw [this, List.append_nil, cutC_last 59 x [] hx]; rfl
  | y :: r, x, hx, hr => by
    have e : Lib.joinTail [59, 32] (y :: r) = 59 :: ((32 :: y) ++ Lib.joinTail [59, 32] r) := by simp [Lib.joinTail]
    rw [e, cutC_tok 59 x [] _ hx, cut_join r (32 :: y) (fun c hc => by
      rcases List.mem_cons.1 hc with rfl | hc
      · decide
      · exact hr y List.mem_cons_self c hc) fun z hz => hr z (List.mem_cons_of_mem _ hz)]
    rfl
theorem join_clean : ∀ (r : List (List UInt8)) (x : List UInt8), (∀ c ∈ x, isCtl c = false) → (∀ y ∈ r, ∀ c ∈ y, isCtl c = false) → ∀ c ∈ x ++ Lib.joinTail [59, 32] r, isCtl c = false
  | [], x, hx, _ => by
    have : Lib.joinTail [59, 32] [] = [] := rfl
    rw [this, List.append_nil]; exact hx
  | y :: r, x, hx, hr => by
    have e : Lib.joinTail [59, 32] (y :: r) = [59, 32] ++ (y ++ Lib.joinTail [59, 32] r) := by simp [Lib.joinTail]
    intro c hc
    rw [e] at hc
    rcases List.mem_append.1 hc with hc | hc
    · exact hx c hc
    rcases List.mem_append.1 hc with hc | hc
    · have hall : ∀ c ∈ ([59, 32] : List UInt8), isCtl c = false := by decide
      exact hall c hc
    · exact join_clean r y (hr y List.mem_cons_self) (fun z hz => hr z (List.mem_cons_of_mem _ hz)) c hc
theorem optMem {b : Bool} {x y : List UInt8} (h : y ∈ opt b x) : y = x := by unfold opt at h; split at h <;> simp_all
theorem fold_opt (b : Bool) (x : List UInt8) (g : Hdr) : ((opt b x).map (32 :: ·)).foldl stepA g = if b = true then stepA g (32 :: x) else g := by
  cases b <;> rfl
theorem step_key {k : List UInt8} (v : List UInt8) (h : ∀ c ∈ k, c ≠ 61) (g : Hdr) {key : List UInt8} (hk : lowL (trimB k) = key) (hl : (trimB v).length ≤ 1024) : stepA g (k ++ 61 :: v) = attrV g key (trimB v) := by
  obtain ⟨e1, e2, -⟩ := ahead_eq v h
  unfold stepA
  rw [e1, e2, if_pos hl, hk]
theorem step_word {k : List UInt8} (h : ∀ c ∈ k, c ≠ 61) (g : Hdr) {key : List UInt8} (hk : lowL (trimB k) = key) : stepA g k = attrV g key [] := by
  have hn : (61 : UInt8) ∉ k := fun hc => h 61 hc rfl
  obtain ⟨e1, e2⟩ := no_eq hn
  unfold stepA aheadL afterL
  rw [e1, e2, hk]
  rfl
theorem trim_dot {s : List UInt8} (h : Lok s) : trimB (dotV s) = dotV s := by
  unfold dotV
  split
  · rename_i h1; exact h1.1
  · exact trim_id (hok_cons rfl) (lok_cons h (.inr rfl))
theorem dot_back {s : List UInt8} (hs : s ≠ []) : (if (dotV s).head? = some 46 then (dotV s).drop 1 else dotV s) = s := by
  unfold dotV
  split
  · rename_i h; rw [if_neg h.2]
  · exact if_pos rfl
theorem clean_dot {s : List UInt8} (h : Clean s) : Clean (dotV s) := by
  unfold dotV
  split
  · exact h
  · intro c hc
    rcases List.mem_cons.1 hc with rfl | hc
    · decide
    · exact h c hc
theorem clean_dig {s : List UInt8} (h : ∀ c ∈ s, isDig c = true) : Clean s := fun c hc => (dig_clean (h c hc)).1
theorem same_word : ∀ k : Nat, k < 4 → trimB (nmL[k]?.getD []) = nmL[k]?.getD [] ∧ sameN (nmL[k]?.getD []) = (k : Int) ∧ (nmL[k]?.getD []).all okB = true ∧ (nmL[k]?.getD []).length ≤ 1024 := by decide
/-- what was read is read again from its text -/
theorem good_back {h : Hdr} (g : Good h) : parseH (writtenV h) = (h, 0) := by
  have hage := g.ag
  have hnum := dd_facts h.age.toNat
  rw [← itoa_pos hage.1] at hnum
  have hsw := same_word h.same.toNat (by have := g.sm; omega)
  rw [show ((h.same.toNat : Nat) : Int) = h.same by have := g.sm; omega] at hsw
  have hE : h.hasE = true → Clean (textV h.exp) := fun e => by have := g.ex; rw [if_pos e] at this; exact this.2.2.2.1
  -- the parts
  obtain ⟨r, hr⟩ : ∃ r, r = opt h.hasE (pE ++ textV h.exp) ++ opt h.hasA (pA ++ Lib.itoa h.age) ++ opt (!(h.domain == [])) (pD ++ dotV h.domain) ++ opt (!(h.path == [])) (pP ++ h.path) ++ opt h.sec pS ++ opt h.http pH ++
    opt (decide (0 < h.same) && decide (h.same ≤ 3)) (pM ++ nmL[h.same.toNat]?.getD []) := ⟨_, rfl⟩
  have hw : wparts h = (h.name ++ [61] ++ h.value) :: r := by rw [hr]; unfold wparts; simp only [List.append_assoc]; rfl
  have hjoin : writtenV h = (h.name ++ [61] ++ h.value) ++ Lib.joinTail [59, 32] r := by unfold writtenV; rw [hw, Lib.join_cons]
  have hc0 : Clean (h.name ++ [61] ++ h.value) := clean_app (clean_app g.nc (clean_all (by decide))) g.vc
  have hoptE : ∀ (b : Bool) (p v : List UInt8), p.all okB = true → (b = true → Clean v) → ∀ y ∈ opt b (p ++ v), Clean y := by
    intro b p v hp hv y hy
    cases b with
    | false => cases hy
    | true =>
      rw [List.mem_singleton.1 hy]
      exact clean_app (clean_all hp) (hv rfl)
  have hoptW : ∀ (b : Bool) (p : List UInt8), p.all okB = true → ∀ y ∈ opt b p, Clean y := fun b p hp y hy => by rw [optMem hy]; exact clean_all hp
  have hcr : ∀ y ∈ r, Clean y := by
    intro y hy
    rw [hr] at hy
    simp only [List.mem_append] at hy
    rcases hy with (((((hy | hy) | hy) | hy) | hy) | hy) | hy
    · exact hoptE _ pE _ (by decide) hE y hy
    · exact hoptE _ pA _ (by decide) (fun _ => clean_dig hnum.1) y hy
    · exact hoptE _ pD _ (by decide) (fun _ => clean_dot g.dc) y hy
    · exact hoptE _ pP _ (by decide) (fun _ => g.pc) y hy
    · exact hoptW _ pS (by decide) y hy
    · exact hoptW _ pH (by decide) y hy
    · exact hoptE _ pM _ (by decide) (fun _ => clean_all hsw.2.2.1) y hy
  have hcut : cutC 59 [] (writtenV h) = (h.name ++ [61] ++ h.value) :: r.map (32 :: ·) := by
    rw [hjoin]
    exact cut_join r _ (fun c hc => (hc0 c hc).2) fun y hy c hc => (hcr y hy c hc).2
  have hctl : ¬ (writtenV h).any isCtl = true := by
    intro hx
    obtain ⟨c, hc, hcc⟩ := List.any_eq_true.1 hx
    rw [hjoin] at hc
    have := join_clean r _ (fun c hc => (hc0 c hc).1) (fun y hy c hc => (hcr y hy c hc).1) c hc
    rw [this] at hcc; cases hcc
  have hname : nameOf (h.name ++ [61] ++ h.value) = (h.name, h.value) := by
    have e : h.name ++ [61] ++ h.value = h.name ++ 61 :: h.value := by simp
    obtain ⟨e1, e2, e3⟩ := ahead_eq h.value g.ne
    unfold nameOf
    rw [e, e3, e1, e2, if_pos rfl, g.nt, g.vt]
  unfold parseH
  rw [if_neg hctl, hcut]
  simp only [List.headD_cons, hname, List.drop_one, List.tail_cons]
  rw [if_neg g.nz, if_neg (by have := g.nl; omega)]
  congr 1
  rw [hr]
  simp only [List.map_append, List.foldl_append, fold_opt]
  -- Expires
  have s1 : (if h.hasE = true then stepA { hdr0 with name := h.name, value := h.value } (32 :: (pE ++ textV h.exp)) else { hdr0 with name := h.name, value := h.value }) = { hdr0 with name := h.name, value := h.value, hasE := h.hasE, exp := h.exp } := by
    have hx := g.ex
    cases he : h.hasE
    · rw [he] at hx
      rw [if_neg (by decide)]
      have hx' : h.exp = 0 := hx
      rw [hx']; rfl
    · rw [he, if_pos rfl] at hx
      rw [if_pos rfl]
      have e : (32 :: (pE ++ textV h.exp)) = [32, 69, 120, 112, 105, 114, 101, 115] ++ 61 :: textV h.exp := rfl
      rw [e, step_key (key := [101, 120, 112, 105, 114, 101, 115]) _ (by decide) _ (by decide) (by rw [hx.2.2.1]; have := textV_len h.exp; omega), hx.2.2.1]
      unfold attrV
      rw [if_pos rfl, if_pos hx.1, hx.2.1]
  rw [s1]
  have s2 : (if h.hasA = true then stepA { hdr0 with name := h.name, value := h.value, hasE := h.hasE, exp := h.exp } (32 :: (pA ++ Lib.itoa h.age)) else { hdr0 with name := h.name, value := h.value, hasE := h.hasE, exp := h.exp }) =
      { hdr0 with name := h.name, value := h.value, hasE := h.hasE, exp := h.exp, hasA := h.hasA, age := h.age } := by
    cases ha : h.hasA
    · rw [if_neg (by decide), hage.2.2 ha]; rfl
    · rw [if_pos rfl]
      have e : (32 :: (pA ++ Lib.itoa h.age)) = [32, 77, 97, 120, 45, 65, 103, 101] ++ 61 :: Lib.itoa h.age := rfl
      have il := Lib.itoa_length_le h.age (by omega) (by omega)
      rw [e, step_key (key := [109, 97, 120, 45, 97, 103, 101]) _ (by decide) _ (by decide) (by rw [dig_trim hnum.1]; omega), dig_trim hnum.1]
      unfold attrV
      rw [if_neg (by decide), if_pos rfl, age_itoa hage.1 hage.2.1]
  rw [s2]
  have s3 : ∀ G : Hdr, G.domain = [] → (if (!(h.domain == [])) = true then stepA G (32 :: (pD ++ dotV h.domain)) else G) = { G with domain := h.domain } := by
    intro G hG
    by_cases hd : h.domain = []
    · rw [hd, if_neg (by decide), ← hG]
    · rw [if_pos (by simpa using hd)]
      have e : (32 :: (pD ++ dotV h.domain)) = [32, 68, 111, 109, 97, 105, 110] ++ 61 :: dotV h.domain := rfl
      rw [e, step_key (key := [100, 111, 109, 97, 105, 110]) _ (by decide) _ (by decide) (by rw [trim_dot g.de]; exact g.dn), trim_dot g.de]
      unfold attrV
      rw [if_neg (by decide), if_neg (by decide), if_pos rfl, dot_back hd, g.dl]
  rw [s3 _ rfl]
  have s4 : ∀ G : Hdr, G.path = [] → (if (!(h.path == [])) = true then stepA G (32 :: (pP ++ h.path)) else G) = { G with path := h.path } := by
    intro G hG
    by_cases hd : h.path = []
    · rw [hd, if_neg (by decide), ← hG]
    · rw [if_pos (by simpa using hd)]
      have e : (32 :: (pP ++ h.path)) = [32, 80, 97, 116, 104] ++ 61 :: h.path := rfl
      rw [e, step_key (key := [112, 97, 116, 104]) _ (by decide) _ (by decide) (by rw [g.pt]; exact g.pl), g.pt]
      unfold attrV
      rw [if_neg (by decide), if_neg (by decide), if_neg (by decide), if_pos rfl, if_pos (g.ph.resolve_left hd)]
  rw [s4 _ rfl]
  have s5 : ∀ G : Hdr, G.sec = false → (if h.sec = true then stepA G (32 :: pS) else G) = { G with sec := h.sec } := by
    intro G hG
    cases hs : h.sec
    · rw [if_neg (by decide), ← hG]
    · rw [if_pos rfl, step_word (key := [115, 101, 99, 117, 114, 101]) (by decide) _ (by decide)]
      unfold attrV
      rw [if_neg (by decide), if_neg (by decide), if_neg (by decide), if_neg (by decide), if_pos rfl]
  rw [s5 _ rfl]
  have s6 : ∀ G : Hdr, G.http = false → (if h.http = true then stepA G (32 :: pH) else G) = { G with http := h.http } := by
    intro G hG
    cases hs : h.http
    · rw [if_neg (by decide), ← hG]
    · rw [if_pos rfl, step_word (key := [104, 116, 116, 112, 111, 110, 108, 121]) (by decide) _ (by decide)]
      unfold attrV
      rw [if_neg (by decide), if_neg (by decide), if_neg (by decide), if_neg (by decide), if_neg (by decide), if_pos rfl]
  rw [s6 _ rfl]
  have s7 : ∀ G : Hdr, G.same = 0 → (if (decide (0 < h.same) && decide (h.same ≤ 3)) = true then stepA G (32 :: (pM ++ nmL[h.same.toNat]?.getD [])) else G) = { G with same := h.same } := by
    intro G hG
    have := g.sm
    by_cases hd : h.same = 0
    · rw [hd, if_neg (by decide), ← hG]
    · rw [if_pos (by simp; omega)]
      have e : (32 :: (pM ++ nmL[h.same.toNat]?.getD [])) = [32, 83, 97, 109, 101, 83, 105, 116, 101] ++ 61 :: nmL[h.same.toNat]?.getD [] := rfl
      rw [e, step_key (key := [115, 97, 109, 101, 115, 105, 116, 101]) _ (by decide) _ (by decide) (by rw [hsw.1]; exact hsw.2.2.2), hsw.1]
      unfold attrV
      rw [if_neg (by decide), if_neg (by decide), if_neg (by decide), if_neg (by decide), if_neg (by decide), if_neg (by decide), if_pos rfl, hsw.2.1]
  rw [s7 _ rfl]
theorem good_ok {h : Hdr} (g : Good h) : HdrOk h := by
  have := g.nl; have := g.pl
  have hd : h.domain.length ≤ (dotV h.domain).length := by unfold dotV; split <;> simp
  have := g.dn
  refine ⟨by omega, by omega, by omega, by omega, ?_, by have := g.ag; omega⟩
  have hx := g.ex
  by_cases he : h.hasE = true
  · rw [if_pos he] at hx; exact hx.2.2.2.2
  · rw [if_neg he] at hx; omega
end Go.Pk
