/- Contracts of symbol.New and the methods of its alphabets. Its conditions: none. -/
import Derived.Test.YtdamklkdjknnpaaSymD
import Derived.Test.YtdamklkdjknnpaaSymP
set_option linter.unusedVariables false
set_option linter.unusedSimpArgs false
set_option maxRecDepth 20000
namespace Go.Proofs.Ytdamklkdjknnpaa
open Go.Pk
open Go.RowKit (Below)

/-- texts with their places -/
def idxs (ts : List Txt) : List (Txt × Int) := ts.zipIdx.map fun p => (p.1, ((p.2 : Nat) : Int))
theorem idxs_snoc (ts : List Txt) (x : Txt) : idxs (ts ++ [x]) = idxs ts ++ [(x, (ts.length : Int))] := by
  unfold idxs
  rw [List.zipIdx_append]
  simp
theorem lookK_append (k : Txt) : ∀ (l m : List (Txt × Int)), lookK k (l ++ m) = (lookK k l).orElse fun _ => lookK k m
  | [], m => by simp [lookK]
  | (k', v) :: l, m => by
    simp only [List.cons_append, lookK]
    split
    · rfl
    · exact lookK_append k l m
theorem lookK_none {k : Txt} : ∀ {ts : List Txt}, k ∉ ts → ∀ (l : List (Txt × Int)), l.map (·.1) = ts → lookK k l = none
  | _, h, [], e => rfl
  | [], h, (k', v) :: l, e => by simp at e
  | t :: ts, h, (k', v) :: l, e => by
    simp only [List.map_cons, List.cons.injEq] at e
    obtain ⟨rfl, e⟩ := e
    simp only [List.mem_cons, not_or] at h
    unfold lookK
    rw [if_neg h.1]
    exact lookK_none h.2 l e
theorem idxs_keys (ts : List Txt) : (idxs ts).map (·.1) = ts := by
  unfold idxs
  rw [List.map_map]
  exact List.zipIdx_map_fst 0 ts
theorem lookK_idxs_none {ts : List Txt} {k : Txt} (h : k ∉ ts) : lookK k (idxs ts) = none := lookK_none h _ (idxs_keys ts)
theorem take_snoc {α : Type} {l : List α} {k : Nat} (h : k < l.length) : l.take (k + 1) = l.take k ++ [l[k]] := List.take_succ_eq_append_getElem h

/-- an alphabet of the texts 'ts' lies at p -/
def Alpha (w : World) (p : Option Addr) (ts : List Txt) : Prop :=
  ∃ b a n c m cs fr, p = some ⟨b, 0, none⟩ ∧ w.heap[b]? = some (.cells cs T_symbol_Alphabet fr) ∧ cs = #[.slice a n c, .map (some m)] ∧ Sl tS w AllB a n c ts ∧ MapAt w m (idxs ts) ∧ ts.Pairwise (· < ·)
theorem Alpha.below {w w' : World} {p : Option Addr} {ts : List Txt} (h : Alpha w p ts) (hb : Below w.heap.size w w') : Alpha w' p ts := by
  obtain ⟨b, a, n, c, m, cs, fr, e1, e2, e3, e4, e5, e6⟩ := h
  exact ⟨b, a, n, c, m, cs, fr, e1, (hb.block b (Array.getElem?_eq_some_iff.1 e2).1).trans e2, e3, e4.below hb, e5.below hb, e6⟩

theorem symbol_New_ok (a : Option Addr) (n c : Nat) (l : List Txt) (hl : l.length ≤ 1000000) (w : World) (hs : Sl tS w AllB a n c l) :
    Calls Try.prog f_symbol_New #[.slice a n c] w (Ret fun v w' => ∃ p, v = .pointer p ∧ Alpha w' p (setL l) ∧ Below w.heap.size w w') := by
  apply run_symbol_New
  unfold vc_symbol_New
  refine callK (values_ok a n c w) ?_
  rintro _ _ ⟨rfl, rfl⟩
  refine ⟨_, rfl, ?_⟩
  have hB0 : Below w.heap.size w (w.alloc (.cells #[.slice a n c] T_sl_string)) := below_alloc _ _
  have hs0 := hs.below hB0
  have hc0 : (w.alloc (.cells #[.slice a n c] T_sl_string)).cell? ⟨w.heap.size, 0, none⟩ = some (.slice a n c) := by
    rw [cell_row (heap_alloc_new w _)]; rfl
  refine callK (sorted_ok w.heap.size (.slice a n c) l hl _ (by simp) hc0 (Sl.texts hs0)) ?_
  rintro _ w1 ⟨a1, n1, c1, rfl, ho1, hf1, hb1⟩
  have hB1 := below_step hB0 hb1 hB0.size
  refine ⟨a1, n1, c1, rfl, ?_⟩
  refine callK (compact_ok a1 n1 c1 _ (by simpa [srt] using hl) w1 ho1) ?_
  rintro _ w2 ⟨n2, rfl, ho2, hg2⟩
  have hB2 : Below w.heap.size w w2 := hB1.grown hg2 hB1.size (hf1.mono hB0.size)
  refine ⟨a1, n2, c1, rfl, ?_⟩
  have ho2 : Ow tS T_string w2 NoB a1 n2 c1 (setL l) := ho2
  intro k3 w3 hk3 hw3
  intro k4 w4 hk4 hw4
  have hB3 : Below w2.heap.size w2 w3 := hw3 ▸ below_alloc _ _
  have hB4 : Below w3.heap.size w3 w4 := hw4 ▸ below_alloc _ _
  have hs3 : w3.heap.size = w2.heap.size + 1 := by rw [hw3]; simp
  have hs4 : w4.heap.size = w3.heap.size + 1 := by rw [hw4]; simp
  have hBB : Below w2.heap.size w2 w4 := below_step hB3 hB4 hB3.size
  have hm3 : MapAt w3 k3 [] := MapAt.new hk3 hw3
  have hm4 : MapAt w4 k3 [] := hm3.below hB4
  have hh4 : w4.heap[k4]? = some (.cells #[.slice a1 n2 c1, .map (some k3)] T_symbol_Alphabet (0, 0)) := by
    rw [hw4, hk4]; exact heap_alloc_new w3 _
  have ho4 := ho2.below hBB
  have hn := ho4.len
  have hlen := setL_len l
  have hlt1 := ho2.lt
  refine ⟨rfl, rfl, a1, n2, c1, ?_, ?_⟩
  · exact loadVar_one un_sl_string rfl (by rw [cell_row hh4]; rfl)
  refine ⟨fun m i w' => ∃ n : Nat, n ≤ (setL l).length ∧ i = (n : Int) ∧ m = (setL l).length - n ∧ MapAt w' k3 (idxs ((setL l).take n)) ∧ w4.grownBy w' (some k3),
    ⟨_, 0, by omega, rfl, rfl, by simpa [idxs] using hm4, ⟨rfl, rfl, rfl, Nat.le_refl _, fun _ _ _ => rfl⟩⟩, ?_⟩
  intro m i
  refine AllJ.of ?_ _
  rintro w' ⟨j, hj, rfl, rfl, hm, hg⟩
  have hk34 : k4 ≠ k3 := by omega
  have hh' : w'.heap[k4]? = some (.cells #[.slice a1 n2 c1, .map (some k3)] T_symbol_Alphabet (0, 0)) := by
    rw [hg.block k4 (by omega) (fun e => hk34 (Option.some.inj e))]; exact hh4
  have ho' : Ow tS T_string w' NoB a1 n2 c1 (setL l) := ho4.keep (grown_keep hg fun b hb e => by
    rcases hb with hb | hb
    · exact hb
    · have := hlt1 b hb.symm
      simp at e; omega)
  refine BCase.of (fun h => ?_) (fun h => ?_) <;> simp at h
  · have hsl := ho'.all
    have hj' : j < (setL l).length := by omega
    refine ⟨⟨⟨by omega, by omega⟩, hsl.isSome hj'⟩, ?_⟩
    obtain ⟨v, hv, hrep⟩ := hsl.load1 (i := (j : Int)) un_string rfl rfl (by simpa using hj')
    obtain ⟨rfl, -⟩ := str_rep hrep
    simp only [Int.toNat_natCast] at hv
    refine ⟨_, hv, rfl, rfl, some k3, ?_, ?_⟩
    · exact loadVar_one un_map_string_int rfl (by rw [cell_row hh']; rfl)
    have hno : lookK (setL l)[j] (idxs ((setL l).take j)) = none := lookK_idxs_none fun hmem => by
      obtain ⟨i, hi, e⟩ := List.getElem_of_mem hmem
      rw [List.length_take] at hi
      rw [List.getElem_take] at e
      have := List.pairwise_iff_getElem.1 (setL_lt l) i j (by omega) hj' (by omega)
      rw [e] at this
      exact List.lt_irrefl _ this
    obtain ⟨w5, hr, hm5, hg5⟩ := mapUpdate_new (P := Try.prog) un_map_string_int un_string hm hno (j : Int)
    refine ⟨w5, hr, _, ?_, j + 1, by omega, ?_, rfl, ?_, ?_⟩
    · omega
    · rw [wrap_i64 (by omega) (by omega)]; omega
    · rw [take_snoc hj', idxs_snoc, List.length_take, Nat.min_eq_left (by omega)]; exact hm5
    · exact ⟨hg5.os.trans hg.os, hg5.tape.trans hg.tape, hg5.output.trans hg.output, Nat.le_trans hg.size hg5.size, fun k hk hne => (hg5.block k (Nat.lt_of_lt_of_le hk hg.size) hne).trans (hg.block k hk hne)⟩
  · have : j = (setL l).length := by omega
    subst this
    rw [List.take_length] at hm
    refine ⟨_, rfl, ⟨k4, a1, n2, c1, k3, _, _, rfl, hh', rfl, ho'.all, hm, setL_lt l⟩, ?_⟩
    refine (below_step hB2 hBB hB2.size).grown hg (by have := hB2.size; omega) fun k e => ?_
    cases e
    rw [hk3]; exact hB2.size
end Go.Proofs.Ytdamklkdjknnpaa
