/- Contracts of slices.Sorted over slices.Values, slices.Compact, symbol.New. Its conditions: none. -/
import Derived.Test.YtdamklkdjknnpaaV1
import Derived.Test.YtdamklkdjknnpaaSort
import Derived.Test.YtdamklkdjknnpaaIter
import Derived.Test.YtdamklkdjknnpaaM
import Derived.Test.YtdamklkdjknnpaaShelf
import Derived.Test.YtdamklkdjknnpaaShelfSort
set_option linter.unusedVariables false
set_option linter.unusedSimpArgs false
set_option maxRecDepth 20000
namespace Go.Proofs.Ytdamklkdjknnpaa
open Go.Pk
open Go.RowKit (Below)

theorem Sl.texts {w : World} {a : Option Addr} {n c : Nat} {zs : List (List UInt8)} (h : Sl tS w AllB a n c zs) : Texts w.heap.size w (.slice a n c) zs := by
  obtain ⟨rfl, h2, h3, h4⟩ := h
  rcases h4 with rfl | ⟨b, off, rfl, hb, _, l, hl, hc⟩
  · exact .inl ⟨rfl, a, c, rfl⟩
  · refine .inr ⟨b, off, c, rfl, hb, fun j hj => ?_⟩
    have he := RepL_enc_eq hl
    rw [hc j (by rw [he]; simpa using hj), he]
    simp [hj]

theorem appendSeq_ok (Bs : Nat) (sv : Value) (zs : List (List UInt8)) (hl : zs.length ≤ 1000000) (w : World) (hBs : Bs < w.heap.size) (hc : w.cell? ⟨Bs, 0, none⟩ = some sv) (hI : Texts w.heap.size w sv zs) :
    Calls Try.prog f_slices_AppendSeq_string_string #[.slice none 0 0, .func (.func f_slices_Values_string_string_c1) #[] #[.pointer (some ⟨Bs, 0, none⟩)]] w
      (Ret fun v w' => ∃ a n c, v = .slice a n c ∧ Ow tS T_string w' NoB a n c zs ∧ Fresh w.heap.size a ∧ Below w.heap.size w w') := by
  refine (callsIn_wide (n := 3)).1 ?_
  have := appendSeq_in Fence.wide 3 trivial trivial rfl (by omega) Bs sv zs (by unfold maxLen; omega) (by omega) w hBs hc hI
  refine this.mono ?_
  rintro e W' ⟨v, rfl, hrow, hb⟩
  obtain ⟨a, c, rfl, ho, hf⟩ := own_of_row (e := fun s => Value.string (mkS s)) (h1 := fun _ => rfl) (p := fun _ => True) NoB hrow rfl (fun _ _ => trivial)
  exact ⟨_, rfl, a, _, c, rfl, ho, hf, hb⟩

theorem collect_ok (Bs : Nat) (sv : Value) (zs : List (List UInt8)) (hl : zs.length ≤ 1000000) (w : World) (hBs : Bs < w.heap.size) (hc : w.cell? ⟨Bs, 0, none⟩ = some sv) (hI : Texts w.heap.size w sv zs) :
    Calls Try.prog f_slices_Collect_string #[.func (.func f_slices_Values_string_string_c1) #[] #[.pointer (some ⟨Bs, 0, none⟩)]] w
      (Ret fun v w' => ∃ a n c, v = .slice a n c ∧ Ow tS T_string w' NoB a n c zs ∧ Fresh w.heap.size a ∧ Below w.heap.size w w') := by
  apply run_slices_Collect_string
  unfold vc_slices_Collect_string
  refine callK (appendSeq_ok Bs sv zs hl w hBs hc hI) ?_
  rintro _ w1 ⟨a, n, c, rfl, ho, hf, hb⟩
  exact ⟨a, n, c, rfl, a, n, c, rfl, ho, hf, hb⟩

abbrev srt (zs : List (List UInt8)) : List (List UInt8) := zs.mergeSort fun x y => decide (x ≤ y)

theorem sort_ok (a : Option Addr) (n c : Nat) (zs : List (List UInt8)) (hl : zs.length ≤ 1000000) (w : World) (ho : Ow tS T_string w NoB a n c zs) :
    Calls Try.prog f_slices_Sort_string_string #[.slice a n c] w (Ret fun v w' => v = .tuple #[] ∧ Ow tS T_string w' NoB a n c (srt zs) ∧ w.grownBy w' (ownB a)) := by
  have hn := ho.len
  subst hn
  rcases ho.2.2.2 with ⟨rfl, rfl, rfl⟩ | ⟨g, cur, fr, rfl, _⟩
  · refine (Try.slices_Sort_string_none none 0 w).mono ?_
    rintro _ _ ⟨rfl, rfl⟩
    exact ⟨_, rfl, rfl, by simpa [srt] using ho, ⟨rfl, rfl, rfl, Nat.le_refl _, fun _ _ _ => rfl⟩⟩
  · have hh := ho.holds
    refine (Try.slices_Sort_string g 0 c zs w hh.1 hh.2 (by omega)).mono ?_
    rintro _ _ ⟨rfl, q, os, rfl⟩
    have := ho.put (ys := srt zs) (by simp) (fun _ _ => trivial) q os
    exact ⟨_, rfl, rfl, this.1, this.2⟩

theorem sorted_ok (Bs : Nat) (sv : Value) (zs : List (List UInt8)) (hl : zs.length ≤ 1000000) (w : World) (hBs : Bs < w.heap.size) (hc : w.cell? ⟨Bs, 0, none⟩ = some sv) (hI : Texts w.heap.size w sv zs) :
    Calls Try.prog f_slices_Sorted_string #[.func (.func f_slices_Values_string_string_c1) #[] #[.pointer (some ⟨Bs, 0, none⟩)]] w
      (Ret fun v w' => ∃ a n c, v = .slice a n c ∧ Ow tS T_string w' NoB a n c (srt zs) ∧ Fresh w.heap.size a ∧ Below w.heap.size w w') := by
  apply run_slices_Sorted_string
  unfold vc_slices_Sorted_string
  refine callK (collect_ok Bs sv zs hl w hBs hc hI) ?_
  rintro _ w1 ⟨a, n, c, rfl, ho, hf, hb⟩
  refine ⟨a, n, c, rfl, ?_⟩
  refine callK (sort_ok a n c zs hl w1 ho) ?_
  rintro _ w2 ⟨rfl, ho2, hg⟩
  exact ⟨rfl, a, n, c, rfl, ho2, hf, hb.grown hg hb.size hf⟩

theorem values_ok (a : Option Addr) (n c : Nat) (w : World) : Calls Try.prog f_slices_Values_string_string #[.slice a n c] w
    (Ret fun v w' => v = .func (.func f_slices_Values_string_string_c1) #[] #[.pointer (some ⟨w.heap.size, 0, none⟩)] ∧ w' = w.alloc (.cells #[.slice a n c] T_sl_string)) := by
  apply run_slices_Values_string_string
  unfold vc_slices_Values_string_string
  rintro _ _ rfl rfl
  exact ⟨rfl, rfl⟩

theorem compact_ok (a : Option Addr) (n c : Nat) (zs : List (List UInt8)) (hl : zs.length ≤ 1000000) (w : World) (ho : Ow tS T_string w NoB a n c zs) :
    Calls Try.prog f_slices_Compact_string_string #[.slice a n c] w (Ret fun v w' => ∃ n', v = .slice a n' c ∧ Ow tS T_string w' NoB a n' c (Lib.compact zs) ∧ w.grownBy w' (ownB a)) := by
  have hn := ho.len
  subst hn
  rcases ho.2.2.2 with ⟨rfl, rfl, rfl⟩ | ⟨g, cur, fr, rfl, _⟩
  · refine (Try.slices_Compact_string_empty none 0 w).mono ?_
    rintro _ _ ⟨rfl, rfl⟩
    exact ⟨_, rfl, _, rfl, ho, ⟨rfl, rfl, rfl, Nat.le_refl _, fun _ _ _ => rfl⟩⟩
  · have hh := ho.holds
    refine (Try.slices_Compact_string g 0 c zs w hh.1 (by omega) ho.2.1).mono ?_
    rintro _ _ ⟨rfl, q, rfl⟩
    have hle := Lib.compact_length_le zs
    have := ho.put0 (ys := Lib.compact zs ++ List.replicate (zs.length - (Lib.compact zs).length) []) (by simp; omega) (fun _ _ => trivial) q
    exact ⟨_, rfl, _, rfl, this.1.trunc rfl, this.2⟩
end Go.Proofs.Ytdamklkdjknnpaa
