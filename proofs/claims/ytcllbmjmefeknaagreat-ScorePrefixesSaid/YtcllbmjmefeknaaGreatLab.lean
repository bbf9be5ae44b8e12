/- The octets of a text that stands in the program: "abc". -/
import Derived.Test.YtcllbmjmefeknaaGreatLw0
import Derived.Lib.SlBytesConst
import Derived.Laws.BytesArg
namespace Go.Proofs.YtcllbmjmefeknaaGreatK
open Go Go.RowKit
set_option linter.unusedVariables false
abbrev abc : Obj := .cells #[.int .u8 97, .int .u8 98, .int .u8 99] 5 (3, 4)
theorem conv_abc (w : World) (g : Nat) (hg : g = w.heap.size) : (convert 25 25 (.slice (some ⟨g, 0, none⟩) 3 3)).run Tryz.prog (w.alloc (.cells #[.int .u8 97, .int .u8 98, .int .u8 99] 5)) = .ok (.slice (some ⟨g, 0, none⟩) 3 3) (w.alloc abc) := by
  subst hg
  exact Lib.run_convert_bytes_const w _ _ _ 3 3 Tryz.underlying25 Tryz.underlying5
theorem byt_abc {w w' : World} {g : Nat} (hg : g = w.heap.size) (hw : w' = w.alloc abc) : BytI w' [] (.slice (some ⟨g, 0, none⟩) 3 3) [97, 98, 99] := by
  subst hg hw
  refine ⟨.inr (.inr ⟨w.heap.size, 0, 3, rfl, by simp, by simp, by simp, fun j u hu => ?_⟩), fun v hv => ?_⟩
  · rw [cell_of_row (w.alloc abc) w.heap.size (0 + j) #[.int .u8 97, .int .u8 98, .int .u8 99] 5 (3, 4) (heap_alloc_new w _), Nat.zero_add]
    simpa using hu
  · simp only [List.mem_cons, List.not_mem_nil, or_false] at hv
    omega
theorem BytI.off {w : World} {F : List Nat} {v : Value} {xs : Oct} (h : BytI w [] v xs) (hF : ∀ g ∈ own v, g ∉ F) : BytI w F v xs := by
  refine ⟨?_, h.2⟩
  rcases h.1 with h1 | h1 | ⟨b, off, cap, e, h1, h2, h3, h4⟩
  · exact .inl h1
  · exact .inr (.inl h1)
  · exact .inr (.inr ⟨b, off, cap, e, h1, h2, hF b (by rw [e]; simp [own, Value.ownBlock]), h4⟩)
section
variable {w0 w : World} {b : Nat} {x : St} {n : Int}
/-- Octets in a block that is no link's. -/
def NoLk (w : World) (v : Value) : Prop := ∀ g ∈ own v, ∃ o, w.heap[g]? = some o ∧ ∀ cs t, o = .cells cs t (0, 0) → t ∉ linkTs
theorem Lk.hearN (h : Lk w0 w b x n) (hn : n ≤ 800000) {u : Un} {vi : Value} (hu : u.ok) (hv : BytI w [] vi u.info) (ho : NoLk w vi) :
    Calls Tryz.prog 123 #[.pointer (some ⟨b, 0, none⟩), u.v vi] w fun e w' => e = .returned (.tuple #[]) ∧ Lk w0 w' b (x.hear u) (n + 6) ∧ Kp w w' := by
  obtain ⟨L, S, F⟩ := h.v.lay
  have hI : BytI w (stF b L) vi u.info := hv.off fun g hg hF => by
    obtain ⟨o, h1, h2⟩ := ho g hg
    obtain ⟨cs, t, h3, h4⟩ := S.typed g hF
    exact h2 cs t (Option.some.inj (h1.symm.trans h3)) h4
  exact (Hear_c S h.k (h.f.le (by omega)) hu hI).mono fun e w' ⟨he, T⟩ => ⟨he, ⟨Lv.of h.v.bel F T, St.ok_hear h.k _, St.few_hear h.f _⟩, Kp.of S T⟩
theorem Lk.orderB (h : Lk w0 w b x n) (hn : n ≤ 800000) (k : Int) {vp : Value} {p : Oct} (hv : BytI w [] vp p) (hl : p.length ≤ 100000) :
    Calls Tryz.prog 105 #[.pointer (some ⟨b, 0, none⟩), .agg #[.int .u8 k, vp]] w fun e w' => e = .returned (.int .i64 (x.order k p).2) ∧ Lk w0 w' b (x.order k p).1 (n + 1) ∧ Kp w w' := by
  obtain ⟨L, S, F⟩ := h.v.lay
  exact (Order_c S h.k (h.f.le (by omega)) k hv hl).mono fun e w' ⟨he, T⟩ => ⟨he, ⟨Lv.of h.v.bel F T, St.ok_order h.k _ _, St.few_order h.f _ _⟩, Kp.of S T⟩
/-- Octets in a block that is no link's stay as a link does something. -/
theorem Kp.bytI {w w' : World} (K : Kp w w') {v : Value} {xs : Oct} (hv : BytI w [] v xs) (ho : NoLk w v) : BytI w' [] v xs ∧ NoLk w' v := by
  refine ⟨⟨?_, hv.2⟩, fun g hg => ?_⟩
  · rcases hv.1 with h1 | h1 | ⟨b, off, cap, e, h1, h2, h3, h4⟩
    · exact .inl h1
    · exact .inr (.inl h1)
    · obtain ⟨o, o1, o2⟩ := ho b (by rw [e]; simp [own, Value.ownBlock])
      have o3 := K.obj o1 o2
      refine .inr (.inr ⟨b, off, cap, e, h1, Nat.lt_of_lt_of_le h2 K.size, by simp, fun j u hu => ?_⟩)
      rw [← h4 j u hu]
      simp only [World.cell?, o1, o3]
  · obtain ⟨o, o1, o2⟩ := ho g hg
    exact ⟨o, K.obj o1 o2, o2⟩
end
theorem run_fieldU5 (u : Un) (vi : Value) (w : World) : (Instr.field 188 (u.v vi) 5).run Tryz.prog w = .ok (.int .u8 u.status) w := by kernel_rfl
theorem run_fieldU4 (u : Un) (vi : Value) (w : World) : (Instr.field 188 (u.v vi) 4).run Tryz.prog w = .ok (.int .u8 u.kind) w := by kernel_rfl
theorem conv_back {w : World} {v : Value} {xs : Oct} (h : BytV w v xs) : (convert 25 9 v).run Tryz.prog w = .ok (.string (strOfNums xs)) w := by
  rcases h.1.2 with ⟨rfl, hn⟩ | ⟨b, off, cap, cs, rfl, h1, h2, h3, h4, h5⟩
  · obtain rfl := List.eq_nil_of_length_eq_zero hn
    exact run_convert_bytes_nil w _ _ Tryz.underlying25 Tryz.underlying5 0 0 _ Tryz.underlying9
  · exact run_convert_bytes_arg w _ _ Tryz.underlying25 Tryz.underlying5 b off _ cap xs rfl (fun i hi => by
      rw [h3.c]
      refine h5 i _ ?_
      simp [List.getD_eq_getElem?_getD, hi]) _ Tryz.underlying9
end Go.Proofs.YtcllbmjmefeknaaGreatK
