/- The walks of package hold, continued: messages are let go of. -/
import Derived.Test.YtdffinnnjcgfcaaGreatHd4
import Derived.Laws.IdiomCopy
namespace Go.Proofs.YtdffinnnjcgfcaaGreatK
open Go Go.RowKit
set_option linter.unusedVariables false
set_option maxHeartbeats 1000000
set_option maxRecDepth 100000
/-- Cells are written over in a block that is known whole. -/
theorem put_cells {w : World} {b o : Nat} {cs : Array Value} {t : TypeId} {vs : List Value} (hb : Blk w b cs t) (hs : o + vs.length ≤ cs.size) :
    ∃ cs', Blk (w.setCells b o vs) b cs' t ∧ cs'.size = cs.size ∧ (∀ j u, vs[j]? = some u → cs'[o + j]? = some u) ∧ (∀ j, j < o ∨ o + vs.length ≤ j → cs'[j]? = cs[j]?) ∧ Chg [b] w (w.setCells b o vs) := by
  obtain ⟨cs', h1, h2⟩ := setCells_blk vs o w cs hb
  refine ⟨cs', h1, h2, fun j u hu => ?_, fun j hj => ?_, setCells_chg _ _ _ _ (Chg.refl _ _)⟩
  · obtain ⟨hj, rfl⟩ := List.getElem?_eq_some_iff.1 hu
    have := World.cell?_setCells_in b vs o w (fun j hj => by rw [hb.c, Array.getElem?_eq_getElem (by omega)]; rfl) j hj
    rw [h1.c] at this
    exact this
  · have := World.cell?_setCells_out b vs o w ⟨b, j, none⟩ (fun _ _ => hj)
    rw [h1.c, hb.c] at this
    exact this
theorem run_clear (w : World) (m cap k : Nat) {bn off : Nat} {cs : Array Value} (hk : 0 < k) (hb : Blk w bn cs 27) (hs : off + m + k ≤ cs.size) :
    (Builtin.clear_ #[81] 0 #[.slice (some ⟨bn, off + m, none⟩) k (cap - m)]).run Tryz.prog w = .ok (.tuple #[]) (w.setCells bn (off + m) (List.replicate k (.slice none 0 0))) :=
  Lib.run_clear_slice w _ 27 _ _ Tryz.underlying81 (fun w => rfl) rfl rfl bn (off + m) k _ hk (fun j hj => by rw [hb.c, Array.getElem?_eq_getElem (by omega)]; rfl) (fun j _ => hb.f _)
theorem Delete_n {w : World} {bn off k m cap : Nat} {cs : Array Value} {xs : List Value} (hb : Blk w bn cs 27) (hcap : k + m ≤ cap) (hmax : cap ≤ maxLen) (hsz : off + cap ≤ cs.size) (hk : 0 < k)
    (hlen : xs.length = k + m) (hx : ∀ j u, xs[j]? = some u → cs[off + j]? = some u) (h1 : ∀ u ∈ xs, u.oneCell' = true) :
    Calls Tryz.prog 198 #[.slice (some ⟨bn, off, none⟩) (k + m) cap, .int .i64 0, .int .i64 k] w fun e w' => e = .returned (.slice (some ⟨bn, off, none⟩) m cap) ∧
      ∃ cs', Blk w' bn cs' 27 ∧ cs'.size = cs.size ∧ (∀ j u, (xs.drop k)[j]? = some u → cs'[off + j]? = some u) ∧ Chg [bn] w w' := by
  have HB := Lib.hid hb
  have HX := Lib.hid hx
  have H1 := Lib.hid h1
  have hk1 : (0 : Int) < k := by omega
  have hk2 : (k : Int) ≤ k + m := by omega
  clear hx h1 hb
  by_cases hm : m = 0
  · subst hm
    go_enter Tryz.func198, Tryz.ntmps198
    obtain ⟨ad, had⟩ : ∃ ad : Addr, (if cap = k then some (⟨bn, off, none⟩ : Addr) else some ⟨bn, off + k, none⟩) = some ad := by split <;> exact ⟨_, rfl⟩
    have hclr := run_clear (off := off) w.drew 0 cap k (by omega) HB.out.drew (by omega)
    simp only [Nat.add_zero, Nat.sub_zero] at hclr hlen
    go_wp2
    go_region_law (fail)
    go_wp2
    go_ret
    obtain ⟨cs6, B6, S6, V6, U6, G6⟩ := put_cells (o := off) (vs := List.replicate k (.slice none 0 0)) HB.out.drew (by simp; omega)
    refine ⟨rfl, cs6, B6, S6, ?_, (Chg.refl _ w).drew.trans G6 (by simp)⟩
    intro j u hu
    rw [List.drop_eq_nil_of_le (by omega)] at hu
    simp at hu
  · have hck : ¬ cap = k := by omega
    have hck' : ¬ cap = m := by omega
    go_enter Tryz.func198, Tryz.ntmps198
    go_wp2
    have hl : (xs.drop k).length = m * 1 := by rw [List.length_drop, hlen]; omega
    have hbel := (Blk.drew HB.out)
    go_region_law (refine step_append_room rfl (.tmp 22) (.tmp 25) 81 rfl 27 Tryz.t27 1 Tryz.underlying81 rfl rfl bn off 0 cap rfl ⟨bn, off + k, none⟩ m (cap - k) (xs.drop k) rfl hl (fun j u hu => by
      rw [Addr.add_lit, Blk.c hbel]
      rw [List.getElem?_drop] at hu
      rw [show off + k + j = off + (k + j) by omega]
      exact HX.out _ _ hu) (fun u hu => H1.out u (List.mem_of_mem_drop hu)) (by omega) (fun j hj => ⟨by rw [Blk.c hbel, Array.getElem?_eq_getElem (by omega)]; rfl, Blk.f hbel _⟩) ?_)
    obtain ⟨cs6, B6, S6, V6, U6, G6⟩ := put_cells (o := off + 0 * 1) (vs := xs.drop k) hbel (by omega)
    generalize (w.drew.setCells bn (off + 0 * 1) (xs.drop k)) = w6 at *
    have hclr := run_clear (off := off) w6 m cap k (by omega) B6 (by omega)
    go_wp2
    go_ret
    obtain ⟨cs7, B7, S7, V7, U7, G7⟩ := put_cells (o := off + m) (vs := List.replicate k (.slice none 0 0)) B6 (by simp; omega)
    refine ⟨rfl, cs7, B7, by omega, ?_, ((Chg.refl _ w).drew.trans G6 (by simp)).trans G7 (by simp)⟩
    intro j u hu
    have hj := (List.getElem?_eq_some_iff.1 hu).1
    rw [U7 _ (.inl (by omega))]
    have := V6 j u hu
    simpa using this
end Go.Proofs.YtdffinnnjcgfcaaGreatK
