/- The walks of package hold, the last: answers. -/
import Derived.Test.YtdffinnnjcgfcaaGreatHd5
namespace Go.Proofs.YtdffinnnjcgfcaaGreatK
open Go Go.RowKit
set_option linter.unusedVariables false
set_option maxHeartbeats 1000000
set_option maxRecDepth 100000
theorem Row.cut {w w1 : World} {e : TypeId} {bn off k m cap : Nat} {cs' : Array Value} {xs : List Value} (hl : xs.length = k + m) (hcap : m ≤ cap) (hmax : cap ≤ maxLen) (hb : Blk w1 bn cs' e) (hs : off + cap ≤ cs'.size)
    (hx : ∀ j u, (xs.drop k)[j]? = some u → cs'[off + j]? = some u) : Row w1 e 1 (.slice (some ⟨bn, off, none⟩) m cap) m (xs.drop k) :=
  ⟨by rw [List.length_drop]; omega, .inr ⟨bn, off, cap, cs', rfl, hcap, hmax, hb, by omega, hx⟩⟩
theorem Delete_c {w : World} {v : Value} {xs : List Oct} (h : MsgV w v xs) (k : Nat) (hk : k ≤ xs.length) (hl : xs.length ≤ 1000) :
    Calls Tryz.prog 198 #[v, .int .i64 0, .int .i64 k] w fun e w' => ∃ v', e = .returned v' ∧ MsgV w' v' (xs.drop k) ∧ Chg (own v) w w' ∧ ∀ g ∈ own v', g ∈ own v := by
  by_cases h0 : k = 0
  · subst h0
    obtain ⟨a1, c1, rfl, hcs⟩ := h.shape
    have HH := Lib.hid h
    clear h
    go_enter Tryz.func198, Tryz.ntmps198
    go_wp2
    go_ret
    exact ⟨_, rfl, HH.out, Chg.refl _ _, fun g hg => hg⟩
  · obtain ⟨vs, hr, hm⟩ := h
    have hlen := hr.1
    rcases id hr.2 with ⟨rfl, hn⟩ | ⟨bn, off, cap, cs, rfl, h1, h2, h3, h4, h5⟩
    · omega
    have one : ∀ u ∈ vs, u.oneCell' = true := by
      intro u hu
      obtain ⟨j, hj, rfl⟩ := List.getElem_of_mem hu
      obtain ⟨u', h6, h7⟩ := hm j (xs[j]'(by omega)) (List.getElem?_eq_getElem (by omega))
      rw [List.getElem?_eq_getElem hj] at h6
      simp only [Option.some.injEq] at h6
      obtain ⟨a, c, h8, _⟩ := h7.1.shape
      rw [h6, h8]
      rfl
    obtain ⟨m, hm'⟩ : ∃ m, xs.length = k + m := ⟨xs.length - k, by omega⟩
    have D := Delete_n (w := w) (bn := bn) (off := off) (k := k) (m := m) (cap := cap) (xs := vs) h3 (by omega) h2 (by omega) (by omega) (by omega) h5 one
    rw [← hm'] at D
    refine D.mono ?_
    rintro e w' ⟨rfl, cs', B, S, X, G⟩
    have off' : Off w 5 [bn] := fun g hg => ⟨_, _, (by simpa using hg : g = bn) ▸ h3, by decide⟩
    refine ⟨_, rfl, ⟨vs.drop k, ?_, fun j x hx => ?_⟩, by simpa [own, Value.ownBlock] using G, by simp [own, Value.ownBlock]⟩
    · have := Row.cut (w := w) (m := m) (hl := by omega) (by omega) h2 B (by omega) X
      simpa [hm'] using this
    · rw [List.getElem?_drop] at hx ⊢
      obtain ⟨u, h6, h7⟩ := hm _ x hx
      exact ⟨u, h6, h7.stay off' G⟩
theorem HoAt.mk23 {w : World} {b : Nat} {h : Ho} {vs vn v' : Value} {f : Int} {sent : List Oct} (hb : Blk w b #[.int .i64 h.most, .int .i64 h.oc, vs, .int .u8 h.first, vn] 134) (hs : MsgV w v' sent) (hv : MsgV w vn h.next) (ha : ∀ g ∈ own v', g ∉ own vn) :
    HoAt ((w.setCell ⟨b, 2, none⟩ v').setCell ⟨b, 3, none⟩ (.int .u8 f)) b ⟨h.most, h.oc, sent, f, h.next⟩ v' vn := by
  have hc : Chg [b] w ((w.setCell ⟨b, 2, none⟩ v').setCell ⟨b, 3, none⟩ (.int .u8 f)) := ((Chg.refl _ _).set (by simp) _).set (by simp) _
  have ho : Off w 5 [b] := fun g hg => ⟨_, _, (by simpa using hg : g = b) ▸ hb, by decide⟩
  have hne : ∀ {v : Value} {l : List Oct}, MsgV w v l → ∀ g ∈ own v, g ∉ [b] := by
    intro v l hv g hg
    simp only [List.mem_singleton]
    rintro rfl
    obtain ⟨cs, h1⟩ := hv.row.choose_spec.blk g hg
    exact hb.ne h1 (by decide) rfl
  exact ⟨((hb.set 2 v').set 3 _).as (by simp), hs.stay ho hc (hne hs), hv.stay ho hc (hne hv), ha⟩
theorem Free_c {w : World} {b : Nat} {h : Ho} {vs vn : Value} (hh : HoAt w b h vs vn) (ho : h.ok) (n : Int) (h0 : 0 ≤ n) (h1 : n ≤ 255) :
    Calls Tryz.prog 191 #[.pointer (some ⟨b, 0, none⟩), .int .u8 n] w fun e w' => e = .returned (.tuple #[.int .i64 (h.free n).2.1, .int .i64 (h.free n).2.2]) ∧
      ∃ vs', HoAt w' b (h.free n).1 vs' vn ∧ Chg (hoF b vs vn) w w' ∧ ∀ g ∈ own vs', g ∈ own vs := by
  have HH := Lib.hid hh
  have HO := Lib.hid ho
  have D := Lib.hid (HKnows_c hh ho n h0 h1)
  have l2 := ho.first
  have l1 := ho.sent
  clear hh ho
  cases hk : h.knows n
  · have e : h.free n = (h, 0, 10) := by simp [Ho.free, hk]
    rw [hk] at D
    have E := Lib.hid e
    clear e
    go_enter Tryz.func191, Tryz.ntmps191
    go_wp2_with (first | ((with_reducible refine D.out.mono ?_); rintro e w1 ⟨rfl, hb1⟩))
    go_ret2
    rw [E.out]
    exact ⟨rfl, _, HH.out.below hb1, .of_below hb1 _, fun g hg => hg⟩
  · have e : h.free n = (⟨h.most, h.oc, h.sent.drop (h.gap n).toNat, (n + 1) % 128, h.next⟩, h.gap n, 0) := by simp [Ho.free, hk]
    have hg := Ho.gap_le HO.out hk
    obtain ⟨k, hgk⟩ : ∃ k : Nat, h.gap n = k := ⟨(h.gap n).toNat, by omega⟩
    have hkl : k ≤ h.sent.length := by omega
    rw [hgk] at e
    simp only [Int.toNat_natCast] at e
    rw [hk] at D
    have E := Lib.hid e
    have C1 := Lib.hid fun w' => show Calls Tryz.prog 130 #[.int .u8 h.first] w' (fun e w1 => e = .returned (.int .u8 h.prev) ∧ w' = w1) from Prev_c h.first w' (by omega) (by omega)
    have C2 := Lib.hid fun w' => show Calls Tryz.prog 129 #[.int .u8 h.prev, .int .u8 n] w' (fun e w1 => e = .returned (.int .i64 k) ∧ w' = w1) from hgk ▸ Gap_c h.prev n w' (by simp only [Ho.prev]; omega) (by simp only [Ho.prev]; omega) h0 h1
    have C3 := Lib.hid fun w' => Next_c n w' h0 h1
    clear e hg hgk
    go_enter Tryz.func191, Tryz.ntmps191
    go_wp2_with (first
      | ((with_reducible refine D.out.mono ?_); rintro e w1 ⟨rfl, hb1⟩; (have H1 := Lib.hid (HH.out.below hb1)); (have hc1 := H1.out.blk.c); (have hf1 := H1.out.blk.f))
      | ((with_reducible refine (C1.out _).mono ?_); rintro e w2 ⟨rfl, rfl⟩)
      | ((with_reducible refine (C2.out _).mono ?_); rintro e w2 ⟨rfl, rfl⟩)
      | ((with_reducible refine (C3.out _).mono ?_); rintro e w2 ⟨rfl, rfl⟩)
      | ((with_reducible refine (Delete_c H1.out.sent k hkl (by omega)).mono ?_); rintro e w3 ⟨v3, rfl, M3, G3, own3⟩; (obtain ⟨a3, c3, rfl, hc3⟩ := M3.shape); (have HM3 := Lib.hid M3); clear M3; (have hc3' := (H1.out.blk.chg G3 H1.out.sne).c); (have hf3' := (H1.out.blk.chg G3 H1.out.sne).f)))
    go_ret2
    rw [E.out]
    have e3 : (h.sent.drop k).length = h.sent.length - k := List.length_drop
    have M3 := HM3.out
    have o3 := own3
    rw [e3] at M3 o3
    have off1 : Off w1 5 (own vs) := fun g hg => H1.out.off g (by simp [hg])
    refine ⟨rfl, _, HoAt.mk23 (H1.out.blk.chg G3 H1.out.sne) M3 (H1.out.next.stay off1 G3 (fun g hg hg' => H1.out.apart g hg' hg)) (fun g hg hg' => H1.out.apart g (o3 g hg) hg'), ?_, o3⟩
    exact (((Chg.of_below hb1 _).trans (G3.more (G := hoF b vs vn) (fun g hg => List.mem_cons_of_mem _ (List.mem_append_left _ hg))) (fun g hg => .inl hg)).set (.inl (by simp)) _).set (.inl (by simp)) _
end Go.Proofs.YtdffinnnjcgfcaaGreatK
