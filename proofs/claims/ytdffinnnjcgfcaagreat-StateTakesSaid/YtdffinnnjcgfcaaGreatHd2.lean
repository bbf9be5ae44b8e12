/- The walks of package hold, continued: what makes memory. -/
import Derived.Test.YtdffinnnjcgfcaaGreatHld
import Derived.Lib.SliceRun
import Derived.Deep.RegionLaw
namespace Go.Proofs.YtdffinnnjcgfcaaGreatK
open Go Go.RowKit
set_option linter.unusedVariables false
set_option maxHeartbeats 1000000
set_option maxRecDepth 100000
theorem Clone_c {w : World} {F : List Nat} {v : Value} {xs : Oct} (h : BytI w F v xs) (hl : xs.length ≤ 1000) :
    Calls Tryz.prog 109 #[v] w fun e w' => ∃ v', e = .returned v' ∧ BytV w' v' xs ∧ Below w.heap.size w w' ∧ ∀ b ∈ own v', w.heap.size ≤ b := by
  obtain ⟨hr, hx⟩ := h
  have q : ∀ (w : World) (a : Option Addr) (n c n' c' : Nat), (binOp .eql 27 (.slice a n c) (.slice none n' c')).run Tryz.prog w = .ok (.bool a.isNone) w := fun w a n c n' c' => Lib.run_eql_slice_nil w _ _ a n c n' c' Tryz.underlying27
  rcases hr with ⟨rfl, hn⟩ | ⟨a, cap, rfl, hn⟩ | ⟨b, off, cap, rfl, h1, h2, h3, h5⟩
  · subst hn
    go_enter Tryz.func109, Tryz.ntmps109
    go_wp2
    go_ret
    exact ⟨_, rfl, ⟨Row.nil _ _ _, by simp⟩, bl_refl w, by simp [own, Value.ownBlock]⟩
  · subst hn
    clear hx
    go_enter Tryz.func109, Tryz.ntmps109
    go_wp2
    go_ret
    exact ⟨_, rfl, ⟨⟨rfl, .inr ⟨_, _, _, _, rfl, Nat.le_refl _, by decide, Blk.new _ _ _, by simp, by simp⟩⟩, by simp⟩, (bl_alloc (bl_refl w) _), by simp [own, Value.ownBlock]⟩
  · cases xs with
    | nil =>
      clear hx h5 h3
      go_enter Tryz.func109, Tryz.ntmps109
      go_wp2
      go_ret
      exact ⟨_, rfl, ⟨⟨rfl, .inr ⟨_, _, _, _, rfl, Nat.le_refl _, by decide, Blk.new _ _ _, by simp, by simp⟩⟩, by simp⟩, (bl_alloc (bl_refl w) _), by simp [own, Value.ownBlock]⟩
    | cons x r =>
      have H5 := Lib.hid h5
      have HX := Lib.hid hx
      clear hx h5 h3
      go_enter Tryz.func109, Tryz.ntmps109
      have HR := Lib.hid (show Row (w.alloc (.cells #[] 5)) 5 1 (.slice (some ⟨w.heap.size, 0, none⟩) 0 0) 0 [] from ⟨rfl, .inr ⟨_, _, _, _, rfl, Nat.le_refl _, by decide, Blk.new _ _ _, by simp, by simp⟩⟩)
      have HN := Lib.hid (show ∀ j u, ((x :: r).map (Value.int .u8))[j]? = some u → (w.alloc (.cells #[] 5)).cell? ((⟨b, off, none⟩ : Addr).add j) = some u from fun j u hu => by
        have hq := H5.out j u hu
        rw [Addr.add_lit, (bl_alloc (bl_refl w) _).cell (World.block_lt_of_cell? w _ hq)]; exact hq)
      go_wp2_with (first
        | ((refine wpList_row_append _ rfl (.tmp 5) (.tmp 6) 27 rfl 5 Tryz.t5 (.int .u8 0) 1 1 Tryz.underlying27 rfl rfl rfl rfl rfl (by decide) (.slice (some ⟨w.heap.size, 0, none⟩) 0 0) 0 [] rfl HR.out ⟨b, off, none⟩ _ _ ((x :: r).map (Value.int .u8)) rfl (by simp) HN.out (by simp [Value.oneCell']) (by simp) (by simp [maxLen] at *; omega) (by simp at *; omega) ?_); intro v' w' R G O))
      go_ret
      refine ⟨v', rfl, ⟨by simpa using R, HX.out⟩, (bl_alloc (bl_refl w) _).trans (G.to_below (by simp) (by simp [own, Value.ownBlock])), ?_⟩
      intro g hg
      rcases O g hg with h | h
      · simp [own, Value.ownBlock] at h; omega
      · simp at h; omega
theorem HoAt.mk4 {w : World} {b : Nat} {h : Ho} {vs vx v' : Value} {next : List Oct} (hb : Blk w b #[.int .i64 h.most, .int .i64 h.oc, vs, .int .u8 h.first, vx] 134) (hs : MsgV w vs h.sent) (hv : MsgV w v' next) (ha : ∀ g ∈ own vs, g ∉ own v') :
    HoAt (w.setCell ⟨b, 4, none⟩ v') b { h with next := next } vs v' := by
  have hc : Chg [b] w (w.setCell ⟨b, 4, none⟩ v') := (Chg.refl _ _).set (by simp) _
  have ho : Off w 5 [b] := fun g hg => ⟨_, _, (by simpa using hg : g = b) ▸ hb, by decide⟩
  have hne : ∀ {v : Value} {l : List Oct}, MsgV w v l → ∀ g ∈ own v, g ∉ [b] := by
    intro v l hv g hg
    simp only [List.mem_singleton]
    rintro rfl
    obtain ⟨cs, h1⟩ := hv.row.choose_spec.blk g hg
    exact hb.ne h1 (by decide) rfl
  exact ⟨(hb.set 4 v').as (by simp), hs.stay ho hc (hne hs), hv.stay ho hc (hne hv), ha⟩
/-- A message is put behind others. -/
theorem Msgs.snoc {w w1 : World} {u8 by_ : TypeId} {v' u : Value} {xs : List Oct} {p : Oct} {F : List Nat} {vs : List Value} (hv : ∀ (j : Nat) (x : List Int), xs[j]? = some x → ∃ u, vs[j]? = some u ∧ Byt w u8 u x) (hl : vs.length = xs.length)
    (hF : Off w u8 F) (hc : Chg F w w1) (hr : Row w1 by_ 1 v' (xs.length + 1) (vs ++ [u])) (hp : Byt w1 u8 u p) : Msgs w1 u8 by_ v' (xs ++ [p]) := by
  refine ⟨vs ++ [u], by simpa using hr, fun j x hx => ?_⟩
  by_cases hj : j < xs.length
  · rw [List.getElem?_append_left hj] at hx
    obtain ⟨u', h1, h2⟩ := hv j x hx
    exact ⟨u', by rw [List.getElem?_append_left (by omega)]; exact h1, h2.stay hF hc⟩
  · rw [List.getElem?_append_right (by omega)] at hx
    have : j = xs.length := by
      have := (List.getElem?_eq_some_iff.1 hx).1
      simp at this; omega
    subst this
    simp at hx
    subst hx
    exact ⟨u, by rw [← hl]; simp, hp⟩
theorem put_end {w w4 w6 : World} {b : Nat} {h : Ho} {vs vn v4 v6 : Value} {p : Oct} {vsn : List Value} (hh : HoAt w b h vs vn)
    (B5 : Below w.heap.size w (w4.alloc (.cells #[v4] 27))) (hp : BytV w4 v4 p) (RN : Row w 27 1 vn h.next.length vsn)
    (MN : ∀ (j : Nat) (x : List Int), h.next[j]? = some x → ∃ u, vsn[j]? = some u ∧ Byt w 5 u x)
    (R6 : Row w6 27 1 v6 (h.next.length + 1) (vsn ++ [v4])) (G6 : Chg (own vn) (w4.alloc (.cells #[v4] 27)) w6)
    (O6 : ∀ b ∈ own v6, b ∈ own vn ∨ (w4.alloc (.cells #[v4] 27)).heap.size ≤ b) :
    HoAt (w6.setCell ⟨b, 4, none⟩ v6) b { h with next := h.next ++ [p] } vs v6 ∧ Chg (hoF b vs vn) w (w6.setCell ⟨b, 4, none⟩ v6) ∧ ∀ g ∈ own v6, g ∈ own vn ∨ w.heap.size ≤ g := by
  have off5 : Off (w4.alloc (.cells #[v4] 27)) 5 (own vn) := fun g hg => hh.off.below B5 g (by simp [hg])
  have sent6 := ((hh.sent.below B5).stay off5 G6 (fun g hg => hh.apart g hg))
  have next6 : MsgV w6 v6 (h.next ++ [p]) := Msgs.snoc (fun j x hx => by
    obtain ⟨u, h1, h2⟩ := MN j x hx
    exact ⟨u, h1, h2.below B5⟩) (by simpa using RN.1) off5 G6 R6 ((hp.below ((bl_refl _).alloc (Nat.le_refl _) _)).stay off5 G6)
  have blk6 := (hh.blk.below B5).chg G6 hh.nne
  refine ⟨HoAt.mk4 blk6 sent6 next6 ?_, ?_, ?_⟩
  · intro g hg hg'
    rcases O6 g hg' with h | h
    · exact hh.apart g hg h
    · have := hh.sent.row.choose_spec.lt g hg
      have := B5.size
      omega
  · exact ((Chg.of_below B5 _).trans (G6.more (G := hoF b vs vn) (fun g hg => List.mem_cons_of_mem _ (List.mem_append_right _ hg))) (fun g hg => .inl hg)).set (.inl (by simp)) _
  · intro g hg
    rcases O6 g hg with h | h
    · exact .inl h
    · have := B5.size
      exact .inr (by omega)
theorem Put_c {w : World} {b : Nat} {F : List Nat} {h : Ho} {vs vn vp : Value} {p : Oct} (hh : HoAt w b h vs vn) (ho : h.ok) (hp : BytI w F vp p) (hlp : p.length ≤ 100000) :
    Calls Tryz.prog 71 #[.pointer (some ⟨b, 0, none⟩), vp] w fun e w' => e = .returned (.int .i64 (h.put p).2) ∧ ∃ vn', HoAt w' b (h.put p).1 vs vn' ∧ Chg (hoF b vs vn) w w' ∧ ∀ g ∈ own vn', g ∈ own vn ∨ w.heap.size ≤ g := by
  obtain ⟨ap, cp, rfl, hcp⟩ := hp.shape
  obtain ⟨a1, c1, rfl, hcs⟩ := hh.sent.shape
  obtain ⟨an, cn, rfl, hcn⟩ := hh.next.shape
  have HH := Lib.hid hh
  have HO := Lib.hid ho
  have HP := Lib.hid hp
  have l1 := ho.all
  have l2 := ho.octs
  have l3 : h.octets = (octs h.sent : Int) + octs h.next := rfl
  have hc := hh.blk.c
  have hblk := hh.blk
  have D := Lib.hid fun g : Up w => HOctets_c (HH.out.below g.ok) HO.out
  clear hh ho hp
  have same : ∀ e : Int, h.put p = (h, e) → ∀ w', Below w.heap.size w w' → (Ending.returned (.int .i64 e) = Ending.returned (.int .i64 (h.put p).2) ∧ ∃ vn', HoAt w' b (h.put p).1 (.slice a1 h.sent.length c1) vn' ∧ Chg (hoF b (.slice a1 h.sent.length c1) (.slice an h.next.length cn)) w w' ∧ ∀ g ∈ own vn', g ∈ own (.slice an h.next.length cn) ∨ w.heap.size ≤ g) := by
    intro e he w' hb
    rw [he]
    exact ⟨rfl, _, HH.out.below hb, .of_below hb _, fun g hg => .inl hg⟩
  have SAME := Lib.hid same
  clear same
  by_cases h1 : p.length < 3
  · go_enter Tryz.func71, Tryz.ntmps71
    go_wp2
    go_ret
    exact SAME.out 5 (by simp [Ho.put, h1]) _ (bl_refl _)
  by_cases h2 : 273 < p.length
  · go_enter Tryz.func71, Tryz.ntmps71
    go_wp2
    go_ret
    exact SAME.out 6 (by simp [Ho.put, h1, h2]) _ (bl_refl _)
  by_cases h3 : h.most ≤ (h.sent.length + h.next.length : Int)
  · go_enter Tryz.func71, Tryz.ntmps71
    go_wp2
    refine wp_region_up (by kernel_rfl) (by kernel_rfl) ?_
    have up_hblk := fun (g : Up _) => (Blk.below hblk g.ok).c
    repeat (go_big_quiet_step (with_reducible exact Up.calls _ (D.out _)))
    refine wpQuiet_nil ?_
    clear up_hblk
    refine up_elim (fun w2 hb_w2 => ?_)
    go_wp2
    go_ret
    exact SAME.out 3 (by simp [Ho.put, h1, h2, h3]) _ hb_w2
  by_cases h4 : h.oc < h.octets + p.length
  · go_enter Tryz.func71, Tryz.ntmps71
    go_wp2
    have h3' : ¬ h.most ≤ (h.sent.length + h.next.length : Int) := by omega
    refine wp_region_up (by kernel_rfl) (by kernel_rfl) ?_
    have up_hblk := fun (g : Up _) => (Blk.below hblk g.ok).c
    repeat (go_big_quiet_step (with_reducible exact Up.calls _ (D.out _)))
    refine wpQuiet_nil ?_
    clear up_hblk
    refine up_elim (fun w2 hb_w2 => ?_)
    go_wp2
    go_ret
    exact SAME.out 3 (by simp [Ho.put, h1, h2, h4]) _ hb_w2
  · go_enter Tryz.func71, Tryz.ntmps71
    go_wp2
    have h3' : ¬ h.most ≤ (h.sent.length + h.next.length : Int) := by omega
    refine wp_region_up (by kernel_rfl) (by kernel_rfl) ?_
    have up_hblk := fun (g : Up _) => (Blk.below hblk g.ok).c
    repeat (go_big_quiet_step (with_reducible exact Up.calls _ (D.out _)))
    refine wpQuiet_nil ?_
    clear up_hblk
    refine up_elim (fun w2 hb_w2 => ?_)
    go_wp2
    have HB := Lib.hid (bl_drew hb_w2)
    have HP3 := Lib.hid (HP.out.below HB.out)
    obtain ⟨vsn, Rn, Mn⟩ := HH.out.next
    have RN := Lib.hid Rn
    have MN := Lib.hid Mn
    clear Rn Mn hc
    have hc3 := (HH.out.blk.below HB.out).c
    go_region_law (first
      | (refine step_row_append _ rfl (.tmp 49) (.tmp 52) 81 rfl 27 Tryz.t27 (.slice none 0 0) 1 24 Tryz.underlying81 rfl rfl rfl rfl rfl (by decide) (.slice an h.next.length cn) h.next.length vsn rfl (RN.out.below HB5.out) ⟨w4.heap.size, 0, none⟩ 1 1 [.slice a4 p.length c4] rfl rfl (fun j u hu => by
          rw [Addr.add_lit, (Blk.new w4 _ _).c, Nat.zero_add]; simpa using hu) (by simp [Value.oneCell']) (by decide) (by simp [maxLen]; omega) (by omega) ?_; intro v6 w6 R6 G6 O6; obtain ⟨a6, c6, rfl, hcap6⟩ := R6.shape; have HR6 := Lib.hid R6; clear R6; have hc6 := ((HH.out.blk.below HB5.out).chg G6 HH.out.nne).c; have hf6 := ((HH.out.blk.below HB5.out).chg G6 HH.out.nne).f)
      | (go_simp; (with_reducible refine (Clone_c HP3.out (by omega)).mono ?_); rintro e w4 ⟨v4, rfl, B4, hb4, own4⟩; obtain ⟨a4, c4, rfl, hc4⟩ := B4.1.shape; have HB5 := Lib.hid (bl_alloc (bl_then HB.out hb4) (.cells #[.slice a4 p.length c4] 27)); have HB4 := Lib.hid B4; clear B4; have hc4' := (HH.out.blk.below (bl_then HB.out hb4)).c; have hc5' := (HH.out.blk.below HB5.out).c))
    all_goals
      go_wp2
      go_ret
      have e1 : h.put p = ({ h with next := h.next ++ [p] }, 0) := by
        unfold Ho.put
        rw [if_neg h1, if_neg h2, if_neg (by omega)]
      rw [e1]
      exact ⟨rfl, _, put_end HH.out HB5.out HB4.out RN.out MN.out HR6.out G6 O6⟩
end Go.Proofs.YtdffinnnjcgfcaaGreatK
