/- The walks of package hold, continued: a message is sent. -/
import Derived.Test.YtdffinnnjcgfcaaGreatHd3
namespace Go.Proofs.YtdffinnnjcgfcaaGreatK
open Go Go.RowKit
set_option linter.unusedVariables false
set_option maxHeartbeats 1000000
set_option maxRecDepth 100000
theorem Row.tail {w : World} {e : TypeId} {b off n cap : Nat} {x : Value} {xs : List Value} (h : Row w e 1 (.slice (some ⟨b, off, none⟩) (n + 1) cap) (n + 1) (x :: xs)) : Row w e 1 (.slice (some ⟨b, off + 1, none⟩) n (cap - 1)) n xs := by
  refine ⟨by have := h.1; simp at this ⊢; exact this, ?_⟩
  rcases h.2 with ⟨h1, _⟩ | ⟨b', off', cap', cs, he, h1, h2, h3, h4, h5⟩
  · cases h1
  · simp only [Value.slice.injEq, Option.some.injEq, Addr.mk.injEq, true_and] at he
    obtain ⟨⟨rfl, rfl, _⟩, rfl⟩ := he
    refine .inr ⟨b, off + 1, cap - 1, cs, rfl, by omega, by omega, h3, by omega, fun j u hu => ?_⟩
    rw [show off + 1 + j = off + (j + 1) by omega]
    exact h5 (j + 1) u (by simpa using hu)
theorem Row.tail' {w : World} {e : TypeId} {b off n cap : Nat} {x : Value} {xs : List Value} (h : Row w e 1 (.slice (some ⟨b, off, none⟩) (n + 1) cap) (n + 1) (x :: xs)) :
    ∃ off', (if cap = 1 then some (⟨b, off, none⟩ : Addr) else some ⟨b, off + 1, none⟩) = some ⟨b, off', none⟩ ∧ Row w e 1 (.slice (some ⟨b, off', none⟩) n (cap - 1)) n xs := by
  by_cases hc : cap = 1
  · subst hc
    refine ⟨off, by simp, ?_⟩
    have h1 := h.tail
    refine ⟨h1.1, ?_⟩
    rcases h.2 with ⟨h2, _⟩ | ⟨b', off', cap', cs, he, h2, h3, h4, h5, h6⟩
    · cases h2
    · simp only [Value.slice.injEq, Option.some.injEq, Addr.mk.injEq, true_and] at he
      obtain ⟨⟨rfl, rfl, _⟩, rfl⟩ := he
      have hn : n = 0 := by omega
      subst hn
      have : xs = [] := List.eq_nil_of_length_eq_zero (by simpa using h1.1)
      subst this
      exact .inr ⟨b, off, 0, cs, rfl, Nat.le_refl _, by decide, h4, by omega, by simp⟩
  · exact ⟨off + 1, by simp [hc], h.tail⟩
theorem send_end {w w5 w6 : World} {b : Nat} {most oc first : Int} {sent r : List Oct} {p : Oct} {vs vn v6 v7 vp : Value} {vss us : List Value} (hh : HoAt w b ⟨most, oc, sent, first, p :: r⟩ vs vn)
    (B5 : Below w.heap.size w w5) (hp : BytV w vp p) (RS : Row w 27 1 vs sent.length vss)
    (MS : ∀ (j : Nat) (x : List Int), sent[j]? = some x → ∃ u, vss[j]? = some u ∧ Byt w 5 u x)
    (RT : Row w 27 1 v7 r.length us) (MN : ∀ (j : Nat) (x : List Int), (p :: r)[j]? = some x → ∃ u, (vp :: us)[j]? = some u ∧ Byt w 5 u x) (h7 : own v7 = own vn)
    (R6 : Row w6 27 1 v6 (sent.length + 1) (vss ++ [vp])) (G6 : Chg (own vs) w5 w6) (O6 : ∀ b ∈ own v6, b ∈ own vs ∨ w5.heap.size ≤ b) :
    HoAt ((w6.setCell ⟨b, 2, none⟩ v6).setCell ⟨b, 4, none⟩ v7) b ⟨most, oc, sent ++ [p], first, r⟩ v6 v7 ∧ Chg (hoF b vs vn) w ((w6.setCell ⟨b, 2, none⟩ v6).setCell ⟨b, 4, none⟩ v7) ∧ ∀ g ∈ own v6 ++ own v7, g ∈ own vs ++ own vn ∨ w.heap.size ≤ g := by
  have off5 : Off w5 5 (own vs) := fun g hg => hh.off.below B5 g (by simp [hg])
  have sent6 : MsgV w6 v6 (sent ++ [p]) := Msgs.snoc (fun j x hx => by
    obtain ⟨u, h1, h2⟩ := MS j x hx
    exact ⟨u, h1, h2.below B5⟩) (by simpa using RS.1) off5 G6 R6 ((hp.below B5).stay off5 G6)
  have next0 : MsgV w v7 r := ⟨us, RT, fun j x hx => by
    obtain ⟨u, h1, h2⟩ := MN (j + 1) x (by simpa using hx)
    exact ⟨u, by simpa using h1, h2⟩⟩
  have next6 := (next0.below B5).stay off5 G6 (fun g hg hg' => hh.apart g hg' (h7 ▸ hg))
  have blk6 := (hh.blk.below B5).chg G6 hh.sne
  have hc : Chg [b] w6 ((w6.setCell ⟨b, 2, none⟩ v6).setCell ⟨b, 4, none⟩ v7) := ((Chg.refl _ _).set (by simp) _).set (by simp) _
  have ho : Off w6 5 [b] := fun g hg => ⟨_, _, (by simpa using hg : g = b) ▸ blk6, by decide⟩
  have hne : ∀ {v : Value} {l : List Oct}, MsgV w6 v l → ∀ g ∈ own v, g ∉ [b] := by
    intro v l hv g hg
    simp only [List.mem_singleton]
    rintro rfl
    obtain ⟨cs, h1⟩ := hv.row.choose_spec.blk g hg
    exact blk6.ne h1 (by decide) rfl
  refine ⟨⟨((blk6.set 2 v6).set 4 v7).as (by simp), sent6.stay ho hc (hne sent6), next6.stay ho hc (hne next6), ?_⟩, ?_, ?_⟩
  · intro g hg hg'
    rw [h7] at hg'
    rcases O6 g hg with h | h
    · exact hh.apart g h hg'
    · have := hh.next.row.choose_spec.lt g hg'
      have := B5.size
      omega
  · exact ((((Chg.of_below B5 _).trans (G6.more (G := hoF b vs vn) (fun g hg => List.mem_cons_of_mem _ (List.mem_append_left _ hg))) (fun g hg => .inl hg)).set (.inl (by simp)) _).set (.inl (by simp)) _)
  · intro g hg
    rcases List.mem_append.1 hg with hg | hg
    · rcases O6 g hg with h | h
      · exact .inl (List.mem_append_left _ h)
      · have := B5.size
        exact .inr (by omega)
    · exact .inl (List.mem_append_right _ (h7 ▸ hg))
theorem Send_c {w : World} {b : Nat} {h : Ho} {vs vn : Value} (hh : HoAt w b h vs vn) (ho : h.ok) :
    Calls Tryz.prog 194 #[.pointer (some ⟨b, 0, none⟩)] w fun e w' => ∃ v, e = .returned (.tuple #[.int .u8 h.send.2.1, v, .int .i64 h.send.2.2.2]) ∧ BytV w' v h.send.2.2.1 ∧ (∀ g ∈ own v, w.heap.size ≤ g) ∧
      ∃ vs' vn', HoAt w' b h.send.1 vs' vn' ∧ Chg (hoF b vs vn) w w' ∧ ∀ g ∈ own vs' ++ own vn', g ∈ own vs ++ own vn ∨ w.heap.size ≤ g := by
  obtain ⟨most, oc, sent, first, next⟩ := h
  obtain ⟨a1, c1, rfl, hcs⟩ := hh.sent.shape
  obtain ⟨an, cn, rfl, hcn⟩ := hh.next.shape
  have HH := Lib.hid hh
  have HO := Lib.hid ho
  have l1 := ho.sent
  have l2 := ho.all
  dsimp only at l1 l2
  have hc := hh.blk.c
  cases next with
  | nil =>
    clear hh ho
    go_enter Tryz.func194, Tryz.ntmps194
    go_wp2
    go_ret3
    exact ⟨_, rfl, ⟨Row.nil _ _ _, by simp [Ho.send]⟩, by simp [own, Value.ownBlock], _, _, HH.out, Chg.refl _ _, fun g hg => .inl hg⟩
  | cons p r =>
    by_cases hw : 127 ≤ sent.length
    · clear hh ho
      simp only [List.length_cons] at *
      go_enter Tryz.func194, Tryz.ntmps194
      go_wp2
      go_ret3
      have e : (⟨most, oc, sent, first, p :: r⟩ : Ho).send = (⟨most, oc, sent, first, p :: r⟩, 0, [], 3) := by simp [Ho.send, hw]
      rw [e]
      exact ⟨_, rfl, ⟨Row.nil _ _ _, by simp⟩, by simp [own, Value.ownBlock], _, _, HH.out, Chg.refl _ _, fun g hg => .inl hg⟩
    · obtain ⟨vss, Rs, Ms⟩ := hh.sent
      obtain ⟨vns, Rn, Mn⟩ := hh.next
      cases vns with
      | nil => have := Rn.1; simp at this
      | cons u us =>
        obtain ⟨u', hu, hB⟩ := Mn 0 p rfl
        have : u = u' := by simpa using hu
        subst this
        rcases id Rn.2 with ⟨hv, _⟩ | ⟨bn, off, cap, cs, he, h3, h4, h5, h6, h7⟩
        · simp at hv
        simp only [Value.slice.injEq] at he
        obtain ⟨rfl, _, rfl⟩ := he
        obtain ⟨au, cu, rfl, hcu⟩ := hB.1.shape
        have hcell : w.cell? ⟨bn, off, none⟩ = some (.slice au p.length cu) := by rw [h5.c]; exact h7 0 _ rfl
        have RS := Lib.hid Rs
        have RN := Lib.hid Rn
        have MS := Lib.hid Ms
        have MN := Lib.hid Mn
        have PB := Lib.hid hB
        clear hh ho Rs Rn Ms Mn hB h7 h5 hu
        simp only [List.length_cons] at *
        have HB := Lib.hid (bl_drew (bl_alloc (bl_refl w) (.cells #[.slice au p.length cu] 27)))
        obtain ⟨off', hoff', Rt⟩ := RN.out.tail'
        have RT := Lib.hid Rt
        clear Rt
        have hr1 : (1 : Int) ≤ (r.length : Int) + 1 := by omega
        have hc1 := HH.out.blk.drew.c
        have hc2 := (HH.out.blk.below HB.out).c
        go_enter Tryz.func194, Tryz.ntmps194
        go_wp2
        go_region_law (first
          | (refine step_row_append _ rfl (.tmp 35) (.tmp 37) 81 rfl 27 Tryz.t27 (.slice none 0 0) 1 24 Tryz.underlying81 rfl rfl rfl rfl rfl (by decide) (.slice a1 sent.length c1) sent.length vss rfl (RS.out.below HB.out) ⟨w.heap.size, 0, none⟩ 1 1 [.slice au p.length cu] rfl rfl (fun j u hu => by
              rw [Addr.add_lit, Blk.c (Blk.drew (Blk.new w #[.slice au p.length cu] 27)), Nat.zero_add]; simpa using hu) (by simp [Value.oneCell']) (by decide) (by simp [maxLen]; omega) (by omega) ?_; intro v6 w6 R6 G6 O6; obtain ⟨a6, c6, rfl, hcap6⟩ := R6.shape; have HR6 := Lib.hid R6; clear R6; have hc6 := ((HH.out.blk.below HB.out).chg G6 HH.out.sne).c; have hf6 := ((HH.out.blk.below HB.out).chg G6 HH.out.sne).f))
        all_goals
          obtain ⟨HN, GN, ON⟩ := send_end HH.out HB.out PB.out RS.out MS.out RT.out MN.out rfl HR6.out G6 O6
          generalize ((w6.setCell ⟨b, 2, none⟩ (.slice a6 (sent.length + 1) c6)).setCell ⟨b, 4, none⟩ (.slice (some ⟨bn, off', none⟩) r.length (cn - 1))) = w7 at *
          clear hc6 hf6 hc hc1 hc2 hcell
          have es : (⟨most, oc, sent, first, p :: r⟩ : Ho).send = (⟨most, oc, sent ++ [p], first, r⟩, (⟨most, oc, sent ++ [p], first, r⟩ : Ho).last, p, 0) := by simp only [Ho.send]; rw [if_neg hw]
          have ok7 : (⟨most, oc, sent ++ [p], first, r⟩ : Ho).ok := by have := Ho.ok_send HO.out; rw [es] at this; exact this
          have lp := ok7.lons p (by simp)
          have HN7 := Lib.hid HN
          have D := Lib.hid (HLast_c HN ok7)
          have OK := Lib.hid ok7
          have HES := Lib.hid es
          have PN := Lib.hid (show BytV w7 (.slice au p.length cu) p from PB.out.stay HH.out.off GN)
          have HG := Lib.hid GN
          have HON := Lib.hid ON
          clear es ok7 HN GN ON G6 O6
          go_wp2_with (first
            | ((with_reducible refine D.out.mono ?_); rintro e w8 ⟨rfl, hb8⟩)
            | ((with_reducible refine (Clone_c (PN.out.below hb8).i0 (by omega)).mono ?_); rintro e w9 ⟨v9, rfl, B9, hb9, own9⟩))
          go_ret3
          rw [HES.out]
          refine ⟨_, rfl, B9, ?_, _, _, (HN7.out.below hb8).below hb9, (HG.out.below hb8).below hb9, HON.out⟩
          intro g hg
          have := own9 g hg
          have := hb8.size
          have := HG.out.size
          omega
end Go.Proofs.YtdffinnnjcgfcaaGreatK
