/- The walks of package state: tell, Told, Fail, begin, halt, wait, resume, local. -/
import Derived.Test.YtcllbmjmefeknaaGreatWyy
namespace Go.Proofs.YtcllbmjmefeknaaGreatK
open Go Go.RowKit
set_option linter.unusedVariables false
set_option maxHeartbeats 1000000
set_option maxRecDepth 100000
abbrev To.v (t : To) (vp : Value) : Value := .agg #[.int .u8 t.kind, .int .u8 t.why, vp]
theorem mem_stF {b : Nat} {L : Lay} {k : Nat} (h : k ∈ [b] ++ Go.Proofs.YtcllbmjmefeknaaGreatK.own L.vt) : k ∈ stF b L := by
  simp only [List.mem_append] at h ⊢
  rcases h with h | h
  · exact .inl h
  · exact .inr (.inr (.inr (.inr (.inr h))))
theorem tell_end {w W w6 : World} {b : Nat} {x : St} {L : Lay} {ps : List (To × Value)} {t : To} {vp v6 : Value} (h : StAt w b x L) (B : Below w.heap.size w W) (ep : ps.map (·.1) = x.told) (qp : ∀ p ∈ ps, BytV w p.2 p.1.p) (hp : BytV w vp t.p)
    (R6 : Row w6 94 3 v6 (x.told.length + 1) (toCells ps ++ [.int .u8 t.kind, .int .u8 t.why, vp])) (G6 : Chg (Go.Proofs.YtcllbmjmefeknaaGreatK.own L.vt) W w6) (O6 : ∀ k ∈ Go.Proofs.YtcllbmjmefeknaaGreatK.own v6, k ∈ Go.Proofs.YtcllbmjmefeknaaGreatK.own L.vt ∨ W.heap.size ≤ k) :
    StTo w (w6.setCell ⟨b, 23, none⟩ v6) b (x.tell t) L := by
  have hW := h.below B
  have T1 := hW.tl.typed
  have b6 := hW.st.keep (T1.off (by decide)) G6
  have T : Typed W ([b] ++ Go.Proofs.YtcllbmjmefeknaaGreatK.own L.vt) ([62] ++ [94]) := (Typed.one hW.st).app T1
  have G : Chg ([b] ++ Go.Proofs.YtcllbmjmefeknaaGreatK.own L.vt) W (w6.setCell ⟨b, 23, none⟩ v6) := (G6.more (fun k hk => List.mem_append_right _ hk)).set (.inl (by simp)) _
  have K : Tolds (w6.setCell ⟨b, 23, none⟩ v6) v6 (x.told ++ [t]) := by
    refine ⟨ps ++ [(t, vp)], by simp [ep], ?_, ?_⟩
    · have := R6.chg (chg1 w6 b 23 v6) (fun k hk hb => by
        obtain ⟨cs, h1⟩ := R6.blk k hk
        obtain rfl : k = b := by simpa using hb
        exact b6.ne h1 (by decide) rfl)
      simpa [toCells_append, toCells] using this
    · intro q hq
      rcases List.mem_append.1 hq with hq | hq
      · exact ((qp q hq).below B).stay (T.off (by decide)) G
      · obtain rfl : q = (t, vp) := by simpa using hq
        exact (hp.below B).stay (T.off (by decide)) G
  refine ⟨{ L with vt := v6 }, StAt.say (S := x.S) (fails := x.fails) (o := x.o) (leak := x.leak) hW ((b6.set 23 v6).as (by simp)) K G T, (Chg.of_below B _).trans (G.more (fun k hk => mem_stF hk)) (fun k hk => .inl hk), fun k hk => ?_⟩
  simp only [stF, List.mem_append] at hk ⊢
  rcases hk with hk | hk | hk | hk | hk | hk
  · exact .inl (.inl hk)
  · exact .inl (.inr (.inl hk))
  · exact .inl (.inr (.inr (.inl hk)))
  · exact .inl (.inr (.inr (.inr (.inl hk))))
  · exact .inl (.inr (.inr (.inr (.inr (.inl hk)))))
  · rcases O6 k hk with h | h
    · exact .inl (.inr (.inr (.inr (.inr (.inr h)))))
    · exact .inr (Nat.le_trans B.size h)
theorem Tell_c {w : World} {b : Nat} {x : St} {L : Lay} (h : StAt w b x L) (t : To) (vp : Value) (hp : BytV w vp t.p) (hl : x.told.length ≤ 2000000) :
    Calls Tryz.prog 162 #[.pointer (some ⟨b, 0, none⟩), t.v vp] w fun e w' => e = .returned (.tuple #[]) ∧ StTo w w' b (x.tell t) L := by
  obtain ⟨ap, cp, rfl, _⟩ := hp.1.shape
  obtain ⟨kind, why, p⟩ := t
  obtain ⟨s, S, c, a, j, o, wy, oa, leak, told, fails⟩ := x
  obtain ⟨bc, ba, bj, bw, bh, vs, vn, vt⟩ := L
  obtain ⟨at_, ct, e0, _⟩ := h.tl.shape
  dsimp only at e0 hl hp
  subst e0
  obtain ⟨ps, ep, rp, qp⟩ := h.tl
  have H := Lib.hid h
  have RP := Lib.hid rp
  have QP := Lib.hid qp
  have HP := Lib.hid hp
  have EP := Lib.hid ep
  have hc := h.st.c
  clear h rp qp hp ep
  go_enter Tryz.func162, Tryz.ntmps162
  go_wp2
  have HB5 := Lib.hid (bl_drew (bl_alloc (bl_alloc (bl_refl w) (.cells #[.int .u8 kind, .int .u8 why, .slice ap p.length cp] 94)) (.cells #[.int .u8 kind, .int .u8 why, .slice ap p.length cp] 94)))
  have N5 := Lib.hid (Blk.drew (Blk.newAt (w := w.alloc (.cells #[.int .u8 kind, .int .u8 why, .slice ap p.length cp] 94)) (n := w.heap.size + 1) (by simp) #[.int .u8 kind, .int .u8 why, .slice ap p.length cp] 94))
  have h1c := (H.out.below (bl_drew (bl_alloc (bl_refl w) (.cells #[.int .u8 kind, .int .u8 why, .slice ap p.length cp] 94)))).st.c
  have n1c := (Blk.drew (Blk.new w #[.int .u8 kind, .int .u8 why, .slice ap p.length cp] 94)).c
  have h5c := (H.out.below HB5.out).st.c
  have h5f := (H.out.below HB5.out).st.f
  clear hc
  go_region_law (first
      | (refine step_row_append _ rfl (.tmp 8) (.tmp 10) 60 rfl 94 Tryz.t94 (.agg #[.int .u8 0, .int .u8 0, .slice none 0 0]) 3 32 Tryz.underlying60 rfl rfl rfl rfl rfl (by decide) (.slice at_ told.length ct) told.length (toCells ps) rfl (RP.out.below HB5.out) ⟨w.heap.size + 1, 0, none⟩ 1 1 [.int .u8 kind, .int .u8 why, .slice ap p.length cp] rfl rfl (fun j u hu => by rw [Addr.add_lit, N5.out.c, Nat.zero_add]; simpa using hu) (by simp [Value.oneCell']) (by decide) (by simp [maxLen]; omega) (by omega) ?_; intro v6 w6 R6 G6 O6; (obtain ⟨a6, c6, rfl, hcap6⟩ := R6.shape); (have HR6 := Lib.hid R6); clear R6; (have h6c := ((H.out.below HB5.out).st.keep ((H.out.below HB5.out).tl.typed.off (by decide)) G6).c); (have h6f := ((H.out.below HB5.out).st.keep ((H.out.below HB5.out).tl.typed.off (by decide)) G6).f)))
  all_goals
    go_end0
    exact ⟨rfl, tell_end H.out HB5.out EP.out QP.out HP.out HR6.out G6 O6⟩
theorem Told_c {w : World} {b : Nat} {x : St} {L : Lay} (h : StAt w b x L) :
    Calls Tryz.prog 104 #[.pointer (some ⟨b, 0, none⟩)] w fun e w' => e = .returned L.vt ∧ StAt w' b { x with told := [] } { L with vt := nil0 } ∧ Tolds w' L.vt x.told ∧ Chg [b] w w' := by
  obtain ⟨s, S, c, a, j, o, wy, oa, leak, told, fails⟩ := x
  obtain ⟨bc, ba, bj, bw, bh, vs, vn, vt⟩ := L
  obtain ⟨at_, ct, e0, _⟩ := h.tl.shape
  dsimp only at e0
  subst e0
  have H := Lib.hid h
  have hc := h.st.c
  have hf := h.st.f
  clear h
  go_enter Tryz.func104, Tryz.ntmps104
  go_wp2
  go_ret
  exact ⟨rfl, StAt.say (S := S) (fails := fails) (o := oa) (leak := leak) H.out ((H.out.st.set 23 nil0).as (by simp)) Tolds.nil (chg1 w b 23 nil0) ((Typed.one H.out.st).more (by simp)),
    H.out.tl.keep ((Typed.one H.out.st).off (by decide)) ((Typed.one H.out.st).off (by decide)) (chg1 w b 23 nil0), chg1 w b 23 nil0⟩
end Go.Proofs.YtcllbmjmefeknaaGreatK
