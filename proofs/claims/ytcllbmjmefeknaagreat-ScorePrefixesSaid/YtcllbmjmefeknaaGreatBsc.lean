/- The walks of package basic. The walks of package basic, continued: New, Reset, Take, Answer. The walks of package basic, the last: Answer. -/
import Derived.Test.YtcllbmjmefeknaaGreatHld
import Derived.Test.YtcllbmjmefeknaaGreatM
import Derived.Deep.DeepCutAuto
namespace Go.Proofs.YtcllbmjmefeknaaGreatK
/-! ### The walks of package basic. -/
section
open Go Go.RowKit
set_option linter.unusedVariables false
set_option maxHeartbeats 1000000
set_option maxRecDepth 100000
abbrev Un.v (u : Un) (vi : Value) : Value := .agg #[.int .u8 u.bsn, .int .u8 u.fsn, .bool u.bib, .bool u.fib, .int .u8 u.kind, .int .u8 u.status, .bool u.wide, vi]
abbrev nil0 : Value := .slice none 0 0
abbrev Un.zeros : Array Value := #[.int .u8 0, .int .u8 0, .bool false, .bool false, .int .u8 0, .int .u8 0, .bool false, .slice none 0 0]
abbrev Bs.cells (x : Bs) (bh : Nat) : Array Value := #[.pointer (some ⟨bh, 0, none⟩), .bool x.fib, .bool x.bib, .int .u8 x.last, .bool x.asked, .int .i64 x.again, .bool x.b0, .bool x.b1, .bool x.i0, .bool x.i1]
abbrev BsAt (w : World) (b bh : Nat) (x : Bs) : Prop := Blk w b (x.cells bh) 262
theorem Blk.all8 {w : World} {g : Nat} {t : TypeId} {c0 c1 c2 c3 c4 c5 c6 c7 : Value} (h : Blk w g #[c0, c1, c2, c3, c4, c5, c6, c7] t) (v0 v1 v2 v3 v4 v5 v6 v7 : Value) : Blk ((((((((w.setCell ⟨g, 0, none⟩ v0).setCell ⟨g, 1, none⟩ v1).setCell ⟨g, 2, none⟩ v2).setCell ⟨g, 3, none⟩ v3).setCell ⟨g, 4, none⟩ v4).setCell ⟨g, 5, none⟩ v5).setCell ⟨g, 6, none⟩ v6).setCell ⟨g, 7, none⟩ v7) g #[v0, v1, v2, v3, v4, v5, v6, v7] t :=
  (((((((((h.set 0 v0).set 1 v1).set 2 v2).set 3 v3).set 4 v4).set 5 v5).set 6 v6).set 7 v7)).as (by simp)
theorem bl_all8 {w0 w : World} {g : Nat} (h : Below w0.heap.size w0 w) (hg : w0.heap.size ≤ g) (v0 v1 v2 v3 v4 v5 v6 v7 : Value) : Below w0.heap.size w0 ((((((((w.setCell ⟨g, 0, none⟩ v0).setCell ⟨g, 1, none⟩ v1).setCell ⟨g, 2, none⟩ v2).setCell ⟨g, 3, none⟩ v3).setCell ⟨g, 4, none⟩ v4).setCell ⟨g, 5, none⟩ v5).setCell ⟨g, 6, none⟩ v6).setCell ⟨g, 7, none⟩ v7) := by
  repeat (refine bl_set ?_ hg _)
  exact h
theorem Chg.all8 (w : World) (g : Nat) (v0 v1 v2 v3 v4 v5 v6 v7 : Value) : Chg [g] w ((((((((w.setCell ⟨g, 0, none⟩ v0).setCell ⟨g, 1, none⟩ v1).setCell ⟨g, 2, none⟩ v2).setCell ⟨g, 3, none⟩ v3).setCell ⟨g, 4, none⟩ v4).setCell ⟨g, 5, none⟩ v5).setCell ⟨g, 6, none⟩ v6).setCell ⟨g, 7, none⟩ v7) := by
  repeat (refine Chg.set ?_ (by simp) _)
  exact Chg.refl _ _
theorem HoAt.notin {w : World} {b g : Nat} {h : Ho} {vs vn : Value} {cs : Array Value} {t : TypeId} (hh : HoAt w b h vs vn) (hg : Blk w g cs t) (h1 : t ≠ 200) (h2 : t ≠ 25) : g ∉ hoF b vs vn := by
  intro hm
  rcases List.mem_cons.1 hm with rfl | hm
  · exact hg.ne hh.blk h1 rfl
  rcases List.mem_append.1 hm with hm | hm
  · obtain ⟨cs', h3⟩ := hh.sent.row.choose_spec.blk g hm
    exact hg.ne h3 h2 rfl
  · obtain ⟨cs', h3⟩ := hh.next.row.choose_spec.blk g hm
    exact hg.ne h3 h2 rfl
theorem HoAt.lt {w : World} {b : Nat} {h : Ho} {vs vn : Value} (hh : HoAt w b h vs vn) : ∀ g ∈ hoF b vs vn, g < w.heap.size := by
  intro g hg
  obtain ⟨cs, t, h1, _⟩ := hh.off g hg
  exact h1.lt
theorem off1 {w : World} {g : Nat} {cs : Array Value} {t : TypeId} (hg : Blk w g cs t) (ht : t ≠ 5) : Off w 5 [g] := fun _ h => ⟨_, _, (by simpa using h : _ = g) ▸ hg, ht⟩
theorem HoAt.other {w w1 : World} {b g : Nat} {h : Ho} {vs vn : Value} {cs : Array Value} {t : TypeId} (hh : HoAt w b h vs vn) (hg : Blk w g cs t) (h0 : t ≠ 5) (h1 : t ≠ 200) (h2 : t ≠ 25) (hc : Chg [g] w w1) : HoAt w1 b h vs vn :=
  hh.stay (off1 hg h0) hc fun k hk he => by
    obtain rfl : k = g := by simpa using he
    exact hh.notin hg h1 h2 hk
theorem chg1 (w : World) (b i : Nat) (v : Value) : Chg [b] w (w.setCell ⟨b, i, none⟩ v) := (Chg.refl _ _).set (by simp) _
theorem Un.laid : Laid Tryz.prog 188 8 := ⟨⟨_, Tryz.underlying188, rfl⟩, by kernel_rfl⟩
theorem See_c {w : World} {b : Nat} {cs : Array Value} {t : TypeId} {off : Nat} {o0 o1 : Bool} (hb : Blk w b cs t) (h0 : cs[off]? = some (.bool o0)) (h1 : cs[off + 1]? = some (.bool o1)) (odd : Bool) :
    Calls Tryz.prog 236 #[.pointer (some ⟨b, off, none⟩), .bool odd] w fun e w' => e = .returned (.bool (odd && (o0 || o1))) ∧ Blk w' b ((cs.setIfInBounds off (.bool o1)).setIfInBounds (off + 1) (.bool odd)) t ∧ Chg [b] w w' := by
  have c0 : w.cell? ⟨b, off, none⟩ = some (.bool o0) := (hb.c _).trans h0
  have c1 : w.cell? ⟨b, off + 1, none⟩ = some (.bool o1) := (hb.c _).trans h1
  have f0 := hb.f
  have HB := Lib.hid hb
  clear hb h0 h1
  cases odd <;> cases o0 <;> cases o1 <;> (
    go_enter Tryz.func236, Tryz.ntmps236
    go_wp2
    go_region
    go_wp2
    go_ret
    exact ⟨rfl, ((HB.out.drew.set off _).set (off + 1) _), (((Chg.refl [b] w).drew.set (by simp) _).set (by simp) _)⟩)
theorem BHold_c {w : World} {b bh : Nat} {x : Bs} (hb : BsAt w b bh x) :
    Calls Tryz.prog 248 #[.pointer (some ⟨b, 0, none⟩)] w fun e w' => e = .returned (.pointer (some ⟨bh, 0, none⟩)) ∧ w = w' := by
  have hc := hb.c
  clear hb
  go_enter Tryz.func248, Tryz.ntmps248
  go_wp2
  go_ret
  exact ⟨rfl, rfl⟩
theorem BTaken_c {w : World} {b bh : Nat} {x : Bs} (hb : BsAt w b bh x) :
    Calls Tryz.prog 253 #[.pointer (some ⟨b, 0, none⟩)] w fun e w' => e = .returned (.int .u8 x.last) ∧ w = w' := by
  have hc := hb.c
  clear hb
  go_enter Tryz.func253, Tryz.ntmps253
  go_wp2
  go_ret
  exact ⟨rfl, rfl⟩
theorem BHead_c {w : World} {b bh : Nat} {x : Bs} (hb : BsAt w b bh x) (n : Int) :
    Calls Tryz.prog 254 #[.pointer (some ⟨b, 0, none⟩), .int .u8 n] w fun e w' => e = .returned ((x.head n).v nil0) ∧ Below w.heap.size w w' := by
  have hc := hb.c
  have HB := Lib.hid hb
  clear hb
  go_enter Tryz.func254, Tryz.ntmps254
  go_wp2
  have N1 := Blk.new w Un.zeros 188
  have H1 := HB.out.alloc (.cells Un.zeros 188)
  refine wp_region_up_tail 14 (by kernel_rfl) (by kernel_rfl) ?_
  simp only [List.take_succ_cons, List.take_zero, List.drop_succ_cons, List.drop_zero]
  have up_H1 := fun (g : Up _) => (Blk.below H1 g.ok).c
  repeat (go_big_quiet_step (fail))
  refine wpQuiet_nil ?_
  clear up_H1
  refine up_elim (fun w2 hb_w2 => ?_)
  have N2 := Lib.hid (N1.below hb_w2)
  have n2c := (N1.below hb_w2).c
  have n2f := (N1.below hb_w2).f
  clear N1 H1 hc
  go_wp2
  exact bodyPost_ret (res_c rfl Un.laid rfl (N2.out.all8 _ _ _ _ _ _ _ _) rfl) rfl ⟨rfl, bl_all8 (bl_then (bl_alloc (bl_refl w) _) hb_w2) (Nat.le_refl _) _ _ _ _ _ _ _ _⟩
theorem BMsg_c {w : World} {b bh : Nat} {x : Bs} (hb : BsAt w b bh x) (n : Int) (vp : Value) (p : Oct) (hp : BytV w vp p) :
    Calls Tryz.prog 255 #[.pointer (some ⟨b, 0, none⟩), .int .u8 n, vp] w fun e w' => e = .returned ((x.msg n p).v vp) ∧ Below w.heap.size w w' := by
  obtain ⟨ap, cp, rfl, _⟩ := hp.1.shape
  have H1 := Lib.hid (hb.alloc (.cells Un.zeros 188))
  have N1 := Lib.hid (Blk.new w Un.zeros 188)
  clear hb hp
  go_enter Tryz.func255, Tryz.ntmps255
  go_wp2_with (first | ((with_reducible refine (BHead_c H1.out n).mono ?_); rintro e w2 ⟨rfl, hb2⟩; (have n1c := (N1.out.below hb2).c); (have n1f := (N1.out.below hb2).f); (have n1 := Lib.hid (N1.out.below hb2)); (have lt2 : w.heap.size < w2.heap.size := N1.out.below hb2 |>.lt); (have ne2 : w.heap.size ≠ w2.heap.size := Nat.ne_of_lt lt2)))
  exact bodyPost_ret (res_c rfl Un.laid rfl ((n1.out.all8 _ _ _ _ _ _ _ _).alloc _) rfl) rfl ⟨rfl, bl_alloc (bl_all8 (bl_then (bl_alloc (bl_refl w) _) hb2) (Nat.le_refl _) _ _ _ _ _ _ _ _) _⟩
theorem BFill_c {w : World} {b bh : Nat} {x : Bs} {h : Ho} {vs vn : Value} (hb : BsAt w b bh x) (hh : HoAt w bh h vs vn) (ho : h.ok) :
    Calls Tryz.prog 247 #[.pointer (some ⟨b, 0, none⟩)] w fun e w' => e = .returned ((x.head h.last).v nil0) ∧ Below w.heap.size w w' := by
  have H1 := Lib.hid (hb.alloc (.cells Un.zeros 188))
  have h1c := (hb.alloc (.cells Un.zeros 188)).c
  have N1 := Lib.hid (Blk.new w Un.zeros 188)
  have HA := Lib.hid (hh.below (bl_alloc (bl_refl w) (.cells Un.zeros 188)))
  clear hb hh
  go_enter Tryz.func247, Tryz.ntmps247
  go_wp2_with (first
    | ((with_reducible refine (HLast_c HA.out ho).mono ?_); rintro e w2 ⟨rfl, hb2⟩)
    | ((with_reducible refine (BHead_c (H1.out.below hb2) h.last).mono ?_); rintro e w3 ⟨rfl, hb3⟩; (have n1c := ((N1.out.below hb2).below hb3).c); (have n1f := ((N1.out.below hb2).below hb3).f); (have n1 := Lib.hid ((N1.out.below hb2).below hb3))))
  exact bodyPost_ret (res_c rfl Un.laid rfl (n1.out.all8 _ _ _ _ _ _ _ _) rfl) rfl ⟨rfl, bl_all8 (bl_then (bl_then (bl_alloc (bl_refl w) _) hb2) hb3) (Nat.le_refl _) _ _ _ _ _ _ _ _⟩
/-- What the sending of a unit leaves: the hold, the method's block, the unit. -/
structure Sends (w w' : World) (b bh : Nat) (tb : TypeId) (cells : Array Value) (h : Ho) (vs vn : Value) (e : Ending) (u : Un) : Prop where
  ret : ∃ vi, e = .returned (u.v vi) ∧ BytV w' vi u.info ∧ ∀ g ∈ own vi, w.heap.size ≤ g
  hold : ∃ vs' vn', HoAt w' bh h vs' vn' ∧ ∀ g ∈ own vs' ++ own vn', g ∈ own vs ++ own vn ∨ w.heap.size ≤ g
  blk : Blk w' b cells tb
  chg : Chg (b :: hoF bh vs vn) w w'
theorem byt_nil {w : World} : BytV w nil0 [] := ⟨Row.nil _ _ _, by simp⟩
theorem sends_end {w w1 w2 w3 : World} {b bh g : Nat} {tb : TypeId} {cells cs : Array Value} {h' : Ho} {vs vn vs2 vn2 vi : Value} {u : Un} (B1 : Below w.heap.size w w1) (hg : w.heap.size ≤ g) (G2 : Chg (b :: hoF bh vs vn) w1 w2)
    (A2 : HoAt w2 bh h' vs2 vn2) (hb2 : Blk w2 b cells tb) (hp : BytV w2 vi u.info) (F2 : ∀ k ∈ own vi, w1.heap.size ≤ k) (O2 : ∀ k ∈ own vs2 ++ own vn2, k ∈ own vs ++ own vn ∨ w1.heap.size ≤ k) (hb3 : Below w2.heap.size w2 w3)
    (hn : Blk w3 g cs 188) (hbn : b ∉ hoF bh vs vn) (h1 : tb ≠ 188) (h2 : tb ≠ 5) (h3 : tb ≠ 200) (h4 : tb ≠ 25) (v0 v1 v2 v3 v4 v5 v6 v7 : Value) :
    Sends w (((((((((w3.setCell ⟨g, 0, none⟩ v0).setCell ⟨g, 1, none⟩ v1).setCell ⟨g, 2, none⟩ v2).setCell ⟨g, 3, none⟩ v3).setCell ⟨g, 4, none⟩ v4).setCell ⟨g, 5, none⟩ v5).setCell ⟨g, 6, none⟩ v6).setCell ⟨g, 7, none⟩ v7)) b bh tb cells h' vs vn (.returned (u.v vi)) u := by
  have hc := Chg.all8 w3 g v0 v1 v2 v3 v4 v5 v6 v7
  have s1 := B1.size
  refine ⟨⟨vi, rfl, (hp.below hb3).stay (off1 hn (by decide)) hc, fun k hk => ?_⟩, ⟨vs2, vn2, (A2.below hb3).other hn (by decide) (by decide) (by decide) hc, fun k hk => ?_⟩, (hb2.below hb3).chg hc ?_, ?_⟩
  · have := F2 k hk
    omega
  · rcases O2 k hk with h | h
    · exact .inl h
    · exact .inr (by omega)
  · simp only [List.mem_singleton]
    exact (hb2.below hb3).ne hn h1
  · exact (((Chg.of_below B1 _).trans G2 (fun k hk => .inl hk)).below hb3).trans hc (by simp; exact .inr hg)
theorem BNext_c {w : World} {b bh : Nat} {x : Bs} {h : Ho} {vs vn : Value} (hb : BsAt w b bh x) (hx : x.ok) (hh : HoAt w bh h vs vn) (ho : h.ok) :
    Calls Tryz.prog 249 #[.pointer (some ⟨b, 0, none⟩)] w fun e w' => Sends w w' b bh 262 ((Bs.next h x).2.1.cells bh) (Bs.next h x).1 vs vn e (Bs.next h x).2.2 := by
  have hbn := hh.notin hb (by decide) (by decide)
  have HB := Lib.hid (hb.alloc (.cells Un.zeros 188))
  have h1c := (hb.alloc (.cells Un.zeros 188)).c
  have h1f := (hb.alloc (.cells Un.zeros 188)).f
  have N1 := Lib.hid (Blk.new w Un.zeros 188)
  have HA := Lib.hid (hh.below (bl_alloc (bl_refl w) (.cells Un.zeros 188)))
  have HX := Lib.hid hx
  clear hb hh
  by_cases ha : 0 ≤ x.again
  · have hl := HX.out.again
    by_cases he : (h.at x.again).2.2 = 0
    · have e : Bs.next h x = (h, { x with again := if (h.sent.length : Int) ≤ x.again + 1 then -1 else x.again + 1 }, x.msg (h.at x.again).1 (h.at x.again).2.1) := by simp [Bs.next, ha, he]
      rw [e]
      go_enter Tryz.func249, Tryz.ntmps249
      go_wp2
      have h1d := HB.out.drew.c
      go_region_law (go_simp; (with_reducible refine (HAt_c (HA.out.below (bl_drew (bl_refl _))) ho x.again (by omega) (by omega)).mono ?_); rintro e w2 ⟨v2, rfl, B2, hb2, F2⟩; obtain ⟨a2, c2, rfl, _⟩ := B2.1.shape; have HB2 := Lib.hid B2; have HF2 := Lib.hid F2; clear B2 F2)
      all_goals
        have b2 := Lib.hid (bl_then (bl_drew (bl_refl _)) hb2)
        have k2 := HB.out.below b2.out
        have k2c := k2.c
        have k2f := k2.f
        have H3 := Lib.hid ((HA.out.below b2.out).other k2 (by decide) (by decide) (by decide) (chg1 w2 b 5 (.int .i64 (x.again + 1))))
        have K3 := k2.set 5 (.int .i64 (x.again + 1))
        have N3 := Lib.hid ((N1.out.below b2.out).far (g := b) ((HB.out.below b2.out).ne (N1.out.below b2.out) (by decide)) 5 (.int .i64 (x.again + 1)))
        have P3 := Lib.hid (HB2.out.stay (off1 k2 (by decide)) (chg1 w2 b 5 (.int .i64 (x.again + 1))))
        have G3 := Lib.hid (chg1 w2 b 5 (.int .i64 (x.again + 1)))
        clear h1c h1f h1d
        by_cases hle : (h.sent.length : Int) ≤ x.again + 1
        · go_wp2
          clear k2 k2c k2f
          refine wp_region_up (by kernel_rfl) (by kernel_rfl) ?_
          have up_K3 := fun (g : Up _) => (Blk.below K3 g.ok).c
          repeat (go_big_quiet_step (with_reducible exact Up.calls_same _ (HSent_c (H3.out.below (Up.ok _)))))
          refine wpQuiet_nil ?_
          clear up_K3
          refine up_elim (fun w4 hb_w4 => ?_)
          have k4c := (K3.below hb_w4).c
          have k4f := (K3.below hb_w4).f
          have K4 := Lib.hid (K3.below hb_w4)
          clear K3
          have C5 := Lib.hid (chg1 w4 b 5 (.int .i64 (-1)))
          have HB5 := Lib.hid (show BsAt _ b bh { x with again := -1 } from (K4.out.set 5 (.int .i64 (-1))).as (by simp))
          have HN5 := Lib.hid ((N3.out.below hb_w4).chg C5.out (by simpa using (K4.out.ne (N3.out.below hb_w4) (by decide)).symm))
          have HP5 := Lib.hid ((P3.out.below hb_w4).stay (off1 K4.out (by decide)) C5.out)
          go_wp2_with (first | ((with_reducible refine (BMsg_c HB5.out _ _ _ HP5.out).mono ?_); rintro e w6 ⟨rfl, hb6⟩; (have hn6 := Lib.hid (HN5.out.below hb6)); (have n6c := (HN5.out.below hb6).c); (have n6f := (HN5.out.below hb6).f)))
          exact bodyPost_ret (res_c rfl Un.laid rfl (hn6.out.all8 _ _ _ _ _ _ _ _) rfl) rfl (sends_end (vs2 := vs) (vn2 := vn) (bl_alloc (bl_refl w) _) (Nat.le_refl _)
            (((Chg.of_below b2.out _).trans (G3.out.more (G := b :: hoF bh vs vn) (by simp)) (fun k hk => .inl hk)).below hb_w4 |>.trans (C5.out.more (G := b :: hoF bh vs vn) (by simp)) (fun k hk => .inl hk)) ((H3.out.below hb_w4).other K4.out (by decide) (by decide) (by decide) C5.out)
            (HB5.out.as (by simp)) HP5.out HF2.out (fun k hk => .inl hk) hb6 hn6.out hbn (by decide) (by decide) (by decide) (by decide) _ _ _ _ _ _ _ _)
        · have hle' : x.again + 1 < (h.sent.length : Int) := by omega
          go_wp2
          clear k2 k2c k2f
          refine wp_region_up (by kernel_rfl) (by kernel_rfl) ?_
          have up_K3 := fun (g : Up _) => (Blk.below K3 g.ok).c
          repeat (go_big_quiet_step (with_reducible exact Up.calls_same _ (HSent_c (H3.out.below (Up.ok _)))))
          refine wpQuiet_nil ?_
          clear up_K3
          refine up_elim (fun w4 hb_w4 => ?_)
          have HB5 := Lib.hid (show BsAt w4 b bh { x with again := x.again + 1 } from (K3.below hb_w4).as (by simp))
          have HN5 := Lib.hid (N3.out.below hb_w4)
          have HP5 := Lib.hid (P3.out.below hb_w4)
          clear K3
          go_wp2_with (first | ((with_reducible refine (BMsg_c HB5.out _ _ _ HP5.out).mono ?_); rintro e w6 ⟨rfl, hb6⟩; (have hn6 := Lib.hid (HN5.out.below hb6)); (have n6c := (HN5.out.below hb6).c); (have n6f := (HN5.out.below hb6).f)))
          exact bodyPost_ret (res_c rfl Un.laid rfl (hn6.out.all8 _ _ _ _ _ _ _ _) rfl) rfl (sends_end (vs2 := vs) (vn2 := vn) (bl_alloc (bl_refl w) _) (Nat.le_refl _)
            (((Chg.of_below b2.out _).trans (G3.out.more (G := b :: hoF bh vs vn) (by simp)) (fun k hk => .inl hk)).below hb_w4) (H3.out.below hb_w4)
            (HB5.out.as (by simp)) HP5.out HF2.out (fun k hk => .inl hk) hb6 hn6.out hbn (by decide) (by decide) (by decide) (by decide) _ _ _ _ _ _ _ _)
    · have ea : h.at x.again = (0, [], 2) := by
        unfold Ho.at at he ⊢
        split at he
        · exact absurd rfl he
        · rename_i h9
          rw [if_neg h9]
      have e : Bs.next h x = Bs.new h { x with again := -1 } := by simp [Bs.next, ha, ea]
      rw [e]
      have HD := Lib.hid (show Calls Tryz.prog 242 #[.pointer (some ⟨bh, 0, none⟩), .int .i64 x.again] (w.alloc (.cells Un.zeros 188)).drew (fun e w' => ∃ v, e = .returned (.tuple #[.int .u8 0, v, .int .i64 2]) ∧ Below (w.alloc (.cells Un.zeros 188)).drew.heap.size (w.alloc (.cells Un.zeros 188)).drew w') from
        (HAt_c (HA.out.below (bl_drew (bl_refl _))) ho x.again (by omega) (by omega)).mono (fun e w' hx => by
          rw [ea] at hx
          obtain ⟨v, h1, _, h2, _⟩ := hx
          exact ⟨v, h1, h2⟩))
      by_cases hs : h.send.2.2.2 = 0
      · have e : Bs.new h { x with again := -1 } = (h.send.1, { x with again := -1 }, x.msg h.send.2.1 h.send.2.2.1) := by simp [Bs.new, hs, Bs.msg]
        rw [e]
        go_enter Tryz.func249, Tryz.ntmps249
        go_wp2
        have h1d := HB.out.drew.c
        go_region_law (go_simp; (with_reducible refine (HD.out).mono ?_); rintro e w2 ⟨v2, rfl, hb2⟩)
        all_goals
          have b2 := Lib.hid (bl_then (bl_drew (bl_refl _)) hb2)
          have k2 := HB.out.below b2.out
          have k2c := k2.c
          have k2f := k2.f
          have HA3 := Lib.hid ((HA.out.below b2.out).other k2 (by decide) (by decide) (by decide) (chg1 w2 b 5 (.int .i64 (-1))))
          have HB3 := Lib.hid (show BsAt _ b bh { x with again := -1 } from (k2.set 5 (.int .i64 (-1))).as (by simp))
          have N3 := Lib.hid ((N1.out.below b2.out).far (g := b) ((HB.out.below b2.out).ne (N1.out.below b2.out) (by decide)) 5 (.int .i64 (-1)))
          have G3 := Lib.hid (chg1 w2 b 5 (.int .i64 (-1)))
          clear h1c h1f h1d k2
          generalize hw3 : w2.setCell ⟨b, 5, none⟩ (.int .i64 (-1)) = w9 at *
          have hb3c := HB3.out.c
          have hb3f := HB3.out.f
          go_wp2_with (first
            | ((with_reducible refine (Send_c HA3.out ho).mono ?_); rintro e w2 ⟨v2, rfl, B2, F2, vs2, vn2, A2, G2, O2⟩; (obtain ⟨a2, c2, rfl, _⟩ := B2.1.shape); (have hb2 := Lib.hid (HB3.out.chg G2 (HA3.out.notin HB3.out (by decide) (by decide)))); (have hn2 := Lib.hid (N3.out.chg G2 (HA3.out.notin N3.out (by decide) (by decide)))); (have hp2 := Lib.hid B2); (have HA2 := Lib.hid A2); (have HG2 := Lib.hid (G2.more (G := b :: hoF bh vs vn) (fun k hk => List.mem_cons_of_mem _ hk))); (have HF2 := Lib.hid F2); (have HO2 := Lib.hid O2); clear B2 A2 G2 F2 O2)
            | ((with_reducible refine (BMsg_c hb2.out _ _ _ hp2.out).mono ?_); rintro e w3 ⟨rfl, hb3⟩; (have hn3 := Lib.hid (hn2.out.below hb3)); (have n3c := (hn2.out.below hb3).c); (have n3f := (hn2.out.below hb3).f)))
          have hsz : (w.alloc (.cells Un.zeros 188)).heap.size ≤ w9.heap.size := Nat.le_trans b2.out.size G3.out.size
          exact bodyPost_ret (res_c rfl Un.laid rfl (hn3.out.all8 _ _ _ _ _ _ _ _) rfl) rfl (sends_end (bl_alloc (bl_refl w) _) (Nat.le_refl _) (((Chg.of_below b2.out _).trans (G3.out.more (G := b :: hoF bh vs vn) (by simp)) (fun k hk => .inl hk)).then HG2.out) HA2.out hb2.out hp2.out (fun k hk => Nat.le_trans hsz (HF2.out k hk)) (fun k hk => (HO2.out k hk).imp id (fun h => Nat.le_trans hsz h)) hb3 hn3.out hbn (by decide) (by decide) (by decide) (by decide) _ _ _ _ _ _ _ _)
      · have e : Bs.new h { x with again := -1 } = (h.send.1, { x with again := -1 }, x.head h.send.1.last) := by simp [Bs.new, hs, Bs.head]
        rw [e]
        go_enter Tryz.func249, Tryz.ntmps249
        go_wp2
        have h1d := HB.out.drew.c
        go_region_law (go_simp; (with_reducible refine (HD.out).mono ?_); rintro e w2 ⟨v2, rfl, hb2⟩)
        all_goals
          have b2 := Lib.hid (bl_then (bl_drew (bl_refl _)) hb2)
          have k2 := HB.out.below b2.out
          have k2c := k2.c
          have k2f := k2.f
          have HA3 := Lib.hid ((HA.out.below b2.out).other k2 (by decide) (by decide) (by decide) (chg1 w2 b 5 (.int .i64 (-1))))
          have HB3 := Lib.hid (show BsAt _ b bh { x with again := -1 } from (k2.set 5 (.int .i64 (-1))).as (by simp))
          have N3 := Lib.hid ((N1.out.below b2.out).far (g := b) ((HB.out.below b2.out).ne (N1.out.below b2.out) (by decide)) 5 (.int .i64 (-1)))
          have G3 := Lib.hid (chg1 w2 b 5 (.int .i64 (-1)))
          clear h1c h1f h1d k2
          generalize hw3 : w2.setCell ⟨b, 5, none⟩ (.int .i64 (-1)) = w9 at *
          have hb3c := HB3.out.c
          have hb3f := HB3.out.f
          go_wp2_with (first
            | ((with_reducible refine (Send_c HA3.out ho).mono ?_); rintro e w2 ⟨v2, rfl, B2, F2, vs2, vn2, A2, G2, O2⟩; (obtain ⟨a2, c2, rfl, _⟩ := B2.1.shape); (have hb2 := Lib.hid (HB3.out.chg G2 (HA3.out.notin HB3.out (by decide) (by decide)))); (have hn2 := Lib.hid (N3.out.chg G2 (HA3.out.notin N3.out (by decide) (by decide)))); (have hp2 := Lib.hid B2); (have HA2 := Lib.hid A2); (have HG2 := Lib.hid (G2.more (G := b :: hoF bh vs vn) (fun k hk => List.mem_cons_of_mem _ hk))); (have HF2 := Lib.hid F2); (have HO2 := Lib.hid O2); clear B2 A2 G2 F2 O2)
            | ((with_reducible refine (BFill_c hb2.out HA2.out (Ho.ok_send ho)).mono ?_); rintro e w3 ⟨rfl, hb3⟩; (have hn3 := Lib.hid (hn2.out.below hb3)); (have n3c := (hn2.out.below hb3).c); (have n3f := (hn2.out.below hb3).f)))
          have hsz : (w.alloc (.cells Un.zeros 188)).heap.size ≤ w9.heap.size := Nat.le_trans b2.out.size G3.out.size
          exact bodyPost_ret (res_c rfl Un.laid rfl (hn3.out.all8 _ _ _ _ _ _ _ _) rfl) rfl (sends_end (bl_alloc (bl_refl w) _) (Nat.le_refl _) (((Chg.of_below b2.out _).trans (G3.out.more (G := b :: hoF bh vs vn) (by simp)) (fun k hk => .inl hk)).then HG2.out) HA2.out hb2.out byt_nil (by simp [own, Value.ownBlock]) (fun k hk => (HO2.out k hk).imp id (fun h => Nat.le_trans hsz h)) hb3 hn3.out hbn (by decide) (by decide) (by decide) (by decide) _ _ _ _ _ _ _ _)
  · have e : Bs.next h x = Bs.new h x := by simp [Bs.next, ha]
    rw [e]
    by_cases hs : h.send.2.2.2 = 0
    · have e : Bs.new h x = (h.send.1, x, x.msg h.send.2.1 h.send.2.2.1) := by simp [Bs.new, hs]
      rw [e]
      go_enter Tryz.func249, Tryz.ntmps249
      go_wp2_with (first
        | ((with_reducible refine (Send_c HA.out ho).mono ?_); rintro e w2 ⟨v2, rfl, B2, F2, vs2, vn2, A2, G2, O2⟩; (obtain ⟨a2, c2, rfl, _⟩ := B2.1.shape); (have hb2 := Lib.hid (HB.out.chg G2 (HA.out.notin HB.out (by decide) (by decide)))); (have hn2 := Lib.hid (N1.out.chg G2 (HA.out.notin N1.out (by decide) (by decide)))); (have hp2 := Lib.hid B2); (have HA2 := Lib.hid A2); (have HG2 := Lib.hid (G2.more (G := b :: hoF bh vs vn) (fun k hk => List.mem_cons_of_mem _ hk))); (have HF2 := Lib.hid F2); (have HO2 := Lib.hid O2); clear B2 A2 G2 F2 O2)
        | ((with_reducible refine (BMsg_c hb2.out _ _ _ hp2.out).mono ?_); rintro e w3 ⟨rfl, hb3⟩; (have hn3 := Lib.hid (hn2.out.below hb3)); (have n3c := (hn2.out.below hb3).c); (have n3f := (hn2.out.below hb3).f)))
      exact bodyPost_ret (res_c rfl Un.laid rfl (hn3.out.all8 _ _ _ _ _ _ _ _) rfl) rfl (sends_end (bl_alloc (bl_refl w) _) (Nat.le_refl _) HG2.out HA2.out hb2.out hp2.out HF2.out HO2.out hb3 hn3.out hbn (by decide) (by decide) (by decide) (by decide) _ _ _ _ _ _ _ _)
    · have e : Bs.new h x = (h.send.1, x, x.head h.send.1.last) := by simp [Bs.new, hs]
      rw [e]
      go_enter Tryz.func249, Tryz.ntmps249
      go_wp2_with (first
        | ((with_reducible refine (Send_c HA.out ho).mono ?_); rintro e w2 ⟨v2, rfl, B2, F2, vs2, vn2, A2, G2, O2⟩; (obtain ⟨a2, c2, rfl, _⟩ := B2.1.shape); (have hb2 := Lib.hid (HB.out.chg G2 (HA.out.notin HB.out (by decide) (by decide)))); (have hn2 := Lib.hid (N1.out.chg G2 (HA.out.notin N1.out (by decide) (by decide)))); (have hp2 := Lib.hid B2); (have HA2 := Lib.hid A2); (have HG2 := Lib.hid (G2.more (G := b :: hoF bh vs vn) (fun k hk => List.mem_cons_of_mem _ hk))); (have HF2 := Lib.hid F2); (have HO2 := Lib.hid O2); clear B2 A2 G2 F2 O2)
        | ((with_reducible refine (BFill_c hb2.out HA2.out (Ho.ok_send ho)).mono ?_); rintro e w3 ⟨rfl, hb3⟩; (have hn3 := Lib.hid (hn2.out.below hb3)); (have n3c := (hn2.out.below hb3).c); (have n3f := (hn2.out.below hb3).f)))
      exact bodyPost_ret (res_c rfl Un.laid rfl (hn3.out.all8 _ _ _ _ _ _ _ _) rfl) rfl (sends_end (bl_alloc (bl_refl w) _) (Nat.le_refl _) HG2.out HA2.out hb2.out byt_nil (by simp [own, Value.ownBlock]) HO2.out hb3 hn3.out hbn (by decide) (by decide) (by decide) (by decide) _ _ _ _ _ _ _ _)
end
/-! ### The walks of package basic, continued: New, Reset, Take, Answer. -/
section
open Go Go.RowKit
set_option linter.unusedVariables false
set_option maxHeartbeats 1000000
set_option maxRecDepth 100000
theorem BNew_c (most oc : Int) (w : World) :
    Calls Tryz.prog 141 #[.int .i64 most, .int .i64 oc] w fun e w' => ∃ b bh, e = .returned (.pointer (some ⟨b, 0, none⟩)) ∧ w.heap.size ≤ b ∧ w.heap.size ≤ bh ∧ HoAt w' bh (Ho.none most oc) nil0 nil0 ∧ BsAt w' b bh Bs.zero ∧ Below w.heap.size w w' := by
  go_enter Tryz.func141, Tryz.ntmps141
  go_wp2_with (first | ((with_reducible refine (HNew_c most oc w).mono ?_); rintro e w2 ⟨bh, rfl, h1, h2, h3⟩))
  go_ret
  exact ⟨_, bh, rfl, h3.size, h1, h2.below (bl_alloc (bl_refl _) _), Blk.new _ _ _, bl_alloc h3 _⟩
theorem BReset_c {w : World} {b bh : Nat} {x : Bs} {h : Ho} {vs vn : Value} (hb : BsAt w b bh x) (hh : HoAt w bh h vs vn) :
    Calls Tryz.prog 251 #[.pointer (some ⟨b, 0, none⟩)] w fun e w' => e = .returned (.tuple #[]) ∧ HoAt w' bh h.clear nil0 nil0 ∧ BsAt w' b bh Bs.zero ∧ Chg [b, bh] w w' := by
  have hc := hb.c
  have hbn := hh.notin hb (by decide) (by decide)
  have HB := Lib.hid hb
  have HH := Lib.hid hh
  have hne : b ∉ [bh] := by simp at hbn ⊢; exact hbn.1
  clear hb hh
  go_enter Tryz.func251, Tryz.ntmps251
  go_wp2_with (first | ((with_reducible refine (HClear_c HH.out).mono ?_); rintro e w2 ⟨rfl, A2, G2⟩; (have hb2 := Lib.hid (HB.out.chg G2 hne)); (have hb2c := hb2.out.c); (have hb2f := hb2.out.f); (have HA2 := Lib.hid A2); clear A2))
  go_end0
  have hc9 : Chg [b] w2 _ := ((((((((((chg1 w2 b 0 (.pointer (some ⟨bh, 0, none⟩))).then (chg1 _ b 1 (.bool true))).then (chg1 _ b 2 (.bool true))).then (chg1 _ b 3 (.int .u8 127))).then (chg1 _ b 4 (.bool false))).then (chg1 _ b 5 (.int .i64 (-1)))).then (chg1 _ b 6 (.bool false))).then (chg1 _ b 7 (.bool false))).then (chg1 _ b 8 (.bool false))).then (chg1 _ b 9 (.bool false)))
  exact ⟨rfl, HA2.out.other hb2.out (by decide) (by decide) (by decide) hc9, ((((((((((hb2.out.set 0 _).set 1 _).set 2 _).set 3 _).set 4 _).set 5 _).set 6 _).set 7 _).set 8 _).set 9 _).as (by simp [Bs.zero]), (G2.more (by simp)).trans hc9 (by simp)⟩
theorem BTake_c {w : World} {b bh : Nat} {x : Bs} {u : Un} {vi : Value} (hb : BsAt w b bh x) (hx : x.ok) (hu : u.ok) (hv : BytI w [b] vi u.info) :
    Calls Tryz.prog 252 #[.pointer (some ⟨b, 0, none⟩), u.v vi] w fun e w' => ∃ v, e = .returned (.tuple #[v, .bool (x.take u).2.2.1, .int .i64 (x.take u).2.2.2]) ∧ BytV w' v (x.take u).2.1 ∧ (∀ g ∈ own v, w.heap.size ≤ g) ∧ BsAt w' b bh (x.take u).1 ∧ Chg [b] w w' := by
  obtain ⟨a1, c1, rfl, _⟩ := hv.shape
  have hl := hu.info
  have hlast := hx.last
  clear hx hu
  obtain ⟨bsn, fsn, bib, fib, kind, status, wide, info⟩ := u
  obtain ⟨fib', bib', last, asked, again, b0, b1, i0, i1⟩ := x
  dsimp only at hl hlast
  have U1 := Blk.new w (#[.int .u8 bsn, .int .u8 fsn, .bool bib, .bool fib, .int .u8 kind, .int .u8 status, .bool wide, .slice a1 info.length c1] : Array Value) 188
  have H1 := Blk.alloc hb (.cells #[.int .u8 bsn, .int .u8 fsn, .bool bib, .bool fib, .int .u8 kind, .int .u8 status, .bool wide, .slice a1 info.length c1] 188)
  have HU := Lib.hid U1
  have HB := Lib.hid H1
  have HV := Lib.hid hv
  clear hb hv U1 H1
  by_cases hf : fib = bib'
  · subst hf
    have hlast' : 0 ≤ last ∧ last ≤ 255 := by omega
    obtain ⟨nx, hnx⟩ : ∃ nx, (last + 1) % 128 = nx := ⟨_, rfl⟩
    have hN := Lib.hid fun w' => hnx ▸ Next_c last w' hlast'.1 hlast'.2
    by_cases hk : kind = 2 ∧ fsn = nx
    · obtain ⟨hk1, hk2⟩ := hk
      subst hk1
      subst hk2
      have et : (⟨fib', fib, last, asked, again, b0, b1, i0, i1⟩ : Bs).take ⟨bsn, fsn, bib, fib, 2, status, wide, info⟩ = (⟨fib', fib, fsn, false, again, b0, b1, i1, false⟩, info, true, 0) := by
        simp [Bs.take, Bs.sei, hnx]
      rw [et]
      have U1 := HU.out
      have H1 := HB.out
      go_enter Tryz.func252, Tryz.ntmps252
      go_wp2
      refine wp_region_up (by kernel_rfl) (by kernel_rfl) ?_
      have up_U1 := fun (g : Up _) => (Blk.below U1 g.ok).c
      have up_H1 := fun (g : Up _) => (Blk.below H1 g.ok).c
      repeat (go_big_quiet_step (fail))
      refine wpQuiet_nil ?_
      clear up_U1 up_H1
      refine up_elim (fun w2 hb_w2 => ?_)
      have H2 := Lib.hid (H1.below hb_w2)
      have U2 := Lib.hid (U1.below hb_w2)
      have nUb : w.heap.size ∉ [b] := by simpa using (H1.ne U1 (by decide)).symm
      clear U1 H1
      have HS := Lib.hid (See_c (off := 8) (o0 := i0) (o1 := i1) H2.out rfl rfl false)
      go_wp2_with (first
        | ((with_reducible refine HS.out.mono ?_); rintro e w4 ⟨rfl, K4, G4⟩; (have U4 := Lib.hid (U2.out.chg G4 nUb)); (have HK4 := Lib.hid (show BsAt w4 b bh ⟨fib', fib, last, asked, again, b0, b1, i1, false⟩ from K4.as (by simp))); clear K4; (have k4c := HK4.out.c); (have k4f := HK4.out.f); (have u4c := U4.out.c); (have V4 := Lib.hid (HV.out.below (bl_then (bl_alloc (bl_refl w) _) hb_w2) |>.chg G4 (fun _ hk => hk))); (have C4 := Lib.hid ((Chg.of_below (bl_then (bl_alloc (bl_refl w) _) hb_w2) [b]).then G4)))
        | ((with_reducible refine (hN.out _).mono ?_); rintro e w5 ⟨rfl, rfl⟩)
        | ((with_reducible refine (Clone_c ((V4.out.chg (chg1 w4 b 3 (.int .u8 fsn)) (fun _ hk => hk)).chg (chg1 _ b 4 (.bool false)) (fun _ hk => hk)) hl).mono ?_); rintro e w6 ⟨v6, rfl, B6, hb6, F6⟩))

      go_ret3
      exact ⟨_, rfl, B6, fun g hg => Nat.le_trans (Nat.le_trans (Nat.le_trans C4.out.size (chg1 w4 b 3 (.int .u8 fsn)).size) (chg1 _ b 4 (.bool false)).size) (F6 g hg), (Blk.below ((HK4.out.set 3 (.int .u8 fsn)).set 4 (.bool false)) hb6).as (by simp), (C4.out.then ((chg1 w4 b 3 (.int .u8 fsn)).then (chg1 _ b 4 (.bool false)))).below hb6⟩
    · by_cases hl2 : fsn = last
      · have et : (⟨fib', fib, last, asked, again, b0, b1, i0, i1⟩ : Bs).take ⟨bsn, fsn, bib, fib, kind, status, wide, info⟩ = (⟨fib', fib, last, false, again, b0, b1, i1, false⟩, [], false, 0) := by
          simp only [Bs.take, Bs.sei, hnx]
          rw [if_pos trivial, if_neg hk, if_pos hl2]
        rw [et]
        clear et
        by_cases hkk : kind = 2
        · have hn : ¬ fsn = nx := fun h => hk ⟨hkk, h⟩
          subst hkk
          subst hl2
          clear hk
          have U1 := HU.out
          have H1 := HB.out
          go_enter Tryz.func252, Tryz.ntmps252
          go_wp2
          refine wp_region_up (by kernel_rfl) (by kernel_rfl) ?_
          have up_U1 := fun (g : Up _) => (Blk.below U1 g.ok).c
          have up_H1 := fun (g : Up _) => (Blk.below H1 g.ok).c
          repeat (go_big_quiet_step (fail))
          refine wpQuiet_nil ?_
          clear up_U1 up_H1
          refine up_elim (fun w2 hb_w2 => ?_)
          have H2 := Lib.hid (H1.below hb_w2)
          have U2 := Lib.hid (U1.below hb_w2)
          have nUb : w.heap.size ∉ [b] := by simpa using (H1.ne U1 (by decide)).symm
          clear U1 H1
          have HS := Lib.hid (See_c (off := 8) (o0 := i0) (o1 := i1) H2.out rfl rfl false)
          go_wp2_with (first
            | ((with_reducible refine HS.out.mono ?_); rintro e w4 ⟨rfl, K4, G4⟩; (have U4 := Lib.hid (U2.out.chg G4 nUb)); (have HK4 := Lib.hid (show BsAt w4 b bh ⟨fib', fib, fsn, asked, again, b0, b1, i1, false⟩ from K4.as (by simp))); clear K4; (have k4c := HK4.out.c); (have k4f := HK4.out.f); (have u4c := U4.out.c); (have V4 := Lib.hid (HV.out.below (bl_then (bl_alloc (bl_refl w) _) hb_w2) |>.chg G4 (fun _ hk => hk))); (have C4 := Lib.hid ((Chg.of_below (bl_then (bl_alloc (bl_refl w) _) hb_w2) [b]).then G4)))
            | ((with_reducible refine (hN.out _).mono ?_); rintro e w5 ⟨rfl, rfl⟩))
          clear k4c k4f u4c
          have K := HK4.out
          have U := U4.out
          refine wp_region_up (by kernel_rfl) (by kernel_rfl) ?_
          have up_K := fun (g : Up _) => (Blk.below K g.ok).c
          have up_U := fun (g : Up _) => (Blk.below U g.ok).c
          repeat (go_big_quiet_step (fail))
          refine wpQuiet_nil ?_
          clear up_K up_U
          refine up_elim (fun w7 hb_w7 => ?_)
          have k7c := (K.below hb_w7).c
          have k7f := (K.below hb_w7).f
          go_wp2
          go_ret3
          exact ⟨_, rfl, byt_nil, by simp [own, Value.ownBlock], (Blk.set (K.below hb_w7) 4 (.bool false)).as (by simp), (C4.out.below hb_w7).then (chg1 _ b 4 (.bool false))⟩
        · subst hl2
          clear hk
          have U1 := HU.out
          have H1 := HB.out
          go_enter Tryz.func252, Tryz.ntmps252
          go_wp2
          refine wp_region_up (by kernel_rfl) (by kernel_rfl) ?_
          have up_U1 := fun (g : Up _) => (Blk.below U1 g.ok).c
          have up_H1 := fun (g : Up _) => (Blk.below H1 g.ok).c
          repeat (go_big_quiet_step (fail))
          refine wpQuiet_nil ?_
          clear up_U1 up_H1
          refine up_elim (fun w2 hb_w2 => ?_)
          have H2 := Lib.hid (H1.below hb_w2)
          have U2 := Lib.hid (U1.below hb_w2)
          have nUb : w.heap.size ∉ [b] := by simpa using (H1.ne U1 (by decide)).symm
          clear U1 H1
          have HS := Lib.hid (See_c (off := 8) (o0 := i0) (o1 := i1) H2.out rfl rfl false)
          go_wp2_with (first
            | ((with_reducible refine HS.out.mono ?_); rintro e w4 ⟨rfl, K4, G4⟩; (have U4 := Lib.hid (U2.out.chg G4 nUb)); (have HK4 := Lib.hid (show BsAt w4 b bh ⟨fib', fib, fsn, asked, again, b0, b1, i1, false⟩ from K4.as (by simp))); clear K4; (have k4c := HK4.out.c); (have k4f := HK4.out.f); (have u4c := U4.out.c); (have V4 := Lib.hid (HV.out.below (bl_then (bl_alloc (bl_refl w) _) hb_w2) |>.chg G4 (fun _ hk => hk))); (have C4 := Lib.hid ((Chg.of_below (bl_then (bl_alloc (bl_refl w) _) hb_w2) [b]).then G4)))
            | ((with_reducible refine (hN.out _).mono ?_); rintro e w5 ⟨rfl, rfl⟩))
          clear k4c k4f u4c
          have K := HK4.out
          have U := U4.out
          refine wp_region_up (by kernel_rfl) (by kernel_rfl) ?_
          have up_K := fun (g : Up _) => (Blk.below K g.ok).c
          have up_U := fun (g : Up _) => (Blk.below U g.ok).c
          repeat (go_big_quiet_step (fail))
          refine wpQuiet_nil ?_
          clear up_K up_U
          refine up_elim (fun w7 hb_w7 => ?_)
          have k7c := (K.below hb_w7).c
          have k7f := (K.below hb_w7).f
          go_wp2
          go_ret3
          exact ⟨_, rfl, byt_nil, by simp [own, Value.ownBlock], (Blk.set (K.below hb_w7) 4 (.bool false)).as (by simp), (C4.out.below hb_w7).then (chg1 _ b 4 (.bool false))⟩
      · have et : (⟨fib', fib, last, asked, again, b0, b1, i0, i1⟩ : Bs).take ⟨bsn, fsn, bib, fib, kind, status, wide, info⟩ = (⟨fib', !fib, last, true, again, b0, b1, i1, false⟩, [], false, 0) := by
          simp only [Bs.take, Bs.sei, hnx]
          rw [if_pos trivial, if_neg hk, if_neg hl2]
        rw [et]
        clear et
        by_cases hkk : kind = 2
        · have hn : ¬ fsn = nx := fun h => hk ⟨hkk, h⟩
          subst hkk
          clear hk
          have U1 := HU.out
          have H1 := HB.out
          go_enter Tryz.func252, Tryz.ntmps252
          go_wp2
          refine wp_region_up (by kernel_rfl) (by kernel_rfl) ?_
          have up_U1 := fun (g : Up _) => (Blk.below U1 g.ok).c
          have up_H1 := fun (g : Up _) => (Blk.below H1 g.ok).c
          repeat (go_big_quiet_step (fail))
          refine wpQuiet_nil ?_
          clear up_U1 up_H1
          refine up_elim (fun w2 hb_w2 => ?_)
          have H2 := Lib.hid (H1.below hb_w2)
          have U2 := Lib.hid (U1.below hb_w2)
          have nUb : w.heap.size ∉ [b] := by simpa using (H1.ne U1 (by decide)).symm
          clear U1 H1
          have HS := Lib.hid (See_c (off := 8) (o0 := i0) (o1 := i1) H2.out rfl rfl false)
          go_wp2_with (first
            | ((with_reducible refine HS.out.mono ?_); rintro e w4 ⟨rfl, K4, G4⟩; (have U4 := Lib.hid (U2.out.chg G4 nUb)); (have HK4 := Lib.hid (show BsAt w4 b bh ⟨fib', fib, last, asked, again, b0, b1, i1, false⟩ from K4.as (by simp))); clear K4; (have k4c := HK4.out.c); (have k4f := HK4.out.f); (have u4c := U4.out.c); (have V4 := Lib.hid (HV.out.below (bl_then (bl_alloc (bl_refl w) _) hb_w2) |>.chg G4 (fun _ hk => hk))); (have C4 := Lib.hid ((Chg.of_below (bl_then (bl_alloc (bl_refl w) _) hb_w2) [b]).then G4)))
            | ((with_reducible refine (hN.out _).mono ?_); rintro e w5 ⟨rfl, rfl⟩))
          clear k4c k4f u4c
          have K := HK4.out
          have U := U4.out
          refine wp_region_up (by kernel_rfl) (by kernel_rfl) ?_
          have up_K := fun (g : Up _) => (Blk.below K g.ok).c
          have up_U := fun (g : Up _) => (Blk.below U g.ok).c
          repeat (go_big_quiet_step (fail))
          refine wpQuiet_nil ?_
          clear up_K up_U
          refine up_elim (fun w7 hb_w7 => ?_)
          have k7c := (K.below hb_w7).c
          have k7f := (K.below hb_w7).f
          go_wp2
          go_ret3
          exact ⟨_, rfl, byt_nil, by simp [own, Value.ownBlock], (Blk.set (Blk.set (K.below hb_w7) 2 (.bool !fib)) 4 (.bool true)).as (by simp), (C4.out.below hb_w7).then ((chg1 _ b 2 (.bool !fib)).then (chg1 _ b 4 (.bool true)))⟩
        · skip
          clear hk
          have U1 := HU.out
          have H1 := HB.out
          go_enter Tryz.func252, Tryz.ntmps252
          go_wp2
          refine wp_region_up (by kernel_rfl) (by kernel_rfl) ?_
          have up_U1 := fun (g : Up _) => (Blk.below U1 g.ok).c
          have up_H1 := fun (g : Up _) => (Blk.below H1 g.ok).c
          repeat (go_big_quiet_step (fail))
          refine wpQuiet_nil ?_
          clear up_U1 up_H1
          refine up_elim (fun w2 hb_w2 => ?_)
          have H2 := Lib.hid (H1.below hb_w2)
          have U2 := Lib.hid (U1.below hb_w2)
          have nUb : w.heap.size ∉ [b] := by simpa using (H1.ne U1 (by decide)).symm
          clear U1 H1
          have HS := Lib.hid (See_c (off := 8) (o0 := i0) (o1 := i1) H2.out rfl rfl false)
          go_wp2_with (first
            | ((with_reducible refine HS.out.mono ?_); rintro e w4 ⟨rfl, K4, G4⟩; (have U4 := Lib.hid (U2.out.chg G4 nUb)); (have HK4 := Lib.hid (show BsAt w4 b bh ⟨fib', fib, last, asked, again, b0, b1, i1, false⟩ from K4.as (by simp))); clear K4; (have k4c := HK4.out.c); (have k4f := HK4.out.f); (have u4c := U4.out.c); (have V4 := Lib.hid (HV.out.below (bl_then (bl_alloc (bl_refl w) _) hb_w2) |>.chg G4 (fun _ hk => hk))); (have C4 := Lib.hid ((Chg.of_below (bl_then (bl_alloc (bl_refl w) _) hb_w2) [b]).then G4)))
            | ((with_reducible refine (hN.out _).mono ?_); rintro e w5 ⟨rfl, rfl⟩))
          clear k4c k4f u4c
          have K := HK4.out
          have U := U4.out
          refine wp_region_up (by kernel_rfl) (by kernel_rfl) ?_
          have up_K := fun (g : Up _) => (Blk.below K g.ok).c
          have up_U := fun (g : Up _) => (Blk.below U g.ok).c
          repeat (go_big_quiet_step (fail))
          refine wpQuiet_nil ?_
          clear up_K up_U
          refine up_elim (fun w7 hb_w7 => ?_)
          have k7c := (K.below hb_w7).c
          have k7f := (K.below hb_w7).f
          go_wp2
          go_ret3
          exact ⟨_, rfl, byt_nil, by simp [own, Value.ownBlock], (Blk.set (Blk.set (K.below hb_w7) 2 (.bool !fib)) 4 (.bool true)).as (by simp), (C4.out.below hb_w7).then ((chg1 _ b 2 (.bool !fib)).then (chg1 _ b 4 (.bool true)))⟩
  · have hfb : (fib == bib') = false := by simpa using hf
    obtain ⟨bad, hbad⟩ : ∃ bad, (!asked && (i0 || i1)) = bad := ⟨_, rfl⟩
    have hcase : fib = !bib' := by cases fib <;> cases bib' <;> simp_all
    subst hcase
    have et : (⟨fib', bib', last, asked, again, b0, b1, i0, i1⟩ : Bs).take ⟨bsn, fsn, bib, !bib', kind, status, wide, info⟩ = (⟨fib', bib', last, asked, again, b0, b1, i1, !asked⟩, [], false, if bad then 10 else 0) := by
      cases bad <;> cases bib' <;> simp_all [Bs.take, Bs.sei]
    rw [et]
    cases bib' <;> cases bad <;> (
      have U1 := HU.out
      have H1 := HB.out
      go_enter Tryz.func252, Tryz.ntmps252
      go_wp2
      refine wp_region_up (by kernel_rfl) (by kernel_rfl) ?_
      have up_U1 := fun (g : Up _) => (Blk.below U1 g.ok).c
      have up_H1 := fun (g : Up _) => (Blk.below H1 g.ok).c
      repeat (go_big_quiet_step (fail))
      refine wpQuiet_nil ?_
      clear up_U1 up_H1
      refine up_elim (fun w2 hb_w2 => ?_)
      have H2 := H1.below hb_w2
      go_wp2
      refine wp_region_up_tail 8 (by kernel_rfl) (by kernel_rfl) ?_
      simp only [List.take_succ_cons, List.take_zero, List.drop_succ_cons, List.drop_zero]
      have up_H2 := fun (g : Up _) => (Blk.below H2 g.ok).c
      repeat (go_big_quiet_step (fail))
      refine wpQuiet_nil ?_
      clear up_H2
      refine up_elim (fun w3 hb_w3 => ?_)
      have HS := Lib.hid (See_c (off := 8) (o0 := i0) (o1 := i1) (H2.below hb_w3) rfl rfl (!asked))
      rw [hbad] at HS
      go_wp2_with (first | ((with_reducible refine HS.out.mono ?_); rintro e w4 ⟨rfl, K4, G4⟩))
      go_ret3
      exact ⟨_, rfl, byt_nil, by simp [own, Value.ownBlock], K4.as (by simp), (Chg.of_below (bl_then (bl_then (bl_alloc (bl_refl w) _) hb_w2) hb_w3) [b]).then G4⟩)
end
/-! ### The walks of package basic, the last: Answer. -/
section
open Go Go.RowKit
set_option linter.unusedVariables false
set_option maxHeartbeats 1000000
set_option maxRecDepth 100000
abbrev Un.cells (u : Un) (vi : Value) : Array Value := #[.int .u8 u.bsn, .int .u8 u.fsn, .bool u.bib, .bool u.fib, .int .u8 u.kind, .int .u8 u.status, .bool u.wide, vi]
/-- What an answer leaves. -/
structure Ans (w w' : World) (b bh : Nat) (tb : TypeId) (cells : Array Value) (h : Ho) (vs vn : Value) : Prop where
  hold : ∃ vs', HoAt w' bh h vs' vn ∧ ∀ g ∈ own vs', g ∈ own vs
  blk : Blk w' b cells tb
  chg : Chg (b :: hoF bh vs vn) w w'
theorem BAnswer_c {w : World} {F : List Nat} {b bh : Nat} {x : Bs} {h : Ho} {vs vn : Value} {u : Un} {vi : Value} (hb : BsAt w b bh x) (hx : x.ok) (hh : HoAt w bh h vs vn) (ho : h.ok) (hu : u.ok) (hv : BytI w F vi u.info) :
    Calls Tryz.prog 246 #[.pointer (some ⟨b, 0, none⟩), u.v vi] w fun e w' => e = .returned (.tuple #[.int .i64 (Bs.answer h x u).2.2.1, .int .i64 (Bs.answer h x u).2.2.2]) ∧ Ans w w' b bh 262 ((Bs.answer h x u).2.1.cells bh) (Bs.answer h x u).1 vs vn := by
  obtain ⟨a1, c1, rfl, _⟩ := hv.shape
  have hl := hu.bsn
  have hag := hx.again
  clear hx
  have hbn := hh.notin hb (by decide) (by decide)
  have U1 := Blk.new w (u.cells (.slice a1 u.info.length c1)) 188
  have H1 := hb.alloc (.cells (u.cells (.slice a1 u.info.length c1)) 188)
  have HA := Lib.hid (hh.below (bl_alloc (bl_refl w) (.cells (u.cells (.slice a1 u.info.length c1)) 188)))
  have nUb : w.heap.size ≠ b := (H1.ne U1 (by decide)).symm
  have D := Lib.hid fun g : Up (w.alloc (.cells (u.cells (.slice a1 u.info.length c1)) 188)) => HKnows_c (HA.out.below g.ok) ho u.bsn (by omega) (by omega)
  have HU := Lib.hid U1
  have HB := Lib.hid H1
  clear hb hh hv U1 H1
  cases hk : h.knows u.bsn
  · obtain ⟨bad, hbad⟩ : ∃ bad, (x.b0 || x.b1) = bad := ⟨_, rfl⟩
    have et : Bs.answer h x u = (h, x.see true, 0, if bad then 10 else 0) := by
      cases bad <;> simp [Bs.answer, hk, hbad]
    rw [et]
    rw [hk] at D
    cases bad <;> (
      have U1 := HU.out
      have H1 := HB.out
      go_enter Tryz.func246, Tryz.ntmps246
      go_wp2
      refine wp_region_up (by kernel_rfl) (by kernel_rfl) ?_
      have up_U1 := fun (g : Up _) => (Blk.below U1 g.ok).c
      have up_H1 := fun (g : Up _) => (Blk.below H1 g.ok).c
      repeat (go_big_quiet_step (with_reducible exact Up.calls _ (D.out _)))
      refine wpQuiet_nil ?_
      clear up_U1 up_H1
      refine up_elim (fun w2 hb_w2 => ?_)
      have HS := Lib.hid (See_c (off := 6) (o0 := x.b0) (o1 := x.b1) (Blk.below H1 hb_w2) rfl rfl true)
      rw [Bool.true_and, hbad] at HS
      have H2 := Lib.hid (Blk.below H1 hb_w2)
      clear H1
      go_wp2_with (first | ((with_reducible refine HS.out.mono ?_); rintro e w4 ⟨rfl, K4, G4⟩))
      go_ret2
      exact ⟨rfl, ⟨vs, ((HA.out.below hb_w2).other H2.out (by decide) (by decide) (by decide) G4), fun g hg => hg⟩, K4.as (by simp [Bs.see]), ((Chg.of_below (bl_then (bl_alloc (bl_refl w) _) hb_w2) _).trans G4 (by simp))⟩)
  · rw [hk] at D
    have hgap := Ho.gap_le ho hk
    have ek : (h.free u.bsn).2.1 = h.gap u.bsn := by simp [Ho.free, hk]
    have e0 : (h.free u.bsn).2.2 = 0 := by simp [Ho.free, hk]
    have ef : Bs.answer h x u = ((h.free u.bsn).1, (((x.see false).back (h.free u.bsn).2.1).over (h.free u.bsn).1.sent.length).turn u.bib (h.free u.bsn).1.sent.length, (h.free u.bsn).2.1, 0) := by simp [Bs.answer, hk]
    rw [ef]
    have ls := ho.sent
    rw [← ek] at hgap
    have hh' := Ho.ok_free ho u.bsn
    have CF : ∀ w', HoAt w' bh h vs vn → _ := fun w' hh => Free_c hh ho u.bsn (by omega) (by omega)
    rw [e0] at CF
    clear ek ef e0
    generalize (h.free u.bsn).2.1 = k at *
    generalize (h.free u.bsn).1 = h' at *
    have l5 := hh'.sent
    have HF := Lib.hid CF
    clear CF
    have h1a : -1 ≤ (x.see false).again ∧ (x.see false).again ≤ 127 := hag
    generalize hx1 : x.see false = x1 at *
    have HX1 := Lib.hid hx1
    clear hx1
    have U1 := HU.out
    have H1 := HB.out
    go_enter Tryz.func246, Tryz.ntmps246
    go_wp2
    refine wp_region_up (by kernel_rfl) (by kernel_rfl) ?_
    have up_U1 := fun (g : Up _) => (Blk.below U1 g.ok).c
    have up_H1 := fun (g : Up _) => (Blk.below H1 g.ok).c
    repeat (go_big_quiet_step (with_reducible exact Up.calls _ (D.out _)))
    refine wpQuiet_nil ?_
    clear up_U1 up_H1
    refine up_elim (fun w2 hb_w2 => ?_)
    have HS := Lib.hid (See_c (off := 6) (o0 := x.b0) (o1 := x.b1) (Blk.below H1 hb_w2) rfl rfl false)
    rw [Bool.false_and] at HS
    have H2 := Lib.hid (Blk.below H1 hb_w2)
    have U2 := Lib.hid (Blk.below U1 hb_w2)
    clear H1 U1
    go_upto_region 8 with (first | ((with_reducible refine HS.out.mono ?_); rintro e w4 ⟨rfl, K4, G4⟩))
    have HK4 := Lib.hid (show BsAt w4 b bh x1 from K4.as (by rw [← HX1.out]; simp [Bs.see]))
    have HA4 := Lib.hid ((HA.out.below hb_w2).other H2.out (by decide) (by decide) (by decide) G4)
    have HU4 := Lib.hid (U2.out.chg G4 (by simpa using nUb))
    have HG4 := Lib.hid ((Chg.of_below (bl_then (bl_alloc (bl_refl w) _) hb_w2) (b :: hoF bh vs vn)).trans G4 (by simp))
    clear K4 G4
    go_cut [7] (fun k' wx => k' = .int .i64 k ∧ BsAt wx b bh x1 ∧ Blk wx w.heap.size (u.cells (.slice a1 u.info.length c1)) 188 ∧ (∃ vs', HoAt wx bh h' vs' vn ∧ ∀ g ∈ own vs', g ∈ own vs) ∧ Chg (b :: hoF bh vs vn) w wx)
    case first =>
      have h4d := HK4.out.drew.c
      have u4d := HU4.out.drew.c
      go_region_law (go_simp; (with_reducible refine (HF.out _ (HA4.out.below (bl_drew (bl_refl _)))).mono ?_); rintro e w5 ⟨rfl, vs5, A5, G5, O5⟩; have HA5 := Lib.hid A5; have HG5 := Lib.hid G5; have HO5 := Lib.hid O5; clear A5 G5 O5)
      all_goals
        go_wp2
        go_meet
        case rel => exact ⟨rfl, (HK4.out.drew.chg HG5.out ((HA4.out.below (bl_drew (bl_refl _))).notin HK4.out.drew (by decide) (by decide))), (HU4.out.drew.chg HG5.out ((HA4.out.below (bl_drew (bl_refl _))).notin HU4.out.drew (by decide) (by decide))), ⟨vs5, HA5.out, HO5.out⟩, HG4.out.drew.trans (HG5.out.more (G := b :: hoF bh vs vn) (fun k hk => List.mem_cons_of_mem _ hk)) (fun k hk => .inl hk)⟩
    case rest =>
      obtain ⟨rfl, K5, U5, ⟨vs5, A5, O5⟩, G5⟩ := hcut
      have HK5 := Lib.hid K5
      have HU5 := Lib.hid U5
      have HA5 := Lib.hid A5
      have HG5 := Lib.hid G5
      have HO5 := Lib.hid O5
      have k5c := K5.c
      have k5f := K5.f
      clear K5 U5 A5 G5 O5
      have nU := Lib.hid nUb
      go_upto_if 40 with fail
      go_cut [] (fun wx => BsAt wx b bh (x1.back k) ∧ Chg [b] wc wx)
      case first =>
        by_cases ha : 0 ≤ x1.again
        · have eb : x1.back k = { x1 with again := max 0 (x1.again - k) } := by unfold Bs.back; rw [if_pos ha]
          go_wp2
          all_goals
            go_meet
            case rel => exact ⟨(HK5.out.set 5 _).as (by rw [eb]; simp; omega), chg1 _ _ _ _⟩
        · have eb : x1.back k = x1 := by unfold Bs.back; rw [if_neg ha]
          go_wp2
          go_meet
          case rel => exact ⟨HK5.out.as (by rw [eb]), Chg.refl _ _⟩
      case rest =>
        obtain ⟨K6, G6⟩ := hcut
        have b5 : b ∉ hoF bh vs vn := hbn
        have a2 : -1 ≤ (x1.back k).again ∧ (x1.back k).again ≤ 127 := by unfold Bs.back; split <;> first | omega | (dsimp only; omega)
        have HU6 := Lib.hid (HU5.out.chg G6 (by simpa using nU.out))
        have HA6 := Lib.hid (HA5.out.other HK5.out (by decide) (by decide) (by decide) G6)
        have HG6 := Lib.hid (HG5.out.trans G6 (by simp))
        generalize hx2 : x1.back k = x2 at *
        have HX2 := Lib.hid hx2
        clear hx2
        have HK6 := Lib.hid K6
        clear K6 G6
        go_wp2
        have K6 := HK6.out
        refine wp_region_up (by kernel_rfl) (by kernel_rfl) ?_
        have up_K6 := fun (g : Up _) => (Blk.below K6 g.ok).c
        repeat (go_big_quiet_step (with_reducible exact Up.calls_same _ (HSent_c (HA6.out.below (Up.ok _)))))
        refine wpQuiet_nil ?_
        clear up_K6
        refine up_elim (fun w7 hb_w7 => ?_)
        have HK7 := Lib.hid (Blk.below K6 hb_w7)
        have k7c := HK7.out.c
        have k7f := HK7.out.f
        have HU7 := Lib.hid (HU6.out.below hb_w7)
        have HA7 := Lib.hid (HA6.out.below hb_w7)
        have HG7 := Lib.hid (HG6.out.below hb_w7)
        clear K6
        go_upto_if 60 with fail
        go_cut [] (fun wx => BsAt wx b bh (x2.over h'.sent.length) ∧ Chg [b] w7 wx)
        case first =>
          by_cases hov : (h'.sent.length : Int) ≤ x2.again
          · have eb : x2.over h'.sent.length = { x2 with again := -1 } := by unfold Bs.over; rw [if_pos hov]
            go_wp2
            go_meet
            case rel => exact ⟨(HK7.out.set 5 _).as (by rw [eb]; simp), chg1 _ _ _ _⟩
          · have eb : x2.over h'.sent.length = x2 := by unfold Bs.over; rw [if_neg hov]
            have hov' : x2.again < (h'.sent.length : Int) := by omega
            go_wp2
            go_meet
            case rel => exact ⟨HK7.out.as (by rw [eb]), Chg.refl _ _⟩
        case rest =>
          obtain ⟨K8, G8⟩ := hcut
          have HU8 := Lib.hid (HU7.out.chg G8 (by simpa using nU.out))
          have HA8 := Lib.hid (HA7.out.other HK7.out (by decide) (by decide) (by decide) G8)
          have HG8 := Lib.hid (HG7.out.trans G8 (by simp))
          clear k7c k7f k5c k5f G8
          generalize hx3 : x2.over h'.sent.length = x3 at *
          have HX3 := Lib.hid hx3
          clear hx3
          have U8 := HU8.out
          go_wp2
          refine wp_region_up (by kernel_rfl) (by kernel_rfl) ?_
          have up_K8 := fun (g : Up _) => (Blk.below K8 g.ok).c
          have up_U8 := fun (g : Up _) => (Blk.below U8 g.ok).c
          repeat (go_big_quiet_step (fail))
          refine wpQuiet_nil ?_
          clear up_K8 up_U8
          refine up_elim (fun w9 hb_w9 => ?_)
          have HK9 := Lib.hid (K8.below hb_w9)
          have k9c := HK9.out.c
          have k9f := HK9.out.f
          have u9c := (U8.below hb_w9).c
          have HA9 := Lib.hid (HA8.out.below hb_w9)
          have HG9 := Lib.hid (HG8.out.below hb_w9)
          have bU : w.heap.size ≠ b := nU.out
          clear K8 U8
          by_cases hbf : u.bib = x3.fib
          · have eb : x3.turn u.bib h'.sent.length = x3 := by unfold Bs.turn; rw [if_pos hbf]
            go_wp2
            all_goals try (exfalso; refine absurd (show (!(u.bib == x3.fib)) = true from ?_) ?_ <;> first | assumption | (rw [hbf]; simp; done) | fail)
            go_ret2
            exact ⟨rfl, ⟨vs5, HA9.out, HO5.out⟩, HK9.out.as (by rw [HX2.out, HX3.out, eb]), HG9.out⟩
          · have hne : (u.bib != x3.fib) = true := by simpa using hbf
            have ha9 := HA9.out.other HK9.out (by decide) (by decide) (by decide) ((chg1 w9 b 1 (.bool u.bib)).then (chg1 _ b 5 (.int .i64 (-1))))
            have hk9 := Lib.hid ((HK9.out.set 1 (.bool u.bib)).set 5 (.int .i64 (-1)))
            have HS9 := Lib.hid (HSent_c ha9)
            have HA := Lib.hid ha9
            clear ha9
            by_cases hs : 0 < h'.sent.length
            · have eb : x3.turn u.bib h'.sent.length = { x3 with fib := u.bib, again := 0 } := by unfold Bs.turn; rw [if_neg hbf, if_pos (by omega)]
              have hs' : (0 : Int) < h'.sent.length := by omega
              go_wp2_with (first | ((with_reducible refine HS9.out.mono ?_); rintro e w10 ⟨rfl, rfl⟩))
              all_goals try (exfalso; refine absurd (show (!(u.bib == x3.fib)) = false from ?_) ?_ <;> first | assumption | (simp only [Bool.not_eq_false', beq_iff_eq]; exact hbf) | fail)
              go_ret2
              exact ⟨rfl, ⟨vs5, HA.out.other hk9.out (by decide) (by decide) (by decide) (chg1 _ b 5 _), HO5.out⟩, (hk9.out.set 5 _).as (by rw [HX2.out, HX3.out, eb]; simp), ((HG9.out.trans (chg1 w9 b 1 (.bool u.bib)) (by simp)).trans (chg1 _ b 5 (.int .i64 (-1))) (by simp)).trans (chg1 _ b 5 _) (by simp)⟩
            · have eb : x3.turn u.bib h'.sent.length = { x3 with fib := u.bib, again := -1 } := by unfold Bs.turn; rw [if_neg hbf, if_neg (by omega)]
              have hs' : h'.sent.length = 0 := by omega
              go_wp2_with (first | ((with_reducible refine HS9.out.mono ?_); rintro e w10 ⟨rfl, rfl⟩))
              all_goals try (exfalso; refine absurd (show (!(u.bib == x3.fib)) = false from ?_) ?_ <;> first | assumption | (simp only [Bool.not_eq_false', beq_iff_eq]; exact hbf) | fail)
              go_ret2
              exact ⟨rfl, ⟨vs5, HA.out, HO5.out⟩, hk9.out.as (by rw [HX2.out, HX3.out, eb]; simp), (HG9.out.trans (chg1 w9 b 1 (.bool u.bib)) (by simp)).trans (chg1 _ b 5 (.int .i64 (-1))) (by simp)⟩
end
end Go.Proofs.YtcllbmjmefeknaaGreatK
