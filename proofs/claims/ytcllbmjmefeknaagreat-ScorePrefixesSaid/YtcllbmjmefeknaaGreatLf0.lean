/- Next of a link that is out: nothing that was there is changed. -/
import Derived.Test.YtcllbmjmefeknaaGreatLw0
namespace Go.Proofs.YtcllbmjmefeknaaGreatK
open Go Go.RowKit
set_option linter.unusedVariables false
set_option maxHeartbeats 1000000
set_option maxRecDepth 100000
theorem NextOut_c {w : World} {b : Nat} {x : St} {L : Lay} (h : StAt w b x L) (ho : x.h.ok) (h0 : x.S = 0) :
    Calls Tryz.prog 125 #[.pointer (some ⟨b, 0, none⟩)] w fun e w' => e = .returned ((x.stat x.a.sends).v nil0) ∧ Below w.heap.size w w' := by
  obtain ⟨s, S, c, a, j, o, wy, oa, leak, told, fails⟩ := x
  have B1 := Lib.hid (bl_alloc (bl_refl w) (.cells Un.zeros 188))
  have S1 := Lib.hid (h.below B1.out)
  have N1 := Lib.hid (Blk.new w Un.zeros 188)
  have HO := Lib.hid ho
  clear h ho
  obtain ⟨u, hu⟩ : ∃ u, St.stat ⟨s, S, c, a, j, o, wy, oa, leak, told, fails⟩ a.sends = u := ⟨_, rfl⟩
  have CS := Lib.hid (fun (w' : World) (hb : Below (w.alloc (.cells Un.zeros 188)).heap.size (w.alloc (.cells Un.zeros 188)) w') => hu ▸ WStatus_c (S1.out.below hb) HO.out a.sends)
  have CA := Lib.hid (fun g : Up (w.alloc (.cells Un.zeros 188)) => ASends_c (S1.out.al.below g.ok))
  show Calls _ _ _ w fun e w' => e = .returned ((St.stat ⟨s, S, c, a, j, o, wy, oa, leak, told, fails⟩ a.sends).v nil0) ∧ Below w.heap.size w w'
  rw [hu]
  clear hu
  obtain ⟨bsn, fsn, bib, fib, kind, status, wide, info⟩ := u
  dsimp only at h0
  subst h0
  have K1 := S1.out.st
  have k1c := K1.c
  go_enter Tryz.func125, Tryz.ntmps125
  go_wp2
  refine wp_region_up_tail 9 (by kernel_rfl) (by kernel_rfl) ?_
  simp only [List.take_succ_cons, List.take_zero, List.drop_succ_cons, List.drop_zero]
  have up_K1 := fun (g : Up _) => (Blk.below K1 g.ok).c
  repeat (go_big_quiet_step (with_reducible exact Up.calls_same _ (CA.out _)))
  refine wpQuiet_nil ?_
  clear up_K1
  refine up_elim (fun w2 hb_w2 => ?_)
  have N2 := Lib.hid (N1.out.below hb_w2)
  go_wp2_with (first | ((with_reducible refine (CS.out _ hb_w2).mono ?_); rintro e w3 ⟨rfl, hb3⟩; (have N3 := Lib.hid (N2.out.below hb3)); (have n3c := N3.out.c); (have n3f := N3.out.f)))
  refine bodyPost_ret (res_c rfl Un.laid rfl (N3.out.all8 _ _ _ _ _ _ _ _) rfl) rfl ⟨rfl, ?_⟩
  repeat (refine bl_set ?_ (Nat.le_refl _) _)
  exact bl_then (bl_then B1.out hb_w2) hb3
theorem Lk.next0 {w0 w : World} {b : Nat} {x : St} {n : Int} (h : Lk w0 w b x n) (h0 : x.S = 0) :
    Calls Tryz.prog 125 #[.pointer (some ⟨b, 0, none⟩)] w fun e w' => e = .returned ((x.stat x.a.sends).v nil0) ∧ Below w.heap.size w w' := by
  obtain ⟨L, S, F⟩ := h.v.lay
  exact NextOut_c S h.k.h h0
theorem below_cell {w w' : World} {a : Addr} {v : Value} (h : Below w.heap.size w w') (hc : w.cell? a = some v) : w'.cell? a = some v := by
  rw [h.cell (World.block_lt_of_cell? w a hc)]
  exact hc
end Go.Proofs.YtcllbmjmefeknaaGreatK
