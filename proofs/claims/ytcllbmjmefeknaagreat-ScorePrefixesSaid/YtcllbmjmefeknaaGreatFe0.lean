/- A law's own list of messages beside a link: both stay as the other one changes (layer 18). -/
import Derived.Test.YtcllbmjmefeknaaGreatLab
import Derived.Test.YtcllbmjmefeknaaGreatMf
namespace Go.Proofs.YtcllbmjmefeknaaGreatK
open Go Go.RowKit
set_option linter.unusedVariables false
set_option maxHeartbeats 1000000
set_option maxRecDepth 100000
/-- A link, and a list of messages that is none of its blocks. -/
structure Lm (w0 w : World) (b : Nat) (x : St) (n : Int) (v : Value) (l : List Oct) : Prop where
  k : x.ok
  f : x.few n
  m : ∃ L, StAt w b x L ∧ Below w0.heap.size w0 w ∧ (∀ k ∈ stF b L, w0.heap.size ≤ k) ∧ MsgV w v l ∧ (∀ g ∈ own v, g ∉ stF b L) ∧ (∀ g ∈ own v, w0.heap.size ≤ g)
section
variable {w0 w : World} {b : Nat} {x : St} {n : Int} {v : Value} {l : List Oct}
theorem Lm.lk (h : Lm w0 w b x n v l) : Lk w0 w b x n := by
  obtain ⟨L, S, B, F, _⟩ := h.m
  exact ⟨⟨B, L, S, F⟩, h.k, h.f⟩
theorem Lm.msg (h : Lm w0 w b x n v l) : MsgV w v l := h.m.choose_spec.2.2.2.1
theorem Lk.lm (h : Lk w0 w b x n) : Lm w0 w b x n nil0 [] := by
  obtain ⟨L, S, F⟩ := h.v.lay
  exact ⟨h.k, h.f, L, S, h.v.bel, F, ⟨[], Row.nil _ _ _, by simp⟩, by simp [own, Value.ownBlock], by simp [own, Value.ownBlock]⟩
theorem Lm.below {w1 : World} (h : Lm w0 w b x n v l) (hb : Below w.heap.size w w1) : Lm w0 w1 b x n v l := by
  obtain ⟨L, S, B, F, M, D, G⟩ := h.m
  exact ⟨h.k, h.f, L, S.below hb, bl_then B hb, F, M.below hb, D, G⟩
theorem Lm.to {y : St} {m : Int} (h : Lm w0 w b x n v l) (e : y = x) (hn : n ≤ m) : Lm w0 w b y m v l := e ▸ ⟨h.k, h.f.le hn, h.m⟩
/-- What an operation on the link leaves of both. -/
theorem Lm.step {w' : World} {L : Lay} {y : St} {m : Int} (S : StAt w b x L) (B : Below w0.heap.size w0 w) (F : ∀ k ∈ stF b L, w0.heap.size ≤ k) (M : MsgV w v l) (D : ∀ g ∈ own v, g ∉ stF b L) (G : ∀ g ∈ own v, w0.heap.size ≤ g) (T : StTo w w' b y L) (hk : y.ok) (hf : y.few m) : Lm w0 w' b y m v l := by
  have V := Lv.of B F T
  obtain ⟨L', S', C, O⟩ := T
  have lt : ∀ g ∈ own v, g < w.heap.size := M.row.choose_spec.lt
  refine ⟨hk, hf, L', S', V.bel, fun k hk => ?_, Msgs.stay M (S.typed.off (by decide)) C D, fun g hg hgF => ?_, G⟩
  · rcases O k hk with h | h
    · exact F k h
    · exact Nat.le_trans B.size h
  · rcases O g hgF with h | h
    · exact D g hg h
    · have := lt g hg; omega
theorem Lm.tick (h : Lm w0 w b x n v l) (hn : n ≤ 800000) :
    Calls Tryz.prog 100 #[.pointer (some ⟨b, 0, none⟩)] w fun e w' => e = .returned (.tuple #[]) ∧ Lm w0 w' b x.tick (n + 8) v l ∧ Kp w w' := by
  obtain ⟨L, S, B, F, M, D, G⟩ := h.m
  exact (STick_c S h.k (h.f.le (by omega))).mono fun e w' ⟨he, T⟩ => ⟨he, .step S B F M D G T (St.ok_tick h.k) (St.few_tick h.f), Kp.of S T⟩
theorem Lm.order (h : Lm w0 w b x n v l) (hn : n ≤ 800000) (k : Int) {vp : Value} {p : Oct} (hv : BytI w [] vp p) (hl : p.length ≤ 100000) :
    Calls Tryz.prog 105 #[.pointer (some ⟨b, 0, none⟩), .agg #[.int .u8 k, vp]] w fun e w' => e = .returned (.int .i64 (x.order k p).2) ∧ Lm w0 w' b (x.order k p).1 (n + 1) v l ∧ Kp w w' := by
  obtain ⟨L, S, B, F, M, D, G⟩ := h.m
  exact (Order_c S h.k (h.f.le (by omega)) k hv hl).mono fun e w' ⟨he, T⟩ => ⟨he, .step S B F M D G T (St.ok_order h.k _ _) (St.few_order h.f _ _), Kp.of S T⟩
theorem Lm.order0 (h : Lm w0 w b x n v l) (k : Int) (hn : n ≤ 800000) :
    Calls Tryz.prog 105 #[.pointer (some ⟨b, 0, none⟩), .agg #[.int .u8 k, nil0]] w fun e w' => e = .returned (.int .i64 (x.order k []).2) ∧ Lm w0 w' b (x.order k []).1 (n + 1) v l ∧ Kp w w' := h.order hn k byt_nil.i0 (by simp)
theorem Lm.next (h : Lm w0 w b x n v l) :
    Calls Tryz.prog 125 #[.pointer (some ⟨b, 0, none⟩)] w fun e w' => ∃ vi, e = .returned (x.next.2.v vi) ∧ BytV w' vi x.next.2.info ∧ Lm w0 w' b x.next.1 n v l ∧ Kp w w' := by
  obtain ⟨L, S, B, F, M, D, G⟩ := h.m
  exact (SNext_c S h.k).mono fun e w' ⟨⟨vi, he, hv, _⟩, T⟩ => ⟨vi, he, hv, .step S B F M D G T (St.ok_next h.k) (St.few_next h.f), Kp.of S T⟩
theorem Lm.hearN (h : Lm w0 w b x n v l) (hn : n ≤ 800000) {u : Un} {vi : Value} (hu : u.ok) (hv : BytI w [] vi u.info) (ho : NoLk w vi) :
    Calls Tryz.prog 123 #[.pointer (some ⟨b, 0, none⟩), u.v vi] w fun e w' => e = .returned (.tuple #[]) ∧ Lm w0 w' b (x.hear u) (n + 6) v l ∧ Kp w w' := by
  obtain ⟨L, S, B, F, M, D, G⟩ := h.m
  have hI : BytI w (stF b L) vi u.info := hv.off fun g hg hF => by
    obtain ⟨o, h1, h2⟩ := ho g hg
    obtain ⟨cs, t, h3, h4⟩ := S.typed g hF
    exact h2 cs t (Option.some.inj (h1.symm.trans h3)) h4
  exact (Hear_c S h.k (h.f.le (by omega)) hu hI).mono fun e w' ⟨he, T⟩ => ⟨he, .step S B F M D G T (St.ok_hear h.k _) (St.few_hear h.f _), Kp.of S T⟩
/-- A block that is none of theirs is written. -/
theorem Lk.farB (h : Lk w0 w b x n) {g : Nat} {cs : Array Value} {t : TypeId} (hg : Blk w g cs t) (ht : t ∉ linkTs) (h8 : t ≠ 5) (h0 : w0.heap.size ≤ g) (i : Nat) (u : Value) : Lk w0 (w.setCell ⟨g, i, none⟩ u) b x n := by
  obtain ⟨L, S, F⟩ := h.v.lay
  refine ⟨⟨bl_set h.v.bel h0 u, L, S.far (F := [g]) (off1 hg h8) (fun k hk hkg => ?_) (chg1 w g i u), F⟩, h.k, h.f⟩
  obtain ⟨cs', t', h1, h2⟩ := S.typed k hk
  obtain rfl : k = g := by simpa using hkg
  exact h1.ne hg (fun e => ht (e ▸ h2)) rfl
theorem Lm.far (h : Lm w0 w b x n v l) {g : Nat} {cs : Array Value} {t : TypeId} (hg : Blk w g cs t) (ht : t ∉ linkTs) (h8 : t ≠ 5) (hl : t ≠ 25) (h0 : w0.heap.size ≤ g) (i : Nat) (u : Value) : Lm w0 (w.setCell ⟨g, i, none⟩ u) b x n v l := by
  obtain ⟨L, S, B, F, M, D, G⟩ := h.m
  refine ⟨h.k, h.f, L, S.far (F := [g]) (off1 hg h8) (fun k hk hkg => ?_) (chg1 w g i u), bl_set B h0 u, F, Msgs.stay M (off1 hg h8) (chg1 w g i u) (fun k hk hkg => ?_), D, G⟩
  · obtain ⟨cs', t', h1, h2⟩ := S.typed k hk
    obtain rfl : k = g := by simpa using hkg
    exact h1.ne hg (fun e => ht (e ▸ h2)) rfl
  · obtain ⟨vs, R, _⟩ := M
    obtain ⟨cs', h1⟩ := R.blk k hk
    obtain rfl : k = g := by simpa using hkg
    exact h1.ne hg (fun e => hl e.symm) rfl
theorem noLk_nil : NoLk w nil0 := fun g hg => by simp [own, Value.ownBlock] at hg
/-- The list grows by one. -/
theorem Lm.grow {w1 : World} {vs : List Value} {v' u : Value} {p : Oct} {L : Lay} (hk : x.ok) (hf : x.few n) (S : StAt w b x L) (B : Below w0.heap.size w0 w) (F : ∀ k ∈ stF b L, w0.heap.size ≤ k) (R : Row w 25 1 v l.length vs)
    (hv : ∀ (j : Nat) (x : List Int), l[j]? = some x → ∃ u, vs[j]? = some u ∧ BytV w u x) (D : ∀ g ∈ own v, g ∉ stF b L) (G : ∀ g ∈ own v, w0.heap.size ≤ g) (hp : BytV w u p)
    (R1 : Row w1 25 1 v' (l.length + 1) (vs ++ [u])) (C : Chg (own v) w w1) (O : ∀ g ∈ own v', g ∈ own v ∨ w.heap.size ≤ g) : Lm w0 w1 b x n v' (l ++ [p]) := by
  have off : Off w 5 (own v) := fun g hg => by
    obtain ⟨cs, h1⟩ := R.blk g hg
    exact ⟨cs, _, h1, by decide⟩
  have Slt := S.lt
  refine ⟨hk, hf, L, S.far off (fun k hk hkv => D k hkv hk) C, B.trans (C.to_below B.size G), F, ?_, fun g hg hgF => ?_, fun g hg => ?_⟩
  · exact Msgs.snoc hv (by simpa using R.1) off C R1 (hp.stay off C)
  · rcases O g hg with h | h
    · exact D g h hgF
    · have := Slt g hgF; omega
  · rcases O g hg with h | h
    · exact G g h
    · exact Nat.le_trans B.size h
end
end Go.Proofs.YtcllbmjmefeknaaGreatK
