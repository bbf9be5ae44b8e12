/- Two links side by side: what one does leaves the other one (layer 18). -/
import Derived.Test.YtdffinnnjcgfcaaGreatLab
namespace Go.Proofs.YtdffinnnjcgfcaaGreatK
open Go Go.RowKit
set_option linter.unusedVariables false
set_option maxHeartbeats 1000000
set_option maxRecDepth 100000
/-- Two links that share nothing. -/
structure Two (w0 w : World) (a : Nat) (x : St) (n : Int) (b : Nat) (y : St) (m : Int) : Prop where
  kx : x.ok
  fx : x.few n
  ky : y.ok
  fy : y.few m
  m : ∃ La Lb, StAt w a x La ∧ StAt w b y Lb ∧ (∀ k ∈ stF a La, w0.heap.size ≤ k) ∧ (∀ k ∈ stF b Lb, w0.heap.size ≤ k) ∧ (∀ k ∈ stF a La, k ∉ stF b Lb) ∧ Below w0.heap.size w0 w
section
variable {w0 w w1 : World} {a b : Nat} {x y : St} {n m : Int}
theorem Two.of (h : Lk w0 w1 a x n) (k : Lk w1 w b y m) : Two w0 w a x n b y m := by
  obtain ⟨La, Sa, Fa⟩ := h.v.lay
  obtain ⟨Lb, Sb, Fb⟩ := k.v.lay
  refine ⟨h.k, h.f, k.k, k.f, La, Lb, Sa.below k.v.bel, Sb, Fa, fun g hg => Nat.le_trans h.v.bel.size (Fb g hg), fun g hg hg' => ?_, bl_then h.v.bel k.v.bel⟩
  have h1 := Sa.lt g hg
  have h2 := Fb g hg'
  omega
theorem Two.symm (h : Two w0 w a x n b y m) : Two w0 w b y m a x n := by
  obtain ⟨La, Lb, Sa, Sb, Fa, Fb, D, B⟩ := h.m
  exact ⟨h.ky, h.fy, h.kx, h.fx, Lb, La, Sb, Sa, Fb, Fa, fun k hk hk' => D k hk' hk, B⟩
theorem Two.lk (h : Two w0 w a x n b y m) : Lk w0 w a x n := by
  obtain ⟨La, Lb, Sa, Sb, Fa, Fb, D, B⟩ := h.m
  exact ⟨⟨B, La, Sa, Fa⟩, h.kx, h.fx⟩
theorem Two.lk2 (h : Two w0 w a x n b y m) : Lk w0 w b y m := h.symm.lk
theorem Two.below (h : Two w0 w a x n b y m) (hb : Below w.heap.size w w1) : Two w0 w1 a x n b y m := by
  obtain ⟨La, Lb, Sa, Sb, Fa, Fb, D, B⟩ := h.m
  exact ⟨h.kx, h.fx, h.ky, h.fy, La, Lb, Sa.below hb, Sb.below hb, Fa, Fb, D, bl_then B hb⟩
theorem Two.order0 (h : Two w0 w a x n b y m) (k : Int) (hn : n ≤ 800000) :
    Calls Tryz.prog 26 #[.pointer (some ⟨a, 0, none⟩), .agg #[.int .u8 k, nil0]] w fun e w' => e = .returned (.int .i64 (x.order k []).2) ∧ Two w0 w' a (x.order k []).1 (n + 1) b y m := by
  obtain ⟨La, Lb, Sa, Sb, Fa, Fb, D, B⟩ := h.m
  refine (Order_c Sa h.kx (h.fx.le (by omega)) k (byt_nil (w := w)).i0 (by simp)).mono fun e w' ⟨he, T⟩ => ⟨he, ?_⟩
  obtain ⟨L', S', G, O⟩ := T
  have sl := Sb.lt
  refine ⟨St.ok_order h.kx _ _, St.few_order h.fx _ _, h.ky, h.fy, L', Lb, S', Sb.far (F := stF a La) (Sa.typed.off (by decide)) (fun g hg hg' => D g hg' hg) G, fun g hg => ?_, Fb, fun g hg hg' => ?_, B.trans (G.to_below B.size Fa)⟩
  · rcases O g hg with h | h
    · exact Fa g h
    · exact Nat.le_trans B.size h
  · rcases O g hg with h | h
    · exact D g h hg'
    · have := sl g hg'; omega
end
end Go.Proofs.YtdffinnnjcgfcaaGreatK
