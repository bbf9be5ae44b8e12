/- The walk of hold.Rest. -/
import Derived.Test.YtdffinnnjcgfcaaGreatFe1
namespace Go.Proofs.YtdffinnnjcgfcaaGreatK
open Go Go.RowKit
set_option linter.unusedVariables false
set_option maxHeartbeats 60000000
set_option maxRecDepth 100000
theorem HRest_no {w : World} {b : Nat} {h : Ho} {vs vn : Value} (hh : HoAt w b h vs vn) (ho : h.ok) (n : Int) (h0 : 0 ≤ n) (h1 : n ≤ 255) (hn : h.knows n = false) :
    Calls Tryz.prog 96 #[.pointer (some ⟨b, 0, none⟩), .int .u8 n] w fun e w' => ∃ v, e = .returned (.tuple #[v, .int .i64 (h.rest n).2]) ∧ MsgV w' v (h.rest n).1 ∧ Below w.heap.size w w' ∧ ∀ g ∈ own v, w.heap.size ≤ g := by
  have D := Lib.hid (hn ▸ HKnows_c hh ho n h0 h1)
  have e : h.rest n = ([], 10) := by unfold Ho.rest; rw [if_neg (by rw [hn]; decide)]
  rw [e]
  clear hh ho hn e
  go_enter Tryz.func96, Tryz.ntmps96
  go_wp2_with (first | ((with_reducible refine D.out.mono ?_); rintro e w1 ⟨rfl, hb1⟩))
  go_ret2
  exact ⟨_, rfl, ⟨[], Row.nil _ _ _, by simp⟩, hb1, by simp [own, Value.ownBlock]⟩
/-- What is behind the messages' row: its length, and that nothing of it was taken yet. -/
def RestL (w wx : World) (ls : Nat) (rs : List Value) (l n i : Value) : Prop := Row wx 27 1 l ls rs ∧ Below w.heap.size w wx ∧ n = .int .i64 ls ∧ i = .int .i64 0
/-- The middle of a row, cut to its own length. -/
theorem Row.cut3 {w : World} {e : TypeId} {a : Option Addr} {k cap kg : Nat} {xs : List Value} (h : Row w e 1 (.slice a k cap) k xs) (g n : Nat) (hg : g ≤ k) (hn : n = k) (hk : k - g = kg) :
    Row w e 1 (.slice (if n = g then a else a.map (fun x => x.add g)) kg kg) kg (xs.drop g) ∧ ∀ a' c', Value.slice (if n = g then a else a.map (fun x => x.add g)) kg kg = .slice (some a') kg c' → c' = kg := by
  subst hn hk
  refine ⟨⟨by have := h.1; simp at this ⊢; omega, ?_⟩, fun a' c' e => by simp only [Value.slice.injEq] at e; exact e.2.2.symm⟩
  rcases h.2 with ⟨e, h0⟩ | ⟨b, off, cap', cs, e, h1, h2, h3, h4, h5⟩
  · simp only [Value.slice.injEq] at e
    obtain ⟨rfl, h0, rfl⟩ := e
    exact .inl ⟨by simp; omega, by omega⟩
  · simp only [Value.slice.injEq, true_and] at e
    obtain ⟨rfl, rfl⟩ := e
    by_cases hc : n = g
    · rw [if_pos hc]
      refine .inr ⟨b, off, n - g, cs, rfl, Nat.le_refl _, by omega, h3, by omega, fun j u hu => ?_⟩
      rw [List.drop_eq_nil_of_le (by have := h.1; omega)] at hu
      simp at hu
    · rw [if_neg hc]
      refine .inr ⟨b, off + g, n - g, cs, by simp [Addr.add], Nat.le_refl _, by omega, h3, by omega, fun j u hu => ?_⟩
      rw [List.getElem?_drop] at hu
      rw [show off + g + j = off + (g + j) by omega]
      exact h5 _ u hu
theorem Row.at {w : World} {e : TypeId} {a : Option Addr} {n c : Nat} {xs : List Value} (h : Row w e 1 (.slice a n c) n xs) (k : Nat) (u : Value) (hk : xs[k]? = some u) : ∃ bl off, a = some ⟨bl, off, none⟩ ∧ w.cell? ⟨bl, off + k, none⟩ = some u := by
  rcases h.2 with ⟨_, h0⟩ | ⟨bl, off, cap, cs, e', h1, h2, h3, h4, h5⟩
  · have := h.1
    have := (List.getElem?_eq_some_iff.1 hk).1
    omega
  · simp only [Value.slice.injEq, true_and] at e'
    exact ⟨bl, off, e'.1, by rw [h3.c]; exact h5 k u hk⟩
theorem HRest_yes {w : World} {b : Nat} {h : Ho} {vs vn : Value} (hh : HoAt w b h vs vn) (ho : h.ok) (n : Int) (h0 : 0 ≤ n) (h1 : n ≤ 255) (hn : h.knows n = true) :
    Calls Tryz.prog 96 #[.pointer (some ⟨b, 0, none⟩), .int .u8 n] w fun e w' => ∃ v, e = .returned (.tuple #[v, .int .i64 (h.rest n).2]) ∧ MsgV w' v (h.rest n).1 ∧ Below w.heap.size w w' ∧ ∀ g ∈ own v, w.heap.size ≤ g := by
  have D := Lib.hid (hn ▸ HKnows_c hh ho n h0 h1)
  obtain ⟨hg0, hg1⟩ := Ho.gap_le ho hn
  obtain ⟨g, hg⟩ : ∃ g : Nat, h.gap n = g := ⟨(h.gap n).toNat, by omega⟩
  have e : h.rest n = (h.sent.drop g ++ h.next, 0) := by unfold Ho.rest; rw [if_pos hn, hg]; rfl
  rw [e]
  have long : ∀ p ∈ h.sent.drop g ++ h.next, p.length ≤ 1000 := fun p hp => by
    rcases List.mem_append.1 hp with hp | hp
    · have := ho.lons p (List.mem_of_mem_drop hp); omega
    · have := ho.long p hp; omega
  have LONG := Lib.hid long
  clear long
  obtain ⟨svs, SR, SM⟩ := hh.sent.reads
  obtain ⟨nvs, NR, NM⟩ := hh.next.reads
  have l1 := ho.all
  have hf := ho.first
  have G1 := Lib.hid (fun w' => Prev_c h.first w' (by omega) (by omega))
  have G2 := Lib.hid (fun w' => show Calls Tryz.prog 129 #[.int .u8 ((h.first + 127) % 128), .int .u8 n] w' fun e w'' => e = .returned (.int .i64 g) ∧ w' = w'' from by
    have := Gap_c ((h.first + 127) % 128) n w' (by omega) (by omega) h0 h1
    rw [← hg]
    exact this)
  have HB := Lib.hid hh.blk
  clear e hn
  have NM1 := Lib.hid NM.one
  have SMH := Lib.hid SM
  have NMH := Lib.hid NM
  have ml : h.sent.length ≤ 127 := ho.sent
  have nl : h.next.length ≤ 512 := by omega
  obtain ⟨ks, hks⟩ : ∃ ks, h.sent.length = ks := ⟨_, rfl⟩
  obtain ⟨ns, hns⟩ : ∃ ns, h.next.length = ns := ⟨_, rfl⟩
  rw [hks] at SR ml hg1
  rw [hns] at NR nl
  obtain ⟨an, cn, rfl, hcn⟩ := NR.shape
  have HNR := Lib.hid NR
  have HSR := Lib.hid SR
  have HKS := Lib.hid hks
  have HNS := Lib.hid hns
  have glk : g ≤ ks := by omega
  clear NR SR SM NM l1 hg hg0 hg1 ho hh hks hns
  obtain ⟨sa, sc, rfl, hsc⟩ := HSR.out.shape
  obtain ⟨kg, hkg⟩ : ∃ kg, ks - g = kg := ⟨_, rfl⟩
  have RD := Lib.hid ((SMH.out.drop g).append NMH.out)
  obtain ⟨rs, hrs⟩ : ∃ rs, svs.drop g ++ nvs = rs := ⟨_, rfl⟩
  rw [hrs] at RD
  have HRS := Lib.hid hrs
  clear hrs
  have RV := Lib.hid (HSR.out.cut3 g ks glk rfl hkg)
  obtain ⟨xs, hxs⟩ : ∃ xs, List.drop g h.sent ++ h.next = xs := ⟨_, rfl⟩
  rw [hxs] at RD LONG ⊢
  clear hxs
  go_enter Tryz.func96, Tryz.ntmps96
  go_upto_region 5 with (first | ((with_reducible refine D.out.mono ?_); rintro e w1 ⟨rfl, hb1⟩; (have K1 := Lib.hid (HB.out.below hb1)); (have k1c := K1.out.c); (have HB1 := Lib.hid (bl_drew hb1))))
  go_cut [37, 38, 39] (fun l n' i wx => RestL w wx (kg + ns) rs l n' i)
  case first =>
    by_cases hq : ks = g
    · have RV1 := RV.out
      rw [if_pos hq] at RV1
      have RW := Lib.hid RV1
      have hq' : (ks = g) = True := eq_true hq
      clear RV RV1 hq
      go_region_law (first
        | (refine step_row_join _ rfl (.tmp 32) (.tmp 36) 81 rfl 27 Tryz.t27 (.slice none 0 0) 24 Tryz.underlying81 rfl rfl rfl rfl rfl (.slice sa kg kg) kg (svs.drop g) rfl (RW.out.1.below HB1.out) RW.out.2 (.slice an ns cn) ns nvs rfl (HNR.out.below HB1.out) NM1.out (by simp [maxLen]; omega) (by omega) ?_; intro v6 w6 R6 B6; have HR6 := Lib.hid R6; have HB6 := Lib.hid (bl_then HB1.out B6); obtain ⟨a6, c6, rfl, hcap6⟩ := R6.shape; clear R6 B6)
        | (go_simp; (with_reducible refine (G1.out _).mono ?_); rintro e w4 ⟨rfl, rfl⟩)
        | (go_simp; (with_reducible refine (G2.out _).mono ?_); rintro e w4 ⟨rfl, rfl⟩))
      all_goals
        go_wp2
        go_meet
        case rel => exact ⟨by rw [← HRS.out]; exact HR6.out, HB6.out, by simp, rfl⟩
    · have RV1 := RV.out
      rw [if_neg hq] at RV1
      have RW := Lib.hid RV1
      clear RV RV1
      go_region_law (first
        | (refine step_row_join _ rfl (.tmp 32) (.tmp 36) 81 rfl 27 Tryz.t27 (.slice none 0 0) 24 Tryz.underlying81 rfl rfl rfl rfl rfl (.slice (Option.map (fun x => x.add g) sa) kg kg) kg (svs.drop g) rfl (RW.out.1.below HB1.out) RW.out.2 (.slice an ns cn) ns nvs rfl (HNR.out.below HB1.out) NM1.out (by simp [maxLen]; omega) (by omega) ?_; intro v6 w6 R6 B6; have HR6 := Lib.hid R6; have HB6 := Lib.hid (bl_then HB1.out B6); obtain ⟨a6, c6, rfl, hcap6⟩ := R6.shape; clear R6 B6)
        | (go_simp; (with_reducible refine (G1.out _).mono ?_); rintro e w4 ⟨rfl, rfl⟩)
        | (go_simp; (with_reducible refine (G2.out _).mono ?_); rintro e w4 ⟨rfl, rfl⟩))
      all_goals
        go_wp2
        go_meet
        case rel => exact ⟨by rw [← HRS.out]; exact HR6.out, HB6.out, by simp, rfl⟩
  case rest =>
    obtain ⟨R9, B9, rfl, rfl⟩ := hcut
    obtain ⟨a9, c9, rfl, hc9⟩ := R9.shape
    obtain ⟨N, hN⟩ : ∃ N : Nat, kg + ns = N := ⟨_, rfl⟩
    rw [hN] at R9 hc9
    simp only [hN]
    have HR9 := Lib.hid R9
    have HB9 := Lib.hid B9
    have HX : xs.length = N := by
      have h1 := RD.out.1
      have h2 := R9.1
      omega
    have N1 : N ≤ 639 := by omega
    clear R9 B9 hN RV HRS HNR HSR HKS HNS
    go_wp2
    go_loopw [6, 39] (fun l i wr => ∃ k : Nat, k ≤ N ∧ i = .int .i64 k ∧ Below w.heap.size w wr ∧ wc.heap.size ≤ wr.heap.size ∧ MsgV wr l (xs.take k) ∧ (∀ q ∈ own l, wc.heap.size ≤ q) ∧ Row wr 27 1 (.slice a9 N c9) N rs) (fun _ i _ => N - (intOf i).toNat)
    case atStart => exact ⟨0, by omega, rfl, HB9.out, Nat.le_refl _, ⟨[], Row.nil _ _ _, by simp⟩, by simp [own, Value.ownBlock], HR9.out⟩
    case round =>
      obtain ⟨k, hk, rfl, B, Z, M, O, R⟩ := hrel
      by_cases hlt : k < N
      · have hlt' : (k : Int) < N := by omega
        have hx : xs[k]? = some (xs[k]'(by omega)) := List.getElem?_eq_getElem _
        generalize xs[k]'(by omega) = p at hx
        obtain ⟨u, hu, y⟩ := RD.out.2 k p hx
        obtain ⟨bl, off, rfl, hcell⟩ := R.at k u hu
        have HC := Lib.hid (Clone_c (Byt.below y B).i0 (LONG.out p (List.mem_of_getElem? hx)))
        have HK := Lib.hid (And.intro B (And.intro Z (And.intro M (And.intro O R))))
        have HU := Lib.hid hx
        obtain ⟨vsl, RL, ML⟩ := M.reads
        rw [show (xs.take k).length = k by rw [List.length_take]; omega] at RL
        have HRL := Lib.hid RL
        have HML := Lib.hid ML
        clear B Z M O R y hu hx RL ML
        go_wp2_with (first
          | ((with_reducible refine HC.out.mono ?_); rintro e w4 ⟨v4, rfl, y4, b4, o4⟩; obtain ⟨q4, d4, rfl, _⟩ := y4.1.shape; have B4 := Lib.hid b4; have Y4 := Lib.hid y4; have hlen4 := hcell; clear y4 b4 o4)
          | (refine wpList_row_append _ rfl (.tmp 43) (.tmp 46) 81 rfl 27 Tryz.t27 (.slice none 0 0) 1 24 Tryz.underlying81 rfl rfl rfl rfl rfl (by decide) _ k vsl rfl (HRL.out.below (bl_then B4.out (bl_alloc (bl_refl w4) (.cells #[.slice q4 p.length d4] 27)))) ⟨w4.heap.size, 0, none⟩ 1 1 [.slice q4 p.length d4] rfl rfl (fun j u hu => by
                rw [Addr.add_lit, (Blk.new w4 _ _).c, Nat.zero_add]; simpa using hu) (by simp [Value.oneCell']) (by decide) (by simp [maxLen]; omega) (by omega) ?_; intro v6 w6 R6 C6 O6; have HR6 := Lib.hid R6; have HC6 := Lib.hid C6; have HO6 := Lib.hid O6; clear R6 C6 O6))
        obtain ⟨B, Z, M, O, R⟩ := HK.out
        have B45 := bl_then B4.out (bl_alloc (bl_refl w4) (.cells #[.slice q4 p.length d4] 27))
        have R5 := HRL.out.below B45
        have off5 : Off (w4.alloc (.cells #[.slice q4 p.length d4] 27)) 5 (own u6) := fun g hg => by
          obtain ⟨cs, h1⟩ := R5.blk g hg
          exact ⟨cs, _, h1, by decide⟩
        have s1 := HB9.out.size
        have s2 := B45.size
        have s3 := HC6.out.size
        have hlt2 := HR9.out.lt
        have tk : xs.take (k + 1) = xs.take k ++ [p] := by rw [List.take_add_one, HU.out]; rfl
        have tl : (xs.take k).length = k := by rw [List.length_take]; omega
        go_roundw
        case rel =>
          refine ⟨k + 1, by omega, by go_num, (bl_then B B45).trans (HC6.out.to_below (by omega) (fun q hq => Nat.le_trans s1 (O q hq))), by omega, ?_, fun q hq => ?_, (R.below B45).chg HC6.out (fun q hq hq' => ?_)⟩
          · rw [tk]
            exact Msgs.snoc (HML.out.below B45).2 HML.out.1 off5 HC6.out (by rw [tl]; exact HR6.out) ((Byt.below Y4.out (bl_alloc (bl_refl w4) _)).stay off5 HC6.out)
          · rcases HO6.out q hq with h | h
            · exact O q h
            · omega
          · have h1 := hlt2 q hq
            have h2 := O q hq'
            omega
        case measure => simp [intOf]; omega
      · obtain rfl : k = N := by omega
        have kk : ¬ (k : Int) < k := by omega
        have HK := Lib.hid (And.intro B (And.intro M O))
        clear B Z M O R
        go_wp2
        go_ret2
        obtain ⟨B, M, O⟩ := HK.out
        rw [List.take_of_length_le (by omega)] at M
        exact ⟨_, rfl, M, B, fun q hq => Nat.le_trans HB9.out.size (O q hq)⟩
end Go.Proofs.YtdffinnnjcgfcaaGreatK
