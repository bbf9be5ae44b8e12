/- The walks of the reference's Flag, Text, Same; layer 19's example. -/
import Derived.Test.YtdffinnnjcgfcaaGreatRf1
import Derived.Test.YtdffinnnjcgfcaaGreatTe7
namespace Go.Proofs.YtdffinnnjcgfcaaGreatK
open Go Go.RowKit
set_option linter.unusedVariables false
set_option maxHeartbeats 20000000
set_option maxRecDepth 100000
theorem KFlag_c (w : World) : Calls Tryz.prog 62 #[] w fun e w' => ∃ v', e = .returned v' ∧ Acc w w' v' flagB := by
  go_enter Tryz.func62, Tryz.ntmps62
  go_wp2
  go_ret
  refine ⟨_, rfl, bl_alloc (bl_refl w) _, ⟨by simp [flagB], .inr ⟨w.heap.size, 0, 8, _, rfl, by simp [flagB], by simp [maxLen], Blk.new _ _ _, by simp, fun j u hu => ?_⟩⟩, fun g hg => ?_⟩
  · simpa [flagB] using hu
  · obtain rfl : g = w.heap.size := by simpa [own, Value.ownBlock] using hg
    exact Nat.le_refl _
def textO (t : List Bool) : Oct := t.map fun b => if b then 49 else 48
theorem KText_c {w : World} {v : Value} {t : List Bool} (h : BitI w v t) (hl : t.length ≤ 100000) :
    Calls Tryz.prog 131 #[v] w fun e w' => e = .returned (.string (strOfNums (textO t))) ∧ Below w.heap.size w w' := by
  obtain ⟨a, cap, rfl, hcap⟩ := h.shape
  obtain ⟨n, hn⟩ : ∃ n, t.length = n := ⟨_, rfl⟩
  have H := Lib.hid h
  have HN := Lib.hid hn
  rw [hn] at hl hcap H ⊢
  clear h hn
  go_enter Tryz.func131, Tryz.ntmps131
  go_wp2
  go_loopw [3, 4] (fun o i wr => ∃ k : Nat, k ≤ n ∧ i = .int .i64 k ∧ AccO w wr o (textO (t.take k))) (fun _ i _ => n - (intOf i).toNat)
  case atStart => exact ⟨0, by omega, rfl, AccO.nil w⟩
  case round =>
    obtain ⟨k, hk, rfl, A⟩ := hrel
    have HA := Lib.hid A
    have hlo : (textO (t.take k)).length + 1 ≤ 1000000 := by simp [textO, HN.out]; omega
    clear A
    by_cases hlt : k < n
    · have hlt' : (k : Int) < n := by omega
      obtain ⟨b, hx⟩ := bit_at HN.out hlt
      obtain ⟨bl, off, rfl, hcell⟩ := H.out.at k b hx
      have hc := below_cell HA.out.bel hcell
      have HT := Lib.hid (show textO (t.take (k + 1)) = textO (t.take k) ++ [if b then 49 else 48] by rw [List.take_add_one, hx]; simp [textO])
      clear hx hcell
      cases b with
      | true =>
        go_wp2_with (first
          | (at_builtin; refine wpList_byt _ rfl (.tmp 15) (.tmp 16) 27 rfl Tryz.underlying27 _ _ _ [49] rfl rfl (Byt.below HA.out.byt (bl_alloc (bl_refl wr) _)) (byt_new1 (w := wr) 49 (by omega)).i0 hlo ?_; intro v6 w6 R6 C6 O6; have A6 := Lib.hid ((HA.out.below (bl_alloc (bl_refl wr) (.cells #[.int .u8 49] 5))).grow R6 C6 O6); clear R6 C6 O6))
        go_roundw
        case rel => exact ⟨k + 1, by omega, by go_num, by rw [HT.out]; exact A6.out⟩
        case measure => simp [intOf]; omega
      | false =>
        go_wp2_with (first
          | (at_builtin; refine wpList_byt _ rfl (.tmp 18) (.tmp 19) 27 rfl Tryz.underlying27 _ _ _ [48] rfl rfl (Byt.below HA.out.byt (bl_alloc (bl_refl wr) _)) (byt_new1 (w := wr) 48 (by omega)).i0 hlo ?_; intro v6 w6 R6 C6 O6; have A6 := Lib.hid ((HA.out.below (bl_alloc (bl_refl wr) (.cells #[.int .u8 48] 5))).grow R6 C6 O6); clear R6 C6 O6))
        go_roundw
        case rel => exact ⟨k + 1, by omega, by go_num, by rw [HT.out]; exact A6.out⟩
        case measure => simp [intOf]; omega
    · obtain rfl : k = n := by omega
      have kk : ¬ (k : Int) < k := by omega
      have h9 := HA.out
      rw [List.take_of_length_le (by rw [HN.out]; exact Nat.le_refl _)] at h9
      obtain ⟨a9, c9, rfl, _⟩ := h9.byt.1.shape
      have hcv := conv_back h9.byt
      have HB := Lib.hid h9.bel
      clear h9
      go_wp2
      go_ret
      exact ⟨rfl, HB.out⟩
theorem KSame_c {w : World} {v1 v2 : Value} {t : List Bool} (h1 : BitI w v1 t) (h2 : BitI w v2 t) (hl : t.length ≤ 100000) :
    Calls Tryz.prog 98 #[v1, v2] w fun e w' => e = .returned (.bool true) ∧ Below w.heap.size w w' := by
  have H1 := Lib.hid (KText_c h1 hl)
  have H2 := Lib.hid (fun (wx : World) (b : Below w.heap.size w wx) => KText_c (h2.below b) hl)
  obtain ⟨a1, c1, rfl, _⟩ := h1.shape
  obtain ⟨a2, c2, rfl, _⟩ := h2.shape
  generalize strOfNums (textO t) = s at H1 H2
  clear h1 h2
  go_enter Tryz.func98, Tryz.ntmps98
  go_wp2_with (first
    | ((with_reducible refine H1.out.mono ?_); rintro e w2 ⟨rfl, b2⟩; have B2 := Lib.hid b2; have H3 := Lib.hid (H2.out _ b2); clear b2)
    | ((with_reducible refine H3.out.mono ?_); rintro e w3 ⟨rfl, b3⟩; have B3 := Lib.hid (bl_then B2.out b3); clear b3))
  go_ret
  exact ⟨by simp, B3.out⟩
theorem Po.outs_all : ∀ (l : List Bool) (q : Po), q.out = l → (Po.outs l.length q).2 = l
  | [], _, _ => rfl
  | b :: r, q, h => by
    have hl : q.load = q := by unfold Po.load; rw [if_neg (by rw [h]; simp)]
    have h1 : q.outB.1.out = r := by
      show q.load.shift.out = r
      rw [hl]
      show q.out.tail = r
      rw [h]; rfl
    have h2 : q.outB.2 = b := by
      show q.load.out.headD false = b
      rw [hl, h]; rfl
    show q.outB.2 :: (Po.outs r.length q.outB.1).2 = _
    rw [Po.outs_all r _ h1, h2]
theorem Po.out_ins : ∀ (l : List Bool) (p : Po), (l.foldl Po.inB p).out = p.out
  | [], _ => rfl
  | b :: l, p => by
    rw [List.foldl_cons, Po.out_ins l]
    unfold Po.inB
    split <;> rfl
theorem Po.first_out (s : Su) (l : List Bool) : ((Po.new s).tick l).2 = flagB := by
  have h := Po.outs_all flagB (l.foldl Po.inB (Po.new s).first) (by rw [Po.out_ins]; rfl)
  exact h
end Go.Proofs.YtdffinnnjcgfcaaGreatK
