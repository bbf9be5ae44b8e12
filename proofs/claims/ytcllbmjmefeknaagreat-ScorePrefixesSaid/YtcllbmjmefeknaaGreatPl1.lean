/- Noughts that are put in are taken out again (plain data). Octets as bits, and back (plain data). A check behind its octets comes out Good (plain data). What a frame's bits are judged as: its octets (plain data). The reference's check is the check; octets are right only with their check behind them (plain data). What an ear hears of a flag and of frames (plain data). -/
import Derived.Test.YtcllbmjmefeknaaGreatBt1
import Derived.Test.YtcllbmjmefeknaaGreatEa1
namespace Go.Proofs.YtcllbmjmefeknaaGreatK
/-! ### Noughts that are put in are taken out again (plain data). -/
section
open Go Go.RowKit
/-- Bits with noughts put in, behind so many ones. -/
def putF : Nat → List Bool → List Bool
  | _, [] => []
  | m, b :: l => if (if b then m + 1 else 0) = 5 then b :: false :: putF 0 l else b :: putF (if b then m + 1 else 0) l
theorem putB_eq : ∀ (l : List Bool) (s : List Bool × Nat), putB l s = s.1 ++ putF s.2 l
  | [], s => by simp [putB, putF]
  | b :: l, s => by
    unfold putB putF
    by_cases h : (if b then s.2 + 1 else 0) = 5
    · rw [if_pos h, if_pos h, putB_eq l]
      simp
    · rw [if_neg h, if_neg h, putB_eq l]
      simp
theorem takeB_put : ∀ (l acc : List Bool) (m : Nat), m ≤ 4 → takeB (putF m l) (acc, m) = (acc ++ l, 0)
  | [], acc, m, hm => by
    unfold putF takeB
    rw [if_neg (by dsimp only; omega)]
    simp
  | b :: l, acc, m, hm => by
    unfold putF
    by_cases h : (if b then m + 1 else 0) = 5
    · rw [if_pos h]
      unfold takeB
      rw [if_neg (by dsimp only; omega)]
      dsimp only
      rw [h]
      unfold takeB
      rw [if_pos rfl, if_neg (by simp), takeB_put l _ 0 (by omega)]
      simp
    · rw [if_neg h]
      unfold takeB
      rw [if_neg (by dsimp only; omega)]
      dsimp only
      rw [takeB_put l _ _ (by cases b <;> simp at h ⊢ <;> omega)]
      simp
/-- What was put in comes out again. -/
theorem take_put (l : List Bool) : takeB (putB l ([], 0)) ([], 0) = (l, 0) := by
  rw [putB_eq]
  simpa using takeB_put l [] 0 (by omega)
/-- No six ones stand one behind the other where noughts were put in. -/
def runsF : Nat → List Bool → Prop
  | m, [] => m ≤ 5
  | m, b :: l => m ≤ 5 ∧ runsF (if b then m + 1 else 0) l
theorem putF_runs : ∀ (l : List Bool) (m : Nat), m ≤ 4 → runsF m (putF m l)
  | [], m, hm => by unfold putF runsF; omega
  | b :: l, m, hm => by
    unfold putF
    by_cases h : (if b then m + 1 else 0) = 5
    · rw [if_pos h]
      unfold runsF
      refine ⟨by omega, ?_⟩
      rw [h]
      unfold runsF
      exact ⟨by omega, by simpa using putF_runs l 0 (by omega)⟩
    · rw [if_neg h]
      unfold runsF
      exact ⟨by omega, putF_runs l _ (by cases b <;> simp at h ⊢ <;> omega)⟩
end
/-! ### Octets as bits, and back (plain data). -/
section
open Go Go.RowKit
theorem low_all : ((List.range 256).all fun n => lowFrom 0 (bits8 (n : Int)) == n) = true := by kernel_rfl
theorem low_bits8 (b : Int) (h0 : 0 ≤ b) (h1 : b ≤ 255) : ((lowFrom 0 (bits8 b) : Nat) : Int) = b := by
  obtain ⟨n, rfl⟩ := Int.eq_ofNat_of_zero_le h0
  have h := List.all_eq_true.1 low_all n (List.mem_range.2 (by omega))
  rw [eq_of_beq h]
theorem octN_bits : ∀ (p : Oct), isOct p → octN p.length (bitsOf p) = p
  | [], _ => rfl
  | b :: p, h => by
    have hb := h b (by simp)
    have e : bitsOf (b :: p) = bits8 b ++ bitsOf p := rfl
    have h8 := bits8_len b
    unfold octN
    rw [List.length_cons, List.range_succ_eq_map, List.map_cons, List.map_map, e]
    congr 1
    · rw [Nat.mul_zero, List.drop_zero, List.take_append_of_le_length (by omega), List.take_of_length_le (by omega)]
      exact low_bits8 b hb.1 hb.2
    · have ih := octN_bits p (fun x hx => h x (by simp [hx]))
      unfold octN at ih
      refine Eq.trans (List.map_congr_left fun i _ => ?_) ih
      simp only [Function.comp_apply]
      rw [show 8 * (i + 1) = (bits8 b).length + 8 * i by omega, ← List.drop_drop, List.drop_left]
end
/-! ### A check behind its octets comes out Good (plain data). -/
section
open Go Go.RowKit
theorem xor_mod2 (a b : Nat) : (a ^^^ b) % 2 = (a + b) % 2 := by
  have h := Nat.xor_mod_two_pow (a := a) (b := b) (n := 1)
  rw [Nat.pow_one] at h
  rw [h]
  rcases Nat.mod_two_eq_zero_or_one a with ha | ha <;> rcases Nat.mod_two_eq_zero_or_one b with hb | hb <;> rw [ha, hb]
  · show 0 = _; omega
  · show 1 = _; omega
  · show 1 = _; omega
  · show 0 = _; omega
/-- A bit that is the other one than the lowest of x takes x out of the register. -/
theorem crc_cancel (x c : Nat) : crcStep (x ^^^ c) (decide (x % 2 = 0)) = (x / 2) ^^^ crcStep c true := by
  have hp : ((x ^^^ c) ^^^ (decide (x % 2 = 0)).toNat) % 2 = (c ^^^ true.toNat) % 2 := by
    rw [xor_mod2, xor_mod2]
    by_cases h : x % 2 = 0
    · rw [decide_eq_true h]
      have := xor_mod2 x c
      simp only [Bool.toNat_true]
      omega
    · rw [decide_eq_false h]
      have := xor_mod2 x c
      simp only [Bool.toNat_true, Bool.toNat_false]
      omega
  unfold crcStep
  rw [hp, Nat.xor_div_two]
  split
  · rw [Nat.xor_assoc]
  · rfl
theorem crc_run : ∀ (k : Nat) (x c : Nat), ((List.range k).map fun i => decide (x / 2 ^ i % 2 = 0)).foldl crcStep (x ^^^ c) = (x / 2 ^ k) ^^^ (List.replicate k true).foldl crcStep c
  | 0, x, c => by simp
  | k + 1, x, c => by
    have ih := crc_run k (x / 2) (crcStep c true)
    rw [List.range_succ_eq_map, List.map_cons, List.map_map, List.foldl_cons, List.replicate_succ, List.foldl_cons]
    have e0 : decide (x / 2 ^ 0 % 2 = 0) = decide (x % 2 = 0) := by rw [Nat.pow_zero, Nat.div_one]
    rw [e0, crc_cancel]
    have e1 : ((List.range k).map ((fun i => decide (x / 2 ^ i % 2 = 0)) ∘ Nat.succ)) = (List.range k).map fun i => decide (x / 2 / 2 ^ i % 2 = 0) := by
      refine List.map_congr_left fun i _ => ?_
      simp only [Function.comp_apply, Nat.succ_eq_add_one]
      rw [Nat.div_div_eq_div_mul, Nat.pow_succ, Nat.mul_comm]
    rw [e1, ih, Nat.div_div_eq_div_mul, Nat.pow_succ, Nat.mul_comm 2]
theorem good_const : (List.replicate 16 true).foldl crcStep 0 = 61624 := by decide
theorem bits_low (r q : Nat) (hr : r < 65536) (hq : q = 65535 - r) : bits8 ((q : Int) % 256) = (List.range 8).map fun i => decide (r / 2 ^ i % 2 = 0) := by
  unfold bits8
  refine List.map_congr_left fun i hi => ?_
  have hi8 := List.mem_range.1 hi
  unfold bitAt
  rw [Bool.eq_iff_iff]
  simp only [beq_iff_eq, decide_eq_true_eq]
  rcases (by omega : i = 0 ∨ i = 1 ∨ i = 2 ∨ i = 3 ∨ i = 4 ∨ i = 5 ∨ i = 6 ∨ i = 7) with rfl | rfl | rfl | rfl | rfl | rfl | rfl | rfl <;> simp only [Int.reducePow, Nat.reducePow] <;> omega
theorem bits_high (r q : Nat) (hr : r < 65536) (hq : q = 65535 - r) : bits8 ((q : Int) / 256 % 256) = (List.range 8).map fun i => decide (r / 2 ^ (i + 8) % 2 = 0) := by
  unfold bits8
  refine List.map_congr_left fun i hi => ?_
  have hi8 := List.mem_range.1 hi
  unfold bitAt
  rw [Bool.eq_iff_iff]
  simp only [beq_iff_eq, decide_eq_true_eq]
  rcases (by omega : i = 0 ∨ i = 1 ∨ i = 2 ∨ i = 3 ∨ i = 4 ∨ i = 5 ∨ i = 6 ∨ i = 7) with rfl | rfl | rfl | rfl | rfl | rfl | rfl | rfl <;> simp only [Int.reducePow, Nat.reducePow, Nat.reduceAdd] <;> omega
/-- Octets with their check behind them are right. -/
theorem crc_good (p : Oct) : crcBits (bitsOf (p ++ checkO p)) = 61624 := by
  have e : bitsOf (p ++ checkO p) = bitsOf p ++ bitsOf (checkO p) := by simp [bitsOf, List.flatMap_append]
  unfold crcBits
  rw [e, List.foldl_append]
  have hr : (bitsOf p).foldl crcStep 65535 < 65536 := crc_lt _ (by decide)
  have eq : checkO p = [((65535 - (bitsOf p).foldl crcStep 65535 : Nat) : Int) % 256, ((65535 - (bitsOf p).foldl crcStep 65535 : Nat) : Int) / 256 % 256] := rfl
  rw [eq]
  generalize (bitsOf p).foldl crcStep 65535 = r at hr ⊢
  have e2 : bitsOf [((65535 - r : Nat) : Int) % 256, ((65535 - r : Nat) : Int) / 256 % 256] = (List.range 16).map fun i => decide (r / 2 ^ i % 2 = 0) := by
    show bits8 _ ++ (bits8 _ ++ []) = _
    rw [bits_low r _ hr rfl, bits_high r _ hr rfl, List.append_nil]
    rfl
  rw [e2]
  have h := crc_run 16 r 0
  rw [Nat.xor_zero] at h
  rw [h, good_const, show r / 2 ^ 16 = 0 from Nat.div_eq_of_lt (by omega), Nat.zero_xor]
end
/-! ### What a frame's bits are judged as: its octets (plain data). -/
section
open Go Go.RowKit
theorem isOct_check (p : Oct) : isOct (checkO p) := by
  intro x hx
  simp only [checkO, List.mem_cons, List.not_mem_nil, or_false] at hx
  rcases hx with rfl | rfl <;> omega
theorem judge_frame (p : Oct) (h : isOct p) (h1 : 3 ≤ p.length) (h2 : p.length ≤ 277) : judgeB (putB (bitsOf (p ++ checkO p)) ([], 0)) = (p, 0) := by
  have hl : (bitsOf (p ++ checkO p)).length = 8 * (p.length + 2) := by rw [bitsOf_len, List.length_append, checkO_len]
  have hd : 8 * (p.length + 2) / 8 = p.length + 2 := by omega
  have ho : octN (p.length + 2) (bitsOf (p ++ checkO p)) = p ++ checkO p := by
    have := octN_bits (p ++ checkO p) (fun x hx => by
      rcases List.mem_append.1 hx with h9 | h9
      · exact h x h9
      · exact isOct_check p x h9)
    rwa [List.length_append, checkO_len] at this
  unfold judgeB
  rw [take_put]
  dsimp only
  rw [hl, hd, if_neg (by simp), if_neg (by omega), if_neg (by omega), if_neg (by omega), ho, if_pos (crc_good p), Nat.add_sub_cancel, List.take_left]
end
/-! ### The reference's check is the check; octets are right only with their check behind them (plain data). -/
section
open Go Go.RowKit
theorem rev_shr (r : BitVec 16) : (r >>> 1).reverse = r.reverse <<< 1 := by
  apply BitVec.eq_of_getLsbD_eq
  intro i hi
  rw [BitVec.getLsbD_reverse, BitVec.getLsbD_shiftLeft, BitVec.getLsbD_reverse]
  by_cases h : i = 0
  · subst h; simp [BitVec.getMsbD]
  · have h1 : ¬ i < 1 := by omega
    simp only [hi, h1, BitVec.getMsbD, BitVec.getLsbD_ushiftRight, decide_true, decide_false, Bool.not_false, Bool.true_and]
    have h2 : i - 1 < 16 := by omega
    rw [show 1 + (16 - 1 - i) = 16 - 1 - (i - 1) by omega]
    simp [h2]
theorem rev_xor (x y : BitVec 16) : (x ^^^ y).reverse = x.reverse ^^^ y.reverse := by
  apply BitVec.eq_of_getLsbD_eq
  intro i hi
  rw [BitVec.getLsbD_xor, BitVec.getLsbD_reverse, BitVec.getLsbD_reverse, BitVec.getLsbD_reverse]
  simp [BitVec.getMsbD, hi]
/-- A register, the highest power first. -/
def rev16 (r : Nat) : Nat := (BitVec.ofNat 16 r).reverse.toNat
def refStep (r : Nat) (on : Bool) : Nat := if (r / 32768 % 2 : Nat) ≠ on.toNat then (r * 2 % 65536) ^^^ 4129 else r * 2 % 65536
theorem rev_half (r : Nat) (h : r < 65536) : rev16 (r / 2) = rev16 r * 2 % 65536 := by
  unfold rev16
  have e : BitVec.ofNat 16 (r / 2) = (BitVec.ofNat 16 r) >>> 1 := by
    apply BitVec.eq_of_toNat_eq
    simp [Nat.shiftRight_eq_div_pow]
    omega
  rw [e, rev_shr, BitVec.toNat_shiftLeft, Nat.shiftLeft_eq]
theorem rev_xorN (a b : Nat) : rev16 (a ^^^ b) = rev16 a ^^^ rev16 b := by
  unfold rev16
  rw [BitVec.ofNat_xor, rev_xor, BitVec.toNat_xor]
theorem rev_lt (r : Nat) : rev16 r < 65536 := (BitVec.ofNat 16 r).reverse.isLt
theorem rev_bit (r i : Nat) (hi : i < 16) : rev16 r / 2 ^ i % 2 = r / 2 ^ (15 - i) % 2 := by
  have h1 : (rev16 r).testBit i = r.testBit (15 - i) := by
    have : (rev16 r).testBit i = (BitVec.ofNat 16 r).reverse.getLsbD i := rfl
    rw [this, BitVec.getLsbD_reverse, BitVec.getMsbD, BitVec.getLsbD_ofNat]
    simp [hi]
    omega
  rw [Nat.testBit_eq_decide_div_mod_eq, Nat.testBit_eq_decide_div_mod_eq] at h1
  have := decide_eq_decide.1 h1
  omega
theorem ref_step (r : Nat) (on : Bool) (h : r < 65536) : refStep (rev16 r) on = rev16 (crcStep r on) := by
  have h15 := rev_bit r 15 (by decide)
  have e : rev16 r / 32768 % 2 = r % 2 := by simpa using h15
  have hx : ((r ^^^ on.toNat) % 2 = 1) ↔ ¬ r % 2 = on.toNat := by
    have h2 := Nat.xor_mod_two_pow (a := r) (b := on.toNat) (n := 1)
    rw [Nat.pow_one] at h2
    rw [h2]
    rcases Nat.mod_two_eq_zero_or_one r with h3 | h3 <;> rw [h3] <;> cases on <;> decide
  unfold refStep crcStep
  rw [e]
  by_cases hc : r % 2 = on.toNat
  · rw [if_neg (by omega), if_neg (by rw [hx]; omega), rev_half r h]
  · rw [if_pos hc, if_pos (hx.2 hc), rev_xorN, rev_half r h, show rev16 33800 = 4129 by decide]
/-- The step is linear. -/
theorem crc_lin (r s : Nat) (a b : Bool) : crcStep (r ^^^ s) (a ^^ b) = crcStep r a ^^^ crcStep s b := by
  have hp : ((r ^^^ s) ^^^ (a ^^ b).toNat) % 2 = ((r ^^^ a.toNat) % 2 + (s ^^^ b.toNat) % 2) % 2 := by
    simp only [xor_mod2, Nat.add_mod, Nat.mod_mod]
    have h := xor_mod2 r s
    cases a <;> cases b <;> simp <;> omega
  have h1 := Nat.mod_two_eq_zero_or_one (r ^^^ a.toNat)
  have h2 := Nat.mod_two_eq_zero_or_one (s ^^^ b.toNat)
  unfold crcStep
  rw [hp, Nat.xor_div_two]
  rcases h1 with h1 | h1 <;> rcases h2 with h2 | h2 <;> rw [h1, h2]
  · rfl
  · show (r / 2 ^^^ s / 2) ^^^ 33800 = (r / 2) ^^^ (s / 2 ^^^ 33800); rw [Nat.xor_assoc]
  · show (r / 2 ^^^ s / 2) ^^^ 33800 = (r / 2 ^^^ 33800) ^^^ (s / 2); rw [Nat.xor_assoc, Nat.xor_assoc, Nat.xor_comm (s / 2)]
  · show (r / 2 ^^^ s / 2) = (r / 2 ^^^ 33800) ^^^ (s / 2 ^^^ 33800)
    rw [Nat.xor_assoc, ← Nat.xor_assoc 33800, Nat.xor_comm 33800, Nat.xor_assoc (s / 2), Nat.xor_self, Nat.xor_zero]
def valB : List Bool → Nat
  | [] => 0
  | b :: l => 2 * valB l + b.toNat
theorem valB_lt : ∀ l : List Bool, valB l < 2 ^ l.length
  | [] => by simp [valB]
  | b :: l => by
    have := valB_lt l
    have hb : b.toNat ≤ 1 := by cases b <;> decide
    simp only [valB, List.length_cons, Nat.pow_succ]
    omega
theorem high_33800 (x : Nat) (h : x < 32768) : 32768 ≤ x ^^^ 33800 := by
  have h1 : (x ^^^ 33800).testBit 15 = true := by
    rw [Nat.testBit_xor, Nat.testBit_lt_two_pow (show x < 2 ^ 15 by omega)]
    decide
  exact Nat.ge_two_pow_of_testBit h1
/-- A register that bits bring to nought is these bits. -/
theorem crc_zero : ∀ (l : List Bool) (d : Nat), d < 65536 → l.length ≤ 16 → l.foldl crcStep d = 0 → d = valB l
  | [], d, _, _, h => h
  | b :: l, d, hd, hl, h => by
    have hl' : l.length ≤ 15 := by simpa using hl
    have ih := crc_zero l (crcStep d b) (crcStep_lt hd b) (by omega) h
    have hv := valB_lt l
    have hp : 2 ^ l.length ≤ 2 ^ 15 := Nat.pow_le_pow_right (by decide) hl'
    have hlt : crcStep d b < 32768 := by rw [ih]; omega
    by_cases hc : (d ^^^ b.toNat) % 2 = 1
    · have e : crcStep d b = (d / 2) ^^^ 33800 := by unfold crcStep; rw [if_pos hc]
      have := high_33800 (d / 2) (by omega)
      omega
    · have e : crcStep d b = d / 2 := by unfold crcStep; rw [if_neg hc]
      rw [xor_mod2] at hc
      have hb : b.toNat ≤ 1 := by cases b <;> decide
      show d = 2 * valB l + b.toNat
      omega
theorem valB_zero : ∀ l : List Bool, valB l = 0 → ∀ b ∈ l, b = false
  | [], _ => by simp
  | b :: l, h => by
    simp only [valB] at h
    have h1 : valB l = 0 := by omega
    have h2 : b.toNat = 0 := by omega
    intro c hc
    rcases List.mem_cons.1 hc with rfl | hc
    · cases c
      · rfl
      · cases h2
    · exact valB_zero l h1 c hc
theorem crc_zip : ∀ (l m : List Bool) (r s : Nat), l.length = m.length → (List.zipWith xor l m).foldl crcStep (r ^^^ s) = l.foldl crcStep r ^^^ m.foldl crcStep s
  | [], [], _, _, _ => rfl
  | a :: l, b :: m, r, s, h => by
    simp only [List.zipWith_cons_cons, List.foldl_cons]
    rw [show (xor a b) = (a ^^ b) from rfl, crc_lin]
    exact crc_zip l m _ _ (by simpa using h)
theorem zip_false : ∀ (l m : List Bool), l.length = m.length → (∀ b ∈ List.zipWith xor l m, b = false) → l = m
  | [], [], _, _ => rfl
  | a :: l, b :: m, h, k => by
    have h1 : xor a b = false := k _ (by simp)
    have h2 := zip_false l m (by simpa using h) (fun c hc => k c (by simp [hc]))
    rw [h2]
    cases a <;> cases b <;> simp_all
/-- Sixteen bits behind one register that lead to one register are one. -/
theorem crc_inj (l m : List Bool) (r : Nat) (hl : l.length = 16) (hm : m.length = 16) (h : l.foldl crcStep r = m.foldl crcStep r) : l = m := by
  have h1 := crc_zip l m r r (by omega)
  rw [Nat.xor_self, h, Nat.xor_self] at h1
  have h2 := crc_zero _ 0 (by decide) (by simp; omega) h1
  exact zip_false l m (by omega) (valB_zero _ h2.symm)
/-! ### The reference's check, the highest power first -/
theorem ref_bits : ∀ (l : List Bool) (r : Nat), r < 65536 → l.foldl refStep (rev16 r) = rev16 (l.foldl crcStep r)
  | [], _, _ => rfl
  | b :: l, r, h => by
    rw [List.foldl_cons, List.foldl_cons, ref_step r b h]
    exact ref_bits l _ (crcStep_lt h b)
theorem ref_check (l : List Bool) : l.foldl refStep 65535 = rev16 (crcBits l) := by
  have h := ref_bits l 65535 (by decide)
  rwa [show rev16 65535 = 65535 by decide] at h
theorem isOct_two (r : Nat) : isOct [((65535 - r : Nat) : Int) % 256, ((65535 - r : Nat) : Int) / 256 % 256] := by
  intro x hx
  simp only [List.mem_cons, List.not_mem_nil, or_false] at hx
  rcases hx with rfl | rfl <;> omega
theorem bits_two (r : Nat) (hr : r < 65536) : bitsOf [((65535 - r : Nat) : Int) % 256, ((65535 - r : Nat) : Int) / 256 % 256] = (List.range 16).map fun i => decide (r / 2 ^ i % 2 = 0) := by
  show bits8 _ ++ (bits8 _ ++ []) = _
  rw [bits_low r _ hr rfl, bits_high r _ hr rfl, List.append_nil]
  rfl
theorem not_bit (r k : Nat) (hr : r < 65536) (hk : k < 16) : (65535 - r) / 2 ^ k % 2 = 1 ↔ r / 2 ^ k % 2 = 0 := by
  rcases (by omega : k = 0 ∨ k = 1 ∨ k = 2 ∨ k = 3 ∨ k = 4 ∨ k = 5 ∨ k = 6 ∨ k = 7 ∨ k = 8 ∨ k = 9 ∨ k = 10 ∨ k = 11 ∨ k = 12 ∨ k = 13 ∨ k = 14 ∨ k = 15) with rfl | rfl | rfl | rfl | rfl | rfl | rfl | rfl | rfl | rfl | rfl | rfl | rfl | rfl | rfl | rfl <;> simp only [Nat.reducePow] <;> omega
def refOut (r : Nat) : List Bool := (List.range 16).map fun i => decide ((65535 - r) / 2 ^ (15 - i) % 2 = 1)
theorem ref_out (p : Oct) : octN 2 (refOut ((bitsOf p).foldl refStep 65535)) = checkO p := by
  rw [ref_check]
  have hr : crcBits (bitsOf p) < 65536 := crc_lt _ (by decide)
  have e : checkO p = [((65535 - crcBits (bitsOf p) : Nat) : Int) % 256, ((65535 - crcBits (bitsOf p) : Nat) : Int) / 256 % 256] := rfl
  rw [e]
  generalize crcBits (bitsOf p) = c at hr ⊢
  have h := octN_bits _ (isOct_two c)
  rw [bits_two c hr] at h
  refine Eq.trans ?_ h
  show octN 2 _ = octN 2 _
  congr 1
  unfold refOut
  refine List.map_congr_left fun i hi => ?_
  have hi := List.mem_range.1 hi
  have h1 := not_bit (rev16 c) (15 - i) (rev_lt c) (by omega)
  have h2 := rev_bit c (15 - i) (by omega)
  rw [show 15 - (15 - i) = i by omega] at h2
  rw [Bool.eq_iff_iff]
  simp only [decide_eq_true_eq]
  rw [h1, h2]
/-- Octets are right if, and only if, their check stands behind them. -/
theorem right_iff (p : Oct) (ho : isOct p) (h2 : 2 ≤ p.length) : checkO (p.take (p.length - 2)) = p.drop (p.length - 2) ↔ crcBits (bitsOf p) = 61624 := by
  have hp : p = p.take (p.length - 2) ++ p.drop (p.length - 2) := (List.take_append_drop _ _).symm
  have hl : (p.drop (p.length - 2)).length = 2 := by rw [List.length_drop]; omega
  have hz : isOct (p.drop (p.length - 2)) := fun x hx => ho x (List.mem_of_mem_drop hx)
  generalize p.take (p.length - 2) = q at hp ⊢
  generalize p.drop (p.length - 2) = z at hp hl hz ⊢
  subst hp
  constructor
  · rintro rfl
    exact crc_good q
  · intro h
    have hg := crc_good q
    have e1 : ∀ z : Oct, crcBits (bitsOf (q ++ z)) = (bitsOf z).foldl crcStep (crcBits (bitsOf q)) := fun z => by
      unfold crcBits
      rw [show bitsOf (q ++ z) = bitsOf q ++ bitsOf z by simp [bitsOf, List.flatMap_append], List.foldl_append]
    rw [e1] at h hg
    have hb := crc_inj (bitsOf (checkO q)) (bitsOf z) _ (by rw [bitsOf_len, checkO_len]) (by rw [bitsOf_len, hl]) (hg.trans h.symm)
    have o1 := octN_bits (checkO q) (isOct_check q)
    have o2 := octN_bits z hz
    rw [checkO_len] at o1
    rw [hl] at o2
    rw [← o1, hb, o2]
end
/-! ### What an ear hears of a flag and of frames (plain data). -/
section
open Go Go.RowKit
def Er.put (n : Int) : Hd → List ((Int × Oct) × Int)
  | none => []
  | some h => [(h, n)]
/-- An ear over bits: the ear behind them, and what was heard, and behind how many bits. -/
def Er.run : Er → Int → List Bool → Er × List ((Int × Oct) × Int)
  | e, _, [] => (e, [])
  | e, n, b :: l => ((Er.run (e.bit b).1 (n + 1) l).1, Er.put (n + 1) (e.bit b).2 ++ (Er.run (e.bit b).1 (n + 1) l).2)
theorem Er.run_app : ∀ (l m : List Bool) (e : Er) (n : Int), e.run n (l ++ m) = (((e.run n l).1.run (n + l.length) m).1, (e.run n l).2 ++ ((e.run n l).1.run (n + l.length) m).2)
  | [], m, e, n => by simp [Er.run]
  | b :: l, m, e, n => by
    rw [List.cons_append, Er.run, Er.run_app l m]
    simp only [Er.run, List.length_cons, List.append_assoc]
    rw [show n + 1 + (l.length : Int) = n + ((l.length + 1 : Nat) : Int) by omega]
theorem Er.bit_one (acc : List Bool) (m k : Nat) (hm : m ≤ 5) : (⟨acc, m, true, k⟩ : Er).bit true = (⟨acc ++ [true], m + 1, true, k⟩, none) := by
  unfold Er.bit
  rw [if_neg (by simp), if_pos rfl, if_neg (by dsimp only; omega)]
theorem Er.bit_nought (acc : List Bool) (m k : Nat) (hm : m ≤ 5) (hl : acc.length + 1 ≤ 2687) : (⟨acc, m, true, k⟩ : Er).bit false = (⟨acc ++ [false], 0, true, k⟩, none) := by
  unfold Er.bit
  rw [if_neg (by simp), if_neg (by simp), if_neg (by dsimp only; omega), if_neg (by dsimp only; omega)]
def runE (m : Nat) (l : List Bool) : Nat := l.foldl (fun m b => if b then m + 1 else 0) m
theorem runE_le : ∀ (l : List Bool) (m : Nat), runsF m l → runE m l ≤ 5
  | [], _, h => h
  | _ :: l, _, h => runE_le l _ h.2
/-- No flag is heard where no six ones stand one behind the other. -/
theorem Er.run_quiet : ∀ (l acc : List Bool) (m k : Nat) (n : Int), runsF m l → acc.length + l.length ≤ 2687 → Er.run ⟨acc, m, true, k⟩ n l = (⟨acc ++ l, runE m l, true, k⟩, [])
  | [], acc, m, k, n, _, _ => by simp [Er.run, runE]
  | b :: l, acc, m, k, n, h, hl => by
    obtain ⟨h1, h2⟩ := h
    rw [List.length_cons] at hl
    cases b with
    | true =>
      rw [Er.run, Er.bit_one acc m k h1, Er.run_quiet l (acc ++ [true]) (m + 1) k (n + 1) h2 (by simp; omega)]
      simp [Er.put, runE]
    | false =>
      rw [Er.run, Er.bit_nought acc m k h1 (by omega), Er.run_quiet l (acc ++ [false]) 0 k (n + 1) h2 (by simp; omega)]
      simp [Er.put, runE]
theorem runsF_pre : ∀ (l m : List Bool) (k : Nat), runsF k (l ++ m) → runsF k l
  | [], m, k, h => by cases m with | nil => exact h | cons b m => exact h.1
  | _ :: l, m, _, h => ⟨h.1, runsF_pre l m _ h.2⟩
/-- .. of a flag's first seven bits nothing is heard. -/
theorem Er.run_seven (acc : List Bool) (m k j : Nat) (n : Int) (hm : m ≤ 5) (hl : acc.length ≤ 2678) (hj : j ≤ 7) : ((⟨acc, m, true, k⟩ : Er).run n (flagB.take j)).2 = [] ∧ ((⟨acc, m, true, k⟩ : Er).run n (flagB.take j)).1.found = true := by
  have h1 := Er.bit_nought acc m k hm (by omega)
  have h2 := Er.bit_one (acc ++ [false]) 0 k (by omega)
  have h3 := Er.bit_one (acc ++ [false] ++ [true]) 1 k (by omega)
  have h4 := Er.bit_one (acc ++ [false] ++ [true] ++ [true]) 2 k (by omega)
  have h5 := Er.bit_one (acc ++ [false] ++ [true] ++ [true] ++ [true]) 3 k (by omega)
  have h6 := Er.bit_one (acc ++ [false] ++ [true] ++ [true] ++ [true] ++ [true]) 4 k (by omega)
  have h7 := Er.bit_one (acc ++ [false] ++ [true] ++ [true] ++ [true] ++ [true] ++ [true]) 5 k (by omega)
  rcases (by omega : j = 0 ∨ j = 1 ∨ j = 2 ∨ j = 3 ∨ j = 4 ∨ j = 5 ∨ j = 6 ∨ j = 7) with rfl | rfl | rfl | rfl | rfl | rfl | rfl | rfl <;>
    simp only [flagB, List.take_succ_cons, List.take_zero, Er.run, h1, h2, h3, h4, h5, h6, h7, Er.put, List.append_nil, and_self, Nat.zero_add, Nat.reduceAdd]
theorem Er.run_flag (acc : List Bool) (m k : Nat) (n : Int) (hm : m ≤ 5) (hl : acc.length ≤ 2678) (h0 : acc ≠ []) (p : Oct) (hp : judgeB acc = (p, 0)) : (⟨acc, m, true, k⟩ : Er).run n flagB = (⟨[], 0, true, k⟩, [((0, p), n + 8)]) := by
  have h1 := Er.bit_nought acc m k hm (by omega)
  have h2 := Er.bit_one (acc ++ [false]) 0 k (by omega)
  have h3 := Er.bit_one (acc ++ [false] ++ [true]) 1 k (by omega)
  have h4 := Er.bit_one (acc ++ [false] ++ [true] ++ [true]) 2 k (by omega)
  have h5 := Er.bit_one (acc ++ [false] ++ [true] ++ [true] ++ [true]) 3 k (by omega)
  have h6 := Er.bit_one (acc ++ [false] ++ [true] ++ [true] ++ [true] ++ [true]) 4 k (by omega)
  have h7 := Er.bit_one (acc ++ [false] ++ [true] ++ [true] ++ [true] ++ [true] ++ [true]) 5 k (by omega)
  have h8 : (⟨acc ++ [false] ++ [true] ++ [true] ++ [true] ++ [true] ++ [true] ++ [true], 6, true, k⟩ : Er).bit false = (⟨[], 0, true, k⟩, some (0, p)) := by
    unfold Er.bit Er.flag
    rw [if_neg (by simp), if_neg (by simp), if_pos rfl]
    have hpos := List.length_pos_iff.2 h0
    have e : acc ++ [false] ++ [true] ++ [true] ++ [true] ++ [true] ++ [true] ++ [true] ++ [false] = acc ++ flagB := by simp [flagB]
    dsimp only
    rw [e, show (acc ++ flagB).length - 8 = acc.length by simp [flagB], List.take_left, hp, if_neg (by simp [flagB]; omega), if_pos rfl]
  simp only [flagB, Er.run, h1, h2, h3, h4, h5, h6, h7, h8, Er.put, List.append_nil, List.nil_append, Nat.zero_add, Nat.reduceAdd]
  rw [show n + 1 + 1 + 1 + 1 + 1 + 1 + 1 + 1 = n + 8 by omega]
theorem putF_len : ∀ (l : List Bool) (m : Nat), m ≤ 4 → (putF m l).length * 5 ≤ 6 * l.length + m
  | [], m, _ => by simp [putF]
  | b :: l, m, hm => by
    unfold putF
    by_cases h : (if b then m + 1 else 0) = 5
    · rw [if_pos h]
      have ih := putF_len l 0 (by omega)
      have : m = 4 := by cases b <;> simp at h; omega
      simp only [List.length_cons]; omega
    · rw [if_neg h]
      have ih := putF_len l (if b then m + 1 else 0) (by cases b <;> simp at h ⊢ <;> omega)
      have : (if b then m + 1 else 0) ≤ m + 1 := by split <;> omega
      simp only [List.length_cons]; omega
/-- What was put before the check's noughts, for octets that may go. -/
structure Fits (p : Oct) : Prop where
  oct : isOct p
  lo : 3 ≤ p.length
  hi : p.length ≤ 277
theorem Fits.body {p : Oct} (h : Fits p) : ∃ s, frameB p = s ++ flagB ∧ judgeB s = (p, 0) ∧ runsF 0 s ∧ s.length ≤ 2678 ∧ s ≠ [] := by
  refine ⟨putB (bitsOf (p ++ checkO p)) ([], 0), rfl, judge_frame p h.oct h.lo h.hi, ?_, ?_, ?_⟩
  all_goals rw [putB_eq]
  · exact putF_runs _ 0 (by omega)
  · have h1 := putF_len (bitsOf (p ++ checkO p)) 0 (by omega)
    rw [bitsOf_len, List.length_append, checkO_len] at h1
    have h2 := h.hi
    simp only [List.nil_append]
    omega
  · intro h0
    have h1 := take_put (bitsOf (p ++ checkO p))
    rw [putB_eq, h0] at h1
    have h2 := congrArg (fun r : List Bool × Int => r.1.length) h1
    simp only [bitsOf_len, List.length_append, checkO_len, takeB] at h2
    simp at h2
abbrev er0 : Er := ⟨[], 0, true, 0⟩
theorem Er.run_start : (⟨[], 0, false, 0⟩ : Er).run 0 flagB = (er0, []) := by decide
/-- A frame is heard, as its last bit comes. -/
theorem Er.run_frame {p : Oct} (h : Fits p) (n : Int) : er0.run n (frameB p) = (er0, [((0, p), n + (frameB p).length)]) := by
  obtain ⟨s, e, hj, hr, hl, h0⟩ := h.body
  rw [e, Er.run_app, Er.run_quiet s [] 0 0 n hr (by simp; omega)]
  simp only [List.nil_append]
  rw [Er.run_flag s _ 0 _ (runE_le _ _ hr) hl h0 p hj]
  simp [flagB]
  omega
/-- .. and nothing ahead of that. -/
theorem Er.run_part {p : Oct} (h : Fits p) (n : Int) (xs ys : List Bool) (he : xs ++ ys = frameB p) (hy : ys ≠ []) : (er0.run n xs).2 = [] ∧ (er0.run n xs).1.found = true := by
  obtain ⟨s, e, hj, hr, hl, h0⟩ := h.body
  rw [e] at he
  rcases Nat.lt_or_ge s.length xs.length with hx | hx
  · obtain ⟨zs, rfl⟩ : ∃ zs, xs = s ++ zs := by
      refine ⟨xs.drop s.length, ?_⟩
      have h1 := congrArg (List.take s.length) he
      rw [List.take_append_of_le_length (by omega), List.take_left] at h1
      rw [← h1]
      conv => lhs; rw [← List.take_append_drop s.length xs]
      rw [h1]
    rw [List.append_assoc] at he
    have he := List.append_cancel_left he
    have hz : zs = flagB.take zs.length := by rw [← he, List.take_left]
    have hzl : zs.length ≤ 7 := by
      have h1 := congrArg List.length he
      have h2 := List.length_pos_iff.2 hy
      simp [flagB] at h1
      omega
    rw [Er.run_app, Er.run_quiet s [] 0 0 n hr (by simp; omega)]
    simp only [List.nil_append]
    rw [hz]
    exact Er.run_seven s _ 0 _ _ (runE_le _ _ hr) hl hzl
  · obtain ⟨zs, rfl⟩ : ∃ zs, s = xs ++ zs := by
      refine ⟨s.drop xs.length, ?_⟩
      have h1 := congrArg (List.take xs.length) he
      rw [List.take_left, List.take_append_of_le_length hx] at h1
      conv => lhs; rw [← List.take_append_drop xs.length s]
      rw [← h1]
    have hq := Er.run_quiet xs [] 0 0 n (runsF_pre _ _ _ hr) (by simp at hl ⊢; omega)
    rw [hq]
    exact ⟨rfl, rfl⟩
end
end Go.Proofs.YtcllbmjmefeknaaGreatK
