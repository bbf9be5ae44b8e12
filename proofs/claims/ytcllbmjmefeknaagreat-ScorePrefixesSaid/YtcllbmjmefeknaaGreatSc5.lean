/- Lists of messages that a law makes; the walks of ScoreParts. The walk of law 24's best; the longest part that two lists share, and the greedy look (plain data). The walk of law 24's best. The walk of ScoreParts. -/
import Derived.Test.YtcllbmjmefeknaaGreatSc0
import Derived.Test.YtcllbmjmefeknaaGreatRoa
namespace Go.Proofs.YtcllbmjmefeknaaGreatK
/-! ### Lists of messages that a law makes; the walks of ScoreParts. -/
section
open Go Go.RowKit
set_option linter.unusedVariables false
set_option maxHeartbeats 40000000
set_option maxRecDepth 100000
/-- At an append of one message, in a walk. -/
theorem wpList_msg {ops : Array Oper} {rest : List Oper} {o : Oper} {a : Act} {Q : Exit → Act → World → Prop} (w : World) (hgd : o.guard = none) (s x : Operand) (t : TypeId)
    (ho : o.op = .call { callee := .builtin .append, args := #[s, x], argTypes := #[t, t] }) (ht : Tryz.prog.underlying t = some (.slice 25))
    (v : Value) (xs : List Oct) (hs : a.eval s = v) (hm : MsgV w v xs) (g : Nat) (u : Value) (p : Oct) (hx : a.eval x = .slice (some ⟨g, 0, none⟩) 1 1) (hb : Blk w g #[u] 25) (hp : BytV w u p) (hl : xs.length ≤ 100000)
    (h : ∀ v' w', MsgV w' v' (xs ++ [p]) → Chg (own v) w w' → (∀ b ∈ own v', b ∈ own v ∨ w.heap.size ≤ b) → wpList Tryz.prog ops Q rest (a.put o.dst v') w') : wpList Tryz.prog ops Q (o :: rest) a w := by
  obtain ⟨vs, R, M⟩ := hm
  have off := (Typed.row R).off (t := 5) (by decide)
  obtain ⟨au, cu, rfl, _⟩ := hp.shape
  exact wpList_row_append w hgd s x t ho 25 Tryz.t25 (.slice none 0 0) 1 24 ht rfl rfl rfl rfl rfl (by decide) v xs.length vs hs R ⟨g, 0, none⟩ 1 1 [.slice au p.length cu] hx rfl
    (fun j u hu => by rw [Addr.add_lit, hb.c, Nat.zero_add]; simpa using hu) (by simp [Value.oneCell']) (by decide) (by simp [maxLen]; omega) (by omega)
    (fun v' w' R' C O => h v' w' (Msgs.snoc M (by simpa using R.1) off C R' (hp.stay off C)) C O)
structure AccM (w0 w : World) (v : Value) (xs : List Oct) : Prop where
  bel : Below w0.heap.size w0 w
  ms : MsgV w v xs
  own : ∀ g ∈ own v, w0.heap.size ≤ g
theorem MsgV.nil {w : World} : MsgV w (.slice none 0 0) [] := ⟨[], Row.nil _ _ _, fun j x hx => by simp at hx⟩
theorem AccM.nil (w : World) : AccM w w (.slice none 0 0) [] := ⟨bl_refl w, MsgV.nil, by simp [Go.Proofs.YtcllbmjmefeknaaGreatK.own, Value.ownBlock]⟩
theorem AccM.below {w0 w w1 : World} {v : Value} {xs : List Oct} (h : AccM w0 w v xs) (hb : Below w.heap.size w w1) : AccM w0 w1 v xs := ⟨bl_then h.bel hb, h.ms.below hb, h.own⟩
theorem AccM.grow {w0 w w' : World} {v v' : Value} {xs xs' : List Oct} (h : AccM w0 w v xs) (hm : MsgV w' v' xs') (hc : Chg (Go.Proofs.YtcllbmjmefeknaaGreatK.own v) w w') (ho : ∀ b ∈ Go.Proofs.YtcllbmjmefeknaaGreatK.own v', b ∈ Go.Proofs.YtcllbmjmefeknaaGreatK.own v ∨ w.heap.size ≤ b) : AccM w0 w' v' xs' :=
  ⟨h.bel.trans (hc.to_below h.bel.size h.own), hm, fun g hg => (ho g hg).elim (h.own g) (fun h9 => Nat.le_trans h.bel.size h9)⟩
def lstO (xs : Oct) : List Oct := (xs.take 20).map fun x => [x % 4]
theorem lstO_take {xs : Oct} {k : Nat} {x : Int} (hk : k < 20) (hx : xs[k]? = some x) : lstO (xs.take (k + 1)) = lstO (xs.take k) ++ [[x % 4]] := by
  have hl := (List.getElem?_eq_some_iff.1 hx).1
  unfold lstO
  rw [List.take_take, List.take_take, Nat.min_eq_right (by omega), Nat.min_eq_right (by omega), List.take_add_one, hx, List.map_append]
  rfl
theorem lstO_all {xs : Oct} {k : Nat} (hk : k = xs.length ∨ k = 20) : lstO (xs.take k) = lstO xs := by
  unfold lstO
  rcases hk with rfl | rfl
  · rw [List.take_of_length_le (Nat.le_refl _)]
  · rw [List.take_take, Nat.min_self]
theorem Lists_c {w : World} {v : Value} {xs : Oct} (h : BytI w [] v xs) : Calls Tryz.prog 35 #[v] w fun e w' => ∃ v', e = .returned v' ∧ AccM w w' v' (lstO xs) := by
  obtain ⟨a, c, rfl, hc⟩ := h.shape
  obtain ⟨n, hn⟩ : ∃ n, xs.length = n := ⟨_, rfl⟩
  have H := Lib.hid h
  rw [hn] at hc H ⊢
  have HN := Lib.hid hn
  clear h hn
  go_enter Tryz.func35, Tryz.ntmps35
  go_wp2
  go_loopw [3, 4] (fun v i wr => ∃ k : Nat, k ≤ n ∧ k ≤ 20 ∧ i = .int .i64 k ∧ AccM w wr v (lstO (xs.take k))) (fun _ i _ => n - (intOf i).toNat)
  case atStart => exact ⟨0, by omega, by omega, rfl, AccM.nil w⟩
  case round =>
    obtain ⟨k, hk, hk2, rfl, A⟩ := hrel
    have HA := Lib.hid A
    obtain ⟨av, cv, rfl, _⟩ := A.ms.shape
    clear A
    by_cases hlt : k < n
    · have hlt' : (k : Int) < n := by omega
      by_cases h20 : k < 20
      · have h20' : (k : Int) < 20 := by omega
        obtain ⟨x, hx⟩ : ∃ x, xs[k]? = some x := ⟨_, List.getElem?_eq_getElem (by rw [HN.out]; exact hlt)⟩
        obtain ⟨⟨bl, off, rfl, hcell⟩, hxb⟩ := H.out.at k x hx
        have cw := below_cell HA.out.bel hcell
        have HT := Lib.hid (lstO_take h20 hx)
        have hl := Lib.hid (show (lstO (xs.take k)).length ≤ 100000 from by unfold lstO; rw [List.length_map, List.length_take, List.length_take]; omega)
        have B2 := Lib.hid (bl_alloc (bl_alloc (bl_refl wr) (.cells #[.int .u8 (x % 4)] 5)) (.cells #[.slice (some ⟨wr.heap.size, 0, none⟩) 1 1] 25))
        have N1 := Lib.hid ((Blk.new wr #[.int .u8 (x % 4)] 5).alloc (.cells #[.slice (some ⟨wr.heap.size, 0, none⟩) 1 1] 25))
        have N2 := Lib.hid (Blk.newAt (w := wr.alloc (.cells #[.int .u8 (x % 4)] 5)) (n := wr.heap.size + 1) (by simp) #[.slice (some ⟨wr.heap.size, 0, none⟩) 1 1] 25)
        have hm4 : 0 ≤ x % 4 ∧ x % 4 ≤ 255 := by omega
        have HY := Lib.hid (BytV.lit1 N1.out hm4)
        have A2 := Lib.hid (HA.out.below B2.out)
        clear hcell hx
        go_wp2_with (first
          | (at_builtin; refine wpList_msg _ rfl (.tmp 15) (.tmp 22) 46 rfl Tryz.underlying46 _ _ rfl A2.out.ms _ _ _ rfl N2.out HY.out hl.out ?_; intro v6 w6 R6 C6 O6; have A6 := Lib.hid (A2.out.grow R6 C6 O6); clear R6 C6 O6))
        go_roundw
        case rel => exact ⟨k + 1, by omega, by omega, by go_num, by rw [HT.out]; exact A6.out⟩
        case measure => simp [intOf]; omega
      · obtain rfl : k = 20 := by omega
        have hn20 : ¬ ((20 : Int) < 20) := by omega
        go_wp2
        go_ret
        exact ⟨_, rfl, by rw [← lstO_all (xs := xs) (k := 20) (.inr rfl)]; exact HA.out⟩
    · obtain rfl : k = n := by omega
      have hnl : ¬ ((k : Int) < k) := by omega
      go_wp2
      go_ret
      exact ⟨_, rfl, by rw [← lstO_all (xs := xs) (k := k) (.inl HN.out.symm)]; exact HA.out⟩
end
/-! ### The walk of law 24's best; the longest part that two lists share, and the greedy look (plain data). -/
section
open Go Go.RowKit
set_option linter.unusedVariables false
set_option maxHeartbeats 40000000
set_option maxRecDepth 100000
def lcs : List Int → List Int → Nat
  | [], _ => 0
  | _ :: _, [] => 0
  | x :: a, y :: b => if x = y then lcs a b + 1 else max (lcs (x :: a) b) (lcs a (y :: b))
termination_by a b => a.length + b.length
theorem lcs_nil (b : List Int) : lcs [] b = 0 := by unfold lcs; rfl
theorem lcs_nil' (a : List Int) : lcs a [] = 0 := by cases a <;> unfold lcs <;> rfl
theorem lcs_cons (x y : Int) (a b : List Int) : lcs (x :: a) (y :: b) = if x = y then lcs a b + 1 else max (lcs (x :: a) b) (lcs a (y :: b)) := by rw [lcs]
theorem lcs_le : ∀ (a b : List Int), lcs a b ≤ a.length ∧ lcs a b ≤ b.length
  | [], b => by simp [lcs_nil]
  | x :: a, [] => by simp [lcs_nil']
  | x :: a, y :: b => by
    rw [lcs_cons]
    have h1 := lcs_le a b
    have h2 := lcs_le (x :: a) b
    have h3 := lcs_le a (y :: b)
    simp only [List.length_cons] at *
    split <;> omega
termination_by a b => a.length + b.length
theorem lcs_sub : ∀ (a b : List Int), lcs a b = a.length ↔ a.Sublist b
  | [], b => by simp [lcs_nil]
  | x :: a, [] => by simp [lcs_nil']
  | x :: a, y :: b => by
    rw [lcs_cons]
    split
    · rename_i h
      subst h
      rw [List.cons_sublist_cons, ← lcs_sub a b, List.length_cons]
      omega
    · rename_i h
      have h3 := lcs_le a (y :: b)
      have h2 := lcs_sub (x :: a) b
      have h4 : (x :: a).Sublist (y :: b) ↔ (x :: a).Sublist b := ⟨fun k => by
        cases k with
        | cons _ k => exact k
        | cons_cons _ k => exact absurd rfl h, fun k => k.cons y⟩
      rw [h4, ← h2]
      have h5 := lcs_le (x :: a) b
      simp only [List.length_cons] at *
      omega
termination_by a b => a.length + b.length
theorem foldl_nilO : ∀ b : List Oct, b.foldl stpO [] = []
  | [] => rfl
  | _ :: b => foldl_nilO b
theorem partO_sub : ∀ (b a : List Oct), b.foldl stpO a = [] ↔ a.Sublist b
  | [], a => by rw [List.foldl_nil]; exact List.sublist_nil.symm
  | y :: b, [] => by simp [foldl_nilO, stpO]
  | y :: b, x :: a => by
    rw [List.foldl_cons]
    by_cases h : x = y
    · subst h
      rw [show stpO (x :: a) x = a from by simp [stpO], List.cons_sublist_cons, partO_sub b a]
    · rw [show stpO (x :: a) y = x :: a from by simp [stpO, h], partO_sub b (x :: a)]
      exact ⟨fun k => k.cons y, fun k => by
        cases k with
        | cons _ k => exact k
        | cons_cons _ k => exact absurd rfl h⟩
def sgl (x : Int) : Oct := [x]
theorem sgl_sub {a b : List Int} : (a.map sgl).Sublist (b.map sgl) ↔ a.Sublist b := by
  constructor
  · intro h
    have := h.map (fun p : Oct => p.headD 0)
    simpa [List.map_map, Function.comp_def, sgl] using this
  · exact fun h => h.map sgl
/-- What two lists' beginnings share. -/
def Dk (A B : List Int) (i k : Nat) : Nat := lcs (A.take i).reverse (B.take k).reverse
theorem Dk_0 (A B : List Int) (k : Nat) : Dk A B 0 k = 0 := by simp [Dk, lcs_nil]
theorem Dk_i0 (A B : List Int) (i : Nat) : Dk A B i 0 = 0 := by simp [Dk, lcs_nil']
theorem Dk_s {A B : List Int} {i k : Nat} {x y : Int} (hx : A[i]? = some x) (hy : B[k]? = some y) : Dk A B (i + 1) (k + 1) = if x = y then Dk A B i k + 1 else max (Dk A B (i + 1) k) (Dk A B i (k + 1)) := by
  have e1 : (A.take (i + 1)).reverse = x :: (A.take i).reverse := by rw [List.take_add_one, hx]; simp
  have e2 : (B.take (k + 1)).reverse = y :: (B.take k).reverse := by rw [List.take_add_one, hy]; simp
  unfold Dk
  rw [e1, e2, lcs_cons]
theorem Dk_le (A B : List Int) (i k : Nat) : Dk A B i k ≤ A.length := by
  have := (lcs_le (A.take i).reverse (B.take k).reverse).1
  unfold Dk
  simp at this
  omega
theorem Dk_all (A B : List Int) : Dk A B A.length B.length = A.length ↔ A.Sublist B := by
  unfold Dk
  rw [List.take_of_length_le (Nat.le_refl _), List.take_of_length_le (Nat.le_refl _)]
  have h := lcs_sub A.reverse B.reverse
  rw [List.length_reverse, List.reverse_sublist] at h
  exact h
def mixR (A B : List Int) (i k : Nat) : List Int := (List.range (B.length + 1)).map fun j => ((if j ≤ k then Dk A B (i + 1) j else Dk A B i j : Nat) : Int)
def rowR (A B : List Int) (i : Nat) : List Int := (List.range (B.length + 1)).map fun j => (Dk A B i j : Int)
theorem mixR_0 (A B : List Int) (i : Nat) : mixR A B i 0 = rowR A B i := by
  unfold mixR rowR
  refine List.map_congr_left fun j _ => ?_
  by_cases h : j ≤ 0
  · obtain rfl : j = 0 := by omega
    simp [Dk_i0]
  · rw [if_neg h]
theorem mixR_end (A B : List Int) (i : Nat) : mixR A B i B.length = rowR A B (i + 1) := by
  unfold mixR rowR
  refine List.map_congr_left fun j hj => ?_
  rw [if_pos (by have := List.mem_range.1 hj; omega)]
theorem mixR_get {A B : List Int} {i k j : Nat} (hj : j ≤ B.length) : (mixR A B i k)[j]? = some ((if j ≤ k then Dk A B (i + 1) j else Dk A B i j : Nat) : Int) := by
  unfold mixR
  rw [List.getElem?_map, List.getElem?_range (by omega)]
  rfl
theorem mixR_set {A B : List Int} {i k : Nat} (hk : k < B.length) : (mixR A B i k).set (k + 1) (Dk A B (i + 1) (k + 1) : Int) = mixR A B i (k + 1) := by
  refine List.ext_getElem? fun j => ?_
  rw [List.getElem?_set]
  by_cases hj : j ≤ B.length
  · by_cases e : k + 1 = j
    · subst e
      rw [if_pos rfl, if_pos (by simp [mixR]; omega), mixR_get hj, if_pos (Nat.le_refl _)]
    · rw [if_neg e, mixR_get hj, mixR_get hj]
      by_cases h2 : j ≤ k
      · rw [if_pos h2, if_pos (by omega)]
      · rw [if_neg h2, if_neg (by omega)]
  · rw [if_neg (by omega), List.getElem?_eq_none (by simp [mixR]; omega), List.getElem?_eq_none (by simp [mixR]; omega)]
abbrev intC (l : List Int) : Array Value := (l.map (Value.int .i64)).toArray
theorem intC_set (l : List Int) (i : Nat) (v : Int) : (intC l).setIfInBounds i (.int .i64 v) = intC (l.set i v) := by
  unfold intC
  rw [List.setIfInBounds_toArray, ← List.map_set]
theorem intC_get (l : List Int) (i : Nat) {v : Int} (h : l[i]? = some v) : (intC l)[i]? = some (.int .i64 v) := by
  unfold intC
  rw [List.getElem?_toArray, List.getElem?_map, h]
  rfl
theorem row0C (A B : List Int) : Array.replicate (B.length + 1) (Value.int .i64 0) = intC (rowR A B 0) := by
  refine Array.ext_getElem? fun j => ?_
  rw [Array.getElem?_replicate]
  unfold intC rowR
  rw [List.getElem?_toArray, List.getElem?_map, List.getElem?_map]
  by_cases hj : j < B.length + 1
  · rw [if_pos hj, List.getElem?_range hj]
    simp [Dk_0]
  · rw [if_neg hj, List.getElem?_eq_none (by simp; omega)]
    rfl
theorem make_ints (m : Nat) (hm : m ≤ 100000) (w : World) : (Instr.makeSlice 162 (.int .i64 ((m : Int) + 1)) (.int .i64 ((m : Int) + 1))).run Tryz.prog w = .ok (.slice (some ⟨w.heap.size, 0, none⟩) (m + 1) (m + 1)) (w.alloc (.cells (Array.replicate (m + 1) (Value.int .i64 0)) 3)) := by
  have h := run_make (P := Tryz.prog) w 162 3 Tryz.t3 (.int .i64 0) Tryz.underlying162 rfl rfl .i64 .i64 ((m : Int) + 1) ((m : Int) + 1) (by omega) (by omega) (by show (8 : Int) * _ ≤ _; omega) (by omega)
  have e1 : ((m : Int) + 1).toNat = m + 1 := by omega
  have e2 : madeCells (Value.int .i64 0).cells ((m + 1) * 1) = Array.replicate (m + 1) (Value.int .i64 0) := Array.ext (by simp [madeCells]) (fun j h1 h2 => by simp [madeCells, Value.cells, Nat.mod_one])
  rw [e1, show Tryz.t3.size = 1 from rfl, e2] at h
  exact h
end
/-! ### The walk of law 24's best. -/
section
open Go Go.RowKit
set_option linter.unusedVariables false
set_option maxHeartbeats 40000000
set_option maxRecDepth 100000
theorem BytV.first {w : World} {a : Option Addr} {n c : Nat} {x : Int} (h : BytV w (.slice a n c) [x]) : n = 1 ∧ ∃ bl off, a = some ⟨bl, off, none⟩ ∧ w.cell? ⟨bl, off, none⟩ = some (.int .u8 x) := by
  obtain ⟨a9, c9, e, _⟩ := h.shape
  simp only [Value.slice.injEq] at e
  obtain ⟨⟨bl, off, e1, e2⟩, _⟩ := BytI.at h.i0 0 x rfl
  exact ⟨e.2.1, bl, off, e1, e2⟩
theorem Best_c {w : World} {v1 v2 : Value} {A B : List Int} (h1 : MsgV w v1 (A.map sgl)) (h2 : MsgV w v2 (B.map sgl)) (l1 : A.length ≤ 1000) (l2 : B.length ≤ 1000) :
    Calls Tryz.prog 37 #[v1, v2] w fun e w' => e = .returned (.int .i64 (Dk A B A.length B.length : Int)) ∧ Below w.heap.size w w' := by
  obtain ⟨a1, c1, rfl, _, o1⟩ := h1.opn
  obtain ⟨a2, c2, rfl, _, o2⟩ := h2.opn
  simp only [List.length_map] at o1 o2 ⊢
  obtain ⟨n, hn⟩ : ∃ n, A.length = n := ⟨_, rfl⟩
  obtain ⟨m, hm⟩ : ∃ m, B.length = m := ⟨_, rfl⟩
  have HN := Lib.hid hn
  have HM := Lib.hid hm
  rw [hn] at l1 o1 ⊢
  rw [hm] at l2 o2 ⊢
  have O1 := Lib.hid o1
  have O2 := Lib.hid o2
  have hmk := make_ints m (by omega)
  obtain ⟨g, hg⟩ : ∃ g, w.heap.size = g := ⟨_, rfl⟩
  have B1 := Lib.hid (bl_alloc (bl_refl w) (.cells (Array.replicate (m + 1) (Value.int .i64 0)) 3))
  have K1 := Lib.hid (show Blk (w.alloc (.cells (Array.replicate (m + 1) (Value.int .i64 0)) 3)) g (intC (rowR A B 0)) 3 from by rw [← row0C, hm, ← hg]; exact Blk.new _ _ _)
  have HG := Lib.hid hg
  have hle := fun i k => Dk_le A B i k
  rw [hn] at hle
  clear h1 h2 o1 o2 hn hm
  go_enter Tryz.func37, Tryz.ntmps37
  go_upto_region 2 with fail
  generalize w.alloc (.cells (Array.replicate (m + 1) (Value.int .i64 0)) 3) = w1 at B1 K1 ⊢
  clear hmk
  go_wp2
  go_loopw [6] (fun v wr => ∃ i : Nat, i ≤ n ∧ v = .int .i64 i ∧ Below w.heap.size w wr ∧ Blk wr g (intC (rowR A B i)) 3) (fun v _ => n - (intOf v).toNat)
  case atStart => exact ⟨0, by omega, rfl, B1.out, K1.out⟩
  case round =>
    obtain ⟨i, hi, rfl, BB, K⟩ := hrel
    by_cases hlt : i < n
    · have hlt' : (i : Int) < n := by omega
      obtain ⟨x, hx⟩ : ∃ x, A[i]? = some x := ⟨_, List.getElem?_eq_getElem (by rw [HN.out]; exact hlt)⟩
      rcases O1.out with z1 | ⟨b1, f1, rfl, m1⟩
      · exact absurd z1 (by omega)
      obtain ⟨u1, g1, y1⟩ := m1 i (sgl x) (by rw [List.getElem?_map, hx]; rfl)
      obtain ⟨q1, n1, d1, rfl⟩ : ∃ q1 n1 d1, u1 = .slice q1 n1 d1 := by obtain ⟨q1, d1, e, _⟩ := y1.shape; exact ⟨_, _, _, e⟩
      obtain ⟨rfl, bq1, oq1, rfl, cq1⟩ := BytV.first y1
      have C1 := Lib.hid g1
      have C2 := Lib.hid cq1
      have HX := Lib.hid hx
      have HBB := Lib.hid BB
      have HK := Lib.hid (show Blk wr g (intC (mixR A B i 0)) 3 from by rw [mixR_0]; exact K)
      clear m1 y1 g1 cq1 hx BB K
      go_wp2
      go_loopw [7, 8] (fun la v wr => ∃ k : Nat, k ≤ m ∧ la = .int .i64 (Dk A B i k : Int) ∧ v = .int .i64 k ∧ Below w.heap.size w wr ∧ Blk wr g (intC (mixR A B i k)) 3) (fun _ v _ => m - (intOf v).toNat)
      case atStart => exact ⟨0, by omega, by rw [Dk_i0]; rfl, rfl, HBB.out, HK.out⟩
      case round =>
        obtain ⟨k, hk, rfl, rfl, BB, K⟩ := hrel
        by_cases hkt : k < m
        · have hkt' : (k : Int) < m := by omega
          obtain ⟨y, hy⟩ : ∃ y, B[k]? = some y := ⟨_, List.getElem?_eq_getElem (by rw [HM.out]; exact hkt)⟩
          rcases O2.out with z2 | ⟨b2, f2, rfl, m2⟩
          · exact absurd z2 (by omega)
          obtain ⟨u2, g2, y2⟩ := m2 k (sgl y) (by rw [List.getElem?_map, hy]; rfl)
          obtain ⟨q2, n2, d2, rfl⟩ : ∃ q2 n2 d2, u2 = .slice q2 n2 d2 := by obtain ⟨q2, d2, e, _⟩ := y2.shape; exact ⟨_, _, _, e⟩
          obtain ⟨rfl, bq2, oq2, rfl, cq2⟩ := BytV.first y2
          have HD := Lib.hid (Dk_s HX.out hy)
          have up_1 := fun g9 : Up wr => below_cell g9.ok (below_cell BB C1.out)
          have up_2 := fun g9 : Up wr => below_cell g9.ok (below_cell BB C2.out)
          have up_3 := fun g9 : Up wr => below_cell g9.ok (below_cell BB g2)
          have up_4 := fun g9 : Up wr => below_cell g9.ok (below_cell BB cq2)
          have e1 := intC_get (mixR A B i k) (k + 1) (mixR_get (by rw [HM.out]; omega))
          rw [if_neg (by omega)] at e1
          have er := mixR_get (A := A) (B := B) (i := i) (k := k) (j := k + 1) (by rw [HM.out]; omega)
          rw [if_neg (by omega)] at er
          have e0 := intC_get (mixR A B i k) k (mixR_get (by rw [HM.out]; omega))
          rw [if_pos (Nat.le_refl _)] at e0
          have r1 := K.c (k + 1)
          rw [e1] at r1
          have HBB2 := Lib.hid BB
          have HK2 := Lib.hid K
          have E0 := Lib.hid e0
          have E1 := Lib.hid e1
          have HMS := Lib.hid (mixR_set (A := A) (B := B) (i := i) (k := k) (by rw [HM.out]; exact hkt))
          have l3 := hle i k
          obtain ⟨d0, hd0⟩ : ∃ d0, Dk A B i k = d0 := ⟨_, rfl⟩
          obtain ⟨d1', hd1⟩ : ∃ d, Dk A B i (k + 1) = d := ⟨_, rfl⟩
          obtain ⟨d2', hd2⟩ : ∃ d, Dk A B (i + 1) k = d := ⟨_, rfl⟩
          rw [hd0] at HD l3 ⊢
          rw [hd1] at HD r1 E1 er
          have ER := Lib.hid er
          rw [hd2] at HD E0
          have HD1 := Lib.hid hd1
          clear hle m2 y2 g2 cq2 hy BB K e0 e1 er hd0 hd1 hd2
          go_upto_region 10 with fail
          clear r1
          refine wp_region_up (by kernel_rfl) (by kernel_rfl) ?_
          repeat (go_big_quiet_step (fail))
          refine wpQuiet_nil ?_
          clear up_1 up_2 up_3 up_4
          refine up_elim (fun w6 hb6 => ?_)
          have K6 := HK2.out.below hb6
          have HK6 := Lib.hid K6
          have HB6 := Lib.hid (bl_then HBB2.out hb6)
          by_cases hxy : x = y
          · have hxy' : (x == y) = true := beq_iff_eq.2 hxy
            have c6 := (K6.c (k + 1)).trans E1.out
            have f6 := K6.f (k + 1)
            have HD' := Lib.hid (HD.out.trans (if_pos hxy))
            clear K6 hb6
            go_wp2
            go_roundw
            case rel =>
              refine ⟨k + 1, by omega, by rw [HD1.out], by go_num, HB6.out.trans (((Chg.refl [g] w6).set (b := g) (i := k + 1) (.inl (by simp)) _).to_below HB6.out.size (fun j hj => by have := HG.out; simp at hj; omega)), ?_⟩
              have := HK6.out.set (k + 1) (.int .i64 ((d0 : Int) + 1))
              rw [intC_set] at this
              rw [← HMS.out, HD'.out]
              exact this
            case measure => simp [intOf]; omega
          · have hxy' : (x == y) = false := beq_eq_false_iff_ne.2 hxy
            have HD' := Lib.hid (HD.out.trans (if_neg hxy))
            have up_5 := fun g9 : Up w6 => ((Blk.below HK6.out g9.ok).c k).trans E0.out
            have up_6 := fun g9 : Up w6 => ((Blk.below HK6.out g9.ok).c (k + 1)).trans E1.out
            clear K6 hb6
            go_upto_region 12 with fail
            refine wp_region_up (by kernel_rfl) (by kernel_rfl) ?_
            repeat (go_big_quiet_step (fail))
            refine wpQuiet_nil ?_
            clear up_5 up_6
            refine up_elim (fun w7 hb7 => ?_)
            have K7 := HK6.out.below hb7
            have HK7 := Lib.hid K7
            have HB7 := Lib.hid (bl_then HB6.out hb7)
            have c7a := (K7.c k).trans E0.out
            have c7b := (K7.c (k + 1)).trans E1.out
            have f7 := K7.f (k + 1)
            clear K7 hb7
            by_cases hgt : d1' < d2'
            · have hgt' : (d1' : Int) < d2' := by omega
              go_wp2
              go_roundw
              case rel =>
                refine ⟨k + 1, by omega, by rw [HD1.out], by go_num, HB7.out.trans (((Chg.refl [g] w7).set (b := g) (i := k + 1) (.inl (by simp)) _).to_below HB7.out.size (fun j hj => by have := HG.out; simp at hj; omega)), ?_⟩
                have := HK7.out.set (k + 1) (.int .i64 (d2' : Int))
                rw [intC_set] at this
                rw [← HMS.out, HD'.out, Nat.max_eq_left (by omega)]
                exact this
              case measure => simp [intOf]; omega
            · have hgt' : ¬ (d1' : Int) < d2' := by omega
              go_wp2
              go_roundw
              case rel =>
                refine ⟨k + 1, by omega, by rw [HD1.out], by go_num, HB7.out, ?_⟩
                rw [← HMS.out, HD'.out, Nat.max_eq_right (by omega)]
                have es : (mixR A B i k).set (k + 1) (d1' : Int) = mixR A B i k := by
                  refine List.ext_getElem? fun j => ?_
                  rw [List.getElem?_set]
                  by_cases ej : k + 1 = j
                  · subst ej
                    have hlt9 := (List.getElem?_eq_some_iff.1 ER.out).1
                    rw [if_pos rfl, if_pos hlt9, ER.out]
                  · rw [if_neg ej]
                rw [es]
                exact HK7.out
              case measure => simp [intOf]; omega
        · obtain rfl : k = m := by omega
          have hnl : ¬ ((k : Int) < k) := by omega
          have HBB2 := Lib.hid BB
          have HK2 := Lib.hid (show Blk wr g (intC (rowR A B (i + 1))) 3 from by rw [← mixR_end, HM.out]; exact K)
          clear BB K
          go_wp2
          go_roundw
          case rel => exact ⟨i + 1, by omega, by go_num, HBB2.out, HK2.out⟩
          case measure => simp [intOf]; omega
    · obtain rfl : i = n := by omega
      have hnl : ¬ ((i : Int) < i) := by omega
      have r1 := K.c m
      rw [intC_get (rowR A B i) m (v := (Dk A B i m : Int)) (by unfold rowR; rw [List.getElem?_map, List.getElem?_range (by rw [HM.out]; omega)]; rfl)] at r1
      have HBB := Lib.hid BB
      clear BB K
      go_wp2
      go_ret
      exact ⟨rfl, by first | exact HBB.out | (rw [← HG.out]; exact HBB.out)⟩
end
/-! ### The walk of ScoreParts. -/
section
open Go Go.RowKit
set_option linter.unusedVariables false
set_option maxHeartbeats 40000000
set_option maxRecDepth 100000
theorem MsgV.nth {w : World} {a : Option Addr} {n c : Nat} {xs : List Oct} (h : MsgV w (.slice a n c) xs) {k : Nat} {p : Oct} (hx : xs[k]? = some p) : ∃ bl off au nu cu, a = some ⟨bl, off, none⟩ ∧ w.cell? ⟨bl, off + k, none⟩ = some (.slice au nu cu) ∧ BytV w (.slice au nu cu) p := by
  obtain ⟨a9, c9, e, _, o⟩ := h.opn
  simp only [Value.slice.injEq] at e
  obtain ⟨rfl, rfl, rfl⟩ := e
  rcases o with z | ⟨bl, off, rfl, m⟩
  · have := (List.getElem?_eq_some_iff.1 hx).1; omega
  · obtain ⟨u, g1, y1⟩ := m k p hx
    obtain ⟨au, cu, rfl, _⟩ := y1.shape
    exact ⟨bl, off, au, _, cu, rfl, g1, y1⟩
theorem SlV.opn {w : World} {v : Value} {n : Nat} {V : Nat → Value} (h : SlV w v n V) : ∃ a cap, v = .slice a n cap ∧ (n = 0 ∨ ∃ b off, a = some ⟨b, off, none⟩ ∧ ∀ i, i < n → w.cell? ⟨b, off + i, none⟩ = some (V i)) := by
  obtain ⟨⟨a, cap, rfl, _, _⟩, h2⟩ := h
  refine ⟨a, cap, rfl, ?_⟩
  by_cases h0 : n = 0
  · exact .inl h0
  · obtain ⟨b, off, cap', e, _⟩ := h2 0 (by omega)
    simp only [Value.slice.injEq] at e
    obtain ⟨rfl, -, rfl⟩ := e
    refine .inr ⟨b, off, rfl, fun i hi => ?_⟩
    obtain ⟨b', off', cap', e, hc⟩ := h2 i hi
    simp only [Value.slice.injEq, Option.some.injEq, Addr.mk.injEq, and_true] at e
    obtain ⟨⟨rfl, rfl⟩, _⟩ := e
    exact hc
theorem lstO_len (xs : Oct) : (lstO xs).length ≤ 20 := by unfold lstO; rw [List.length_map, List.length_take]; omega
theorem lstO_sgl (xs : Oct) : lstO xs = ((xs.take 20).map (· % 4)).map sgl := by unfold lstO; rw [List.map_map]; rfl
theorem ScoreParts_w (v1 : Value) (xs : Oct) (v2 : Value) (ys : Oct) (v3 : Value) (n3 : Nat) (B3 : Nat → Bool) (W : World) (h1 : BytI W [] v1 xs) (_l1 : xs.length ≤ maxLen) (h2 : BytI W [] v2 ys) (_l2 : ys.length ≤ maxLen) (h3 : SlV W v3 n3 (fun i => .bool (B3 i))) :
    Calls Tryz.prog 6 #[v1, v2, v3] W fun e W' => e = .returned (.bool true) ∧ Below W.heap.size W W' := by
  obtain ⟨a3, c3, rfl, o3⟩ := h3.opn
  have O3 := Lib.hid o3
  have HL2 := Lib.hid (Lists_c h2)
  have HL1 := Lib.hid (fun w (hb : Below W.heap.size W w) => Lists_c (h1.below hb))
  obtain ⟨a1, c1, rfl, _⟩ := h1.shape
  obtain ⟨a2, c2, rfl, _⟩ := h2.shape
  have AW := Lib.hid (fun w => SAwake_c w)
  obtain ⟨ls1, has⟩ : ∃ ls1, lstO xs = ls1 := ⟨_, rfl⟩
  obtain ⟨ls2, hbs⟩ : ∃ ls2, lstO ys = ls2 := ⟨_, rfl⟩
  obtain ⟨n1, hn1⟩ : ∃ n, xs.length = n := ⟨_, rfl⟩
  obtain ⟨n2, hn2⟩ : ∃ n, ys.length = n := ⟨_, rfl⟩
  have HAS := Lib.hid has
  have HBS := Lib.hid hbs
  rw [has, hn1] at HL1
  rw [hbs, hn2] at HL2
  rw [hn1, hn2]
  have lb := lstO_len ys
  have la := lstO_len xs
  rw [hbs] at lb
  rw [has] at la
  clear h1 h2 h3 o3 _l1 _l2 has hbs hn1 hn2
  obtain ⟨nb, hnb⟩ : ∃ nb, ls2.length = nb := ⟨_, rfl⟩
  have HNB := Lib.hid hnb
  rw [hnb] at lb
  go_enter Tryz.func6, Tryz.ntmps6
  go_upto_region 2 with (first
    | ((with_reducible refine HL2.out.mono ?_); rintro e w2 ⟨vb, rfl, A2⟩; have HA2 := Lib.hid A2; clear A2))
  obtain ⟨ab, cb, evb, _⟩ := HA2.out.ms.shape
  rw [hnb] at evb
  subst evb
  clear hnb
  go_wp2
  go_loopw [8, 9] (fun v i wr => ∃ (k : Nat) (S : List Oct), k ≤ nb ∧ i = .int .i64 k ∧ S.Sublist (ls2.take k) ∧ AccM w2 wr v S) (fun _ i _ => nb - (intOf i).toNat)
  case atStart => exact ⟨0, [], by omega, rfl, by simp, AccM.nil w2⟩
  case round =>
    obtain ⟨k, S, hk, rfl, hS, A⟩ := hrel
    by_cases hlt : k < nb
    · have hlt' : (k : Int) < nb := by omega
      obtain ⟨p, hp⟩ : ∃ p, ls2[k]? = some p := ⟨_, List.getElem?_eq_getElem (by rw [HNB.out]; exact hlt)⟩
      have HA := Lib.hid A
      have MB := HA2.out.ms.below A.bel
      obtain ⟨bl, off, au, nu, cu, rfl, g1, y1⟩ := MsgV.nth MB hp
      have Y1 := Lib.hid y1
      have hsl := Lib.hid (show S.length ≤ 100000 from by have := hS.length_le; rw [List.length_take] at this; omega)
      have HS1 := Lib.hid (show S.Sublist (ls2.take (k + 1)) from by rw [List.take_add_one]; exact hS.trans (List.sublist_append_left _ _))
      have HS2 := Lib.hid (show (S ++ [p]).Sublist (ls2.take (k + 1)) from by rw [List.take_add_one, hp]; exact hS.append (List.Sublist.refl _))
      obtain ⟨av, cv, rfl, _⟩ := A.ms.shape
      have BA := Lib.hid (bl_alloc (bl_refl wr) (.cells #[.slice au nu cu] 25))
      have N1 := Lib.hid (Blk.new wr #[.slice au nu cu] 25)
      have A1 := Lib.hid (HA.out.below BA.out)
      have Y2 := Lib.hid (Byt.below Y1.out BA.out)
      have BW := Lib.hid (bl_then HA2.out.bel A.bel)
      clear y1 hp A hS MB
      by_cases hc : n3 ≤ k
      · have hc' : (n3 : Int) ≤ k := by omega
        go_wp2_with (first
          | (at_builtin; refine wpList_msg _ rfl (.tmp 29) (.tmp 34) 46 rfl Tryz.underlying46 _ _ rfl A1.out.ms _ _ _ rfl N1.out Y2.out hsl.out ?_; intro v6 w6 R6 C6 O6; have A6 := Lib.hid (A1.out.grow R6 C6 O6); clear R6 C6 O6))
        go_roundw
        case rel => exact ⟨k + 1, _, by omega, by go_num, HS2.out, A6.out⟩
        case measure => simp [intOf]; omega
      · have hc' : ¬ (n3 : Int) ≤ k := by omega
        have hck : (k : Int) < n3 := by omega
        rcases O3.out with z3 | ⟨bl3, off3, rfl, m3⟩
        · omega
        have c3 := below_cell BW.out (m3 k (by omega))
        cases hb3 : B3 k with
        | true =>
          rw [hb3] at c3
          go_wp2_with (first
            | (at_builtin; refine wpList_msg _ rfl (.tmp 29) (.tmp 34) 46 rfl Tryz.underlying46 _ _ rfl A1.out.ms _ _ _ rfl N1.out Y2.out hsl.out ?_; intro v6 w6 R6 C6 O6; have A6 := Lib.hid (A1.out.grow R6 C6 O6); clear R6 C6 O6))
          go_roundw
          case rel => exact ⟨k + 1, _, by omega, by go_num, HS2.out, A6.out⟩
          case measure => simp [intOf]; omega
        | false =>
          rw [hb3] at c3
          go_wp2
          go_roundw
          case rel => exact ⟨k + 1, _, by omega, by go_num, HS1.out, HA.out⟩
          case measure => simp [intOf]; omega
    · obtain rfl : k = nb := by omega
      have hnl : ¬ ((k : Int) < k) := by omega
      have HA := Lib.hid A
      have HS := Lib.hid (show S.Sublist ls2 from by rw [List.take_of_length_le (by rw [HNB.out]; exact Nat.le_refl _)] at hS; exact hS)
      have BW := Lib.hid (bl_then HA2.out.bel A.bel)
      obtain ⟨av, cv, rfl, _⟩ := A.ms.shape
      have HLA := Lib.hid (HL1.out wr BW.out)
      clear A hS
      go_upto_region 9 with (first
        | ((with_reducible refine HLA.out.mono ?_); rintro e w5 ⟨va, rfl, A5⟩; have HA5 := Lib.hid A5; clear A5))
      obtain ⟨A, hA⟩ : ∃ A : List Int, (xs.take 20).map (· % 4) = A := ⟨_, rfl⟩
      obtain ⟨B, hB⟩ : ∃ B : List Int, (ys.take 20).map (· % 4) = B := ⟨_, rfl⟩
      have eA : ls1 = A.map sgl := by rw [← hA, ← lstO_sgl]; exact HAS.out.symm
      have eB : ls2 = B.map sgl := by rw [← hB, ← lstO_sgl]; exact HBS.out.symm
      have MS := Lib.hid (HA.out.ms.below HA5.out.bel)
      have MB := Lib.hid (HA2.out.ms.below (bl_then HA.out.bel HA5.out.bel))
      have MA := Lib.hid HA5.out.ms
      obtain ⟨ava, cva, eva, _⟩ := HA5.out.ms.shape
      obtain ⟨na, hna⟩ : ∃ na, ls1.length = na := ⟨_, rfl⟩
      rw [hna] at eva
      have HNA := Lib.hid hna
      subst eva
      clear hna
      have lA : A.length ≤ 1000 := by have := la; rw [eA, List.length_map] at this; omega
      have lB : B.length ≤ 1000 := by have := HNB.out; rw [eB, List.length_map] at this; omega
      have lbb : ls2.length ≤ 100000 := by have := HNB.out; omega
      have p1 : decide (ls2.foldl stpO S = []) = true := decide_eq_true ((partO_sub _ _).2 HS.out)
      have P1 := Lib.hid p1
      have BE := Lib.hid (fun (w : World) (hb : Below w5.heap.size w5 w) => Best_c (A := A) (B := B) (eA ▸ MA.out.below hb) (eB ▸ MB.out.below hb) lA lB)
      clear p1 hA hB
      by_cases hs : A.Sublist B
      · have p2 : decide (ls2.foldl stpO ls1 = []) = true := decide_eq_true ((partO_sub _ _).2 (by rw [eA, eB]; exact sgl_sub.2 hs))
        have P2 := Lib.hid p2
        have HD := Lib.hid (show ((Dk A B A.length B.length : Int) == (na : Int)) = true from beq_iff_eq.2 (by rw [(Dk_all A B).2 hs, ← HNA.out, eA, List.length_map]))
        have hdq := HD.out
        clear p2 hs
        go_wp2_with (first
          | ((with_reducible refine (AW.out _).mono ?_); rintro e w6 ⟨rfl, b6⟩; have B6 := Lib.hid b6; have HPS := Part_c (MS.out.below b6) (MB.out.below b6) (by omega); rw [P1.out] at HPS; have HPS := Lib.hid HPS; clear b6)
          | ((with_reducible refine HPS.out.mono ?_); rintro e w7 ⟨rfl, b7⟩; have B7 := Lib.hid (bl_then B6.out b7); have HPA := Part_c (MA.out.below (bl_then B6.out b7)) (MB.out.below (bl_then B6.out b7)) (by omega); rw [P2.out] at HPA; have HPA := Lib.hid HPA; clear b7)
          | ((with_reducible refine HPA.out.mono ?_); rintro e w8 ⟨rfl, b8⟩; have B8 := Lib.hid (bl_then B7.out b8); have HBE := Lib.hid (BE.out w8 (bl_then B7.out b8)); clear b8)
          | ((with_reducible refine HBE.out.mono ?_); rintro e w9 ⟨rfl, b9⟩; have B9 := Lib.hid (bl_then B8.out b9); clear b9))
        go_ret
        exact ⟨rfl, bl_then BW.out (bl_then HA5.out.bel B9.out)⟩
      · have p2 : decide (ls2.foldl stpO ls1 = []) = false := decide_eq_false (fun h9 => hs (sgl_sub.1 (by rw [← eA, ← eB]; exact (partO_sub _ _).1 h9)))
        have P2 := Lib.hid p2
        have HD := Lib.hid (show ((Dk A B A.length B.length : Int) == (na : Int)) = false from beq_eq_false_iff_ne.2 (fun h9 => hs ((Dk_all A B).1 (by rw [← HNA.out, eA, List.length_map] at h9; omega))))
        have hdq := HD.out
        clear p2 hs
        go_wp2_with (first
          | ((with_reducible refine (AW.out _).mono ?_); rintro e w6 ⟨rfl, b6⟩; have B6 := Lib.hid b6; have HPS := Part_c (MS.out.below b6) (MB.out.below b6) (by omega); rw [P1.out] at HPS; have HPS := Lib.hid HPS; clear b6)
          | ((with_reducible refine HPS.out.mono ?_); rintro e w7 ⟨rfl, b7⟩; have B7 := Lib.hid (bl_then B6.out b7); have HPA := Part_c (MA.out.below (bl_then B6.out b7)) (MB.out.below (bl_then B6.out b7)) (by omega); rw [P2.out] at HPA; have HPA := Lib.hid HPA; clear b7)
          | ((with_reducible refine HPA.out.mono ?_); rintro e w8 ⟨rfl, b8⟩; have B8 := Lib.hid (bl_then B7.out b8); have HBE := Lib.hid (BE.out w8 (bl_then B7.out b8)); clear b8)
          | ((with_reducible refine HBE.out.mono ?_); rintro e w9 ⟨rfl, b9⟩; have B9 := Lib.hid (bl_then B8.out b9); clear b9))
        go_ret
        exact ⟨rfl, bl_then BW.out (bl_then HA5.out.bel B9.out)⟩
end
end Go.Proofs.YtcllbmjmefeknaaGreatK
