/- An ear in memory; the walks of its small functions. The walk of Ear.flag. The walk of Ear.Bit. -/
import Derived.Test.YtcllbmjmefeknaaGreatBt1
namespace Go.Proofs.YtcllbmjmefeknaaGreatK
/-! ### An ear in memory; the walks of its small functions. -/
section
open Go Go.RowKit
set_option linter.unusedVariables false
set_option maxHeartbeats 4000000
set_option maxRecDepth 100000
/-- What an ear has heard. -/
structure Er where
  inn : List Bool
  ones : Nat
  found : Bool
  n : Nat
  deriving DecidableEq
/-- What is heard: a kind, and octets. -/
abbrev Hd := Option (Int × Oct)
def Er.count (e : Er) (on : Bool) : Er × Hd :=
  if on = false ∧ e.ones = 6 then (⟨[], 0, true, 0⟩, none)
  else if e.n + 1 = 128 then (⟨e.inn, if on then e.ones + 1 else 0, e.found, 0⟩, some (2, []))
  else (⟨e.inn, if on then e.ones + 1 else 0, e.found, e.n + 1⟩, none)
def Er.lost (e : Er) : Er := ⟨[], e.ones, false, 0⟩
/-- An ear's four cells, from o on. -/
structure EarC (cs : Array Value) (o : Nat) (vin : Value) (e : Er) : Prop where
  c0 : cs[o]? = some vin
  c1 : cs[o + 1]? = some (.int .i64 e.ones)
  c2 : cs[o + 2]? = some (.bool e.found)
  c3 : cs[o + 3]? = some (.int .i64 e.n)
/-- Cells of which only the ear's are others. -/
structure Only (cs cs' : Array Value) (o : Nat) : Prop where
  size : cs'.size = cs.size
  rest : ∀ j, j < o ∨ o + 4 ≤ j → cs'[j]? = cs[j]?
structure EarAt (w : World) (b : Nat) (t : TypeId) (cs : Array Value) (o : Nat) (vin : Value) (e : Er) : Prop where
  blk : Blk w b cs t
  c : EarC cs o vin e
  bits : BitV w vin e.inn
  ty : t ≠ 4
/-- What an operation on an ear leaves. -/
def EarTo (w w' : World) (b : Nat) (t : TypeId) (cs : Array Value) (o : Nat) (vin : Value) (e : Er) : Prop :=
  ∃ vin' cs', EarAt w' b t cs' o vin' e ∧ Only cs cs' o ∧ Chg (b :: own vin) w w' ∧ ∀ g ∈ own vin', g ∈ own vin ∨ w.heap.size ≤ g
theorem Only.refl (cs : Array Value) (o : Nat) : Only cs cs o := ⟨rfl, fun _ _ => rfl⟩
theorem Only.set {cs cs' : Array Value} {o i : Nat} (h : Only cs cs' o) (hi : o ≤ i ∧ i < o + 4) (v : Value) : Only cs (cs'.setIfInBounds i v) o :=
  ⟨by simp [h.size], fun j hj => by rw [Array.getElem?_setIfInBounds_ne (by omega)]; exact h.rest j hj⟩
theorem getElem?_set_ne' {cs : Array Value} {i j : Nat} {v x : Value} (h : cs[j]? = some x) (hij : i ≠ j) : (cs.setIfInBounds i v)[j]? = some x := by rw [Array.getElem?_setIfInBounds_ne hij]; exact h
theorem getElem?_set_eq' {cs : Array Value} {i : Nat} {v x : Value} (h : cs[i]? = some x) : (cs.setIfInBounds i v)[i]? = some v := by
  have := (Array.getElem?_eq_some_iff.1 h).1
  simp [this]
theorem EarC.sz {cs : Array Value} {o : Nat} {vin : Value} {e : Er} (h : EarC cs o vin e) : o + 3 < cs.size := (Array.getElem?_eq_some_iff.1 h.c3).1
theorem Lost_c {w : World} {b : Nat} {t : TypeId} {cs : Array Value} {o : Nat} {vin : Value} {e : Er} (h : EarAt w b t cs o vin e) :
    Calls Tryz.prog 120 #[.pointer (some ⟨b, o, none⟩)] w fun x w' => x = .returned (.tuple #[]) ∧ EarTo w w' b t cs o vin e.lost := by
  have c0 : w.cell? ⟨b, o, none⟩ = some vin := (h.blk.c _).trans h.c.c0
  have c2 : w.cell? ⟨b, o + 2, none⟩ = some (.bool e.found) := (h.blk.c _).trans h.c.c2
  have c3 : w.cell? ⟨b, o + 3, none⟩ = some (.int .i64 e.n) := (h.blk.c _).trans h.c.c3
  have f0 := h.blk.f
  have H := Lib.hid h
  clear h
  go_enter Tryz.func120, Tryz.ntmps120
  go_wp2
  go_end0
  have h := H.out
  have hs := h.c.sz
  refine ⟨rfl, .slice none 0 0, _, ⟨((h.blk.set (o + 2) (.bool false)).set o (.slice none 0 0)).set (o + 3) (.int .i64 0), ⟨?_, ?_, ?_, ?_⟩, BitV.nil _, h.ty⟩, (((Only.refl cs o).set (by omega) _).set (by omega) _).set (by omega) _, ((((Chg.refl _ _).set (by simp) _).set (by simp) _).set (by simp) _), by simp [own, Value.ownBlock]⟩
  all_goals simp [Array.getElem?_setIfInBounds, h.c.c1, Er.lost]
  all_goals omega
/-- What comes, as a value. -/
def HdIs (w : World) (v : Value) (h : Hd) : Prop := match h with
  | none => v = .tuple #[.agg #[.int .u8 0, .slice none 0 0], .bool false]
  | some (k, p) => ∃ vp, v = .tuple #[.agg #[.int .u8 k, vp], .bool true] ∧ BytV w vp p
theorem Heard.laid : Laid Tryz.prog 177 2 := ⟨⟨_, Tryz.underlying177, rfl⟩, by kernel_rfl⟩
theorem EarAt.notin {w : World} {b : Nat} {t : TypeId} {cs : Array Value} {o : Nat} {vin : Value} {e : Er} (h : EarAt w b t cs o vin e) : b ∉ own vin := fun hg => by
  obtain ⟨cs', h1⟩ := Row.blk h.bits b hg
  exact h.blk.ne h1 h.ty rfl
theorem EarAt.below {w w1 : World} {b : Nat} {t : TypeId} {cs : Array Value} {o : Nat} {vin : Value} {e : Er} (h : EarAt w b t cs o vin e) (hb : Below w.heap.size w w1) : EarAt w1 b t cs o vin e := ⟨h.blk.below hb, h.c, h.bits.below hb, h.ty⟩
/-- Its own cells alone were written; then the world grew. -/
theorem EarAt.sets {w W w' : World} {b : Nat} {t : TypeId} {cs cs' : Array Value} {o : Nat} {vin : Value} {e e' : Er} (h : EarAt w b t cs o vin e) (hb : Blk W b cs' t) (hc : Chg [b] w W) (hE : EarC cs' o vin e') (hi : e'.inn = e.inn) (ho : Only cs cs' o) (hW : Below W.heap.size W w') : EarTo w w' b t cs o vin e' := by
  refine ⟨vin, cs', EarAt.below ⟨hb, hE, ?_, h.ty⟩ hW, ho, (hc.more (by simp)).trans (Chg.of_below hW []) (by simp), fun g hg => .inl hg⟩
  rw [hi]
  exact Row.chg h.bits hc (fun g hg hgb => h.notin ((by simpa using hgb : g = b) ▸ hg))
theorem EarAt.sets0 {w W w' : World} {b : Nat} {t : TypeId} {cs cs' : Array Value} {o : Nat} {vin : Value} {e e' : Er} (h : EarAt w b t cs o vin e) (hb : Blk W b cs' t) (hc : Chg [b] w W) (hE : EarC cs' o (.slice none 0 0) e') (hi : e'.inn = []) (ho : Only cs cs' o) (hW : Below W.heap.size W w') : EarTo w w' b t cs o vin e' := by
  refine ⟨.slice none 0 0, cs', EarAt.below ⟨hb, hE, ?_, h.ty⟩ hW, ho, (hc.more (by simp)).trans (Chg.of_below hW []) (by simp), by simp [own, Value.ownBlock]⟩
  rw [hi]
  exact BitV.nil _
theorem ECount_c {w : World} {b : Nat} {t : TypeId} {cs : Array Value} {o : Nat} {vin : Value} {e : Er} (h : EarAt w b t cs o vin e) (on : Bool) (h1 : e.ones ≤ 100000000) (h2 : e.n ≤ 128) :
    Calls Tryz.prog 119 #[.pointer (some ⟨b, o, none⟩), .bool on] w fun x w' => ∃ v, x = .returned v ∧ HdIs w' v (e.count on).2 ∧ EarTo w w' b t cs o vin (e.count on).1 := by
  have c0 : w.cell? ⟨b, o, none⟩ = some vin := (h.blk.c _).trans h.c.c0
  have c1 : w.cell? ⟨b, o + 1, none⟩ = some (.int .i64 e.ones) := (h.blk.c _).trans h.c.c1
  have c2 : w.cell? ⟨b, o + 2, none⟩ = some (.bool e.found) := (h.blk.c _).trans h.c.c2
  have c3 : w.cell? ⟨b, o + 3, none⟩ = some (.int .i64 e.n) := (h.blk.c _).trans h.c.c3
  have f0 := h.blk.f
  have H := Lib.hid h
  have hlt := h.blk.lt
  have nb : b ≠ w.heap.size := Nat.ne_of_lt hlt
  have nb2 : w.heap.size ≠ b := fun e => nb e.symm
  obtain ⟨inn, ones, found, n⟩ := e
  dsimp only at c1 c2 c3 h1 h2
  clear h
  cases on with
  | false =>
    by_cases h6 : ones = 6
    · subst h6
      have e0 : Er.count ⟨inn, 6, found, n⟩ false = (⟨[], 0, true, 0⟩, none) := rfl
      go_enter Tryz.func119, Tryz.ntmps119
      go_wp2
      have h := H.out
      have hs := h.c.sz
      refine bodyPost_ret (res_ct rfl Heard.laid rfl (Blk.newAt (n := w.heap.size) (by simp [World.setCell]) #[.int .u8 0, .slice none 0 0] 177) rfl) rfl ⟨_, rfl, ?_, ?_⟩
      · rw [e0]; rfl
      · rw [e0]
        refine h.sets0 (((((h.blk.set (o + 1) (.int .i64 7)).set (o + 1) (.int .i64 0)).set (o + 2) (.bool true)).set o (.slice none 0 0)).set (o + 3) (.int .i64 0)) ((((((Chg.refl [b] w).set (b := b) (i := (o + 1)) (by simp) (.int .i64 7)).set (b := b) (i := (o + 1)) (by simp) (.int .i64 0)).set (b := b) (i := (o + 2)) (by simp) (.bool true)).set (b := b) (i := o) (by simp) (.slice none 0 0)).set (b := b) (i := (o + 3)) (by simp) (.int .i64 0)) ⟨?_, ?_, ?_, ?_⟩ rfl ((((((Only.refl cs o).set (i := (o + 1)) (by omega) (.int .i64 7)).set (i := (o + 1)) (by omega) (.int .i64 0)).set (i := (o + 2)) (by omega) (.bool true)).set (i := o) (by omega) (.slice none 0 0)).set (i := (o + 3)) (by omega) (.int .i64 0)) (bl_alloc (bl_refl _) _)
        all_goals simp [Array.getElem?_setIfInBounds]
        all_goals omega
    · have h6' : ((ones : Int) == 6) = false := beq_eq_false_iff_ne.2 (by omega)
      by_cases h8 : n = 127
      · subst h8
        have e0 : Er.count ⟨inn, ones, found, 127⟩ false = (⟨inn, 0, found, 0⟩, some (2, [])) := by unfold Er.count; rw [if_neg (fun h => h6 h.2), if_pos rfl]; rfl
        go_enter Tryz.func119, Tryz.ntmps119
        go_wp2
        have h := H.out
        have hs := h.c.sz
        refine bodyPost_ret (res_ct rfl Heard.laid rfl (Blk.newAt (n := w.heap.size) (by simp [World.setCell]) #[.int .u8 2, .slice none 0 0] 177) rfl) rfl ⟨_, rfl, ?_, ?_⟩
        · rw [e0]; exact ⟨_, rfl, byt_nil⟩
        · rw [e0]
          refine h.sets ((((h.blk.set (o + 1) (.int .i64 ((ones : Int) + 1))).set (o + 1) (.int .i64 0)).set (o + 3) (.int .i64 128)).set (o + 3) (.int .i64 0)) (((((Chg.refl [b] w).set (b := b) (i := (o + 1)) (by simp) (.int .i64 ((ones : Int) + 1))).set (b := b) (i := (o + 1)) (by simp) (.int .i64 0)).set (b := b) (i := (o + 3)) (by simp) (.int .i64 128)).set (b := b) (i := (o + 3)) (by simp) (.int .i64 0)) ⟨?_, ?_, ?_, ?_⟩ rfl (((((Only.refl cs o).set (i := (o + 1)) (by omega) (.int .i64 ((ones : Int) + 1))).set (i := (o + 1)) (by omega) (.int .i64 0)).set (i := (o + 3)) (by omega) (.int .i64 128)).set (i := (o + 3)) (by omega) (.int .i64 0)) (bl_alloc (bl_refl _) _)
          all_goals simp [Array.getElem?_setIfInBounds, h.c.c0, h.c.c2]
          all_goals omega
      · have h8' : ((n : Int) + 1 == 128) = false := beq_eq_false_iff_ne.2 (by omega)
        have e0 : Er.count ⟨inn, ones, found, n⟩ false = (⟨inn, 0, found, n + 1⟩, none) := by unfold Er.count; rw [if_neg (fun h => h6 h.2), if_neg (by dsimp only; omega)]; rfl
        go_enter Tryz.func119, Tryz.ntmps119
        go_wp2
        have h := H.out
        have hs := h.c.sz
        refine bodyPost_ret (res_ct rfl Heard.laid rfl (Blk.newAt (n := w.heap.size) (by simp [World.setCell]) #[.int .u8 0, .slice none 0 0] 177) rfl) rfl ⟨_, rfl, ?_, ?_⟩
        · rw [e0]; rfl
        · rw [e0]
          refine h.sets (((h.blk.set (o + 1) (.int .i64 ((ones : Int) + 1))).set (o + 1) (.int .i64 0)).set (o + 3) (.int .i64 ((n : Int) + 1))) ((((Chg.refl [b] w).set (b := b) (i := (o + 1)) (by simp) (.int .i64 ((ones : Int) + 1))).set (b := b) (i := (o + 1)) (by simp) (.int .i64 0)).set (b := b) (i := (o + 3)) (by simp) (.int .i64 ((n : Int) + 1))) ⟨?_, ?_, ?_, ?_⟩ rfl ((((Only.refl cs o).set (i := (o + 1)) (by omega) (.int .i64 ((ones : Int) + 1))).set (i := (o + 1)) (by omega) (.int .i64 0)).set (i := (o + 3)) (by omega) (.int .i64 ((n : Int) + 1))) (bl_alloc (bl_refl _) _)
          all_goals simp [Array.getElem?_setIfInBounds, h.c.c0, h.c.c2]
          all_goals omega
  | true =>
    by_cases h8 : n = 127
    · subst h8
      have e0 : Er.count ⟨inn, ones, found, 127⟩ true = (⟨inn, ones + 1, found, 0⟩, some (2, [])) := by unfold Er.count; rw [if_neg (by simp), if_pos rfl]; rfl
      go_enter Tryz.func119, Tryz.ntmps119
      go_wp2
      have h := H.out
      have hs := h.c.sz
      refine bodyPost_ret (res_ct rfl Heard.laid rfl (Blk.newAt (n := w.heap.size) (by simp [World.setCell]) #[.int .u8 2, .slice none 0 0] 177) rfl) rfl ⟨_, rfl, ?_, ?_⟩
      · rw [e0]; exact ⟨_, rfl, byt_nil⟩
      · rw [e0]
        refine h.sets (((h.blk.set (o + 1) (.int .i64 ((ones : Int) + 1))).set (o + 3) (.int .i64 128)).set (o + 3) (.int .i64 0)) ((((Chg.refl [b] w).set (b := b) (i := (o + 1)) (by simp) (.int .i64 ((ones : Int) + 1))).set (b := b) (i := (o + 3)) (by simp) (.int .i64 128)).set (b := b) (i := (o + 3)) (by simp) (.int .i64 0)) ⟨?_, ?_, ?_, ?_⟩ rfl ((((Only.refl cs o).set (i := (o + 1)) (by omega) (.int .i64 ((ones : Int) + 1))).set (i := (o + 3)) (by omega) (.int .i64 128)).set (i := (o + 3)) (by omega) (.int .i64 0)) (bl_alloc (bl_refl _) _)
        all_goals simp [Array.getElem?_setIfInBounds, h.c.c0, h.c.c2]
        all_goals omega
    · have h8' : ((n : Int) + 1 == 128) = false := beq_eq_false_iff_ne.2 (by omega)
      have e0 : Er.count ⟨inn, ones, found, n⟩ true = (⟨inn, ones + 1, found, n + 1⟩, none) := by unfold Er.count; rw [if_neg (by simp), if_neg (by dsimp only; omega)]; rfl
      go_enter Tryz.func119, Tryz.ntmps119
      go_wp2
      have h := H.out
      have hs := h.c.sz
      refine bodyPost_ret (res_ct rfl Heard.laid rfl (Blk.newAt (n := w.heap.size) (by simp [World.setCell]) #[.int .u8 0, .slice none 0 0] 177) rfl) rfl ⟨_, rfl, ?_, ?_⟩
      · rw [e0]; rfl
      · rw [e0]
        refine h.sets ((h.blk.set (o + 1) (.int .i64 ((ones : Int) + 1))).set (o + 3) (.int .i64 ((n : Int) + 1))) (((Chg.refl [b] w).set (b := b) (i := (o + 1)) (by simp) (.int .i64 ((ones : Int) + 1))).set (b := b) (i := (o + 3)) (by simp) (.int .i64 ((n : Int) + 1))) ⟨?_, ?_, ?_, ?_⟩ rfl (((Only.refl cs o).set (i := (o + 1)) (by omega) (.int .i64 ((ones : Int) + 1))).set (i := (o + 3)) (by omega) (.int .i64 ((n : Int) + 1))) (bl_alloc (bl_refl _) _)
        all_goals simp [Array.getElem?_setIfInBounds, h.c.c0, h.c.c2]
        all_goals omega
end
/-! ### The walk of Ear.flag. -/
section
open Go Go.RowKit
set_option linter.unusedVariables false
set_option maxHeartbeats 4000000
set_option maxRecDepth 100000
def Er.flag (e : Er) : Er × Hd :=
  (⟨[], e.ones, e.found, e.n⟩, if e.inn.length ≤ 8 then none else if (judgeB (e.inn.take (e.inn.length - 8))).2 = 0 then some (0, (judgeB (e.inn.take (e.inn.length - 8))).1) else some (1, []))
theorem BitV.take {w : World} {a : Option Addr} {n cap : Nat} {t : List Bool} (h : BitV w (.slice a n cap) t) (m : Nat) (hm : m ≤ t.length) : BitV w (.slice a m cap) (t.take m) := by
  have R : Row w 4 1 (.slice a n cap) t.length (t.map Value.bool) := h
  have hl : (t.take m).length = m := by rw [List.length_take]; omega
  refine ⟨by simp, ?_⟩
  rcases R.2 with ⟨e, h0⟩ | ⟨b, off, cap', cs, e, h1, h2, h3, h4, h5⟩
  · simp only [Value.slice.injEq] at e
    obtain ⟨rfl, rfl, rfl⟩ := e
    exact .inl ⟨by rw [show m = 0 by omega], by rw [hl]; omega⟩
  · simp only [Value.slice.injEq] at e
    obtain ⟨rfl, rfl, rfl⟩ := e
    refine .inr ⟨b, off, cap, cs, by rw [hl], by omega, h2, h3, by omega, fun j u hu => ?_⟩
    rw [List.map_take, List.getElem?_take] at hu
    split at hu
    · exact h5 j u hu
    · cases hu
theorem EFlag_c {w : World} {b : Nat} {t : TypeId} {cs : Array Value} {o : Nat} {vin : Value} {e : Er} (h : EarAt w b t cs o vin e) (h1 : e.inn.length ≤ 5000) :
    Calls Tryz.prog 121 #[.pointer (some ⟨b, o, none⟩)] w fun x w' => ∃ v, x = .returned v ∧ HdIs w' v e.flag.2 ∧ EarTo w w' b t cs o vin e.flag.1 := by
  obtain ⟨a, cap, rfl, hcap⟩ := h.bits.shape
  have c0 : w.cell? ⟨b, o, none⟩ = some (.slice a e.inn.length cap) := (h.blk.c _).trans h.c.c0
  have f0 := h.blk.f
  have H := Lib.hid h
  have hlt := h.blk.lt
  have nb : b ≠ w.heap.size := Nat.ne_of_lt hlt
  have nb2 : w.heap.size ≠ b := fun e => nb e.symm
  have E1 : Er.flag e = (⟨[], e.ones, e.found, e.n⟩, if e.inn.length ≤ 8 then none else if (judgeB (e.inn.take (e.inn.length - 8))).2 = 0 then some (0, (judgeB (e.inn.take (e.inn.length - 8))).1) else some (1, [])) := rfl
  rw [E1]
  dsimp only
  obtain ⟨n, hn⟩ : ∃ n, e.inn.length = n := ⟨_, rfl⟩
  have HI := Lib.hid hn
  have hbits := h.bits
  rw [hn] at c0 hcap hbits h1
  simp only [hn]
  clear h E1 hn
  have fin : ∀ w', Below (w.setCell ⟨b, o, none⟩ (.slice none 0 0)).heap.size (w.setCell ⟨b, o, none⟩ (.slice none 0 0)) w' → EarTo w w' b t cs o (.slice a n cap) ⟨[], e.ones, e.found, e.n⟩ := fun w' hW => by
    have h := H.out
    have hs := h.c.sz
    rw [HI.out] at h
    refine h.sets0 (h.blk.set o (.slice none 0 0)) ((Chg.refl [b] w).set (b := b) (i := o) (by simp) _) ⟨?_, ?_, ?_, ?_⟩ rfl ((Only.refl cs o).set (i := o) (by omega) _) hW
    all_goals simp [Array.getElem?_setIfInBounds, h.c.c1, h.c.c2, h.c.c3]
    all_goals omega
  have FIN := Lib.hid fin
  clear fin
  by_cases h8 : n ≤ 8
  · rw [if_pos h8]
    have h8' : (n : Int) ≤ 8 := by omega
    go_enter Tryz.func121, Tryz.ntmps121
    go_wp2
    refine bodyPost_ret (res_ct rfl Heard.laid rfl (Blk.newAt (n := w.heap.size) (by simp [World.setCell]) #[.int .u8 0, .slice none 0 0] 177) rfl) rfl ⟨_, rfl, rfl, FIN.out _ (bl_alloc (bl_refl _) _)⟩
  · rw [if_neg h8]
    have h8' : ¬ (n : Int) ≤ 8 := by omega
    have n8 : (8 : Int) ≤ n := by omega
    have bt := hbits.take (n - 8) (by rw [HI.out]; omega)
    have lt8 : (e.inn.take (n - 8)).length ≤ 10000 := by rw [List.length_take]; omega
    have hw1 : Chg [b] w (w.setCell ⟨b, o, none⟩ (.slice none 0 0)) := (Chg.refl [b] w).set (b := b) (i := o) (by simp) _
    have nin := H.out.notin
    rw [HI.out] at nin
    have bt1 : BitV (w.setCell ⟨b, o, none⟩ (.slice none 0 0)) (.slice a (n - 8) cap) (e.inn.take (n - 8)) := Row.chg bt hw1 (fun g hg hgb => nin (by
      obtain rfl : g = b := by simpa using hgb
      cases a with
      | none => simp [own, Value.ownBlock] at hg
      | some a => simpa [own, Value.ownBlock] using hg))
    have HJ := Lib.hid (Judge_c (bt1.below (bl_alloc (bl_refl _) (.cells #[.int .u8 0, .slice none 0 0] 177))) lt8)
    generalize judgeB (e.inn.take (n - 8)) = r at HJ ⊢
    obtain ⟨p, er⟩ := r
    dsimp only at HJ ⊢
    have N1 := Lib.hid (Blk.newAt (w := w.setCell ⟨b, o, none⟩ (.slice none 0 0)) (n := w.heap.size) (by simp [World.setCell]) #[.int .u8 0, .slice none 0 0] 177)
    clear bt bt1 hw1 nin hbits
    by_cases he : er = 0
    · subst he
      rw [if_pos rfl]
      go_enter Tryz.func121, Tryz.ntmps121
      go_wp2_with (first
        | ((with_reducible refine HJ.out.mono ?_); rintro e w2 ⟨v2, rfl, A2⟩; obtain ⟨a2, c2, rfl, hc2⟩ := A2.byt.1.shape; have HA := Lib.hid A2; have N2 := Lib.hid (N1.out.below A2.bel); have n2c := N2.out.c; have n2f := N2.out.f; clear A2))
      have hsz : (w.setCell ⟨b, o, none⟩ (.slice none 0 0)).heap.size = w.heap.size := by simp [World.setCell]
      have BW : Below (w.setCell ⟨b, o, none⟩ (.slice none 0 0)).heap.size (w.setCell ⟨b, o, none⟩ (.slice none 0 0)) ((w2.setCell ⟨w.heap.size, 0, none⟩ (.int .u8 0)).setCell ⟨w.heap.size, 1, none⟩ (.slice a2 p.length c2)) := bl_set (bl_set (bl_then (bl_alloc (bl_refl _) _) HA.out.bel) (Nat.le_of_eq hsz) _) (Nat.le_of_eq hsz) _
      refine bodyPost_ret (res_ct rfl Heard.laid rfl (((N2.out.set 0 (.int .u8 0)).set 1 (.slice a2 p.length c2)).as (cs' := #[.int .u8 0, (.slice a2 p.length c2)]) (by simp)) rfl) rfl ⟨_, rfl, ⟨_, rfl, Byt.chg HA.out.byt (((Chg.refl [w.heap.size] w2).set (b := w.heap.size) (i := 0) (by simp) _).set (b := w.heap.size) (i := 1) (by simp) _) (fun g hg hg2 => by have h1 := HA.out.own g hg; have h2 : g = w.heap.size := (by simpa using hg2); (rw [h2] at h1); simp at h1; omega)⟩, FIN.out _ BW⟩
    · rw [if_neg he]
      have he' : (er != 0) = true := by simpa using he
      go_enter Tryz.func121, Tryz.ntmps121
      go_wp2_with (first
        | ((with_reducible refine HJ.out.mono ?_); rintro e w2 ⟨v2, rfl, A2⟩; obtain ⟨a2, c2, rfl, hc2⟩ := A2.byt.1.shape; have HA := Lib.hid A2; have N2 := Lib.hid (N1.out.below A2.bel); have n2c := N2.out.c; have n2f := N2.out.f; clear A2))
      have hsz : (w.setCell ⟨b, o, none⟩ (.slice none 0 0)).heap.size = w.heap.size := by simp [World.setCell]
      have BW : Below (w.setCell ⟨b, o, none⟩ (.slice none 0 0)).heap.size (w.setCell ⟨b, o, none⟩ (.slice none 0 0)) ((w2.setCell ⟨w.heap.size, 0, none⟩ (.int .u8 1)).setCell ⟨w.heap.size, 1, none⟩ (.slice none 0 0)) := bl_set (bl_set (bl_then (bl_alloc (bl_refl _) _) HA.out.bel) (Nat.le_of_eq hsz) _) (Nat.le_of_eq hsz) _
      refine bodyPost_ret (res_ct rfl Heard.laid rfl (((N2.out.set 0 (.int .u8 1)).set 1 (.slice none 0 0)).as (cs' := #[.int .u8 1, (.slice none 0 0)]) (by simp)) rfl) rfl ⟨_, rfl, ⟨_, rfl, byt_nil⟩, FIN.out _ BW⟩
end
/-! ### The walk of Ear.Bit. -/
section
open Go Go.RowKit
set_option linter.unusedVariables false
set_option maxHeartbeats 4000000
set_option maxRecDepth 100000
def Er.bit (e : Er) (on : Bool) : Er × Hd :=
  if e.found = false then e.count on
  else if on = true then (if 7 ≤ e.ones + 1 then (⟨[], e.ones + 1, false, 0⟩, none) else (⟨e.inn ++ [true], e.ones + 1, true, e.n⟩, none))
  else if e.ones = 6 then Er.flag ⟨e.inn ++ [false], 0, true, e.n⟩
  else if 2687 < e.inn.length + 1 then (⟨[], 0, false, 0⟩, none)
  else (⟨e.inn ++ [false], 0, true, e.n⟩, none)
theorem EarTo.wrap {w w1 w2 : World} {b : Nat} {t : TypeId} {cs : Array Value} {o : Nat} {vin : Value} {e : Er} (h : EarTo w1 w2 b t cs o vin e) (hb : Below w.heap.size w w1) : EarTo w w2 b t cs o vin e := by
  obtain ⟨v', cs', A, O, C, D⟩ := h
  exact ⟨v', cs', A, O, (Chg.of_below hb _).trans C (fun g hg => .inl hg), fun g hg => (D g hg).imp id (fun h => Nat.le_trans hb.size h)⟩
theorem EarTo.far {w w2 : World} {b g : Nat} {t gt : TypeId} {cs gcs : Array Value} {o : Nat} {vin : Value} {e : Er} (h : EarTo w w2 b t cs o vin e) (N : Blk w2 g gcs gt) (h0 : w.heap.size ≤ g) (hgb : g ≠ b) (ht : gt ≠ 4) (i : Nat) (u : Value) : EarTo w (w2.setCell ⟨g, i, none⟩ u) b t cs o vin e := by
  obtain ⟨v', cs', A, O, C, D⟩ := h
  refine ⟨v', cs', ⟨A.blk.far hgb i u, A.c, Row.chg A.bits (chg1 w2 g i u) (fun k hk hkg => ?_), A.ty⟩, O, C.set (.inr h0) u, D⟩
  obtain ⟨cs9, h1⟩ := Row.blk A.bits k hk
  exact h1.ne N (fun e => ht e.symm) (by simpa using hkg)
theorem Counting_c {w : World} {b : Nat} {t : TypeId} {cs : Array Value} {o : Nat} {vin : Value} {e : Er} (h : EarAt w b t cs o vin e) :
    Calls Tryz.prog 118 #[.pointer (some ⟨b, o, none⟩)] w fun x w' => x = .returned (.bool (!e.found)) ∧ w = w' := by
  have c2 : w.cell? ⟨b, o + 2, none⟩ = some (.bool e.found) := (h.blk.c _).trans h.c.c2
  obtain ⟨inn, ones, found, n⟩ := e
  dsimp only at c2 ⊢
  clear h
  cases found
  all_goals
    go_enter Tryz.func118, Tryz.ntmps118
    go_wp2
    go_ret
    exact ⟨rfl, rfl⟩
abbrev hd0 : Obj := .cells #[.int .u8 0, .slice none 0 0] 177
theorem EBit_lost {w : World} {b : Nat} {t : TypeId} {cs : Array Value} {o : Nat} {vin : Value} {e : Er} (h : EarAt w b t cs o vin e) (on : Bool) (h1 : e.ones ≤ 100000000) (h2 : e.n ≤ 128) (hf : e.found = false) :
    Calls Tryz.prog 101 #[.pointer (some ⟨b, o, none⟩), .bool on] w fun x w' => ∃ v, x = .returned v ∧ HdIs w' v (e.bit on).2 ∧ EarTo w w' b t cs o vin (e.bit on).1 := by
  have eb : e.bit on = e.count on := by unfold Er.bit; rw [if_pos hf]
  rw [eb]
  have ab := bl_alloc (bl_refl w) hd0
  have hc := Counting_c (h.below ab)
  rw [hf] at hc
  have HC := Lib.hid hc
  have HE := Lib.hid (ECount_c (h.below ab) on h1 h2)
  have N1 := Lib.hid (Blk.new w #[.int .u8 0, .slice none 0 0] 177)
  have hlt := h.blk.lt
  have nb : w.heap.size ≠ b := fun e => Nat.ne_of_lt hlt e.symm
  have hin : w.heap.size ∉ own vin := fun hg => by have := Row.lt h.bits _ hg; omega
  have AB := Lib.hid ab
  clear h hc eb ab hf
  generalize e.count on = r at HE ⊢
  obtain ⟨e', hd⟩ := r
  dsimp only at HE ⊢
  cases hd with
  | none =>
    go_enter Tryz.func101, Tryz.ntmps101
    go_wp2_with (first
      | ((with_reducible refine HC.out.mono ?_); rintro e w2 ⟨rfl, rfl⟩)
      | ((with_reducible refine HE.out.mono ?_); rintro e w3 ⟨v3, rfl, hv, E3⟩; (have hv2 : v3 = .tuple #[.agg #[.int .u8 0, .slice none 0 0], .bool false] := hv); subst hv2; have HT := Lib.hid E3; have N3 := Lib.hid (N1.out.chg E3.choose_spec.choose_spec.2.2.1 (by simp only [List.mem_cons, not_or]; exact ⟨nb, hin⟩)); have n3c := N3.out.c; have n3f := N3.out.f; clear E3 hv))
    refine bodyPost_ret (res_ct rfl Heard.laid rfl (((N3.out.set 0 (.int .u8 0)).set 1 (.slice none 0 0)).as (cs' := #[.int .u8 0, .slice none 0 0]) (by simp)) rfl) rfl ⟨_, rfl, rfl, ((HT.out.wrap AB.out).far N3.out (Nat.le_refl _) nb (by decide) 0 _).far (N3.out.set 0 _) (Nat.le_refl _) nb (by decide) 1 _⟩
  | some q =>
    obtain ⟨k, p⟩ := q
    go_enter Tryz.func101, Tryz.ntmps101
    go_wp2_with (first
      | ((with_reducible refine HC.out.mono ?_); rintro e w2 ⟨rfl, rfl⟩)
      | ((with_reducible refine HE.out.mono ?_); rintro e w3 ⟨v3, rfl, hv, E3⟩; (obtain ⟨vp, hv2, hp⟩ := hv); subst hv2; (obtain ⟨ap, cp, rfl, _⟩ := hp.1.shape); have HP := Lib.hid hp; have HT := Lib.hid E3; have N3 := Lib.hid (N1.out.chg E3.choose_spec.choose_spec.2.2.1 (by simp only [List.mem_cons, not_or]; exact ⟨nb, hin⟩)); have n3c := N3.out.c; have n3f := N3.out.f; clear E3 hp))
    have hb : BytV ((w3.setCell ⟨w.heap.size, 0, none⟩ (.int .u8 k)).setCell ⟨w.heap.size, 1, none⟩ (.slice ap p.length cp)) (.slice ap p.length cp) p := Byt.chg HP.out (((Chg.refl [w.heap.size] w3).set (b := w.heap.size) (i := 0) (by simp) _).set (b := w.heap.size) (i := 1) (by simp) _) (fun g hg hg2 => by
      obtain ⟨cs9, h1⟩ := Row.blk HP.out.1 g hg
      exact h1.ne N3.out (by decide) (by simpa using hg2))
    refine bodyPost_ret (res_ct rfl Heard.laid rfl (((N3.out.set 0 (.int .u8 k)).set 1 (.slice ap p.length cp)).as (cs' := #[.int .u8 k, .slice ap p.length cp]) (by simp)) rfl) rfl ⟨_, rfl, ⟨_, rfl, hb⟩, ((HT.out.wrap AB.out).far N3.out (Nat.le_refl _) nb (by decide) 0 _).far (N3.out.set 0 _) (Nat.le_refl _) nb (by decide) 1 _⟩
/-- What was done ahead of an operation on an ear. -/
theorem EarTo.then {w w4 w5 : World} {b : Nat} {t : TypeId} {cs cs4 : Array Value} {o : Nat} {vin v4 : Value} {e5 : Er} (ho : Only cs cs4 o) (hc : Chg (b :: own vin) w w4) (hv : ∀ g ∈ own v4, g ∈ own vin ∨ w.heap.size ≤ g) (h : EarTo w4 w5 b t cs4 o v4 e5) : EarTo w w5 b t cs o vin e5 := by
  obtain ⟨v5, cs5, A, O, C, D⟩ := h
  refine ⟨v5, cs5, A, ⟨O.size.trans ho.size, fun j hj => (O.rest j hj).trans (ho.rest j hj)⟩, hc.trans C (fun g hg => ?_), fun g hg => ?_⟩
  · rcases List.mem_cons.1 hg with h | h
    · exact .inl (List.mem_cons.2 (.inl h))
    · exact (hv g h).imp (fun h => List.mem_cons_of_mem _ h) id
  · rcases D g hg with h | h
    · exact hv g h
    · exact .inr (Nat.le_trans hc.size h)
theorem EarTo.same {w : World} {b : Nat} {t : TypeId} {cs : Array Value} {o : Nat} {vin : Value} {e : Er} (h : EarAt w b t cs o vin e) : EarTo w w b t cs o vin e := ⟨vin, cs, h, Only.refl _ _, Chg.refl _ _, fun g hg => .inl hg⟩
/-- A bit more is kept, and how many ones stand at the end. -/
theorem EarAt.push {w w3 : World} {b : Nat} {t : TypeId} {cs : Array Value} {o : Nat} {vin V : Value} {inn xs : List Bool} {ones n m : Nat} {z : Int} (h : EarAt w b t cs o vin ⟨inn, ones, true, n⟩) (B : Blk w3 b cs t) (R : BitV w3 V xs) (hz : z = m) :
    EarAt ((w3.setCell ⟨b, o, none⟩ V).setCell ⟨b, o + 1, none⟩ (.int .i64 z)) b t ((cs.setIfInBounds o V).setIfInBounds (o + 1) (.int .i64 z)) o V ⟨xs, m, true, n⟩ := by
  subst hz
  have hs := h.c.sz
  refine ⟨(B.set o V).set (o + 1) _, ⟨?_, ?_, ?_, ?_⟩, Row.chg R (((Chg.refl [b] w3).set (b := b) (i := o) (by simp) V).set (b := b) (i := o + 1) (by simp) (.int .i64 (m : Int))) (fun g hg hgb => ?_), h.ty⟩
  · simp [Array.getElem?_setIfInBounds]; omega
  · simp [Array.getElem?_setIfInBounds]; omega
  · exact getElem?_set_ne' (getElem?_set_ne' h.c.c2 (by omega)) (by omega)
  · exact getElem?_set_ne' (getElem?_set_ne' h.c.c3 (by omega)) (by omega)
  · obtain ⟨cs9, h1⟩ := Row.blk R g hg
    exact h1.ne B (fun e => h.ty e.symm) (by simpa using hgb)
theorem EBit_on {w : World} {b : Nat} {t : TypeId} {cs : Array Value} {o : Nat} {vin : Value} {e : Er} (h : EarAt w b t cs o vin e) (on : Bool) (h1 : e.ones ≤ 100000000) (h2 : e.inn.length ≤ 3000) (hf : e.found = true) :
    Calls Tryz.prog 101 #[.pointer (some ⟨b, o, none⟩), .bool on] w fun x w' => ∃ v, x = .returned v ∧ HdIs w' v (e.bit on).2 ∧ EarTo w w' b t cs o vin (e.bit on).1 := by
  have ab := bl_alloc (bl_refl w) hd0
  have hc := Counting_c (h.below ab)
  rw [hf] at hc
  have HC := Lib.hid hc
  have N1 := Lib.hid (Blk.new w #[.int .u8 0, .slice none 0 0] 177)
  have hlt := h.blk.lt
  have nb : w.heap.size ≠ b := fun e => Nat.ne_of_lt hlt e.symm
  have hin : w.heap.size ∉ own vin := fun hg => by have := Row.lt h.bits _ hg; omega
  have AB := Lib.hid ab
  have H := Lib.hid h
  obtain ⟨av, cv, rfl, hcv⟩ := h.bits.shape
  have HA := Lib.hid (h.below ab)
  have c0 : (w.alloc hd0).cell? ⟨b, o, none⟩ = some (.slice av e.inn.length cv) := ((h.below ab).blk.c _).trans h.c.c0
  have HLEN := Lib.hid (show e.inn.length ≤ 1000000 by omega)
  have nb2 : b ≠ w.heap.size := fun e => nb e.symm
  clear hc ab
  obtain ⟨inn, ones, found, n⟩ := e
  dsimp only at h1 h2 hf c0
  subst hf
  clear h
  have hs := H.out.c.sz
  cases on with
  | true =>
    by_cases h7 : 7 ≤ ones + 1
    · have h7' : (7 : Int) ≤ (ones : Int) + 1 := by omega
      rw [show Er.bit ⟨inn, ones, true, n⟩ true = (⟨[], ones + 1, false, 0⟩, none) from by unfold Er.bit; rw [if_neg (by simp), if_pos rfl, if_pos h7]]
      dsimp only
      go_enter Tryz.func101, Tryz.ntmps101
      go_wp2_with (first
            | ((with_reducible refine HC.out.mono ?_); rintro e w2 ⟨rfl, rfl⟩)
            | (at_builtin; refine wpList_bit _ rfl (.tmp 21) (.tmp 23) 135 rfl Tryz.underlying135 _ _ rfl ((HA.out.bits).below (bl_alloc (bl_refl (w.alloc hd0)) (.cells #[.bool true] 4))) (w.heap.size + 1) true rfl (Blk.newAt (by simp) _ _) HLEN.out ?_; intro v3 w3 R3 C3 O3; obtain ⟨a3, c3, ev, hc3⟩ := BitV.shape R3; (simp only [List.length_append, List.length_cons, List.length_nil, Nat.zero_add] at ev hc3); subst ev; have HB3 := Lib.hid ((H.out.blk.below (bl_alloc AB.out (.cells #[.bool true] 4))).chg C3 H.out.notin); have N3 := Lib.hid ((N1.out.below (bl_alloc (bl_refl (w.alloc hd0)) (.cells #[.bool true] 4))).chg C3 hin); have E4 := Lib.hid (H.out.push (m := ones + 1) (z := ((ones : Int) + 1)) HB3.out R3 (by omega)); have N4 := Lib.hid ((N3.out.far nb2 o (.slice a3 (inn.length + 1) c3)).far nb2 (o + 1) (.int .i64 ((ones : Int) + 1))); have HC4 := Lib.hid (show Chg (b :: own (.slice av inn.length cv)) w ((w3.setCell ⟨b, o, none⟩ (.slice a3 (inn.length + 1) c3)).setCell ⟨b, o + 1, none⟩ (.int .i64 ((ones : Int) + 1))) from ((((Chg.of_below (bl_alloc AB.out (.cells #[.bool true] 4)) _).trans C3 (fun g hg => .inl (List.mem_cons_of_mem _ hg))).set (.inl (by simp)) _).set (.inl (by simp)) _)); have HO4 := Lib.hid (show ∀ g ∈ own (.slice a3 (inn.length + 1) c3), g ∈ own (.slice av inn.length cv) ∨ w.heap.size ≤ g from fun g hg => (O3 g hg).imp id (fun h => by simp at h; omega)); have HNG := Lib.hid (show w.heap.size ∉ own (.slice a3 (inn.length + 1) c3) from fun hg => by rcases O3 _ hg with h | h; exact hin h; simp at h; omega); have HL := Lib.hid (Lost_c E4.out); have b3c0 := (HB3.out.c o).trans H.out.c.c0; have b3c1 := (HB3.out.c (o + 1)).trans H.out.c.c1; have b3f := HB3.out.f; have n3c := N3.out.c; have n3f := N3.out.f; have n4c := N4.out.c; have n4f := N4.out.f; clear R3 C3 O3)
            | ((with_reducible refine HL.out.mono ?_); rintro e w5 ⟨rfl, E5⟩; have HE5 := Lib.hid E5; have N5 := Lib.hid (N4.out.chg E5.choose_spec.choose_spec.2.2.1 (by simp only [List.mem_cons, not_or]; exact ⟨nb, HNG.out⟩)); have n5c := N5.out.c; have n5f := N5.out.f; clear E5))
      have r0 := HE5.out.then (((Only.refl cs o).set (i := o) (by omega) _).set (i := o + 1) (by omega) _) HC4.out HO4.out
      refine bodyPost_ret (res_ct rfl Heard.laid rfl (((N5.out.set 0 (.int .u8 0)).set 1 (.slice none 0 0)).as (cs' := #[.int .u8 0, .slice none 0 0]) (by simp)) rfl) rfl ⟨_, rfl, rfl, (r0.far N5.out (Nat.le_refl _) nb (by decide) 0 _).far (N5.out.set 0 _) (Nat.le_refl _) nb (by decide) 1 _⟩
    · have h7' : ¬ (7 : Int) ≤ (ones : Int) + 1 := by omega
      rw [show Er.bit ⟨inn, ones, true, n⟩ true = (⟨inn ++ [true], ones + 1, true, n⟩, none) from by unfold Er.bit; rw [if_neg (by simp), if_pos rfl, if_neg h7]]
      dsimp only
      go_enter Tryz.func101, Tryz.ntmps101
      go_wp2_with (first
            | ((with_reducible refine HC.out.mono ?_); rintro e w2 ⟨rfl, rfl⟩)
            | (at_builtin; refine wpList_bit _ rfl (.tmp 21) (.tmp 23) 135 rfl Tryz.underlying135 _ _ rfl ((HA.out.bits).below (bl_alloc (bl_refl (w.alloc hd0)) (.cells #[.bool true] 4))) (w.heap.size + 1) true rfl (Blk.newAt (by simp) _ _) HLEN.out ?_; intro v3 w3 R3 C3 O3; obtain ⟨a3, c3, ev, hc3⟩ := BitV.shape R3; (simp only [List.length_append, List.length_cons, List.length_nil, Nat.zero_add] at ev hc3); subst ev; have HB3 := Lib.hid ((H.out.blk.below (bl_alloc AB.out (.cells #[.bool true] 4))).chg C3 H.out.notin); have N3 := Lib.hid ((N1.out.below (bl_alloc (bl_refl (w.alloc hd0)) (.cells #[.bool true] 4))).chg C3 hin); have E4 := Lib.hid (H.out.push (m := ones + 1) (z := ((ones : Int) + 1)) HB3.out R3 (by omega)); have N4 := Lib.hid ((N3.out.far nb2 o (.slice a3 (inn.length + 1) c3)).far nb2 (o + 1) (.int .i64 ((ones : Int) + 1))); have HC4 := Lib.hid (show Chg (b :: own (.slice av inn.length cv)) w ((w3.setCell ⟨b, o, none⟩ (.slice a3 (inn.length + 1) c3)).setCell ⟨b, o + 1, none⟩ (.int .i64 ((ones : Int) + 1))) from ((((Chg.of_below (bl_alloc AB.out (.cells #[.bool true] 4)) _).trans C3 (fun g hg => .inl (List.mem_cons_of_mem _ hg))).set (.inl (by simp)) _).set (.inl (by simp)) _)); have HO4 := Lib.hid (show ∀ g ∈ own (.slice a3 (inn.length + 1) c3), g ∈ own (.slice av inn.length cv) ∨ w.heap.size ≤ g from fun g hg => (O3 g hg).imp id (fun h => by simp at h; omega)); have b3c0 := (HB3.out.c o).trans H.out.c.c0; have b3c1 := (HB3.out.c (o + 1)).trans H.out.c.c1; have b3f := HB3.out.f; have n3c := N3.out.c; have n3f := N3.out.f; have n4c := N4.out.c; have n4f := N4.out.f; clear R3 C3 O3))
      have r0 := (EarTo.same E4.out).then (((Only.refl cs o).set (i := o) (by omega) _).set (i := o + 1) (by omega) _) HC4.out HO4.out
      refine bodyPost_ret (res_ct rfl Heard.laid rfl (((N4.out.set 0 (.int .u8 0)).set 1 (.slice none 0 0)).as (cs' := #[.int .u8 0, .slice none 0 0]) (by simp)) rfl) rfl ⟨_, rfl, rfl, (r0.far N4.out (Nat.le_refl _) nb (by decide) 0 _).far (N4.out.set 0 _) (Nat.le_refl _) nb (by decide) 1 _⟩
  | false =>
    by_cases h6 : ones = 6
    · subst h6
      obtain ⟨fe, fh, hfe⟩ : ∃ fe fh, Er.flag ⟨inn ++ [false], 0, true, n⟩ = (fe, fh) := ⟨_, _, rfl⟩
      rw [show Er.bit ⟨inn, 6, true, n⟩ false = (fe, fh) from by unfold Er.bit; rw [if_neg (by simp), if_neg (by simp), if_pos rfl]; exact hfe]
      dsimp only
      cases fh with
      | none =>
        go_enter Tryz.func101, Tryz.ntmps101
        go_wp2_with (first
              | ((with_reducible refine HC.out.mono ?_); rintro e w2 ⟨rfl, rfl⟩)
              | (at_builtin; refine wpList_bit _ rfl (.tmp 21) (.tmp 23) 135 rfl Tryz.underlying135 _ _ rfl ((HA.out.bits).below (bl_alloc (bl_refl (w.alloc hd0)) (.cells #[.bool false] 4))) (w.heap.size + 1) false rfl (Blk.newAt (by simp) _ _) HLEN.out ?_; intro v3 w3 R3 C3 O3; obtain ⟨a3, c3, ev, hc3⟩ := BitV.shape R3; (simp only [List.length_append, List.length_cons, List.length_nil, Nat.zero_add] at ev hc3); subst ev; have HB3 := Lib.hid ((H.out.blk.below (bl_alloc AB.out (.cells #[.bool false] 4))).chg C3 H.out.notin); have N3 := Lib.hid ((N1.out.below (bl_alloc (bl_refl (w.alloc hd0)) (.cells #[.bool false] 4))).chg C3 hin); have E4 := Lib.hid (H.out.push (m := 0) (z := 0) HB3.out R3 (by omega)); have N4 := Lib.hid ((N3.out.far nb2 o (.slice a3 (inn.length + 1) c3)).far nb2 (o + 1) (.int .i64 0)); have HC4 := Lib.hid (show Chg (b :: own (.slice av inn.length cv)) w ((w3.setCell ⟨b, o, none⟩ (.slice a3 (inn.length + 1) c3)).setCell ⟨b, o + 1, none⟩ (.int .i64 0)) from ((((Chg.of_below (bl_alloc AB.out (.cells #[.bool false] 4)) _).trans C3 (fun g hg => .inl (List.mem_cons_of_mem _ hg))).set (.inl (by simp)) _).set (.inl (by simp)) _)); have HO4 := Lib.hid (show ∀ g ∈ own (.slice a3 (inn.length + 1) c3), g ∈ own (.slice av inn.length cv) ∨ w.heap.size ≤ g from fun g hg => (O3 g hg).imp id (fun h => by simp at h; omega)); have HNG := Lib.hid (show w.heap.size ∉ own (.slice a3 (inn.length + 1) c3) from fun hg => by rcases O3 _ hg with h | h; exact hin h; simp at h; omega); have HL := Lib.hid (hfe ▸ EFlag_c E4.out (by simp; omega)); have b3c0 := (HB3.out.c o).trans H.out.c.c0; have b3c1 := (HB3.out.c (o + 1)).trans H.out.c.c1; have b3f := HB3.out.f; have n3c := N3.out.c; have n3f := N3.out.f; have n4c := N4.out.c; have n4f := N4.out.f; clear R3 C3 O3)
              | ((with_reducible refine HL.out.mono ?_); rintro e w5 ⟨v5, rfl, hv, E5⟩; (have hv2 : v5 = .tuple #[.agg #[.int .u8 0, .slice none 0 0], .bool false] := hv); subst hv2; clear hv; have HE5 := Lib.hid E5; have N5 := Lib.hid (N4.out.chg E5.choose_spec.choose_spec.2.2.1 (by simp only [List.mem_cons, not_or]; exact ⟨nb, HNG.out⟩)); have n5c := N5.out.c; have n5f := N5.out.f; clear E5))
        have r0 := HE5.out.then (((Only.refl cs o).set (i := o) (by omega) _).set (i := o + 1) (by omega) _) HC4.out HO4.out
        refine bodyPost_ret (res_ct rfl Heard.laid rfl (((N5.out.set 0 (.int .u8 0)).set 1 (.slice none 0 0)).as (cs' := #[.int .u8 0, .slice none 0 0]) (by simp)) rfl) rfl ⟨_, rfl, rfl, (r0.far N5.out (Nat.le_refl _) nb (by decide) 0 _).far (N5.out.set 0 _) (Nat.le_refl _) nb (by decide) 1 _⟩
      | some q =>
        obtain ⟨hk, p⟩ := q
        go_enter Tryz.func101, Tryz.ntmps101
        go_wp2_with (first
              | ((with_reducible refine HC.out.mono ?_); rintro e w2 ⟨rfl, rfl⟩)
              | (at_builtin; refine wpList_bit _ rfl (.tmp 21) (.tmp 23) 135 rfl Tryz.underlying135 _ _ rfl ((HA.out.bits).below (bl_alloc (bl_refl (w.alloc hd0)) (.cells #[.bool false] 4))) (w.heap.size + 1) false rfl (Blk.newAt (by simp) _ _) HLEN.out ?_; intro v3 w3 R3 C3 O3; obtain ⟨a3, c3, ev, hc3⟩ := BitV.shape R3; (simp only [List.length_append, List.length_cons, List.length_nil, Nat.zero_add] at ev hc3); subst ev; have HB3 := Lib.hid ((H.out.blk.below (bl_alloc AB.out (.cells #[.bool false] 4))).chg C3 H.out.notin); have N3 := Lib.hid ((N1.out.below (bl_alloc (bl_refl (w.alloc hd0)) (.cells #[.bool false] 4))).chg C3 hin); have E4 := Lib.hid (H.out.push (m := 0) (z := 0) HB3.out R3 (by omega)); have N4 := Lib.hid ((N3.out.far nb2 o (.slice a3 (inn.length + 1) c3)).far nb2 (o + 1) (.int .i64 0)); have HC4 := Lib.hid (show Chg (b :: own (.slice av inn.length cv)) w ((w3.setCell ⟨b, o, none⟩ (.slice a3 (inn.length + 1) c3)).setCell ⟨b, o + 1, none⟩ (.int .i64 0)) from ((((Chg.of_below (bl_alloc AB.out (.cells #[.bool false] 4)) _).trans C3 (fun g hg => .inl (List.mem_cons_of_mem _ hg))).set (.inl (by simp)) _).set (.inl (by simp)) _)); have HO4 := Lib.hid (show ∀ g ∈ own (.slice a3 (inn.length + 1) c3), g ∈ own (.slice av inn.length cv) ∨ w.heap.size ≤ g from fun g hg => (O3 g hg).imp id (fun h => by simp at h; omega)); have HNG := Lib.hid (show w.heap.size ∉ own (.slice a3 (inn.length + 1) c3) from fun hg => by rcases O3 _ hg with h | h; exact hin h; simp at h; omega); have HL := Lib.hid (hfe ▸ EFlag_c E4.out (by simp; omega)); have b3c0 := (HB3.out.c o).trans H.out.c.c0; have b3c1 := (HB3.out.c (o + 1)).trans H.out.c.c1; have b3f := HB3.out.f; have n3c := N3.out.c; have n3f := N3.out.f; have n4c := N4.out.c; have n4f := N4.out.f; clear R3 C3 O3)
              | ((with_reducible refine HL.out.mono ?_); rintro e w5 ⟨v5, rfl, hv, E5⟩; (obtain ⟨vp, hv2, hp⟩ := hv); subst hv2; (obtain ⟨ap, cp, rfl, _⟩ := hp.1.shape); have HP := Lib.hid hp; clear hp; have HE5 := Lib.hid E5; have N5 := Lib.hid (N4.out.chg E5.choose_spec.choose_spec.2.2.1 (by simp only [List.mem_cons, not_or]; exact ⟨nb, HNG.out⟩)); have n5c := N5.out.c; have n5f := N5.out.f; clear E5))
        have hb : BytV ((w5.setCell ⟨w.heap.size, 0, none⟩ (.int .u8 hk)).setCell ⟨w.heap.size, 1, none⟩ (.slice ap p.length cp)) (.slice ap p.length cp) p := Byt.chg HP.out (((Chg.refl [w.heap.size] w5).set (b := w.heap.size) (i := 0) (by simp) _).set (b := w.heap.size) (i := 1) (by simp) _) (fun g hg hg2 => by
          obtain ⟨cs9, h1⟩ := Row.blk HP.out.1 g hg
          exact h1.ne N5.out (by decide) (by simpa using hg2))
        have r0 := HE5.out.then (((Only.refl cs o).set (i := o) (by omega) _).set (i := o + 1) (by omega) _) HC4.out HO4.out
        refine bodyPost_ret (res_ct rfl Heard.laid rfl (((N5.out.set 0 (.int .u8 hk)).set 1 (.slice ap p.length cp)).as (cs' := #[.int .u8 hk, .slice ap p.length cp]) (by simp)) rfl) rfl ⟨_, rfl, ⟨_, rfl, hb⟩, (r0.far N5.out (Nat.le_refl _) nb (by decide) 0 _).far (N5.out.set 0 _) (Nat.le_refl _) nb (by decide) 1 _⟩
    · have h6' : ((ones : Int) == 6) = false := beq_eq_false_iff_ne.2 (by omega)
      by_cases hl : 2687 < inn.length + 1
      · have hl' : (2687 : Int) < (inn.length : Int) + 1 := by omega
        rw [show Er.bit ⟨inn, ones, true, n⟩ false = (⟨[], 0, false, 0⟩, none) from by unfold Er.bit; rw [if_neg (by simp), if_neg (by simp), if_neg h6, if_pos hl]]
        dsimp only
        go_enter Tryz.func101, Tryz.ntmps101
        go_wp2_with (first
              | ((with_reducible refine HC.out.mono ?_); rintro e w2 ⟨rfl, rfl⟩)
              | (at_builtin; refine wpList_bit _ rfl (.tmp 21) (.tmp 23) 135 rfl Tryz.underlying135 _ _ rfl ((HA.out.bits).below (bl_alloc (bl_refl (w.alloc hd0)) (.cells #[.bool false] 4))) (w.heap.size + 1) false rfl (Blk.newAt (by simp) _ _) HLEN.out ?_; intro v3 w3 R3 C3 O3; obtain ⟨a3, c3, ev, hc3⟩ := BitV.shape R3; (simp only [List.length_append, List.length_cons, List.length_nil, Nat.zero_add] at ev hc3); subst ev; have HB3 := Lib.hid ((H.out.blk.below (bl_alloc AB.out (.cells #[.bool false] 4))).chg C3 H.out.notin); have N3 := Lib.hid ((N1.out.below (bl_alloc (bl_refl (w.alloc hd0)) (.cells #[.bool false] 4))).chg C3 hin); have E4 := Lib.hid (H.out.push (m := 0) (z := 0) HB3.out R3 (by omega)); have N4 := Lib.hid ((N3.out.far nb2 o (.slice a3 (inn.length + 1) c3)).far nb2 (o + 1) (.int .i64 0)); have HC4 := Lib.hid (show Chg (b :: own (.slice av inn.length cv)) w ((w3.setCell ⟨b, o, none⟩ (.slice a3 (inn.length + 1) c3)).setCell ⟨b, o + 1, none⟩ (.int .i64 0)) from ((((Chg.of_below (bl_alloc AB.out (.cells #[.bool false] 4)) _).trans C3 (fun g hg => .inl (List.mem_cons_of_mem _ hg))).set (.inl (by simp)) _).set (.inl (by simp)) _)); have HO4 := Lib.hid (show ∀ g ∈ own (.slice a3 (inn.length + 1) c3), g ∈ own (.slice av inn.length cv) ∨ w.heap.size ≤ g from fun g hg => (O3 g hg).imp id (fun h => by simp at h; omega)); have HNG := Lib.hid (show w.heap.size ∉ own (.slice a3 (inn.length + 1) c3) from fun hg => by rcases O3 _ hg with h | h; exact hin h; simp at h; omega); have HL := Lib.hid (Lost_c E4.out); have b3c0 := (HB3.out.c o).trans H.out.c.c0; have b3c1 := (HB3.out.c (o + 1)).trans H.out.c.c1; have b3f := HB3.out.f; have n3c := N3.out.c; have n3f := N3.out.f; have n4c := N4.out.c; have n4f := N4.out.f; clear R3 C3 O3)
              | ((with_reducible refine HL.out.mono ?_); rintro e w5 ⟨rfl, E5⟩; have HE5 := Lib.hid E5; have N5 := Lib.hid (N4.out.chg E5.choose_spec.choose_spec.2.2.1 (by simp only [List.mem_cons, not_or]; exact ⟨nb, HNG.out⟩)); have n5c := N5.out.c; have n5f := N5.out.f; clear E5))
        have r0 := HE5.out.then (((Only.refl cs o).set (i := o) (by omega) _).set (i := o + 1) (by omega) _) HC4.out HO4.out
        refine bodyPost_ret (res_ct rfl Heard.laid rfl (((N5.out.set 0 (.int .u8 0)).set 1 (.slice none 0 0)).as (cs' := #[.int .u8 0, .slice none 0 0]) (by simp)) rfl) rfl ⟨_, rfl, rfl, (r0.far N5.out (Nat.le_refl _) nb (by decide) 0 _).far (N5.out.set 0 _) (Nat.le_refl _) nb (by decide) 1 _⟩
      · have hl' : ¬ (2687 : Int) < (inn.length : Int) + 1 := by omega
        rw [show Er.bit ⟨inn, ones, true, n⟩ false = (⟨inn ++ [false], 0, true, n⟩, none) from by unfold Er.bit; rw [if_neg (by simp), if_neg (by simp), if_neg h6, if_neg hl]]
        dsimp only
        go_enter Tryz.func101, Tryz.ntmps101
        go_wp2_with (first
              | ((with_reducible refine HC.out.mono ?_); rintro e w2 ⟨rfl, rfl⟩)
              | (at_builtin; refine wpList_bit _ rfl (.tmp 21) (.tmp 23) 135 rfl Tryz.underlying135 _ _ rfl ((HA.out.bits).below (bl_alloc (bl_refl (w.alloc hd0)) (.cells #[.bool false] 4))) (w.heap.size + 1) false rfl (Blk.newAt (by simp) _ _) HLEN.out ?_; intro v3 w3 R3 C3 O3; obtain ⟨a3, c3, ev, hc3⟩ := BitV.shape R3; (simp only [List.length_append, List.length_cons, List.length_nil, Nat.zero_add] at ev hc3); subst ev; have HB3 := Lib.hid ((H.out.blk.below (bl_alloc AB.out (.cells #[.bool false] 4))).chg C3 H.out.notin); have N3 := Lib.hid ((N1.out.below (bl_alloc (bl_refl (w.alloc hd0)) (.cells #[.bool false] 4))).chg C3 hin); have E4 := Lib.hid (H.out.push (m := 0) (z := 0) HB3.out R3 (by omega)); have N4 := Lib.hid ((N3.out.far nb2 o (.slice a3 (inn.length + 1) c3)).far nb2 (o + 1) (.int .i64 0)); have HC4 := Lib.hid (show Chg (b :: own (.slice av inn.length cv)) w ((w3.setCell ⟨b, o, none⟩ (.slice a3 (inn.length + 1) c3)).setCell ⟨b, o + 1, none⟩ (.int .i64 0)) from ((((Chg.of_below (bl_alloc AB.out (.cells #[.bool false] 4)) _).trans C3 (fun g hg => .inl (List.mem_cons_of_mem _ hg))).set (.inl (by simp)) _).set (.inl (by simp)) _)); have HO4 := Lib.hid (show ∀ g ∈ own (.slice a3 (inn.length + 1) c3), g ∈ own (.slice av inn.length cv) ∨ w.heap.size ≤ g from fun g hg => (O3 g hg).imp id (fun h => by simp at h; omega)); have b3c0 := (HB3.out.c o).trans H.out.c.c0; have b3c1 := (HB3.out.c (o + 1)).trans H.out.c.c1; have b3f := HB3.out.f; have n3c := N3.out.c; have n3f := N3.out.f; have n4c := N4.out.c; have n4f := N4.out.f; clear R3 C3 O3))
        have r0 := (EarTo.same E4.out).then (((Only.refl cs o).set (i := o) (by omega) _).set (i := o + 1) (by omega) _) HC4.out HO4.out
        refine bodyPost_ret (res_ct rfl Heard.laid rfl (((N4.out.set 0 (.int .u8 0)).set 1 (.slice none 0 0)).as (cs' := #[.int .u8 0, .slice none 0 0]) (by simp)) rfl) rfl ⟨_, rfl, rfl, (r0.far N4.out (Nat.le_refl _) nb (by decide) 0 _).far (N4.out.set 0 _) (Nat.le_refl _) nb (by decide) 1 _⟩
theorem EBit_c {w : World} {b : Nat} {t : TypeId} {cs : Array Value} {o : Nat} {vin : Value} {e : Er} (h : EarAt w b t cs o vin e) (on : Bool) (h1 : e.ones ≤ 100000000) (h2 : e.n ≤ 128) (h3 : e.inn.length ≤ 3000) :
    Calls Tryz.prog 101 #[.pointer (some ⟨b, o, none⟩), .bool on] w fun x w' => ∃ v, x = .returned v ∧ HdIs w' v (e.bit on).2 ∧ EarTo w w' b t cs o vin (e.bit on).1 := by
  cases hf : e.found with
  | false => exact EBit_lost h on h1 h2 hf
  | true => exact EBit_on h on h1 h3 hf
/-- An ear's numbers stay in bounds. -/
structure Er.ok (e : Er) (m : Nat) : Prop where
  ones : e.ones ≤ m
  n : e.n ≤ 127
  on : e.found = true → e.ones ≤ 6 ∧ e.inn.length ≤ 2687 + e.ones
  off : e.found = false → e.inn = []
theorem Er.ok.len {e : Er} {m : Nat} (h : e.ok m) : e.inn.length ≤ 3000 := by
  cases hf : e.found with
  | true => have := h.on hf; omega
  | false => rw [h.off hf]; decide
theorem Er.ok_zero (m : Nat) : (⟨[], 0, false, 0⟩ : Er).ok m := ⟨by simp, by simp, by simp, by simp⟩
theorem Er.ok_bit {e : Er} {m : Nat} (h : e.ok m) (on : Bool) (hm : 6 ≤ m) : (e.bit on).1.ok (m + 1) := by
  obtain ⟨h1, h2, h3, h4⟩ := h
  obtain ⟨inn, ones, found, n⟩ := e
  dsimp only at h1 h2 h3 h4
  cases found with
  | false =>
    obtain rfl := h4 rfl
    unfold Er.bit Er.count
    rw [if_pos rfl]
    dsimp only
    repeat' split
    all_goals exact ⟨by dsimp only; omega, by dsimp only; omega, fun h => by first | (cases h; done) | (dsimp only; simp), fun _ => rfl⟩
  | true =>
    obtain ⟨h5, h6⟩ := h3 rfl
    unfold Er.bit Er.flag
    rw [if_neg (by simp)]
    dsimp only
    cases on with
    | true =>
      rw [if_pos rfl]
      split
      · exact ⟨by dsimp only; omega, by dsimp only; omega, fun h => (by cases h), fun _ => rfl⟩
      · exact ⟨by dsimp only; omega, by dsimp only; omega, fun _ => ⟨by dsimp only; omega, by dsimp only; rw [List.length_append, List.length_singleton]; omega⟩, fun h => (by cases h)⟩
    | false =>
      rw [if_neg (by simp)]
      split
      · exact ⟨by dsimp only; omega, by dsimp only; omega, fun _ => ⟨by dsimp only; omega, by simp⟩, fun h => (by cases h)⟩
      · split
        · exact ⟨by dsimp only; omega, by dsimp only; omega, fun h => (by cases h), fun _ => rfl⟩
        · exact ⟨by dsimp only; omega, by dsimp only; omega, fun _ => ⟨by dsimp only; omega, by dsimp only; rw [List.length_append, List.length_singleton]; omega⟩, fun h => (by cases h)⟩
end
end Go.Proofs.YtcllbmjmefeknaaGreatK
