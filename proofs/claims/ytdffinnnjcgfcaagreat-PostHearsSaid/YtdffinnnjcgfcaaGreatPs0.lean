/- A terminal that hears nothing sends nothing but statuses (plain data). -/
import Derived.Test.YtdffinnnjcgfcaaGreatPa1
namespace Go.Proofs.YtdffinnnjcgfcaaGreatK
open Go Go.RowKit
/-- A link that has heard nothing yet. -/
def St.mute (x : St) : Prop := x.S = 0 ∨ (x.S = 1 ∧ x.a.st = 1)
theorem St.mute_fail {x : St} (h : x.mute) (why : Int) : (x.fail why).mute := by
  unfold St.fail
  split
  · exact h
  · exact .inl rfl
theorem St.mute_out {x : St} (h : x.mute) (i : Int) : (x.out i).mute := by
  unfold St.out
  rcases h with h | ⟨h, ha⟩
  · rw [if_pos h]; exact .inl h
  · rw [if_neg (by omega), if_pos h]
    have h3 : ¬ x.a.st = 3 := by omega
    have e : x.a.out x.c i = (x.a, x.c, false, 7) ∨ x.a.out x.c i = (x.a, x.c, false, 0) := by
      unfold Al.out
      by_cases hc : (i = 2 ∧ x.a.st = 1) ∨ (i = 3 ∧ x.a.st = 2)
      · rw [if_pos hc]; exact .inl rfl
      · rw [if_neg hc, if_neg (fun h9 => h3 h9.2)]; exact .inr rfl
    rcases e with e | e
    · rw [e]
      exact St.mute_fail (x := x.setA (x.a, x.c)) (.inr ⟨h, ha⟩) 7
    · rw [e]
      exact .inr ⟨h, ha⟩
theorem St.mute_outs : ∀ (l : List Int) {x : St}, x.mute → (l.foldl St.out x).mute
  | [], _, h => h
  | i :: l, _, h => St.mute_outs l (St.mute_out h i)
theorem St.mute_tick {x : St} (h : x.mute) : x.tick.mute := St.mute_outs _ (x := { x with c := x.c.tick }) h
theorem St.mute_count {x : St} (h : x.mute) (wrong : Bool) : (x.count wrong).mute := by
  unfold St.count
  rcases h with h | ⟨h, ha⟩
  · rw [if_pos h]; exact .inl h
  · rw [if_neg (by omega), if_pos h]
    have e : x.a.unit x.s x.c wrong = (x.a, x.c, 0) := by
      unfold Al.unit
      rw [if_neg (by omega)]
    rw [e]
    exact .inr ⟨h, ha⟩
theorem St.mute_start {x : St} (h : x.mute) (o : Oct) : (x.order 1 o).1.mute := by
  unfold St.order
  rw [if_pos rfl]
  split
  · exact .inr ⟨rfl, rfl⟩
  · exact h
/-- The octets of a unit that tells a status. -/
def LK (o : Oct) : Prop := ∃ a b s, o = [a, b, 1, s] ∧ (0 ≤ a ∧ a ≤ 255) ∧ (0 ≤ b ∧ b ≤ 255) ∧ (0 ≤ s ∧ s ≤ 7)
theorem St.stat_LK (x : St) {i : Int} (hi : 0 ≤ i ∧ i ≤ 7) : LK (encU (x.stat i)) := by
  have hw : (x.stat i).wide = false := by unfold St.stat St.fill; cases x.w <;> rfl
  have hb : bodyU (x.stat i) = [i] := by
    have hk : (x.stat i).kind = 1 := rfl
    have hs : (x.stat i).status = i := rfl
    unfold bodyU
    rw [hk, hw, hs]
    rfl
  have e : encU (x.stat i) = [bitU (x.stat i).bsn (x.stat i).bib, bitU (x.stat i).fsn (x.stat i).fib, 1, i] := by
    unfold encU lenU
    rw [hb]
    rfl
  exact ⟨_, _, i, e, bitU_range _ _, bitU_range _ _, hi⟩
theorem St.mute_next {x : St} (h : x.mute) : x.next.1.mute ∧ LK (encU x.next.2) := by
  unfold St.next
  rw [if_pos (by rcases h with h | h; exact .inl h; exact .inr h.1)]
  exact ⟨h, St.stat_LK x (Al.sends_range _)⟩
structure Po.mute (p : Po) : Prop where
  x : p.x.mute
  e : ∃ n, p.e = ⟨[], 0, false, n⟩
  nx : p.nx.1 = [] ∨ LK p.nx.1
  sent : ∀ q ∈ p.sent, LK q.1
theorem Po.mute_new (s : Su) : (Po.new s).mute := ⟨.inl rfl, ⟨0, rfl⟩, .inl rfl, by simp [Po.new]⟩
theorem Po.mute_in {p : Po} (h : p.mute) : (p.inB false).mute := by
  obtain ⟨n, he⟩ := h.e
  by_cases hn : n + 1 = 128
  · have eb : p.e.bit false = (⟨[], 0, false, 0⟩, some (2, [])) := by
      rw [he]
      unfold Er.bit Er.count
      rw [if_pos rfl, if_neg (by simp), if_pos (by exact hn)]
      rfl
    rw [Po.inB_some eb]
    refine ⟨?_, ⟨0, rfl⟩, h.nx, h.sent⟩
    show (Po.hears p.x (2, [])).mute
    unfold Po.hears
    rw [if_neg (by decide)]
    exact St.mute_count h.x true
  · have eb : p.e.bit false = (⟨[], 0, false, n + 1⟩, none) := by
      rw [he]
      unfold Er.bit Er.count
      rw [if_pos rfl, if_neg (by simp), if_neg (by exact hn)]
      rfl
    rw [Po.inB_none eb]
    exact ⟨h.x, ⟨n + 1, rfl⟩, h.nx, h.sent⟩
theorem Po.mute_ins : ∀ (k : Nat) {p : Po}, p.mute → ((List.replicate k false).foldl Po.inB p).mute
  | 0, _, h => h
  | k + 1, _, h => by rw [List.replicate_succ, List.foldl_cons]; exact Po.mute_ins k (Po.mute_in h)
theorem Po.mute_outB {p : Po} (h : p.mute) : p.outB.1.mute := by
  have hl : p.load.mute := by
    unfold Po.load
    split
    · obtain ⟨a, b⟩ := St.mute_next h.x
      exact ⟨a, h.e, .inr b, h.sent⟩
    · exact h
  refine ⟨hl.x, hl.e, hl.nx, ?_⟩
  show ∀ q ∈ (if p.load.out.tail = [] ∧ p.load.nx.1 ≠ [] then p.load.sent ++ [p.load.nx] else p.load.sent), LK q.1
  split
  · rename_i hc
    intro q hq
    rcases List.mem_append.1 hq with hq | hq
    · exact hl.sent q hq
    · obtain rfl : q = p.load.nx := by simpa using hq
      exact hl.nx.resolve_left hc.2
  · exact hl.sent
theorem Po.mute_outs : ∀ (k : Nat) {p : Po}, p.mute → (Po.outs k p).1.mute
  | 0, _, h => h
  | k + 1, _, h => Po.mute_outs k (Po.mute_outB h)
theorem Po.mute_tick {p : Po} (h : p.mute) : (p.tick [false, false, false, false, false, false, false, false]).1.mute :=
  Po.mute_outs 8 (Po.mute_ins 8 (p := p.first) ⟨St.mute_tick h.x, h.e, h.nx, by simp [Po.first]⟩)
theorem Po.mute_order {p : Po} (h : p.mute) (o : Oct) : ({ p with x := (p.x.order 1 o).1 } : Po).mute := ⟨St.mute_start h.x o, h.e, h.nx, h.sent⟩
end Go.Proofs.YtdffinnnjcgfcaaGreatK
