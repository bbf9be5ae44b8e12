/- A link as plain data, continued: the messages that it holds. -/
import Derived.Test.YtdffinnnjcgfcaaGreatM2
namespace Go.Proofs.YtdffinnnjcgfcaaGreatK
open Go Go.RowKit
abbrev Oct := List Int
def octs (l : List Oct) : Nat := (l.map List.length).sum
theorem octs_nil : octs [] = 0 := rfl
theorem octs_cons (x : Oct) (l : List Oct) : octs (x :: l) = x.length + octs l := rfl
theorem octs_append (a b : List Oct) : octs (a ++ b) = octs a + octs b := by simp [octs]
theorem octs_snoc (l : List Oct) (k : Nat) (h : k < l.length) : octs (l.take (k + 1)) = octs (l.take k) + l[k].length := by
  rw [List.take_succ_eq_append_getElem h, octs_append]; simp [octs]
theorem octs_take_le (l : List Oct) (k : Nat) : octs (l.take k) ≤ octs l := by
  have := congrArg octs (List.take_append_drop k l)
  rw [octs_append] at this; omega
theorem octs_drop_le (l : List Oct) (k : Nat) : octs (l.drop k) ≤ octs l := by
  have := congrArg octs (List.take_append_drop k l)
  rw [octs_append] at this; omega
structure Ho where
  most : Int
  oc : Int
  sent : List Oct
  first : Int
  next : List Oct
  deriving DecidableEq
def isOct (p : Oct) : Prop := ∀ x ∈ p, 0 ≤ x ∧ x ≤ 255
structure Ho.ok (h : Ho) : Prop where
  most : h.most ≤ 512
  oc : h.oc ≤ 1048576
  sent : h.sent.length ≤ 127
  all : h.sent.length + h.next.length ≤ 512
  octs : octs h.sent + octs h.next ≤ 1048576
  first : 0 ≤ h.first ∧ h.first ≤ 127
  long : ∀ p ∈ h.next, 3 ≤ p.length ∧ p.length ≤ 273
  lons : ∀ p ∈ h.sent, 3 ≤ p.length ∧ p.length ≤ 273
def Ho.none (most oc : Int) : Ho := ⟨most, oc, [], 0, []⟩
def Ho.octets (h : Ho) : Int := (octs h.sent : Int) + octs h.next
def Ho.put (h : Ho) (p : Oct) : Ho × Int :=
  if p.length < 3 then (h, 5) else if 273 < p.length then (h, 6)
  else if h.most ≤ (h.sent.length + h.next.length : Int) ∨ h.oc < h.octets + p.length then (h, 3)
  else ({ h with next := h.next ++ [p] }, 0)
def Ho.last (h : Ho) : Int := (h.first + h.sent.length - 1) % 128
def Ho.prev (h : Ho) : Int := (h.first + 127) % 128
def Ho.send (h : Ho) : Ho × Int × Oct × Int :=
  match h.next with
  | [] => (h, 0, [], 2)
  | p :: r => if 127 ≤ h.sent.length then (h, 0, [], 3) else
    (⟨h.most, h.oc, h.sent ++ [p], h.first, r⟩, (⟨h.most, h.oc, h.sent ++ [p], h.first, r⟩ : Ho).last, p, 0)
def Ho.size (h : Ho) : Int := match h.next with | [] => 0 | p :: _ => p.length
def Ho.at (h : Ho) (i : Int) : Int × Oct × Int :=
  if 0 ≤ i ∧ i < h.sent.length then ((h.first + i) % 128, h.sent.getD i.toNat [], 0) else (0, [], 2)
def Ho.knows (h : Ho) (n : Int) : Bool := decide (n < 128) && decide ((n - h.prev) % 128 ≤ (h.last - h.prev) % 128)
def Ho.gap (h : Ho) (n : Int) : Int := (n - h.prev) % 128
def Ho.free (h : Ho) (n : Int) : Ho × Int × Int :=
  if h.knows n then (⟨h.most, h.oc, h.sent.drop (h.gap n).toNat, (n + 1) % 128, h.next⟩, h.gap n, 0) else (h, 0, 10)
def Ho.rest (h : Ho) (n : Int) : List Oct × Int := if h.knows n then (h.sent.drop (h.gap n).toNat ++ h.next, 0) else ([], 10)
def Ho.flush (h : Ho) : Ho := { h with next := [] }
def Ho.clear (h : Ho) : Ho := ⟨h.most, h.oc, [], 0, []⟩
theorem Ho.gap_le {h : Ho} (hk : h.ok) {n : Int} (hn : h.knows n = true) : 0 ≤ h.gap n ∧ h.gap n ≤ h.sent.length := by
  have h1 := hk.sent
  have h2 := hk.first
  simp only [Ho.knows, Bool.and_eq_true, decide_eq_true_eq] at hn
  simp only [Ho.prev, Ho.last] at hn
  simp only [Ho.gap, Ho.prev]
  refine ⟨Int.emod_nonneg _ (by decide), ?_⟩
  have : ((h.first + h.sent.length - 1) % 128 - (h.first + 127) % 128) % 128 = h.sent.length := by omega
  omega
theorem Ho.ok_none {most oc : Int} (h1 : most ≤ 512) (h2 : oc ≤ 1048576) : (Ho.none most oc).ok := ⟨h1, h2, by simp [Ho.none], by simp [Ho.none], by simp [Ho.none, octs_nil], by simp [Ho.none], by simp [Ho.none], by simp [Ho.none]⟩
theorem Ho.ok_put {h : Ho} (hk : h.ok) (p : Oct) : (h.put p).1.ok := by
  unfold Ho.put
  split
  · exact hk
  split
  · exact hk
  split
  · exact hk
  rename_i h1 h2 h3
  have ho : Ho.octets h = (Go.Proofs.YtdffinnnjcgfcaaGreatK.octs h.sent : Int) + Go.Proofs.YtdffinnnjcgfcaaGreatK.octs h.next := rfl
  have hm := hk.most
  have hc := hk.oc
  refine ⟨hk.most, hk.oc, hk.sent, ?_, ?_, hk.first, ?_, hk.lons⟩
  · simp only [List.length_append, List.length_singleton]; omega
  · simp only [octs_append, octs_cons, octs_nil]; omega
  · intro q hq
    rcases List.mem_append.1 hq with hq | hq
    · exact hk.long q hq
    · have : q = p := by simpa using hq
      subst this; omega
theorem Ho.ok_send {h : Ho} (hk : h.ok) : (h.send).1.ok := by
  obtain ⟨most, oc, sent, first, next⟩ := h
  unfold Ho.send
  cases next with
  | nil => exact hk
  | cons p r =>
    dsimp only
    split
    · exact hk
    rename_i h1
    have a1 := hk.all
    have a2 := hk.octs
    simp only [List.length_cons, octs_cons] at a1 a2 h1
    refine ⟨hk.most, hk.oc, ?_, ?_, ?_, hk.first, fun q hq => hk.long q (List.mem_cons_of_mem _ hq), ?_⟩
    · simp only [List.length_append, List.length_singleton]; omega
    · simp only [List.length_append, List.length_singleton]; omega
    · simp only [octs_append, octs_cons, octs_nil]; omega
    · intro q hq
      rcases List.mem_append.1 hq with hq | hq
      · exact hk.lons q hq
      · have : q = p := by simpa using hq
        subst this; exact hk.long q (List.mem_cons_self ..)
theorem Ho.ok_free {h : Ho} (hk : h.ok) (n : Int) : (h.free n).1.ok := by
  unfold Ho.free
  split
  · have a1 := hk.all
    have a2 := hk.octs
    have a3 := hk.sent
    have a4 := octs_drop_le h.sent (h.gap n).toNat
    refine ⟨hk.most, hk.oc, ?_, ?_, ?_, ?_, hk.long, fun q hq => hk.lons q (List.mem_of_mem_drop hq)⟩
    · simp only [List.length_drop]; omega
    · simp only [List.length_drop]; omega
    · simp only; omega
    · simp only; omega
  · exact hk
theorem Ho.ok_flush {h : Ho} (hk : h.ok) : (h.flush).ok :=
  ⟨hk.most, hk.oc, hk.sent, by have := hk.all; simp [Ho.flush]; omega, by have := hk.octs; simp [Ho.flush, octs_nil]; omega, hk.first, by simp [Ho.flush], hk.lons⟩
theorem Ho.ok_clear {h : Ho} (hk : h.ok) : (h.clear).ok := ⟨hk.most, hk.oc, by simp [Ho.clear], by simp [Ho.clear], by simp [Ho.clear, octs_nil], by simp [Ho.clear], by simp [Ho.clear], by simp [Ho.clear]⟩
end Go.Proofs.YtdffinnnjcgfcaaGreatK
