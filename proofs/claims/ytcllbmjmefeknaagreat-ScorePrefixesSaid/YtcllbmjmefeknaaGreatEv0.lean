/- A terminal that hears itself: run by the kernel, its states made plain after each tick. A terminal that hears itself: its first ticks. A terminal that hears itself: further ticks. A terminal that hears itself: the last ticks. -/
import Derived.Test.YtcllbmjmefeknaaGreatTe7
namespace Go.Proofs.YtcllbmjmefeknaaGreatK
/-! ### A terminal that hears itself: run by the kernel, its states made plain after each tick. -/
section
open Go Go.RowKit
set_option maxHeartbeats 4000000
set_option maxRecDepth 100000
/-! ### A run, its states made plain after each tick -/
def fB {α : Type} (b : Bool) (k : Bool → α) : α := match b with | true => k true | false => k false
def fN {α : Type} (n : Nat) (k : Nat → α) : α := match n with | 0 => k 0 | m + 1 => k (m + 1)
def fI {α : Type} (i : Int) (k : Int → α) : α := match i with | .ofNat n => fN n (fun n => k (.ofNat n)) | .negSucc n => fN n (fun n => k (.negSucc n))
def fBs {α : Type} : List Bool → (List Bool → α) → α
  | [], k => k []
  | b :: l, k => fB b (fun b => fBs l (fun l => k (b :: l)))
def fIs {α : Type} : List Int → (List Int → α) → α
  | [], k => k []
  | b :: l, k => fI b (fun b => fIs l (fun l => k (b :: l)))
def fIss {α : Type} : List (List Int) → (List (List Int) → α) → α
  | [], k => k []
  | b :: l, k => fIs b (fun b => fIss l (fun l => k (b :: l)))
def fCk {α : Type} (c : Ck) (k : Ck → α) : α := match c with
  | ⟨c0, c1, c2, c3, c4, c5, c6, c7⟩ => fI c0 fun c0 => fI c1 fun c1 => fI c2 fun c2 => fI c3 fun c3 => fI c4 fun c4 => fI c5 fun c5 => fI c6 fun c6 => fI c7 fun c7 => k ⟨c0, c1, c2, c3, c4, c5, c6, c7⟩
def fAl {α : Type} (a : Al) (k : Al → α) : α := match a with
  | ⟨st, ow, th, ⟨h, n, t⟩⟩ => fI st fun st => fB ow fun ow => fB th fun th => fB h fun h => fI n fun n => fI t fun t => k ⟨st, ow, th, ⟨h, n, t⟩⟩
def fHo {α : Type} (a : Ho) (k : Ho → α) : α := match a with
  | ⟨m, oc, se, f, ne⟩ => fI m fun m => fI oc fun oc => fIss se fun se => fI f fun f => fIss ne fun ne => k ⟨m, oc, se, f, ne⟩
def fWy {α : Type} (a : Wy) (k : Wy → α) : α := match a with
  | .bs ⟨f, b, la, asked, again, b0, b1, i0, i1⟩ => fB f fun f => fB b fun b => fI la fun la => fB asked fun asked => fI again fun again => fB b0 fun b0 => fB b1 fun b1 => fB i0 fun i0 => fB i1 fun i1 => k (.bs ⟨f, b, la, asked, again, b0, b1, i0, i1⟩)
  | .cy ⟨n1, n2, la, at_, fo, b0, b1⟩ => fI n1 fun n1 => fI n2 fun n2 => fI la fun la => fI at_ fun at_ => fB fo fun fo => fB b0 fun b0 => fB b1 fun b1 => k (.cy ⟨n1, n2, la, at_, fo, b0, b1⟩)
def fSt {α : Type} (x : St) (k : St → α) : α := match x with
  | ⟨s, S, c, a, ⟨j0, j1, j2⟩, h, w, ⟨o0, o1, o2⟩, ⟨l0, l1⟩, told, fails⟩ => fI S fun S => fCk c fun c => fAl a fun a => fB j0 fun j0 => fB j1 fun j1 => fB j2 fun j2 => fHo h fun h => fWy w fun w => fB o0 fun o0 => fB o1 fun o1 => fB o2 fun o2 => fI l0 fun l0 => fI l1 fun l1 => fI fails fun fails => k ⟨s, S, c, a, ⟨j0, j1, j2⟩, h, w, ⟨o0, o1, o2⟩, ⟨l0, l1⟩, told, fails⟩
def fEr {α : Type} (e : Er) (k : Er → α) : α := match e with
  | ⟨inn, ones, found, n⟩ => fBs inn fun inn => fN ones fun ones => fB found fun found => fN n fun n => k ⟨inn, ones, found, n⟩
def fPo {α : Type} (p : Po) (k : Po → α) : α := match p with
  | ⟨x, e, out, (nx, nn), gone, came, sent, got, s⟩ => fSt x fun x => fEr e fun e => fBs out fun out => fIs nx fun nx => fI nn fun nn => fI gone fun gone => fI came fun came => k ⟨x, e, out, (nx, nn), gone, came, sent, got, s⟩
/-! ### The same with tables of frames -/
def Er.flagG (J : List Bool → Oct × Int) (e : Er) : Er × Hd :=
  (⟨[], e.ones, e.found, e.n⟩, if e.inn.length ≤ 8 then none else if (J (e.inn.take (e.inn.length - 8))).2 = 0 then some (0, (J (e.inn.take (e.inn.length - 8))).1) else some (1, []))
def Er.bitG (J : List Bool → Oct × Int) (e : Er) (on : Bool) : Er × Hd :=
  if e.found = false then e.count on
  else if on = true then (if 7 ≤ e.ones + 1 then (⟨[], e.ones + 1, false, 0⟩, none) else (⟨e.inn ++ [true], e.ones + 1, true, e.n⟩, none))
  else if e.ones = 6 then Er.flagG J ⟨e.inn ++ [false], 0, true, e.n⟩
  else if 2687 < e.inn.length + 1 then (⟨[], 0, false, 0⟩, none)
  else (⟨e.inn ++ [false], 0, true, e.n⟩, none)
def Po.inBG (J : List Bool → Oct × Int) (p : Po) (on : Bool) : Po :=
  match (p.e.bitG J on).2 with
  | none => { p with came := p.came + 1, e := (p.e.bitG J on).1 }
  | some h => { p with came := p.came + 1, e := (p.e.bitG J on).1, got := p.got ++ [(h, p.came + 1)], x := Po.hears p.x h }
def Po.loadG (F : Oct → List Bool) (p : Po) : Po := if p.out = [] then { p with x := p.x.next.1, out := F (encU p.x.next.2), nx := (encU p.x.next.2, p.gone + (F (encU p.x.next.2)).length) } else p
def Po.outBG (F : Oct → List Bool) (p : Po) : Po × Bool := ((p.loadG F).shift, (p.loadG F).out.headD false)
def Po.outsG (F : Oct → List Bool) : Nat → Po → Po × List Bool
  | 0, p => (p, [])
  | n + 1, p => ((Po.outsG F n (p.outBG F).1).1, (p.outBG F).2 :: (Po.outsG F n (p.outBG F).1).2)
theorem Er.bitG_eq (e : Er) (on : Bool) : e.bitG judgeB on = e.bit on := rfl
theorem Po.inBG_eq (p : Po) (on : Bool) : p.inBG judgeB on = p.inB on := rfl
theorem Po.outsG_eq : ∀ (n : Nat) (p : Po), Po.outsG frameB n p = Po.outs n p
  | 0, _ => rfl
  | n + 1, p => by
    show ((Po.outsG frameB n p.outB.1).1, _ :: (Po.outsG frameB n p.outB.1).2) = _
    rw [Po.outsG_eq n]
    rfl
/-- Bits that are there already go at once. -/
theorem Po.outs_bulk : ∀ (k : Nat) (p : Po), k < p.out.length → Po.outs k p = ({ p with out := p.out.drop k, gone := p.gone + k }, p.out.take k)
  | 0, p, _ => by simp [Po.outs]
  | k + 1, ⟨x, e, out, nx, gone, came, sent, got, s⟩, h => by
    cases out with
    | nil => simp at h
    | cons o r =>
      have hr : r ≠ [] := fun h0 => by subst h0; simp at h
      have e1 : Po.outB ⟨x, e, o :: r, nx, gone, came, sent, got, s⟩ = (⟨x, e, r, nx, gone + 1, came, sent, got, s⟩, o) := by
        simp [Po.outB, Po.load, Po.shift, hr]
      have h2 : k < (⟨x, e, r, nx, gone + 1, came, sent, got, s⟩ : Po).out.length := by simp at h ⊢; omega
      unfold Po.outs
      rw [e1]
      dsimp only
      rw [Po.outs_bulk k _ h2]
      simp only [List.drop_succ_cons, List.take_succ_cons, Prod.mk.injEq, and_true, Po.mk.injEq, true_and]
      push_cast
      omega
def eqBs : List Bool → List Bool → Bool
  | [], [] => true
  | true :: l, true :: m => eqBs l m
  | false :: l, false :: m => eqBs l m
  | _, _ => false
theorem eqBs_eq : ∀ {l m : List Bool}, eqBs l m = true → l = m
  | [], [], _ => rfl
  | true :: l, true :: m, h => by rw [eqBs_eq (l := l) (m := m) h]
  | false :: l, false :: m, h => by rw [eqBs_eq (l := l) (m := m) h]
  | [], _ :: _, h => by cases h
  | true :: _, [], h => by cases h
  | false :: _, [], h => by cases h
  | true :: _, false :: _, h => by cases h
  | false :: _, true :: _, h => by cases h
def frT (u : Oct) : List Bool := if u = [255, 255, 0] then [true, true, true, true, true, false, true, true, true, true, true, false, true, true, true, true, true, false, true, false, false, false, false, false, false, false, false, true, true, true, true, true, false, true, true, true, true, true, false, true, true, true, true, true, false, true, false, true, true, true, true, true, true, false] else if u = [255, 255, 1, 1] then [true, true, true, true, true, false, true, true, true, true, true, false, true, true, true, true, true, false, true, true, false, false, false, false, false, false, false, true, false, false, false, false, false, false, false, false, true, true, true, false, true, false, true, true, true, true, false, true, true, true, true, false, true, true, true, true, true, true, false] else if u = [255, 255, 1, 0] then [true, true, true, true, true, false, true, true, true, true, true, false, true, true, true, true, true, false, true, true, false, false, false, false, false, false, false, false, false, false, false, false, false, false, false, true, true, true, false, false, true, false, false, false, true, true, false, false, true, true, true, false, true, true, true, true, true, true, false] else frameB u
def juT (t : List Bool) : Oct × Int := if eqBs t [true, true, true, true, true, false, true, true, true, true, true, false, true, true, true, true, true, false, true, false, false, false, false, false, false, false, false, true, true, true, true, true, false, true, true, true, true, true, false, true, true, true, true, true, false, true] = true then ([255, 255, 0], 0) else if eqBs t [true, true, true, true, true, false, true, true, true, true, true, false, true, true, true, true, true, false, true, true, false, false, false, false, false, false, false, true, false, false, false, false, false, false, false, false, true, true, true, false, true, false, true, true, true, true, false, true, true, true, true] = true then ([255, 255, 1, 1], 0) else if eqBs t [true, true, true, true, true, false, true, true, true, true, true, false, true, true, true, true, true, false, true, true, false, false, false, false, false, false, false, false, false, false, false, false, false, false, false, true, true, true, false, false, true, false, false, false, true, true, false, false, true, true, true] = true then ([255, 255, 1, 0], 0) else judgeB t
theorem frT_eq : frT = frameB := by
  funext u
  unfold frT
  split
  · rename_i h; subst h; decide +kernel
  split
  · rename_i h; subst h; decide +kernel
  split
  · rename_i h; subst h; decide +kernel
  · rfl
theorem juT_eq : juT = judgeB := by
  funext t
  unfold juT
  split
  · rename_i h; rw [eqBs_eq h]; decide +kernel
  split
  · rename_i h; rw [eqBs_eq h]; decide +kernel
  split
  · rename_i h; rw [eqBs_eq h]; decide +kernel
  · rfl
theorem fB_eq {α : Type} (b : Bool) (k : Bool → α) : fB b k = k b := by cases b <;> rfl
theorem fN_eq {α : Type} (n : Nat) (k : Nat → α) : fN n k = k n := by cases n <;> rfl
theorem fI_eq {α : Type} (i : Int) (k : Int → α) : fI i k = k i := by cases i <;> simp only [fI, fN_eq]
theorem fBs_eq {α : Type} : ∀ (l : List Bool) (k : List Bool → α), fBs l k = k l
  | [], _ => rfl
  | b :: l, k => by rw [fBs, fB_eq, fBs_eq l]
theorem fIs_eq {α : Type} : ∀ (l : List Int) (k : List Int → α), fIs l k = k l
  | [], _ => rfl
  | b :: l, k => by rw [fIs, fI_eq, fIs_eq l]
theorem fIss_eq {α : Type} : ∀ (l : List (List Int)) (k : List (List Int) → α), fIss l k = k l
  | [], _ => rfl
  | b :: l, k => by rw [fIss, fIs_eq, fIss_eq l]
theorem fCk_eq {α : Type} (c : Ck) (k : Ck → α) : fCk c k = k c := by cases c; simp only [fCk, fI_eq]
theorem fAl_eq {α : Type} (c : Al) (k : Al → α) : fAl c k = k c := by obtain ⟨st, ow, th, ⟨h, n, t⟩⟩ := c; simp only [fAl, fI_eq, fB_eq]
theorem fHo_eq {α : Type} (c : Ho) (k : Ho → α) : fHo c k = k c := by cases c; simp only [fHo, fI_eq, fIss_eq]
theorem fWy_eq {α : Type} (c : Wy) (k : Wy → α) : fWy c k = k c := by
  cases c with
  | bs c => cases c; simp only [fWy, fI_eq, fB_eq]
  | cy c => cases c; simp only [fWy, fI_eq, fB_eq]
theorem fSt_eq {α : Type} (c : St) (k : St → α) : fSt c k = k c := by
  obtain ⟨s, S, c, a, ⟨j0, j1, j2⟩, h, w, ⟨o0, o1, o2⟩, ⟨l0, l1⟩, told, fails⟩ := c
  simp only [fSt, fI_eq, fB_eq, fCk_eq, fAl_eq, fHo_eq, fWy_eq]
theorem fEr_eq {α : Type} (c : Er) (k : Er → α) : fEr c k = k c := by cases c; simp only [fEr, fN_eq, fB_eq, fBs_eq]
theorem fPo_eq {α : Type} (c : Po) (k : Po → α) : fPo c k = k c := by
  obtain ⟨x, e, out, ⟨nx, nn⟩, gone, came, sent, got, s⟩ := c
  simp only [fPo, fI_eq, fSt_eq, fEr_eq, fBs_eq, fIs_eq]
structure Lp where
  p : Po
  n : List Bool
def Lp.tick (x : Lp) : Lp := ⟨{ (x.p.tick x.n).1 with x := { (x.p.tick x.n).1.x with told := [] } }, (x.p.tick x.n).2⟩
def Lp.run : Nat → Lp → Lp
  | 0, x => x
  | k + 1, x => Lp.run k x.tick
theorem Lp.run_add : ∀ (m k : Nat) (x : Lp), Lp.run (m + k) x = Lp.run k (Lp.run m x)
  | 0, k, x => by rw [Nat.zero_add]; rfl
  | m + 1, k, x => by rw [show m + 1 + k = (m + k) + 1 by omega]; exact Lp.run_add m k x.tick
theorem Lp.run_succ (k : Nat) (x : Lp) : Lp.run (k + 1) x = (Lp.run k x).tick := Lp.run_add k 1 x
def Lp.tickF {α : Type} (x : Lp) (k : Lp → α) : α :=
  fPo (x.n.foldl (Po.inBG juT) x.p.first) fun p =>
    if 8 < p.out.length then fBs (p.out.take 8) fun l => k ⟨{ p with out := p.out.drop 8, gone := p.gone + 8, x := { p.x with told := [] } }, l⟩
    else fPo (Po.outsG frT 8 p).1 fun q => fBs (Po.outsG frT 8 p).2 fun l => k ⟨{ q with x := { q.x with told := [] } }, l⟩
def Lp.runG {α : Type} : Nat → Lp → (Lp → α) → α
  | 0, x, k => k x
  | n + 1, x, k => x.tickF fun x => Lp.runG n x k
theorem Lp.tickF_eq {α : Type} (x : Lp) (k : Lp → α) : x.tickF k = k x.tick := by
  unfold Lp.tickF
  rw [fPo_eq, juT_eq, show (Po.inBG judgeB) = Po.inB from rfl, frT_eq]
  split
  · rename_i h
    rw [fBs_eq]
    unfold Lp.tick Po.tick
    rw [Po.outs_bulk 8 _ h]
    rfl
  · rw [fPo_eq, fBs_eq, Po.outsG_eq]
    rfl
theorem Lp.runG_eq {α : Type} : ∀ (n : Nat) (x : Lp) (k : Lp → α), Lp.runG n x k = k (Lp.run n x)
  | 0, _, _ => rfl
  | n + 1, x, k => by rw [Lp.runG, Lp.tickF_eq, Lp.runG_eq n]; rfl
def Lp.begin (cyc : Bool) : Lp := ⟨{ Po.new (usualP cyc) with x := ((Po.new (usualP cyc)).x.order 1 []).1 }, List.replicate 8 false⟩
def Lp.eqb (x y : Lp) : Bool := decide (x.p.x = y.p.x) && decide (x.p.e = y.p.e) && decide (x.p.out = y.p.out) && decide (x.p.nx = y.p.nx) && decide (x.p.gone = y.p.gone) && decide (x.p.came = y.p.came) && decide (x.p.sent = y.p.sent) && decide (x.p.got = y.p.got) && decide (x.p.s = y.p.s) && decide (x.n = y.n)
theorem Lp.eqb_eq {x y : Lp} (h : x.eqb y = true) : x = y := by
  obtain ⟨⟨x, e, out, nx, gone, came, sent, got, s⟩, n⟩ := x
  obtain ⟨⟨x', e', out', nx', gone', came', sent', got', s'⟩, n'⟩ := y
  simp only [Lp.eqb, Bool.and_eq_true, decide_eq_true_eq] at h
  obtain ⟨⟨⟨⟨⟨⟨⟨⟨⟨h1, h2⟩, h3⟩, h4⟩, h5⟩, h6⟩, h7⟩, h8⟩, h9⟩, h10⟩ := h
  subst h1 h2 h3 h4 h5 h6 h7 h8 h9 h10
  rfl
theorem Lp.chunk {k : Nat} {x y : Lp} (h : Lp.runG k x (fun z => z.eqb y) = true) : Lp.run k x = y := by
  rw [Lp.runG_eq] at h
  exact Lp.eqb_eq h
end
/-! ### A terminal that hears itself: its first ticks. -/
section
open Go Go.RowKit
set_option maxHeartbeats 4000000
set_option maxRecDepth 1000000
def lp500 : Lp := { p := { x := { s := { cyc := false, n1 := 8, n2 := 300, hd := 16, oc := 600, t0 := 600, t1 := 12000, t2 := 8000, t3 := 4000, t4 := 1200, t5 := 100, t6 := 4000, t7 := 6000 }, S := 1, c := { c0 := 0, c1 := 0, c2 := 0, c3 := 0, c4 := 725, c5 := 0, c6 := 0, c7 := 0 }, a := { st := 3, own := false, their := false, p := { hurry := false, n := 0, tries := 0 } }, j := { own := false, their := false, due := false }, h := { most := 16, oc := 600, sent := [], first := 0, next := [] }, w := Wy.bs { fib := true, bib := true, last := 127, asked := false, again := -1, b0 := false, b1 := false, i0 := false, i1 := false }, o := { own := false, their := false, wait := false }, leak := { n := 0, seen := 0 }, told := [], fails := 0 }, e := { inn := [true, true, true, true, true, false, true, true, true, true, true, false, true, true, true, true, true, false, true, true, false, false, false, false, false, false, false, true, false, false, false], ones := 0, found := true, n := 0 }, out := [false, true, false, true, true, true, true, false, true, true, true, true, false, true, true, true, true, true, true, false], nx := ([255, 255, 1, 1], 4020), gone := 4000, came := 4000, sent := [], got := [], s := { cyc := false, n1 := 8, n2 := 300, hd := 16, oc := 600, t0 := 600, t1 := 12000, t2 := 8000, t3 := 4000, t4 := 1200, t5 := 100, t6 := 4000, t7 := 6000 } }, n := [false, false, false, false, false, true, true, true] }
theorem lc500 : Lp.run 500 (Lp.begin false) = lp500 := Lp.chunk (by decide +kernel)
end
/-! ### A terminal that hears itself: further ticks. -/
section
open Go Go.RowKit
set_option maxHeartbeats 4000000
set_option maxRecDepth 1000000
def lp1500 : Lp := { p := { x := { s := { cyc := false, n1 := 8, n2 := 300, hd := 16, oc := 600, t0 := 600, t1 := 12000, t2 := 8000, t3 := 4000, t4 := 1200, t5 := 100, t6 := 4000, t7 := 6000 }, S := 4, c := { c0 := 0, c1 := 0, c2 := 0, c3 := 0, c4 := 0, c5 := 0, c6 := 0, c7 := 0 }, a := { st := 0, own := false, their := false, p := { hurry := false, n := 0, tries := 0 } }, j := { own := false, their := false, due := false }, h := { most := 16, oc := 600, sent := [], first := 0, next := [] }, w := Wy.bs { fib := true, bib := true, last := 127, asked := false, again := -1, b0 := false, b1 := false, i0 := false, i1 := false }, o := { own := false, their := false, wait := false }, leak := { n := 0, seen := 0 }, told := [], fails := 0 }, e := { inn := [true, true, true, true, true, false, true, true, true, true, true, false, true, true, true, true, true, false, true, false, false, false, false, false, false, false, false, true, true, true], ones := 3, found := true, n := 0 }, out := [false, true, true, true, true, true, false, true, false, true, true, true, true, true, true, false], nx := ([255, 255, 0], 12016), gone := 12000, came := 12000, sent := [], got := [], s := { cyc := false, n1 := 8, n2 := 300, hd := 16, oc := 600, t0 := 600, t1 := 12000, t2 := 8000, t3 := 4000, t4 := 1200, t5 := 100, t6 := 4000, t7 := 6000 } }, n := [true, true, false, true, true, true, true, true] }
def lp2500 : Lp := { p := { x := { s := { cyc := false, n1 := 8, n2 := 300, hd := 16, oc := 600, t0 := 600, t1 := 12000, t2 := 8000, t3 := 4000, t4 := 1200, t5 := 100, t6 := 4000, t7 := 6000 }, S := 4, c := { c0 := 0, c1 := 0, c2 := 0, c3 := 0, c4 := 0, c5 := 0, c6 := 0, c7 := 0 }, a := { st := 0, own := false, their := false, p := { hurry := false, n := 0, tries := 0 } }, j := { own := false, their := false, due := false }, h := { most := 16, oc := 600, sent := [], first := 0, next := [] }, w := Wy.bs { fib := true, bib := true, last := 127, asked := false, again := -1, b0 := false, b1 := false, i0 := false, i1 := false }, o := { own := false, their := false, wait := false }, leak := { n := 0, seen := 0 }, told := [], fails := 0 }, e := { inn := [true, true, true, true, true, false, true, true, true, true, true, false, true, true, true, true, true, false, true, false, false, false, false, false, false, false, false, true, true, true, true, true, false, true, true, true, true, true], ones := 5, found := true, n := 0 }, out := [false, true, true, true, true, true, true, false], nx := ([255, 255, 0], 20008), gone := 20000, came := 20000, sent := [], got := [], s := { cyc := false, n1 := 8, n2 := 300, hd := 16, oc := 600, t0 := 600, t1 := 12000, t2 := 8000, t3 := 4000, t4 := 1200, t5 := 100, t6 := 4000, t7 := 6000 } }, n := [false, true, true, true, true, true, false, true] }
def lp3500 : Lp := { p := { x := { s := { cyc := false, n1 := 8, n2 := 300, hd := 16, oc := 600, t0 := 600, t1 := 12000, t2 := 8000, t3 := 4000, t4 := 1200, t5 := 100, t6 := 4000, t7 := 6000 }, S := 4, c := { c0 := 0, c1 := 0, c2 := 0, c3 := 0, c4 := 0, c5 := 0, c6 := 0, c7 := 0 }, a := { st := 0, own := false, their := false, p := { hurry := false, n := 0, tries := 0 } }, j := { own := false, their := false, due := false }, h := { most := 16, oc := 600, sent := [], first := 0, next := [] }, w := Wy.bs { fib := true, bib := true, last := 127, asked := false, again := -1, b0 := false, b1 := false, i0 := false, i1 := false }, o := { own := false, their := false, wait := false }, leak := { n := 0, seen := 0 }, told := [], fails := 0 }, e := { inn := [true, true, true, true, true, false, true, true, true, true, true, false, true, true, true, true, true, false, true, false, false, false, false, false, false, false, false, true, true, true, true, true, false, true, true, true, true, true, false, true, true, true, true, true, false, true], ones := 1, found := true, n := 0 }, out := [], nx := ([255, 255, 0], 28000), gone := 28000, came := 28000, sent := [([255, 255, 0], 28000)], got := [], s := { cyc := false, n1 := 8, n2 := 300, hd := 16, oc := 600, t0 := 600, t1 := 12000, t2 := 8000, t3 := 4000, t4 := 1200, t5 := 100, t6 := 4000, t7 := 6000 } }, n := [false, true, true, true, true, true, true, false] }
theorem lc1500 : Lp.run 1000 lp500 = lp1500 := Lp.chunk (by decide +kernel)
theorem lc2500 : Lp.run 1000 lp1500 = lp2500 := Lp.chunk (by decide +kernel)
theorem lc3500 : Lp.run 1000 lp2500 = lp3500 := Lp.chunk (by decide +kernel)
end
/-! ### A terminal that hears itself: the last ticks. -/
section
open Go Go.RowKit
set_option maxHeartbeats 4000000
set_option maxRecDepth 1000000
def lq3500 : Lp := { p := { x := { s := { cyc := false, n1 := 8, n2 := 300, hd := 16, oc := 600, t0 := 600, t1 := 12000, t2 := 8000, t3 := 4000, t4 := 1200, t5 := 100, t6 := 4000, t7 := 6000 }, S := 4, c := { c0 := 0, c1 := 0, c2 := 0, c3 := 0, c4 := 0, c5 := 0, c6 := 0, c7 := 0 }, a := { st := 0, own := false, their := false, p := { hurry := false, n := 0, tries := 0 } }, j := { own := false, their := false, due := false }, h := { most := 16, oc := 600, sent := [], first := 0, next := [] }, w := Wy.bs { fib := true, bib := true, last := 127, asked := false, again := -1, b0 := false, b1 := false, i0 := false, i1 := false }, o := { own := false, their := false, wait := false }, leak := { n := 0, seen := 0 }, told := [], fails := 0 }, e := { inn := [true, true, true, true, true, false, true, true, true, true, true, false, true, true, true, true, true, false, true, false, false, false, false, false, false, false, false, true, true, true, true, true, false, true, true, true, true, true, false, true, true, true, true, true, false, true], ones := 1, found := true, n := 0 }, out := [], nx := ([255, 255, 0], 28000), gone := 28000, came := 28000, sent := [([255, 255, 0], 28000)], got := [], s := { cyc := false, n1 := 8, n2 := 300, hd := 16, oc := 600, t0 := 600, t1 := 12000, t2 := 8000, t3 := 4000, t4 := 1200, t5 := 100, t6 := 4000, t7 := 6000 } }, n := [false, true, true, true, true, true, true, false] }
def lp4500 : Lp := { p := { x := { s := { cyc := false, n1 := 8, n2 := 300, hd := 16, oc := 600, t0 := 600, t1 := 12000, t2 := 8000, t3 := 4000, t4 := 1200, t5 := 100, t6 := 4000, t7 := 6000 }, S := 4, c := { c0 := 0, c1 := 0, c2 := 0, c3 := 0, c4 := 0, c5 := 0, c6 := 0, c7 := 0 }, a := { st := 0, own := false, their := false, p := { hurry := false, n := 0, tries := 0 } }, j := { own := false, their := false, due := false }, h := { most := 16, oc := 600, sent := [], first := 0, next := [] }, w := Wy.bs { fib := true, bib := true, last := 127, asked := false, again := -1, b0 := false, b1 := false, i0 := false, i1 := false }, o := { own := false, their := false, wait := false }, leak := { n := 0, seen := 0 }, told := [], fails := 0 }, e := { inn := [], ones := 0, found := true, n := 0 }, out := [true, true, true, false, true, true, true, true, true, false, true, false, false, false, false, false, false, false, false, true, true, true, true, true, false, true, true, true, true, true, false, true, true, true, true, true, false, true, false, true, true, true, true, true, true, false], nx := ([255, 255, 0], 36046), gone := 36000, came := 36000, sent := [], got := [((0, [255, 255, 0]), 36000)], s := { cyc := false, n1 := 8, n2 := 300, hd := 16, oc := 600, t0 := 600, t1 := 12000, t2 := 8000, t3 := 4000, t4 := 1200, t5 := 100, t6 := 4000, t7 := 6000 } }, n := [true, true, true, true, true, false, true, true] }
def lp5256 : Lp := { p := { x := { s := { cyc := false, n1 := 8, n2 := 300, hd := 16, oc := 600, t0 := 600, t1 := 12000, t2 := 8000, t3 := 4000, t4 := 1200, t5 := 100, t6 := 4000, t7 := 6000 }, S := 4, c := { c0 := 0, c1 := 0, c2 := 0, c3 := 0, c4 := 0, c5 := 0, c6 := 0, c7 := 0 }, a := { st := 0, own := false, their := false, p := { hurry := false, n := 0, tries := 0 } }, j := { own := false, their := false, due := false }, h := { most := 16, oc := 600, sent := [], first := 0, next := [] }, w := Wy.bs { fib := true, bib := true, last := 127, asked := false, again := -1, b0 := false, b1 := false, i0 := false, i1 := false }, o := { own := false, their := false, wait := false }, leak := { n := 0, seen := 0 }, told := [], fails := 0 }, e := { inn := [], ones := 0, found := true, n := 0 }, out := [true, true, true, false, true, true, true, true, true, false, true, false, false, false, false, false, false, false, false, true, true, true, true, true, false, true, true, true, true, true, false, true, true, true, true, true, false, true, false, true, true, true, true, true, true, false], nx := ([255, 255, 0], 42094), gone := 42048, came := 42048, sent := [], got := [((0, [255, 255, 0]), 42048)], s := { cyc := false, n1 := 8, n2 := 300, hd := 16, oc := 600, t0 := 600, t1 := 12000, t2 := 8000, t3 := 4000, t4 := 1200, t5 := 100, t6 := 4000, t7 := 6000 } }, n := [true, true, true, true, true, false, true, true] }
def lp6000 : Lp := { p := { x := { s := { cyc := false, n1 := 8, n2 := 300, hd := 16, oc := 600, t0 := 600, t1 := 12000, t2 := 8000, t3 := 4000, t4 := 1200, t5 := 100, t6 := 4000, t7 := 6000 }, S := 4, c := { c0 := 0, c1 := 0, c2 := 0, c3 := 0, c4 := 0, c5 := 0, c6 := 0, c7 := 0 }, a := { st := 0, own := false, their := false, p := { hurry := false, n := 0, tries := 0 } }, j := { own := false, their := false, due := false }, h := { most := 16, oc := 600, sent := [], first := 0, next := [] }, w := Wy.bs { fib := true, bib := true, last := 127, asked := false, again := -1, b0 := false, b1 := false, i0 := false, i1 := false }, o := { own := false, their := false, wait := false }, leak := { n := 0, seen := 0 }, told := [], fails := 0 }, e := { inn := [true, true, true, true, true, false, true, true, true, true, true, false], ones := 0, found := true, n := 0 }, out := [false, false, false, false, false, false, false, true, true, true, true, true, false, true, true, true, true, true, false, true, true, true, true, true, false, true, false, true, true, true, true, true, true, false], nx := ([255, 255, 0], 48034), gone := 48000, came := 48000, sent := [], got := [], s := { cyc := false, n1 := 8, n2 := 300, hd := 16, oc := 600, t0 := 600, t1 := 12000, t2 := 8000, t3 := 4000, t4 := 1200, t5 := 100, t6 := 4000, t7 := 6000 } }, n := [true, true, true, true, true, false, true, false] }
theorem lc4500 : Lp.run 1000 lq3500 = lp4500 := Lp.chunk (by decide +kernel)
theorem lc5256 : Lp.run 756 lp4500 = lp5256 := Lp.chunk (by decide +kernel)
theorem lc6000 : Lp.run 744 lp5256 = lp6000 := Lp.chunk (by decide +kernel)
end
end Go.Proofs.YtcllbmjmefeknaaGreatK
