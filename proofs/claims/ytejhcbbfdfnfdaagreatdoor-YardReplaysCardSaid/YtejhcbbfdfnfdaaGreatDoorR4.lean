/- What always holds of the yard. No program. -/
import Derived.Test.YtejhcbbfdfnfdaaGreatDoorR3
/- The yard as lists and numbers. No program. -/
namespace Go.Proofs.YtejhcbbfdfnfdaaGreatDoor.Yp
/-! The yard as lists and numbers. -/
structure It where
  id : ByteArray
  par : ByteArray
  bx : Bx
  st : Int
  stone : ByteArray

structure Fact where
  kind : ByteArray
  names : List ByteArray
  vals : List Int

structure Yd where
  items : List It
  facts : List Fact
  kerfs : Int

def es : ByteArray := ⟨#[]⟩
def look (l : List It) (id : ByteArray) : Option It := l.find? fun x => decide (x.id = id)
def inR (n : Int) : Bool := decide (-1000000 ≤ n) && decide (n ≤ 1000000)
def boxCheck (b : Bx) : Int :=
  if (inR b.x0 && inR b.x1 && inR b.y0 && inR b.y1 && inR b.z0 && inR b.z1) = false then 6
  else if b.x1 ≤ b.x0 ∨ b.y1 ≤ b.y0 ∨ b.z1 ≤ b.z0 then 1 else 0
def overB (a b : Bx) : Bool := decide (a.x0 < b.x1) && decide (b.x0 < a.x1) && decide (a.y0 < b.y1) && decide (b.y0 < a.y1) && decide (a.z0 < b.z1) && decide (b.z0 < a.z1)
def axLo (b : Bx) (a : Int) : Int := if a = 0 then b.x0 else if a = 1 then b.y0 else b.z0
def axHi (b : Bx) (a : Int) : Int := if a = 0 then b.x1 else if a = 1 then b.y1 else b.z1
def setLo (b : Bx) (a n : Int) : Bx := if a = 0 then { b with x0 := n } else if a = 1 then { b with y0 := n } else { b with z0 := n }
def setHi (b : Bx) (a n : Int) : Bx := if a = 0 then { b with x1 := n } else if a = 1 then { b with y1 := n } else { b with z1 := n }
def kerfCheck (b : Bx) (a p k : Int) : Int :=
  if boxCheck b ≠ 0 then boxCheck b else if a < 0 ∨ 2 < a then 1 else if k < 0 ∨ 1000 < k then 6 else if p ≤ axLo b a ∨ axHi b a - k ≤ p then 12 else 0
def boxOf (v : List Int) : Bx := ⟨v.getD 0 0, v.getD 1 0, v.getD 2 0, v.getD 3 0, v.getD 4 0, v.getD 5 0⟩
def bZero : Bx := ⟨0, 0, 0, 0, 0, 0⟩
def gone (b : Bx) (a p k : Int) : Bx := if 0 < k then setHi (setLo b a p) a (p + k) else bZero
def lost (b : Bx) (a p k : Int) : Int := (gone b a p k).vol
def isLow (c : UInt8) : Bool := decide (97 ≤ c.toNat) && decide (c.toNat ≤ 122)
def isIn (c : UInt8) : Bool := isLow c || (decide (48 ≤ c.toNat) && decide (c.toNat ≤ 57)) || decide (c.toNat = 95)
def isName (s : ByteArray) : Bool := match s.data.toList with
  | [] => false
  | c :: l => decide (l.length < 24) && isLow c && l.all isIn
def kFree : ByteArray := ⟨#[102, 114, 101, 101]⟩
def kCut : ByteArray := ⟨#[99, 117, 116]⟩
def kAssign : ByteArray := ⟨#[97, 115, 115, 105, 103, 110]⟩
def kRelease : ByteArray := ⟨#[114, 101, 108, 101, 97, 115, 101]⟩
def kSet : ByteArray := ⟨#[115, 101, 116]⟩
def kBreak : ByteArray := ⟨#[98, 114, 101, 97, 107]⟩
def kindNo (s : ByteArray) : Option Nat :=
  if s = kFree then some 0 else if s = kCut then some 1 else if s = kAssign then some 2 else if s = kRelease then some 3 else if s = kSet then some 4 else if s = kBreak then some 5 else none
def nNames : Nat → Nat
  | 1 => 3 | 2 => 2 | _ => 1
def nVals : Nat → Nat
  | 0 => 6 | 1 => 3 | _ => 0
def allowed (k : Nat) (s : Int) : Bool := match k with
  | 1 | 2 => decide (s = 1)
  | 3 | 4 => decide (s = 3)
  | _ => decide (s = 1) || decide (s = 3)
def nm (f : Fact) (i : Nat) : ByteArray := f.names.getD i es
def vl (f : Fact) (i : Nat) : Int := f.vals.getD i 0
def freeErr (l : List It) (id : ByteArray) (b : Bx) : Int :=
  if (look l id).isSome then 5 else if boxCheck b ≠ 0 then boxCheck b else if l.any (fun x => decide (x.par = es) && overB x.bx b) then 11 else 0
def cutErr (l : List It) (x : It) (f : Fact) : Int :=
  if (look l (nm f 1)).isSome ∨ (look l (nm f 2)).isSome ∨ nm f 1 = nm f 2 then 5 else kerfCheck x.bx (vl f 0) (vl f 1) (vl f 2)
def assignErr (l : List It) (s : ByteArray) : Int := if l.any (fun z => decide (z.stone = s)) then 5 else 0
def check (y : Yd) (f : Fact) : Int := match kindNo f.kind with
  | none => 3
  | some k =>
    if f.names.length ≠ nNames k ∨ f.vals.length ≠ nVals k then 1
    else if f.names.any (fun s => !isName s) then 4
    else if k = 0 then freeErr y.items (nm f 0) (boxOf f.vals)
    else match look y.items (nm f 0) with
      | none => 3
      | some x => if allowed k x.st = false then 8 else if k = 1 then cutErr y.items x f else if k = 2 then assignErr y.items (nm f 1) else 0
def change (l : List It) (id : ByteArray) (st : Int) (stone : ByteArray) : List It := l.map fun x => if x.id = id then { x with st := st, stone := stone } else x
def zIt : It := ⟨es, es, bZero, 0, es⟩
def applyItems (l : List It) (f : Fact) (k : Nat) : List It :=
  let x := (look l (nm f 0)).getD zIt
  match k with
  | 0 => l ++ [⟨nm f 0, es, boxOf f.vals, 1, es⟩]
  | 1 => change l (nm f 0) 2 es ++ [⟨nm f 1, nm f 0, setHi x.bx (vl f 0) (vl f 1), 1, es⟩] ++ [⟨nm f 2, nm f 0, setLo x.bx (vl f 0) (vl f 1 + vl f 2), 1, es⟩]
  | 2 => change l (nm f 0) 3 (nm f 1)
  | 3 => change l (nm f 0) 1 es
  | 4 => change l (nm f 0) 4 x.stone
  | _ => change l (nm f 0) 5 es
def applyKerfs (y : Yd) (f : Fact) (k : Nat) : Int :=
  if k = 1 then y.kerfs + lost ((look y.items (nm f 0)).getD zIt).bx (vl f 0) (vl f 1) (vl f 2) else y.kerfs
def apply (y : Yd) (f : Fact) : Yd := match kindNo f.kind with
  | none => y
  | some k => ⟨applyItems y.items f k, y.facts ++ [f], applyKerfs y f k⟩
def step (y : Yd) (f : Fact) : Yd := if check y f = 0 then apply y f else y
def yNew : Yd := ⟨[], [], 0⟩

/-! ### what always holds -/
def inside (a b : Bx) : Prop := b.x0 ≤ a.x0 ∧ b.y0 ≤ a.y0 ∧ b.z0 ≤ a.z0 ∧ a.x1 ≤ b.x1 ∧ a.y1 ≤ b.y1 ∧ a.z1 ≤ b.z1
theorem inside_refl (a : Bx) : inside a a := ⟨by omega, by omega, by omega, by omega, by omega, by omega⟩
theorem inside_trans {a b c : Bx} (h : inside a b) (g : inside b c) : inside a c := by unfold inside at *; omega
theorem over_mono {a b a' b' : Bx} (h : inside a a') (g : inside b b') (o : a.over b) : a'.over b' := by unfold inside at *; unfold Bx.over at *; omega
theorem over_symm {a b : Bx} (o : a.over b) : b.over a := by unfold Bx.over at *; omega
theorem overB_iff (a b : Bx) : overB a b = true ↔ a.over b := by unfold overB Bx.over; simp [and_assoc]

def rootVol (l : List It) : Int := sumL (l.map fun x => if x.par = es then x.bx.vol else 0)
def liveVol (l : List It) : Int := sumL (l.map fun x => if x.st = 2 then 0 else x.bx.vol)

structure Inv (y : Yd) : Prop where
  uniq : y.items.Pairwise fun a b => a.id ≠ b.id
  ok : ∀ x ∈ y.items, x.bx.ok
  sts : ∀ x ∈ y.items, 1 ≤ x.st ∧ x.st ≤ 5
  ids : ∀ x ∈ y.items, isName x.id = true
  tree : ∀ x ∈ y.items, x.par ≠ es → ∃ p ∈ y.items, p.id = x.par ∧ p.st = 2 ∧ inside x.bx p.bx
  root : ∀ x ∈ y.items, ∃ r ∈ y.items, r.par = es ∧ inside x.bx r.bx
  disj : y.items.Pairwise fun a b => a.st ≠ 2 → b.st ≠ 2 → ¬ a.bx.over b.bx
  rdis : y.items.Pairwise fun a b => a.par = es → b.par = es → ¬ a.bx.over b.bx
  ston : y.items.Pairwise fun a b => a.stone = es ∨ a.stone ≠ b.stone
  free : ∀ x ∈ y.items, x.stone ≠ es → x.st = 3 ∨ x.st = 4
  held : ∀ x ∈ y.items, x.st = 3 ∨ x.st = 4 → x.stone ≠ es
  sum : rootVol y.items = liveVol y.items + y.kerfs
  pos : 0 ≤ y.kerfs

theorem inv_new : Inv yNew := by
  refine ⟨.nil, ?_, ?_, ?_, ?_, ?_, .nil, .nil, .nil, ?_, ?_, rfl, by decide⟩ <;> intro x hx <;> exact absurd hx List.not_mem_nil

theorem sumL_append (a b : List Int) : sumL (a ++ b) = sumL a + sumL b := by
  induction a with
  | nil => simp [sumL]
  | cons x a ih => rw [List.cons_append, sumL_cons, sumL_cons, ih]; omega

theorem look_some {l : List It} {id : ByteArray} {x : It} (h : look l id = some x) : x ∈ l ∧ x.id = id := by
  unfold look at h
  exact ⟨List.mem_of_find?_eq_some h, by simpa using List.find?_some h⟩

theorem look_none {l : List It} {id : ByteArray} (h : (look l id).isSome = false) : ∀ x ∈ l, x.id ≠ id := by
  unfold look at h
  intro x hx e
  have h1 : l.find? (fun x => decide (x.id = id)) = none := by simpa using h
  have := List.find?_eq_none.1 h1 x hx
  simp [e] at this

theorem uniq_eq {l : List It} (h : l.Pairwise fun a b => a.id ≠ b.id) : ∀ {x z : It}, x ∈ l → z ∈ l → x.id = z.id → x = z := by
  induction l with
  | nil => intro x z hx; exact absurd hx List.not_mem_nil
  | cons a l ih =>
    obtain ⟨h1, h2⟩ := List.pairwise_cons.1 h
    intro x z hx hz e
    rcases List.mem_cons.1 hx with hxa | hxl <;> rcases List.mem_cons.1 hz with hza | hzl
    · rw [hxa, hza]
    · subst hxa; exact absurd e (h1 _ hzl)
    · subst hza; exact absurd e.symm (h1 _ hxl)
    · exact ih h2 hxl hzl e

theorem look_mem {l : List It} (h : l.Pairwise fun a b => a.id ≠ b.id) {x : It} (hx : x ∈ l) : look l x.id = some x := by
  cases e : look l x.id with
  | none => exact absurd rfl (look_none (by rw [e]; rfl) x hx)
  | some z =>
    obtain ⟨h1, h2⟩ := look_some e
    rw [uniq_eq h h1 hx h2]

def upd (id : ByteArray) (st : Int) (stone : ByteArray) (x : It) : It := if x.id = id then { x with st := st, stone := stone } else x
theorem change_eq (l : List It) (id : ByteArray) (st : Int) (stone : ByteArray) : change l id st stone = l.map (upd id st stone) := rfl
theorem upd_id (id : ByteArray) (st : Int) (stone : ByteArray) (x : It) : (upd id st stone x).id = x.id := by unfold upd; split <;> rfl
theorem upd_par (id : ByteArray) (st : Int) (stone : ByteArray) (x : It) : (upd id st stone x).par = x.par := by unfold upd; split <;> rfl
theorem upd_bx (id : ByteArray) (st : Int) (stone : ByteArray) (x : It) : (upd id st stone x).bx = x.bx := by unfold upd; split <;> rfl
theorem upd_yes {id : ByteArray} {st : Int} {stone : ByteArray} {x : It} (h : x.id = id) : (upd id st stone x).st = st ∧ (upd id st stone x).stone = stone := by unfold upd; rw [if_pos h]; exact ⟨rfl, rfl⟩
theorem upd_no {id : ByteArray} {st : Int} {stone : ByteArray} {x : It} (h : x.id ≠ id) : upd id st stone x = x := by unfold upd; rw [if_neg h]

theorem mem_change {l : List It} {id : ByteArray} {st : Int} {stone : ByteArray} {x : It} (h : x ∈ change l id st stone) : ∃ z ∈ l, x = upd id st stone z := by
  rw [change_eq] at h
  obtain ⟨z, hz, e⟩ := List.mem_map.1 h
  exact ⟨z, hz, e.symm⟩

theorem rootVol_change (l : List It) (id : ByteArray) (st : Int) (stone : ByteArray) : rootVol (change l id st stone) = rootVol l := by
  unfold rootVol
  rw [change_eq, List.map_map]
  exact congrArg sumL (List.map_congr_left fun x _ => by simp only [Function.comp]; rw [upd_par, upd_bx])

/-- The live volume behind a change of one item. -/
theorem liveVol_change {l : List It} (h : l.Pairwise fun a b => a.id ≠ b.id) {x : It} (hx : x ∈ l) (st : Int) (stone : ByteArray) :
    liveVol (change l x.id st stone) + (if x.st = 2 then 0 else x.bx.vol) = liveVol l + (if st = 2 then 0 else x.bx.vol) := by
  induction l with
  | nil => exact absurd hx List.not_mem_nil
  | cons a l ih =>
    obtain ⟨h1, h2⟩ := List.pairwise_cons.1 h
    have e : liveVol (change (a :: l) x.id st stone) = (if (upd x.id st stone a).st = 2 then 0 else a.bx.vol) + liveVol (change l x.id st stone) := by
      unfold liveVol
      rw [change_eq, List.map_cons, List.map_cons, sumL_cons, upd_bx]
      rfl
    have e2 : liveVol (a :: l) = (if a.st = 2 then 0 else a.bx.vol) + liveVol l := rfl
    rw [e, e2]
    rcases List.mem_cons.1 hx with rfl | hx
    · have hc : change l x.id st stone = l := by
        rw [change_eq]
        conv => rhs; rw [← List.map_id l]
        exact List.map_congr_left fun z hz => upd_no (fun e => h1 z hz e.symm)
      rw [hc, (upd_yes rfl).1]; omega
    · have hne : a.id ≠ x.id := h1 x hx
      rw [upd_no hne]
      have := ih h2 hx
      omega
end Go.Proofs.YtejhcbbfdfnfdaaGreatDoor.Yp

/- What always holds of the yard. No program. -/
namespace Go.Proofs.YtejhcbbfdfnfdaaGreatDoor.Yp
theorem boxCheck_ok {b : Bx} (h : boxCheck b = 0) : b.ok := by
  unfold boxCheck at h
  split at h
  · exact absurd h (by decide)
  · split at h
    · exact absurd h (by decide)
    · rename_i h1 h2
      simp only [Bool.not_eq_false, Bool.and_eq_true, inR, decide_eq_true_eq] at h1
      simp only [not_or] at h2
      unfold Bx.ok; omega

theorem ok_boxCheck {b : Bx} (h : b.ok) : boxCheck b = 0 := by
  unfold Bx.ok at h
  unfold boxCheck
  rw [if_neg, if_neg]
  · omega
  · simp only [Bool.not_eq_false, Bool.and_eq_true, inR, decide_eq_true_eq]; omega

/-- A possible cut in numbers. -/
structure Cuts (b : Bx) (a p k : Int) : Prop where
  ok : b.ok
  ax : a = 0 ∨ a = 1 ∨ a = 2
  k0 : 0 ≤ k
  k1 : k ≤ 1000
  lo : axLo b a < p
  hi : p < axHi b a - k

theorem kerfCheck_cuts {b : Bx} {a p k : Int} (h : kerfCheck b a p k = 0) : Cuts b a p k := by
  unfold kerfCheck at h
  split at h
  · contradiction
  · split at h
    · exact absurd h (by decide)
    · split at h
      · exact absurd h (by decide)
      · split at h
        · exact absurd h (by decide)
        · rename_i h0 h1 h2 h3
          exact ⟨boxCheck_ok (by omega), by omega, by omega, by omega, by omega, by omega⟩

theorem cut_first {b : Bx} {a p k : Int} (h : Cuts b a p k) : (setHi b a p).ok ∧ inside (setHi b a p) b := by
  obtain ⟨ho, rfl | rfl | rfl, h0, h1, h2, h3⟩ := h <;> simp [axLo, axHi] at h2 h3 <;> simp [setHi, Bx.ok, inside] at * <;> omega

theorem cut_second {b : Bx} {a p k : Int} (h : Cuts b a p k) : (setLo b a (p + k)).ok ∧ inside (setLo b a (p + k)) b := by
  obtain ⟨ho, rfl | rfl | rfl, h0, h1, h2, h3⟩ := h <;> simp [axLo, axHi] at h2 h3 <;> simp [setLo, Bx.ok, inside] at * <;> omega

theorem cut_apart {b : Bx} {a p k : Int} (h : Cuts b a p k) : ¬ (setHi b a p).over (setLo b a (p + k)) := by
  obtain ⟨ho, rfl | rfl | rfl, h0, h1, h2, h3⟩ := h <;> simp [setHi, setLo, Bx.over] <;> intros <;> omega

/-- What is lost: the kerf times the other two sides. -/
def lostOf (b : Bx) (a k : Int) : Int := if a = 0 then k * (b.y1 - b.y0) * (b.z1 - b.z0) else if a = 1 then k * (b.x1 - b.x0) * (b.z1 - b.z0) else k * (b.x1 - b.x0) * (b.y1 - b.y0)

theorem cut_lost {b : Bx} {a p k : Int} (h : Cuts b a p k) : lost b a p k = lostOf b a k := by
  have h0 := h.k0
  unfold lost gone
  by_cases hk : 0 < k
  · rw [if_pos hk]
    rcases h.ax with rfl | rfl | rfl
    · simp only [setHi, setLo, Bx.vol, lostOf, if_true]
      rw [show p + k - p = k by omega]
    · simp [setHi, setLo, Bx.vol, lostOf]
      rw [show p + k - p = k by omega, Int.mul_comm (b.x1 - b.x0)]
    · simp [setHi, setLo, Bx.vol, lostOf]
      rw [show p + k - p = k by omega, Int.mul_comm _ k, Int.mul_assoc]
  · have : k = 0 := by omega
    subst this
    rw [if_neg hk]
    unfold lostOf
    simp [bZero, Bx.vol]

theorem lost_nonneg {b : Bx} {a p k : Int} (h : Cuts b a p k) : 0 ≤ lost b a p k := by
  rw [cut_lost h]
  obtain ⟨ho, ha, h0, _, _, _⟩ := h
  unfold Bx.ok at ho
  unfold lostOf
  split
  · exact Int.mul_nonneg (Int.mul_nonneg h0 (by omega)) (by omega)
  · split
    · exact Int.mul_nonneg (Int.mul_nonneg h0 (by omega)) (by omega)
    · exact Int.mul_nonneg (Int.mul_nonneg h0 (by omega)) (by omega)

theorem cut_vol {b : Bx} {a p k : Int} (h : Cuts b a p k) : b.vol = (setHi b a p).vol + (setLo b a (p + k)).vol + lost b a p k := by
  rw [cut_lost h]
  rcases h.ax with rfl | rfl | rfl
  · simp only [setHi, setLo, Bx.vol, lostOf, if_true]
    rw [← Int.add_mul, ← Int.add_mul, ← Int.add_mul, ← Int.add_mul]
    congr 2; omega
  · simp [setHi, setLo, Bx.vol, lostOf]
    rw [Int.mul_comm k, ← Int.add_mul, ← Int.add_mul, ← Int.mul_add, ← Int.mul_add]
    congr 2; omega
  · simp [setHi, setLo, Bx.vol, lostOf]
    rw [Int.mul_assoc k, Int.mul_comm k, ← Int.mul_add, ← Int.mul_add]
    congr 1; omega

/-! ### one item changes -/
theorem inv_change {y : Yd} (h : Inv y) {x : It} (hx : x ∈ y.items) {s : Int} {t : ByteArray} (fs : List Fact) (h2 : x.st ≠ 2) (hs : s = 1 ∨ s = 3 ∨ s = 4 ∨ s = 5)
    (ht : t = es ∨ ∀ z ∈ y.items, z.id ≠ x.id → z.stone ≠ t) (hf : t ≠ es → s = 3 ∨ s = 4) (hh : s = 3 ∨ s = 4 → t ≠ es) : Inv ⟨change y.items x.id s t, fs, y.kerfs⟩ := by
  have hs2 : s ≠ 2 := by omega
  have stne : ∀ z ∈ y.items, (upd x.id s t z).st = 2 → z.st = 2 ∧ z.id ≠ x.id := by
    intro z hz e
    by_cases c : z.id = x.id
    · rw [(upd_yes c).1] at e; exact absurd e hs2
    · rw [upd_no c] at e; exact ⟨e, c⟩
  have pw : ∀ {R : It → It → Prop} {S : It → It → Prop}, y.items.Pairwise R → (∀ a ∈ y.items, ∀ b ∈ y.items, a.id ≠ b.id → R a b → S (upd x.id s t a) (upd x.id s t b)) → (change y.items x.id s t).Pairwise S := by
    intro R S hR hS
    rw [change_eq, List.pairwise_map]
    have := List.Pairwise.and h.uniq hR
    refine List.Pairwise.imp_of_mem ?_ this
    intro a b ha hb hab
    exact hS a ha b hb hab.1 hab.2
  constructor
  · exact pw h.uniq fun a _ b _ hne _ => by rw [upd_id, upd_id]; exact hne
  · intro z hz
    obtain ⟨q, hq, rfl⟩ := mem_change hz
    rw [upd_bx]; exact h.ok q hq
  · intro z hz
    obtain ⟨q, hq, rfl⟩ := mem_change hz
    by_cases c : q.id = x.id
    · rw [(upd_yes c).1]; omega
    · rw [upd_no c]; exact h.sts q hq
  · intro z hz
    obtain ⟨q, hq, rfl⟩ := mem_change hz
    rw [upd_id]; exact h.ids q hq
  · intro z hz hp
    obtain ⟨q, hq, rfl⟩ := mem_change hz
    rw [upd_par] at hp
    obtain ⟨p, hp1, hp2, hp3, hp4⟩ := h.tree q hq hp
    have hne : p.id ≠ x.id := fun e => h2 (by rw [← uniq_eq h.uniq hp1 hx e]; exact hp3)
    refine ⟨p, ?_, by rw [upd_par]; exact hp2, hp3, by rw [upd_bx]; exact hp4⟩
    rw [change_eq, ← upd_no (st := s) (stone := t) hne]
    exact List.mem_map_of_mem hp1
  · intro z hz
    obtain ⟨q, hq, rfl⟩ := mem_change hz
    obtain ⟨r, hr1, hr2, hr3⟩ := h.root q hq
    exact ⟨upd x.id s t r, by rw [change_eq]; exact List.mem_map_of_mem hr1, by rw [upd_par]; exact hr2, by rw [upd_bx, upd_bx]; exact hr3⟩
  · refine pw h.disj fun a ha b hb _ hR g1 g2 => ?_
    rw [upd_bx, upd_bx]
    have back : ∀ z ∈ y.items, (upd x.id s t z).st ≠ 2 → z.st ≠ 2 := by
      intro z hz g e
      by_cases c : z.id = x.id
      · exact h2 (by rw [← uniq_eq h.uniq hz hx c]; exact e)
      · rw [upd_no c] at g; exact g e
    exact hR (back a ha g1) (back b hb g2)
  · refine pw h.rdis fun a ha b hb _ hR g1 g2 => ?_
    rw [upd_bx, upd_bx]
    rw [upd_par] at g1 g2
    exact hR g1 g2
  · refine pw h.ston fun a ha b hb hne hR => ?_
    by_cases ca : a.id = x.id
    · have cb : b.id ≠ x.id := fun e => hne (ca.trans e.symm)
      rw [(upd_yes ca).2, upd_no cb]
      rcases ht with ht | ht
      · exact .inl ht
      · exact .inr fun e => ht b hb cb e.symm
    · rw [upd_no ca]
      by_cases cb : b.id = x.id
      · rw [(upd_yes cb).2]
        rcases ht with ht | ht
        · by_cases c : a.stone = es
          · exact .inl c
          · exact .inr (by rw [ht]; exact c)
        · exact .inr (ht a ha ca)
      · rw [upd_no cb]; exact hR
  · intro z hz hp
    obtain ⟨q, hq, rfl⟩ := mem_change hz
    by_cases c : q.id = x.id
    · rw [(upd_yes c).1]; rw [(upd_yes c).2] at hp; exact hf hp
    · rw [upd_no c] at hp ⊢; exact h.free q hq hp
  · intro z hz hp
    obtain ⟨q, hq, rfl⟩ := mem_change hz
    by_cases c : q.id = x.id
    · rw [(upd_yes c).2]; rw [(upd_yes c).1] at hp; exact hh hp
    · rw [upd_no c] at hp ⊢; exact h.held q hq hp
  · show rootVol (change y.items x.id s t) = liveVol (change y.items x.id s t) + y.kerfs
    rw [rootVol_change, h.sum]
    have := liveVol_change h.uniq hx s t
    rw [if_neg h2, if_neg hs2] at this
    omega
  · exact h.pos

theorem rootVol_snoc (l : List It) (x : It) : rootVol (l ++ [x]) = rootVol l + (if x.par = es then x.bx.vol else 0) := by
  unfold rootVol; rw [List.map_append, sumL_append]; simp [sumL]
theorem liveVol_snoc (l : List It) (x : It) : liveVol (l ++ [x]) = liveVol l + (if x.st = 2 then 0 else x.bx.vol) := by
  unfold liveVol; rw [List.map_append, sumL_append]; simp [sumL]

theorem pw_snoc {R : It → It → Prop} {l : List It} {x : It} (h : l.Pairwise R) (g : ∀ a ∈ l, R a x) : (l ++ [x]).Pairwise R := by
  rw [List.pairwise_append]
  exact ⟨h, List.pairwise_singleton _ _, fun a ha b hb => by rw [List.mem_singleton.1 hb]; exact g a ha⟩

/-! ### a new block -/
theorem inv_free {y : Yd} (h : Inv y) {id : ByteArray} {b : Bx} (fs : List Fact) (hn : isName id = true) (hid : ∀ x ∈ y.items, x.id ≠ id) (hb : b.ok)
    (ho : ∀ x ∈ y.items, x.par = es → ¬ x.bx.over b) : Inv ⟨y.items ++ [⟨id, es, b, 1, es⟩], fs, y.kerfs⟩ := by
  have mem : ∀ {z : It}, z ∈ y.items ++ [⟨id, es, b, 1, es⟩] → z ∈ y.items ∨ z = ⟨id, es, b, 1, es⟩ := fun hz => by simpa using hz
  constructor
  · exact pw_snoc h.uniq fun a ha => hid a ha
  · intro z hz; rcases mem hz with hz | rfl
    · exact h.ok z hz
    · exact hb
  · intro z hz; rcases mem hz with hz | rfl
    · exact h.sts z hz
    · exact ⟨by simp, by simp⟩
  · intro z hz; rcases mem hz with hz | rfl
    · exact h.ids z hz
    · exact hn
  · intro z hz hp; rcases mem hz with hz | rfl
    · obtain ⟨p, h1, h2⟩ := h.tree z hz hp
      exact ⟨p, List.mem_append_left _ h1, h2⟩
    · exact absurd rfl hp
  · intro z hz; rcases mem hz with hz | rfl
    · obtain ⟨p, h1, h2⟩ := h.root z hz
      exact ⟨p, List.mem_append_left _ h1, h2⟩
    · exact ⟨_, List.mem_append_right _ (List.mem_singleton.2 rfl), rfl, inside_refl _⟩
  · refine pw_snoc h.disj fun a ha _ _ hov => ?_
    obtain ⟨r, r1, r2, r3⟩ := h.root a ha
    exact ho r r1 r2 (over_mono r3 (inside_refl _) hov)
  · exact pw_snoc h.rdis fun a ha g _ => ho a ha g
  · refine pw_snoc h.ston fun a ha => ?_
    by_cases c : a.stone = es
    · exact .inl c
    · exact .inr c
  · intro z hz hp; rcases mem hz with hz | rfl
    · exact h.free z hz hp
    · exact absurd rfl hp
  · intro z hz hp; rcases mem hz with hz | rfl
    · exact h.held z hz hp
    · simp at hp
  · show rootVol (y.items ++ [_]) = liveVol (y.items ++ [_]) + y.kerfs
    rw [rootVol_snoc, liveVol_snoc, h.sum, if_pos rfl, if_neg (by simp)]
    omega
  · exact h.pos

/-! ### a cut -/
theorem inv_cut {y : Yd} (h : Inv y) {x : It} (hx : x ∈ y.items) (hst : x.st = 1) {id1 id2 : ByteArray} {a p k : Int} (fs : List Fact) (hn1 : isName id1 = true) (hn2 : isName id2 = true)
    (h1 : ∀ z ∈ y.items, z.id ≠ id1) (h2 : ∀ z ∈ y.items, z.id ≠ id2) (h12 : id1 ≠ id2) (hc : Cuts x.bx a p k) (hne : x.id ≠ es) :
    Inv ⟨change y.items x.id 2 es ++ [⟨id1, x.id, setHi x.bx a p, 1, es⟩] ++ [⟨id2, x.id, setLo x.bx a (p + k), 1, es⟩], fs, y.kerfs + lost x.bx a p k⟩ := by
  have hst2 : x.st ≠ 2 := by omega
  have hxs : x.stone = es := Decidable.byContradiction fun e => by have := h.free x hx e; omega
  obtain ⟨f1, f2⟩ := cut_first hc
  obtain ⟨s1, s2⟩ := cut_second hc
  have hap := cut_apart hc
  have hux : upd x.id 2 es x ∈ change y.items x.id 2 es := by rw [change_eq]; exact List.mem_map_of_mem hx
  have mem : ∀ {z : It}, z ∈ change y.items x.id 2 es ++ [⟨id1, x.id, setHi x.bx a p, 1, es⟩] ++ [⟨id2, x.id, setLo x.bx a (p + k), 1, es⟩] → (∃ q ∈ y.items, z = upd x.id 2 es q) ∨ z = ⟨id1, x.id, setHi x.bx a p, 1, es⟩ ∨ z = ⟨id2, x.id, setLo x.bx a (p + k), 1, es⟩ := by
    intro z hz
    rw [List.append_assoc, List.mem_append] at hz
    rcases hz with hz | hz
    · exact .inl (mem_change hz)
    · exact .inr (by simpa using hz)
  have inl : ∀ {z : It}, z ∈ y.items → upd x.id 2 es z ∈ change y.items x.id 2 es ++ [⟨id1, x.id, setHi x.bx a p, 1, es⟩] ++ [⟨id2, x.id, setLo x.bx a (p + k), 1, es⟩] := by
    intro z hz
    refine List.mem_append_left _ (List.mem_append_left _ ?_)
    rw [change_eq]; exact List.mem_map_of_mem hz
  have pw : ∀ {R : It → It → Prop} {S : It → It → Prop}, y.items.Pairwise R → (∀ a ∈ y.items, ∀ b ∈ y.items, a.id ≠ b.id → R a b → S (upd x.id 2 es a) (upd x.id 2 es b)) → (change y.items x.id 2 es).Pairwise S := by
    intro R S hR hS
    rw [change_eq, List.pairwise_map]
    refine List.Pairwise.imp_of_mem ?_ (List.Pairwise.and h.uniq hR)
    intro a b ha hb hab
    exact hS a ha b hb hab.1 hab.2
  have pw2 : ∀ {R : It → It → Prop} {S : It → It → Prop}, y.items.Pairwise R → (∀ a ∈ y.items, ∀ b ∈ y.items, a.id ≠ b.id → R a b → S (upd x.id 2 es a) (upd x.id 2 es b)) →
      (∀ q ∈ y.items, S (upd x.id 2 es q) ⟨id1, x.id, setHi x.bx a p, 1, es⟩ ∧ S (upd x.id 2 es q) ⟨id2, x.id, setLo x.bx a (p + k), 1, es⟩) →
      S ⟨id1, x.id, setHi x.bx a p, 1, es⟩ ⟨id2, x.id, setLo x.bx a (p + k), 1, es⟩ → (change y.items x.id 2 es ++ [(⟨id1, x.id, setHi x.bx a p, 1, es⟩ : It)] ++ [(⟨id2, x.id, setLo x.bx a (p + k), 1, es⟩ : It)]).Pairwise S := by
    intro R S hR hS hq hl
    refine pw_snoc (pw_snoc (pw hR hS) fun z hz => ?_) fun z hz => ?_
    · obtain ⟨q, hq1, rfl⟩ := mem_change hz
      exact (hq q hq1).1
    · rcases List.mem_append.1 hz with hz | hz
      · obtain ⟨q, hq1, rfl⟩ := mem_change hz
        exact (hq q hq1).2
      · rw [List.mem_singleton.1 hz]; exact hl
  have st_ne : ∀ q ∈ y.items, (upd x.id 2 es q).st ≠ 2 → q.st ≠ 2 ∧ q.id ≠ x.id := by
    intro q hq g
    by_cases c : q.id = x.id
    · exact absurd (upd_yes c).1 g
    · rw [upd_no c] at g; exact ⟨g, c⟩
  constructor
  · exact pw2 h.uniq (fun a _ b _ hne _ => by rw [upd_id, upd_id]; exact hne) (fun q hq => ⟨by rw [upd_id]; exact h1 q hq, by rw [upd_id]; exact h2 q hq⟩) h12
  · intro z hz
    rcases mem hz with ⟨q, hq, rfl⟩ | rfl | rfl
    · rw [upd_bx]; exact h.ok q hq
    · exact f1
    · exact s1
  · intro z hz
    rcases mem hz with ⟨q, hq, rfl⟩ | rfl | rfl
    · by_cases c : q.id = x.id
      · rw [(upd_yes c).1]; decide
      · rw [upd_no c]; exact h.sts q hq
    · exact ⟨by simp, by simp⟩
    · exact ⟨by simp, by simp⟩
  · intro z hz
    rcases mem hz with ⟨q, hq, rfl⟩ | rfl | rfl
    · rw [upd_id]; exact h.ids q hq
    · exact hn1
    · exact hn2
  · intro z hz hp
    rcases mem hz with ⟨q, hq, rfl⟩ | rfl | rfl
    · rw [upd_par] at hp
      obtain ⟨r, r1, r2, r3, r4⟩ := h.tree q hq hp
      refine ⟨_, inl r1, by rw [upd_id, upd_par]; exact r2, ?_, by rw [upd_bx, upd_bx]; exact r4⟩
      by_cases c : r.id = x.id
      · exact (upd_yes c).1
      · rw [upd_no c]; exact r3
    · exact ⟨_, inl hx, upd_id _ _ _ _, (upd_yes rfl).1, by rw [upd_bx]; exact f2⟩
    · exact ⟨_, inl hx, upd_id _ _ _ _, (upd_yes rfl).1, by rw [upd_bx]; exact s2⟩
  · intro z hz
    rcases mem hz with ⟨q, hq, rfl⟩ | rfl | rfl
    · obtain ⟨r, r1, r2, r3⟩ := h.root q hq
      exact ⟨_, inl r1, by rw [upd_par]; exact r2, by rw [upd_bx, upd_bx]; exact r3⟩
    · obtain ⟨r, r1, r2, r3⟩ := h.root x hx
      exact ⟨_, inl r1, by rw [upd_par]; exact r2, by rw [upd_bx]; exact inside_trans f2 r3⟩
    · obtain ⟨r, r1, r2, r3⟩ := h.root x hx
      exact ⟨_, inl r1, by rw [upd_par]; exact r2, by rw [upd_bx]; exact inside_trans s2 r3⟩
  · refine pw2 h.disj (fun c hc' d hd _ hR g1 g2 => ?_) (fun q hq => ⟨fun g _ => ?_, fun g _ => ?_⟩) (fun _ _ => hap)
    · rw [upd_bx, upd_bx]; exact hR (st_ne c hc' g1).1 (st_ne d hd g2).1
    · obtain ⟨g1, g2⟩ := st_ne q hq g
      rw [upd_bx]
      intro ov
      have := over_mono (inside_refl _) f2 ov
      rcases List.pairwise_iff_forall_sublist.1 h.disj with _
      have sym : ∀ {l : List It}, (l.Pairwise fun a b => a.st ≠ 2 → b.st ≠ 2 → ¬ a.bx.over b.bx) → ∀ u ∈ l, ∀ v ∈ l, u.id ≠ v.id → u.st ≠ 2 → v.st ≠ 2 → ¬ u.bx.over v.bx := by
        intro l hl
        induction l with
        | nil => intro u hu; exact absurd hu List.not_mem_nil
        | cons e l ih =>
          obtain ⟨e1, e2⟩ := List.pairwise_cons.1 hl
          intro u hu v hv huv us vs
          rcases List.mem_cons.1 hu with hu' | hu' <;> rcases List.mem_cons.1 hv with hv' | hv'
          · exact absurd (by rw [hu', hv']) huv
          · rw [hu'] at us ⊢; exact e1 v hv' us vs
          · rw [hv'] at vs ⊢; exact fun o => e1 u hu' vs us (over_symm o)
          · exact ih e2 u hu' v hv' huv us vs
      exact sym h.disj q hq x hx g2 g1 hst2 this
    · obtain ⟨g1, g2⟩ := st_ne q hq g
      rw [upd_bx]
      intro ov
      have := over_mono (inside_refl _) s2 ov
      have sym : ∀ {l : List It}, (l.Pairwise fun a b => a.st ≠ 2 → b.st ≠ 2 → ¬ a.bx.over b.bx) → ∀ u ∈ l, ∀ v ∈ l, u.id ≠ v.id → u.st ≠ 2 → v.st ≠ 2 → ¬ u.bx.over v.bx := by
        intro l hl
        induction l with
        | nil => intro u hu; exact absurd hu List.not_mem_nil
        | cons e l ih =>
          obtain ⟨e1, e2⟩ := List.pairwise_cons.1 hl
          intro u hu v hv huv us vs
          rcases List.mem_cons.1 hu with hu' | hu' <;> rcases List.mem_cons.1 hv with hv' | hv'
          · exact absurd (by rw [hu', hv']) huv
          · rw [hu'] at us ⊢; exact e1 v hv' us vs
          · rw [hv'] at vs ⊢; exact fun o => e1 u hu' vs us (over_symm o)
          · exact ih e2 u hu' v hv' huv us vs
      exact sym h.disj q hq x hx g2 g1 hst2 this
  · refine pw2 h.rdis (fun c _ d _ _ hR g1 g2 => ?_) (fun q _ => ⟨fun _ g => absurd g hne, fun _ g => absurd g hne⟩) (fun g _ => absurd g hne)
    rw [upd_par] at g1 g2
    rw [upd_bx, upd_bx]; exact hR g1 g2
  · refine pw2 h.ston (fun c hc' d hd hcd hR => ?_) (fun q _ => ⟨?_, ?_⟩) (.inl rfl)
    · by_cases cc : c.id = x.id
      · exact .inl (upd_yes cc).2
      · rw [upd_no cc]
        by_cases cd : d.id = x.id
        · rw [(upd_yes cd).2]
          by_cases c' : c.stone = es
          · exact .inl c'
          · exact .inr c'
        · rw [upd_no cd]; exact hR
    · by_cases c' : (upd x.id 2 es q).stone = es
      · exact .inl c'
      · exact .inr c'
    · by_cases c' : (upd x.id 2 es q).stone = es
      · exact .inl c'
      · exact .inr c'
  · intro z hz hp
    rcases mem hz with ⟨q, hq, rfl⟩ | rfl | rfl
    · by_cases c : q.id = x.id
      · exact absurd (upd_yes c).2 hp
      · rw [upd_no c] at hp ⊢; exact h.free q hq hp
    · exact absurd rfl hp
    · exact absurd rfl hp
  · intro z hz hp
    rcases mem hz with ⟨q, hq, rfl⟩ | rfl | rfl
    · by_cases c : q.id = x.id
      · rw [(upd_yes c).1] at hp; simp at hp
      · rw [upd_no c] at hp ⊢; exact h.held q hq hp
    · simp at hp
    · simp at hp
  · show rootVol (_ ++ [_] ++ [_]) = liveVol (_ ++ [_] ++ [_]) + (y.kerfs + _)
    rw [rootVol_snoc, rootVol_snoc, liveVol_snoc, liveVol_snoc, rootVol_change, h.sum, if_neg hne, if_neg hne, if_neg (by simp), if_neg (by simp)]
    have e1 := liveVol_change h.uniq hx 2 es
    rw [if_neg hst2, if_pos rfl] at e1
    have e2 := cut_vol hc
    show liveVol y.items + y.kerfs + 0 + 0 = liveVol (change y.items x.id 2 es) + (setHi x.bx a p).vol + (setLo x.bx a (p + k)).vol + (y.kerfs + lost x.bx a p k)
    omega
  · have := lost_nonneg hc
    have := h.pos
    show 0 ≤ y.kerfs + _
    omega

theorem name_ne {s : ByteArray} (h : isName s = true) : s ≠ es := by
  intro e; subst e; exact absurd h (by decide)

theorem nm_name {f : Fact} {n i : Nat} (hl : f.names.length = n) (ha : ¬ (f.names.any fun s => !isName s) = true) (hi : i < n) : isName (nm f i) = true := by
  unfold nm
  rw [List.getD_eq_getElem?_getD, List.getElem?_eq_getElem (by omega)]
  have hm : f.names[i]'(by omega) ∈ f.names := List.getElem_mem _
  cases e : isName (f.names[i]'(by omega)) with
  | true => exact e
  | false => exact absurd (List.any_eq_true.2 ⟨_, hm, by rw [e]; rfl⟩) ha

theorem isSome_false {o : Option It} (h : ¬ o.isSome = true) : o.isSome = false := by cases o <;> simp at *

theorem inv_step {y : Yd} (h : Inv y) (f : Fact) : Inv (step y f) := by
  unfold step
  split
  · rename_i hc
    unfold check at hc
    unfold apply
    cases hk : kindNo f.kind with
    | none => exact h
    | some k =>
      rw [hk] at hc
      simp only at hc ⊢
      split at hc
      · exact absurd hc (by decide)
      · rename_i hl
        split at hc
        · exact absurd hc (by decide)
        · rename_i ha
          have hl1 : f.names.length = nNames k := Decidable.byContradiction fun e => hl (.inl e)
          split at hc
          · rename_i hk0
            subst hk0
            unfold freeErr at hc
            split at hc
            · exact absurd hc (by decide)
            · rename_i hsome
              split at hc
              · contradiction
              · rename_i hb
                split at hc
                · exact absurd hc (by decide)
                · rename_i hany
                  refine inv_free h _ (nm_name hl1 ha (by decide)) (look_none (isSome_false hsome)) (boxCheck_ok (by omega)) fun x hx hp ov => hany ?_
                  exact List.any_eq_true.2 ⟨x, hx, by rw [decide_eq_true hp, (overB_iff _ _).2 ov]; rfl⟩
          · rename_i hk0
            cases hx : look y.items (nm f 0) with
            | none => rw [hx] at hc; exact absurd hc (by simp)
            | some x =>
              rw [hx] at hc
              simp only at hc
              obtain ⟨hm, hid⟩ := look_some hx
              split at hc
              · exact absurd hc (by decide)
              · rename_i hal
                have hk6 : k < 6 := by
                  unfold kindNo at hk
                  (repeat' split at hk) <;> first | (injection hk with hk; omega) | (exact absurd hk (by simp))
                split at hc
                · rename_i hk1
                  subst hk1
                  have hst : x.st = 1 := by simpa [allowed] using hal
                  unfold cutErr at hc
                  split at hc
                  · exact absurd hc (by decide)
                  · rename_i hd
                    simp only [not_or] at hd
                    have e : applyItems y.items f 1 = change y.items x.id 2 es ++ [⟨nm f 1, x.id, setHi x.bx (vl f 0) (vl f 1), 1, es⟩] ++ [⟨nm f 2, x.id, setLo x.bx (vl f 0) (vl f 1 + vl f 2), 1, es⟩] := by
                      unfold applyItems; rw [hx, hid]; rfl
                    have e2 : applyKerfs y f 1 = y.kerfs + lost x.bx (vl f 0) (vl f 1) (vl f 2) := by unfold applyKerfs; rw [hx]; rfl
                    rw [e, e2]
                    exact inv_cut h hm hst _ (nm_name hl1 ha (by decide)) (nm_name hl1 ha (by decide)) (look_none (isSome_false hd.1)) (look_none (isSome_false hd.2.1)) hd.2.2 (kerfCheck_cuts hc) (name_ne (h.ids x hm))
                · rename_i hk1
                  have e2 : applyKerfs y f k = y.kerfs := by unfold applyKerfs; rw [if_neg hk1]
                  rw [e2]
                  split at hc
                  · rename_i hk2
                    subst hk2
                    have hst : x.st = 1 := by simpa [allowed] using hal
                    have e : applyItems y.items f 2 = change y.items x.id 3 (nm f 1) := by rw [hid]; rfl
                    rw [e]
                    have hn := name_ne (nm_name (i := 1) hl1 ha (by decide))
                    unfold assignErr at hc
                    split at hc
                    · exact absurd hc (by decide)
                    · rename_i hany
                      exact inv_change h hm _ (by omega) (by omega) (.inr fun z hz _ e => hany (List.any_eq_true.2 ⟨z, hz, decide_eq_true e⟩)) (fun _ => .inl rfl) (fun _ => hn)
                  · rename_i hk2
                    have hk' : k = 3 ∨ k = 4 ∨ k = 5 := by omega
                    rcases hk' with rfl | rfl | rfl
                    · have hst : x.st = 3 := by simpa [allowed] using hal
                      have e : applyItems y.items f 3 = change y.items x.id 1 es := by rw [hid]; rfl
                      rw [e]
                      exact inv_change h hm _ (by omega) (by omega) (.inl rfl) (fun g => absurd rfl g) (by omega)
                    · have hst : x.st = 3 := by simpa [allowed] using hal
                      have e : applyItems y.items f 4 = change y.items x.id 4 x.stone := by unfold applyItems; rw [hx, hid]; rfl
                      rw [e]
                      refine inv_change h hm _ (by omega) (by omega) (.inr fun z hz hne e => ?_) (fun _ => .inr rfl) (fun _ => h.held x hm (.inl hst))
                      have key : ∀ {l : List It}, (l.Pairwise fun a b => a.stone = es ∨ a.stone ≠ b.stone) → ∀ u ∈ l, ∀ v ∈ l, u.id ≠ v.id → u.stone = v.stone → v.stone ≠ es → False := by
                        intro l hl
                        induction l with
                        | nil => intro u hu; exact absurd hu List.not_mem_nil
                        | cons q l ih =>
                          obtain ⟨q1, q2⟩ := List.pairwise_cons.1 hl
                          intro u hu v hv huv e hs
                          rcases List.mem_cons.1 hu with hu' | hu' <;> rcases List.mem_cons.1 hv with hv' | hv'
                          · exact huv (by rw [hu', hv'])
                          · rw [hu'] at e; rcases q1 v hv' with c | c
                            · exact hs (e ▸ c)
                            · exact c e
                          · rw [hv'] at e hs; rcases q1 u hu' with c | c
                            · exact hs c
                            · exact c e.symm
                          · exact ih q2 u hu' v hv' huv e hs
                      exact key h.ston z hz x hm hne e (h.held x hm (.inl hst))
                    · have hst : x.st = 1 ∨ x.st = 3 := by simp [allowed] at hal; omega
                      have e : applyItems y.items f 5 = change y.items x.id 5 es := by rw [hid]; rfl
                      rw [e]
                      exact inv_change h hm _ (by omega) (by omega) (.inl rfl) (fun g => absurd rfl g) (by omega)
  · exact h
end Go.Proofs.YtejhcbbfdfnfdaaGreatDoor.Yp
