/- An abstract machine for loaded programs, part 1: what it computes is what Go computes. Conditions: none. -/
import Derived.ProofKit
import Derived.WalkKit
import Derived.Laws.Cover4
/- The abstract machine's values, and how they stand for Go's: structs and arrays as trees, slices that nobody writes to as lists, blocks that are written to by number. -/
namespace Go.Vm
set_option linter.unusedVariables false

/-- A value of the abstract machine. -/
inductive V where
  /-- one cell, just this value -/
  | s (x : Value)
  /-- a pointer into a block of the heap: block, path (element, then fields), how many elements the block had -/
  | ptr (id : Nat) (path : List Nat) (tot : Nat)
  /-- a slice of a block of the heap, or of an array in it; g: the kind of its elements -/
  | ref (id : Nat) (path : List Nat) (g : Option Nat) (off len tot : Nat)
  /-- a slice of memory that is never written again; full: it has no spare room; g: the kind of its elements -/
  | imm (full : Bool) (g : Option Nat) (es : List V)
  /-- a pointer into memory that is never written again -/
  | iptr (v : V)
  | st (t : Nat) (fs : List V)
  | arr (t : Nat) (es : List V)
  | tup (vs : List V)
  | iface (t : Nat) (v : V)
  | fn (f : Nat) (cap : List V)
  /-- a map: its block of the heap -/
  | mp (id : Nat)
  | top
  deriving Inhabited

/-- The aggregate type of a value; none: one cell. -/
def V.ty : V → Option Nat
  | .st t _ => some t
  | .arr t _ => some t
  | _ => none

/-- It can lie in memory: an aggregate, or one cell. -/
def V.solid : V → Bool
  | .tup _ => false
  | .top => false
  | _ => true

/-- The layout of aggregate types (by the number of their underlying type). -/
structure Lay where
  size : Nat → Nat
  fields : Nat → Option (List (Option Nat))
  arr : Nat → Option (Nat × Option Nat)

def Lay.csz (L : Lay) : Option Nat → Nat
  | some t => L.size t
  | none => 1

/-- The layout's sums are right. -/
structure Lay.OK (L : Lay) : Prop where
  st : ∀ t fs, L.fields t = some fs → L.size t = (fs.map L.csz).sum
  ar : ∀ t n e, L.arr t = some (n, e) → L.size t = n * L.csz e
  no : ∀ t r, L.arr t = some r → L.fields t = none

/-- Where a path leads: the offset in cells, and what is there. -/
def Lay.walk (L : Lay) : Option Nat → List Nat → Option (Nat × Option Nat)
  | g, [] => some (0, g)
  | none, _ :: _ => none
  | some t, i :: p =>
    match L.fields t with
    | some fs => match fs[i]? with
      | some g => (L.walk g p).map fun r => (((fs.take i).map L.csz).sum + r.1, r.2)
      | none => none
    | none => match L.arr t with
      | some (n, e) => if i < n then (L.walk e p).map fun r => (i * L.csz e + r.1, r.2) else none
      | none => none

/-- The row that a path leads to: its offset, the kind of its elements, how many an array has. -/
def Lay.row (L : Lay) (g : Option Nat) : List Nat → Option (Nat × Option Nat × Option Nat)
  | [] => some (0, g, none)
  | i :: p => match L.walk g p with
    | some (o, some t) => (L.arr t).map fun r => (i * L.csz g + o, r.2, some r.1)
    | _ => none

/-- The offset of a path in a block whose elements are of a kind. -/
def Lay.off (L : Lay) (g : Option Nat) : List Nat → Option Nat
  | [] => some 0
  | i :: p => (L.walk g p).map fun r => i * L.csz g + r.1

/-- Where a block of the machine's heap lies: the block of Go's memory, its room in elements, the kind of its elements, how many there are. -/
structure Loc where
  blk : Nat
  cap : Nat
  tag : Option Nat
  tot : Nat

structure Ctx where
  /-- blocks that are never written again -/
  z : Nat → Option Obj
  /-- where the heap's blocks lie -/
  loc : Nat → Option Loc
  /-- how many blocks the heap has -/
  n : Nat

def seg (cs : Array Value) (off n : Nat) : List Value := (cs.toList.drop off).take n

/-- A value as one of Go's: an aggregate is its cells; any other is its one cell. -/
def wr : V → List Value → Value → Prop
  | .st _ _, us, u => u = .agg us.toArray
  | .arr _ _, us, u => u = .agg us.toArray
  | _, us, u => us = [u]

/-- The room of a slice: of a block's own row; of an array. -/
def roomR (m : Option Nat) (off len tot k cap : Nat) : Prop :=
  match m with
  | none => off + len ≤ tot ∧ tot ≤ off + k ∧ off + k ≤ cap
  | some n => off + k = n

section
variable (L : Lay) (c : Ctx)
mutual
/-- The cells that stand for a value. -/
def RC : V → List Value → Prop
  | .s x, us => us = [x] ∧ x.oneCell' = true
  | .ptr id path tot, us => ∃ a, us = [.pointer (some a)] ∧ id < c.n ∧
      ∀ l, c.loc id = some l → tot ≤ l.tot ∧ (l.tot = tot → ∃ o, L.off l.tag path = some o ∧ a = ⟨l.blk, o, none⟩)
  | .ref id path g off len tot, us => ∃ a k, us = [.slice (some a) len k] ∧ id < c.n ∧ len ≤ k ∧
      ∀ l, c.loc id = some l → tot ≤ l.tot ∧ (l.tot = tot → ∃ o m, L.row l.tag path = some (o, g, m) ∧ a = ⟨l.blk, o + off * L.csz g, none⟩ ∧ roomR m off len tot k l.cap)
  | .imm full g es, us => ∃ a k, us = [.slice a es.length k] ∧ es.length ≤ k ∧ (full = true → k = es.length) ∧ (∀ e ∈ es, e.ty = g ∧ e.solid = true) ∧
      (es = [] ∨ ∃ b off cs ty fz, a = some ⟨b, off, none⟩ ∧ c.z b = some (.cells cs ty fz) ∧ RCs es (seg cs off (es.length * L.csz g)))
  | .iptr v, us => ∃ b off cs ty fz, us = [.pointer (some ⟨b, off, none⟩)] ∧ c.z b = some (.cells cs ty fz) ∧ RC v (seg cs off (L.csz v.ty))
  | .st t fs, us => RCs fs us ∧ L.fields t = some (fs.map V.ty) ∧ ∀ f ∈ fs, f.solid = true
  | .arr t es, us => RCs es us ∧ ∃ e, L.arr t = some (es.length, e) ∧ ∀ x ∈ es, x.ty = e ∧ x.solid = true
  | .tup vs, us => ∃ ws : List Value, us = [.tuple ws.toArray] ∧ RW vs ws
  | .iface t v, us => ∃ u us', us = [.iface t u] ∧ RC v us' ∧ wr v us' u
  | .fn f cap, us => ∃ ws : List Value, us = [.func (.func f) #[] ws.toArray] ∧ RW cap ws
  | .mp id, us => ∃ b, us = [.map (some b)] ∧ id < c.n ∧ ∀ l, c.loc id = some l → l.tot = 0 → b = l.blk
  | .top, us => ∃ u, us = [u]
def RCs : List V → List Value → Prop
  | [], us => us = []
  | v :: vs, us => ∃ u1 u2, us = u1 ++ u2 ∧ RC v u1 ∧ RCs vs u2
def RW : List V → List Value → Prop
  | [], us => us = []
  | v :: vs, us => ∃ u us', us = u :: us' ∧ (∃ u1, RC v u1 ∧ wr v u1 u) ∧ RW vs us'
end

/-- A value stands for one of Go's. -/
def RV (v : V) (u : Value) : Prop := ∃ us, RC L c v us ∧ wr v us u
end
end Go.Vm
/- What the relation between the abstract machine's values and Go's gives: lengths, growth, parts of lists. -/
namespace Go.Vm
set_option linter.unusedVariables false
variable {L : Lay} {c c' : Ctx}

theorem RCs_length_of (hL : L.OK) {vs : List V} (ih : ∀ v ∈ vs, ∀ us, RC L c v us → us.length = L.csz v.ty) : ∀ us, RCs L c vs us → us.length = (vs.map fun v => L.csz v.ty).sum := by
  induction vs with
  | nil => intro us h; simp [RCs] at h; simp [h]
  | cons v vs iv =>
    intro us h
    simp only [RCs] at h
    obtain ⟨u1, u2, rfl, h1, h2⟩ := h
    have := ih v (by simp) u1 h1
    have := iv (fun x hx => ih x (by simp [hx])) u2 h2
    simp; omega

theorem sum_const {α : Type} (l : List α) (f : α → Nat) (k : Nat) (h : ∀ x ∈ l, f x = k) : (l.map f).sum = l.length * k := by
  induction l with
  | nil => simp
  | cons a l ih => simp [ih (fun x hx => h x (by simp [hx])), h a (by simp), Nat.add_mul]; omega

theorem RC_length (hL : L.OK) : ∀ (v : V) (us : List Value), RC L c v us → us.length = L.csz v.ty := by
  intro v
  induction v using V.rec (motive_2 := fun vs => ∀ v ∈ vs, ∀ us, RC L c v us → us.length = L.csz v.ty) with
  | s x => intro us h; simp only [RC] at h; simp [h.1, V.ty, Lay.csz]
  | ptr => intro us h; simp only [RC] at h; obtain ⟨a, h, _⟩ := h; simp [h, V.ty, Lay.csz]
  | ref => intro us h; simp only [RC] at h; obtain ⟨a, k, h, _⟩ := h; simp [h, V.ty, Lay.csz]
  | imm => intro us h; simp only [RC] at h; obtain ⟨a, k, h, _⟩ := h; simp [h, V.ty, Lay.csz]
  | iptr => intro us h; simp only [RC] at h; obtain ⟨_, _, _, _, _, h, _⟩ := h; simp [h, V.ty, Lay.csz]
  | st t fs ih =>
    intro us h
    simp only [RC] at h
    obtain ⟨h, hf, _⟩ := h
    rw [RCs_length_of hL ih us h]
    simp [V.ty, Lay.csz, hL.st _ _ hf, List.map_map]
    rfl
  | arr t es ih =>
    intro us h
    simp only [RC] at h
    obtain ⟨h, e, ha, he⟩ := h
    rw [RCs_length_of hL ih us h, sum_const es _ (L.csz e) (fun x hx => by rw [(he x hx).1])]
    simp [V.ty, Lay.csz, hL.ar _ _ _ ha]
  | tup => intro us h; simp only [RC] at h; obtain ⟨ws, h, _⟩ := h; simp [h, V.ty, Lay.csz]
  | iface => intro us h; simp only [RC] at h; obtain ⟨u, us', h, _⟩ := h; simp [h, V.ty, Lay.csz]
  | fn => intro us h; simp only [RC] at h; obtain ⟨ws, h, _⟩ := h; simp [h, V.ty, Lay.csz]
  | mp => intro us h; simp only [RC] at h; obtain ⟨b, h, _⟩ := h; simp [h, V.ty, Lay.csz]
  | top => intro us h; simp only [RC] at h; obtain ⟨u, h⟩ := h; simp [h, V.ty, Lay.csz]
  | nil => rename_i hv _ _; exact absurd hv (by simp)
  | cons v vs h1 h2 =>
    rename_i x hx us h
    rcases List.mem_cons.1 hx with rfl | hx
    · exact h1 us h
    · exact h2 x hx us h

theorem RCs_length (hL : L.OK) {vs : List V} {us : List Value} (h : RCs L c vs us) : us.length = (vs.map fun v => L.csz v.ty).sum :=
  RCs_length_of hL (fun v _ => RC_length hL v) us h

theorem RCs_length_uniform (hL : L.OK) {vs : List V} {us : List Value} {g : Option Nat} (h : RCs L c vs us) (hg : ∀ e ∈ vs, e.ty = g) : us.length = vs.length * L.csz g := by
  rw [RCs_length hL h]
  exact sum_const _ _ _ (fun x hx => by rw [hg x hx])

theorem RCs_append {a b : List V} {us : List Value} : RCs L c (a ++ b) us ↔ ∃ u1 u2, us = u1 ++ u2 ∧ RCs L c a u1 ∧ RCs L c b u2 := by
  induction a generalizing us with
  | nil => exact ⟨fun h => ⟨[], us, rfl, by simp [RCs], h⟩, fun ⟨u1, u2, h1, h2, h3⟩ => by simp only [RCs] at h2; subst h2; subst h1; exact h3⟩
  | cons v vs ih =>
    simp only [List.cons_append, RCs]
    constructor
    · rintro ⟨u1, u2, rfl, h1, h2⟩
      obtain ⟨x, y, rfl, h3, h4⟩ := ih.1 h2
      exact ⟨u1 ++ x, y, by simp, ⟨u1, x, rfl, h1, h3⟩, h4⟩
    · rintro ⟨_, u2, rfl, ⟨u1, x, rfl, h1, h3⟩, h4⟩
      exact ⟨u1, x ++ u2, by simp, h1, ih.2 ⟨x, u2, rfl, h3, h4⟩⟩

/-- The cells of an element. -/
theorem RCs_get (hL : L.OK) {vs : List V} {us : List Value} (h : RCs L c vs us) {i : Nat} {v : V} (hi : vs[i]? = some v) :
    RC L c v ((us.drop ((vs.take i).map fun v => L.csz v.ty).sum).take (L.csz v.ty)) := by
  induction vs generalizing us i with
  | nil => simp at hi
  | cons x xs ih =>
    simp only [RCs] at h
    obtain ⟨u1, u2, rfl, h1, h2⟩ := h
    have hlen := RC_length hL x u1 h1
    cases i with
    | zero =>
      simp at hi; subst hi
      simpa [← hlen] using h1
    | succ i =>
      simp at hi
      have := ih h2 hi
      simp only [List.take_succ_cons, List.map_cons, List.sum_cons, ← hlen]
      rw [← List.drop_drop, List.drop_left]
      exact this

theorem sum_take_le {α : Type} (f : α → Nat) : ∀ (l : List α) (i : Nat) (v : α), l[i]? = some v → ((l.take i).map f).sum + f v ≤ (l.map f).sum
  | [], i, v, h => by simp at h
  | x :: xs, 0, v, h => by simp at h; subst h; simp
  | x :: xs, i + 1, v, h => by
    have := sum_take_le f xs i v (by simpa using h)
    simp only [List.take_succ_cons, List.map_cons, List.sum_cons]; omega

theorem RCs_get_le (hL : L.OK) {vs : List V} {us : List Value} (h : RCs L c vs us) {i : Nat} {v : V} (hi : vs[i]? = some v) :
    ((vs.take i).map fun v => L.csz v.ty).sum + L.csz v.ty ≤ us.length := by
  rw [RCs_length hL h]
  exact sum_take_le (fun v => L.csz v.ty) vs i v hi

theorem sum_take_const {α : Type} (l : List α) (f : α → Nat) (k i : Nat) (h : ∀ x ∈ l, f x = k) (hi : i ≤ l.length) : ((l.take i).map f).sum = i * k := by
  rw [sum_const _ f k (fun x hx => h x (List.mem_of_mem_take hx))]
  simp [Nat.min_eq_left hi]

theorem RCs_get_uniform (hL : L.OK) {vs : List V} {us : List Value} {g : Option Nat} (h : RCs L c vs us) (hg : ∀ e ∈ vs, e.ty = g) {i : Nat} {v : V} (hi : vs[i]? = some v) :
    RC L c v ((us.drop (i * L.csz g)).take (L.csz g)) := by
  have hv : v.ty = g := hg v (List.mem_of_getElem? hi)
  have hlt : i < vs.length := (List.getElem?_eq_some_iff.1 hi).1
  have := RCs_get hL h hi
  rw [sum_take_const vs _ (L.csz g) i (fun x hx => by rw [hg x hx]) (by omega), hv] at this
  exact this

theorem RCs_get_uniform_le (hL : L.OK) {vs : List V} {us : List Value} {g : Option Nat} (h : RCs L c vs us) (hg : ∀ e ∈ vs, e.ty = g) {i : Nat} {v : V} (hi : vs[i]? = some v) :
    i * L.csz g + L.csz g ≤ us.length := by
  rw [RCs_length_uniform hL h hg]
  have hlt : i < vs.length := (List.getElem?_eq_some_iff.1 hi).1
  have : (i + 1) * L.csz g ≤ vs.length * L.csz g := Nat.mul_le_mul_right _ (by omega)
  rw [Nat.add_mul] at this; omega

theorem RCs_take (hL : L.OK) {vs : List V} {us : List Value} {g : Option Nat} (h : RCs L c vs us) (hg : ∀ e ∈ vs, e.ty = g) (i : Nat) (hi : i ≤ vs.length) :
    RCs L c (vs.take i) (us.take (i * L.csz g)) ∧ RCs L c (vs.drop i) (us.drop (i * L.csz g)) := by
  have h' := h
  rw [← List.take_append_drop i vs] at h'
  obtain ⟨u1, u2, rfl, h1, h2⟩ := RCs_append.1 h'
  have hl := RCs_length_uniform hL h1 (fun e he => hg e (List.mem_of_mem_take he))
  rw [List.length_take, Nat.min_eq_left hi] at hl
  rw [← hl, List.take_left, List.drop_left]
  exact ⟨h1, h2⟩

/-- A part of the elements. -/
theorem RCs_sub (hL : L.OK) {vs : List V} {us : List Value} {g : Option Nat} (h : RCs L c vs us) (hg : ∀ e ∈ vs, e.ty = g) (i n : Nat) (hi : i + n ≤ vs.length) :
    RCs L c ((vs.drop i).take n) ((us.drop (i * L.csz g)).take (n * L.csz g)) := by
  have h1 := (RCs_take hL h hg i (by omega)).2
  exact (RCs_take hL h1 (fun e he => hg e (List.mem_of_mem_drop he)) n (by simp; omega)).1

/-- c' is later than c. -/
structure Ctx.le (c c' : Ctx) : Prop where
  z : ∀ b o, c.z b = some o → c'.z b = some o
  n : c.n ≤ c'.n
  loc : ∀ id l', id < c.n → c'.loc id = some l' → ∃ l, c.loc id = some l ∧ l.tag = l'.tag ∧ l.tot ≤ l'.tot ∧ (l.tot = l'.tot → l'.blk = l.blk ∧ l'.cap = l.cap)

/-- As later as values see it: blocks that are only held back do not count. -/
structure Ctx.lev (c c' : Ctx) : Prop where
  z : ∀ b cs ty fz, c.z b = some (.cells cs ty fz) → c'.z b = some (.cells cs ty fz)
  n : c.n ≤ c'.n
  loc : ∀ id l', id < c.n → c'.loc id = some l' → ∃ l, c.loc id = some l ∧ l.tag = l'.tag ∧ l.tot ≤ l'.tot ∧ (l.tot = l'.tot → l'.blk = l.blk ∧ l'.cap = l.cap)
theorem Ctx.le.lev (h : c.le c') : c.lev c' := ⟨fun b cs ty fz hb => h.z b _ hb, h.n, h.loc⟩

theorem Ctx.le_refl (c : Ctx) : c.le c := ⟨fun _ _ h => h, Nat.le_refl _, fun _ l _ h => ⟨l, h, rfl, Nat.le_refl _, fun _ => ⟨rfl, rfl⟩⟩⟩

theorem Ctx.le.trans {a b d : Ctx} (h : a.le b) (h' : b.le d) : a.le d where
  z b o hb := h'.z _ _ (h.z _ _ hb)
  n := Nat.le_trans h.n h'.n
  loc id l'' hid hl := by
    obtain ⟨l', h1, h2, h3, h4⟩ := h'.loc id l'' (Nat.lt_of_lt_of_le hid h.n) hl
    obtain ⟨l, k1, k2, k3, k4⟩ := h.loc id l' hid h1
    refine ⟨l, k1, k2.trans h2, Nat.le_trans k3 h3, fun e => ?_⟩
    obtain ⟨x, y⟩ := h4 (by omega)
    obtain ⟨x', y'⟩ := k4 (by omega)
    exact ⟨x.trans x', y.trans y'⟩

theorem mono_aux (hle : c.lev c') : ∀ v : V, (∀ us, RC L c v us → RC L c' v us) := by
  intro v
  induction v using V.rec (motive_2 := fun vs => (∀ us, RCs L c vs us → RCs L c' vs us) ∧ (∀ us, RW L c vs us → RW L c' vs us)) with
  | s x => intro us h; simpa only [RC] using h
  | ptr id path tot =>
    intro us h; simp only [RC] at h ⊢
    obtain ⟨a, h, hid, hl⟩ := h
    refine ⟨a, h, Nat.lt_of_lt_of_le hid hle.n, fun l' hl' => ?_⟩
    obtain ⟨l, h1, h2, h3, h4⟩ := hle.loc id l' hid hl'
    obtain ⟨k1, k2⟩ := hl l h1
    refine ⟨Nat.le_trans k1 h3, fun e => ?_⟩
    have e1 : l.tot = tot := by omega
    obtain ⟨o, ho, ha⟩ := k2 e1
    obtain ⟨x, _⟩ := h4 (by omega)
    exact ⟨o, by rw [← h2]; exact ho, by rw [x]; exact ha⟩
  | ref id path g off len tot =>
    intro us h; simp only [RC] at h ⊢
    obtain ⟨a, k, h, hid, hlk, hl⟩ := h
    refine ⟨a, k, h, Nat.lt_of_lt_of_le hid hle.n, hlk, fun l' hl' => ?_⟩
    obtain ⟨l, h1, h2, h3, h4⟩ := hle.loc id l' hid hl'
    obtain ⟨k1, k2⟩ := hl l h1
    refine ⟨Nat.le_trans k1 h3, fun e => ?_⟩
    have e1 : l.tot = tot := by omega
    obtain ⟨o, m, hr, ha, hm⟩ := k2 e1
    obtain ⟨x, y⟩ := h4 (by omega)
    refine ⟨o, m, by rw [← h2]; exact hr, by rw [x]; exact ha, ?_⟩
    rw [y]; exact hm
  | imm full g es ih =>
    intro us h; simp only [RC] at h ⊢
    obtain ⟨a, k, h, h1, h2, h3, h4⟩ := h
    refine ⟨a, k, h, h1, h2, h3, ?_⟩
    rcases h4 with h4 | ⟨b, off, cs, ty, fz, ha, hz, hr⟩
    · exact .inl h4
    · exact .inr ⟨b, off, cs, ty, fz, ha, hle.z _ _ _ _ hz, ih.1 _ hr⟩
  | iptr v ih =>
    intro us h; simp only [RC] at h ⊢
    obtain ⟨b, off, cs, ty, fz, h, hz, hr⟩ := h
    exact ⟨b, off, cs, ty, fz, h, hle.z _ _ _ _ hz, ih _ hr⟩
  | st t fs ih => intro us h; simp only [RC] at h ⊢; exact ⟨ih.1 _ h.1, h.2⟩
  | arr t es ih => intro us h; simp only [RC] at h ⊢; exact ⟨ih.1 _ h.1, h.2⟩
  | tup vs ih => intro us h; simp only [RC] at h ⊢; obtain ⟨ws, h1, h2⟩ := h; exact ⟨ws, h1, ih.2 _ h2⟩
  | iface t v ih => intro us h; simp only [RC] at h ⊢; obtain ⟨u, us', h1, h2, h3⟩ := h; exact ⟨u, us', h1, ih _ h2, h3⟩
  | fn f cap ih => intro us h; simp only [RC] at h ⊢; obtain ⟨ws, h1, h2⟩ := h; exact ⟨ws, h1, ih.2 _ h2⟩
  | mp id =>
    intro us h; simp only [RC] at h ⊢
    obtain ⟨b, h, hid, hl⟩ := h
    refine ⟨b, h, Nat.lt_of_lt_of_le hid hle.n, fun l' hl' h0 => ?_⟩
    obtain ⟨l, h1, h2, h3, h4⟩ := hle.loc id l' hid hl'
    rw [hl l h1 (by omega), (h4 (by omega)).1]
  | top => intro us h; simpa only [RC] using h
  | nil => exact ⟨fun us h => by simpa only [RCs] using h, fun us h => by simpa only [RW] using h⟩
  | cons v vs h1 h2 =>
    refine ⟨fun us h => ?_, fun us h => ?_⟩
    · simp only [RCs] at h ⊢
      obtain ⟨u1, u2, rfl, k1, k2⟩ := h
      exact ⟨u1, u2, rfl, h1 _ k1, h2.1 _ k2⟩
    · simp only [RW] at h ⊢
      obtain ⟨u, us', rfl, ⟨u1, k1, k2⟩, k3⟩ := h
      exact ⟨u, us', rfl, ⟨u1, h1 _ k1, k2⟩, h2.2 _ k3⟩

theorem RC.monov (hle : c.lev c') {v : V} {us : List Value} (h : RC L c v us) : RC L c' v us := mono_aux hle v us h
theorem RC.mono (hle : c.le c') {v : V} {us : List Value} (h : RC L c v us) : RC L c' v us := h.monov hle.lev
theorem RV.monov (hle : c.lev c') {v : V} {u : Value} (h : RV L c v u) : RV L c' v u := let ⟨us, h1, h2⟩ := h; ⟨us, h1.monov hle, h2⟩
theorem RV.mono (hle : c.le c') {v : V} {u : Value} (h : RV L c v u) : RV L c' v u := let ⟨us, h1, h2⟩ := h; ⟨us, h1.mono hle, h2⟩
theorem RCs.monov (hle : c.lev c') {vs : List V} : ∀ {us : List Value}, RCs L c vs us → RCs L c' vs us := by
  induction vs with
  | nil => intro us h; simpa only [RCs] using h
  | cons v vs ih =>
    intro us h; simp only [RCs] at h ⊢
    obtain ⟨u1, u2, rfl, k1, k2⟩ := h
    exact ⟨u1, u2, rfl, k1.monov hle, ih k2⟩


theorem RCs.mono (hle : c.le c') {vs : List V} : ∀ {us : List Value}, RCs L c vs us → RCs L c' vs us := fun h => RCs.monov hle.lev h

theorem RV_leaf {v : V} {u : Value} (hv : v.ty = none) : RV L c v u ↔ RC L c v [u] := by
  cases v <;> first
    | (simp [V.ty] at hv; done)
    | exact ⟨fun ⟨us, h1, h2⟩ => by simp only [wr] at h2; rw [← h2]; exact h1, fun h => ⟨[u], h, rfl⟩⟩

theorem RV_agg {v : V} {u : Value} {t : Nat} (hv : v.ty = some t) : RV L c v u ↔ ∃ us, u = .agg us.toArray ∧ RC L c v us := by
  cases v <;> first
    | (simp [V.ty] at hv; done)
    | exact ⟨fun ⟨us, h1, h2⟩ => ⟨us, h2, h1⟩, fun ⟨us, h1, h2⟩ => ⟨us, h2, h1⟩⟩

end Go.Vm
/- The abstract machine: its heap, its operations, its code, its runs. A run is a plain function: no tape, no capacities, no orders. -/
namespace Go.Vm
set_option linter.unusedVariables false

inductive Blk where
  | cells (tag : Option Nat) (es : List V)
  | siter (s : ByteArray) (pos : Nat)
  /-- a map: keys, values, when each was born; the clock -/
  | map (es : List (V × V × Nat)) (clock : Nat)
  /-- a row without spare room that is only frozen -/
  | lit (tag : Option Nat) (es : List V)
  | dead
  deriving Inhabited

abbrev Hp := List Blk
abbrev Fr := List V

def Blk.tag : Blk → Option Nat
  | .cells g _ => g
  | _ => none
def Blk.tot : Blk → Nat
  | .cells _ es => es.length
  | _ => 0

/-- An operand. -/
inductive X where
  | t (n : Nat)
  | c (v : V)
  deriving Inhabited

def X.ev (fr : Fr) : X → V
  | .t n => fr.getD n (.tup [])
  | .c v => v

/-- It holds no number of a block. -/
def V.ground : V → Bool
  | .s _ => true
  | .ptr _ _ _ => false
  | .ref _ _ _ _ _ _ => false
  | .imm _ _ es => all es
  | .iptr v => v.ground
  | .st _ fs => all fs
  | .arr _ es => all es
  | .tup vs => all vs
  | .iface _ v => v.ground
  | .fn _ vs => all vs
  | .mp _ => false
  | .top => false
where all : List V → Bool
  | [] => true
  | v :: vs => v.ground && all vs

/-- What a path leads to. -/
def nodeAt : List Nat → V → Option V
  | [], v => some v
  | i :: p, .st _ fs => match fs[i]? with | some v => nodeAt p v | none => none
  | i :: p, .arr _ es => match es[i]? with | some v => nodeAt p v | none => none
  | _ :: _, _ => none

/-- Another thing at a path. -/
def putAt (y : V) : List Nat → V → Option V
  | [], _ => some y
  | i :: p, .st t fs => match fs[i]? with | some v => (putAt y p v).map fun v' => .st t (fs.set i v') | none => none
  | i :: p, .arr t es => match es[i]? with | some v => (putAt y p v).map fun v' => .arr t (es.set i v') | none => none
  | _ :: _, _ => none

/-- The elements of a block that has as many as it is said to have. -/
def rowOf (h : Hp) (id tot : Nat) : Option (Option Nat × List V) :=
  match h[id]? with
  | some (.cells g es) => if es.length = tot then some (g, es) else none
  | _ => none

/-- What stands at an address. -/
def node (h : Hp) (id : Nat) (path : List Nat) (tot : Nat) : Option V :=
  match rowOf h id tot, path with
  | some (_, es), i :: p => match es[i]? with | some v => nodeAt p v | none => none
  | _, _ => none

/-- The row that a slice is of: a block's own, or an array that stands in it. -/
def rowAt (h : Hp) (id : Nat) (path : List Nat) (tot : Nat) : Option (List V) :=
  match path with
  | [] => (rowOf h id tot).map (·.2)
  | _ => match node h id path tot with | some (.arr _ es) => some es | _ => none

/-- A store. -/
def store (h : Hp) (id : Nat) (path : List Nat) (tot : Nat) (y : V) : Option Hp :=
  match rowOf h id tot, path with
  | some (g, es), i :: p => match es[i]? with
    | some v => (putAt y p v).map fun v' => h.set id (.cells g (es.set i v'))
    | none => none
  | _, _ => none

/-- The elements of a slice. -/
def elems (h : Hp) : V → Option (Option Nat × List V)
  | .imm _ g es => some (g, es)
  | .ref id path g off len tot => (rowAt h id path tot).map fun es => (g, (es.drop off).take len)
  | _ => none

def intBin (op : BinOp) (k : IntKind) (a b : Int) : Option Value :=
  match op with
  | .add => some (.int k (k.wrap (a + b)))
  | .sub => some (.int k (k.wrap (a - b)))
  | .mul => some (.int k (k.wrap (a * b)))
  | .quo => if b = 0 then none else some (.int k (k.wrap (a.tdiv b)))
  | .rem => if b = 0 then none else some (.int k (a.tmod b))
  | .and => some (.int k (k.wrap (BitVec.ofInt k.bits a &&& BitVec.ofInt k.bits b).toNat))
  | .or => some (.int k (k.wrap (BitVec.ofInt k.bits a ||| BitVec.ofInt k.bits b).toNat))
  | .xor => some (.int k (k.wrap (BitVec.ofInt k.bits a ^^^ BitVec.ofInt k.bits b).toNat))
  | .andNot => some (.int k (k.wrap (BitVec.ofInt k.bits a &&& ~~~(BitVec.ofInt k.bits b)).toNat))
  | .eql => some (.bool (a == b))
  | .neq => some (.bool (a != b))
  | .lss => some (.bool (decide (a < b)))
  | .leq => some (.bool (decide (a ≤ b)))
  | .gtr => some (.bool (decide (b < a)))
  | .geq => some (.bool (decide (b ≤ a)))
  | _ => none

def intShift (op : BinOp) (k : IntKind) (a b : Int) : Option Value :=
  if b < 0 then none else
  match op with
  | .shl => some (.int k (k.wrap (a * 2 ^ (min b.toNat k.bits))))
  | .shr => some (.int k (a.fdiv (2 ^ (min b.toNat k.bits))))
  | _ => none

def strBin (op : BinOp) (x y : ByteArray) : Option Value :=
  match op with
  | .add => if x.size + y.size ≤ 9223372036854775807 then some (.string (x ++ y)) else none
  | .eql => some (.bool (x.toList == y.toList))
  | .neq => some (.bool !(x.toList == y.toList))
  | .lss => some (.bool (Op.bytesLess x.toList y.toList))
  | .leq => some (.bool (Op.bytesLess x.toList y.toList || x.toList == y.toList))
  | .gtr => some (.bool !(Op.bytesLess x.toList y.toList || x.toList == y.toList))
  | .geq => some (.bool !(Op.bytesLess x.toList y.toList))
  | _ => none

/-- Numbers of one kind. -/
def ints (k : IntKind) : List V → Option (List Int)
  | [] => some []
  | .s (.int k' n) :: vs => if k' = k then (ints k vs).map (n :: ·) else none
  | _ :: _ => none

def eqOp (op : BinOp) (b : Bool) : Option Value :=
  match op with
  | .eql => some (.bool b)
  | .neq => some (.bool !b)
  | _ => none

/-- What two operands are. -/
inductive Cl where
  | num | tru | ptr
  deriving Inhabited

/-- Two operands: numbers, texts; truths; pointers held against nil. -/
def binV (cl : Cl) (op : BinOp) (x y : V) : Option Value :=
  match cl with
  | .num => match x, y with
    | .s (.int k a), .s (.int k' b) => match op with
      | .shl | .shr => intShift op k a b
      | _ => if k = k' then intBin op k a b else none
    | .s (.string a), .s (.string b) => strBin op a b
    | _, _ => none
  | .tru => match x, y with
    | .s (.bool a), .s (.bool b) => eqOp op (a == b)
    | _, _ => none
  | .ptr => match x, y with
    | .s (.pointer none), .s (.pointer none) => eqOp op true
    | .ptr _ _ _, .s (.pointer none) => eqOp op false
    | .s (.pointer none), .ptr _ _ _ => eqOp op false
    | _, _ => none

def unV (op : UnOp) : V → Option Value
  | .s (.int k n) => match op with
    | .neg => some (.int k (k.wrap (0 - n)))
    | .xor => intBin .xor k (if k.signed then -1 else k.max) n
    | _ => none
  | .s (.bool b) => match op with | .not => some (.bool !b) | _ => none
  | _ => none

/-- The bytes of a list of them. -/
def bytesOf : List V → Option (List UInt8)
  | [] => some []
  | .s (.int .u8 n) :: vs => (bytesOf vs).map (UInt8.ofNat n.toNat :: ·)
  | _ :: _ => none

def byteV (b : UInt8) : V := .s (.int .u8 b.toNat)

/-- Parts put in their places: each of the kind that stands there. -/
def putParts : List V → List (Nat × V) → Option (List V)
  | es, [] => some es
  | es, (i, y) :: ps => match es[i]? with
    | some o => if o.ty = y.ty ∧ y.solid = true then putParts (es.set i y) ps else none
    | none => none

/-- What a plain part of a struct is. -/
inductive LK where
  | i (k : IntKind)
  | b
  | s
  deriving Inhabited, DecidableEq
/-- An operation, without its operands. -/
inductive O where
  | mv
  | pick
  | bin (cl : Cl) (op : BinOp)
  /-- arrays of numbers, held against each other -/
  | eqa (t : Nat) (k : IntKind) (neg : Bool)
  /-- structs of plain parts, held against each other -/
  | eqs (t : Nat) (ks : List LK) (neg : Bool)
  | un (op : UnOp)
  | nck
  | fa (t i : Nat)
  | fld (t i : Nat)
  /-- the address of an element: of an array behind a pointer, of a slice -/
  | iaa (t : Nat)
  | ias (g : Option Nat)
  | idx (t : Nat)
  | sidx
  | ld (g : Option Nat)
  | sto (g : Option Nat)
  | box (g : Option Nat)
  | alc (g : Option Nat) (zero : V)
  | blds (t : Nat) (zero : List V) (places : List Nat)
  | blda (t : Nat) (zero : List V) (places : List Nat)
  /-- a slice laid out: its elements at first, where the parts go -/
  | bsl (g : Option Nat) (zero : List V) (places : List Nat)
  /-- a text's bytes laid out are never written again -/
  | frz
  | mks (g : Option Nat) (zero : V)
  /-- a slice of a slice: has it a low, a high, a third bound -/
  | slc (g : Option Nat) (lo hi mx : Bool)
  | sla (t : Nat) (g : Option Nat) (lo hi : Bool)
  | sls (lo hi : Bool)
  | len
  | slen
  | app (g : Option Nat) (bytes : Nat)
  | cpy (g : Option Nat)
  | clr (g : Option Nat) (zero : V)
  | i2i (k : IntKind)
  | b2s
  /-- a text of signs -/
  | r2s (one : Bool)
  | s2b (lit : Bool)
  | mki (t : Nat)
  | tas (t : Nat) (ok : Bool) (zero : V)
  | ext (i : Nat)
  | min
  | max
  | rng
  | nxt
  | call (f : Nat)
  | callv
  | mkf (f : Nat)
  /-- nothing -/
  | nop
  /-- a variable that is filled once -/
  | fzp (g : Option Nat)
  /-- a call that leaves the heap as it is -/
  | callp (f : Nat)
  /-- a slice laid out that is never written again -/
  | bsi (g : Option Nat) (zero : List V) (places : List Nat)
  /-- more behind a slice's elements: it is never written again -/
  | apx (g : Option Nat) (bytes : Nat)
  /-- a slice laid out, to be frozen -/
  | bsx (g : Option Nat) (zero : List V) (places : List Nat)
  /-- maps: made; looked up; set; an entry begun; an entry's value put; how many -/
  | mkm
  | lku (kc : Option (Nat × IntKind)) (ok : Bool) (zero : V)
  | mup (kc : Option (Nat × IntKind)) (g : Option Nat)
  | mpe (kc : Option (Nat × IntKind)) (zero : V)
  | ens (g : Option Nat)
  | mln
  /-- the array that a slice begins with; the slice is never written again -/
  | s2a (t : Nat) (g : Option Nat) (n : Nat)
  /-- as many zero values are appended -/
  | apz (g : Option Nat) (bytes : Nat) (zero : V)
  /-- the room of a slice -/
  | cap
  /-- what the machine does not do -/
  | bad
  deriving Inhabited

/-- Does it turn the heap? -/
def O.eff : O → Bool
  | .sto _ | .box _ | .alc _ _ | .mks _ _ | .app _ _ | .cpy _ | .clr _ _ | .rng | .nxt | .call _ | .callv => true
  | .bsl _ zero _ => !zero.isEmpty
  | .frz => true
  | .apx _ _ => true
  | .bsx _ _ _ => true
  | .mkm | .mup _ _ | .mpe _ _ | .ens _ | .s2a _ _ _ | .apz _ _ _ => true
  | .s2b lit => !lit
  | _ => false

structure G where
  dst : Option Nat
  op : O
  xs : List X
  guard : Option (Nat × Bool)
  deriving Inhabited

def okI (v : Value) (h : Hp) : Option (V × Hp) := some (.s v, h)

/-- May this be stored into a block? Blocks below 'base' take nothing that names a block. -/
def mayPut (base id : Nat) (v : V) : Bool := decide (base ≤ id) || v.ground

def splitBounds (lo hi : Bool) (xs : List V) : Option (Option V × Option V) :=
  match lo, hi, xs with
  | true, true, [a, b] => some (some a, some b)
  | true, false, [a] => some (some a, none)
  | false, true, [b] => some (none, some b)
  | false, false, [] => some (none, none)
  | _, _, _ => none

/-- Bounds: a low one and a high one, as numbers. -/
def natOf : Option V → Nat → Option Nat
  | none, d => some d
  | some (.s (.int _ n)), _ => if 0 ≤ n then some n.toNat else none
  | some _, _ => none

def sliceV (h : Hp) (g : Option Nat) (x : V) (l hi : Nat) : Option V :=
  if l ≤ hi then
    match x with
    | .imm full g' es => if g' = g ∧ hi ≤ es.length then some (.imm (full && hi == es.length) g ((es.drop l).take (hi - l))) else none
    | .ref id path g' off len tot => match rowAt h id path tot with
      | some es => if g' = g ∧ (hi ≤ len ∨ off + hi ≤ es.length) then (if l = 0 ∨ l < hi then some (.ref id path g (off + l) (hi - l) tot) else some (.imm false g [])) else none
      | none => none
    | _ => none
  else none

/-- With a third bound: what is left has no spare room. -/
def slice3V (h : Hp) (g : Option Nat) (x : V) (l hi mx : Nat) : Option V :=
  if l ≤ hi ∧ hi ≤ mx then
    match x with
    | .imm full g' es => if g' = g ∧ mx ≤ es.length then some (.imm (mx == hi) g ((es.drop l).take (hi - l))) else none
    | .ref id path g' off len tot => match rowAt h id path tot with
      | some es => if mx ≤ len ∨ off + mx ≤ es.length then (if l = mx then some (.imm true g []) else some .top) else none
      | none => none
    | _ => none
  else none

/-- How long a slice is. -/
def lenV : V → Option Nat
  | .imm _ _ es => some es.length
  | .ref _ _ _ _ len _ => some len
  | _ => none

/-- More elements (of their kind) behind a slice's. -/
def appendV (base : Nat) (g : Option Nat) (bytes : Nat) (h : Hp) (x : V) (gy : Option Nat) (ys : List V) : Option (V × Hp) :=
  if ys = [] then (lenV x).map fun _ => (x, h) else
  if gy = g then
    match x with
    | .imm true g' es =>
      if g' = g ∧ (es.length + ys.length) * bytes ≤ 140737488355328 then some (.ref h.length [] g 0 (es.length + ys.length) (es.length + ys.length), h ++ [.cells g (es ++ ys)])
      else none
    | .ref id [] g' off len tot => match rowOf h id tot with
      | some (g'', es) =>
        if g' = g ∧ g'' = g ∧ ys.all (mayPut base id) then
          if off + len + ys.length ≤ tot then
            some (.ref id [] g off (len + ys.length) tot, h.set id (.cells g (es.take (off + len) ++ ys ++ es.drop (off + len + ys.length))))
          else if off = 0 ∧ len = tot ∧ (len + ys.length) * bytes ≤ 140737488355328 then
            some (.ref id [] g 0 (len + ys.length) (tot + ys.length), h.set id (.cells g (es ++ ys)))
          else none
        else none
      | none => none
    | _ => none
  else none

/-- The bytes of a text, as cells. -/
def strCells (s : ByteArray) : List V := s.data.toList.map byteV

/-- What is appended, copied: a slice's elements, a text's bytes. -/
def source (h : Hp) : V → Option (Option Nat × List V)
  | .s (.string s) => some (none, strCells s)
  | x => elems h x

def copyV (base : Nat) (g : Option Nat) (h : Hp) (x : V) (gy : Option Nat) (ys : List V) : Option (V × Hp) :=
  match x with
  | .ref id [] g' off len tot => match rowOf h id tot with
    | some (g'', es) =>
      let n := min ys.length len
      if gy = g ∧ g' = g ∧ g'' = g ∧ off + len ≤ tot ∧ ys.all (mayPut base id) then
        some (.s (.int .i64 n), h.set id (.cells g (es.take off ++ ys.take n ++ es.drop (off + n))))
      else none
    | none => none
  | _ => none

/-- Into an array that stands in a block. -/
def copyA (base : Nat) (g : Option Nat) (h : Hp) (x : V) (gy : Option Nat) (ys : List V) : Option (V × Hp) :=
  match x with
  | .ref id (i :: p) g' off len tot => match node h id (i :: p) tot with
    | some (.arr t es) =>
      if gy = g ∧ g' = g ∧ off + len ≤ es.length ∧ ys.all (mayPut base id) then
        (store h id (i :: p) tot (.arr t (es.take off ++ ys.take (min ys.length len) ++ es.drop (off + min ys.length len)))).map fun h' => (.s (.int .i64 (min ys.length len : Nat)), h')
      else none
    | _ => none
  | x => copyV base g h x gy ys

def opPick (h : Hp) (c a b : V) : Option (V × Hp) :=
  match c with
  | .s (.bool c) => some (if c then a else b, h)
  | _ => none

def opBin (h : Hp) (cl : Cl) (op : BinOp) (x y : V) : Option (V × Hp) := (binV cl op x y).bind (okI · h)

def opEqa (h : Hp) (t : Nat) (k : IntKind) (neg : Bool) (x y : V) : Option (V × Hp) :=
  match x, y with
  | .arr t1 es, .arr t2 fs =>
    if t1 = t ∧ t2 = t then match ints k es, ints k fs with | some a, some b => okI (.bool (if neg then !(a == b) else a == b)) h | _, _ => none else none
  | _, _ => none

/-- The plain parts of a value, in order. -/
def V.flat : V → Option (List Value)
  | .s x => some [x]
  | .st _ fs => all fs
  | .arr _ es => all es
  | _ => none
where all : List V → Option (List Value)
  | [] => some []
  | v :: vs => match v.flat, all vs with | some a, some b => some (a ++ b) | _, _ => none
def litOk : LK → Value → Bool
  | .i k, .int q n => decide (q = k ∧ k.min ≤ n ∧ n ≤ k.max)
  | .b, .bool _ => true
  | .s, .string s => decide (s.size ≤ 140737488351232)
  | _, _ => false
def litsOk : List LK → List Value → Bool
  | [], [] => true
  | k :: ks, v :: vs => litOk k v && litsOk ks vs
  | _, _ => false
def leafEq : Value → Value → Bool
  | .int _ a, .int _ b => a == b
  | .bool a, .bool b => a == b
  | .string a, .string b => a.data.toList == b.data.toList
  | _, _ => false
def leavesEq : List Value → List Value → Bool
  | [], [] => true
  | a :: as, b :: bs => leafEq a b && leavesEq as bs
  | _, _ => false
def opEqs (h : Hp) (t : Nat) (ks : List LK) (neg : Bool) (x y : V) : Option (V × Hp) :=
  match x, y with
  | .st t1 fs, .st t2 gs =>
    if t1 = t ∧ t2 = t then match V.flat.all fs, V.flat.all gs with
      | some us, some ws => if litsOk ks us = true ∧ litsOk ks ws = true then okI (.bool (if neg then !leavesEq us ws else leavesEq us ws)) h else none
      | _, _ => none
    else none
  | _, _ => none

def opNck (h : Hp) (x : V) : Option (V × Hp) :=
  match x with
  | .ptr _ _ _ => some (x, h)
  | .iptr _ => some (x, h)
  | .fn _ _ => some (x, h)
  | _ => none

def opFa (h : Hp) (t i : Nat) (x : V) : Option (V × Hp) :=
  match x with
  | .ptr id path tot => match node h id path tot with
    | some (.st t' fs) => if t' = t ∧ i < fs.length then some (.ptr id (path ++ [i]) tot, h) else none
    | _ => none
  | .iptr (.st t' fs) => if t' = t then (fs[i]?).map fun v => (.iptr v, h) else none
  | _ => none

def opFld (h : Hp) (t i : Nat) (x : V) : Option (V × Hp) :=
  match x with
  | .st t' fs => if t' = t then (fs[i]?).map fun v => (v, h) else none
  | _ => none

def numOf : V → Option Int
  | .s (.int _ n) => some n
  | _ => none

def opIaa (h : Hp) (t : Nat) (x y : V) : Option (V × Hp) :=
  match numOf y with
  | some i =>
    match x with
    | .ptr id path tot => match node h id path tot with
      | some (.arr t' es) => if t' = t ∧ 0 ≤ i ∧ i < es.length then some (.ptr id (path ++ [i.toNat]) tot, h) else none
      | _ => none
    | .iptr (.arr t' es) => if t' = t ∧ 0 ≤ i ∧ i < es.length then (es[i.toNat]?).map fun v => (.iptr v, h) else none
    | _ => none
  | none => none

def opIas (h : Hp) (g : Option Nat) (x y : V) : Option (V × Hp) :=
  match numOf y with
  | some i =>
    match x with
    | .ref id path g' off len tot => match rowAt h id path tot with
      | some es => if g' = g ∧ 0 ≤ i ∧ i < len ∧ off + i.toNat < es.length then some (.ptr id (path ++ [off + i.toNat]) tot, h) else none
      | none => none
    | .imm _ g' es => if g' = g ∧ 0 ≤ i then (es[i.toNat]?).map fun v => (.iptr v, h) else none
    | _ => none
  | none => none

def opIdx (h : Hp) (t : Nat) (x y : V) : Option (V × Hp) :=
  match x, numOf y with
  | .arr t' es, some i => if t' = t ∧ 0 ≤ i then (es[i.toNat]?).map fun v => (v, h) else none
  | _, _ => none

def opSidx (h : Hp) (x y : V) : Option (V × Hp) :=
  match x, numOf y with
  | .s (.string s), some i => if 0 ≤ i then match s[i.toNat]? with | some b => some (byteV b, h) | none => none else none
  | _, _ => none

def opLd (h : Hp) (g : Option Nat) (x : V) : Option (V × Hp) :=
  match x with
  | .ptr id path tot => match node h id path tot with
    | some v => if v.ty = g then some (v, h) else none
    | none => none
  | .iptr v => if v.ty = g then some (v, h) else none
  | _ => none

def opSto (base : Nat) (h : Hp) (g : Option Nat) (x y : V) : Option (V × Hp) :=
  match x with
  | .ptr id path tot => match node h id path tot with
    | some v => if v.ty = g ∧ y.ty = g ∧ y.solid = true ∧ mayPut base id y = true then (store h id path tot y).map fun h' => (.tup [], h') else none
    | none => none
  | _ => none

def opBox (h : Hp) (g : Option Nat) (x : V) : Option (V × Hp) :=
  if x.ty = g ∧ x.solid = true then some (.ptr h.length [0] 1, h ++ [.cells g [x]]) else none

def opBlds (h : Hp) (t : Nat) (zero : List V) (places : List Nat) (xs : List V) : Option (V × Hp) :=
  if places.length = xs.length then (putParts zero (places.zip xs)).map fun fs => (.st t fs, h) else none

def opBlda (h : Hp) (t : Nat) (zero : List V) (places : List Nat) (xs : List V) : Option (V × Hp) :=
  if places.length = xs.length then (putParts zero (places.zip xs)).map fun es => (.arr t es, h) else none

def opBsl (h : Hp) (g : Option Nat) (zero : List V) (places : List Nat) (xs : List V) : Option (V × Hp) :=
  if places.length = xs.length then match putParts zero (places.zip xs) with
    | some es => if es.isEmpty then some (.imm true g [], h) else some (.ref h.length [] g 0 es.length es.length, h ++ [.cells g es])
    | none => none
  else none

def frzL (h : Hp) (id : Nat) (g' : Option Nat) (len tot : Nat) : Option (V × Hp) :=
  match h[id]? with
  | some (.lit g es) => if len = tot ∧ es.length = tot ∧ g' = g then some (.imm true g es, h.set id .dead) else none
  | _ => none

def opFrz (h : Hp) (x : V) : Option (V × Hp) :=
  match x with
  | .ref id [] g' 0 len tot => match rowOf h id tot with
    | some (g, es) => if len = tot ∧ g' = g then some (.imm false g es, h.set id .dead) else none
    | none => frzL h id g' len tot
  | _ => none

/-- What was grown last is never written again. -/
def opKil (r : V × Hp) : Option (V × Hp) :=
  match r.1 with
  | .imm _ g es => some (.imm false g es, r.2)
  | .ref id [] g' 0 len tot => match rowOf r.2 id tot with
    | some (g, es) => if len = tot ∧ g' = g then some (.imm false g es, r.2.set id .dead) else none
    | none => none
  | _ => none
def opCap (h : Hp) (x : V) : Option (V × Hp) :=
  match x with
  | .imm true _ es => okI (.int .i64 es.length) h
  | _ => none
def opS2a (h : Hp) (t : Nat) (g : Option Nat) (n : Nat) (x : V) : Option (V × Hp) :=
  (opKil (x, h)).bind fun r => match r.1 with
    | .imm _ g' es => if g' = g ∧ 0 < n ∧ n ≤ es.length then some (.iptr (.arr t (es.take n)), r.2) else none
    | _ => none
def opBsx (h : Hp) (g : Option Nat) (zero : List V) (places : List Nat) (xs : List V) : Option (V × Hp) :=
  if places.length = xs.length then match putParts zero (places.zip xs) with
    | some es => if es.isEmpty then none else some (.ref h.length [] g 0 es.length es.length, h ++ [.lit g es])
    | none => none
  else none

def opMks (h : Hp) (g : Option Nat) (zero x y : V) : Option (V × Hp) :=
  match numOf x, numOf y with
  | some n, some m =>
    if n = m ∧ 0 ≤ n ∧ n ≤ 16777216 then
      (if n = 0 then some (.imm true g [], h) else some (.ref h.length [] g 0 n.toNat n.toNat, h ++ [.cells g (List.replicate n.toNat zero)]))
    else none
  | _, _ => none

def opSlc (h : Hp) (g : Option Nat) (lo hi mx : Bool) (x : V) (bs : List V) : Option (V × Hp) :=
  match lenV x with
  | some len =>
    match lo, hi, mx, bs with
    | lo, hi, false, bs => match splitBounds lo hi bs with
      | some (a, b) => match natOf a 0, natOf b len with | some l, some r => (sliceV h g x l r).map fun v => (v, h) | _, _ => none
      | none => none
    | false, true, true, [b, m] => match natOf (some b) 0, natOf (some m) 0 with | some r, some m => (slice3V h g x 0 r m).map fun v => (v, h) | _, _ => none
    | true, true, true, [a, b, m] => match natOf (some a) 0, natOf (some b) 0, natOf (some m) 0 with | some l, some r, some m => (slice3V h g x l r m).map fun v => (v, h) | _, _, _ => none
    | _, _, _, _ => none
  | none => none

def opSla (h : Hp) (t : Nat) (g : Option Nat) (lo hi : Bool) (x : V) (bs : List V) : Option (V × Hp) :=
  match splitBounds lo hi bs with
  | some (a, b) => match x with
    | .ptr id path tot => match node h id path tot with
      | some (.arr t' es) => if t' = t then match natOf a 0, natOf b es.length with | some l, some r => if l ≤ r ∧ r ≤ es.length then (if l = 0 ∨ l < es.length then some (.ref id path g l (r - l) tot, h) else some (.imm true g [], h)) else none | _, _ => none else none
      | _ => none
    | .iptr (.arr t' es) => if t' = t then match natOf a 0, natOf b es.length with | some l, some r => if l ≤ r ∧ r ≤ es.length then some (.imm (r == es.length) g ((es.drop l).take (r - l)), h) else none | _, _ => none else none
    | _ => none
  | none => none

def opSls (h : Hp) (lo hi : Bool) (x : V) (bs : List V) : Option (V × Hp) :=
  match x, splitBounds lo hi bs with
  | .s (.string s), some (a, b) => match natOf a 0, natOf b s.size with | some l, some r => if l ≤ r ∧ r ≤ s.size then okI (.string (s.extract l r)) h else none | _, _ => none
  | _, _ => none

def opLen (h : Hp) (x : V) : Option (V × Hp) := (lenV x).bind fun n => okI (.int .i64 n) h

def opSlen (h : Hp) (x : V) : Option (V × Hp) :=
  match x with
  | .s (.string s) => okI (.int .i64 s.size) h
  | _ => none

def opApp (base : Nat) (h : Hp) (g : Option Nat) (bytes : Nat) (x y : V) : Option (V × Hp) := (source h y).bind fun r => appendV base g bytes h x r.1 r.2
def opApz (base : Nat) (h : Hp) (g : Option Nat) (bytes : Nat) (zero x y : V) : Option (V × Hp) :=
  match y with
  | .s (.int .i64 k) => if 0 ≤ k ∧ k.toNat * bytes ≤ 140737488355328 then appendV base g bytes h x g (List.replicate k.toNat zero) else none
  | _ => none
def opApx (base : Nat) (h : Hp) (g : Option Nat) (bytes : Nat) (x y : V) : Option (V × Hp) := (opApp base h g bytes x y).bind opKil
def opCpy (base : Nat) (h : Hp) (g : Option Nat) (x y : V) : Option (V × Hp) := (source h y).bind fun r => copyA base g h x r.1 r.2

def opClr (base : Nat) (h : Hp) (g : Option Nat) (zero x : V) : Option (V × Hp) :=
  match lenV x with
  | some 0 => some (.tup [], h)
  | some n => (copyV base g h x g (List.replicate n zero)).map fun r => (.tup [], r.2)
  | none => none

def opI2i (h : Hp) (k : IntKind) (x : V) : Option (V × Hp) := (numOf x).bind fun n => okI (.int k (k.wrap n)) h

/-- The signs of a row. -/
def signsOf : List V → Option (List Int)
  | [] => some []
  | .s (.int .i32 n) :: vs => (signsOf vs).map (n :: ·)
  | _ :: _ => none

def opR2s (h : Hp) (one : Bool) (x : V) : Option (V × Hp) :=
  if one then match x with
    | .s (.int .i32 n) => okI (.string (Utf8.encode n)) h
    | _ => none
  else (elems h x).bind fun r => (signsOf r.2).bind fun l => okI (.string (runesBytes l)) h

def opB2s (h : Hp) (x : V) : Option (V × Hp) := (elems h x).bind fun r => (bytesOf r.2).bind fun l => okI (.string ⟨l.toArray⟩) h

def opS2b (h : Hp) (lit : Bool) (x : V) : Option (V × Hp) :=
  match x with
  | .s (.string s) => if lit then some (.imm false none (strCells s), h) else if s.size = 0 then none else some (.ref h.length [] none 0 s.size s.size, h ++ [.cells none (strCells s)])
  | _ => none

def opTas (h : Hp) (t : Nat) (ok : Bool) (zero x : V) : Option (V × Hp) :=
  match x with
  | .iface t' y => if t' = t then some (if ok then .tup [y, .s (.bool true)] else y, h) else if ok then some (.tup [zero, .s (.bool false)], h) else none
  | _ => none

def opExt (h : Hp) (i : Nat) (x : V) : Option (V × Hp) :=
  match x with
  | .tup vs => (vs[i]?).map fun v => (v, h)
  | _ => none

def opMm (h : Hp) (mx : Bool) (x y : V) : Option (V × Hp) :=
  match x, y with
  | .s (.int k a), .s (.int _ b) => okI (.int k (if mx then (if b > a then b else a) else (if b < a then b else a))) h
  | _, _ => none

def opRng (h : Hp) (x : V) : Option (V × Hp) :=
  match x with
  | .s (.string s) => some (.ptr h.length [] 0, h ++ [.siter s 0])
  | _ => none

def opNxt (h : Hp) (x : V) : Option (V × Hp) :=
  match x with
  | .ptr id [] 0 => match h[id]? with
    | some (.siter s pos) =>
      if pos < s.size then some (.tup [.s (.bool true), .s (.int .i64 pos), .s (.int .i32 (Utf8.decode s pos).1)], h.set id (.siter s (pos + (Utf8.decode s pos).2)))
      else some (.tup [.s (.bool false)], h)
    | _ => none
  | _ => none

def opFzp (h : Hp) (g : Option Nat) (x : V) : Option (V × Hp) :=
  if x.ty = g ∧ x.solid = true then some (.iptr x, h) else none

open Classical in
/-- What a call gives, if the heap is as it was. -/
noncomputable def callR (r : Option (V × Hp)) (h : Hp) : Option (V × Hp) :=
  match r with
  | some (v, h') => if h' = h then some (v, h) else none
  | none => none

def opBsi (h : Hp) (g : Option Nat) (zero : List V) (places : List Nat) (xs : List V) : Option (V × Hp) :=
  if places.length = xs.length then (putParts zero (places.zip xs)).map fun es => (.imm true g es, h) else none

/-- Are two keys alike? Keys are numbers, or arrays of numbers. -/
def keyEq (kc : Option (Nat × IntKind)) (x y : V) : Option Bool :=
  match kc, x, y with
  | none, .s (.int k a), .s (.int k' b) => if k = k' then some (a == b) else none
  | some (t, k), .arr t1 es, .arr t2 fs => if t1 = t ∧ t2 = t then match ints k es, ints k fs with | some a, some b => some (a == b) | _, _ => none else none
  | _, _, _ => none
def findM (kc : Option (Nat × IntKind)) (x : V) : List (V × V × Nat) → Nat → Option (Option (Nat × V × Nat))
  | [], _ => some none
  | e :: es, i => match keyEq kc x e.1 with
    | some true => some (some (i, e.2))
    | some false => findM kc x es (i + 1)
    | none => none
def findK (kc : Option (Nat × IntKind)) (x : V) (es : List (V × V × Nat)) : Option (Option (Nat × V × Nat)) := if keyEq kc x x = some true then findM kc x es 0 else none
def lkuV (ok : Bool) (zero : V) : Option (Nat × V × Nat) → V
  | some (_, v, _) => if ok then .tup [v, .s (.bool true)] else v
  | none => if ok then .tup [zero, .s (.bool false)] else zero
def opLku (h : Hp) (kc : Option (Nat × IntKind)) (ok : Bool) (zero x k : V) : Option (V × Hp) :=
  match x with
  | .mp id => match h[id]? with
    | some (.map es _) => (findK kc k es).map fun r => (lkuV ok zero r, h)
    | _ => none
  | _ => none
def opMup (base : Nat) (h : Hp) (kc : Option (Nat × IntKind)) (g : Option Nat) (x k v : V) : Option (V × Hp) :=
  match x with
  | .mp id => if (mayPut base id v && k.ground && v.solid && decide (v.ty = g)) = true then match h[id]? with
    | some (.map es cl) => (findK kc k es).map fun r => match r with
      | some (i, _, b) => (.tup [], h.set id (.map (es.set i (k, v, b)) cl))
      | none => (.tup [], h.set id (.map (es ++ [(k, v, cl)]) (cl + 1)))
    | _ => none
    else none
  | _ => none
def opMpe (base : Nat) (h : Hp) (kc : Option (Nat × IntKind)) (zero x k : V) : Option (V × Hp) :=
  match x with
  | .mp id => if (mayPut base id zero && k.ground) = true then match h[id]? with
    | some (.map es cl) => (findK kc k es).map fun r => match r with
      | some (i, v, b) => (.tup [v, .s (.int .i64 b)], h.set id (.map (es.set i (k, v, b)) cl))
      | none => (.tup [zero, .s (.int .i64 cl)], h.set id (.map (es ++ [(k, zero, cl)]) (cl + 1)))
    | _ => none
    else none
  | _ => none
def putM (n : Int) (v : V) : List (V × V × Nat) → Option (List (V × V × Nat))
  | [] => none
  | e :: es => if (e.2.2 : Int) = n then some ((e.1, v, e.2.2) :: es) else (putM n v es).map (e :: ·)
def opEns (base : Nat) (h : Hp) (g : Option Nat) (x k v : V) : Option (V × Hp) :=
  match x, k with
  | .mp id, .s (.int _ n) => if (mayPut base id v && v.solid && decide (v.ty = g)) = true then match h[id]? with
    | some (.map es cl) => (putM n v es).map fun es' => (.tup [], h.set id (.map es' cl))
    | _ => none
    else none
  | _, _ => none
def opMln (h : Hp) (x : V) : Option (V × Hp) :=
  match x with
  | .mp id => match h[id]? with
    | some (.map es _) => some (.s (.int .i64 es.length), h)
    | _ => none
  | _ => none

/-- What an operation gives, out of its operands' values; calls: out of 'cf'. -/
noncomputable def opV (cf : Nat → List V → Hp → Option (V × Hp)) (base : Nat) (h : Hp) : O → List V → Option (V × Hp)
  | .mv, [x] => some (x, h)
  | .pick, [c, a, b] => opPick h c a b
  | .bin cl op, [x, y] => opBin h cl op x y
  | .eqa t k neg, [x, y] => opEqa h t k neg x y
  | .eqs t ks neg, [x, y] => opEqs h t ks neg x y
  | .un op, [x] => (unV op x).bind (okI · h)
  | .nck, [x] => opNck h x
  | .fa t i, [x] => opFa h t i x
  | .fld t i, [x] => opFld h t i x
  | .iaa t, [x, y] => opIaa h t x y
  | .ias g, [x, y] => opIas h g x y
  | .idx t, [x, y] => opIdx h t x y
  | .sidx, [x, y] => opSidx h x y
  | .ld g, [x] => opLd h g x
  | .sto g, [x, y] => opSto base h g x y
  | .box g, [x] => opBox h g x
  | .alc g zero, [] => opBox h g zero
  | .blds t zero places, xs => opBlds h t zero places xs
  | .blda t zero places, xs => opBlda h t zero places xs
  | .bsl g zero places, xs => opBsl h g zero places xs
  | .frz, [x] => opFrz h x
  | .mks g zero, [x, y] => opMks h g zero x y
  | .slc g lo hi mx, x :: bs => opSlc h g lo hi mx x bs
  | .sla t g lo hi, x :: bs => opSla h t g lo hi x bs
  | .sls lo hi, x :: bs => opSls h lo hi x bs
  | .len, [x] => opLen h x
  | .slen, [x] => opSlen h x
  | .app g bytes, [x, y] => opApp base h g bytes x y
  | .cpy g, [x, y] => opCpy base h g x y
  | .clr g zero, [x] => opClr base h g zero x
  | .i2i k, [x] => opI2i h k x
  | .b2s, [x] => opB2s h x
  | .r2s one, [x] => opR2s h one x
  | .s2b lit, [x] => opS2b h lit x
  | .mki t, [x] => some (.iface t x, h)
  | .tas t ok zero, [x] => opTas h t ok zero x
  | .ext i, [x] => opExt h i x
  | .min, [x, y] => opMm h false x y
  | .max, [x, y] => opMm h true x y
  | .rng, [x] => opRng h x
  | .nxt, [x] => opNxt h x
  | .call f, xs => cf f xs h
  | .callv, .fn f cap :: xs => cf f (xs ++ cap) h
  | .mkf f, xs => some (.fn f xs, h)
  | .nop, [] => some (.tup [], h)
  | .fzp g, [x] => opFzp h g x
  | .callp f, xs => callR (cf f xs h) h
  | .bsi g zero places, xs => opBsi h g zero places xs
  | .apx g bytes, [x, y] => opApx base h g bytes x y
  | .bsx g zero places, xs => opBsx h g zero places xs
  | .mkm, [] => some (.mp h.length, h ++ [.map [] 0])
  | .lku kc ok zero, [x, k] => opLku h kc ok zero x k
  | .mup kc g, [x, k, v] => opMup base h kc g x k v
  | .mpe kc zero, [x, k] => opMpe base h kc zero x k
  | .ens g, [x, k, v] => opEns base h g x k v
  | .mln, [x] => opMln h x
  | .s2a t g n, [x] => opS2a h t g n x
  | .apz g bytes z, [x, y] => opApz base h g bytes z x y
  | .cap, [x] => opCap h x
  | _, _ => none

/-- An operation at its place: is it wanted? what does it give? 'none' in the middle: it is passed by. -/
def want (fr : Fr) (g : G) : Option Bool :=
  match g.guard with
  | none => some true
  | some (t, b) => match fr.getD t .top with
    | .s (.bool b') => some (b' == b)
    | .tup [] => some false
    | _ => none

noncomputable def stepG (cf : Nat → List V → Hp → Option (V × Hp)) (base : Nat) (fr : Fr) (h : Hp) (g : G) : Option (V × Hp) :=
  match want fr g with
  | some true => opV cf base h g.op (g.xs.map (X.ev fr))
  | some false => some (.tup [], h)
  | none => none

def putD (fr : Fr) (d : Option Nat) (v : V) : Fr :=
  match d with
  | some t => fr.set t v
  | none => fr

/-- Operations in the order of the text. -/
noncomputable def runG (cf : Nat → List V → Hp → Option (V × Hp)) (base : Nat) : List G → Fr → Hp → Option (Fr × Hp)
  | [], fr, h => some (fr, h)
  | g :: gs, fr, h => match stepG cf base fr h g with
    | some (v, h') => runG cf base gs (putD fr g.dst v) h'
    | none => none

/-- An operation of a region whose order is open: with how many of the heap's operations ahead of it it may come up. -/
structure GD where
  g : G
  lo : Nat
  hi : Nat
  deriving Inhabited

/-- It gives the same in each of these heaps. -/
def sameIn (cf : Nat → List V → Hp → Option (V × Hp)) (base : Nat) (fr : Fr) (g : G) (v : V) : List Hp → Prop
  | [] => True
  | h :: hs => stepG cf base fr h g = some (v, h) ∧ sameIn cf base fr g v hs

/-- What was seen of an operation that leaves the heap alone: its frame, its value. -/
structure Seen where
  d : GD
  fr : Fr
  v : V

/-- Does each give the same in each heap in which it may come up? -/
def allSame (cf : Nat → List V → Hp → Option (V × Hp)) (base : Nat) (hs : List Hp) : List Seen → Prop
  | [] => True
  | x :: xs => sameIn cf base x.fr x.d.g x.v ((hs.drop x.d.lo).take (x.d.hi + 1 - x.d.lo)) ∧ allSame cf base hs xs

/-- Operations whose order is open, in the order of the text: what the frame is, the heaps between, what was seen. -/
noncomputable def runD (cf : Nat → List V → Hp → Option (V × Hp)) (base : Nat) : List GD → Fr → Hp → List Hp → List Seen → Option (Fr × Hp × List Hp × List Seen)
  | [], fr, h, hs, xs => some (fr, h, hs ++ [h], xs)
  | d :: ds, fr, h, hs, xs => match stepG cf base fr h d.g with
    | some (v, h') => if d.g.op.eff then runD cf base ds (putD fr d.g.dst v) h' (hs ++ [h]) xs else runD cf base ds (putD fr d.g.dst v) h hs (xs ++ [⟨d, fr, v⟩])
    | none => none

/-- Their slots are some of so many. -/
def inB (n : Nat) (ds : List GD) : Prop := ∀ d ∈ ds, ∀ t, d.g.dst = some t → t < n

open Classical in
noncomputable def regD (cf : Nat → List V → Hp → Option (V × Hp)) (base : Nat) (ds : List GD) (fr : Fr) (h : Hp) : Option (Fr × Hp) :=
  match runD cf base ds fr h [] [] with
  | some (fr', h', hs, xs) => if inB fr.length ds ∧ allSame cf base hs xs then some (fr', h') else none
  | none => none

/-- Code. -/
inductive C where
  | skip
  | reg (gs : List G)
  | regD (ds : List GD)
  | seq (a b : C)
  | cond (c : X) (a b : C)
  | block (id : Nat) (a : C)
  | loop (a : C)
  | exit (id : Nat)
  | ret
  deriving Inhabited

inductive Ex where
  | normal
  | exit (id : Nat)
  | ret
  deriving Inhabited, DecidableEq

abbrev Out := Option (Ex × Fr × Hp)

/-- Rounds, till one leaves. -/
def iter (f : Fr → Hp → Out) : Nat → Fr → Hp → Out
  | 0, _, _ => none
  | n + 1, fr, h => match f fr h with
    | some (.normal, fr', h') => iter f n fr' h'
    | r => r

theorem iter_det {f : Fr → Hp → Out} : ∀ {n m : Nat} {fr : Fr} {h : Hp} {r r' : Ex × Fr × Hp}, iter f n fr h = some r → iter f m fr h = some r' → r = r'
  | 0, _, _, _, _, _, h1, _ => by simp [iter] at h1
  | _ + 1, 0, _, _, _, _, _, h2 => by simp [iter] at h2
  | n + 1, m + 1, fr, h, r, r', h1, h2 => by
    simp only [iter] at h1 h2
    split at h1
    · rename_i fr1 h1' he
      rw [he] at h2
      exact iter_det h1 h2
    · rename_i hne
      cases hf : f fr h with
      | none => rw [hf] at h1; cases h1
      | some q =>
        rw [hf] at h1 h2
        obtain ⟨e, a, b⟩ := q
        cases e with
        | normal => exact absurd hf (hne a b)
        | exit id => simp only [Option.some.injEq] at h1 h2; rw [← h1, ← h2]
        | ret => simp only [Option.some.injEq] at h1 h2; rw [← h1, ← h2]

open Classical in
/-- Rounds, as many as it takes. -/
noncomputable def loopF (f : Fr → Hp → Out) (fr : Fr) (h : Hp) : Out :=
  if hx : ∃ r n, iter f n fr h = some r then some hx.choose else none

theorem loopF_iter {f : Fr → Hp → Out} {fr : Fr} {h : Hp} {r : Ex × Fr × Hp} : loopF f fr h = some r ↔ ∃ n, iter f n fr h = some r := by
  unfold loopF
  constructor
  · intro hr
    split at hr
    · rename_i hx
      simp only [Option.some.injEq] at hr
      rw [← hr]
      exact hx.choose_spec
    · cases hr
  · rintro ⟨n, hn⟩
    have hx : ∃ r n, iter f n fr h = some r := ⟨r, n, hn⟩
    rw [dif_pos hx]
    obtain ⟨m, hm⟩ := hx.choose_spec
    rw [iter_det hm hn]

noncomputable def exec (cf : Nat → List V → Hp → Option (V × Hp)) (base : Nat) : C → Fr → Hp → Out
  | .skip, fr, h => some (.normal, fr, h)
  | .reg gs, fr, h => (runG cf base gs fr h).map fun r => (.normal, r.1, r.2)
  | .regD ds, fr, h => (Vm.regD cf base ds fr h).map fun r => (.normal, r.1, r.2)
  | .seq a b, fr, h => match exec cf base a fr h with
    | some (.normal, fr', h') => exec cf base b fr' h'
    | r => r
  | .cond c a b, fr, h => match c.ev fr with
    | .s (.bool true) => exec cf base a fr h
    | .s (.bool false) => exec cf base b fr h
    | _ => none
  | .block id a, fr, h => match exec cf base a fr h with
    | some (.exit id', fr', h') => if id' = id then some (.normal, fr', h') else some (.exit id', fr', h')
    | r => r
  | .loop a, fr, h => loopF (exec cf base a) fr h
  | .exit id, fr, h => some (.exit id, fr, h)
  | .ret, fr, h => some (.ret, fr, h)

/-- A result: a slot; a variable. -/
inductive Rs where
  | t (n : Nat)
  | cell (n : Nat) (g : Option Nat)
  deriving Inhabited

structure Fn where
  nt : Nat
  body : C
  res : List Rs
  /-- what it makes is given back as values alone; nothing of it stays on the heap -/
  pure : Bool
  deriving Inhabited

def resV (fr : Fr) (h : Hp) : Rs → Option V
  | .t n => some (fr.getD n (.tup []))
  | .cell n g => (opLd h g (fr.getD n (.tup []))).map (·.1)

def resVs (fr : Fr) (h : Hp) : List Rs → Option (List V)
  | [] => some []
  | r :: rs => match resV fr h r, resVs fr h rs with | some v, some vs => some (v :: vs) | _, _ => none

def tupV : List V → V
  | [v] => v
  | vs => .tup vs

/-- All that it names lies below. -/
def V.low (n : Nat) : V → Bool
  | .s _ => true
  | .ptr id _ _ => decide (id < n)
  | .ref id _ _ _ _ _ => decide (id < n)
  | .imm _ _ es => all es
  | .iptr v => v.low n
  | .st _ fs => all fs
  | .arr _ es => all es
  | .tup vs => all vs
  | .iface _ v => v.low n
  | .fn _ vs => all vs
  | .mp id => decide (id < n)
  | .top => true
where all : List V → Bool
  | [] => true
  | v :: vs => v.low n && all vs

/-- What a call hands back: slices of its own memory are never written again. -/
def frzV (base : Nat) (h : Hp) : V → Option V
  | .ref id path g off len tot =>
    if id < base then some (.ref id path g off len tot) else
    match path with
    | [] => match rowOf h id tot with
      | some (g', es) => if g' = g ∧ off + len ≤ tot ∧ V.low.all base ((es.drop off).take len) = true then some (.imm false g ((es.drop off).take len)) else none
      | none => none
    | _ => none
  | .imm _ g es => (all es).map fun es' => .imm false g es'
  | .st t fs => (all fs).map fun fs' => .st t fs'
  | .arr t es => (all es).map fun es' => .arr t es'
  | .tup vs => (all vs).map fun vs' => .tup vs'
  | .iface t v => (frzV base h v).map fun v' => .iface t v'
  | v => if v.low base then some v else none
where all : List V → Option (List V)
  | [] => some []
  | v :: vs => match frzV base h v, all vs with | some v', some vs' => some (v' :: vs') | _, _ => none

/-- Where a call begins. -/
def fr0 (F : Fn) (args : List V) : Fr := args ++ List.replicate (F.nt - args.length) (.tup [])

/-- A call: of a function that gives back values alone; of any other. -/
noncomputable def callF (cf : Nat → Nat → List V → Hp → Option (V × Hp)) (base : Nat) (F : Fn) (args : List V) (h : Hp) : Option (V × Hp) :=
  if F.pure then
    match exec (cf h.length) h.length F.body (fr0 F args) h with
    | some (.exit _, _, _) => none
    | some (_, fr, h') => match resVs fr h' F.res with
      | some vs => match frzV h.length h' (tupV vs) with
        | some v => some (v, h'.take h.length)
        | none => none
      | none => none
    | none => none
  else
    match exec (cf base) base F.body (fr0 F args) h with
    | some (.exit _, _, _) => none
    | some (_, fr, h') => match resVs fr h' F.res with
      | some vs => some (tupV vs, h')
      | none => none
    | none => none

/-- Runs of functions, d calls deep; 'pr' has those that are known otherwise. -/
noncomputable def den (fns : Nat → Option Fn) (pr : Nat → List V → Hp → Option (V × Hp)) : Nat → Nat → Nat → List V → Hp → Option (V × Hp)
  | 0, _, _, _, _ => none
  | d + 1, base, f, args, h => match fns f with
    | some F => callF (den fns pr d) base F args h
    | none => pr f args h

end Go.Vm
/- How the abstract machine's heap lies in Go's memory; what growing, writing and freezing do. -/
namespace Go.Vm
set_option linter.unusedVariables false

/-- The streams stay, no block goes. -/
structure St (w w' : World) : Prop where
  os : w'.os = w.os
  tape : w'.tape = w.tape
  output : w'.output = w.output
  size : w.heap.size ≤ w'.heap.size

theorem St.refl (w : World) : St w w := ⟨rfl, rfl, rfl, Nat.le_refl _⟩
theorem St.trans {a b c : World} (h : St a b) (k : St b c) : St a c := ⟨k.os.trans h.os, k.tape.trans h.tape, k.output.trans h.output, Nat.le_trans h.size k.size⟩

/-- No cell of a row is frozen; a row of structs, of arrays bears no mark at all. -/
def Unfz (g : Option Nat) (n : Nat) (fz : Nat × Nat) : Prop := (∀ j, j < n → ¬ (fz.1 ≤ j ∧ j < fz.2)) ∧ (g.isSome = true → fz = (0, 0))

/-- A map's entries. -/
def RVm (L : Lay) (c : Ctx) : List (V × V × Nat) → List MapEntry → Prop
  | [], [] => True
  | e :: es, m :: ms => (RV L c e.1 m.key ∧ RV L c e.2.1 m.val ∧ e.2.2 = m.born) ∧ RVm L c es ms
  | _, _ => False
/-- A block of the machine's heap, as it lies in Go's memory. -/
def BlkR (L : Lay) (c : Ctx) (w : World) (l : Loc) : Blk → Prop
  | .cells g es => l.tag = g ∧ l.tot = es.length ∧ es.length ≤ l.cap ∧ (∀ e ∈ es, e.ty = g ∧ e.solid = true) ∧
      ∃ us ty fz, w.heap[l.blk]? = some (.cells us ty fz) ∧ us.size = l.cap * L.csz g ∧ Unfz g us.size fz ∧ RCs L c es (us.toList.take (es.length * L.csz g))
  | .lit g es => l.tag = g ∧ l.tot = es.length ∧ es.length = l.cap ∧ (∀ e ∈ es, e.ty = g ∧ e.solid = true) ∧
      ∃ us ty fz, w.heap[l.blk]? = some (.cells us ty fz) ∧ us.size = l.cap * L.csz g ∧ Unfz g us.size fz ∧ RCs L c es (us.toList.take (es.length * L.csz g))
  | .map es cl => l.tag = none ∧ l.tot = 0 ∧ ∃ ms : Array MapEntry, w.heap[l.blk]? = some (.map ms cl) ∧ RVm L c es ms.toList
  | .siter s pos => l.tag = none ∧ l.tot = 0 ∧ w.heap[l.blk]? = some (.stringIter s pos)
  | .dead => False

/-- What is kept of a block: one that is held back (no value names it) is written as one that is pending. -/
def real : Obj → Obj
  | .pending cs ty => match cs.back? with
    | some (.bool false) => .cells cs.pop ty (0, 0)
    | _ => .pending cs.pop ty
  | o => o
/-- One that is held back. -/
abbrev heldO (cs : Array Value) (ty : TypeId) : Obj := .pending (cs.push (.bool false)) ty
/-- Any block, as it is kept. -/
def kept : Obj → Obj
  | .pending cs ty => .pending (cs.push (.bool true)) ty
  | o => o
theorem real_held (cs : Array Value) (ty : TypeId) : real (heldO cs ty) = .cells cs ty (0, 0) := by simp [real]
theorem real_kept (o : Obj) : real (kept o) = o := by cases o <;> simp [kept, real]

structure Sim (L : Lay) (c : Ctx) (h : Hp) (w : World) : Prop where
  z : ∀ b o, c.z b = some o → w.heap[b]? = some (real o)
  n : c.n = h.length
  loc : ∀ id l, c.loc id = some l → ∃ k, h[id]? = some k ∧ c.z l.blk = none ∧ BlkR L c w l k
  live : ∀ id k, h[id]? = some k → (∃ l, c.loc id = some l) ∨ k = .dead
  inj : ∀ i j li lj, c.loc i = some li → c.loc j = some lj → li.blk = lj.blk → i = j

variable {L : Lay} {c c' : Ctx} {h : Hp} {w : World}

theorem RVm.monov (hle : c.lev c') : ∀ {es : List (V × V × Nat)} {ms : List MapEntry}, RVm L c es ms → RVm L c' es ms
  | [], [], _ => trivial
  | e :: es, m :: ms, h => ⟨⟨h.1.1.monov hle, h.1.2.1.monov hle, h.1.2.2⟩, RVm.monov hle h.2⟩
  | [], _ :: _, h => h.elim
  | _ :: _, [], h => h.elim
theorem BlkR.monov (hle : c.lev c') {w' : World} {l : Loc} {k : Blk} (hw : w'.heap[l.blk]? = w.heap[l.blk]?) (hb : BlkR L c w l k) : BlkR L c' w' l k := by
  cases k with
  | cells g es =>
    obtain ⟨h1, h2, h3, h4, us, ty, fz, h5, h6, h7, h8⟩ := hb
    exact ⟨h1, h2, h3, h4, us, ty, fz, by rw [hw]; exact h5, h6, h7, h8.monov hle⟩
  | lit g es =>
    obtain ⟨h1, h2, h3, h4, us, ty, fz, h5, h6, h7, h8⟩ := hb
    exact ⟨h1, h2, h3, h4, us, ty, fz, by rw [hw]; exact h5, h6, h7, h8.monov hle⟩
  | map es cl => obtain ⟨h1, h2, ms, h3, h4⟩ := hb; exact ⟨h1, h2, ms, by rw [hw]; exact h3, h4.monov hle⟩
  | siter s pos => exact ⟨hb.1, hb.2.1, by rw [hw]; exact hb.2.2⟩
  | dead => exact hb
theorem BlkR.mono (hle : c.le c') {w' : World} {l : Loc} {k : Blk} (hw : w'.heap[l.blk]? = w.heap[l.blk]?) (hb : BlkR L c w l k) : BlkR L c' w' l k := hb.monov hle.lev hw

theorem BlkR.real {l : Loc} {k : Blk} (hb : BlkR L c w l k) {o : Obj} (ho : w.heap[l.blk]? = some o) : real o = o := by
  cases k with
  | cells g es => obtain ⟨_, _, _, _, us, ty, fz, h5, _⟩ := hb; rw [h5] at ho; cases ho; rfl
  | lit g es => obtain ⟨_, _, _, _, us, ty, fz, h5, _⟩ := hb; rw [h5] at ho; cases ho; rfl
  | map es cl => obtain ⟨_, _, ms, h3, _⟩ := hb; rw [h3] at ho; cases ho; rfl
  | siter s pos => rw [hb.2.2] at ho; cases ho; rfl
  | dead => exact hb.elim
theorem BlkR.lt {l : Loc} {k : Blk} (hb : BlkR L c w l k) : l.blk < w.heap.size := by
  cases k with
  | cells g es => obtain ⟨_, _, _, _, us, ty, fz, h5, _⟩ := hb; exact (Array.getElem?_eq_some_iff.1 h5).1
  | lit g es => obtain ⟨_, _, _, _, us, ty, fz, h5, _⟩ := hb; exact (Array.getElem?_eq_some_iff.1 h5).1
  | map es cl => obtain ⟨_, _, ms, h3, _⟩ := hb; exact (Array.getElem?_eq_some_iff.1 h3).1
  | siter s pos => exact (Array.getElem?_eq_some_iff.1 hb.2.2).1
  | dead => exact hb.elim

theorem Sim.drew (hs : Sim L c h w) : Sim L c h w.drew := ⟨hs.z, hs.n, fun id l hl => let ⟨k, h1, h2, h3⟩ := hs.loc id l hl; ⟨k, h1, h2, h3.mono (Ctx.le_refl c) rfl⟩, hs.live, hs.inj⟩
theorem St.drew (w : World) : St w w.drew := ⟨rfl, rfl, rfl, Nat.le_refl _⟩

theorem heap_old {w : World} {o : Obj} {b : Nat} (hb : b < w.heap.size) : (w.alloc o).heap[b]? = w.heap[b]? := RowKit.Below.heap_alloc w o b hb
theorem heap_new {w : World} {o : Obj} : (w.alloc o).heap[w.heap.size]? = some o := heap_alloc_new w o
theorem St.alloc (w : World) (o : Obj) : St w (w.alloc o) := ⟨rfl, rfl, rfl, by simp⟩
theorem lt_of_heap {w : World} {b : Nat} {o : Obj} (hb : w.heap[b]? = some o) : b < w.heap.size := (Array.getElem?_eq_some_iff.1 hb).1

/-- A block that nobody can name comes; nothing of the machine's turns. -/
theorem Sim.garbage (hs : Sim L c h w) (o : Obj) : Sim L c h (w.alloc o) where
  z b x hb := by rw [heap_old (lt_of_heap (hs.z b x hb))]; exact hs.z b x hb
  n := hs.n
  loc id l hl := by
    obtain ⟨k, h1, h2, h3⟩ := hs.loc id l hl
    exact ⟨k, h1, h2, h3.mono (Ctx.le_refl c) (heap_old h3.lt)⟩
  live := hs.live
  inj := hs.inj

/-- The context behind a new block of the heap. -/
def Ctx.push (c : Ctx) (l : Loc) : Ctx := { c with loc := fun i => if i = c.n then some l else c.loc i, n := c.n + 1 }

theorem Ctx.le_push (c : Ctx) (l : Loc) : c.le (c.push l) where
  z _ _ hb := hb
  n := by simp [Ctx.push]
  loc id l' hid hl := by
    simp only [Ctx.push, if_neg (Nat.ne_of_lt hid)] at hl
    exact ⟨l', hl, rfl, Nat.le_refl _, fun _ => ⟨rfl, rfl⟩⟩

theorem Sim.locLt (hs : Sim L c h w) {id : Nat} {l : Loc} (hl : c.loc id = some l) : id < c.n := by
  obtain ⟨k, h1, _⟩ := hs.loc id l hl
  rw [hs.n]; exact (List.getElem?_eq_some_iff.1 h1).1

/-- A new block of the heap. -/
theorem Sim.push (hs : Sim L c h w) (o : Obj) (k : Blk) (l : Loc) (hl : l.blk = w.heap.size) (hk : BlkR L (c.push l) (w.alloc o) l k) :
    Sim L (c.push l) (h ++ [k]) (w.alloc o) where
  z b x hb := by rw [heap_old (lt_of_heap (hs.z b x hb))]; exact hs.z b x hb
  n := by simp [Ctx.push, hs.n]
  loc id l' hl' := by
    simp only [Ctx.push] at hl'
    by_cases hid : id = c.n
    · simp only [hid, if_true, Option.some.injEq] at hl'
      subst hl'
      refine ⟨k, by rw [hid, hs.n]; simp, ?_, hk⟩
      cases hz : c.z l.blk with
      | none => exact hz
      | some x => have := lt_of_heap (hs.z _ _ hz); omega
    · simp only [hid, if_false] at hl'
      obtain ⟨k', h1, h2, h3⟩ := hs.loc id l' hl'
      exact ⟨k', by rw [List.getElem?_append_left (List.getElem?_eq_some_iff.1 h1).1]; exact h1, h2, h3.mono (c.le_push l) (heap_old h3.lt)⟩
  live id k' hk' := by
    by_cases hid : id = c.n
    · exact .inl ⟨l, by simp [Ctx.push, hid]⟩
    · have hlt : id < h.length := by
        have := (List.getElem?_eq_some_iff.1 hk').1
        simp at this
        have := hs.n
        omega
      rw [List.getElem?_append_left hlt] at hk'
      rcases hs.live id k' hk' with ⟨l', hl'⟩ | rfl
      · exact .inl ⟨l', by simp [Ctx.push, hid, hl']⟩
      · exact .inr rfl
  inj i j li lj hi hj he := by
    simp only [Ctx.push] at hi hj
    by_cases h1 : i = c.n <;> by_cases h2 : j = c.n
    · omega
    · simp only [h1, if_true, h2, if_false, Option.some.injEq] at hi hj
      obtain ⟨k', _, _, h3⟩ := hs.loc j lj hj
      have := h3.lt; subst hi; omega
    · simp only [h1, if_false, h2, if_true, Option.some.injEq] at hi hj
      obtain ⟨k', _, _, h3⟩ := hs.loc i li hi
      have := h3.lt; subst hj; omega
    · simp only [h1, if_false, h2] at hi hj
      exact hs.inj i j li lj hi hj he

/-- The context behind new memory that is never written again. -/
def Ctx.zpush (c : Ctx) (b : Nat) (o : Obj) : Ctx := { c with z := fun i => if i = b then some o else c.z i }

theorem Ctx.le_zpush (c : Ctx) (b : Nat) (o : Obj) (hb : c.z b = none) : c.le (c.zpush b o) where
  z i x hi := by
    simp only [Ctx.zpush]
    by_cases e : i = b
    · rw [e, hb] at hi; cases hi
    · rw [if_neg e]; exact hi
  n := Nat.le_refl _
  loc id l' hid hl := ⟨l', hl, rfl, Nat.le_refl _, fun _ => ⟨rfl, rfl⟩⟩

theorem Ctx.lev_zpush (c : Ctx) (b : Nat) (o : Obj) (hb : ∀ cs ty fz, c.z b ≠ some (.cells cs ty fz)) : c.lev (c.zpush b o) where
  z i cs ty fz hi := by
    simp only [Ctx.zpush]
    by_cases e : i = b
    · rw [e] at hi; exact absurd hi (hb _ _ _)
    · rw [if_neg e]; exact hi
  n := Nat.le_refl _
  loc id l' hid hl := ⟨l', hl, rfl, Nat.le_refl _, fun _ => ⟨rfl, rfl⟩⟩

theorem Sim.zNone (hs : Sim L c h w) : c.z w.heap.size = none := by
  cases hz : c.z w.heap.size with
  | none => rfl
  | some x => have := lt_of_heap (hs.z _ _ hz); omega

theorem Sim.zpushR (hs : Sim L c h w) (o o' : Obj) (hr : real o = o') : Sim L (c.zpush w.heap.size o) h (w.alloc o') where
  z b x hb := by
    simp only [Ctx.zpush] at hb
    by_cases e : b = w.heap.size
    · simp only [e, if_true, Option.some.injEq] at hb; subst hb; rw [e, heap_new, hr]
    · rw [if_neg e] at hb; rw [heap_old (lt_of_heap (hs.z b x hb))]; exact hs.z b x hb
  n := hs.n
  loc id l hl := by
    obtain ⟨k, h1, h2, h3⟩ := hs.loc id l hl
    refine ⟨k, h1, ?_, h3.mono (c.le_zpush _ _ hs.zNone) (heap_old h3.lt)⟩
    have := h3.lt
    simp only [Ctx.zpush]
    rw [if_neg (by omega)]; exact h2
  live := hs.live
  inj := hs.inj

theorem Sim.zpush (hs : Sim L c h w) (o : Obj) (hr : real o = o := by rfl) : Sim L (c.zpush w.heap.size o) h (w.alloc o) := hs.zpushR o o hr

/-- A block that was held back is filled: its memory is never written again. -/
theorem Sim.fill (hs : Sim L c h w) {b : Nat} {cs cs' : Array Value} {ty ty' : TypeId} (hb : c.z b = some (.pending cs ty)) {w' : World} (hold : ∀ x, x ≠ b → w'.heap[x]? = w.heap[x]?) (hnew : w'.heap[b]? = some (.cells cs' ty' (0, 0))) :
    Sim L (c.zpush b (.cells cs' ty' (0, 0))) h w' where
  z x o ho := by
    simp only [Ctx.zpush] at ho
    by_cases e : x = b
    · simp only [e, if_true, Option.some.injEq] at ho; subst ho; rw [e, hnew]; rfl
    · rw [if_neg e] at ho; rw [hold x e]; exact hs.z x o ho
  n := hs.n
  loc id l hl := by
    obtain ⟨k, h1, h2, h3⟩ := hs.loc id l hl
    have hne : l.blk ≠ b := fun e => by rw [e, hb] at h2; cases h2
    refine ⟨k, h1, ?_, h3.monov (c.lev_zpush b _ (by rw [hb]; intro _ _ _ h; cases h)) (hold _ hne)⟩
    simp only [Ctx.zpush]; rw [if_neg hne]; exact h2
  live := hs.live
  inj := hs.inj

/-- A block is let go: its memory is never written again. -/
def Ctx.die (c : Ctx) (id : Nat) (b : Nat) (o : Obj) : Ctx := { c with z := fun i => if i = b then some o else c.z i, loc := fun i => if i = id then none else c.loc i }

theorem Ctx.le_die (c : Ctx) (id b : Nat) (o : Obj) (hb : c.z b = none) : c.le (c.die id b o) where
  z i x hi := by
    simp only [Ctx.die]
    by_cases e : i = b
    · rw [e, hb] at hi; cases hi
    · rw [if_neg e]; exact hi
  n := Nat.le_refl _
  loc i l' hid hl := by
    simp only [Ctx.die] at hl
    by_cases e : i = id
    · simp [e] at hl
    · rw [if_neg e] at hl; exact ⟨l', hl, rfl, Nat.le_refl _, fun _ => ⟨rfl, rfl⟩⟩

theorem Sim.die (hs : Sim L c h w) {id : Nat} {l : Loc} (hl : c.loc id = some l) {w' : World} (hold : ∀ b, b ≠ l.blk → w'.heap[b]? = w.heap[b]?) {o : Obj} (ho : w'.heap[l.blk]? = some o) (hr : real o = o := by rfl) : Sim L (c.die id l.blk o) (h.set id .dead) w' where
  z b x hb := by
    simp only [Ctx.die] at hb
    by_cases e : b = l.blk
    · simp only [e, if_true, Option.some.injEq] at hb; subst hb; rw [e, ho, hr]
    · rw [if_neg e] at hb; rw [hold b e]; exact hs.z b x hb
  n := by simp [Ctx.die, hs.n]
  loc i l' hl' := by
    simp only [Ctx.die] at hl'
    by_cases e : i = id
    · simp [e] at hl'
    · rw [if_neg e] at hl'
      obtain ⟨k, h1, h2, h3⟩ := hs.loc i l' hl'
      obtain ⟨_, _, hz, _⟩ := hs.loc id l hl
      have hne : l'.blk ≠ l.blk := fun he => e (hs.inj i id l' l hl' hl he)
      refine ⟨k, by rw [List.getElem?_set_ne (Ne.symm e)]; exact h1, ?_, h3.mono (c.le_die _ _ _ hz) (hold _ hne)⟩
      simp only [Ctx.die]
      rw [if_neg hne]; exact h2
  live i k hk := by
    by_cases e : i = id
    · subst e
      right
      rw [List.getElem?_set] at hk
      simp only [if_true] at hk
      split at hk <;> simp_all
    · rw [List.getElem?_set_ne (Ne.symm e)] at hk
      rcases hs.live i k hk with ⟨l', h1⟩ | rfl
      · exact .inl ⟨l', by simp [Ctx.die, e, h1]⟩
      · exact .inr rfl
  inj i j li lj hi hj he := by
    simp only [Ctx.die] at hi hj
    by_cases e1 : i = id
    · simp [e1] at hi
    · by_cases e2 : j = id
      · simp [e2] at hj
      · rw [if_neg e1] at hi; rw [if_neg e2] at hj; exact hs.inj i j li lj hi hj he

/-- A block of the heap is another one: it lies where l' says. -/
def Ctx.move (c : Ctx) (id : Nat) (l' : Loc) : Ctx := { c with loc := fun i => if i = id then some l' else c.loc i }

theorem Ctx.le_move (c : Ctx) (id : Nat) (l l' : Loc) (hl : c.loc id = some l) (htag : l.tag = l'.tag) (htot : l.tot ≤ l'.tot) (hsame : l.tot = l'.tot → l'.blk = l.blk ∧ l'.cap = l.cap) : c.le (c.move id l') where
  z _ _ hb := hb
  n := Nat.le_refl _
  loc i l'' hid hl'' := by
    simp only [Ctx.move] at hl''
    by_cases e : i = id
    · simp only [e, if_true, Option.some.injEq] at hl''
      subst hl''; subst e
      exact ⟨l, hl, htag, htot, hsame⟩
    · rw [if_neg e] at hl''; exact ⟨l'', hl'', rfl, Nat.le_refl _, fun _ => ⟨rfl, rfl⟩⟩

theorem Sim.move (hs : Sim L c h w) {id : Nat} {l l' : Loc} (hl : c.loc id = some l) {w' : World} (k : Blk)
    (hle : c.le (c.move id l')) (hz : c.z l'.blk = none) (hblk : l'.blk = l.blk ∨ w.heap.size ≤ l'.blk)
    (hold : ∀ b, b < w.heap.size → b ≠ l.blk → w'.heap[b]? = w.heap[b]?) (hzold : ∀ o, c.z l.blk = some o → w'.heap[l.blk]? = some (real o))
    (hk : BlkR L (c.move id l') w' l' k) : Sim L (c.move id l') (h.set id k) w' where
  z b x hb := by
    have h1 : w.heap[b]? = some (real x) := hs.z b x hb
    by_cases e : b = l.blk
    · subst e; exact hzold x hb
    · rw [hold b (lt_of_heap h1) e]; exact h1
  n := by simp [Ctx.move, hs.n]
  loc i li hli := by
    simp only [Ctx.move] at hli
    by_cases e : i = id
    · simp only [e, if_true, Option.some.injEq] at hli
      subst hli; subst e
      obtain ⟨k0, h1, _⟩ := hs.loc i l hl
      exact ⟨k, by rw [List.getElem?_set]; simp [(List.getElem?_eq_some_iff.1 h1).1], hz, hk⟩
    · rw [if_neg e] at hli
      obtain ⟨k', h1, h2, h3⟩ := hs.loc i li hli
      refine ⟨k', by rw [List.getElem?_set_ne (Ne.symm e)]; exact h1, h2, h3.mono hle (hold _ h3.lt ?_)⟩
      exact fun he => e (hs.inj i id li l hli hl he)
  live i k' hk' := by
    by_cases e : i = id
    · exact .inl ⟨l', by simp [Ctx.move, e]⟩
    · rw [List.getElem?_set_ne (Ne.symm e)] at hk'
      rcases hs.live i k' hk' with ⟨l'', h1⟩ | rfl
      · exact .inl ⟨l'', by simp [Ctx.move, e, h1]⟩
      · exact .inr rfl
  inj i j li lj hi hj he := by
    simp only [Ctx.move] at hi hj
    by_cases e1 : i = id <;> by_cases e2 : j = id
    · omega
    · simp only [e1, if_true, e2, if_false, Option.some.injEq] at hi hj
      subst hi
      obtain ⟨k', _, _, h3⟩ := hs.loc j lj hj
      rcases hblk with hb | hb
      · exact absurd (hs.inj j id lj l hj hl (by omega)) e2
      · have := h3.lt; omega
    · simp only [e1, if_false, e2, if_true, Option.some.injEq] at hi hj
      subst hj
      obtain ⟨k', _, _, h3⟩ := hs.loc i li hi
      rcases hblk with hb | hb
      · exact absurd (hs.inj i id li l hi hl (by omega)) e1
      · have := h3.lt; omega
    · simp only [e1, if_false, e2] at hi hj
      exact hs.inj i j li lj hi hj he

/-- What a path in a tree leads to, in cells. -/
theorem nodeAt_RC (hL : L.OK) : ∀ (p : List Nat) (v x : V) (us : List Value), RC L c v us → nodeAt p v = some x →
    ∃ o, L.walk v.ty p = some (o, x.ty) ∧ RC L c x ((us.drop o).take (L.csz x.ty)) ∧ o + L.csz x.ty ≤ us.length := by
  intro p
  induction p with
  | nil =>
    intro v x us hr hn
    simp only [nodeAt, Option.some.injEq] at hn
    subst hn
    have := RC_length hL v us hr
    exact ⟨0, by simp [Lay.walk], by simpa [← this] using hr, by omega⟩
  | cons i p ih =>
    intro v x us hr hn
    cases v with
    | st t fs =>
      simp only [RC] at hr
      obtain ⟨hr, hf, hsol⟩ := hr
      simp only [nodeAt] at hn
      split at hn
      · rename_i y hy
        have h1 := RCs_get hL hr hy
        have hle := RCs_get_le hL hr hy
        obtain ⟨o, h2, h3, h4⟩ := ih y x _ h1 hn
        have hlen := RC_length hL y _ h1
        refine ⟨((fs.take i).map fun v => L.csz v.ty).sum + o, ?_, ?_, ?_⟩
        · show L.walk (some t) (i :: p) = _
          simp only [Lay.walk, hf, List.getElem?_map, hy, Option.map_some, h2, ← List.map_take, List.map_map]
          rfl
        · rw [List.drop_take, List.take_take, List.drop_drop] at h3
          rw [List.length_take] at h4
          rwa [Nat.min_eq_left (by omega)] at h3
        · simp only [List.length_take, List.length_drop] at h4 hlen
          omega
      · cases hn
    | arr t es =>
      simp only [RC] at hr
      obtain ⟨hr, e, ha, he⟩ := hr
      simp only [nodeAt] at hn
      split at hn
      · rename_i y hy
        have h1 := RCs_get_uniform hL hr (fun z hz => (he z hz).1) hy
        have hle := RCs_get_uniform_le hL hr (fun z hz => (he z hz).1) hy
        obtain ⟨o, h2, h3, h4⟩ := ih y x _ h1 hn
        have hlen := RC_length hL y _ h1
        have hye : y.ty = e := (he y (List.mem_of_getElem? hy)).1
        have hi := (List.getElem?_eq_some_iff.1 hy).1
        refine ⟨i * L.csz e + o, ?_, ?_, ?_⟩
        · show L.walk (some t) (i :: p) = _
          simp only [Lay.walk, hL.no _ _ ha, ha, if_pos hi, ← hye, h2, Option.map_some]
        · rw [List.drop_take, List.take_take, List.drop_drop] at h3
          rw [List.length_take] at h4
          rwa [Nat.min_eq_left (by omega)] at h3
        · simp only [List.length_take, List.length_drop] at h4 hlen
          omega
      · cases hn
    | _ => simp [nodeAt] at hn

/-- Cells laid over others. -/
def lay (us : List Value) (o : Nat) (ys : List Value) : List Value := us.take o ++ (ys ++ us.drop (o + ys.length))
theorem length_lay (us ys : List Value) (o : Nat) (hl : o + ys.length ≤ us.length) : (lay us o ys).length = us.length := by simp [lay]; omega

theorem lay_append_left (a b ys : List Value) (o : Nat) (hl : o + ys.length ≤ a.length) : lay (a ++ b) o ys = lay a o ys ++ b := by
  simp only [lay]
  rw [List.take_append_of_le_length (by omega), List.drop_append_of_le_length (by omega)]
  simp

theorem lay_append_right (a b ys : List Value) (o : Nat) : lay (a ++ b) (a.length + o) ys = a ++ lay b o ys := by
  simp only [lay]
  rw [List.take_append, List.drop_append]
  simp [Nat.add_assoc, List.drop_of_length_le, List.take_of_length_le]

theorem lay_take (us ys : List Value) (o n : Nat) (h1 : o + ys.length ≤ n) (h2 : n ≤ us.length) : (lay us o ys).take n = lay (us.take n) o ys := by
  obtain ⟨a, b, rfl, ha⟩ : ∃ a b, us = a ++ b ∧ a.length = n := ⟨us.take n, us.drop n, (List.take_append_drop _ _).symm, by simp; omega⟩
  rw [lay_append_left _ _ _ _ (by omega), List.take_append_of_le_length (by rw [length_lay _ _ _ (by omega)]; omega),
    List.take_of_length_le (by rw [length_lay _ _ _ (by omega)]; omega), List.take_append_of_le_length (by omega), List.take_of_length_le (by omega)]

/-- Inside one part. -/
theorem lay_mid (us ys : List Value) (k n o : Nat) (hk : k + n ≤ us.length) (hl : o + ys.length ≤ n) :
    lay us (k + o) ys = lay us k (lay ((us.drop k).take n) o ys) := by
  have e1 : us = us.take k ++ ((us.drop k).take n ++ us.drop (k + n)) := by
    conv => lhs; rw [← List.take_append_drop k us, ← List.take_append_drop n (us.drop k)]
    rw [List.drop_drop]
  have lk : (us.take k).length = k := by simp; omega
  have ln : ((us.drop k).take n).length = n := by simp; omega
  have hlen : (lay ((us.drop k).take n) o ys).length = n := by rw [length_lay _ _ _ (by omega), ln]
  have e2 : lay us k (lay ((us.drop k).take n) o ys) = us.take k ++ (lay ((us.drop k).take n) o ys ++ us.drop (k + n)) := by
    simp only [lay] at hlen ⊢
    rw [hlen]
  rw [e2]
  conv => lhs; rw [e1]
  have := lay_append_right (us.take k) ((us.drop k).take n ++ us.drop (k + n)) ys o
  rw [lk] at this
  rw [this, lay_append_left _ _ _ _ (by omega)]

theorem RCs_set (hL : L.OK) {y : V} {ys : List Value} (hy : RC L c y ys) : ∀ (vs : List V) (us : List Value) (i : Nat) (v : V), RCs L c vs us → vs[i]? = some v → y.ty = v.ty →
    RCs L c (vs.set i y) (lay us (((vs.take i).map fun v => L.csz v.ty).sum) ys) := by
  intro vs
  induction vs with
  | nil => intro us i v _ hi; simp at hi
  | cons x xs ih =>
    intro us i v hr hi hty
    simp only [RCs] at hr
    obtain ⟨u1, u2, rfl, h1, h2⟩ := hr
    have hlen := RC_length hL x u1 h1
    have hylen := RC_length hL y ys hy
    cases i with
    | zero =>
      simp at hi; subst hi
      rw [hty] at hylen
      simp only [List.set_cons_zero, RCs, List.take_zero, List.map_nil, List.sum_nil]
      refine ⟨ys, u2, ?_, hy, h2⟩
      simp only [lay, List.take_zero, List.nil_append, Nat.zero_add]
      rw [show ys.length = u1.length by omega, List.drop_left]
    | succ i =>
      simp at hi
      simp only [List.set_cons_succ, RCs, List.take_succ_cons, List.map_cons, List.sum_cons]
      refine ⟨u1, _, ?_, h1, ih u2 i v h2 hi hty⟩
      rw [← hlen, lay_append_right]

theorem putAt_RC (hL : L.OK) {y : V} {ys : List Value} (hy : RC L c y ys) (hys : y.solid = true) : ∀ (p : List Nat) (v v' old : V) (us : List Value), RC L c v us → nodeAt p v = some old → putAt y p v = some v' → y.ty = old.ty →
    ∃ o, L.walk v.ty p = some (o, old.ty) ∧ RC L c v' (lay us o ys) ∧ v'.ty = v.ty ∧ o + ys.length ≤ us.length ∧ v'.solid = true := by
  intro p
  induction p with
  | nil =>
    intro v v' old us hr hn hp hty
    simp only [nodeAt, Option.some.injEq] at hn
    simp only [putAt, Option.some.injEq] at hp
    subst hn; subst hp
    have h1 := RC_length hL v us hr
    have h2 := RC_length hL y ys hy
    rw [hty] at h2
    refine ⟨0, by simp [Lay.walk], ?_, hty, by omega, hys⟩
    simp only [lay, List.take_zero, List.nil_append, Nat.zero_add]
    rw [List.drop_of_length_le (by omega), List.append_nil]; exact hy
  | cons i p ih =>
    intro v v' old us hr hn hp hty
    cases v with
    | st t fs =>
      simp only [RC] at hr
      obtain ⟨hr, hf, hsol⟩ := hr
      simp only [nodeAt] at hn
      simp only [putAt] at hp
      split at hn
      · rename_i x hx
        rw [hx] at hp
        obtain ⟨x', hx', rfl⟩ := Option.map_eq_some_iff.1 hp
        have h1 := RCs_get hL hr hx
        have hle := RCs_get_le hL hr hx
        obtain ⟨o, h2, h3, h4, h5, h6⟩ := ih x x' old _ h1 hn hx' hty
        have hlen := RC_length hL x _ h1
        refine ⟨((fs.take i).map fun v => L.csz v.ty).sum + o, ?_, ?_, rfl, by omega, rfl⟩
        · show L.walk (some t) (i :: p) = _
          simp only [Lay.walk, hf, List.getElem?_map, hx, Option.map_some, h2, ← List.map_take, List.map_map]
          rfl
        · rw [lay_mid us ys _ (L.csz x.ty) o (by omega) (by omega)]
          simp only [RC]
          refine ⟨RCs_set hL h3 fs us i x hr hx h4, ?_, fun z hz => ?_⟩
          · rw [List.map_set, h4, hf]
            congr 1
            refine List.ext_getElem? fun j => ?_
            by_cases e : j = i
            · subst e
              rw [List.getElem?_set, List.getElem?_map, hx]
              simp [(List.getElem?_eq_some_iff.1 hx).1]
            · rw [List.getElem?_set_ne (Ne.symm e)]
          · rcases List.mem_or_eq_of_mem_set hz with hz | rfl
            · exact hsol z hz
            · exact h6
      · cases hn
    | arr t es =>
      simp only [RC] at hr
      obtain ⟨hr, e, ha, he⟩ := hr
      simp only [nodeAt] at hn
      simp only [putAt] at hp
      split at hn
      · rename_i x hx
        rw [hx] at hp
        obtain ⟨x', hx', rfl⟩ := Option.map_eq_some_iff.1 hp
        have hxe : x.ty = e := (he x (List.mem_of_getElem? hx)).1
        have h1 := RCs_get hL hr hx
        have hle := RCs_get_le hL hr hx
        have hi := (List.getElem?_eq_some_iff.1 hx).1
        have hsum : ((es.take i).map fun v => L.csz v.ty).sum = i * L.csz e := sum_take_const es _ _ i (fun z hz => by rw [(he z hz).1]) (by omega)
        obtain ⟨o, h2, h3, h4, h5, h6⟩ := ih x x' old _ h1 hn hx' hty
        have hlen := RC_length hL x _ h1
        refine ⟨i * L.csz e + o, ?_, ?_, rfl, by omega, rfl⟩
        · show L.walk (some t) (i :: p) = _
          simp only [Lay.walk, hL.no _ _ ha, ha, if_pos hi, ← hxe, h2, Option.map_some]
        · rw [← hsum, lay_mid us ys _ (L.csz x.ty) o (by omega) (by omega)]
          simp only [RC]
          refine ⟨RCs_set hL h3 es us i x hr hx h4, e, by simpa using ha, fun z hz => ?_⟩
          rcases List.mem_or_eq_of_mem_set hz with hz | rfl
          · exact he z hz
          · exact ⟨by rw [h4, hxe], h6⟩
      · cases hn
    | _ => simp [nodeAt] at hn

/-- The cells of what can lie in memory are single ones. -/
def oneCells (us : List Value) : Prop := ∀ u ∈ us, u.oneCell' = true

theorem heap_setCell_row (w : World) (b i : Nat) (us : Array Value) (ty : TypeId) (fz : Nat × Nat) (v : Value) (hg : w.heap[b]? = some (.cells us ty fz)) :
    (w.setCell ⟨b, i, none⟩ v).heap[b]? = some (.cells (us.setIfInBounds i v) ty fz) := by
  simp [World.setCell, Array.getElem?_modify, hg]

theorem heap_setCells (b : Nat) (ty : TypeId) (fz : Nat × Nat) : ∀ (vs : List Value) (o : Nat) (us : Array Value) (w : World), w.heap[b]? = some (.cells us ty fz) → o + vs.length ≤ us.size →
    (w.setCells b o vs).heap[b]? = some (.cells (lay us.toList o vs).toArray ty fz)
  | [], o, us, w, hg, _ => by simp [World.setCells, lay, hg]
  | v :: r, o, us, w, hg, hl => by
    simp only [World.setCells]
    simp at hl
    rw [heap_setCells b ty fz r (o + 1) _ _ (heap_setCell_row w b o us ty fz v hg) (by simp; omega)]
    congr 2
    simp only [lay, Array.toList_setIfInBounds]
    rw [List.take_set, List.drop_set]
    have h1 : (us.toList.take (o + 1)).set o v = us.toList.take o ++ [v] := by
      rw [List.take_succ_eq_append_getElem (by simp; omega)]
      rw [List.set_append_right _ _ (by simp; exact Nat.min_le_left _ _)]
      simp [Nat.min_eq_left (show o ≤ us.size by omega), List.set_cons_zero]
    rw [h1, if_pos (by omega)]
    simp [Nat.add_assoc, Nat.add_comm 1]

theorem heap_setCells_other (b : Nat) : ∀ (vs : List Value) (o : Nat) (w : World) (k : Nat), k ≠ b → (w.setCells b o vs).heap[k]? = w.heap[k]?
  | [], _, _, _, _ => rfl
  | v :: r, o, w, k, hk => by
    simp only [World.setCells]
    rw [heap_setCells_other b r _ _ k hk]
    exact RowKit.Below.heap_setCell w ⟨b, o, none⟩ v k hk

theorem St.setCells (b : Nat) : ∀ (vs : List Value) (o : Nat) (w : World), St w (w.setCells b o vs)
  | [], _, w => St.refl w
  | v :: r, o, w => by
    simp only [World.setCells]
    exact St.trans (show St w (w.setCell ⟨b, o, none⟩ v) from ⟨rfl, rfl, rfl, by simp⟩) (St.setCells b r (o + 1) _)

theorem cell_of_heap {w : World} {b j : Nat} {us : Array Value} {ty : TypeId} {fz : Nat × Nat} (hg : w.heap[b]? = some (.cells us ty fz)) : w.cell? ⟨b, j, none⟩ = us[j]? := by
  simp [World.cell?, hg]
theorem frozen_of_heap {w : World} {b j : Nat} {us : Array Value} {ty : TypeId} {fz : Nat × Nat} (hg : w.heap[b]? = some (.cells us ty fz)) (hf : ∀ j, j < us.size → ¬ (fz.1 ≤ j ∧ j < fz.2)) (hj : j < us.size) : w.frozen? ⟨b, j, none⟩ = false := by
  have := hf j hj
  simp only [World.frozen?, hg]
  simp only [not_and] at this
  simp only [Bool.and_eq_false_iff, decide_eq_false_iff_not]
  by_cases h1 : fz.1 ≤ j
  · exact .inr (this h1)
  · exact .inl h1

theorem rowOf_some {h : Hp} {id tot : Nat} {g : Option Nat} {es : List V} (hr : rowOf h id tot = some (g, es)) : h[id]? = some (.cells g es) ∧ es.length = tot := by
  unfold rowOf at hr
  split at hr
  · rename_i g' es' he
    split at hr
    · rename_i hlen
      simp only [Option.some.injEq, Prod.mk.injEq] at hr
      obtain ⟨rfl, rfl⟩ := hr
      exact ⟨he, hlen⟩
    · cases hr
  · cases hr

/-- A block of cells, in Go's memory. -/
theorem Sim.row (hs : Sim L c h w) {id tot : Nat} {g : Option Nat} {es : List V} (hr : rowOf h id tot = some (g, es)) :
    ∃ l, c.loc id = some l ∧ l.tot = tot ∧ l.tag = g ∧ c.z l.blk = none ∧ BlkR L c w l (.cells g es) := by
  obtain ⟨h1, h2⟩ := rowOf_some hr
  rcases hs.live id _ h1 with ⟨l, hl⟩ | hd
  · obtain ⟨k, h3, h4, h5⟩ := hs.loc id l hl
    rw [h1] at h3; cases h3
    exact ⟨l, hl, by rw [h5.2.1, h2], h5.1, h4, h5⟩
  · cases hd

/-- The cells of what stands at an address. -/
theorem Sim.node (hL : L.OK) (hs : Sim L c h w) {id tot : Nat} {path : List Nat} {v : V} (hn : node h id path tot = some v) :
    ∃ l o us ty fz, c.loc id = some l ∧ l.tot = tot ∧ L.off l.tag path = some o ∧ w.heap[l.blk]? = some (.cells us ty fz) ∧ (∀ j, j < us.size → ¬ (fz.1 ≤ j ∧ j < fz.2)) ∧
      o + L.csz v.ty ≤ us.size ∧ RC L c v ((us.toList.drop o).take (L.csz v.ty)) := by
  unfold Vm.node at hn
  split at hn
  · rename_i g es i p hr
    obtain ⟨l, hl, htot, htag, hz, _, _, hcap, hes, us, ty, fz, hg, hsz, hfz, hrc⟩ := hs.row hr
    split at hn
    · rename_i e he
      have hge := fun x hx => (hes x hx).1
      have h1 := RCs_get_uniform hL hrc hge he
      have h1le := RCs_get_uniform_le hL hrc hge he
      have hee : e.ty = g := hge e (List.mem_of_getElem? he)
      obtain ⟨o, h2, h3, h4⟩ := nodeAt_RC hL p e v _ h1 hn
      have hlen := RC_length hL e _ h1
      rw [hee] at hlen
      have htk : (us.toList.take (es.length * L.csz g)).length ≤ us.size := by simp; omega
      refine ⟨l, i * L.csz g + o, us, ty, fz, hl, htot, ?_, hg, hfz.1, by omega, ?_⟩
      · simp only [Lay.off, htag, ← hee, h2, Option.map_some]
      · have hil := (List.getElem?_eq_some_iff.1 he).1
        have hb : (i + 1) * L.csz g ≤ es.length * L.csz g := Nat.mul_le_mul_right _ (by omega)
        rw [Nat.add_mul, Nat.one_mul] at hb
        rw [List.drop_take, List.take_take, List.drop_drop, List.drop_take, List.take_take] at h3
        rw [hlen] at h4
        rw [Nat.min_eq_left (by omega), Nat.min_eq_left (by omega)] at h3
        exact h3
    · cases hn
  · cases hn

theorem RCs_oneCells {vs : List V} (ih : ∀ v ∈ vs, v.solid = true → ∀ us, RC L c v us → oneCells us) (hs : ∀ v ∈ vs, v.solid = true) : ∀ us, RCs L c vs us → oneCells us := by
  induction vs with
  | nil => intro us h; simp only [RCs] at h; subst h; intro u hu; simp at hu
  | cons v vs iv =>
    intro us h
    simp only [RCs] at h
    obtain ⟨u1, u2, rfl, h1, h2⟩ := h
    intro u hu
    rcases List.mem_append.1 hu with hu | hu
    · exact ih v (by simp) (hs v (by simp)) u1 h1 u hu
    · exact iv (fun x hx => ih x (by simp [hx])) (fun x hx => hs x (by simp [hx])) u2 h2 u hu

theorem one_oneCells {u : Value} (hu : u.oneCell' = true) : oneCells [u] := by intro x hx; simp at hx; subst hx; exact hu

theorem RC_oneCells : ∀ (v : V), v.solid = true → ∀ us, RC L c v us → oneCells us := by
  intro v
  induction v using V.rec (motive_2 := fun vs => ∀ v ∈ vs, v.solid = true → ∀ us, RC L c v us → oneCells us) with
  | s x => intro _ us h; simp only [RC] at h; rw [h.1]; exact one_oneCells h.2
  | ptr => intro _ us h; simp only [RC] at h; obtain ⟨a, h, _⟩ := h; rw [h]; exact one_oneCells rfl
  | ref => intro _ us h; simp only [RC] at h; obtain ⟨a, k, h, _⟩ := h; rw [h]; exact one_oneCells rfl
  | imm => intro _ us h; simp only [RC] at h; obtain ⟨a, k, h, _⟩ := h; rw [h]; exact one_oneCells rfl
  | iptr => intro _ us h; simp only [RC] at h; obtain ⟨_, _, _, _, _, h, _⟩ := h; rw [h]; exact one_oneCells rfl
  | st t fs ih => intro _ us h; simp only [RC] at h; exact RCs_oneCells ih h.2.2 us h.1
  | arr t es ih => intro _ us h; simp only [RC] at h; obtain ⟨h, e, _, he⟩ := h; exact RCs_oneCells ih (fun x hx => (he x hx).2) us h
  | tup => intro h; cases h
  | iface => intro _ us h; simp only [RC] at h; obtain ⟨u, us', h, _⟩ := h; rw [h]; exact one_oneCells rfl
  | fn => intro _ us h; simp only [RC] at h; obtain ⟨ws, h, _⟩ := h; rw [h]; exact one_oneCells rfl
  | mp => intro _ us h; simp only [RC] at h; obtain ⟨b, h, _⟩ := h; rw [h]; exact one_oneCells rfl
  | top => intro h; cases h
  | nil => rename_i hv _ _ _; exact absurd hv (by simp)
  | cons v vs h1 h2 =>
    rename_i x hx hs us h
    rcases List.mem_cons.1 hx with rfl | hx
    · exact h1 hs us h
    · exact h2 x hx hs us h
end Go.Vm
/- Go's loads, stores and parts, of what stands for a value of the abstract machine. -/
namespace Go.Vm
set_option linter.unusedVariables false

def aggD : TypeDesc → Bool
  | .struct _ => true
  | .array _ _ => true
  | _ => false

/-- A type of the program is of a kind. -/
structure TG (P : Program) (L : Lay) (ty : TypeId) (g : Option Nat) : Prop where
  info : ∃ i, P.info? ty = some i ∧ i.size = L.csz g
  under : ∃ d, P.underlying ty = some d ∧ aggD d = g.isSome

variable {P : Program} {L : Lay} {c : Ctx} {h : Hp} {w : World} {ty : TypeId} {g : Option Nat}

theorem TG.isAgg (ht : TG P L ty g) (w : World) : (isAgg ty).run P w = .ok g.isSome w := by
  obtain ⟨d, h1, h2⟩ := ht.under
  simp only [Go.isAgg, underlying, Sem.run_bind, run_program, Result.andThen_ok, h1, Sem.run_pure]
  rw [← h2]
  cases d <;> rfl

theorem TG.sizeOf (ht : TG P L ty g) (w : World) : (Go.sizeOf ty).run P w = .ok (L.csz g) w := by
  obtain ⟨i, h1, h2⟩ := ht.info
  simp [Go.sizeOf, typeInfo, h1, h2]

theorem add_mid (b o n : Nat) : (⟨b, o, none⟩ : Addr).add n = ⟨b, o + n, none⟩ := by unfold Addr.add; split <;> simp_all

theorem wr_of_none {v : V} {us : List Value} {u : Value} (hv : v.ty = none) : wr v us u ↔ us = [u] := by
  cases v <;> first | (simp [V.ty] at hv; done) | exact Iff.rfl
theorem wr_of_some {v : V} {t : Nat} {us : List Value} {u : Value} (hv : v.ty = some t) : wr v us u ↔ u = .agg us.toArray := by
  cases v <;> first | (simp [V.ty] at hv; done) | exact Iff.rfl

/-- A load of what lies in a block. -/
theorem run_loadVar_at (hL : L.OK) {v : V} (ht : TG P L ty v.ty) {b o : Nat} {us : Array Value} {e : TypeId} {fz : Nat × Nat} (hg : w.heap[b]? = some (.cells us e fz))
    (hr : RC L c v ((us.toList.drop o).take (L.csz v.ty))) : ∃ u, (loadVar ty ⟨b, o, none⟩).run P w = .ok u w ∧ RV L c v u := by
  have hlen := RC_length hL v _ hr
  cases hv : v.ty with
  | none =>
    rw [hv] at hlen hr ht
    simp only [Lay.csz] at hlen hr
    obtain ⟨u, hu⟩ := List.length_eq_one_iff.1 hlen
    have h0 : us[o]? = some u := by
      have : ((us.toList.drop o).take 1)[0]? = some u := by rw [hu]; rfl
      simpa using this
    refine ⟨u, ?_, ⟨_, hr, (wr_of_none hv).2 hu⟩⟩
    simp only [loadVar, Sem.run_bind, ht.isAgg, Option.isSome_none, Result.andThen_ok, Bool.false_eq_true, if_false, run_load, cell_of_heap hg, h0]
  | some t =>
    rw [hv] at hlen hr ht
    refine ⟨.agg ((us.toList.drop o).take (L.csz (some t))).toArray, ?_, ⟨_, hr, (wr_of_some hv).2 rfl⟩⟩
    have hl : (loadCells ⟨b, o, none⟩ ((us.toList.drop o).take (L.csz (some t))).length).run P w = .ok ((us.toList.drop o).take (L.csz (some t))).toArray w :=
      run_loadCells_list (P := P) w ⟨b, o, none⟩ _ (fun j v hj => by
        rw [add_mid, cell_of_heap hg]
        have hjl := (List.getElem?_eq_some_iff.1 hj).1
        rw [List.getElem?_take, if_pos (by rw [hlen] at hjl; exact hjl), List.getElem?_drop] at hj
        simpa using hj)
    rw [hlen] at hl
    simp only [loadVar, Sem.run_bind, ht.isAgg, Option.isSome_some, Result.andThen_ok, if_true, ht.sizeOf, hl, Sem.run_pure]

/-- A part of an aggregate's cells. -/
theorem run_part_at (hL : L.OK) {v : V} (ht : TG P L ty v.ty) {o : Nat} {us : List Value} (hr : RC L c v ((us.drop o).take (L.csz v.ty))) :
    ∃ u, (part ty us.toArray o).run P w = .ok u w ∧ RV L c v u := by
  have hlen := RC_length hL v _ hr
  cases hv : v.ty with
  | none =>
    rw [hv] at hlen hr ht
    simp only [Lay.csz] at hlen hr
    obtain ⟨u, hu⟩ := List.length_eq_one_iff.1 hlen
    have h0 : us[o]? = some u := by
      have : ((us.drop o).take 1)[0]? = some u := by rw [hu]; rfl
      simpa using this
    refine ⟨u, ?_, ⟨_, hr, (wr_of_none hv).2 hu⟩⟩
    simp only [part, Sem.run_bind, ht.isAgg, Option.isSome_none, Result.andThen_ok, Bool.false_eq_true, if_false]
    have : us.toArray[o]? = some u := by simpa using h0
    rw [this]; rfl
  | some t =>
    rw [hv] at hlen hr ht
    refine ⟨.agg ((us.drop o).take (L.csz (some t))).toArray, ?_, ⟨_, hr, (wr_of_some hv).2 rfl⟩⟩
    simp only [part, Sem.run_bind, ht.isAgg, Option.isSome_some, Result.andThen_ok, if_true, ht.sizeOf, Sem.run_pure]
    congr 2
    apply Array.ext'
    simp [List.extract]

/-- What a value's cells are, as one of Go's. -/
theorem RV.cells {v : V} {u : Value} (hsol : v.solid = true) (hv : RV L c v u) : RC L c v u.cells.toList ∧ wr v u.cells.toList u := by
  obtain ⟨us, h1, h2⟩ := hv
  cases ht : v.ty with
  | none =>
    have h3 := (wr_of_none ht).1 h2
    subst h3
    have h4 := RC_oneCells v hsol _ h1 u (by simp)
    cases u <;> first | (simp [Value.oneCell'] at h4; done) | exact ⟨h1, by rw [wr_of_none ht]; rfl⟩
  | some t =>
    have h3 := (wr_of_some ht).1 h2
    subst h3
    exact ⟨by simpa [Value.cells] using h1, by rw [wr_of_some ht]; simp [Value.cells]⟩

/-- A store into a block that may be written. -/
theorem run_storeVar_at (hL : L.OK) {v : V} (ht : TG P L ty v.ty) {u : Value} (hsol : v.solid = true) (hv : RV L c v u) {b o : Nat} {us : Array Value} {e : TypeId} {fz : Nat × Nat} (hg : w.heap[b]? = some (.cells us e fz))
    (hfz : ∀ j, j < us.size → ¬ (fz.1 ≤ j ∧ j < fz.2)) (hle : o + L.csz v.ty ≤ us.size) :
    (storeVar ty ⟨b, o, none⟩ u).run P w = .ok () (w.setCells b o u.cells.toList) := by
  obtain ⟨h1, h2⟩ := hv.cells hsol
  have hlen := RC_length hL v _ h1
  simp at hlen
  have hone := RC_oneCells v hsol _ h1
  have := run_storeCells_cells (P := P) b o u.cells.toList 0 w
    (fun j hj => by rw [cell_of_heap hg]; simp at hj ⊢; omega)
    (fun j hj => frozen_of_heap hg hfz (by simp at hj; omega)) hone
  simp only [storeVar, Sem.run_bind, ht.sizeOf, Result.andThen_ok, hlen]
  simpa using this

theorem RV.solid_cells_length (hL : L.OK) {v : V} {u : Value} (hsol : v.solid = true) (hv : RV L c v u) : u.cells.toList.length = L.csz v.ty := RC_length hL v _ (hv.cells hsol).1

theorem walk_snoc {g : Option Nat} {i : Nat} : ∀ {p : List Nat} {o : Nat} {g' : Option Nat} {r : Nat × Option Nat}, L.walk g p = some (o, g') → L.walk g' [i] = some r → L.walk g (p ++ [i]) = some (o + r.1, r.2) := by
  intro p
  induction p generalizing g with
  | nil => intro o g' r h1 h2; simp only [Lay.walk, Option.some.injEq, Prod.mk.injEq] at h1; obtain ⟨rfl, rfl⟩ := h1; simpa using h2
  | cons j p ih =>
    intro o g' r h1 h2
    cases g with
    | none => simp [Lay.walk] at h1
    | some t =>
      simp only [List.cons_append, Lay.walk] at h1 ⊢
      cases hf : L.fields t with
      | some fs =>
        simp only [hf] at h1 ⊢
        cases hj : fs[j]? with
        | none => simp [hj] at h1
        | some x =>
          simp only [hj] at h1 ⊢
          obtain ⟨⟨o1, g1⟩, h3, h4⟩ := Option.map_eq_some_iff.1 h1
          simp only [Prod.mk.injEq] at h4
          obtain ⟨rfl, rfl⟩ := h4
          rw [ih h3 h2]
          simp [Nat.add_assoc]
      | none =>
        simp only [hf] at h1 ⊢
        cases ha : L.arr t with
        | none => simp [ha] at h1
        | some ne =>
          obtain ⟨n, e⟩ := ne
          simp only [ha] at h1 ⊢
          by_cases hjn : j < n
          · simp only [if_pos hjn] at h1 ⊢
            obtain ⟨⟨o1, g1⟩, h3, h4⟩ := Option.map_eq_some_iff.1 h1
            simp only [Prod.mk.injEq] at h4
            obtain ⟨rfl, rfl⟩ := h4
            rw [ih h3 h2]
            simp [Nat.add_assoc]
          · simp [hjn] at h1

theorem off_snoc {g g' : Option Nat} {i j : Nat} {p : List Nat} {o : Nat} {r : Nat × Option Nat} (h1 : L.off g (j :: p) = some o) (h3 : ∃ o', L.walk g p = some (o', g')) (h2 : L.walk g' [i] = some r) : L.off g (j :: p ++ [i]) = some (o + r.1) := by
  obtain ⟨o', h3⟩ := h3
  simp only [Lay.off, h3, Option.map_some, Option.some.injEq] at h1
  subst h1
  simp only [List.cons_append, Lay.off, walk_snoc h3 h2, Option.map_some, Nat.add_assoc]

theorem walk_field {t i : Nat} {fs : List (Option Nat)} {x : Option Nat} (hf : L.fields t = some fs) (hi : fs[i]? = some x) : L.walk (some t) [i] = some (((fs.take i).map L.csz).sum, x) := by
  simp [Lay.walk, hf, hi]
theorem walk_elem (hL : L.OK) {t i n : Nat} {e : Option Nat} (ha : L.arr t = some (n, e)) (hi : i < n) : L.walk (some t) [i] = some (i * L.csz e, e) := by
  simp [Lay.walk, hL.no _ _ ha, ha, hi]

/-- What stands at an address, and where it lies. -/
theorem Sim.nodeAt (hL : L.OK) (hs : Sim L c h w) {id tot : Nat} {path : List Nat} {v : V} (hn : Vm.node h id path tot = some v) :
    ∃ l j p o us e fz, path = j :: p ∧ c.loc id = some l ∧ l.tot = tot ∧ L.off l.tag path = some o ∧ (∃ o', L.walk l.tag p = some (o', v.ty)) ∧ w.heap[l.blk]? = some (.cells us e fz) ∧ c.z l.blk = none ∧
      (∀ j, j < us.size → ¬ (fz.1 ≤ j ∧ j < fz.2)) ∧ o + L.csz v.ty ≤ us.size ∧ RC L c v ((us.toList.drop o).take (L.csz v.ty)) := by
  obtain ⟨l, o, us, e, fz, hl, htot, hoff, hg, hfz, hle, hr⟩ := hs.node hL hn
  obtain ⟨k, hk, hz, _⟩ := hs.loc id l hl
  have hn' := hn
  unfold Vm.node at hn'
  split at hn'
  · rename_i g es i p hrow
    obtain ⟨l', hl', _, htag, _, _, _, _, hes, us', ty', fz', hg', hsz', _, hrc⟩ := hs.row hrow
    rw [hl] at hl'; cases hl'
    split at hn'
    · rename_i x hx
      have h1 := RCs_get_uniform hL hrc (fun y hy => (hes y hy).1) hx
      obtain ⟨o', h2, _⟩ := nodeAt_RC hL p x v _ h1 hn'
      have hxe : x.ty = g := (hes x (List.mem_of_getElem? hx)).1
      exact ⟨l, i, p, o, us, e, fz, rfl, hl, htot, hoff, ⟨o', by rw [htag, ← hxe]; exact h2⟩, hg, hz, hfz, hle, hr⟩
    · cases hn'
  · cases hn'
end Go.Vm
/- The abstract machine's operations are Go's: addresses, loads, stores, new variables. -/
namespace Go.Vm
set_option linter.unusedVariables false
variable {P : Program} {L : Lay} {c : Ctx} {h : Hp} {w : World}

/-- What an operation of Go's came to stands for what the machine's came to. -/
def Does (L : Lay) (c : Ctx) (w : World) (r : Result Value) (v : V) (h' : Hp) : Prop :=
  ∃ u c' w', r = .ok u w' ∧ RV L c' v u ∧ Sim L c' h' w' ∧ c.le c' ∧ St w w'

theorem Does.same {r : Result Value} {v : V} {u : Value} (hr : r = .ok u w) (hv : RV L c v u) (hs : Sim L c h w) : Does L c w r v h :=
  ⟨u, c, w, hr, hv, hs, Ctx.le_refl c, St.refl w⟩

theorem RV_ptr {id : Nat} {path : List Nat} {tot : Nat} {u : Value} : RV L c (.ptr id path tot) u ↔ ∃ a, u = .pointer (some a) ∧ id < c.n ∧
      ∀ l, c.loc id = some l → tot ≤ l.tot ∧ (l.tot = tot → ∃ o, L.off l.tag path = some o ∧ a = ⟨l.blk, o, none⟩) := by
  rw [RV_leaf rfl]
  simp only [RC, List.cons.injEq, and_true]
theorem RV_iptr {v : V} {u : Value} : RV L c (.iptr v) u ↔ ∃ b off cs ty fz, u = .pointer (some ⟨b, off, none⟩) ∧ c.z b = some (.cells cs ty fz) ∧ RC L c v (seg cs off (L.csz v.ty)) := by
  rw [RV_leaf rfl]
  simp only [RC, List.cons.injEq, and_true]
theorem RV_s {x u : Value} : RV L c (.s x) u ↔ u = x ∧ x.oneCell' = true := by
  rw [RV_leaf rfl]
  simp only [RC, List.cons.injEq, and_true]

/-- A live pointer of the machine's, as one of Go's. -/
theorem ptr_live {id tot : Nat} {path : List Nat} {u : Value} {l : Loc} {o : Nat} (hp : RV L c (.ptr id path tot) u) (hl : c.loc id = some l) (ht : l.tot = tot) (ho : L.off l.tag path = some o) : u = .pointer (some ⟨l.blk, o, none⟩) := by
  obtain ⟨a, hu, _, hall⟩ := RV_ptr.1 hp
  obtain ⟨_, hx⟩ := hall l hl
  obtain ⟨o', h1, h2⟩ := hx ht
  rw [ho] at h1; cases h1
  rw [hu, h2]

theorem ptr_mk (hs : Sim L c h w) {id tot : Nat} {path : List Nat} {l : Loc} {o : Nat} (hl : c.loc id = some l) (ht : l.tot = tot) (ho : L.off l.tag path = some o) : RV L c (.ptr id path tot) (.pointer (some ⟨l.blk, o, none⟩)) := by
  refine RV_ptr.2 ⟨_, rfl, hs.locLt hl, fun l' hl' => ?_⟩
  rw [hl] at hl'; cases hl'
  exact ⟨by omega, fun _ => ⟨o, ho, rfl⟩⟩

/-- The address of a field. -/
theorem do_fa (hL : L.OK) (hs : Sim L c h w) {T t i : Nat} {fields : Array Field} {f : Field} {gs : List (Option Nat)} (hu : P.underlying T = some (.struct fields)) (hf : fields[i]? = some f)
    (hsz : P.cellsOf f.type ≠ 0) (hgs : L.fields t = some gs) (hoff : f.offset = ((gs.take i).map L.csz).sum) {x : V} {ux : Value} (hx : RV L c x ux) {v : V} {h' : Hp}
    (hop : opFa h t i x = some (v, h')) : Does L c w ((Instr.fieldAt T ux i).run P w) v h' := by
  have hinfo : ∃ j, P.info? f.type = some j ∧ j.size ≠ 0 := by
    cases hj : P.info? f.type with
    | none => simp [Program.cellsOf, hj] at hsz
    | some j => exact ⟨j, rfl, by simpa [Program.cellsOf, hj] using hsz⟩
  obtain ⟨j, hj, hj0⟩ := hinfo
  have hrun : ∀ b o, (Instr.fieldAt T (.pointer (some ⟨b, o, none⟩)) i).run P w = .ok (.pointer (some ⟨b, o + f.offset, none⟩)) w := by
    intro b o
    simp [Instr.fieldAt, underlying, hu, hf, Instr.sureAddr, fieldPlace, Go.sizeOf, typeInfo, hj, hj0, add_mid]
  simp only [opFa] at hop
  split at hop
  · rename_i id path tot
    split at hop
    · rename_i t' fs hn
      split at hop
      · rename_i hc
        obtain ⟨rfl, hi⟩ := hc
        simp only [Option.some.injEq, Prod.mk.injEq] at hop
        obtain ⟨rfl, rfl⟩ := hop
        obtain ⟨l, j', p, o, us, e, fz, rfl, hl, ht, ho, hw', hg, hz, hfz, hle, hr⟩ := hs.nodeAt hL hn
        have hu' := ptr_live hx hl ht ho
        subst hu'
        have hgs' : i < gs.length := by
          simp only [RC] at hr
          have := hr.2.1
          rw [hgs] at this
          simp only [Option.some.injEq] at this
          rw [this]; simpa using hi
        have h1 := off_snoc (i := i) ho hw' (walk_field hgs (List.getElem?_eq_getElem hgs'))
        rw [hrun, hoff]
        exact Does.same rfl (ptr_mk hs hl ht h1) hs
      · cases hop
    · cases hop
  · rename_i t' fs
    split at hop
    · rename_i hc; subst hc
      obtain ⟨y, hy, he⟩ := Option.map_eq_some_iff.1 hop
      simp only [Prod.mk.injEq] at he
      obtain ⟨rfl, rfl⟩ := he
      obtain ⟨b, off, cs, ty, fz, rfl, hz, hr⟩ := RV_iptr.1 hx
      simp only [RC] at hr
      obtain ⟨hr, hf', hsol⟩ := hr
      rw [hgs] at hf'
      simp only [Option.some.injEq] at hf'
      have h1 := RCs_get hL hr hy
      have h2 := RCs_get_le hL hr hy
      have hsum : ((fs.take i).map fun v => L.csz v.ty).sum = f.offset := by
        rw [hoff, hf', ← List.map_take, List.map_map]; rfl
      rw [hsum] at h1 h2
      rw [hrun]
      refine Does.same rfl (RV_iptr.2 ⟨b, off + f.offset, cs, ty, fz, rfl, hz, ?_⟩) hs
      simp only [seg] at h1 h2 ⊢
      rw [List.drop_take, List.take_take, List.drop_drop] at h1
      rw [List.length_take] at h2
      rwa [Nat.min_eq_left (by simp only [V.ty] at h2 ⊢; omega)] at h1
    · cases hop
  · cases hop

/-- A field of a value. -/
theorem do_fld (hL : L.OK) (hs : Sim L c h w) {T t i : Nat} {fields : Array Field} {f : Field} {gs : List (Option Nat)} {g : Option Nat} (hu : P.underlying T = some (.struct fields)) (hf : fields[i]? = some f)
    (hgs : L.fields t = some gs) (hg : gs[i]? = some g) (htg : TG P L f.type g) (hoff : f.offset = ((gs.take i).map L.csz).sum) {x : V} {ux : Value} (hx : RV L c x ux) {v : V} {h' : Hp}
    (hop : opFld h t i x = some (v, h')) : Does L c w ((Instr.field T ux i).run P w) v h' := by
  simp only [opFld] at hop
  split at hop
  · rename_i t' fs
    split at hop
    case isFalse => cases hop
    rename_i hc
    subst hc
    obtain ⟨y, hy, he⟩ := Option.map_eq_some_iff.1 hop
    simp only [Prod.mk.injEq] at he
    obtain ⟨rfl, rfl⟩ := he
    obtain ⟨us, rfl, hr⟩ := (RV_agg rfl).1 hx
    simp only [RC] at hr
    obtain ⟨hr, hf', hsol⟩ := hr
    rw [hgs] at hf'
    simp only [Option.some.injEq] at hf'
    have hyg : y.ty = g := by
      rw [hf', List.getElem?_map, hy] at hg
      simpa using hg
    have h1 := RCs_get hL hr hy
    have hsum : ((fs.take i).map fun v => L.csz v.ty).sum = f.offset := by
      rw [hoff, hf', ← List.map_take, List.map_map]; rfl
    rw [hsum] at h1
    obtain ⟨u, hrun, hv⟩ := run_part_at (P := P) (w := w) hL (by rw [hyg]; exact htg) h1
    refine Does.same (u := u) ?_ hv hs
    simp [Instr.field, underlying, hu, hf, asAgg, hrun]
  · cases hop

theorem numOf_RV {y : V} {i : Int} (hn : numOf y = some i) {u : Value} (hy : RV L c y u) : ∃ k, u = .int k i := by
  unfold numOf at hn
  split at hn
  · rename_i k n
    simp only [Option.some.injEq] at hn
    subst hn
    exact ⟨k, (RV_s.1 hy).1⟩
  · cases hn

theorem RV_ref {id : Nat} {path : List Nat} {g : Option Nat} {off len tot : Nat} {u : Value} : RV L c (.ref id path g off len tot) u ↔ ∃ a k, u = .slice (some a) len k ∧ id < c.n ∧ len ≤ k ∧
      ∀ l, c.loc id = some l → tot ≤ l.tot ∧ (l.tot = tot → ∃ o m, L.row l.tag path = some (o, g, m) ∧ a = ⟨l.blk, o + off * L.csz g, none⟩ ∧ roomR m off len tot k l.cap) := by
  rw [RV_leaf rfl]
  simp only [RC, List.cons.injEq, and_true]
theorem RV_imm {full : Bool} {g : Option Nat} {es : List V} {u : Value} : RV L c (.imm full g es) u ↔ ∃ a k, u = .slice a es.length k ∧ es.length ≤ k ∧ (full = true → k = es.length) ∧ (∀ e ∈ es, e.ty = g ∧ e.solid = true) ∧
      (es = [] ∨ ∃ b off cs ty fz, a = some ⟨b, off, none⟩ ∧ c.z b = some (.cells cs ty fz) ∧ RCs L c es (seg cs off (es.length * L.csz g))) := by
  rw [RV_leaf rfl]
  simp only [RC, List.cons.injEq, and_true]

/-- A row that a slice is of, in Go's memory. -/
theorem Sim.rowAt (hL : L.OK) (hs : Sim L c h w) {id tot : Nat} {path : List Nat} {es : List V} (hn : Vm.rowAt h id path tot = some es) :
    ∃ l o e m us ty fz, c.loc id = some l ∧ l.tot = tot ∧ L.row l.tag path = some (o, e, m) ∧ w.heap[l.blk]? = some (.cells us ty fz) ∧ c.z l.blk = none ∧ (∀ j, j < us.size → ¬ (fz.1 ≤ j ∧ j < fz.2)) ∧
      o + es.length * L.csz e ≤ us.size ∧ RCs L c es ((us.toList.drop o).take (es.length * L.csz e)) ∧ (∀ x ∈ es, x.ty = e ∧ x.solid = true) ∧
      (m = none → es.length = tot ∧ path = [] ∧ o = 0 ∧ e = l.tag ∧ us.size = l.cap * L.csz e ∧ tot ≤ l.cap) ∧ (∀ n, m = some n → n = es.length) ∧ (∀ i, i < es.length → L.off l.tag (path ++ [i]) = some (o + i * L.csz e)) := by
  unfold Vm.rowAt at hn
  split at hn
  · obtain ⟨⟨g, es'⟩, hr, he⟩ := Option.map_eq_some_iff.1 hn
    simp only at he
    subst he
    obtain ⟨l, hl, htot, htag, hz, _, hle, hcap, hes, us, ty, fz, hg, hsz, hfz, hrc⟩ := hs.row hr
    have hlen := (rowOf_some hr).2
    have hc : es'.length * L.csz g ≤ l.cap * L.csz g := Nat.mul_le_mul_right _ hcap
    refine ⟨l, 0, g, none, us, ty, fz, hl, htot, by simp [Lay.row, htag], hg, hz, hfz.1, by omega, by simpa using hrc, hes, fun _ => ⟨hlen, rfl, rfl, htag.symm, hsz, by omega⟩, fun n hn => by simp at hn, fun i hi => ?_⟩
    simp [Lay.off, Lay.walk, htag]
  · rename_i hne
    split at hn
    · rename_i t es' hnode
      simp only [Option.some.injEq] at hn
      subst hn
      obtain ⟨l, j, p, o, us, ty, fz, rfl, hl, htot, hoff, ⟨o', hw'⟩, hg, hz, hfz, hle, hr⟩ := hs.nodeAt hL hnode
      simp only [RC] at hr
      obtain ⟨hr, e, ha, hes⟩ := hr
      have hsz : L.csz (V.ty (.arr t es')) = es'.length * L.csz e := by simp [V.ty, Lay.csz, hL.ar _ _ _ ha]
      rw [hsz] at hr hle
      have hoff' : o = j * L.csz l.tag + o' := by
        simp only [Lay.off, hw', Option.map_some, Option.some.injEq] at hoff
        omega
      refine ⟨l, o, e, some es'.length, us, ty, fz, hl, htot, ?_, hg, hz, hfz, hle, hr, hes, fun hm => by simp at hm, fun n hn => by simpa using hn.symm, fun i hi => ?_⟩
      · simp only [Lay.row, hw', V.ty, ha, Option.map_some, hoff']
      · exact off_snoc hoff ⟨o', hw'⟩ (walk_elem hL ha hi)
    · cases hn

/-- A live slice of the machine's, as one of Go's. -/
theorem ref_live {id tot off len : Nat} {path : List Nat} {g : Option Nat} {u : Value} {l : Loc} {o : Nat} {e : Option Nat} {m : Option Nat} (hp : RV L c (.ref id path g off len tot) u) (hl : c.loc id = some l) (ht : l.tot = tot) (ho : L.row l.tag path = some (o, e, m)) :
    e = g ∧ ∃ k, u = .slice (some ⟨l.blk, o + off * L.csz g, none⟩) len k ∧ len ≤ k ∧ roomR m off len tot k l.cap := by
  obtain ⟨a, k, hu, _, hlk, hall⟩ := RV_ref.1 hp
  obtain ⟨_, hx⟩ := hall l hl
  obtain ⟨o', m', h1, h2, h3⟩ := hx ht
  rw [ho] at h1
  simp only [Option.some.injEq, Prod.mk.injEq] at h1
  obtain ⟨rfl, rfl, rfl⟩ := h1
  exact ⟨rfl, k, by rw [hu, h2], hlk, h3⟩

theorem ref_mk (hs : Sim L c h w) {id tot off len k : Nat} {path : List Nat} {l : Loc} {o : Nat} {e : Option Nat} {m : Option Nat} (hl : c.loc id = some l) (ht : l.tot = tot) (ho : L.row l.tag path = some (o, e, m)) (hlk : len ≤ k)
    (hm : roomR m off len tot k l.cap) : RV L c (.ref id path e off len tot) (.slice (some ⟨l.blk, o + off * L.csz e, none⟩) len k) := by
  refine RV_ref.2 ⟨_, k, rfl, hs.locLt hl, hlk, fun l' hl' => ?_⟩
  rw [hl] at hl'; cases hl'
  exact ⟨by omega, fun _ => ⟨o, m, ho, rfl, hm⟩⟩

/-- The address of an element of an array. -/
theorem do_iaa (hL : L.OK) (hs : Sim L c h w) {T t n : Nat} {el : TypeId} {e : Option Nat} (hu : P.underlying T = some (.array n el)) (hel : TG P L el e) (ha : L.arr t = some (n, e))
    {x y : V} {ux uy : Value} (hx : RV L c x ux) (hy : RV L c y uy) {v : V} {h' : Hp} (hop : opIaa h t x y = some (v, h')) : Does L c w ((Instr.indexAt T ux uy).run P w) v h' := by
  have hrun : ∀ b o k (i : Int), 0 ≤ i → i < n → (Instr.indexAt T (.pointer (some ⟨b, o, none⟩)) (.int k i)).run P w = .ok (.pointer (some ⟨b, o + i.toNat * L.csz e, none⟩)) w := by
    intro b o k i h0 h1
    simp only [Instr.indexAt, asIntOf, underlying, Sem.run_bind, Sem.run_pure, Result.andThen_ok, run_program, hu, Instr.sureAddr, if_pos (And.intro h0 h1), hel.sizeOf, add_mid]
  simp only [opIaa] at hop
  split at hop
  case h_2 => cases hop
  rename_i i hi
  obtain ⟨k, rfl⟩ := numOf_RV hi hy
  split at hop
  · rename_i id path tot
    split at hop
    · rename_i t' es hn
      split at hop
      · rename_i hc
        obtain ⟨rfl, h0, h1⟩ := hc
        simp only [Option.some.injEq, Prod.mk.injEq] at hop
        obtain ⟨rfl, rfl⟩ := hop
        obtain ⟨l, j', p, o, us, ty, fz, rfl, hl, ht, ho, hw', hg, hz, hfz, hle, hr⟩ := hs.nodeAt hL hn
        have hu' := ptr_live hx hl ht ho
        subst hu'
        simp only [RC] at hr
        obtain ⟨e', ha', _⟩ := hr.2
        rw [ha] at ha'
        simp only [Option.some.injEq, Prod.mk.injEq] at ha'
        obtain ⟨hn', rfl⟩ := ha'
        have h2 := off_snoc (i := i.toNat) ho hw' (walk_elem hL ha (by omega))
        rw [hrun _ _ _ _ h0 (by omega)]
        exact Does.same rfl (ptr_mk hs hl ht h2) hs
      · cases hop
    · cases hop
  · rename_i t' es
    split at hop
    · rename_i hc
      obtain ⟨rfl, h0, h1⟩ := hc
      obtain ⟨y, hy', he⟩ := Option.map_eq_some_iff.1 hop
      simp only [Prod.mk.injEq] at he
      obtain ⟨rfl, rfl⟩ := he
      obtain ⟨b, off, cs, ty, fz, rfl, hz, hr⟩ := RV_iptr.1 hx
      simp only [RC] at hr
      obtain ⟨hr, e', ha', hes⟩ := hr
      rw [ha] at ha'
      simp only [Option.some.injEq, Prod.mk.injEq] at ha'
      obtain ⟨hn', rfl⟩ := ha'
      have h2 := RCs_get_uniform hL hr (fun z hz => (hes z hz).1) hy'
      have h3 := RCs_get_uniform_le hL hr (fun z hz => (hes z hz).1) hy'
      have hye : y.ty = e := (hes y (List.mem_of_getElem? hy')).1
      rw [hrun _ _ _ _ h0 (by omega)]
      refine Does.same rfl (RV_iptr.2 ⟨b, off + i.toNat * L.csz e, cs, ty, fz, rfl, hz, ?_⟩) hs
      simp only [seg] at h2 h3 ⊢
      rw [List.drop_take, List.take_take, List.drop_drop] at h2
      rw [List.length_take] at h3
      rw [hye]
      rwa [Nat.min_eq_left (by simp only [V.ty] at h3 ⊢; omega)] at h2
    · cases hop
  · cases hop

/-- The address of an element of a slice. -/
theorem do_ias (hL : L.OK) (hs : Sim L c h w) {T : Nat} {el : TypeId} {g : Option Nat} (hu : P.underlying T = some (.slice el)) (hel : TG P L el g)
    {x y : V} {ux uy : Value} (hx : RV L c x ux) (hy : RV L c y uy) {v : V} {h' : Hp} (hop : opIas h g x y = some (v, h')) : Does L c w ((Instr.indexAt T ux uy).run P w) v h' := by
  have hrun : ∀ b o n cp k (i : Int), 0 ≤ i → i < (n : Nat) → (Instr.indexAt T (.slice (some ⟨b, o, none⟩) n cp) (.int k i)).run P w = .ok (.pointer (some ⟨b, o + i.toNat * L.csz g, none⟩)) w := by
    intro b o n cp k i h0 h1
    simp only [Instr.indexAt, asIntOf, underlying, Sem.run_bind, Sem.run_pure, Result.andThen_ok, run_program, hu, if_pos (And.intro h0 h1), hel.sizeOf, add_mid]
  simp only [opIas] at hop
  split at hop
  case h_2 => cases hop
  rename_i i hi
  obtain ⟨k, rfl⟩ := numOf_RV hi hy
  split at hop
  · rename_i id path g' off len tot
    split at hop
    case h_2 => cases hop
    rename_i es hrow
    split at hop
    case isFalse => cases hop
    rename_i hc
    obtain ⟨rfl, h0, h1, hlt⟩ := hc
    simp only [Option.some.injEq, Prod.mk.injEq] at hop
    obtain ⟨rfl, rfl⟩ := hop
    obtain ⟨l, o, e, m, us, ty, fz, hl, ht, hro, hg, hz, hfz, hle, hr, hes, hm1, hm2, hoff⟩ := hs.rowAt hL hrow
    obtain ⟨rfl, kk, rfl, hlk, hm⟩ := ref_live hx hl ht hro
    rw [hrun _ _ _ _ _ _ h0 (by omega)]
    have h2 := hoff (off + i.toNat) hlt
    rw [Nat.add_mul, ← Nat.add_assoc] at h2
    exact Does.same rfl (ptr_mk hs hl ht h2) hs
  · rename_i full g' es
    split at hop
    case isFalse => cases hop
    rename_i hc
    obtain ⟨rfl, h0⟩ := hc
    obtain ⟨y', hy', he⟩ := Option.map_eq_some_iff.1 hop
    simp only [Prod.mk.injEq] at he
    obtain ⟨rfl, rfl⟩ := he
    have hlt := (List.getElem?_eq_some_iff.1 hy').1
    obtain ⟨a, kk, rfl, hlk, hfull, hes, hcase⟩ := RV_imm.1 hx
    rcases hcase with rfl | ⟨b, off, cs, ty, fz, rfl, hz, hr⟩
    · simp at hlt
    have hyg := (hes y' (List.mem_of_getElem? hy')).1
    have h2 := RCs_get_uniform hL hr (fun z hz => (hes z hz).1) hy'
    have h3 := RCs_get_uniform_le hL hr (fun z hz => (hes z hz).1) hy'
    rw [hrun _ _ _ _ _ _ h0 (by omega)]
    refine Does.same rfl (RV_iptr.2 ⟨b, off + i.toNat * L.csz g', cs, ty, fz, rfl, hz, ?_⟩) hs
    simp only [seg] at h2 h3 ⊢
    rw [List.drop_take, List.take_take, List.drop_drop] at h2
    rw [List.length_take] at h3
    rw [hyg]
    rwa [Nat.min_eq_left (by omega)] at h2
  · cases hop

/-- An element of an array. -/
theorem do_idx (hL : L.OK) (hs : Sim L c h w) {T t n : Nat} {el : TypeId} {e : Option Nat} (hu : P.underlying T = some (.array n el)) (hel : TG P L el e) (ha : L.arr t = some (n, e))
    {x y : V} {ux uy : Value} (hx : RV L c x ux) (hy : RV L c y uy) {v : V} {h' : Hp} (hop : opIdx h t x y = some (v, h')) : Does L c w ((Instr.index T ux uy).run P w) v h' := by
  simp only [opIdx] at hop
  split at hop
  case h_2 => cases hop
  rename_i t' es i hi
  obtain ⟨k, rfl⟩ := numOf_RV hi hy
  split at hop
  case isFalse => cases hop
  rename_i hc
  obtain ⟨rfl, h0⟩ := hc
  obtain ⟨y', hy', he⟩ := Option.map_eq_some_iff.1 hop
  simp only [Prod.mk.injEq] at he
  obtain ⟨rfl, rfl⟩ := he
  obtain ⟨us, rfl, hr⟩ := (RV_agg rfl).1 hx
  simp only [RC] at hr
  obtain ⟨hr, e', ha', hes⟩ := hr
  rw [ha] at ha'
  simp only [Option.some.injEq, Prod.mk.injEq] at ha'
  obtain ⟨hn', rfl⟩ := ha'
  have hlt := (List.getElem?_eq_some_iff.1 hy').1
  have h2 := RCs_get_uniform hL hr (fun z hz => (hes z hz).1) hy'
  have hye : y'.ty = e := (hes y' (List.mem_of_getElem? hy')).1
  obtain ⟨u, hrun, hv⟩ := run_part_at (P := P) (w := w) hL (ty := el) (v := y') (by rw [hye]; exact hel) (by rw [hye]; exact h2)
  refine Does.same (u := u) ?_ hv hs
  simp only [Instr.index, asIntOf, underlying, Sem.run_bind, Sem.run_pure, Result.andThen_ok, run_program, hu, if_pos (And.intro h0 (show i < (n : Int) by omega)), hel.sizeOf, hrun]

/-- A load. -/
theorem do_ld (hL : L.OK) (hs : Sim L c h w) {T : Nat} {g : Option Nat} (hT : TG P L T g) {x : V} {ux : Value} (hx : RV L c x ux) {v : V} {h' : Hp} (hop : opLd h g x = some (v, h')) :
    Does L c w ((Instr.loadAt T ux).run P w) v h' := by
  simp only [opLd] at hop
  split at hop
  · rename_i id path tot
    split at hop
    case h_2 => cases hop
    rename_i y hn
    split at hop
    case isFalse => cases hop
    rename_i hyg
    simp only [Option.some.injEq, Prod.mk.injEq] at hop
    obtain ⟨rfl, rfl⟩ := hop
    obtain ⟨l, o, us, ty, fz, hl, ht, ho, hg, hfz, hle, hr⟩ := hs.node hL hn
    have hu' := ptr_live hx hl ht ho
    subst hu'
    obtain ⟨u, hrun, hv⟩ := run_loadVar_at (P := P) hL (ty := T) (by rw [hyg]; exact hT) hg hr
    exact Does.same (by simpa [Instr.loadAt, Instr.sureAddr] using hrun) hv hs
  · rename_i y
    split at hop
    case isFalse => cases hop
    rename_i hyg
    simp only [Option.some.injEq, Prod.mk.injEq] at hop
    obtain ⟨rfl, rfl⟩ := hop
    obtain ⟨b, off, cs, ty, fz, rfl, hz, hr⟩ := RV_iptr.1 hx
    obtain ⟨u, hrun, hv⟩ := run_loadVar_at (P := P) hL (ty := T) (by rw [hyg]; exact hT) (hs.z _ _ hz) hr
    exact Does.same (by simpa [Instr.loadAt, Instr.sureAddr] using hrun) hv hs
  · cases hop
end Go.Vm
/- The abstract machine's operations are Go's: stores, new variables, literals. -/
namespace Go.Vm
set_option linter.unusedVariables false
variable {P : Program} {L : Lay} {c : Ctx} {h : Hp} {w : World}

theorem RCs_solid_set {es : List V} {i : Nat} {x : V} {g : Option Nat} (hes : ∀ y ∈ es, y.ty = g ∧ y.solid = true) (hx : x.ty = g ∧ x.solid = true) : ∀ y ∈ es.set i x, y.ty = g ∧ y.solid = true := fun y hy => by
  rcases List.mem_or_eq_of_mem_set hy with hy | rfl
  · exact hes y hy
  · exact hx

/-- A block in which one thing is another. -/
theorem sto_sim (hL : L.OK) (hs : Sim L c h w) {id : Nat} {path : List Nat} {tot : Nat} {old y : V} {h1 : Hp} (hn : Vm.node h id path tot = some old) (hst : Vm.store h id path tot y = some h1) {ys : List Value} (hyr : RC L c y ys) (hsol : y.solid = true) (hty : y.ty = old.ty)
    {l : Loc} {o : Nat} {us : Array Value} {ty : TypeId} {fz : Nat × Nat} (hl : c.loc id = some l) (ho : L.off l.tag path = some o) (hg : w.heap[l.blk]? = some (.cells us ty fz)) (hfz : ∀ j, j < us.size → ¬ (fz.1 ≤ j ∧ j < fz.2)) (hle : o + L.csz old.ty ≤ us.size)
    {w' : World} (hheap : w'.heap[l.blk]? = some (.cells (lay us.toList o ys).toArray ty fz)) (hoth : ∀ k, k ≠ l.blk → w'.heap[k]? = w.heap[k]?) : Sim L c h1 w' := by
  have hlen : ys.length = L.csz y.ty := RC_length hL y ys hyr
  -- the block behind the store
  unfold Vm.store at hst
  unfold Vm.node at hn
  split at hst
  case h_2 => cases hst
  rename_i g' es i p hrow
  split at hst
  case h_2 => cases hst
  rename_i e he
  obtain ⟨e', hpe, rfl⟩ := Option.map_eq_some_iff.1 hst
  simp only [hrow, he] at hn
  obtain ⟨l', hl', htot, htag, hz, htg, htt, hcap, hes, us', ty', fz', hg', hsz, hfz', hrc⟩ := hs.row hrow
  rw [hl] at hl'; cases hl'
  rw [hg] at hg'
  simp only [Option.some.injEq, Obj.cells.injEq] at hg'
  obtain ⟨rfl, rfl, rfl⟩ := hg'
  have hge := fun z hz => (hes z hz).1
  have heg : e.ty = g' := hge e (List.mem_of_getElem? he)
  have r1 := RCs_get_uniform hL hrc hge he
  have r1le := RCs_get_uniform_le hL hrc hge he
  obtain ⟨o', h2, h3, h4, h5, h6⟩ := putAt_RC hL hyr hsol p e e' old _ r1 hn hpe hty
  have hoff : o = i * L.csz g' + o' := by
    simp only [Lay.off, htag, ← heg, h2, Option.map_some, Option.some.injEq] at ho
    rw [← heg]; omega
  have hlen1 := RC_length hL e _ r1
  have hilt := (List.getElem?_eq_some_iff.1 he).1
  have hb : (i + 1) * L.csz g' ≤ es.length * L.csz g' := Nat.mul_le_mul_right _ (by omega)
  rw [Nat.add_mul, Nat.one_mul] at hb
  have hcapmul : es.length * L.csz g' ≤ l.cap * L.csz g' := Nat.mul_le_mul_right _ hcap
  have hsum : ((es.take i).map fun v => L.csz v.ty).sum = i * L.csz g' := sum_take_const es _ _ i (fun z hz => by rw [hge z hz]) (by omega)
  have hnew := RCs_set hL h3 es _ i e hrc he h4
  rw [hsum] at hnew
  have hlaid : lay (us.toList.take (es.length * L.csz g')) (i * L.csz g') (lay ((us.toList.take (es.length * L.csz g')).drop (i * L.csz g') |>.take (L.csz g')) o' ys) = (lay us.toList o ys).take (es.length * L.csz g') := by
    rw [heg] at hlen1
    rw [hlen1, hlen, hty] at h5
    rw [← lay_mid _ _ _ (L.csz g') o' (by simp; omega) (by rw [hlen, hty]; exact h5), ← hoff]
    exact (lay_take _ _ _ _ (by rw [hlen, hty]; omega) (by simp; omega)).symm
  rw [hlaid] at hnew
  have hlaylen : (lay us.toList o ys).length = us.size := by rw [length_lay _ _ _ (by rw [hlen, hty]; simpa using hle)]; simp
  have hmv : c.move id l = c := by
    cases c with
    | mk z loc n =>
      simp only [Ctx.move]
      congr
      funext j
      by_cases hj : j = id
      · subst hj; simp only [if_true]; exact hl.symm
      · simp [hj]
  have := hs.move (l' := l) hl (w' := w') (.cells g' (es.set i e')) (by rw [hmv]; exact Ctx.le_refl c) hz (.inl rfl)
    (fun b hb hbl => hoth b hbl) (fun o' ho' => by rw [hz] at ho'; cases ho')
    (by
      rw [hmv]
      refine ⟨htag, by simp [htt], by simpa using hcap, RCs_solid_set hes ⟨by rw [h4, heg], h6⟩, _, ty, fz, hheap, by simp [hlaylen, hsz], ⟨fun j hj => hfz j (by simpa [hlaylen] using hj), hfz'.2⟩, by simpa using hnew⟩)
  rw [hmv] at this
  exact this

/-- A store. -/
theorem do_sto (hL : L.OK) (hs : Sim L c h w) {T : Nat} {g : Option Nat} (hT : TG P L T g) {x y : V} {ux uy : Value} (hx : RV L c x ux) (hy : RV L c y uy) {base : Nat} {v : V} {h' : Hp} (hop : opSto base h g x y = some (v, h')) :
    ∃ w', (Instr.storeAt T ux uy).run P w = .ok () w' ∧ v = .tup [] ∧ Sim L c h' w' ∧ St w w' := by
  simp only [opSto] at hop
  split at hop
  case h_2 => cases hop
  rename_i id path tot
  split at hop
  case h_2 => cases hop
  rename_i old hn
  split at hop
  case isFalse => cases hop
  rename_i hc
  obtain ⟨hog, hyg, hsol, hput⟩ := hc
  obtain ⟨h1, hst, he⟩ := Option.map_eq_some_iff.1 hop
  simp only [Prod.mk.injEq] at he
  obtain ⟨rfl, rfl⟩ := he
  obtain ⟨l, o, us, ty, fz, hl, ht, ho, hg, hfz, hle, hr⟩ := hs.node hL hn
  have hu' := ptr_live hx hl ht ho
  subst hu'
  have hty : y.ty = old.ty := by rw [hyg, hog]
  have hrun := run_storeVar_at (P := P) hL (ty := T) (by rw [hyg]; exact hT) hsol hy hg hfz (by rw [hty]; exact hle)
  have hcells := hy.cells hsol
  have hlen := hy.solid_cells_length hL hsol
  refine ⟨w.setCells l.blk o uy.cells.toList, by simpa [Instr.storeAt, Instr.sureAddr] using hrun, rfl, ?_, St.setCells _ _ _ _⟩
  exact sto_sim hL hs hn hst hcells.1 hsol hty hl ho hg hfz hle (heap_setCells l.blk ty fz uy.cells.toList o us w hg (by rw [hlen, hty]; exact hle)) (fun k hk => heap_setCells_other l.blk _ _ _ k hk)

/-- A new variable. -/
theorem push_cells (hL : L.OK) (hs : Sim L c h w) {g : Option Nat} {es : List V} {us : List Value} (hr : RCs L c es us) (hes : ∀ x ∈ es, x.ty = g ∧ x.solid = true) (cap : Nat) (extra : List Value) (hcap : us.length + extra.length = cap * L.csz g) (hle : es.length ≤ cap)
    (ty : TypeId) (fz : Nat × Nat) (hfz : Unfz g (us ++ extra).length fz) :
    ∃ l, l.blk = w.heap.size ∧ l.cap = cap ∧ l.tag = g ∧ l.tot = es.length ∧ Sim L (c.push l) (h ++ [.cells g es]) (w.alloc (.cells (us ++ extra).toArray ty fz)) ∧ (c.push l).loc h.length = some l := by
  refine ⟨⟨w.heap.size, cap, g, es.length⟩, rfl, rfl, rfl, rfl, ?_, by simp [Ctx.push, hs.n]⟩
  refine hs.push _ _ _ rfl ⟨rfl, rfl, hle, hes, (us ++ extra).toArray, ty, fz, heap_new, by simpa using hcap, by simpa using hfz, ?_⟩
  have hlen := RCs_length_uniform hL hr (fun x hx => (hes x hx).1)
  rw [← hlen]
  simpa using hr.mono (c.le_push _)

theorem do_box (hL : L.OK) (hs : Sim L c h w) {T : Nat} {g : Option Nat} {x : V} {ux : Value} (hx : RV L c x ux) {v : V} {h' : Hp} (hop : opBox h g x = some (v, h')) :
    Does L c w ((Instr.box T ux).run P w) v h' := by
  simp only [opBox] at hop
  split at hop
  case isFalse => cases hop
  rename_i hc
  obtain ⟨hxg, hsol⟩ := hc
  simp only [Option.some.injEq, Prod.mk.injEq] at hop
  obtain ⟨rfl, rfl⟩ := hop
  have hcells := (hx.cells hsol).1
  have hlen := hx.solid_cells_length hL hsol
  obtain ⟨l, hb, hcap, htag, htot, hs', hl⟩ := push_cells hL hs (g := g) (es := [x]) (us := ux.cells.toList) (by simp only [RCs]; exact ⟨_, [], by simp, hcells, rfl⟩) (by simp [hxg, hsol]) 1 [] (by simp only [List.length_nil]; rw [hlen, hxg]; omega) (by simp) T (0, 0) ⟨by intro j hj; omega, fun _ => rfl⟩
  refine ⟨.pointer (some ⟨w.heap.size, 0, none⟩), c.push l, w.alloc (.cells ux.cells T), ?_, ?_, by simpa using hs', c.le_push l, St.alloc _ _⟩
  · simp [Instr.box, newVar, newRow]
  · have hn : h.length = c.n := hs.n.symm
    rw [← hb]
    exact ptr_mk hs' hl (by simp [htot]) (by simp [Lay.off, Lay.walk])

/-- What a zero value is. -/
def ZeroOK (P : Program) (L : Lay) (T : TypeId) (zero : V) : Prop := ∃ i z, P.info? T = some i ∧ i.zero = some z ∧ ∀ c : Ctx, RV L c zero z

theorem do_alc (hL : L.OK) (hs : Sim L c h w) {T : Nat} {g : Option Nat} {zero : V} (hz : ZeroOK P L T zero) {v : V} {h' : Hp} (hop : opBox h g zero = some (v, h')) :
    Does L c w ((Instr.alloc T true (.tuple #[])).run P w) v h' := by
  obtain ⟨i, z, h1, h2, h3⟩ := hz
  have := do_box (P := P) (T := T) hL hs (h3 c) hop
  have e : (Instr.alloc T true (.tuple #[])).run P w = (Instr.box T z).run P w := by
    simp [Instr.alloc, Instr.box, zeroValue, typeInfo, h1, h2]
  rw [e]; exact this

/-- Cells put one by one are cells laid over. -/
theorem fold_lay : ∀ (ys : List Value) (us : Array Value) (o k : Nat), o + k + ys.length ≤ us.size →
    ((ys.zipIdx k).foldl (fun cs (p : Value × Nat) => cs.setIfInBounds (o + p.2) p.1) us).toList = lay us.toList (o + k) ys
  | [], us, o, k, _ => by simp [lay]
  | y :: ys, us, o, k, hl => by
    simp only [List.length_cons] at hl
    simp only [List.zipIdx_cons, List.foldl_cons]
    rw [fold_lay ys _ o (k + 1) (by simp; omega)]
    simp only [lay, Array.toList_setIfInBounds]
    rw [List.take_set, List.drop_set]
    have h1 : (us.toList.take (o + (k + 1))).set (o + k) y = us.toList.take (o + k) ++ [y] := by
      rw [show o + (k + 1) = (o + k) + 1 by omega, List.take_succ_eq_append_getElem (by simp; omega)]
      rw [List.set_append_right _ _ (by simp; exact Nat.min_le_left _ _)]
      simp [Nat.min_eq_left (show o + k ≤ us.size by omega), List.set_cons_zero]
    rw [h1, if_pos (by omega)]
    simp [Nat.add_assoc, Nat.add_comm 1]

/-- Places as the sizes of the parts say. -/
def PlacesOK (L : Lay) (place : Nat → Option (Nat × Nat)) (gs : List (Option Nat)) : Prop :=
  ∀ i g, gs[i]? = some g → place i = some (((gs.take i).map L.csz).sum, L.csz g)

theorem fill_sim (hL : L.OK) {place : Nat → Option (Nat × Nat)} : ∀ (ps : List (Nat × V)) (qs : List (Nat × Value)) (es es' : List V) (us : Array Value),
    PlacesOK L place (es.map V.ty) → RCs L c es us.toList → putParts es ps = some es' → ps.map (·.1) = qs.map (·.1) → (∀ (i : Nat) (p : Nat × V) (q : Nat × Value), ps[i]? = some p → qs[i]? = some q → RV L c p.2 q.2) →
    ∃ us', Instr.fill place us qs = some us' ∧ RCs L c es' us'.toList ∧ es'.map V.ty = es.map V.ty ∧ ((∀ x ∈ es, x.solid = true) → ∀ x ∈ es', x.solid = true) ∧ us'.size = us.size
  | [], qs, es, es', us, hp, hr, hput, hpq, hv => by
    simp only [putParts, Option.some.injEq] at hput
    subst hput
    cases qs with
    | nil => exact ⟨us, rfl, hr, rfl, fun h => h, rfl⟩
    | cons q qs => simp at hpq
  | (i, y) :: ps, qs, es, es', us, hp, hr, hput, hpq, hv => by
    cases qs with
    | nil => simp at hpq
    | cons q qs =>
      obtain ⟨i', u⟩ := q
      simp only [List.map_cons, List.cons.injEq] at hpq
      obtain ⟨rfl, hpq⟩ := hpq
      simp only [putParts] at hput
      split at hput
      case h_2 => cases hput
      rename_i o ho
      split at hput
      case isFalse => cases hput
      rename_i hc
      obtain ⟨hty, hsol⟩ := hc
      have hy : RV L c y u := hv 0 (i, y) (i, u) rfl rfl
      have hcells := (hy.cells hsol).1
      have hlen := hy.solid_cells_length hL hsol
      have hsum : (((es.map V.ty).take i).map L.csz).sum = ((es.take i).map fun v => L.csz v.ty).sum := by rw [← List.map_take, List.map_map]; rfl
      have hpl := hp i o.ty (by rw [List.getElem?_map, ho]; rfl)
      rw [hsum] at hpl
      have hle := RCs_get_le hL hr ho
      simp only [Array.length_toList] at hle hlen
      have hnew := RCs_set hL hcells es us.toList i o hr ho hty.symm
      have htys : (es.set i y).map V.ty = es.map V.ty := by
        rw [List.map_set]
        refine List.ext_getElem? fun j => ?_
        by_cases e : j = i
        · subst e
          rw [List.getElem?_set, List.getElem?_map, ho]
          simp [(List.getElem?_eq_some_iff.1 ho).1, hty]
        · rw [List.getElem?_set_ne (Ne.symm e)]
      have hfold := fold_lay u.cells.toList us (((es.take i).map fun v => L.csz v.ty).sum) 0 (by simp only [Array.length_toList]; rw [hlen, ← hty]; omega)
      obtain ⟨us', h1, h2, h3, h4, h5⟩ := fill_sim hL ps qs (es.set i y) es' (u.cells.zipIdx.foldl (fun cs (p : Value × Nat) => cs.setIfInBounds (((es.take i).map fun v => L.csz v.ty).sum + p.2) p.1) us)
        (by rw [htys]; exact hp) (by
          rw [← Array.foldl_toList, Array.toList_zipIdx]
          rw [hfold]; simpa using hnew) hput hpq (fun j p q hj hq => hv (j + 1) p q (by simpa using hj) (by simpa using hq))
      refine ⟨us', ?_, h2, by rw [h3, htys], fun hs0 => h4 fun x hx => ?_, ?_⟩
      · simp only [Instr.fill, hpl]
        rw [if_neg (by
          intro hcon
          simp only [Bool.or_eq_true, decide_eq_true_eq, ne_eq] at hcon
          rw [hlen, ← hty] at hcon
          rw [hty] at hle
          rcases hcon with hcon | hcon
          · exact hcon rfl
          · rw [hty] at hcon; omega)]
        exact h1
      · rcases List.mem_or_eq_of_mem_set hx with hx | rfl
        · exact hs0 x hx
        · exact hsol
      · rw [h5, ← Array.foldl_toList, Array.toList_zipIdx, ← Array.length_toList, hfold, length_lay _ _ _ (by simp only [Array.length_toList]; rw [hlen, ← hty]; omega)]
        simp
end Go.Vm
/- The abstract machine's operations are Go's: literals, slices made, cut. -/
namespace Go.Vm
set_option linter.unusedVariables false
set_option linter.unusedSimpArgs false
variable {P : Program} {L : Lay} {c : Ctx} {h : Hp} {w : World}

theorem run_mapM_list {α β : Type} (P : Program) (w : World) (f : α → Sem β) (g : α → β) : ∀ (l : List α), (∀ x ∈ l, (f x).run P w = .ok (g x) w) → (l.mapM f).run P w = .ok (l.map g) w
  | [], _ => by simp
  | a :: l, hf => by
    rw [List.mapM_cons]
    simp only [Sem.run_bind, hf a (by simp), Result.andThen_ok, run_mapM_list P w f g l (fun x hx => hf x (by simp [hx])), Sem.run_pure, List.map_cons]

theorem run_mapM {α β : Type} (P : Program) (w : World) (f : α → Sem β) (g : α → β) (xs : Array α) (hf : ∀ x ∈ xs.toList, (f x).run P w = .ok (g x) w) : (xs.mapM f).run P w = .ok (xs.map g) w := by
  rw [Array.mapM_eq_mapM_toList, Sem.run_map, run_mapM_list P w f g xs.toList hf]
  simp only [Result.andThen_ok]
  congr 1
  apply Array.ext'; simp

/-- The parts of a literal, as the machine has them and as Go has them. -/
theorem zip_parts {ys : List V} {us : List Value} (places : List Nat) (hlen : places.length = ys.length) (hul : us.length = ys.length) (hv : ∀ (i : Nat) (y : V) (u : Value), ys[i]? = some y → us[i]? = some u → RV L c y u) :
    (places.zip ys).map (·.1) = (places.zip us).map (·.1) ∧ ∀ (i : Nat) (p : Nat × V) (q : Nat × Value), (places.zip ys)[i]? = some p → (places.zip us)[i]? = some q → RV L c p.2 q.2 := by
  refine ⟨?_, fun i p q hp hq => ?_⟩
  · rw [List.map_fst_zip (by omega), List.map_fst_zip (by omega)]
  · rw [List.getElem?_zip_eq_some] at hp hq
    exact hv i p.2 q.2 hp.2 hq.2

theorem do_blds (hL : L.OK) (hs : Sim L c h w) {T t : Nat} {fields : Array Field} {gs : List (Option Nat)} {zero : List V} {places : List Nat} (hu : P.underlying T = some (.struct fields))
    (hgs : L.fields t = some gs) (hfs : ∀ i f, fields[i]? = some f → ∃ g, gs[i]? = some g ∧ TG P L f.type g ∧ f.offset = ((gs.take i).map L.csz).sum) (hsz : fields.size = gs.length)
    (hz : ZeroOK P L T (.st t zero)) {ys : List V} {us : List Value} (hul : us.length = ys.length) (hv : ∀ (i : Nat) (y : V) (u : Value), ys[i]? = some y → us[i]? = some u → RV L c y u)
    {v : V} {h' : Hp} (hop : opBlds h t zero places ys = some (v, h')) : Does L c w ((Instr.build T (places.zip us).toArray).run P w) v h' := by
  simp only [opBlds] at hop
  split at hop
  case isFalse => cases hop
  rename_i hlen
  obtain ⟨fs, hput, he⟩ := Option.map_eq_some_iff.1 hop
  simp only [Prod.mk.injEq] at he
  obtain ⟨rfl, rfl⟩ := he
  obtain ⟨i, z, hi, hzz, hzr⟩ := hz
  obtain ⟨zs, rfl, hr⟩ := (RV_agg rfl).1 (hzr c)
  simp only [RC] at hr
  obtain ⟨hr, hf, hsol⟩ := hr
  rw [hgs] at hf
  simp only [Option.some.injEq] at hf
  obtain ⟨hp1, hp2⟩ := zip_parts places hlen hul hv
  have hplaces : PlacesOK L ((fields.map fun f => (f.offset, P.cellsOf f.type))[·]?) (zero.map V.ty) := by
    intro j g hj
    rw [← hf] at hj ⊢
    have hjl : j < fields.size := by have := (List.getElem?_eq_some_iff.1 hj).1; omega
    obtain ⟨g', h1, h2, h3⟩ := hfs j fields[j] (by simp [hjl])
    rw [hj] at h1; cases h1
    obtain ⟨q, hq1, hq2⟩ := h2.info
    simp [hjl, h3, Program.cellsOf, hq1, hq2]
  obtain ⟨us', h1, h2, h3, h4, h5⟩ := fill_sim hL (places.zip ys) (places.zip us) zero fs zs.toArray hplaces (by simpa using hr) hput hp1 hp2
  have hm := run_mapM P w (fun f : Field => do pure (f.offset, ← Go.sizeOf f.type)) (fun f => (f.offset, P.cellsOf f.type)) fields (fun f hf => by
    obtain ⟨j, hj⟩ := List.getElem?_of_mem hf
    obtain ⟨g', _, k2, _⟩ := hfs j f (by simpa using hj)
    obtain ⟨q, hq1, hq2⟩ := k2.info
    simp [Go.sizeOf, typeInfo, hq1, Program.cellsOf])
  refine Does.same (u := .agg us') ?_ ((RV_agg rfl).2 ⟨us'.toList, by simp, ?_⟩) hs
  · simp only [Instr.build, zeroValue, typeInfo, underlying, Sem.run_bind, run_program, Result.andThen_ok, hi, Sem.run_pure, hzz, hu, Value.cells]
    have hm' := hm
    simp only [bind_pure_comp] at hm'
    simp only [bind_pure_comp, hm', Result.andThen_ok, h1, Sem.run_pure]
  · simp only [RC]
    exact ⟨h2, by rw [h3, hgs, hf], h4 hsol⟩

theorem do_blda (hL : L.OK) (hs : Sim L c h w) {T t n : Nat} {el : TypeId} {e : Option Nat} {zero : List V} {places : List Nat} (hu : P.underlying T = some (.array n el)) (hel : TG P L el e)
    (ha : L.arr t = some (n, e)) (hz : ZeroOK P L T (.arr t zero)) {ys : List V} {us : List Value} (hul : us.length = ys.length) (hv : ∀ (i : Nat) (y : V) (u : Value), ys[i]? = some y → us[i]? = some u → RV L c y u)
    {v : V} {h' : Hp} (hop : opBlda h t zero places ys = some (v, h')) : Does L c w ((Instr.build T (places.zip us).toArray).run P w) v h' := by
  simp only [opBlda] at hop
  split at hop
  case isFalse => cases hop
  rename_i hlen
  obtain ⟨fs, hput, he⟩ := Option.map_eq_some_iff.1 hop
  simp only [Prod.mk.injEq] at he
  obtain ⟨rfl, rfl⟩ := he
  obtain ⟨i, z, hi, hzz, hzr⟩ := hz
  obtain ⟨zs, rfl, hr⟩ := (RV_agg rfl).1 (hzr c)
  simp only [RC] at hr
  obtain ⟨hr, e', ha', hes⟩ := hr
  rw [ha] at ha'
  simp only [Option.some.injEq, Prod.mk.injEq] at ha'
  obtain ⟨hn, rfl⟩ := ha'
  obtain ⟨hp1, hp2⟩ := zip_parts places hlen hul hv
  have hplaces : PlacesOK L (fun i => some (i * L.csz e, L.csz e)) (zero.map V.ty) := by
    intro j g hj
    rw [List.getElem?_map] at hj
    obtain ⟨x, hx, rfl⟩ := Option.map_eq_some_iff.1 hj
    have hxe := (hes x (List.mem_of_getElem? hx)).1
    have := sum_take_const (zero.map V.ty) L.csz (L.csz e) j (fun y hy => by
      obtain ⟨q, hq, rfl⟩ := List.mem_map.1 hy
      rw [(hes q hq).1]) (by have := (List.getElem?_eq_some_iff.1 hx).1; simp; omega)
    rw [this, hxe]
  obtain ⟨us', h1, h2, h3, h4, h5⟩ := fill_sim hL (places.zip ys) (places.zip us) zero fs zs.toArray hplaces (by simpa using hr) hput hp1 hp2
  have hfl : fs.length = zero.length := by have := congrArg List.length h3; simpa using this
  refine Does.same (u := .agg us') ?_ ((RV_agg rfl).2 ⟨us'.toList, by simp, ?_⟩) hs
  · simp only [Instr.build, zeroValue, typeInfo, underlying, Sem.run_bind, run_program, Result.andThen_ok, hi, Sem.run_pure, hzz, hu, Value.cells, hel.sizeOf, h1]
  · simp only [RC]
    refine ⟨h2, e, by rw [hfl, ← hn]; exact ha, fun x hx => ⟨?_, h4 (fun y hy => (hes y hy).2) x hx⟩⟩
    have : x.ty ∈ zero.map V.ty := by rw [← h3]; exact List.mem_map.2 ⟨x, hx, rfl⟩
    obtain ⟨y, hy, hye⟩ := List.mem_map.1 this
    rw [← hye]; exact (hes y hy).1

/-- As many zero values as are asked for. -/
theorem RCs_replicate {zv : V} {zs : List Value} (hz : RC L c zv zs) : ∀ n, RCs L c (List.replicate n zv) ((List.replicate n zs).flatten)
  | 0 => by simp [RCs]
  | n + 1 => by
    rw [List.replicate_succ, List.replicate_succ, List.flatten_cons]
    simp only [RCs]
    exact ⟨_, _, rfl, hz, RCs_replicate hz n⟩

theorem range_mod (z : Array Value) : ∀ n, ((Array.range (n * z.size)).map (z[· % z.size]!)).toList = (List.replicate n z.toList).flatten
  | 0 => by simp
  | n + 1 => by
    by_cases h0 : z.size = 0
    · have : z = #[] := Array.eq_empty_of_size_eq_zero h0
      subst this
      simp
    rw [List.replicate_succ, List.flatten_cons, ← range_mod z n]
    simp only [Array.toList_map, Array.toList_range]
    rw [show (n + 1) * z.size = z.size + n * z.size by rw [Nat.add_mul]; omega, List.range_add, List.map_append, List.map_map]
    congr 1
    · refine List.ext_getElem? fun j => ?_
      by_cases hj : j < z.size
      · simp [hj, Nat.mod_eq_of_lt hj]
      · rw [List.getElem?_eq_none (by simp; omega), List.getElem?_eq_none (by simp; omega)]
    · refine List.map_congr_left fun j hj => ?_
      simp

theorem RV_refl_of_push (hL : L.OK) {g : Option Nat} {es : List V} {l : Loc} {id : Nat} {w' : World} {h' : Hp} (hs : Sim L c h' w') (hl : c.loc id = some l) (htag : l.tag = g) (htot : l.tot = es.length) (k : Nat) (hk : es.length ≤ k) (hcap : k ≤ l.cap) :
    RV L c (.ref id [] g 0 es.length es.length) (.slice (some ⟨l.blk, 0, none⟩) es.length k) := by
  have := ref_mk hs (id := id) (tot := es.length) (off := 0) (len := es.length) (k := k) (path := []) (m := none) (o := 0) (e := l.tag) hl htot rfl hk ⟨by omega, by omega, by omega⟩
  rw [← htag]
  simpa using this

/-- A slice laid out. -/
theorem Sim.toLit {es : List V} {g : Option Nat} {l : Loc} (hs : Sim L c (h ++ [.cells g es]) w) (hl : c.loc h.length = some l) (hcap : l.cap = es.length) : Sim L c (h ++ [.lit g es]) w where
  z := hs.z
  n := by simpa using hs.n
  loc i l' hl' := by
    obtain ⟨k, h1, h2, h3⟩ := hs.loc i l' hl'
    by_cases e : i = h.length
    · subst e
      rw [hl] at hl'; cases hl'
      simp only [List.getElem?_concat_length, Option.some.injEq] at h1
      subst h1
      obtain ⟨a1, a2, a3, a4⟩ := h3
      exact ⟨.lit g es, by simp, h2, a1, a2, hcap.symm, a4⟩
    · have hi : i < h.length := by
        have := (List.getElem?_eq_some_iff.1 h1).1
        simp at this; omega
      exact ⟨k, by rw [List.getElem?_append_left hi] at h1 ⊢; exact h1, h2, h3⟩
  live i k hk := by
    by_cases e : i = h.length
    · subst e; exact .inl ⟨l, hl⟩
    · have hi : i < h.length := by
        have := (List.getElem?_eq_some_iff.1 hk).1
        simp at this; omega
      exact hs.live i k (by rw [List.getElem?_append_left hi] at hk ⊢; exact hk)
  inj := hs.inj
theorem do_bslX (hL : L.OK) (hs : Sim L c h w) {T : Nat} {el : TypeId} {g : Option Nat} {zv : V} {n : Nat} {places : List Nat} (hu : P.underlying T = some (.slice el)) (hel : TG P L el g) (hpos : 0 < L.csz g)
    (hz : ZeroOK P L el zv) (hzg : zv.ty = g) (hzs : zv.solid = true) (hn : n * L.csz g ≤ 16777216) {ys : List V} {us : List Value} (hul : us.length = ys.length) (hv : ∀ (i : Nat) (y : V) (u : Value), ys[i]? = some y → us[i]? = some u → RV L c y u)
    {v : V} {h' : Hp} (hop : opBsl h g (List.replicate n zv) places ys = some (v, h')) : Does L c w ((Instr.buildSlice T n (places.zip us).toArray).run P w) v h' ∧ ∀ es, v = .ref h.length [] g 0 es.length es.length → h' = h ++ [.cells g es] → Does L c w ((Instr.buildSlice T n (places.zip us).toArray).run P w) v (h ++ [.lit g es]) := by
  simp only [opBsl] at hop
  split at hop
  case isFalse => cases hop
  rename_i hlen
  split at hop
  case h_2 => cases hop
  rename_i es hput
  obtain ⟨i, z, hi, hzz, hzr⟩ := hz
  have hcells := ((hzr c).cells hzs).1
  have hzl := (hzr c).solid_cells_length hL hzs
  rw [hzg] at hzl
  obtain ⟨i', hi', hisz⟩ := hel.info
  rw [hi] at hi'; cases hi'
  obtain ⟨hp1, hp2⟩ := zip_parts places hlen hul hv
  have hplaces : PlacesOK L (fun i => some (i * L.csz g, L.csz g)) ((List.replicate n zv).map V.ty) := by
    intro j x hj
    simp only [List.map_replicate] at hj ⊢
    have hj' := List.mem_of_getElem? hj
    have hjl := (List.getElem?_eq_some_iff.1 hj).1
    simp only [List.length_replicate] at hjl
    have hx := (List.eq_of_mem_replicate hj')
    have := sum_take_const (List.replicate n zv.ty) L.csz (L.csz g) j (fun y hy => by rw [List.eq_of_mem_replicate hy, hzg]) (by simp; omega)
    rw [this, hx, hzg]
  have hstart : RCs L c (List.replicate n zv) ((Array.range (n * L.csz g)).map (z.cells[· % z.cells.size]!)).toList := by
    have e : L.csz g = z.cells.size := by simpa using hzl.symm
    rw [e, range_mod]
    exact RCs_replicate hcells n
  obtain ⟨us', h1, h2, h3, h4, h5⟩ := fill_sim hL (places.zip ys) (places.zip us) _ es _ hplaces hstart hput hp1 hp2
  have hel' : es.length = n := by have := congrArg List.length h3; simpa using this
  have hestys : ∀ x ∈ es, x.ty = g ∧ x.solid = true := fun x hx => by
    refine ⟨?_, h4 (fun y hy => by rw [List.eq_of_mem_replicate hy]; exact hzs) x hx⟩
    have : x.ty ∈ (List.replicate n zv).map V.ty := by rw [← h3]; exact List.mem_map.2 ⟨x, hx, rfl⟩
    obtain ⟨y, hy, hye⟩ := List.mem_map.1 this
    rw [← hye, List.eq_of_mem_replicate hy, hzg]
  have husz : us'.size = n * L.csz g := by rw [h5]; simp
  have hfill : Instr.fill (fun i => some (i * L.csz g, L.csz g)) ((Array.range (n * L.csz g)).map (z.cells[· % z.cells.size]!)) (places.zip us) = some us' := h1
  have hrun : (Instr.buildSlice T n (places.zip us).toArray).run P w = .ok (.slice (some ⟨w.heap.size, 0, none⟩) n n) (w.alloc (.cells us' el)) := by
    by_cases h0 : n = 0
    · subst h0
      have hf0 : Instr.fill (fun i => some (i * L.csz g, L.csz g)) (#[] : Array Value) (places.zip us) = some us' := by
        have e0 : (Array.range (0 * L.csz g)).map (z.cells[· % z.cells.size]!) = #[] := Array.eq_empty_of_size_eq_zero (by simp)
        rw [e0] at hfill; exact hfill
      simp [Instr.buildSlice, underlying, hu, Go.sizeOf, typeInfo, hi, hisz, hf0, newRow, Array.range_zero']
    · have hne : ¬ n * L.csz g = 0 := by have := Nat.mul_pos (show 0 < n by omega) hpos; omega
      simp only [Instr.buildSlice, underlying, Sem.run_bind, run_program, Result.andThen_ok, hu, Sem.run_pure, hel.sizeOf, if_neg (show ¬ n * L.csz g > 2 ^ 24 by omega), if_neg hne, zeroValue, typeInfo, hi, hzz, hfill, newRow, run_newObj, World.alloc_eq]
  by_cases h0 : es.isEmpty = true
  · simp only [h0, if_true, Option.some.injEq, Prod.mk.injEq] at hop
    obtain ⟨rfl, rfl⟩ := hop
    have hn0 : n = 0 := by rw [← hel']; simpa using h0
    subst hn0
    exact ⟨⟨_, c, _, hrun, RV_imm.2 ⟨_, 0, rfl, by simp, fun _ => rfl, by simp, .inl rfl⟩, hs.garbage _, Ctx.le_refl c, St.alloc _ _⟩, fun es e => by cases e⟩
  · simp only [h0, if_false, Option.some.injEq, Prod.mk.injEq, Bool.false_eq_true] at hop
    obtain ⟨rfl, rfl⟩ := hop
    obtain ⟨l, hb, hcap, htag, htot, hs', hl⟩ := push_cells hL hs h2 hestys n [] (by simp [husz]) (by omega) el (0, 0) ⟨by intro j hj; omega, fun _ => rfl⟩
    have hrv : RV L (c.push l) (.ref h.length [] g 0 es.length es.length) (.slice (some ⟨w.heap.size, 0, none⟩) n n) := by
      rw [← hb]
      have := RV_refl_of_push (es := es) hL hs' hl htag htot n (by omega) (by omega)
      rwa [hel'] at this ⊢
    refine ⟨⟨_, c.push l, _, hrun, hrv, by simpa using hs', c.le_push l, St.alloc _ _⟩, fun es' e1 e2 => ?_⟩
    obtain rfl : es = es' := by simpa using e2
    exact ⟨_, c.push l, _, hrun, hrv, (show Sim L (c.push l) (h ++ [.cells g es]) _ by simpa using hs').toLit hl (by omega), c.le_push l, St.alloc _ _⟩

theorem do_bsl (hL : L.OK) (hs : Sim L c h w) {T : Nat} {el : TypeId} {g : Option Nat} {zv : V} {n : Nat} {places : List Nat} (hu : P.underlying T = some (.slice el)) (hel : TG P L el g) (hpos : 0 < L.csz g)
    (hz : ZeroOK P L el zv) (hzg : zv.ty = g) (hzs : zv.solid = true) (hn : n * L.csz g ≤ 16777216) {ys : List V} {us : List Value} (hul : us.length = ys.length) (hv : ∀ (i : Nat) (y : V) (u : Value), ys[i]? = some y → us[i]? = some u → RV L c y u)
    {v : V} {h' : Hp} (hop : opBsl h g (List.replicate n zv) places ys = some (v, h')) : Does L c w ((Instr.buildSlice T n (places.zip us).toArray).run P w) v h' := (do_bslX hL hs hu hel hpos hz hzg hzs hn hul hv hop).1
theorem do_bsx (hL : L.OK) (hs : Sim L c h w) {T : Nat} {el : TypeId} {g : Option Nat} {zv : V} {n : Nat} {places : List Nat} (hu : P.underlying T = some (.slice el)) (hel : TG P L el g) (hpos : 0 < L.csz g)
    (hz : ZeroOK P L el zv) (hzg : zv.ty = g) (hzs : zv.solid = true) (hn : n * L.csz g ≤ 16777216) {ys : List V} {us : List Value} (hul : us.length = ys.length) (hv : ∀ (i : Nat) (y : V) (u : Value), ys[i]? = some y → us[i]? = some u → RV L c y u)
    {v : V} {h' : Hp} (hop : opBsx h g (List.replicate n zv) places ys = some (v, h')) : Does L c w ((Instr.buildSlice T n (places.zip us).toArray).run P w) v h' := by
  unfold opBsx at hop
  split at hop
  case isFalse => cases hop
  rename_i hlen
  split at hop
  case h_2 => cases hop
  rename_i es hput
  split at hop
  case isTrue => cases hop
  rename_i hne
  simp only [Option.some.injEq, Prod.mk.injEq] at hop
  obtain ⟨rfl, rfl⟩ := hop
  exact (do_bslX hL hs hu hel hpos hz hzg hzs hn hul hv (v := .ref h.length [] g 0 es.length es.length) (h' := h ++ [.cells g es]) (by unfold opBsl; rw [if_pos hlen, hput]; simp [hne])).2 es rfl rfl

/-- A slice laid out that is never written again. -/
theorem do_bsi (hL : L.OK) (hs : Sim L c h w) {T : Nat} {el : TypeId} {g : Option Nat} {zv : V} {n : Nat} {places : List Nat} (hu : P.underlying T = some (.slice el)) (hel : TG P L el g) (hpos : 0 < L.csz g)
    (hz : ZeroOK P L el zv) (hzg : zv.ty = g) (hzs : zv.solid = true) (hn : n * L.csz g ≤ 16777216) {ys : List V} {us : List Value} (hul : us.length = ys.length) (hv : ∀ (i : Nat) (y : V) (u : Value), ys[i]? = some y → us[i]? = some u → RV L c y u)
    {v : V} {h' : Hp} (hop : opBsi h g (List.replicate n zv) places ys = some (v, h')) : Does L c w ((Instr.buildSlice T n (places.zip us).toArray).run P w) v h' := by
  simp only [opBsi] at hop
  split at hop
  case isFalse => cases hop
  rename_i hlen
  obtain ⟨es, hput, he⟩ := Option.map_eq_some_iff.1 hop
  simp only [Prod.mk.injEq] at he
  obtain ⟨rfl, rfl⟩ := he
  obtain ⟨i, z, hi, hzz, hzr⟩ := hz
  have hcells := ((hzr c).cells hzs).1
  have hzl := (hzr c).solid_cells_length hL hzs
  rw [hzg] at hzl
  obtain ⟨i', hi', hisz⟩ := hel.info
  rw [hi] at hi'; cases hi'
  obtain ⟨hp1, hp2⟩ := zip_parts places hlen hul hv
  have hplaces : PlacesOK L (fun i => some (i * L.csz g, L.csz g)) ((List.replicate n zv).map V.ty) := by
    intro j x hj
    simp only [List.map_replicate] at hj ⊢
    have hj' := List.mem_of_getElem? hj
    have hjl := (List.getElem?_eq_some_iff.1 hj).1
    simp only [List.length_replicate] at hjl
    have hx := (List.eq_of_mem_replicate hj')
    have := sum_take_const (List.replicate n zv.ty) L.csz (L.csz g) j (fun y hy => by rw [List.eq_of_mem_replicate hy, hzg]) (by simp; omega)
    rw [this, hx, hzg]
  have hstart : RCs L c (List.replicate n zv) ((Array.range (n * L.csz g)).map (z.cells[· % z.cells.size]!)).toList := by
    have e : L.csz g = z.cells.size := by simpa using hzl.symm
    rw [e, range_mod]
    exact RCs_replicate hcells n
  obtain ⟨us', h1, h2, h3, h4, h5⟩ := fill_sim hL (places.zip ys) (places.zip us) _ es _ hplaces hstart hput hp1 hp2
  have hel' : es.length = n := by have := congrArg List.length h3; simpa using this
  have hestys : ∀ x ∈ es, x.ty = g ∧ x.solid = true := fun x hx => by
    refine ⟨?_, h4 (fun y hy => by rw [List.eq_of_mem_replicate hy]; exact hzs) x hx⟩
    have : x.ty ∈ (List.replicate n zv).map V.ty := by rw [← h3]; exact List.mem_map.2 ⟨x, hx, rfl⟩
    obtain ⟨y, hy, hye⟩ := List.mem_map.1 this
    rw [← hye, List.eq_of_mem_replicate hy, hzg]
  have husz : us'.size = n * L.csz g := by rw [h5]; simp
  have hfill : Instr.fill (fun i => some (i * L.csz g, L.csz g)) ((Array.range (n * L.csz g)).map (z.cells[· % z.cells.size]!)) (places.zip us) = some us' := h1
  have hrun : (Instr.buildSlice T n (places.zip us).toArray).run P w = .ok (.slice (some ⟨w.heap.size, 0, none⟩) n n) (w.alloc (.cells us' el)) := by
    by_cases h0 : n = 0
    · subst h0
      have hf0 : Instr.fill (fun i => some (i * L.csz g, L.csz g)) (#[] : Array Value) (places.zip us) = some us' := by
        have e0 : (Array.range (0 * L.csz g)).map (z.cells[· % z.cells.size]!) = #[] := Array.eq_empty_of_size_eq_zero (by simp)
        rw [e0] at hfill; exact hfill
      simp [Instr.buildSlice, underlying, hu, Go.sizeOf, typeInfo, hi, hisz, hf0, newRow, Array.range_zero']
    · have hne : ¬ n * L.csz g = 0 := by have := Nat.mul_pos (show 0 < n by omega) hpos; omega
      simp only [Instr.buildSlice, underlying, Sem.run_bind, run_program, Result.andThen_ok, hu, Sem.run_pure, hel.sizeOf, if_neg (show ¬ n * L.csz g > 2 ^ 24 by omega), if_neg hne, zeroValue, typeInfo, hi, hzz, hfill, newRow, run_newObj, World.alloc_eq]
  have hz : Sim L (c.zpush w.heap.size (.cells us' el (0, 0))) h (w.alloc (.cells us' el)) := hs.zpush _
  refine ⟨_, _, _, hrun, RV_imm.2 ⟨_, n, by rw [hel'], by omega, fun _ => hel'.symm, hestys, Or.inr ⟨w.heap.size, 0, us', el, (0, 0), rfl, by simp [Ctx.zpush], ?_⟩⟩, hz, c.le_zpush _ _ hs.zNone, St.alloc _ _⟩
  rw [hel', ← husz]
  simp only [seg, List.drop_zero]
  rw [List.take_of_length_le (by simp)]
  exact RCs.mono (c.le_zpush _ _ hs.zNone) h2

/-- A slice made. -/
theorem do_mks (hL : L.OK) (hs : Sim L c h w) {T : Nat} {el : TypeId} {g : Option Nat} {zv : V} (hu : P.underlying T = some (.slice el)) (hel : TG P L el g) (hbytes : P.bytesOf el ≤ 4096)
    (hz : ZeroOK P L el zv) (hzg : zv.ty = g) (hzs : zv.solid = true) {x y : V} {ux uy : Value} (hx : RV L c x ux) (hy : RV L c y uy)
    {v : V} {h' : Hp} (hop : opMks h g zv x y = some (v, h')) : Does L c w ((Instr.makeSlice T ux uy).run P w) v h' := by
  simp only [opMks] at hop
  split at hop
  case h_2 => cases hop
  rename_i n m hn hm
  split at hop
  case isFalse => cases hop
  rename_i hc
  obtain ⟨rfl, h0, hmax⟩ := hc
  obtain ⟨kx, rfl⟩ := numOf_RV hn hx
  obtain ⟨ky, rfl⟩ := numOf_RV hm hy
  obtain ⟨i, z, hi, hzz, hzr⟩ := hz
  have hcells := ((hzr c).cells hzs).1
  have hzl := (hzr c).solid_cells_length hL hzs
  rw [hzg] at hzl
  obtain ⟨i', hi', hisz⟩ := hel.info
  rw [hi] at hi'; cases hi'
  have hby : i.bytes ≤ 4096 := by simpa [Program.bytesOf, hi] using hbytes
  have hmul : (i.bytes : Int) * n ≤ 281474976710656 := by
    have h1 : (i.bytes : Int) * n ≤ 4096 * n := Int.mul_le_mul_of_nonneg_right (by omega) h0
    omega
  have hrun := run_make (P := P) w T el i z hu hi hzz kx ky n n h0 (Int.le_refl _) hmul (by omega)
  obtain ⟨k, rfl⟩ := Int.eq_ofNat_of_zero_le h0
  simp only [Int.toNat_natCast] at hrun hop
  by_cases hk : k = 0
  · subst hk
    rw [if_pos (by simp)] at hop
    simp only [Option.some.injEq, Prod.mk.injEq] at hop
    obtain ⟨rfl, rfl⟩ := hop
    exact ⟨_, c, _, hrun, RV_imm.2 ⟨_, 0, rfl, by simp, fun _ => rfl, by simp, .inl rfl⟩, hs.garbage _, Ctx.le_refl c, St.alloc _ _⟩
  · rw [if_neg (by omega)] at hop
    simp only [Option.some.injEq, Prod.mk.injEq] at hop
    obtain ⟨rfl, rfl⟩ := hop
    have hmade : (madeCells z.cells (k * i.size)).toList = (List.replicate k z.cells.toList).flatten := by
      have e : i.size = z.cells.size := by rw [hisz]; simpa using hzl.symm
      rw [e]; exact range_mod z.cells k
    have hr := RCs_replicate hcells k
    obtain ⟨l, hb, hcap, htag, htot, hs', hl⟩ := push_cells hL hs hr (fun x hx => by rw [List.eq_of_mem_replicate hx]; exact ⟨hzg, hzs⟩) k [] (by rw [← hmade]; simp [madeCells, hisz]) (by simp) el (0, 0) ⟨by intro j hj; omega, fun _ => rfl⟩
    refine ⟨_, c.push l, _, hrun, ?_, ?_, c.le_push l, St.alloc _ _⟩
    · rw [← hb]
      have := RV_refl_of_push (es := List.replicate k zv) hL hs' hl htag htot k (by simp) (by omega)
      simp only [List.length_replicate] at this
      exact this
    · have : (madeCells z.cells (k * i.size)) = ((List.replicate k z.cells.toList).flatten ++ []).toArray := by
        apply Array.ext'
        simpa using hmade
      rw [this]; exact hs'
end Go.Vm
/- The abstract machine's operations are Go's: what slices hold; cuts; conversions; the small ones. -/
namespace Go.Vm
set_option linter.unusedVariables false
set_option linter.unusedSimpArgs false
variable {P : Program} {L : Lay} {c : Ctx} {h : Hp} {w : World}

/-- What a slice holds lies in Go's memory. -/
theorem elems_RV (hL : L.OK) (hs : Sim L c h w) {x : V} {u : Value} (hx : RV L c x u) {g : Option Nat} {es : List V} (he : elems h x = some (g, es)) :
    ∃ a k, u = .slice a es.length k ∧ es.length ≤ k ∧ (∀ y ∈ es, y.ty = g ∧ y.solid = true) ∧ (es = [] ∨ ∃ b o us ty fz, a = some ⟨b, o, none⟩ ∧ w.heap[b]? = some (.cells us ty fz) ∧ RCs L c es ((us.toList.drop o).take (es.length * L.csz g))) := by
  unfold elems at he
  split at he
  · rename_i full g' es'
    simp only [Option.some.injEq, Prod.mk.injEq] at he
    obtain ⟨rfl, rfl⟩ := he
    obtain ⟨a, k, rfl, h1, h2, h3, h4⟩ := RV_imm.1 hx
    refine ⟨a, k, rfl, h1, h3, ?_⟩
    rcases h4 with h4 | ⟨b, off, cs, ty, fz, ha, hz, hr⟩
    · exact .inl h4
    · exact .inr ⟨b, off, cs, ty, fz, ha, hs.z _ _ hz, hr⟩
  · rename_i id path g' off len tot
    obtain ⟨es', hr, he'⟩ := Option.map_eq_some_iff.1 he
    simp only [Prod.mk.injEq] at he'
    obtain ⟨rfl, rfl⟩ := he'
    obtain ⟨l, o, e, m, us, ty, fz, hl, ht, hro, hg, hz, hfz, hle, hrc, hes, hm1, hm2, hoff⟩ := hs.rowAt hL hr
    obtain ⟨rfl, k, rfl, hlk, hm⟩ := ref_live hx hl ht hro
    have hfit : off + len ≤ es'.length := by
      cases m with
      | none => have := (hm1 rfl).1; simp only [roomR] at hm; omega
      | some n => have := hm2 n rfl; simp only [roomR] at hm; omega
    have hlen : ((es'.drop off).take len).length = len := by simp; omega
    rw [hlen]
    refine ⟨_, k, rfl, hlk, fun y hy => hes y (List.mem_of_mem_drop (List.mem_of_mem_take hy)), .inr ⟨l.blk, o + off * L.csz e, us, ty, fz, rfl, hg, ?_⟩⟩
    have := RCs_sub hL hrc (fun y hy => (hes y hy).1) off len hfit
    have hmul : (off + len) * L.csz e ≤ es'.length * L.csz e := Nat.mul_le_mul_right _ hfit
    rw [Nat.add_mul] at hmul
    rw [List.drop_take, List.take_take, List.drop_drop, Nat.min_eq_left (by omega)] at this
    exact this
  · cases he

/-- The cells of a list of elements, one by one. -/
theorem seg_cells (hL : L.OK) {es : List V} {b o : Nat} {us : Array Value} {ty : TypeId} {fz : Nat × Nat} {g : Option Nat} (hg : w.heap[b]? = some (.cells us ty fz)) (hr : RCs L c es ((us.toList.drop o).take (es.length * L.csz g))) (hes : ∀ y ∈ es, y.ty = g) :
    ∀ j v, ((us.toList.drop o).take (es.length * L.csz g))[j]? = some v → w.cell? ((⟨b, o, none⟩ : Addr).add j) = some v := fun j v hj => by
  rw [add_mid, cell_of_heap hg]
  have hlen := RCs_length_uniform hL hr hes
  have hjl := (List.getElem?_eq_some_iff.1 hj).1
  rw [hlen] at hjl
  rw [List.getElem?_take, if_pos hjl, List.getElem?_drop] at hj
  simpa using hj

/-- The numbers of a list of bytes. -/
theorem bytesOf_cells : ∀ (es : List V) (l : List UInt8) (us : List Value), bytesOf es = some l → RCs L c es us → ∃ ns : List Int, us = ns.map (Value.int .u8) ∧ ns.length = es.length ∧ l = ns.map fun n => UInt8.ofNat n.toNat
  | [], l, us, hb, hr => by
    simp only [bytesOf, Option.some.injEq] at hb
    simp only [RCs] at hr
    subst hb; subst hr
    exact ⟨[], rfl, rfl, rfl⟩
  | e :: es, l, us, hb, hr => by
    simp only [RCs] at hr
    obtain ⟨u1, u2, rfl, h1, h2⟩ := hr
    unfold bytesOf at hb
    split at hb
    · rename_i heq
      cases heq
    · rename_i n vs heq
      simp only [List.cons.injEq] at heq
      obtain ⟨rfl, rfl⟩ := heq
      obtain ⟨l', hl', rfl⟩ := Option.map_eq_some_iff.1 hb
      obtain ⟨ns, rfl, h3, rfl⟩ := bytesOf_cells es l' u2 hl' h2
      simp only [RC] at h1
      rw [h1.1]
      exact ⟨n :: ns, by simp, by simp [h3], by simp⟩
    · cases hb

theorem do_len (hs : Sim L c h w) {T : Nat} {el : TypeId} (hu : P.underlying T = some (.slice el)) {ty : TypeId} {x : V} {ux : Value} (hx : RV L c x ux) {v : V} {h' : Hp} (hop : opLen h x = some (v, h')) :
    Does L c w ((Builtin.len_ #[T] ty #[ux]).run P w) v h' := by
  simp only [opLen] at hop
  obtain ⟨n, hn, hop⟩ := Option.bind_eq_some_iff.1 hop
  simp only [okI, Option.some.injEq, Prod.mk.injEq] at hop
  obtain ⟨rfl, rfl⟩ := hop
  have : ∃ a k, ux = .slice a n k := by
    unfold lenV at hn
    split at hn
    · simp only [Option.some.injEq] at hn; subst hn
      obtain ⟨a, k, h1, _⟩ := RV_imm.1 hx; exact ⟨a, k, h1⟩
    · simp only [Option.some.injEq] at hn; subst hn
      obtain ⟨a, k, h1, _⟩ := RV_ref.1 hx; exact ⟨some a, k, h1⟩
    · cases hn
  obtain ⟨a, k, rfl⟩ := this
  refine Does.same (u := .int .i64 n) ?_ (RV_s.2 ⟨rfl, rfl⟩) hs
  simp [Builtin.len_, underlying, hu, goInt]

theorem do_cap (hs : Sim L c h w) {T : Nat} {el : TypeId} (hu : P.underlying T = some (.slice el)) {ty : TypeId} {x : V} {ux : Value} (hx : RV L c x ux) {v : V} {h' : Hp} (hop : opCap h x = some (v, h')) :
    Does L c w ((Builtin.cap_ #[T] ty #[ux]).run P w) v h' := by
  simp only [opCap] at hop
  split at hop
  case h_2 => cases hop
  rename_i g es
  simp only [okI, Option.some.injEq, Prod.mk.injEq] at hop
  obtain ⟨rfl, rfl⟩ := hop
  obtain ⟨a, k, rfl, h2, h3, h4⟩ := RV_imm.1 hx
  have hk := h3 rfl
  subst hk
  refine Does.same (u := .int .i64 es.length) ?_ (RV_s.2 ⟨rfl, rfl⟩) hs
  simp [Builtin.cap_, underlying, hu, goInt]

theorem do_slen (hs : Sim L c h w) {T : Nat} (hu : P.underlying T = some .string) {ty : TypeId} {x : V} {ux : Value} (hx : RV L c x ux) {v : V} {h' : Hp} (hop : opSlen h x = some (v, h')) :
    Does L c w ((Builtin.len_ #[T] ty #[ux]).run P w) v h' := by
  simp only [opSlen] at hop
  split at hop
  case h_2 => cases hop
  rename_i s
  simp only [okI, Option.some.injEq, Prod.mk.injEq] at hop
  obtain ⟨rfl, rfl⟩ := hop
  obtain ⟨rfl, _⟩ := RV_s.1 hx
  refine Does.same (u := .int .i64 s.size) ?_ (RV_s.2 ⟨rfl, rfl⟩) hs
  simp [Builtin.len_, underlying, hu, goInt]

/-- A bound that may be there. -/
def optR (L : Lay) (c : Ctx) : Option V → Option Value → Prop
  | none, none => True
  | some y, some u => RV L c y u
  | _, _ => False

/-- A bound, as one of Go's. -/
theorem natOf_RV {x : Option V} {d n : Nat} (hn : natOf x d = some n) {u : Option Value} (hx : optR L c x u) : (u = none ∧ x = none ∧ n = d) ∨ ∃ k, u = some (.int k (n : Int)) := by
  cases x with
  | none =>
    simp only [natOf, Option.some.injEq] at hn
    cases u with
    | none => exact .inl ⟨rfl, rfl, hn.symm⟩
    | some _ => exact hx.elim
  | some y =>
    cases u with
    | none => exact hx.elim
    | some uy =>
      cases y <;> try (simp [natOf] at hn; done)
      rename_i q
      cases q <;> try (simp [natOf] at hn; done)
      rename_i k m
      simp only [natOf] at hn
      split at hn
      · rename_i h0
        simp only [Option.some.injEq] at hn
        obtain ⟨rfl, _⟩ := RV_s.1 hx
        exact .inr ⟨k, by congr 2; omega⟩
      · cases hn

theorem run_bound {k : IntKind} {n y : Nat} {code : BoundsCode} (hle : n ≤ y) : (Instr.sliceBound (.int k (n : Int)) y code).run P w = .ok n w := by
  simp only [Instr.sliceBound, asIntOf, Sem.run_bind, Sem.run_pure, Result.andThen_ok]
  rw [if_pos ⟨by omega, by omega⟩]
  simp

/-- What a cut of a slice comes to. -/
theorem run_cut {T : Nat} {el : TypeId} {g : Option Nat} (hu : P.underlying T = some (.slice el)) (hel : TG P L el g) {a : Option Addr} {len cap l r : Nat} {ul ur : Option Value} (hl : (ul = none ∧ l = 0) ∨ ∃ k, ul = some (.int k (l : Int)))
    (hr : (ur = none ∧ r = len) ∨ ∃ k, ur = some (.int k (r : Int))) (hlr : l ≤ r) (hrc : r ≤ cap) :
    (Instr.sliceAt T (.slice a len cap) ul ur none).run P w = .ok (.slice (if cap = l then a else a.map (·.add (l * L.csz g))) (r - l) (cap - l)) w := by
  have hb : (Instr.sliceBounds true len cap ul ur none).run P w = .ok (l, r, cap) w := by
    rcases hl with ⟨rfl, rfl⟩ | ⟨kl, rfl⟩ <;> rcases hr with ⟨rfl, rfl⟩ | ⟨kr, rfl⟩ <;> simp [Instr.sliceBounds, run_bound hlr, run_bound hrc]
  simp only [Instr.sliceAt, Instr.slice, underlying, Sem.run_bind, run_program, Result.andThen_ok, hu, Sem.run_pure, hb, hel.sizeOf]

theorem run_cut3 {T : Nat} {el : TypeId} {g : Option Nat} (hu : P.underlying T = some (.slice el)) (hel : TG P L el g) {a : Option Addr} {len cap l r m : Nat} {ul : Option Value} {kr km : IntKind} (hl : (ul = none ∧ l = 0) ∨ ∃ k, ul = some (.int k (l : Int)))
    (hlr : l ≤ r) (hrm : r ≤ m) (hmc : m ≤ cap) :
    (Instr.sliceAt T (.slice a len cap) ul (some (.int kr (r : Int))) (some (.int km (m : Int)))).run P w = .ok (.slice (if m = l then a else a.map (·.add (l * L.csz g))) (r - l) (m - l)) w := by
  have hb : (Instr.sliceBounds true len cap ul (some (.int kr (r : Int))) (some (.int km (m : Int)))).run P w = .ok (l, r, m) w := by
    rcases hl with ⟨rfl, rfl⟩ | ⟨kl, rfl⟩ <;> simp [Instr.sliceBounds, run_bound hlr, run_bound hrm, run_bound hmc]
  simp only [Instr.sliceAt, Instr.slice, underlying, Sem.run_bind, run_program, Result.andThen_ok, hu, Sem.run_pure, hb, hel.sizeOf]

/-- Part of what is never written again. -/
theorem imm_sub (hL : L.OK) {full : Bool} {es : List V} {a : Option Addr} {n k l r k' : Nat} {g : Option Nat} (hx : RV L c (.imm full g es) (.slice a n k)) (hlr : l ≤ r) (hr : r ≤ es.length) (full' : Bool) (hk' : r - l ≤ k') (hf : full' = true → k' = r - l)
    (a' : Option Addr) (ha' : l < r → a' = a.map (·.add (l * L.csz g))) : RV L c (.imm full' g ((es.drop l).take (r - l))) (.slice a' (r - l) k') := by
  have hlen : ((es.drop l).take (r - l)).length = r - l := by simp; omega
  obtain ⟨a0, k0, heq, h1, h2, hes, h3⟩ := RV_imm.1 hx
  simp only [Value.slice.injEq] at heq
  obtain ⟨rfl, rfl, rfl⟩ := heq
  refine RV_imm.2 ⟨a', k', by rw [hlen], by rw [hlen]; exact hk', fun h => by rw [hlen]; exact hf h, fun y hy => hes y (List.mem_of_mem_drop (List.mem_of_mem_take hy)), ?_⟩
  by_cases hlt : l < r
  · right
    rcases h3 with rfl | ⟨b, off, cs, ty, fz, rfl, hz, hrc⟩
    · simp at hr; omega
    · refine ⟨b, off + l * L.csz g, cs, ty, fz, by rw [ha' hlt]; simp [add_mid], hz, ?_⟩
      have := RCs_sub hL hrc (fun y hy => (hes y hy).1) l (r - l) (by omega)
      have hmul : (l + (r - l)) * L.csz g ≤ es.length * L.csz g := Nat.mul_le_mul_right _ (by omega)
      rw [Nat.add_mul] at hmul
      simp only [seg] at this ⊢
      rw [List.drop_take, List.take_take, List.drop_drop, Nat.min_eq_left (by omega)] at this
      rw [hlen]; exact this
  · left
    rw [show r - l = 0 by omega]; simp

theorem RV_imm_nil {full : Bool} {g : Option Nat} {a : Option Addr} {k : Nat} (hf : full = true → k = 0) : RV L c (.imm full g []) (.slice a 0 k) :=
  RV_imm.2 ⟨a, k, rfl, Nat.zero_le _, fun h => by simpa using hf h, by simp, Or.inl rfl⟩

/-- Operands stand for Go's, one by one. -/
def RVl (L : Lay) (c : Ctx) : List V → List Value → Prop
  | [], [] => True
  | v :: vs, u :: us => RV L c v u ∧ RVl L c vs us
  | _, _ => False

theorem RVl.length : ∀ {vs : List V} {us : List Value}, RVl L c vs us → us.length = vs.length
  | [], [], _ => rfl
  | [], _ :: _, h => h.elim
  | _ :: _, [], h => h.elim
  | _ :: _, _ :: _, h => by simp [RVl.length h.2]

theorem RVl.get : ∀ {vs : List V} {us : List Value}, RVl L c vs us → ∀ (i : Nat) (y : V) (u : Value), vs[i]? = some y → us[i]? = some u → RV L c y u
  | [], [], _, i, y, u, h1, _ => by simp at h1
  | [], _ :: _, h, _, _, _, _, _ => h.elim
  | _ :: _, [], h, _, _, _, _, _ => h.elim
  | v :: vs, x :: us, h, 0, y, u, h1, h2 => by
    simp at h1 h2; subst h1; subst h2; exact h.1
  | v :: vs, x :: us, h, i + 1, y, u, h1, h2 => RVl.get h.2 i y u (by simpa using h1) (by simpa using h2)

theorem splitBounds_RV {ul ur : Option Value} {bs : List V} (hv : RVl L c bs (ul.toList ++ ur.toList)) {a b : Option V} (hb : splitBounds ul.isSome ur.isSome bs = some (a, b)) : optR L c a ul ∧ optR L c b ur := by
  cases ul with
  | none =>
    cases ur with
    | none =>
      simp only [Option.toList_none, List.append_nil] at hv
      match bs, hv with
      | [], _ => simp only [splitBounds, Option.isSome_none, Option.some.injEq, Prod.mk.injEq] at hb; obtain ⟨rfl, rfl⟩ := hb; exact ⟨trivial, trivial⟩
    | some u =>
      simp only [Option.toList_none, Option.toList_some, List.nil_append] at hv
      match bs, hv with
      | [y], hv => simp only [splitBounds, Option.isSome_none, Option.isSome_some, Option.some.injEq, Prod.mk.injEq] at hb; obtain ⟨rfl, rfl⟩ := hb; exact ⟨trivial, hv.1⟩
      | _ :: _ :: _, hv => exact hv.2.elim
  | some v =>
    cases ur with
    | none =>
      simp only [Option.toList_none, Option.toList_some, List.append_nil] at hv
      match bs, hv with
      | [y], hv => simp only [splitBounds, Option.isSome_none, Option.isSome_some, Option.some.injEq, Prod.mk.injEq] at hb; obtain ⟨rfl, rfl⟩ := hb; exact ⟨hv.1, trivial⟩
      | _ :: _ :: _, hv => exact hv.2.elim
    | some u =>
      simp only [Option.toList_some, List.cons_append, List.nil_append] at hv
      match bs, hv with
      | [y], hv => exact hv.2.elim
      | [y, z], hv => simp only [splitBounds, Option.isSome_some, Option.some.injEq, Prod.mk.injEq] at hb; obtain ⟨rfl, rfl⟩ := hb; exact ⟨hv.1, hv.2.1⟩
      | _ :: _ :: _ :: _, hv => exact hv.2.2.elim

theorem lenV_RV {x : V} {n : Nat} (hn : lenV x = some n) {u : Value} (hx : RV L c x u) : ∃ a k, u = .slice a n k ∧ n ≤ k := by
  unfold lenV at hn
  split at hn
  · simp only [Option.some.injEq] at hn; subst hn
    obtain ⟨a, k, h1, h2, _⟩ := RV_imm.1 hx; exact ⟨a, k, h1, h2⟩
  · simp only [Option.some.injEq] at hn; subst hn
    obtain ⟨a, k, h1, _, h2, _⟩ := RV_ref.1 hx; exact ⟨some a, k, h1, h2⟩
  · cases hn

/-- A cut of a slice. -/
theorem do_sliceV (hL : L.OK) (hs : Sim L c h w) {T : Nat} {el : TypeId} {g : Option Nat} (hu : P.underlying T = some (.slice el)) (hel : TG P L el g) {x : V} {a : Option Addr} {len cap : Nat} (hx : RV L c x (.slice a len cap))
    {ul ur : Option Value} {l r : Nat} (hl : (ul = none ∧ l = 0) ∨ ∃ k, ul = some (.int k (l : Int))) (hr : (ur = none ∧ r = len) ∨ ∃ k, ur = some (.int k (r : Int)))
    {v : V} (hop : sliceV h g x l r = some v) : Does L c w ((Instr.sliceAt T (.slice a len cap) ul ur none).run P w) v h := by
  unfold sliceV at hop
  split at hop
  case isFalse => cases hop
  rename_i hlr
  split at hop
  · rename_i full g' es
    split at hop
    case isFalse => cases hop
    rename_i hre
    obtain ⟨rfl, hre⟩ := hre
    simp only [Option.some.injEq] at hop
    subst hop
    obtain ⟨a0, k0, heq, h1, h2, h3, h4⟩ := RV_imm.1 hx
    simp only [Value.slice.injEq] at heq
    obtain ⟨rfl, rfl, rfl⟩ := heq
    rw [run_cut hu hel hl hr hlr (by omega)]
    refine Does.same rfl (imm_sub hL hx hlr hre _ (by omega) (fun hf => ?_) _ (fun hlt => by rw [if_neg (by omega)])) hs
    simp only [Bool.and_eq_true, beq_iff_eq] at hf
    have := h2 hf.1; omega
  · rename_i id path g' off n tot
    split at hop
    case h_2 => cases hop
    rename_i es hrow
    split at hop
    case isFalse => cases hop
    rename_i hfit
    obtain ⟨rfl, hfit⟩ := hfit
    obtain ⟨ll, o, e, m, us, ty, fz, hl', ht, hro, hg, hz, hfz, hle, hrc, hes, hm1, hm2, hoff⟩ := hs.rowAt hL hrow
    obtain ⟨rfl, k, heq, hlk, hm⟩ := ref_live hx hl' ht hro
    simp only [Value.slice.injEq] at heq
    obtain ⟨rfl, rfl, rfl⟩ := heq
    have hcap : r ≤ cap := by
      rcases hfit with hf | hf
      · omega
      · cases m with
        | none => simp only [roomR] at hm; have := (hm1 rfl).1; omega
        | some n => simp only [roomR] at hm; have := hm2 n rfl; omega
    rw [run_cut hu hel hl hr hlr hcap]
    split at hop
    · rename_i hcase
      simp only [Option.some.injEq] at hop
      subst hop
      have hadd : (if cap = l then some (⟨ll.blk, o + off * L.csz e, none⟩ : Addr) else (some (⟨ll.blk, o + off * L.csz e, none⟩ : Addr)).map (·.add (l * L.csz e))) = some ⟨ll.blk, o + (off + l) * L.csz e, none⟩ := by
        by_cases h0 : l = 0
        · subst h0; split <;> simp [add_mid]
        · rw [if_neg (by omega)]
          simp only [Option.map_some, add_mid, Nat.add_mul, Nat.add_assoc]
      rw [hadd]
      refine Does.same rfl (ref_mk hs hl' ht hro (by omega) ?_) hs
      cases m with
      | none =>
        simp only [roomR] at hm ⊢
        have := (hm1 rfl).1
        omega
      | some n => simp only [roomR] at hm ⊢; omega
    · rename_i hcase
      simp only [Option.some.injEq] at hop
      subst hop
      have e0 : r - l = 0 := by omega
      rw [e0]
      exact Does.same rfl (RV_imm_nil (fun hf => by cases hf)) hs
  · cases hop

theorem do_slice3V (hL : L.OK) (hs : Sim L c h w) {T : Nat} {el : TypeId} {g : Option Nat} (hu : P.underlying T = some (.slice el)) (hel : TG P L el g) {x : V} {a : Option Addr} {len cap : Nat} (hx : RV L c x (.slice a len cap))
    {ul : Option Value} {kr km : IntKind} {l r m : Nat} (hl : (ul = none ∧ l = 0) ∨ ∃ k, ul = some (.int k (l : Int)))
    {v : V} (hop : slice3V h g x l r m = some v) : Does L c w ((Instr.sliceAt T (.slice a len cap) ul (some (.int kr (r : Int))) (some (.int km (m : Int)))).run P w) v h := by
  unfold slice3V at hop
  split at hop
  case isFalse => cases hop
  rename_i hlr
  obtain ⟨hlr, hrm⟩ := hlr
  split at hop
  · rename_i full g' es
    split at hop
    case isFalse => cases hop
    rename_i hre
    obtain ⟨rfl, hre⟩ := hre
    simp only [Option.some.injEq] at hop
    subst hop
    obtain ⟨a0, k0, heq, h1, h2, h3, h4⟩ := RV_imm.1 hx
    simp only [Value.slice.injEq] at heq
    obtain ⟨rfl, rfl, rfl⟩ := heq
    rw [run_cut3 hu hel hl hlr hrm (by omega)]
    refine Does.same rfl (imm_sub hL hx hlr (by omega) _ (by omega) (fun hf => ?_) _ (fun hlt => by rw [if_neg (by omega)])) hs
    simp only [beq_iff_eq] at hf
    omega
  · rename_i id path g' off n tot
    split at hop
    case h_2 => cases hop
    rename_i es hrow
    split at hop
    case isFalse => cases hop
    rename_i hfit
    obtain ⟨ll, o, e, m', us, ty, fz, hl', ht, hro, hg, hz, hfz, hle, hrc, hes, hm1, hm2, hoff⟩ := hs.rowAt hL hrow
    obtain ⟨rfl, k, heq, hlk, hm⟩ := ref_live hx hl' ht hro
    simp only [Value.slice.injEq] at heq
    obtain ⟨rfl, rfl, rfl⟩ := heq
    have hcap : m ≤ cap := by
      rcases hfit with hf | hf
      · omega
      · cases m' with
        | none => simp only [roomR] at hm; have := (hm1 rfl).1; omega
        | some n => simp only [roomR] at hm; have := hm2 n rfl; omega
    rw [run_cut3 hu hel hl hlr hrm hcap]
    split at hop
    · simp only [Option.some.injEq] at hop
      subst hop
      have e0 : r - l = 0 := by omega
      rw [e0]
      exact Does.same rfl (RV_imm_nil (fun hf => by omega)) hs
    · simp only [Option.some.injEq] at hop
      subst hop
      exact Does.same rfl ⟨[_], ⟨_, rfl⟩, rfl⟩ hs
  · cases hop

theorem do_slc (hL : L.OK) (hs : Sim L c h w) {T : Nat} {el : TypeId} {g : Option Nat} (hu : P.underlying T = some (.slice el)) (hel : TG P L el g) {x : V} {ux : Value} (hx : RV L c x ux)
    {ul ur um : Option Value} {bs : List V} (hb : RVl L c bs (ul.toList ++ ur.toList ++ um.toList)) {v : V} {h' : Hp} (hop : opSlc h g ul.isSome ur.isSome um.isSome x bs = some (v, h')) :
    Does L c w ((Instr.sliceAt T ux ul ur um).run P w) v h' := by
  simp only [opSlc] at hop
  split at hop
  case h_2 => cases hop
  rename_i len hlen
  obtain ⟨a, k, rfl, hlk⟩ := lenV_RV hlen hx
  cases um with
  | none =>
    simp only [Option.isSome_none] at hop
    split at hop
    case h_2 => cases hop
    rename_i p q hsp
    simp only [Option.toList_none, List.append_nil] at hb
    obtain ⟨h1, h2⟩ := splitBounds_RV hb hsp
    split at hop
    case h_2 => cases hop
    rename_i l r hl hr
    obtain ⟨v', hv', he⟩ := Option.map_eq_some_iff.1 hop
    simp only [Prod.mk.injEq] at he
    obtain ⟨rfl, rfl⟩ := he
    refine do_sliceV hL hs hu hel hx ?_ ?_ hv'
    · rcases natOf_RV hl h1 with ⟨e1, _, e2⟩ | h3
      · exact Or.inl ⟨e1, e2⟩
      · exact Or.inr h3
    · rcases natOf_RV hr h2 with ⟨e1, _, e2⟩ | h3
      · exact Or.inl ⟨e1, e2⟩
      · exact Or.inr h3
  | some um =>
    simp only [Option.isSome_some] at hop
    split at hop
    · rename_i heq; cases heq
    · rename_i y m h1 h2 _
      have e1 : ul = none := by cases ul <;> simp_all
      obtain ⟨ur', rfl⟩ : ∃ u, ur = some u := by cases ur <;> simp_all
      subst e1
      simp only [Option.toList_none, Option.toList_some, List.nil_append, List.cons_append] at hb
      split at hop
      case h_2 => cases hop
      rename_i r m' hr hm
      obtain ⟨v', hv', he⟩ := Option.map_eq_some_iff.1 hop
      simp only [Prod.mk.injEq] at he
      obtain ⟨rfl, rfl⟩ := he
      rcases natOf_RV (u := some ur') hr hb.1 with ⟨e1, _⟩ | ⟨kr, e1⟩
      · cases e1
      rcases natOf_RV (u := some um) hm hb.2.1 with ⟨e2, _⟩ | ⟨km, e2⟩
      · cases e2
      rw [e1, e2]
      exact do_slice3V hL hs hu hel hx (Or.inl ⟨rfl, rfl⟩) hv'
    · rename_i z y m h1 h2 _
      obtain ⟨ul', rfl⟩ : ∃ u, ul = some u := by cases ul <;> simp_all
      obtain ⟨ur', rfl⟩ : ∃ u, ur = some u := by cases ur <;> simp_all
      simp only [Option.toList_some, List.nil_append, List.cons_append] at hb
      split at hop
      case h_2 => cases hop
      rename_i l r m' hl hr hm
      obtain ⟨v', hv', he⟩ := Option.map_eq_some_iff.1 hop
      simp only [Prod.mk.injEq] at he
      obtain ⟨rfl, rfl⟩ := he
      rcases natOf_RV (u := some ul') hl hb.1 with ⟨e0, _⟩ | ⟨kl, e0⟩
      · cases e0
      rcases natOf_RV (u := some ur') hr hb.2.1 with ⟨e1, _⟩ | ⟨kr, e1⟩
      · cases e1
      rcases natOf_RV (u := some um) hm hb.2.2.1 with ⟨e2, _⟩ | ⟨km, e2⟩
      · cases e2
      rw [e0, e1, e2]
      exact do_slice3V hL hs hu hel hx (Or.inr ⟨kl, rfl⟩) hv'
    · cases hop

theorem run_cutA {T n : Nat} {el : TypeId} {g : Option Nat} (hu : P.underlying T = some (.array n el)) (hel : TG P L el g) {b o l r : Nat} {ul ur : Option Value} (hl : (ul = none ∧ l = 0) ∨ ∃ k, ul = some (.int k (l : Int)))
    (hr : (ur = none ∧ r = n) ∨ ∃ k, ur = some (.int k (r : Int))) (hlr : l ≤ r) (hrc : r ≤ n) :
    (Instr.sliceAt T (.pointer (some ⟨b, o, none⟩)) ul ur none).run P w = .ok (.slice (some (if n = l then ⟨b, o, none⟩ else ⟨b, o + l * L.csz g, none⟩)) (r - l) (n - l)) w := by
  have hb : (Instr.sliceBounds false n n ul ur none).run P w = .ok (l, r, n) w := by
    rcases hl with ⟨rfl, rfl⟩ | ⟨kl, rfl⟩ <;> rcases hr with ⟨rfl, rfl⟩ | ⟨kr, rfl⟩ <;> simp [Instr.sliceBounds, run_bound hlr, run_bound hrc]
  simp only [Instr.sliceAt, Instr.sureAddr, underlying, Sem.run_bind, run_program, Result.andThen_ok, hu, Sem.run_pure, hb, hel.sizeOf, add_mid]

/-- A cut of an array behind a pointer. -/
theorem do_sla (hL : L.OK) (hs : Sim L c h w) {T t n : Nat} {el : TypeId} {g : Option Nat} (hu : P.underlying T = some (.array n el)) (hel : TG P L el g) (ha : L.arr t = some (n, g)) {x : V} {ux : Value} (hx : RV L c x ux)
    {ul ur : Option Value} {bs : List V} (hb : RVl L c bs (ul.toList ++ ur.toList)) {v : V} {h' : Hp} (hop : opSla h t g ul.isSome ur.isSome x bs = some (v, h')) :
    Does L c w ((Instr.sliceAt T ux ul ur none).run P w) v h' := by
  simp only [opSla] at hop
  split at hop
  case h_2 => cases hop
  rename_i p q hsp
  obtain ⟨h1, h2⟩ := splitBounds_RV hb hsp
  split at hop
  · rename_i id path tot
    split at hop
    case h_2 => cases hop
    rename_i t' es hn
    split at hop
    case isFalse => cases hop
    rename_i ht'; subst ht'
    split at hop
    case h_2 => cases hop
    rename_i l r hl hr
    split at hop
    case isFalse => cases hop
    rename_i hc
    obtain ⟨hlr, hrn⟩ := hc
    obtain ⟨ll, j', pp, o, us, ty, fz, rfl, hll, ht, ho, ⟨o', hw'⟩, hg, hz, hfz, hle, hrc⟩ := hs.nodeAt hL hn
    have hu' := ptr_live hx hll ht ho
    subst hu'
    simp only [RC] at hrc
    obtain ⟨e', ha', hes⟩ := hrc.2
    rw [ha] at ha'
    simp only [Option.some.injEq, Prod.mk.injEq] at ha'
    obtain ⟨rfl, rfl⟩ := ha'
    have hoff' : o = j' * L.csz ll.tag + o' := by
      simp only [Lay.off, hw', Option.map_some, Option.some.injEq] at ho
      omega
    have hrow : L.row ll.tag (j' :: pp) = some (o, g, some es.length) := by simp only [Lay.row, hw', V.ty, ha, Option.map_some, hoff']
    have hl' : (ul = none ∧ l = 0) ∨ ∃ k, ul = some (.int k (l : Int)) := by
      rcases natOf_RV hl h1 with ⟨e1, _, e2⟩ | h3
      · exact Or.inl ⟨e1, e2⟩
      · exact Or.inr h3
    have hr' : (ur = none ∧ r = es.length) ∨ ∃ k, ur = some (.int k (r : Int)) := by
      rcases natOf_RV hr h2 with ⟨e1, _, e2⟩ | h3
      · exact Or.inl ⟨e1, e2⟩
      · exact Or.inr h3
    rw [run_cutA hu hel hl' hr' hlr hrn]
    split at hop
    · rename_i hcase
      simp only [Option.some.injEq, Prod.mk.injEq] at hop
      obtain ⟨rfl, rfl⟩ := hop
      have e1 : (if es.length = l then (⟨ll.blk, o, none⟩ : Addr) else ⟨ll.blk, o + l * L.csz g, none⟩) = ⟨ll.blk, o + l * L.csz g, none⟩ := by
        split
        · have : l = 0 := by omega
          subst this; simp
        · rfl
      rw [e1]
      exact Does.same rfl (ref_mk hs hll ht hrow (by omega) (by simp only [roomR]; omega)) hs
    · simp only [Option.some.injEq, Prod.mk.injEq] at hop
      obtain ⟨rfl, rfl⟩ := hop
      have e0 : r - l = 0 := by omega
      rw [e0]
      exact Does.same rfl (RV_imm_nil (fun _ => by omega)) hs
  · rename_i t' es
    split at hop
    case isFalse => cases hop
    rename_i ht'; subst ht'
    split at hop
    case h_2 => cases hop
    rename_i l r hl hr
    split at hop
    case isFalse => cases hop
    rename_i hc
    obtain ⟨hlr, hrn⟩ := hc
    simp only [Option.some.injEq, Prod.mk.injEq] at hop
    obtain ⟨rfl, rfl⟩ := hop
    obtain ⟨b, off, cs, ty, fz, rfl, hz, hrc⟩ := RV_iptr.1 hx
    simp only [RC] at hrc
    obtain ⟨hrc, e', ha', hes⟩ := hrc
    rw [ha] at ha'
    simp only [Option.some.injEq, Prod.mk.injEq] at ha'
    obtain ⟨rfl, rfl⟩ := ha'
    have hl' : (ul = none ∧ l = 0) ∨ ∃ k, ul = some (.int k (l : Int)) := by
      rcases natOf_RV hl h1 with ⟨e1, _, e2⟩ | h3
      · exact Or.inl ⟨e1, e2⟩
      · exact Or.inr h3
    have hr' : (ur = none ∧ r = es.length) ∨ ∃ k, ur = some (.int k (r : Int)) := by
      rcases natOf_RV hr h2 with ⟨e1, _, e2⟩ | h3
      · exact Or.inl ⟨e1, e2⟩
      · exact Or.inr h3
    rw [run_cutA hu hel hl' hr' hlr hrn]
    have hsz : L.csz (V.ty (.arr t' es)) = es.length * L.csz g := by simp [V.ty, Lay.csz, hL.ar _ _ _ ha]
    rw [hsz] at hrc
    have hall : RV L c (.imm true g es) (.slice (some ⟨b, off, none⟩) es.length es.length) := RV_imm.2 ⟨_, _, rfl, Nat.le_refl _, fun _ => rfl, hes, Or.inr ⟨b, off, cs, ty, fz, rfl, hz, hrc⟩⟩
    refine Does.same rfl (imm_sub hL hall hlr hrn _ (by omega) (fun hf => ?_) _ (fun hlt => by rw [if_neg (by omega)]; simp [add_mid])) hs
    simp only [beq_iff_eq] at hf; omega
  · cases hop

theorem do_sls (hs : Sim L c h w) {T : Nat} (hu : P.underlying T = some .string) {x : V} {ux : Value} (hx : RV L c x ux)
    {ul ur : Option Value} {bs : List V} (hb : RVl L c bs (ul.toList ++ ur.toList)) {v : V} {h' : Hp} (hop : opSls h ul.isSome ur.isSome x bs = some (v, h')) :
    Does L c w ((Instr.sliceAt T ux ul ur none).run P w) v h' := by
  simp only [opSls] at hop
  split at hop
  case h_2 => cases hop
  rename_i s p q hsp
  obtain ⟨h1, h2⟩ := splitBounds_RV hb hsp
  split at hop
  case h_2 => cases hop
  rename_i l r hl hr
  split at hop
  case isFalse => cases hop
  rename_i hc
  obtain ⟨hlr, hrn⟩ := hc
  simp only [okI, Option.some.injEq, Prod.mk.injEq] at hop
  obtain ⟨rfl, rfl⟩ := hop
  obtain ⟨rfl, _⟩ := RV_s.1 hx
  have hbd : (Instr.sliceBounds false s.size s.size ul ur none).run P w = .ok (l, r, s.size) w := by
    rcases natOf_RV hl h1 with ⟨rfl, _, rfl⟩ | ⟨kl, rfl⟩ <;> rcases natOf_RV hr h2 with ⟨rfl, _, rfl⟩ | ⟨kr, rfl⟩ <;> simp [Instr.sliceBounds, run_bound hlr, run_bound hrn]
  refine Does.same (u := .string (s.extract l r)) ?_ (RV_s.2 ⟨rfl, rfl⟩) hs
  simp only [Instr.sliceAt, Instr.slice, underlying, Sem.run_bind, run_program, Result.andThen_ok, hu, Sem.run_pure, Option.isSome_none, Bool.false_eq_true, if_false, hbd]
end Go.Vm
/- The abstract machine's operations are Go's: append. -/
namespace Go.Vm
set_option linter.unusedVariables false
set_option linter.unusedSimpArgs false
variable {P : Program} {L : Lay} {c : Ctx} {h : Hp} {w : World}

/-- What is appended, copied, as Go reads it: of the first n. -/
structure Src (P : Program) (L : Lay) (c : Ctx) (w : World) (g : Option Nat) (ys : List V) (u : Value) (us : List Value) : Prop where
  len : (Builtin.lenOf u).run P w = .ok ys.length w
  first : ∀ (w' : World) (n : Nat), w'.heap = w.heap → n ≤ ys.length → (Builtin.firstCells (L.csz g) n u).run P w' = .ok (us.take (n * L.csz g)).toArray w'
  rc : RCs L c ys us
  el : ∀ y ∈ ys, y.ty = g ∧ y.solid = true

theorem cell?_heap {w w' : World} (hw : w'.heap = w.heap) (a : Addr) : w'.cell? a = w.cell? a := by simp [World.cell?, hw]

theorem strCells_len (s : ByteArray) : (strCells s).length = s.size := by simp [strCells]
theorem strCells_RC (s : ByteArray) : RCs L c (strCells s) (s.data.toList.map fun b => Value.int .u8 b.toNat) := by
  unfold strCells
  induction s.data.toList with
  | nil => simp [RCs]
  | cons b l ih => exact ⟨[Value.int .u8 b.toNat], _, rfl, by simp [byteV, RC, Value.oneCell'], ih⟩
theorem strCells_ty (s : ByteArray) : ∀ y ∈ strCells s, y.ty = none ∧ y.solid = true := fun y hy => by
  simp only [strCells, List.mem_map] at hy
  obtain ⟨b, _, rfl⟩ := hy
  exact ⟨rfl, rfl⟩

theorem source_RV (hL : L.OK) (hs : Sim L c h w) {x : V} {u : Value} (hx : RV L c x u) {g : Option Nat} {ys : List V} (he : source h x = some (g, ys)) : ∃ us, Src P L c w g ys u us := by
  unfold source at he
  split at he
  · rename_i s
    simp only [Option.some.injEq, Prod.mk.injEq] at he
    obtain ⟨rfl, rfl⟩ := he
    obtain ⟨rfl, _⟩ := RV_s.1 hx
    refine ⟨_, ⟨by simp [Builtin.lenOf, strCells_len], fun w' n hw hn => ?_, strCells_RC s, strCells_ty s⟩⟩
    simp only [Builtin.firstCells, Lay.csz, Sem.run_pure]
    congr 1
    apply Array.ext'
    have hsz : s.data.toList.length = s.size := by simp
    simp [ByteArray.data_extract, List.map_take]
  · obtain ⟨a, k, rfl, hlk, hel, hcase⟩ := elems_RV hL hs hx he
    rcases hcase with rfl | ⟨b, o, us, ty, fz, rfl, hg, hr⟩
    · refine ⟨[], ⟨by simp [Builtin.lenOf], fun w' n hw hn => ?_, by simp [RCs], hel⟩⟩
      obtain rfl : n = 0 := by simpa using hn
      cases a <;> simp [Builtin.firstCells, loadCells, loadCellsFrom]
    · refine ⟨_, ⟨by simp [Builtin.lenOf], fun w' n hw hn => ?_, hr, hel⟩⟩
      have hlen := RCs_length_uniform hL hr (fun y hy => (hel y hy).1)
      have hmul : n * L.csz g ≤ ys.length * L.csz g := Nat.mul_le_mul_right _ hn
      refine run_firstCells_some (P := P) w' (L.csz g) n ⟨b, o, none⟩ _ _ _ (by rw [List.length_take, hlen]; omega) (fun j v hj => ?_)
      rw [cell?_heap hw]
      refine seg_cells hL hg hr (fun y hy => (hel y hy).1) j v ?_
      rw [List.getElem?_take] at hj
      split at hj
      · exact hj
      · cases hj

theorem grownCap_drew (w : World) (need old : Nat) (e : TypeId) : need ≤ grownCap w need old e := grownCap_ge w need old e

/-- append, where there is room. -/
theorem run_app_room {T T2 el : TypeId} {i : TypeInfo} (ht : P.underlying T = some (.slice el)) (hi : P.info? el = some i) (h2 : (∃ e2, P.underlying T2 = some (.slice e2)) ∨ P.underlying T2 = some .string) {ty : TypeId} {g : Option Nat} (hsz : i.size = L.csz g)
    {base : Option Addr} {sLen sCap : Nat} {u : Value} {ys : List V} {us : List Value} (hsrc : Src P L c w g ys u us) (hroom : sLen + ys.length ≤ sCap) (w' : World)
    (hst : (match base with | some a => (storeCells (a.add (sLen * L.csz g)) (us.take (ys.length * L.csz g))).run P w | none => .ok () w) = .ok () w') :
    (Builtin.append_ #[T, T2] ty #[.slice base sLen sCap, u]).run P w = .ok (.slice base (sLen + ys.length) sCap) w' := by
  have hf := hsrc.first w ys.length rfl (Nat.le_refl _)
  rcases h2 with ⟨e2, hd⟩ | hd
  all_goals
    cases base with
    | none =>
      simp only [Result.ok.injEq, true_and] at hst
      subst hst
      simp [Builtin.append_, run_underlying ht, run_underlying hd, sizeOf, typeInfo, hi, hsz, hsrc.len, hroom, hf]
    | some a =>
      simp only at hst
      simp [Builtin.append_, run_underlying ht, run_underlying hd, sizeOf, typeInfo, hi, hsz, hsrc.len, hroom, hf, hst]

/-- append, where there is none. -/
theorem run_app_grow {T T2 el : TypeId} {i : TypeInfo} {z : Value} (ht : P.underlying T = some (.slice el)) (hi : P.info? el = some i) (hzero : i.zero = some z) (h2 : (∃ e2, P.underlying T2 = some (.slice e2)) ∨ P.underlying T2 = some .string) {ty : TypeId} {g : Option Nat} (hsz : i.size = L.csz g)
    {base : Option Addr} {sLen sCap : Nat} {olds : List Value} (hold : (Builtin.firstCells (L.csz g) sLen (.slice base sLen sCap)).run P w.drew = .ok olds.toArray w.drew)
    {u : Value} {ys : List V} {us : List Value} (hsrc : Src P L c w g ys u us) (hfull : us.length = ys.length * L.csz g) (hroom : sCap < sLen + ys.length) (hlen : (sLen + ys.length) * i.bytes ≤ 140737488355328) (h63 : sLen + ys.length ≤ 9223372036854775807) :
    (Builtin.append_ #[T, T2] ty #[.slice base sLen sCap, u]).run P w = .ok (.slice (some ⟨w.heap.size, 0, none⟩) (sLen + ys.length) (grownCap w (sLen + ys.length) sCap el))
      (w.drew.alloc (.cells (olds ++ us ++ (Builtin.zeroCells z.cells (grownCap w (sLen + ys.length) sCap el - (sLen + ys.length))).toList).toArray el)) := by
  have hf := hsrc.first w.drew ys.length rfl (Nat.le_refl _)
  rw [← hfull, List.take_length] at hf
  have hn : ¬ (sLen + ys.length ≤ sCap) := by omega
  have h63' : ¬ (9223372036854775807 < ((sLen : Int) + (ys.length : Int))) := by omega
  have hfit := growslice_fits (need := sLen + ys.length) hroom hlen
  have h48' : ¬ (281474976710656 < Builtin.nextslicecap (sLen + ys.length) sCap * i.bytes) := by omega
  rcases h2 with ⟨e2, hd⟩ | hd
  all_goals
    simp [Builtin.append_, run_underlying ht, run_underlying hd, sizeOf, typeInfo, zeroValue, hi, hsz, hsrc.len, hzero, hn, h63', h48', Question.forced, hf, hold, newRow, grownCap]
    congr 2
    apply Array.ext'
    simp [List.append_assoc]

/-- A part of a row is written anew; it may become longer. -/
theorem row_write (hL : L.OK) (hs : Sim L c h w) {id : Nat} {g : Option Nat} {l : Loc} {us : Array Value} {ty : TypeId} {fz : Nat × Nat} (hl : c.loc id = some l) (htag : l.tag = g) (hz : c.z l.blk = none) (hg : w.heap[l.blk]? = some (.cells us ty fz))
    (hfz : Unfz g us.size fz) (hsz : us.size = l.cap * L.csz g) {es' : List V} (hes : ∀ y ∈ es', y.ty = g ∧ y.solid = true) (hlen : l.tot ≤ es'.length) (hcap : es'.length ≤ l.cap) {o : Nat} {vs : List Value} (ho : o + vs.length ≤ us.size)
    (hr : RCs L c es' ((lay us.toList o vs).take (es'.length * L.csz g))) :
    ∃ l', l' = { l with tot := es'.length } ∧ Sim L (c.move id l') (h.set id (.cells g es')) (w.setCells l.blk o vs) ∧ c.le (c.move id l') ∧ (c.move id l').loc id = some l' := by
  have hle : c.le (c.move id { l with tot := es'.length }) := Ctx.le_move c id l _ hl rfl hlen (fun _ => ⟨rfl, rfl⟩)
  refine ⟨_, rfl, ?_, hle, by simp [Ctx.move]⟩
  have hlaylen : (lay us.toList o vs).length = us.size := by rw [length_lay _ _ _ (by simpa using ho)]; simp
  refine hs.move hl _ hle hz (Or.inl rfl) (fun b hb hbl => heap_setCells_other l.blk _ _ _ b hbl) (fun o' ho' => by rw [hz] at ho'; cases ho') ?_
  exact ⟨htag, rfl, hcap, hes, _, ty, fz, heap_setCells l.blk ty fz vs o us w hg ho, by simpa [hlaylen] using hsz, ⟨fun j hj => hfz.1 j (by simpa [hlaylen] using hj), hfz.2⟩, by simpa using hr.mono hle⟩

/-- Cells of a row, written anew from an element on. -/
theorem RCs_over (hL : L.OK) {es ys : List V} {us vs : List Value} {g : Option Nat} (h1 : RCs L c es us) (h2 : RCs L c ys vs) (he : ∀ y ∈ es, y.ty = g) (hy : ∀ y ∈ ys, y.ty = g) {n : Nat} (hn : n + ys.length ≤ es.length) :
    RCs L c (es.take n ++ ys ++ es.drop (n + ys.length)) (lay us (n * L.csz g) vs) := by
  have hv := RCs_length_uniform hL h2 hy
  have a := (RCs_take hL h1 he n (by omega)).1
  have b := (RCs_take hL h1 he (n + ys.length) hn).2
  rw [List.append_assoc]
  refine RCs_append.2 ⟨_, _, rfl, a, RCs_append.2 ⟨_, _, rfl, h2, ?_⟩⟩
  rw [hv, ← Nat.add_mul]; exact b

theorem size_take_lay {us vs : List Value} {a b : Nat} (h : a + vs.length ≤ us.length) (hb : a + vs.length = b) : (lay us a vs).take b = us.take a ++ vs := by
  simp only [lay]
  rw [← List.append_assoc, List.take_append_of_le_length (by simp; omega), List.take_of_length_le (by simp; omega)]

/-- What is appended, however it is given: the two ways that Go appends. -/
structure Apd (P : Program) (L : Lay) (c : Ctx) (w : World) (T T2 ty el : TypeId) (i : TypeInfo) (g : Option Nat) (ys : List V) (u : Value) (us : List Value) : Prop where
  room : ∀ (base : Option Addr) (sLen sCap : Nat) (w' : World), sLen + ys.length ≤ sCap → (match base with | some a => (storeCells (a.add (sLen * L.csz g)) (us.take (ys.length * L.csz g))).run P w | none => .ok () w) = .ok () w' →
    (Builtin.append_ #[T, T2] ty #[.slice base sLen sCap, u]).run P w = .ok (.slice base (sLen + ys.length) sCap) w'
  grow : ∀ (z : Value), i.zero = some z → ∀ (base : Option Addr) (sLen sCap : Nat) (olds : List Value), (Builtin.firstCells (L.csz g) sLen (.slice base sLen sCap)).run P w.drew = .ok olds.toArray w.drew → us.length = ys.length * L.csz g → sCap < sLen + ys.length → (sLen + ys.length) * i.bytes ≤ 140737488355328 → sLen + ys.length ≤ 9223372036854775807 →
    (Builtin.append_ #[T, T2] ty #[.slice base sLen sCap, u]).run P w = .ok (.slice (some ⟨w.heap.size, 0, none⟩) (sLen + ys.length) (grownCap w (sLen + ys.length) sCap el))
      (w.drew.alloc (.cells (olds ++ us ++ (Builtin.zeroCells z.cells (grownCap w (sLen + ys.length) sCap el - (sLen + ys.length))).toList).toArray el))
  rc : RCs L c ys us
  el : ∀ y ∈ ys, y.ty = g ∧ y.solid = true

theorem Src.apd {T T2 ty el : TypeId} {i : TypeInfo} {g : Option Nat} {ys : List V} {u : Value} {us : List Value} (ht : P.underlying T = some (.slice el)) (hi : P.info? el = some i) (h2 : (∃ e2, P.underlying T2 = some (.slice e2)) ∨ P.underlying T2 = some .string) (hsz : i.size = L.csz g) (hs : Src P L c w g ys u us) :
    Apd P L c w T T2 ty el i g ys u us :=
  ⟨fun _ _ _ w' hr hst => run_app_room ht hi h2 hsz hs hr w' hst, fun z hz _ _ _ _ ho hf hr hl h63 => run_app_grow ht hi hz h2 hsz ho hs hf hr hl h63, hs.rc, hs.el⟩

theorem zeros_len (z : Array Value) (n : Nat) : (Builtin.zeroCells z n).toList = (List.replicate n z.toList).flatten := range_mod z n

/-- Zero values, as many as are asked for. -/
theorem zeros_apd (hL : L.OK) {T T2 ty el : TypeId} {i : TypeInfo} {z : Value} {g : Option Nat} {zv : V} {kd : IntKind} (ht : P.underlying T = some (.slice el)) (hi : P.info? el = some i) (hzz : i.zero = some z) (hzr : ∀ c, RV L c zv z) (hzg : zv.ty = g) (hzs : zv.solid = true) (h2 : P.underlying T2 = some (.int kd)) (hsz : i.size = L.csz g) (hby : 0 < i.bytes) {k : Nat} (hk : k * i.bytes ≤ 140737488355328) :
    Apd P L c w T T2 ty el i g (List.replicate k zv) (.int .i64 k) (Builtin.zeroCells z.cells k).toList := by
  have hzl := (hzr c).solid_cells_length hL hzs
  rw [hzg] at hzl
  have hkk : k ≤ 140737488355328 := Nat.le_trans (Nat.le_mul_of_pos_right _ hby) hk
  have hrc : RCs L c (List.replicate k zv) (Builtin.zeroCells z.cells k).toList := by
    rw [zeros_len]; exact RCs_replicate ((hzr c).cells hzs).1 k
  have hel : ∀ y ∈ List.replicate k zv, y.ty = g ∧ y.solid = true := fun y hy => by rw [List.eq_of_mem_replicate hy]; exact ⟨hzg, hzs⟩
  have hlen := RCs_length_uniform hL hrc (fun q hq => (hel q hq).1)
  have hwr : IntKind.i64.wrap (k : Int) = k := IntWalk.i64_in _ (by omega)
  have hneg : ¬ ((k : Int) < 0) := by omega
  have h48 : ¬ ((2 : Int) ^ 48 < (k : Int) * (i.bytes : Int)) := by
    have : ((k * i.bytes : Nat) : Int) ≤ 140737488355328 := Int.ofNat_le.2 hk
    rw [Int.natCast_mul] at this
    omega
  have h48b : ¬ ((281474976710656 : Int) < (k : Int) * (i.bytes : Int)) := by
    have : ((k * i.bytes : Nat) : Int) ≤ 140737488355328 := Int.ofNat_le.2 hk
    rw [Int.natCast_mul] at this
    omega
  have hnil : k * L.csz g = 0 → (Builtin.zeroCells z.cells k) = #[] := fun h0 => by
    apply Array.eq_empty_of_size_eq_zero
    rw [List.length_replicate] at hlen
    rw [← Array.length_toList, hlen, h0]
  refine ⟨fun base sLen sCap w' hr hst => ?_, fun z' hz' base sLen sCap olds hold hful hroom hl h63 => ?_, hrc, hel⟩
  · simp only [List.length_replicate] at hr hst ⊢
    have hst' : (match base with | some a => (storeCells (a.add (sLen * L.csz g)) (Builtin.zeroCells z.cells k).toList).run P w | none => .ok () w) = .ok () w' := by
      have : (Builtin.zeroCells z.cells k).toList.take (k * L.csz g) = (Builtin.zeroCells z.cells k).toList := by
        rw [List.take_of_length_le]; rw [hlen]; simp
      rwa [this] at hst
    cases base with
    | none =>
      simp only [Result.ok.injEq, true_and] at hst'
      subst hst'
      by_cases h0 : k * L.csz g = 0
      · simp [Builtin.append_, run_underlying ht, run_underlying h2, sizeOf, typeInfo, zeroValue, hi, hsz, hzz, asInt, asIntOf, hwr, hneg, h48, h48b, hr, h0]
      · simp [Builtin.append_, run_underlying ht, run_underlying h2, sizeOf, typeInfo, zeroValue, hi, hsz, hzz, asInt, asIntOf, hwr, hneg, h48, h48b, hr, h0]
    | some a =>
      simp only at hst'
      by_cases h0 : k * L.csz g = 0
      · rw [hnil h0] at hst'
        simp [Builtin.append_, run_underlying ht, run_underlying h2, sizeOf, typeInfo, zeroValue, hi, hsz, hzz, asInt, asIntOf, hwr, hneg, h48, h48b, hr, h0, hst']
      · simp [Builtin.append_, run_underlying ht, run_underlying h2, sizeOf, typeInfo, zeroValue, hi, hsz, hzz, asInt, asIntOf, hwr, hneg, h48, h48b, hr, h0, hst']
  · rw [hzz] at hz'
    cases hz'
    simp only [List.length_replicate] at hful hroom hl h63 ⊢
    have hn : ¬ (sLen + k ≤ sCap) := by omega
    have h63' : ¬ (9223372036854775807 < ((sLen : Int) + (k : Int))) := by omega
    have hfit := growslice_fits (need := sLen + k) hroom hl
    have h48' : ¬ (281474976710656 < Builtin.nextslicecap (sLen + k) sCap * i.bytes) := by omega
    by_cases h0 : k * L.csz g = 0
    · rw [hnil h0]
      simp [Builtin.append_, run_underlying ht, run_underlying h2, sizeOf, typeInfo, zeroValue, hi, hsz, hzz, asInt, asIntOf, hwr, hneg, h48, h48b, hn, h63', h48', Question.forced, hold, newRow, grownCap, h0]
      try (congr 2; apply Array.ext'; simp [List.append_assoc])
    · simp [Builtin.append_, run_underlying ht, run_underlying h2, sizeOf, typeInfo, zeroValue, hi, hsz, hzz, asInt, asIntOf, hwr, hneg, h48, h48b, hn, h63', h48', Question.forced, hold, newRow, grownCap, h0]
      try (congr 2; apply Array.ext'; simp [List.append_assoc])

set_option maxHeartbeats 1000000 in
/-- append. -/
theorem do_app_core (hL : L.OK) (hs : Sim L c h w) {T T2 el : TypeId} {i : TypeInfo} {g : Option Nat} {zv : V} (ht : P.underlying T = some (.slice el)) (hel : TG P L el g) (hi : P.info? el = some i) (hz : ZeroOK P L el zv) (hzg : zv.ty = g) (hzs : zv.solid = true)
    {ty : TypeId} (hby : 0 < i.bytes) {x : V} {ux uy : Value} (hx : RV L c x ux) {base : Nat} {v : V} {h' : Hp} {gy : Option Nat} {ys : List V} {us : List Value} (src : Apd P L c w T T2 ty el i gy ys uy us) (hop : appendV base g i.bytes h x gy ys = some (v, h')) :
    Does L c w ((Builtin.append_ #[T, T2] ty #[ux, uy]).run P w) v h' := by
  obtain ⟨i', hi', hisz⟩ := hel.info
  rw [hi] at hi'; cases hi'
  obtain ⟨i2, z, hi2, hzz, hzr⟩ := hz
  rw [hi] at hi2; cases hi2
  have hzl := (hzr c).solid_cells_length hL hzs
  rw [hzg] at hzl
  have husl := RCs_length_uniform hL src.rc (fun q hq => (src.el q hq).1)
  unfold appendV at hop
  split at hop
  · rename_i hnil
    subst hnil
    obtain ⟨n, hn, he⟩ := Option.map_eq_some_iff.1 hop
    simp only [Prod.mk.injEq] at he
    obtain ⟨rfl, rfl⟩ := he
    obtain ⟨a, k, rfl, hlk⟩ := lenV_RV hn hx
    have husnil : us = [] := by simpa [RCs] using src.rc
    subst husnil
    have hrun := src.room a n k w (by simpa using hlk) (by cases a <;> simp [storeCells])
    simp only [List.length_nil, Nat.add_zero] at hrun
    exact Does.same hrun hx hs
  rename_i hne
  have hpos : 0 < ys.length := List.length_pos_iff.2 hne
  split at hop
  case isFalse => cases hop
  rename_i hgy
  subst hgy
  have hmulby : ∀ n, n * i.bytes ≤ 140737488355328 → n ≤ 140737488355328 := fun n hn => by
    have := Nat.le_mul_of_pos_right n hby; omega
  -- a new block
  have grow : ∀ (es : List V) (a : Option Addr) (sCap : Nat) (olds : List Value), RCs L c es olds → (∀ q ∈ es, q.ty = gy ∧ q.solid = true) → (Builtin.firstCells (L.csz gy) es.length (.slice a es.length sCap)).run P w.drew = .ok olds.toArray w.drew → sCap < es.length + ys.length → (es.length + ys.length) * i.bytes ≤ 140737488355328 →
      ∃ (l : Loc) (k : Nat) (w' : World), (Builtin.append_ #[T, T2] ty #[.slice a es.length sCap, uy]).run P w = .ok (.slice (some ⟨l.blk, 0, none⟩) (es.length + ys.length) k) w' ∧ l.blk = w.heap.size ∧ l.cap = k ∧ l.tag = gy ∧ l.tot = es.length + ys.length ∧ es.length + ys.length ≤ k ∧ St w w' ∧
        w' = w.drew.alloc (.cells (olds ++ us ++ (Builtin.zeroCells z.cells (k - (es.length + ys.length))).toList).toArray el) := by
    intro es a sCap olds hro hes hold hlt hbytes
    have hrun := src.grow z hzz a es.length sCap olds hold husl hlt hbytes (by have := hmulby _ hbytes; omega)
    exact ⟨⟨w.heap.size, _, gy, es.length + ys.length⟩, _, _, hrun, rfl, rfl, rfl, rfl, grownCap_drew w _ _ _, (St.drew w).trans (St.alloc _ _), rfl⟩
  split at hop
  · rename_i g' es
    split at hop
    case isFalse => cases hop
    rename_i hc
    obtain ⟨rfl, hbytes⟩ := hc
    simp only [Option.some.injEq, Prod.mk.injEq] at hop
    obtain ⟨rfl, rfl⟩ := hop
    obtain ⟨a, k0, rfl, h1, hfull, hes, hcase⟩ := RV_imm.1 hx
    have hk0 := hfull rfl
    subst hk0
    obtain ⟨olds, so⟩ := source_RV (P := P) hL hs hx (g := g') (ys := es) (by simp [source, elems])
    have hro := so.rc
    have holdl := RCs_length_uniform hL hro (fun q hq => (hes q hq).1)
    have hold := so.first w.drew es.length rfl (Nat.le_refl _)
    rw [← holdl, List.take_length] at hold
    obtain ⟨l, k, w', hrun, hb, hcap, htag, htot, hnk, hst, hw'⟩ := grow es a es.length olds hro hes hold (by omega) hbytes
    have hall : RCs L c (es ++ ys) (olds ++ us) := RCs_append.2 ⟨_, _, rfl, hro, src.rc⟩
    obtain ⟨l2, hb2, hcap2, htag2, htot2, hs', hl2⟩ := push_cells hL hs.drew hall (fun q hq => by rcases List.mem_append.1 hq with hq | hq; exact hes q hq; exact src.el q hq) k (Builtin.zeroCells z.cells (k - (es.length + ys.length))).toList
      (by
        simp only [List.length_append, holdl, husl, Array.length_toList, size_zeroCells]
        simp only [Array.length_toList] at hzl
        rw [hzl, ← Nat.add_mul, ← Nat.add_mul]; congr 1; omega) (by simpa using hnk) el (0, 0) ⟨by intro j hj; omega, fun _ => rfl⟩
    refine ⟨_, c.push l2, w', hrun, ?_, by rw [hw']; exact hs', c.le_push l2, hst⟩
    have hblk : l.blk = l2.blk := by rw [hb, hb2]; rfl
    rw [hblk]
    have := RV_refl_of_push (es := es ++ ys) hL hs' hl2 htag2 htot2 k (by simpa using hnk) (by omega)
    simpa using this
  · rename_i id g' off len tot
    split at hop
    case h_2 => cases hop
    rename_i g'' es hrow
    split at hop
    case isFalse => cases hop
    rename_i hc
    obtain ⟨rfl, rfl, hput⟩ := hc
    obtain ⟨l, hl, htot, htag, hz, hb1, hb2, hb3, hes, us0, ty0, fz0, hg, hsz, hfz, hrc⟩ := hs.row hrow
    have hesl := (rowOf_some hrow).2
    obtain ⟨he, k, rfl, hlk, hm⟩ := ref_live hx hl htot (path := []) (o := 0) (e := l.tag) (m := none) rfl
    simp only [Nat.zero_add] at hlk hm ⊢
    simp only [roomR] at hm
    obtain ⟨hm1, hm2, hm3⟩ := hm
    have hcapmul : ∀ n, n ≤ l.cap → n * L.csz g'' ≤ us0.size := fun n hn => by rw [hsz]; exact Nat.mul_le_mul_right _ hn
    have hstore : ∀ n, n + ys.length ≤ l.cap → (storeCells (⟨l.blk, n * L.csz g'', none⟩ : Addr) (us.take (ys.length * L.csz g''))).run P w = .ok () (w.setCells l.blk (n * L.csz g'') us) := by
      intro n hn
      rw [← husl, List.take_length]
      have hfit : n * L.csz g'' + us.length ≤ us0.size := by rw [husl, ← Nat.add_mul]; exact hcapmul _ hn
      have hone : ∀ q ∈ us, q.oneCell' = true := RCs_oneCells (fun v _ => RC_oneCells v) (fun v hv => (src.el v hv).2) us src.rc
      have := run_storeCells_cells (P := P) l.blk (n * L.csz g'') us 0 w (fun j hj => by rw [cell_of_heap hg]; simp; omega) (fun j hj => frozen_of_heap hg hfz.1 (by omega)) hone
      simpa using this
    split at hop
    · rename_i hfit
      simp only [Option.some.injEq, Prod.mk.injEq] at hop
      obtain ⟨rfl, rfl⟩ := hop
      have hroom : len + ys.length ≤ k := by omega
      have hcap2 : off + len + ys.length ≤ l.cap := by omega
      have hfit2 : (off + len) * L.csz g'' + us.length ≤ us0.size := by rw [husl, ← Nat.add_mul]; exact hcapmul _ hcap2
      have hrun := src.room (some ⟨l.blk, off * L.csz g'', none⟩) len k (w.setCells l.blk ((off + len) * L.csz g'') us) hroom
        (by simp only [add_mid, ← Nat.add_mul]; exact hstore _ hcap2)
      have hover := RCs_over hL hrc src.rc (fun q hq => (hes q hq).1) (fun q hq => (src.el q hq).1) (n := off + len) (by omega)
      have hl3 : (es.take (off + len) ++ ys ++ es.drop (off + len + ys.length)).length = es.length := by simp; omega
      have hlay : lay (us0.toList.take (es.length * L.csz g'')) ((off + len) * L.csz g'') us = (lay us0.toList ((off + len) * L.csz g'') us).take (es.length * L.csz g'') :=
        (lay_take _ _ _ _ (by rw [husl, ← Nat.add_mul]; exact Nat.mul_le_mul_right _ (by omega)) (by have := hcapmul _ hb3; simpa using this)).symm
      rw [hlay] at hover
      obtain ⟨l', hl', hs', hle, hloc⟩ := row_write hL hs hl htag hz hg hfz hsz (es' := es.take (off + len) ++ ys ++ es.drop (off + len + ys.length)) (fun q hq => by
        rcases List.mem_append.1 hq with hq | hq
        · rcases List.mem_append.1 hq with hq | hq
          · exact hes q (List.mem_of_mem_take hq)
          · exact src.el q hq
        · exact hes q (List.mem_of_mem_drop hq)) (by omega) (by omega) hfit2 (by rw [hl3]; exact hover)
      refine ⟨_, _, _, hrun, ?_, hs', hle, St.setCells _ _ _ _⟩
      have := ref_mk hs' (id := id) (tot := tot) (off := off) (len := len + ys.length) (k := k) (path := []) (m := none) (o := 0) (e := l'.tag) hloc (by rw [hl']; simp; omega) rfl hroom (by subst hl'; simp only [roomR]; omega)
      subst hl'
      simp only [Nat.zero_add, htag] at this ⊢
      exact this
    · rename_i hnfit
      split at hop
      case isFalse => cases hop
      rename_i hc
      simp only [Option.some.injEq, Prod.mk.injEq] at hop
      obtain ⟨rfl, rfl⟩ := hop
      obtain ⟨rfl, rfl, hbytes⟩ := hc
      simp only [Nat.zero_mul] at ⊢
      have hall : RCs L c (es ++ ys) (us0.toList.take (es.length * L.csz g'') ++ us) := RCs_append.2 ⟨_, _, rfl, hrc, src.rc⟩
      have hallel : ∀ q ∈ es ++ ys, q.ty = g'' ∧ q.solid = true := fun q hq => by rcases List.mem_append.1 hq with hq | hq; exact hes q hq; exact src.el q hq
      by_cases hroom : len + ys.length ≤ k
      · have hcap2 : len + ys.length ≤ l.cap := by omega
        have hfit2 : len * L.csz g'' + us.length ≤ us0.size := by rw [husl, ← Nat.add_mul]; exact hcapmul _ hcap2
        have hrun := src.room (some ⟨l.blk, 0, none⟩) len k (w.setCells l.blk (len * L.csz g'') us) hroom
          (by simp only [add_mid, Nat.zero_add]; exact hstore _ hcap2)
        obtain ⟨l', hl', hs', hle, hloc⟩ := row_write hL hs hl htag hz hg hfz hsz (es' := es ++ ys) hallel (by simp; omega) (by simp; omega) hfit2 (by
          rw [size_take_lay (by simpa using hfit2) (by rw [List.length_append, husl, Nat.add_mul, hesl])]
          rw [← hesl]; exact hall)
        refine ⟨_, _, _, hrun, ?_, hs', hle, St.setCells _ _ _ _⟩
        have := ref_mk hs' (id := id) (tot := len + ys.length) (off := 0) (len := len + ys.length) (k := k) (path := []) (m := none) (o := 0) (e := l'.tag) hloc (by rw [hl']; simp; omega) rfl hroom (by subst hl'; simp only [roomR]; omega)
        subst hl'
        simp only [Nat.zero_add, Nat.zero_mul, htag] at this ⊢
        exact this
      · have hro : RCs L c es (us0.toList.take (es.length * L.csz g'')) := hrc
        have holdl := RCs_length_uniform hL hro (fun q hq => (hes q hq).1)
        obtain ⟨olds, so⟩ := source_RV (P := P) hL hs hx (g := g'') (ys := es) (by
          have hrow' := hrow
          rw [← hesl] at hrow'
          simp [source, elems, rowAt, ← hesl, hrow'])
        have hro := so.rc
        have holdl := RCs_length_uniform hL hro (fun q hq => (hes q hq).1)
        have hold := so.first w.drew es.length rfl (Nat.le_refl _)
        rw [← holdl, List.take_length] at hold
        have hlen' : len = es.length := by omega
        subst hlen'
        simp only [Nat.zero_add, Nat.zero_mul] at hold
        obtain ⟨l3, k3, w', hrun, hb', hcap', htag', htot', hnk, hst, hw'⟩ := grow es (some ⟨l.blk, 0, none⟩) k olds hro hes hold (by omega) hbytes
        have hall' : RCs L c (es ++ ys) (olds ++ us) := RCs_append.2 ⟨_, _, rfl, hro, src.rc⟩
        have hle : c.le (c.move id l3) := Ctx.le_move c id l l3 hl (by rw [htag, htag']) (by omega) (fun he => by omega)
        have hzn : c.z l3.blk = none := by rw [hb']; exact hs.zNone
        have hs' : Sim L (c.move id l3) (h.set id (.cells g'' (es ++ ys))) w' := by
          refine hs.move hl _ hle hzn (Or.inr (by omega)) (fun b hb hbl => ?_) (fun o' ho' => by rw [hz] at ho'; cases ho') ?_
          · rw [hw']; exact heap_old (w := w.drew) hb
          · refine ⟨htag', by simp [htot'], by simp; omega, hallel, (olds ++ us ++ (Builtin.zeroCells z.cells (k3 - (es.length + ys.length))).toList).toArray, el, (0, 0), ?_, ?_, ⟨by intro j hj; omega, fun _ => rfl⟩, ?_⟩
            · rw [hw', hb']; exact heap_new (w := w.drew)
            · simp only [List.size_toArray, List.length_append, holdl, husl, Array.length_toList, size_zeroCells]
              simp only [Array.length_toList] at hzl
              rw [hzl, ← Nat.add_mul, ← Nat.add_mul, hcap']; congr 1; omega
            · have : ((olds ++ us ++ (Builtin.zeroCells z.cells (k3 - (es.length + ys.length))).toList).take ((es ++ ys).length * L.csz g'')) = olds ++ us := by
                rw [List.take_append_of_le_length (by simp only [List.length_append, holdl, husl, Nat.add_mul]; omega), List.take_of_length_le (by simp only [List.length_append, holdl, husl, Nat.add_mul]; omega)]
              simp only [List.toList_toArray, this]
              exact hall'.mono hle
        have hloc : (c.move id l3).loc id = some l3 := by simp [Ctx.move]
        refine ⟨_, _, _, hrun, ?_, hs', hle, hst⟩
        have := ref_mk hs' (id := id) (tot := es.length + ys.length) (off := 0) (len := es.length + ys.length) (k := k3) (path := []) (m := none) (o := 0) (e := l3.tag) hloc htot' rfl hnk (by simp only [roomR]; omega)
        simpa only [Nat.zero_add, Nat.zero_mul, htag'] using this
  · cases hop

/-- append. -/
theorem do_app (hL : L.OK) (hs : Sim L c h w) {T T2 el : TypeId} {i : TypeInfo} {g : Option Nat} {zv : V} (ht : P.underlying T = some (.slice el)) (hel : TG P L el g) (hi : P.info? el = some i) (hz : ZeroOK P L el zv) (hzg : zv.ty = g) (hzs : zv.solid = true)
    (h2 : (∃ e2, P.underlying T2 = some (.slice e2)) ∨ P.underlying T2 = some .string) {ty : TypeId} (hby : 0 < i.bytes) {x y : V} {ux uy : Value} (hx : RV L c x ux) (hy : RV L c y uy) {base : Nat} {v : V} {h' : Hp} (hop : opApp base h g i.bytes x y = some (v, h')) :
    Does L c w ((Builtin.append_ #[T, T2] ty #[ux, uy]).run P w) v h' := by
  simp only [opApp] at hop
  obtain ⟨⟨gy, ys⟩, hsrc, hop⟩ := Option.bind_eq_some_iff.1 hop
  simp only at hop
  obtain ⟨us, src⟩ := source_RV (P := P) hL hs hy hsrc
  obtain ⟨i', hi', hisz⟩ := hel.info
  rw [hi] at hi'; cases hi'
  by_cases hg : gy = g
  · subst hg
    exact do_app_core hL hs ht hel hi hz hzg hzs hby hx (src.apd ht hi h2 hisz) hop
  · unfold appendV at hop
    split at hop
    · rename_i hnil
      subst hnil
      have husnil : us = [] := by simpa [RCs] using src.rc
      subst husnil
      have src' : Src P L c w g [] uy [] := ⟨src.len, fun w' n hw hn => by
        obtain rfl : n = 0 := by simpa using hn
        have := src.first w' 0 hw (by simp)
        simp only [Nat.zero_mul, List.take_zero] at this ⊢
        cases uy <;> simp_all [Builtin.firstCells, loadCells, loadCellsFrom], src.rc, by simp⟩
      exact do_app_core hL hs ht hel hi hz hzg hzs hby hx (src'.apd ht hi h2 hisz) (base := base) (by unfold appendV; rw [if_pos rfl]; exact hop)
    · simp [hg] at hop

/-- append of zero values. -/
theorem do_apz (hL : L.OK) (hs : Sim L c h w) {T T2 el : TypeId} {i : TypeInfo} {g : Option Nat} {zv : V} {kd : IntKind} (ht : P.underlying T = some (.slice el)) (hel : TG P L el g) (hi : P.info? el = some i) (hz : ZeroOK P L el zv) (hzg : zv.ty = g) (hzs : zv.solid = true)
    (h2 : P.underlying T2 = some (.int kd)) {ty : TypeId} (hby : 0 < i.bytes) {x y : V} {ux uy : Value} (hx : RV L c x ux) (hy : RV L c y uy) {base : Nat} {v : V} {h' : Hp} (hop : opApz base h g i.bytes zv x y = some (v, h')) :
    Does L c w ((Builtin.append_ #[T, T2] ty #[ux, uy]).run P w) v h' := by
  unfold opApz at hop
  split at hop
  case h_2 => cases hop
  rename_i k
  split at hop
  case isFalse => cases hop
  rename_i hc
  obtain ⟨hk0, hk⟩ := hc
  obtain ⟨rfl, _⟩ := RV_s.1 hy
  obtain ⟨i', hi', hisz⟩ := hel.info
  rw [hi] at hi'; cases hi'
  obtain ⟨n, rfl⟩ := Int.eq_ofNat_of_zero_le hk0
  simp only [Int.toNat_natCast] at hop hk
  obtain ⟨i2, z, hi2, hzz, hzr⟩ := id hz
  rw [hi] at hi2; cases hi2
  exact do_app_core hL hs ht hel hi hz hzg hzs hby hx (zeros_apd hL ht hi hzz hzr hzg hzs h2 hisz hby hk) hop
end Go.Vm
/- The abstract machine's operations are Go's: copies, conversions, the small ones. -/
namespace Go.Vm
set_option linter.unusedVariables false
set_option linter.unusedSimpArgs false
variable {P : Program} {L : Lay} {c : Ctx} {h : Hp} {w : World}

theorem run_copy {T T2 el : TypeId} (ht : P.underlying T = some (.slice el)) {ty : TypeId} {g : Option Nat} (hel : TG P L el g)
    {base : Option Addr} {dLen dCap : Nat} {u : Value} {ys : List V} {us : List Value} (hsrc : Src P L c w g ys u us) (w' : World)
    (hst : (match base with | some a => (storeCells a (us.take (Nat.min ys.length dLen * L.csz g))).run P w | none => .ok () w) = .ok () w') :
    (Builtin.copy_ #[T, T2] ty #[.slice base dLen dCap, u]).run P w = .ok (.int .i64 (Nat.min ys.length dLen : Nat)) w' := by
  have hf := hsrc.first w (Nat.min ys.length dLen) rfl (Nat.min_le_left _ _)
  cases base with
  | none =>
    simp only [Result.ok.injEq, true_and] at hst
    subst hst
    simp [Builtin.copy_, run_underlying ht, hel.sizeOf, hsrc.len, hf, goInt]
  | some a =>
    simp only at hst
    simp [Builtin.copy_, run_underlying ht, hel.sizeOf, hsrc.len, hf, hst, goInt]

theorem do_cpy (hL : L.OK) (hs : Sim L c h w) {T T2 el : TypeId} {g : Option Nat} (ht : P.underlying T = some (.slice el)) (hel : TG P L el g)
    {ty : TypeId} {x y : V} {ux uy : Value} (hx : RV L c x ux) (hy : RV L c y uy) {base : Nat} {v : V} {h' : Hp} (hop : opCpy base h g x y = some (v, h')) :
    Does L c w ((Builtin.copy_ #[T, T2] ty #[ux, uy]).run P w) v h' := by
  simp only [opCpy] at hop
  obtain ⟨⟨gy, ys⟩, hsrc, hop⟩ := Option.bind_eq_some_iff.1 hop
  simp only at hop
  obtain ⟨us, src⟩ := source_RV (P := P) hL hs hy hsrc
  have husl := RCs_length_uniform hL src.rc (fun q hq => (src.el q hq).1)
  unfold copyA at hop
  split at hop
  · rename_i id i p g' off len tot hop0
    clear hop0
    split at hop
    case h_2 => cases hop
    rename_i t es hnode
    split at hop
    case isFalse => cases hop
    rename_i hc
    obtain ⟨rfl, rfl, hfit, hput⟩ := hc
    obtain ⟨h1, hst, he⟩ := Option.map_eq_some_iff.1 hop
    simp only [Prod.mk.injEq] at he
    obtain ⟨rfl, rfl⟩ := he
    obtain ⟨l, j, p', o, us0, ty0, fz0, hjp, hl, htot, hoff, ⟨o', hw'⟩, hg, hz, hfz, hle, hr⟩ := hs.nodeAt hL hnode
    have hr0 := hr
    simp only [RC] at hr
    obtain ⟨hr, e, ha, hes⟩ := hr
    have hsz : L.csz (V.ty (.arr t es)) = es.length * L.csz e := by simp [V.ty, Lay.csz, hL.ar _ _ _ ha]
    rw [hsz] at hr hle
    have hrow : L.row l.tag (i :: p) = some (o, e, some es.length) := by
      rw [hjp] at hoff ⊢
      simp only [Lay.off, hw', Option.map_some, Option.some.injEq] at hoff
      simp only [Lay.row, hw', V.ty, ha, Option.map_some, hoff]
    obtain ⟨rfl, k, rfl, hlk, hm⟩ := ref_live hx hl htot hrow
    have hm : off + k = es.length := hm
    have hnl : min ys.length len ≤ ys.length := Nat.min_le_left _ _
    have hnr : min ys.length len ≤ len := Nat.min_le_right _ _
    have hsub := (RCs_take hL src.rc (fun q hq => (src.el q hq).1) (min ys.length len) hnl).1
    have hsubl : (us.take (min ys.length len * L.csz e)).length = min ys.length len * L.csz e := by
      rw [List.length_take, husl]; exact Nat.min_eq_left (Nat.mul_le_mul_right _ hnl)
    have hfit1 : off * L.csz e + (us.take (min ys.length len * L.csz e)).length ≤ es.length * L.csz e := by
      rw [hsubl, ← Nat.add_mul]; exact Nat.mul_le_mul_right _ (by omega)
    have hfit2 : o + off * L.csz e + (us.take (min ys.length len * L.csz e)).length ≤ us0.size := by omega
    have hone : ∀ q ∈ us.take (min ys.length len * L.csz e), q.oneCell' = true := fun q hq => RCs_oneCells (fun v _ => RC_oneCells v) (fun v hv => (src.el v hv).2) us src.rc q (List.mem_of_mem_take hq)
    have hstore : (storeCells (⟨l.blk, o + off * L.csz e, none⟩ : Addr) (us.take (min ys.length len * L.csz e))).run P w = .ok () (w.setCells l.blk (o + off * L.csz e) (us.take (min ys.length len * L.csz e))) := by
      have := run_storeCells_cells (P := P) l.blk (o + off * L.csz e) (us.take (min ys.length len * L.csz e)) 0 w (fun j hj => by rw [cell_of_heap hg]; simp; omega) (fun j hj => frozen_of_heap hg hfz (by omega)) hone
      simpa using this
    have hrun := run_copy (w := w) (T2 := T2) (ty := ty) ht hel (base := some ⟨l.blk, o + off * L.csz e, none⟩) (dLen := len) (dCap := k) src _ hstore
    have htl : (ys.take (min ys.length len)).length = min ys.length len := by simp
    have hover := RCs_over hL hr hsub (fun q hq => (hes q hq).1) (fun q hq => (src.el q (List.mem_of_mem_take hq)).1) (n := off) (by omega)
    rw [htl] at hover
    have hl3 : (es.take off ++ ys.take (min ys.length len) ++ es.drop (off + min ys.length len)).length = es.length := by simp only [List.length_append, List.length_take, List.length_drop]; omega
    have hnew : RC L c (.arr t (es.take off ++ ys.take (min ys.length len) ++ es.drop (off + min ys.length len))) (lay ((us0.toList.drop o).take (es.length * L.csz e)) (off * L.csz e) (us.take (min ys.length len * L.csz e))) := by
      simp only [RC]
      refine ⟨hover, e, by rw [hl3]; exact ha, fun q hq => ?_⟩
      rcases List.mem_append.1 hq with hq | hq
      · rcases List.mem_append.1 hq with hq | hq
        · exact hes q (List.mem_of_mem_take hq)
        · exact src.el q (List.mem_of_mem_take hq)
      · exact hes q (List.mem_of_mem_drop hq)
    have hheap := heap_setCells l.blk ty0 fz0 (us.take (min ys.length len * L.csz e)) (o + off * L.csz e) us0 w hg hfit2
    rw [lay_mid us0.toList _ o (es.length * L.csz e) (off * L.csz e) (by simpa using hle) hfit1] at hheap
    have hs' := sto_sim hL hs hnode hst hnew rfl rfl hl hoff hg hfz (by rw [hsz]; exact hle) hheap (fun k hk => heap_setCells_other l.blk _ _ _ k hk)
    exact ⟨_, _, _, hrun, RV_s.2 ⟨rfl, rfl⟩, hs', Ctx.le_refl c, St.setCells _ _ _ _⟩
  rename_i hnp
  unfold copyV at hop
  split at hop
  case h_2 => cases hop
  rename_i id g' off len tot _
  split at hop
  case h_2 => cases hop
  rename_i g'' es hrow
  split at hop
  case isFalse => cases hop
  rename_i hc
  simp only [Option.some.injEq, Prod.mk.injEq] at hop
  obtain ⟨rfl, rfl⟩ := hop
  obtain ⟨rfl, rfl, rfl, hfit, hput⟩ := hc
  obtain ⟨l, hl, htot, htag, hz, hb1, hb2, hb3, hes, us0, ty0, fz0, hg, hsz, hfz, hrc⟩ := hs.row hrow
  have hesl := (rowOf_some hrow).2
  obtain ⟨he, k, rfl, hlk, hm⟩ := ref_live hx hl htot (path := []) (o := 0) (e := l.tag) (m := none) rfl
  simp only [Nat.zero_add] at hlk hm ⊢
  have hmin : min ys.length len = Nat.min ys.length len := rfl
  have hnl : min ys.length len ≤ ys.length := Nat.min_le_left _ _
  have hnr : min ys.length len ≤ len := Nat.min_le_right _ _
  have hsub := (RCs_take hL src.rc (fun q hq => (src.el q hq).1) (min ys.length len) hnl).1
  have hsubl : (us.take (min ys.length len * L.csz g'')).length = min ys.length len * L.csz g'' := by
    rw [List.length_take, husl]; exact Nat.min_eq_left (Nat.mul_le_mul_right _ hnl)
  have hcapmul : ∀ n, n ≤ l.cap → n * L.csz g'' ≤ us0.size := fun n hn => by rw [hsz]; exact Nat.mul_le_mul_right _ hn
  have hfit2 : off * L.csz g'' + (us.take (min ys.length len * L.csz g'')).length ≤ us0.size := by rw [hsubl, ← Nat.add_mul]; exact hcapmul _ (by omega)
  have hone : ∀ q ∈ us.take (min ys.length len * L.csz g''), q.oneCell' = true := fun q hq => RCs_oneCells (fun v _ => RC_oneCells v) (fun v hv => (src.el v hv).2) us src.rc q (List.mem_of_mem_take hq)
  have hstore : (storeCells (⟨l.blk, off * L.csz g'', none⟩ : Addr) (us.take (min ys.length len * L.csz g''))).run P w = .ok () (w.setCells l.blk (off * L.csz g'') (us.take (min ys.length len * L.csz g''))) := by
    have := run_storeCells_cells (P := P) l.blk (off * L.csz g'') (us.take (min ys.length len * L.csz g'')) 0 w (fun j hj => by rw [cell_of_heap hg]; simp; omega) (fun j hj => frozen_of_heap hg hfz.1 (by omega)) hone
    simpa using this
  have hrun := run_copy (w := w) (T2 := T2) (ty := ty) ht hel (base := some ⟨l.blk, off * L.csz g'', none⟩) (dLen := len) (dCap := k) src _ hstore
  have htl : (ys.take (min ys.length len)).length = min ys.length len := by simp
  have hover := RCs_over hL hrc hsub (fun q hq => (hes q hq).1) (fun q hq => (src.el q (List.mem_of_mem_take hq)).1) (n := off) (by omega)
  rw [htl] at hover
  have hl3 : (es.take off ++ ys.take (min ys.length len) ++ es.drop (off + min ys.length len)).length = es.length := by simp only [List.length_append, List.length_take, List.length_drop]; omega
  have hlay : lay (us0.toList.take (es.length * L.csz g'')) (off * L.csz g'') (us.take (min ys.length len * L.csz g'')) = (lay us0.toList (off * L.csz g'') (us.take (min ys.length len * L.csz g''))).take (es.length * L.csz g'') :=
    (lay_take _ _ _ _ (by rw [hsubl, ← Nat.add_mul]; exact Nat.mul_le_mul_right _ (by omega)) (by have := hcapmul _ hb3; simpa using this)).symm
  rw [hlay] at hover
  obtain ⟨l', hl', hs', hle, hloc⟩ := row_write hL hs hl htag hz hg hfz hsz (es' := es.take off ++ ys.take (min ys.length len) ++ es.drop (off + min ys.length len)) (fun q hq => by
    rcases List.mem_append.1 hq with hq | hq
    · rcases List.mem_append.1 hq with hq | hq
      · exact hes q (List.mem_of_mem_take hq)
      · exact src.el q (List.mem_of_mem_take hq)
    · exact hes q (List.mem_of_mem_drop hq)) (by omega) (by omega) hfit2 (by rw [hl3]; exact hover)
  exact ⟨_, _, _, hrun, RV_s.2 ⟨rfl, rfl⟩, hs', hle, St.setCells _ _ _ _⟩

/-- What was grown is never written again. -/
theorem does_kil (hL : L.OK) {r : Result Value} {v : V} {h1 : Hp} (hd : Does L c w r v h1) {v' : V} {h' : Hp} (hop : opKil (v, h1) = some (v', h')) : Does L c w r v' h' := by
  obtain ⟨u, c1, w1, hr, hx, hs, hle, hst⟩ := hd
  unfold opKil at hop
  simp only at hop
  split at hop
  case h_3 => cases hop
  · cases hop
    obtain ⟨a, k, e1, e2, _, e3⟩ := RV_imm.1 hx
    exact ⟨u, c1, w1, hr, RV_imm.2 ⟨a, k, e1, e2, (fun hf => by cases hf), e3⟩, hs, hle, hst⟩
  rename_i id g' len tot
  split at hop
  case h_2 => cases hop
  rename_i g es hrow
  split at hop
  case isFalse => cases hop
  rename_i hc
  simp only [Option.some.injEq, Prod.mk.injEq] at hop
  obtain ⟨rfl, rfl⟩ := hop
  obtain ⟨rfl, rfl⟩ := hc
  obtain ⟨l, hl, htot, htag, hz, hb1, hb2, hb3, hes, us0, ty0, fz0, hg, hsz, hfz, hrc⟩ := hs.row hrow
  have hesl := (rowOf_some hrow).2
  obtain ⟨he, k, rfl, hlk, hm⟩ := ref_live hx hl htot (path := []) (o := 0) (e := l.tag) (m := none) rfl
  have hs' := hs.die hl (w' := w1) (fun _ _ => rfl) hg
  refine ⟨_, _, w1, hr, ?_, hs', hle.trans (c1.le_die _ _ _ hz), hst⟩
  refine RV_imm.2 ⟨_, k, by rw [hesl]; simp, by omega, (fun hf => by cases hf), hes, Or.inr ⟨l.blk, 0, us0, ty0, fz0, rfl, by simp [Ctx.die], ?_⟩⟩
  simpa [seg] using hrc.mono (c1.le_die id l.blk (.cells us0 ty0 fz0) hz)

theorem do_frzL (hL : L.OK) (hs : Sim L c h w) {T el : TypeId} (ht : P.underlying T = some (.slice el)) (hu8 : P.underlying el = some (.int .u8)) {id len tot : Nat} {g' : Option Nat} {ux : Value} (hx : RV L c (.ref id [] g' 0 len tot) ux) {v : V} {h' : Hp} (hop : frzL h id g' len tot = some (v, h')) :
    Does L c w ((convert T T ux).run P w) v h' := by
  unfold frzL at hop
  split at hop
  case h_2 => cases hop
  rename_i g es hgt
  split at hop
  case isFalse => cases hop
  rename_i hc
  simp only [Option.some.injEq, Prod.mk.injEq] at hop
  obtain ⟨rfl, rfl⟩ := hop
  obtain ⟨rfl, hesl, rfl⟩ := hc
  rcases hs.live id _ hgt with ⟨l, hl⟩ | h'
  case inr => cases h'
  obtain ⟨k, h1, hz, h3⟩ := hs.loc id l hl
  rw [hgt] at h1; cases h1
  obtain ⟨htag, htot, hcap, hes, us0, ty0, fz0, hg, hsz, hfz, hrc⟩ := h3
  have htot := htot.trans hesl
  obtain ⟨he, k, rfl, hlk, hm⟩ := ref_live hx hl htot (path := []) (o := 0) (e := l.tag) (m := none) rfl
  simp only [Nat.zero_add, Nat.zero_mul] at hlk hm ⊢
  have hshape : w.shape? l.blk = some (ty0, us0.size) := by simp [World.shape?, hg]
  have hrun : (convert T T (.slice (some ⟨l.blk, 0, none⟩) len k)).run P w = .ok (.slice (some ⟨l.blk, 0, none⟩) len k) (w.freeze ⟨l.blk, us0.size, none⟩ 1) := by
    simp [convert, run_underlying ht, run_underlying hu8, markStringish, hshape]
  have hheap : ∃ fz, (w.freeze ⟨l.blk, us0.size, none⟩ 1).heap[l.blk]? = some (.cells us0 ty0 fz) := by
    simp [World.freeze, Array.getElem?_modify, hg]
  obtain ⟨fz, hheap⟩ := hheap
  have hother : ∀ b, b ≠ l.blk → (w.freeze ⟨l.blk, us0.size, none⟩ 1).heap[b]? = w.heap[b]? := fun b hb => by
    simp [World.freeze, Array.getElem?_modify, Ne.symm hb]
  have hs' := hs.die hl hother hheap
  refine ⟨_, _, _, hrun, ?_, hs', c.le_die _ _ _ hz, ⟨rfl, rfl, rfl, by simp [World.freeze]⟩⟩
  refine RV_imm.2 ⟨_, k, by rw [hesl], by omega, (fun _ => by simp only [roomR] at hm; omega), hes, Or.inr ⟨l.blk, 0, us0, ty0, fz, rfl, by simp [Ctx.die], ?_⟩⟩
  simpa [seg] using hrc.mono (c.le_die id l.blk (.cells us0 ty0 fz) hz)

/-- A text's bytes laid out are never written again. -/
theorem do_frz (hL : L.OK) (hs : Sim L c h w) {T el : TypeId} (ht : P.underlying T = some (.slice el)) (hu8 : P.underlying el = some (.int .u8)) {x : V} {ux : Value} (hx : RV L c x ux) {v : V} {h' : Hp} (hop : opFrz h x = some (v, h')) :
    Does L c w ((convert T T ux).run P w) v h' := by
  unfold opFrz at hop
  split at hop
  case h_2 => cases hop
  rename_i id g' len tot
  split at hop
  case h_2 => exact do_frzL hL hs ht hu8 hx hop
  rename_i g es hrow
  split at hop
  case isFalse => cases hop
  rename_i hc
  simp only [Option.some.injEq, Prod.mk.injEq] at hop
  obtain ⟨rfl, rfl⟩ := hop
  obtain ⟨rfl, rfl⟩ := hc
  obtain ⟨l, hl, htot, htag, hz, hb1, hb2, hb3, hes, us0, ty0, fz0, hg, hsz, hfz, hrc⟩ := hs.row hrow
  have hesl := (rowOf_some hrow).2
  obtain ⟨he, k, rfl, hlk, hm⟩ := ref_live hx hl htot (path := []) (o := 0) (e := l.tag) (m := none) rfl
  simp only [Nat.zero_add, Nat.zero_mul] at hlk hm ⊢
  have hshape : w.shape? l.blk = some (ty0, us0.size) := by simp [World.shape?, hg]
  have hrun : (convert T T (.slice (some ⟨l.blk, 0, none⟩) len k)).run P w = .ok (.slice (some ⟨l.blk, 0, none⟩) len k) (w.freeze ⟨l.blk, us0.size, none⟩ 1) := by
    simp [convert, run_underlying ht, run_underlying hu8, markStringish, hshape]
  have hheap : ∃ fz, (w.freeze ⟨l.blk, us0.size, none⟩ 1).heap[l.blk]? = some (.cells us0 ty0 fz) := by
    simp [World.freeze, Array.getElem?_modify, hg]
  obtain ⟨fz, hheap⟩ := hheap
  have hother : ∀ b, b ≠ l.blk → (w.freeze ⟨l.blk, us0.size, none⟩ 1).heap[b]? = w.heap[b]? := fun b hb => by
    simp [World.freeze, Array.getElem?_modify, Ne.symm hb]
  have hs' := hs.die hl hother hheap
  refine ⟨_, _, _, hrun, ?_, hs', c.le_die _ _ _ hz, ⟨rfl, rfl, rfl, by simp [World.freeze]⟩⟩
  refine RV_imm.2 ⟨_, k, by rw [hesl], by omega, (fun hf => by cases hf), hes, Or.inr ⟨l.blk, 0, us0, ty0, fz, rfl, by simp [Ctx.die], ?_⟩⟩
  simpa [seg] using hrc.mono (c.le_die id l.blk (.cells us0 ty0 fz) hz)

theorem do_i2i (hs : Sim L c h w) {S T : TypeId} {k : IntKind} (hT : P.underlying T = some (.int k)) (hS : ∃ d, P.underlying S = some d) {x : V} {ux : Value} (hx : RV L c x ux) {v : V} {h' : Hp} (hop : opI2i h k x = some (v, h')) :
    Does L c w ((convert S T ux).run P w) v h' := by
  simp only [opI2i] at hop
  obtain ⟨n, hn, hop⟩ := Option.bind_eq_some_iff.1 hop
  simp only [okI, Option.some.injEq, Prod.mk.injEq] at hop
  obtain ⟨rfl, rfl⟩ := hop
  obtain ⟨k', rfl⟩ := numOf_RV hn hx
  obtain ⟨d, hd⟩ := hS
  refine Does.same (u := .int k (k.wrap n)) ?_ (RV_s.2 ⟨rfl, rfl⟩) hs
  simp [convert, run_underlying hT, run_underlying hd, Conv.intToInt]

theorem strOfNums_eq (ns : List Int) : strOfNums ns = ⟨(ns.map fun n => UInt8.ofNat n.toNat).toArray⟩ := by
  simp [strOfNums]

theorem do_b2s (hL : L.OK) (hs : Sim L c h w) {S T el : TypeId} (hS : P.underlying S = some (.slice el)) (hu8 : P.underlying el = some (.int .u8)) (hT : P.underlying T = some .string) {x : V} {ux : Value} (hx : RV L c x ux) {v : V} {h' : Hp} (hop : opB2s h x = some (v, h')) :
    Does L c w ((convert S T ux).run P w) v h' := by
  simp only [opB2s] at hop
  obtain ⟨⟨g, es⟩, he, hop⟩ := Option.bind_eq_some_iff.1 hop
  obtain ⟨l, hl, hop⟩ := Option.bind_eq_some_iff.1 hop
  simp only [okI, Option.some.injEq, Prod.mk.injEq] at hop
  obtain ⟨rfl, rfl⟩ := hop
  obtain ⟨a, k, rfl, hlk, hel, hcase⟩ := elems_RV hL hs hx he
  simp only at hl
  rcases hcase with rfl | ⟨b, o, us, ty, fz, rfl, hg, hr⟩
  · simp only [bytesOf, Option.some.injEq] at hl
    subst hl
    refine Does.same (u := .string ⟨#[]⟩) ?_ (RV_s.2 ⟨rfl, rfl⟩) hs
    show (convert S T (.slice a 0 k)).run P w = _
    rw [run_convert_bytes_string w S T el a 0 k hS hu8 hT]
    cases a <;> simp [Conv.bytesToString, loadCells, loadCellsFrom] <;> rfl
  · obtain ⟨ns, hns, hnl, rfl⟩ := bytesOf_cells es l _ hl hr
    have hg0 : es ≠ [] → L.csz g = 1 := fun hne => by
      obtain ⟨y, hy⟩ := List.exists_mem_of_ne_nil es hne
      have := congrArg List.length hns
      have h2 := RCs_length_uniform hL hr (fun q hq => (hel q hq).1)
      have hpos : 0 < es.length := List.length_pos_iff.2 hne
      rw [h2, List.length_map, hnl] at this
      exact Nat.eq_of_mul_eq_mul_left hpos (by omega)
    have hseg := seg_cells hL hg hr (fun q hq => (hel q hq).1)
    rw [hns] at hseg
    have hrun := run_convert_bytes_arg (P := P) w S el hS hu8 b o es.length k ns hnl (fun i hi => by
      have := hseg i (.int .u8 (ns.getD i 0)) (by simp [List.getD, List.getElem?_eq_getElem (show i < ns.length by omega)])
      rwa [add_mid] at this) T hT
    rw [strOfNums_eq] at hrun
    exact Does.same hrun (RV_s.2 ⟨rfl, rfl⟩) hs

theorem signsOf_cells : ∀ (es : List V) (l : List Int) (us : List Value), signsOf es = some l → RCs L c es us → us = l.map (Value.int .i32) ∧ l.length = es.length
  | [], l, us, hb, hr => by
    simp only [signsOf, Option.some.injEq] at hb
    simp only [RCs] at hr
    subst hb; subst hr
    exact ⟨rfl, rfl⟩
  | e :: es, l, us, hb, hr => by
    simp only [RCs] at hr
    obtain ⟨u1, u2, rfl, h1, h2⟩ := hr
    unfold signsOf at hb
    split at hb
    · rename_i heq
      cases heq
    · rename_i n vs heq
      simp only [List.cons.injEq] at heq
      obtain ⟨rfl, rfl⟩ := heq
      obtain ⟨l', hl', rfl⟩ := Option.map_eq_some_iff.1 hb
      obtain ⟨rfl, h3⟩ := signsOf_cells es l' u2 hl' h2
      simp only [RC] at h1
      rw [h1.1]
      exact ⟨by simp, by simp [h3]⟩
    · cases hb

theorem do_r2s (hL : L.OK) (hs : Sim L c h w) {S T el : TypeId} (hS : P.underlying S = some (.slice el)) (hu : P.underlying el = some (.int .i32)) (hT : P.underlying T = some .string) {x : V} {ux : Value} (hx : RV L c x ux) {v : V} {h' : Hp} (hop : opR2s h false x = some (v, h')) :
    Does L c w ((convert S T ux).run P w) v h' := by
  simp only [opR2s, Bool.false_eq_true, if_false] at hop
  obtain ⟨⟨g, es⟩, he, hop⟩ := Option.bind_eq_some_iff.1 hop
  obtain ⟨l, hl, hop⟩ := Option.bind_eq_some_iff.1 hop
  simp only [okI, Option.some.injEq, Prod.mk.injEq] at hop
  obtain ⟨rfl, rfl⟩ := hop
  obtain ⟨a, k, rfl, hlk, hel, hcase⟩ := elems_RV hL hs hx he
  simp only at hl
  rcases hcase with rfl | ⟨b, o, us, ty, fz, rfl, hg, hr⟩
  · simp only [signsOf, Option.some.injEq] at hl
    subst hl
    refine Does.same (u := .string (runesBytes [])) ?_ (RV_s.2 ⟨rfl, rfl⟩) hs
    show (convert S T (.slice a 0 k)).run P w = _
    cases a with
    | none => exact run_convert_runes_nil w S T el 0 k hS hu hT
    | some a => exact run_convert_runes w S T el a 0 k [] (Nat.le_refl _) hS hu hT (fun j hj => absurd hj (Nat.not_lt_zero _))
  · obtain ⟨hns, hnl⟩ := signsOf_cells es l _ hl hr
    have hseg := seg_cells hL hg hr (fun q hq => (hel q hq).1)
    rw [hns] at hseg
    have hrun := run_convert_runes (P := P) w S T el ⟨b, o, none⟩ es.length k l (by omega) hS hu hT (fun i hi => hseg i (.int .i32 (l.getD i 0)) (by simp [List.getD, List.getElem?_eq_getElem hi]))
    rw [List.take_of_length_le (by omega)] at hrun
    exact Does.same hrun (RV_s.2 ⟨rfl, rfl⟩) hs

theorem do_i2s (hs : Sim L c h w) {S T : TypeId} (hS : P.underlying S = some (.int .i32)) (hT : P.underlying T = some .string) {x : V} {ux : Value} (hx : RV L c x ux) {v : V} {h' : Hp} (hop : opR2s h true x = some (v, h')) :
    Does L c w ((convert S T ux).run P w) v h' := by
  simp only [opR2s, if_true] at hop
  split at hop
  · have := (RV_s.1 hx).1
    subst this
    simp only [okI, Option.some.injEq, Prod.mk.injEq] at hop
    obtain ⟨rfl, rfl⟩ := hop
    refine Does.same (u := .string (Utf8.encode _)) ?_ (RV_s.2 ⟨rfl, rfl⟩) hs
    simp [convert, run_underlying hT, run_underlying hS, Conv.intToString]
  · cases hop

theorem modify_push {α : Type} (a : Array α) (x : α) (f : α → α) : (a.push x).modify a.size f = a.push (f x) := by
  apply Array.ext_getElem?
  intro i
  rw [Array.getElem?_modify, Array.getElem?_push, Array.getElem?_push]
  by_cases hi : i = a.size
  · subst hi; simp
  · simp [hi, Ne.symm hi]

/-- The bytes of a text, in new memory. -/
theorem run_s2b {S T el : TypeId} (hS : P.underlying S = some .string) (hT : P.underlying T = some (.slice el)) (hu8 : P.underlying el = some (.int .u8)) (s : ByteArray) :
    ∃ cap extra fz w', (convert S T (.string s)).run P w = .ok (.slice (some ⟨w.heap.size, 0, none⟩) s.size cap) w' ∧ s.size ≤ cap ∧ w' = w.drew.alloc (.cells ((s.data.toList.map fun b => Value.int .u8 b.toNat) ++ extra).toArray el fz) ∧
      s.size + extra.length = cap ∧ (∀ j, j < cap → ¬ (fz.1 ≤ j ∧ j < fz.2)) := by
  let cap := (Question.appendCap s.size 0 el).cut (w.tape w.drawn (Question.appendCap s.size 0 el))
  have hcap : s.size ≤ cap := Nat.le_add_right _ _
  refine ⟨cap, List.replicate (cap - s.size) (.int .u8 0), (cap, cap + 1), _, ?_, hcap, rfl, by simp; omega, by intro j hj; simp only; omega⟩
  have hsz : (s.data.map (fun b => Value.int IntKind.u8 b.toNat) ++ Array.replicate (cap - s.size) (Value.int IntKind.u8 0)).size = cap := by
    simp only [Array.size_append, Array.size_map, Array.size_replicate]
    have : s.data.size = s.size := rfl
    omega
  have e : (((s.data.toList.map fun b => Value.int .u8 b.toNat) ++ List.replicate (cap - s.size) (Value.int .u8 0)).toArray) = s.data.map (fun b => Value.int IntKind.u8 b.toNat) ++ Array.replicate (cap - s.size) (Value.int IntKind.u8 0) := by
    apply Array.ext'; simp
  rw [e]
  have hfz : ((w.drew.alloc (.cells (s.data.map (fun b => Value.int IntKind.u8 b.toNat) ++ Array.replicate (cap - s.size) (Value.int IntKind.u8 0)) el)).freeze ⟨w.heap.size, cap, none⟩ 1) = w.drew.alloc (.cells (s.data.map (fun b => Value.int IntKind.u8 b.toNat) ++ Array.replicate (cap - s.size) (Value.int IntKind.u8 0)) el (cap, cap + 1)) := by
    unfold World.freeze
    simp only [Nat.one_ne_zero, if_false]
    show World.mk _ _ _ _ _ = World.mk _ _ _ _ _
    congr 1
    exact (modify_push _ _ _).trans (by simp)
  have hshape : (w.drew.alloc (.cells (s.data.map (fun b => Value.int IntKind.u8 b.toNat) ++ Array.replicate (cap - s.size) (Value.int IntKind.u8 0)) el)).shape? w.heap.size = some (el, cap) := by
    have : (w.drew.alloc (.cells (s.data.map (fun b => Value.int IntKind.u8 b.toNat) ++ Array.replicate (cap - s.size) (Value.int IntKind.u8 0)) el)).heap[w.heap.size]? = some _ := heap_new (w := w.drew)
    simp only [World.shape?, this, hsz]
  rw [← hfz]
  simp only [convert, run_underlying hS, run_underlying hT, run_underlying hu8, Sem.run_bind, Result.andThen_ok, Conv.stringToBytes, run_choose, Question.forced, Bool.false_eq_true, if_false, World.drew_eq, newRow, run_newObj, Sem.run_pure, markStringish, run_shape, World.alloc_eq]
  show (Sem.run P _ _).andThen _ = _
  have hd : w.drew.heap.size = w.heap.size := rfl
  simp only [hd]
  rw [show (Question.appendCap s.size 0 el).cut (w.tape w.drawn (Question.appendCap s.size 0 el)) = cap from rfl, hshape]
  simp

theorem do_s2b (hL : L.OK) (hs : Sim L c h w) {S T el : TypeId} (hS : P.underlying S = some .string) (hT : P.underlying T = some (.slice el)) (hu8 : P.underlying el = some (.int .u8)) {lit : Bool} {x : V} {ux : Value} (hx : RV L c x ux) {v : V} {h' : Hp} (hop : opS2b h lit x = some (v, h')) :
    Does L c w ((convert S T ux).run P w) v h' := by
  unfold opS2b at hop
  split at hop
  case h_2 => cases hop
  rename_i s
  obtain ⟨rfl, _⟩ := RV_s.1 hx
  obtain ⟨cap, extra, fz, w', hrun, hcap, hw', hlen, hfz⟩ := run_s2b (P := P) (w := w) hS hT hu8 s
  have hr := strCells_RC (L := L) (c := c) s
  split at hop
  · simp only [Option.some.injEq, Prod.mk.injEq] at hop
    obtain ⟨rfl, rfl⟩ := hop
    subst hw'
    have hz : Sim L (c.zpush w.drew.heap.size _) h (w.drew.alloc _) := hs.drew.zpush (.cells ((s.data.toList.map fun b => Value.int .u8 b.toNat) ++ extra).toArray el fz)
    refine ⟨_, _, _, hrun, ?_, hz, c.le_zpush _ _ hs.zNone, (St.drew w).trans (St.alloc _ _)⟩
    refine RV_imm.2 ⟨_, cap, by rw [strCells_len], by rw [strCells_len]; exact hcap, (fun hf => by cases hf), strCells_ty s, Or.inr ⟨w.heap.size, 0, ((s.data.toList.map fun b => Value.int .u8 b.toNat) ++ extra).toArray, el, fz, rfl, by simp [Ctx.zpush], ?_⟩⟩
    have hl : (strCells s).length * L.csz none = (s.data.toList.map fun b => Value.int .u8 b.toNat).length := by simp [strCells, Lay.csz]
    rw [hl]
    simp only [seg, List.drop_zero, List.toList_toArray, List.take_left']
    exact hr.mono (c.le_zpush _ _ hs.zNone)
  · split at hop
    · cases hop
    rename_i hne
    simp only [Option.some.injEq, Prod.mk.injEq] at hop
    obtain ⟨rfl, rfl⟩ := hop
    have hml : (s.data.toList.map fun b => Value.int IntKind.u8 (b.toNat : Int)).length = s.size := by simp
    obtain ⟨l, hb, hc, htag, htot, hs', hl⟩ := push_cells hL hs.drew hr (strCells_ty s) cap extra (by rw [hml]; simp only [Lay.csz]; omega) (by rw [strCells_len]; exact hcap) el fz ⟨by
      intro j hj
      rw [List.length_append, hml, hlen] at hj
      exact hfz j hj, fun h => by cases h⟩
    subst hw'
    refine ⟨_, c.push l, _, hrun, ?_, hs', c.le_push l, (St.drew w).trans (St.alloc _ _)⟩
    have := RV_refl_of_push (es := strCells s) hL hs' hl htag htot cap (by rw [strCells_len]; exact hcap) (by omega)
    rw [strCells_len] at this
    rw [hb] at this
    exact this
end Go.Vm
/- The abstract machine's operations are Go's: numbers, truths, texts, interfaces, tuples, text iterators. -/
namespace Go.Vm
set_option linter.unusedVariables false
set_option linter.unusedSimpArgs false
variable {P : Program} {L : Lay} {c : Ctx} {h : Hp} {w : World}

theorem RV_tup {vs : List V} {u : Value} : RV L c (.tup vs) u ↔ ∃ ws : List Value, u = .tuple ws.toArray ∧ RVl L c vs ws := by
  have hrw : ∀ (vs : List V) (ws : List Value), RW L c vs ws ↔ RVl L c vs ws := by
    intro vs
    induction vs with
    | nil =>
      intro ws
      cases ws with
      | nil => exact ⟨fun _ => trivial, fun _ => by simp [RW]⟩
      | cons a b => exact ⟨fun h => by simp [RW] at h, fun h => h.elim⟩
    | cons v vs ih =>
      intro ws
      cases ws with
      | nil => exact ⟨fun h => by simp [RW] at h, fun h => h.elim⟩
      | cons a b =>
        simp only [RW, RVl, List.cons.injEq]
        exact ⟨fun ⟨u, us', ⟨e1, e2⟩, h1, h2⟩ => by subst e1; subst e2; exact ⟨h1, (ih b).1 h2⟩, fun ⟨h1, h2⟩ => ⟨a, b, ⟨rfl, rfl⟩, h1, (ih b).2 h2⟩⟩
  rw [RV_leaf rfl]
  simp only [RC, List.cons.injEq, and_true]
  exact ⟨fun ⟨ws, h1, h2⟩ => ⟨ws, h1, (hrw vs ws).1 h2⟩, fun ⟨ws, h1, h2⟩ => ⟨ws, h1, (hrw vs ws).2 h2⟩⟩

theorem RV_fn {f : Nat} {cap : List V} {u : Value} : RV L c (.fn f cap) u ↔ ∃ ws : List Value, u = .func (.func f) #[] ws.toArray ∧ RVl L c cap ws := by
  have := @RV_tup L c cap
  rw [RV_leaf rfl]
  simp only [RC, List.cons.injEq, and_true]
  constructor
  · rintro ⟨ws, h1, h2⟩
    obtain ⟨ws', h3, h4⟩ := (this (u := .tuple ws.toArray)).1 ((RV_leaf rfl).2 (by simp only [RC]; exact ⟨ws, rfl, h2⟩))
    have : ws' = ws := by simpa using (Value.tuple.inj h3).symm
    subst this
    exact ⟨_, h1, h4⟩
  · rintro ⟨ws, h1, h2⟩
    have h3 := (RV_leaf (v := .tup cap) rfl).1 ((this (u := .tuple ws.toArray)).2 ⟨ws, rfl, h2⟩)
    simp only [RC, List.cons.injEq, and_true] at h3
    obtain ⟨ws', h4, h5⟩ := h3
    have : ws' = ws := by simpa using (Value.tuple.inj h4).symm
    subst this
    exact ⟨_, h1, h5⟩

theorem RV_iface {t : Nat} {v : V} {u : Value} : RV L c (.iface t v) u ↔ ∃ u', u = .iface t u' ∧ RV L c v u' := by
  rw [RV_leaf rfl]
  simp only [RC, List.cons.injEq, and_true]
  exact ⟨fun ⟨a, b, h1, h2, h3⟩ => ⟨a, h1, b, h2, h3⟩, fun ⟨a, h1, b, h2, h3⟩ => ⟨a, b, h1, h2, h3⟩⟩

theorem okI_eq {x : Value} {h' : Hp} {v : V} (hop : okI x h = some (v, h')) : v = .s x ∧ h' = h := by
  simp only [okI, Option.some.injEq, Prod.mk.injEq] at hop
  exact ⟨hop.1.symm, hop.2.symm⟩

theorem intBin_RV {op : BinOp} {k : IntKind} {a b : Int} {x : Value} (hb : intBin op k a b = some x) :
    ((match op with
      | .add | .sub | .mul => Op.intArith op k a b
      | .quo | .rem => Op.intDiv op k a b
      | .and | .or | .xor | .andNot => Op.intBits op k a b
      | _ => Op.intCmp op a b).run P w = .ok x w) ∧ x.oneCell' = true := by
  cases op <;> simp only [intBin] at hb <;> first
    | (cases hb; done)
    | (simp only [Option.some.injEq] at hb; subst hb; exact ⟨by simp [Op.intArith, Op.intBits, Op.intCmp], rfl⟩)
    | (split at hb
       · cases hb
       · rename_i hne
         simp only [Option.some.injEq] at hb; subst hb; exact ⟨by simp [Op.intDiv, hne], rfl⟩)

theorem strBin_RV {op : BinOp} {a b : ByteArray} {x : Value} (hb : strBin op a b = some x) : (Op.stringOp op a b).run P w = .ok x w ∧ x.oneCell' = true := by
  have hmax : IntKind.i64.max = 9223372036854775807 := rfl
  cases op <;> simp only [strBin] at hb <;> first
    | (cases hb; done)
    | (simp only [Option.some.injEq] at hb; subst hb; exact ⟨by simp [Op.stringOp], rfl⟩)
    | (split at hb
       · rename_i hle
         simp only [Option.some.injEq] at hb; subst hb
         refine ⟨?_, rfl⟩
         have hn : ¬ (((a.size + b.size : Nat) : Int) > IntKind.i64.max) := by rw [hmax]; omega
         simp only [Op.stringOp]
         rw [if_neg hn]; rfl
       · cases hb)

theorem eqOp_RV {op : BinOp} {b : Bool} {x : Value} (hb : eqOp op b = some x) : (op = .eql ∧ x = .bool b) ∨ (op = .neq ∧ x = .bool !b) := by
  cases op <;> simp only [eqOp] at hb <;> first
    | (cases hb; done)
    | (simp only [Option.some.injEq] at hb; subst hb; first | exact Or.inl ⟨rfl, rfl⟩ | exact Or.inr ⟨rfl, rfl⟩)

theorem run_equal_bool {T : TypeId} (hT : P.underlying T = some .bool) (a b : Bool) : (Op.equal T (.bool a) (.bool b)).run P w = .ok (a == b) w := by
  have key : ∀ d, (Op.equalIn (d + 1) T (.bool a) (.bool b)).run P w = .ok (a == b) w := fun d => by
    simp only [Op.equalIn, Sem.run_bind, run_underlying hT, Result.andThen_ok, Sem.run_pure]
  exact key 9999
theorem run_equal_ptr {T e : TypeId} (hT : P.underlying T = some (.pointer e)) (a b : Option Addr) (hab : a = none ∨ b = none) : (Op.equal T (.pointer a) (.pointer b)).run P w = .ok (a.isNone && b.isNone) w := by
  have key : ∀ d, (Op.equalIn (d + 1) T (.pointer a) (.pointer b)).run P w = .ok (a.isNone && b.isNone) w := fun d => by
    cases a <;> cases b <;> simp only [Op.equalIn, Sem.run_bind, run_underlying hT, Result.andThen_ok, Sem.run_pure] <;> first | rfl | simp at hab
  exact key 9999

theorem binOp_eq_bool {op : BinOp} {T : TypeId} (a b : Bool) : binOp op T (.bool a) (.bool b) = match op with | .eql => (do pure (.bool (← Op.equal T (.bool a) (.bool b)))) | .neq => (do pure (.bool (!(← Op.equal T (.bool a) (.bool b))))) | _ => stuck "BinOp: no such operator on these operands" := by
  cases op <;> rfl
theorem binOp_eql_ptr {T : TypeId} (a b : Option Addr) : binOp .eql T (.pointer a) (.pointer b) = (do pure (.bool (← Op.equal T (.pointer a) (.pointer b)))) := rfl
theorem binOp_neq_ptr {T : TypeId} (a b : Option Addr) : binOp .neq T (.pointer a) (.pointer b) = (do pure (.bool (!(← Op.equal T (.pointer a) (.pointer b))))) := rfl

/-- What a comparison by '==' of single values comes to, at their type. -/
theorem do_bin (hs : Sim L c h w) {T : TypeId} {op : BinOp} {X Y : Operand} {x y : V} {ux uy : Value} (hx : RV L c x ux) (hy : RV L c y uy)
    {cl : Cl} (hcl : match cl with | .num => True | .tru => P.underlying T = some .bool | .ptr => ∃ e, P.underlying T = some (.pointer e))
    {v : V} {h' : Hp} (hop : opBin h cl op x y = some (v, h')) :
    Does L c w ((do eqGuard op T X Y ux uy; binOp op T ux uy : Sem Value).run P w) v h' := by
  simp only [opBin] at hop
  obtain ⟨r, hr, hop⟩ := Option.bind_eq_some_iff.1 hop
  obtain ⟨rfl, rfl⟩ := okI_eq hop
  suffices hh : (do eqGuard op T X Y ux uy; binOp op T ux uy : Sem Value).run P w = .ok r w ∧ r.oneCell' = true from Does.same hh.1 (RV_s.2 ⟨rfl, hh.2⟩) hs
  have guard_ok : (∀ (a b : Array Value), ux = .agg a → uy = .agg b → False) → (ux = .nilIface → False) → (eqGuard op T X Y ux uy).run P w = .ok () w := by
    intro h1 h2
    unfold eqGuard
    cases op <;> first
      | rfl
      | (cases ux <;> first
          | (exact (h2 rfl).elim)
          | rfl
          | (cases uy <;> first | (exact (h1 _ _ rfl rfl).elim) | rfl))
  unfold binV at hr
  cases cl with
  | num =>
   simp only at hr
   split at hr
   · rename_i k a k' b
     obtain ⟨rfl, _⟩ := RV_s.1 hx
     obtain ⟨rfl, _⟩ := RV_s.1 hy
     simp only [Sem.run_bind, guard_ok (fun _ _ h => by cases h) (fun h => by cases h), Result.andThen_ok]
     have shift_ok : ∀ (o : BinOp), intShift o k a b = some r → (Op.shift o k a k' b).run P w = .ok r w ∧ r.oneCell' = true := by
       intro o ho
       unfold intShift at ho
       split at ho
       · cases ho
       · rename_i hneg
         cases o <;> simp only at ho <;> first
           | (cases ho; done)
           | (simp only [Option.some.injEq] at ho; subst ho; exact ⟨by simp [Op.shift, hneg], rfl⟩)
     have other : op ≠ .shl → op ≠ .shr → (if k = k' then intBin op k a b else none) = some r → (binOp op T (.int k a) (.int k' b)).run P w = .ok r w ∧ r.oneCell' = true := by
       intro h1 h2 hr2
       by_cases hk : k = k'
       · rw [if_pos hk] at hr2
         have := intBin_RV (P := P) (w := w) hr2
         clear hr hop hx hy
         subst hk
         cases op <;> first | (exact absurd rfl h1) | (exact absurd rfl h2) | (simpa [binOp] using this)
       · rw [if_neg hk] at hr2; cases hr2
     cases op with
     | shl => simpa [binOp] using shift_ok .shl hr
     | shr => simpa [binOp] using shift_ok .shr hr
     | _ => exact other (by simp) (by simp) hr
   · rename_i a b
     obtain ⟨rfl, _⟩ := RV_s.1 hx
     obtain ⟨rfl, _⟩ := RV_s.1 hy
     simp only [Sem.run_bind, guard_ok (fun _ _ h => by cases h) (fun h => by cases h), Result.andThen_ok]
     have := strBin_RV (P := P) (w := w) hr
     cases op <;> simpa [binOp] using this
   · cases hr
  | tru =>
   simp only at hr hcl
   have hT := hcl
   split at hr
   · rename_i a b
     obtain ⟨rfl, _⟩ := RV_s.1 hx
     obtain ⟨rfl, _⟩ := RV_s.1 hy
     simp only [Sem.run_bind, guard_ok (fun _ _ h => by cases h) (fun h => by cases h), Result.andThen_ok]
     rcases eqOp_RV hr with ⟨rfl, rfl⟩ | ⟨rfl, rfl⟩ <;> exact ⟨by simp only [binOp_eq_bool, Sem.run_bind, run_equal_bool hT, Result.andThen_ok, Sem.run_pure], rfl⟩
   · cases hr
  | ptr =>
   simp only at hr hcl
   obtain ⟨e, hT⟩ := hcl
   split at hr
   · obtain ⟨rfl, _⟩ := RV_s.1 hx
     obtain ⟨rfl, _⟩ := RV_s.1 hy
     simp only [Sem.run_bind, guard_ok (fun _ _ h => by cases h) (fun h => by cases h), Result.andThen_ok]
     rcases eqOp_RV hr with ⟨rfl, rfl⟩ | ⟨rfl, rfl⟩ <;> exact ⟨by simp only [binOp_eql_ptr, binOp_neq_ptr, Sem.run_bind, run_equal_ptr hT none none (Or.inl rfl), Result.andThen_ok, Sem.run_pure]; rfl, rfl⟩
   · obtain ⟨a, rfl, _⟩ := RV_ptr.1 hx
     obtain ⟨rfl, _⟩ := RV_s.1 hy
     simp only [Sem.run_bind, guard_ok (fun _ _ h => by cases h) (fun h => by cases h), Result.andThen_ok]
     rcases eqOp_RV hr with ⟨rfl, rfl⟩ | ⟨rfl, rfl⟩ <;> exact ⟨by simp only [binOp_eql_ptr, binOp_neq_ptr, Sem.run_bind, run_equal_ptr hT (some a) none (Or.inr rfl), Result.andThen_ok, Sem.run_pure]; rfl, rfl⟩
   · obtain ⟨rfl, _⟩ := RV_s.1 hx
     obtain ⟨a, rfl, _⟩ := RV_ptr.1 hy
     simp only [Sem.run_bind, guard_ok (fun _ _ h => by cases h) (fun h => by cases h), Result.andThen_ok]
     rcases eqOp_RV hr with ⟨rfl, rfl⟩ | ⟨rfl, rfl⟩ <;> exact ⟨by simp only [binOp_eql_ptr, binOp_neq_ptr, Sem.run_bind, run_equal_ptr hT none (some a) (Or.inl rfl), Result.andThen_ok, Sem.run_pure]; rfl, rfl⟩
   · cases hr

theorem do_un (hs : Sim L c h w) {op : UnOp} {x : V} {ux : Value} (hx : RV L c x ux) {v : V} {h' : Hp} (hop : (unV op x).bind (okI · h) = some (v, h')) :
    Does L c w ((Op.unary op ux).run P w) v h' := by
  obtain ⟨r, hr, hop⟩ := Option.bind_eq_some_iff.1 hop
  obtain ⟨rfl, rfl⟩ := okI_eq hop
  unfold unV at hr
  split at hr
  · rename_i k n
    obtain ⟨rfl, _⟩ := RV_s.1 hx
    split at hr
    · simp only [Option.some.injEq] at hr
      subst hr
      exact Does.same (u := .int k (k.wrap (0 - n))) (by simp [Op.unary, Op.intArith]) (RV_s.2 ⟨rfl, rfl⟩) hs
    · have := intBin_RV (P := P) (w := w) hr
      exact Does.same (u := r) (by simpa [Op.unary] using this.1) (RV_s.2 ⟨rfl, this.2⟩) hs
    · cases hr
  · rename_i b
    obtain ⟨rfl, _⟩ := RV_s.1 hx
    split at hr
    · simp only [Option.some.injEq] at hr
      subst hr
      exact Does.same (u := .bool !b) (by simp [Op.unary]) (RV_s.2 ⟨rfl, rfl⟩) hs
    · cases hr
  · cases hr

theorem do_tas (hs : Sim L c h w) {XT A : TypeId} {ok : Bool} {zero : V} (hz : ok = true → ZeroOK P L A zero) (hA : ∃ d, P.underlying A = some d ∧ (match d with | .interface _ => false | _ => true) = true) {x : V} {ux : Value} (hx : RV L c x ux) {v : V} {h' : Hp} (hop : opTas h A ok zero x = some (v, h')) :
    Does L c w ((Instr.typeAssert ux XT A ok).run P w) v h' := by
  obtain ⟨d, hd, hdi⟩ := hA
  unfold opTas at hop
  split at hop
  case h_2 => cases hop
  rename_i t' y
  obtain ⟨u, rfl, hy⟩ := RV_iface.1 hx
  split at hop
  · rename_i ht
    subst ht
    simp only [Option.some.injEq, Prod.mk.injEq] at hop
    obtain ⟨rfl, rfl⟩ := hop
    cases ok with
    | true =>
      refine Does.same (u := .tuple #[u, .bool true]) ?_ (RV_tup.2 ⟨[u, .bool true], rfl, hy, RV_s.2 ⟨rfl, rfl⟩, trivial⟩) hs
      simp only [Instr.typeAssert, Sem.run_bind, run_underlying hd, Result.andThen_ok]
      cases d <;> first | (simp at hdi; done) | simp
    | false =>
      refine Does.same (u := u) ?_ hy hs
      simp only [Instr.typeAssert, Sem.run_bind, run_underlying hd, Result.andThen_ok]
      cases d <;> first | (simp at hdi; done) | simp
  · rename_i ht
    cases ok with
    | false => simp at hop
    | true =>
      simp only [if_true, Option.some.injEq, Prod.mk.injEq] at hop
      obtain ⟨rfl, rfl⟩ := hop
      obtain ⟨i, z, hi, hzz, hzr⟩ := hz rfl
      refine Does.same (u := .tuple #[z, .bool false]) ?_ (RV_tup.2 ⟨[z, .bool false], rfl, hzr c, RV_s.2 ⟨rfl, rfl⟩, trivial⟩) hs
      simp only [Instr.typeAssert, Sem.run_bind, run_underlying hd, Result.andThen_ok]
      cases d <;> first | (simp at hdi; done) | simp [ht, zeroValue, typeInfo, hi, hzz]

theorem do_ext (hs : Sim L c h w) {i : Nat} {x : V} {ux : Value} (hx : RV L c x ux) {v : V} {h' : Hp} (hop : opExt h i x = some (v, h')) : Does L c w ((Instr.extract ux i).run P w) v h' := by
  unfold opExt at hop
  split at hop
  case h_2 => cases hop
  rename_i vs
  obtain ⟨y, hy, he⟩ := Option.map_eq_some_iff.1 hop
  simp only [Prod.mk.injEq] at he
  obtain ⟨rfl, rfl⟩ := he
  obtain ⟨ws, rfl, hv⟩ := RV_tup.1 hx
  have hlt : i < ws.length := by rw [hv.length]; exact (List.getElem?_eq_some_iff.1 hy).1
  refine Does.same (u := ws[i]) ?_ (hv.get i y ws[i] hy (List.getElem?_eq_getElem hlt)) hs
  simp [Instr.extract, hlt]

theorem do_min (hs : Sim L c h w) {Ts : Array TypeId} {ty : TypeId} {x y : V} {ux uy : Value} (hx : RV L c x ux) (hy : RV L c y uy) {v : V} {h' : Hp} (hop : opMm h false x y = some (v, h')) : Does L c w ((Builtin.min_ Ts ty #[ux, uy]).run P w) v h' := by
  unfold opMm at hop
  split at hop
  case h_2 => cases hop
  obtain ⟨rfl, _⟩ := RV_s.1 hx
  obtain ⟨rfl, _⟩ := RV_s.1 hy
  obtain ⟨rfl, rfl⟩ := okI_eq hop
  exact Does.same (by simp [Builtin.min_, Builtin.min2]) (RV_s.2 ⟨rfl, rfl⟩) hs

theorem do_max (hs : Sim L c h w) {Ts : Array TypeId} {ty : TypeId} {x y : V} {ux uy : Value} (hx : RV L c x ux) (hy : RV L c y uy) {v : V} {h' : Hp} (hop : opMm h true x y = some (v, h')) : Does L c w ((Builtin.max_ Ts ty #[ux, uy]).run P w) v h' := by
  unfold opMm at hop
  split at hop
  case h_2 => cases hop
  obtain ⟨rfl, _⟩ := RV_s.1 hx
  obtain ⟨rfl, _⟩ := RV_s.1 hy
  obtain ⟨rfl, rfl⟩ := okI_eq hop
  exact Does.same (by simp [Builtin.max_, Builtin.max2]) (RV_s.2 ⟨rfl, rfl⟩) hs

theorem do_sidx (hs : Sim L c h w) {T : TypeId} (hT : P.underlying T = some .string) {x y : V} {ux uy : Value} (hx : RV L c x ux) (hy : RV L c y uy) {v : V} {h' : Hp} (hop : opSidx h x y = some (v, h')) :
    Does L c w ((Instr.index T ux uy).run P w) v h' := by
  unfold opSidx at hop
  split at hop
  case h_2 => cases hop
  rename_i s i hi
  obtain ⟨k, rfl⟩ := numOf_RV hi hy
  obtain ⟨rfl, _⟩ := RV_s.1 hx
  split at hop
  case isFalse => cases hop
  rename_i h0
  split at hop
  case h_2 => cases hop
  rename_i b hb
  simp only [Option.some.injEq, Prod.mk.injEq] at hop
  obtain ⟨rfl, rfl⟩ := hop
  refine Does.same (u := .int .u8 b.toNat) ?_ (RV_s.2 ⟨rfl, rfl⟩) hs
  simp [Instr.index, asIntOf, run_underlying hT, h0, hb]

theorem do_mki (hs : Sim L c h w) {T : TypeId} (hT : P.concrete T = true) {x : V} {ux : Value} (hx : RV L c x ux) : Does L c w ((Instr.makeInterface T ux).run P w) (.iface T x) h :=
  Does.same (run_makeInterface (P := P) w T ux hT) (RV_iface.2 ⟨ux, rfl, hx⟩) hs

theorem do_rng (hs : Sim L c h w) {T : TypeId} (hT : P.underlying T = some .string) {x : V} {ux : Value} (hx : RV L c x ux) {v : V} {h' : Hp} (hop : opRng h x = some (v, h')) :
    Does L c w ((Instr.range T ux).run P w) v h' := by
  unfold opRng at hop
  split at hop
  case h_2 => cases hop
  rename_i s
  obtain ⟨rfl, _⟩ := RV_s.1 hx
  simp only [Option.some.injEq, Prod.mk.injEq] at hop
  obtain ⟨rfl, rfl⟩ := hop
  have hs' := hs.push (.stringIter s 0) (.siter s 0) ⟨w.heap.size, 0, none, 0⟩ rfl ⟨rfl, rfl, heap_new⟩
  have hl : (c.push ⟨w.heap.size, 0, none, 0⟩).loc h.length = some ⟨w.heap.size, 0, none, 0⟩ := by simp [Ctx.push, hs.n]
  refine ⟨.pointer (some ⟨w.heap.size, 0, none⟩), _, _, ?_, ptr_mk hs' hl rfl rfl, hs', c.le_push _, St.alloc _ _⟩
  simp [Instr.range, run_underlying hT]

theorem do_nxt (hs : Sim L c h w) {ty : TypeId} {x : V} {ux : Value} (hx : RV L c x ux) {v : V} {h' : Hp} (hop : opNxt h x = some (v, h')) :
    Does L c w ((Instr.next ux true ty).run P w) v h' := by
  unfold opNxt at hop
  split at hop
  case h_2 => cases hop
  rename_i id
  split at hop
  case h_2 => cases hop
  rename_i s pos hk
  rcases hs.live id _ hk with ⟨l, hl⟩ | hd
  case inr => cases hd
  obtain ⟨k, hk', hz, hb⟩ := hs.loc id l hl
  rw [hk] at hk'; cases hk'
  obtain ⟨h1, h2, h3⟩ := hb
  have hu := ptr_live hx hl h2 (o := 0) rfl
  subst hu
  have hget : (getObj l.blk).run P w = .ok (.stringIter s pos) w := by simp [getObj, Sem.run, h3]
  split at hop
  · rename_i hlt
    simp only [Option.some.injEq, Prod.mk.injEq] at hop
    obtain ⟨rfl, rfl⟩ := hop
    have hset : (setObj l.blk (.stringIter s (pos + (Utf8.decode s pos).2))).run P w = .ok () { w with heap := w.heap.setIfInBounds l.blk (.stringIter s (pos + (Utf8.decode s pos).2)) } := by simp [setObj, Sem.run, h3]
    have hmv : c.move id l = c := by
      cases c with
      | mk z loc n =>
        simp only [Ctx.move]
        congr
        funext j
        by_cases hj : j = id
        · subst hj; simp only [if_true]; exact hl.symm
        · simp [hj]
    have hs' := hs.move (l' := l) hl (w' := { w with heap := w.heap.setIfInBounds l.blk (.stringIter s (pos + (Utf8.decode s pos).2)) }) (.siter s (pos + (Utf8.decode s pos).2)) (by rw [hmv]; exact Ctx.le_refl c) hz (Or.inl rfl)
      (fun b hb hbl => by simp [Array.getElem?_setIfInBounds, Ne.symm hbl]) (fun o' ho' => by rw [hz] at ho'; cases ho')
      ⟨h1, h2, by simp [Array.getElem?_setIfInBounds, lt_of_heap h3]⟩
    rw [hmv] at hs'
    refine ⟨.tuple #[.bool true, goInt pos, .int .i32 (Utf8.decode s pos).1], c, _, ?_, RV_tup.2 ⟨[.bool true, goInt pos, .int .i32 (Utf8.decode s pos).1], rfl, RV_s.2 ⟨rfl, rfl⟩, RV_s.2 ⟨rfl, rfl⟩, RV_s.2 ⟨rfl, rfl⟩, trivial⟩, hs', Ctx.le_refl c, ⟨rfl, rfl, rfl, by simp⟩⟩
    simp only [Instr.next, Sem.run_bind, hget, Result.andThen_ok, if_pos hlt, hset, Sem.run_pure]
  · rename_i hlt
    simp only [Option.some.injEq, Prod.mk.injEq] at hop
    obtain ⟨rfl, rfl⟩ := hop
    refine Does.same (u := .tuple #[.bool false]) ?_ (RV_tup.2 ⟨[.bool false], rfl, RV_s.2 ⟨rfl, rfl⟩, trivial⟩) hs
    simp only [Instr.next, Sem.run_bind, hget, Result.andThen_ok, if_neg hlt, Sem.run_pure]
end Go.Vm
/- From a loaded program's operations to the abstract machine's; each is Go's. -/
namespace Go.Vm
set_option linter.unusedVariables false
set_option linter.unusedSimpArgs false

/-- The number of an aggregate type; none: one cell. -/
def tagOf (P : Program) (t : TypeId) : Option Nat :=
  match P.underlying t with
  | some (.struct _) => some (P.underlyingId t)
  | some (.array _ _) => some (P.underlyingId t)
  | _ => none

/-- The program's own layout. -/
def layOf (P : Program) : Lay where
  size := P.cellsOf
  fields t := if t < P.types.size then match P.underlying t with | some (.struct fs) => some (fs.toList.map fun f => tagOf P f.type) | _ => none else none
  arr t := if t < P.types.size then match P.underlying t with | some (.array n e) => some (n, tagOf P e) | _ => none else none

def okTy (P : Program) (t : Nat) : Bool :=
  match P.underlying t with
  | some (.struct fs) => P.cellsOf t == ((fs.toList.map fun f => tagOf P f.type).map (layOf P).csz).sum
  | some (.array n e) => P.cellsOf t == n * (layOf P).csz (tagOf P e)
  | _ => true

def okLay (P : Program) : Bool := (List.range P.types.size).all (okTy P)

theorem layOf_OK {P : Program} (h : okLay P = true) : (layOf P).OK where
  st t fs hf := by
    simp only [layOf] at hf
    split at hf
    case isFalse => cases hf
    rename_i hlt
    split at hf
    · rename_i fs' hu
      simp only [Option.some.injEq] at hf
      have h1 := List.all_eq_true.1 h t (List.mem_range.2 hlt)
      simp only [okTy, hu, beq_iff_eq] at h1
      show P.cellsOf t = _
      rw [h1, hf]
    · cases hf
  ar t n e ha := by
    simp only [layOf] at ha
    split at ha
    case isFalse => cases ha
    rename_i hlt
    split at ha
    · rename_i n' e' hu
      simp only [Option.some.injEq, Prod.mk.injEq] at ha
      obtain ⟨rfl, rfl⟩ := ha
      have h1 := List.all_eq_true.1 h t (List.mem_range.2 hlt)
      simp only [okTy, hu, beq_iff_eq] at h1
      exact h1
    · cases ha
  no t r ha := by
    simp only [layOf] at ha ⊢
    split at ha
    case isFalse => cases ha
    rename_i hlt
    rw [if_pos hlt]
    split at ha
    · rename_i hu; simp [hu]
    · cases ha

/-- A type is known, and of its kind's size. -/
def tgB (P : Program) (t : TypeId) : Bool := (P.info? t).isSome && (P.underlying t).isSome && P.cellsOf t == (layOf P).csz (tagOf P t)

theorem tgB_TG {P : Program} {t : TypeId} (h : tgB P t = true) : TG P (layOf P) t (tagOf P t) := by
  simp only [tgB, Bool.and_eq_true, beq_iff_eq] at h
  obtain ⟨⟨h1, h2⟩, h3⟩ := h
  obtain ⟨i, hi⟩ := Option.isSome_iff_exists.1 h1
  obtain ⟨d, hd⟩ := Option.isSome_iff_exists.1 h2
  refine ⟨⟨i, hi, by rw [← h3]; simp [Program.cellsOf, hi]⟩, d, hd, ?_⟩
  simp only [tagOf, hd]
  cases d <;> rfl

/-- The zero value of a type; full: its slices have no spare room. -/
def zv (P : Program) (full : Bool) : Nat → TypeId → Option V
  | 0, _ => none
  | n + 1, t =>
    match P.underlying t with
    | some (.struct fs) => (fs.toList.mapM fun f => zv P full n f.type).map fun vs => .st (P.underlyingId t) vs
    | some (.array k e) => (zv P full n e).map fun v => .arr (P.underlyingId t) (List.replicate k v)
    | some (.int k) => some (.s (.int k 0))
    | some .bool => some (.s (.bool false))
    | some .string => some (.s (.string ByteArray.empty))
    | some (.pointer _) => some (.s (.pointer none))
    | some (.slice e) => some (.imm full (tagOf P e) [])
    | some (.interface _) => some (.s .nilIface)
    | some (.func ..) => some (.s .nilFunc)
    | some (.map _ _) => some (.s (.map none))
    | _ => none

/-- The cells of a zero value. -/
def zc : V → List Value
  | .s x => [x]
  | .imm _ _ _ => [.slice none 0 0]
  | .st _ fs => zcs fs
  | .arr _ es => zcs es
  | _ => []
where zcs : List V → List Value
  | [] => []
  | v :: vs => zc v ++ zcs vs

def zOK (L : Lay) : V → Bool
  | .s x => x.oneCell'
  | .imm _ _ [] => true
  | .st t fs => zOKs fs && decide (L.fields t = some (fs.map V.ty)) && fs.all V.solid
  | .arr t es => zOKs es && (match L.arr t with | some (n, e) => n == es.length && es.all (fun x => decide (x.ty = e) && x.solid) | none => false)
  | _ => false
where zOKs : List V → Bool
  | [] => true
  | v :: vs => zOK L v && zOKs vs

theorem zOK_RC {L : Lay} {c : Ctx} : ∀ (v : V), zOK L v = true → RC L c v (zc v) := by
  intro v
  induction v using V.rec (motive_2 := fun vs => zOK.zOKs L vs = true → RCs L c vs (zc.zcs vs)) with
  | s x => intro h; simp only [zOK] at h; simp only [RC, zc, true_and]; exact h
  | imm full g es =>
    intro h
    cases es with
    | nil => exact (RV_leaf rfl).1 (RV_imm_nil (fun _ => rfl))
    | cons a b => simp [zOK] at h
  | st t fs ih =>
    intro h
    simp only [zOK, Bool.and_eq_true, decide_eq_true_eq, List.all_eq_true] at h
    simp only [RC, zc]
    exact ⟨ih h.1.1, h.1.2, h.2⟩
  | arr t es ih =>
    intro h
    simp only [zOK, Bool.and_eq_true] at h
    obtain ⟨h1, h2⟩ := h
    simp only [RC, zc]
    refine ⟨ih h1, ?_⟩
    split at h2
    · rename_i n e ha
      simp only [Bool.and_eq_true, beq_iff_eq, List.all_eq_true, decide_eq_true_eq] at h2
      exact ⟨e, by rw [ha, h2.1], h2.2⟩
    · cases h2
  | nil => simp only [RCs, zc.zcs]
  | cons v vs h1 h2 =>
    rename_i h
    simp only [zOK.zOKs, Bool.and_eq_true] at h
    simp only [RCs, zc.zcs]
    exact ⟨_, _, rfl, h1 h.1, h2 h.2⟩
  | _ => intro h; simp [zOK] at h

/-- Plain values that are the same. -/
def eqz : Value → Value → Bool
  | .bool a, .bool b => a == b
  | .int k a, .int k' b => decide (k = k') && a == b
  | .string a, .string b => decide (a = b)
  | .pointer none, .pointer none => true
  | .slice none a b, .slice none a' b' => a == a' && b == b'
  | .map none, .map none => true
  | .nilFunc, .nilFunc => true
  | .nilIface, .nilIface => true
  | _, _ => false
theorem eqz_eq {a b : Value} (h : eqz a b = true) : a = b := by
  unfold eqz at h
  split at h <;> simp_all
def eqzs : List Value → List Value → Bool
  | [], [] => true
  | a :: as, b :: bs => eqz a b && eqzs as bs
  | _, _ => false
theorem eqzs_eq : ∀ {as bs : List Value}, eqzs as bs = true → as = bs
  | [], [], _ => rfl
  | [], _ :: _, h => by simp [eqzs] at h
  | _ :: _, [], h => by simp [eqzs] at h
  | a :: as, b :: bs, h => by
    simp only [eqzs, Bool.and_eq_true] at h
    rw [eqz_eq h.1, eqzs_eq h.2]

/-- This is the type's zero value. -/
def zeroB (P : Program) (t : TypeId) (z : V) : Bool :=
  zOK (layOf P) z && match P.info? t with
  | some i => match i.zero with
    | some (.agg cs) => z.ty.isSome && eqzs (zc z) cs.toList
    | some x => z.ty.isNone && eqzs (zc z) [x]
    | none => false
  | none => false

theorem zeroB_OK {P : Program} {t : TypeId} {z : V} (h : zeroB P t z = true) : ZeroOK P (layOf P) t z := by
  simp only [zeroB, Bool.and_eq_true] at h
  obtain ⟨h1, h2⟩ := h
  split at h2
  case h_2 => cases h2
  rename_i i hi
  split at h2
  · rename_i cs hz
    simp only [Bool.and_eq_true] at h2
    obtain ⟨n, hn⟩ := Option.isSome_iff_exists.1 h2.1
    refine ⟨i, _, hi, hz, fun c => (RV_agg hn).2 ⟨cs.toList, by simp, ?_⟩⟩
    rw [← eqzs_eq h2.2]; exact zOK_RC z h1
  · rename_i x hx hz
    simp only [Bool.and_eq_true] at h2
    have hn : z.ty = none := by simpa using h2.1
    refine ⟨i, x, hi, hz, fun c => (RV_leaf hn).2 ?_⟩
    rw [← eqzs_eq h2.2]; exact zOK_RC z h1
  · cases h2

/-- A constant, at a type. -/
def constV (P : Program) (t : TypeId) : Value → Option V
  | .bool b => some (.s (.bool b))
  | .int k n => some (.s (.int k n))
  | .string s => some (.s (.string s))
  | .pointer none => some (.s (.pointer none))
  | .nilIface => some (.s .nilIface)
  | .nilFunc => some (.s .nilFunc)
  | .slice none 0 0 => match P.underlying t with | some (.slice e) => some (.imm true (tagOf P e) []) | _ => none
  | _ => none

theorem constV_RV {P : Program} {L : Lay} {c : Ctx} {t : TypeId} {u : Value} {v : V} (h : constV P t u = some v) : RV L c v u := by
  unfold constV at h
  split at h <;> first
    | (simp only [Option.some.injEq] at h; subst h; exact RV_s.2 ⟨rfl, rfl⟩)
    | (split at h
       · simp only [Option.some.injEq] at h; subst h; exact RV_imm_nil (fun _ => rfl)
       · cases h)
    | (cases h; done)

def copX (P : Program) (t : TypeId) : Operand → Option X
  | .tmp n => some (.t n)
  | .const v => (constV P t v).map .c
  | .func f => some (.c (.fn f []))
  | .global _ => none

/-- A frame stands for Go's. -/
def RF (L : Lay) (c : Ctx) (fr : Fr) (a : Act) : Prop := RVl L c fr a.tmps.toList

theorem RVl.getD {L : Lay} {c : Ctx} {vs : List V} {us : List Value} (h : RVl L c vs us) (n : Nat) : RV L c (vs.getD n (.tup [])) (us.getD n undef) := by
  by_cases hn : n < vs.length
  · have hn' : n < us.length := by rw [h.length]; exact hn
    have := h.get n vs[n] us[n] (List.getElem?_eq_getElem hn) (List.getElem?_eq_getElem hn')
    simpa [List.getD, List.getElem?_eq_getElem hn, List.getElem?_eq_getElem hn'] using this
  · have hn' : ¬ n < us.length := by rw [h.length]; exact hn
    simp only [List.getD, List.getElem?_eq_none (Nat.le_of_not_lt hn), List.getElem?_eq_none (Nat.le_of_not_lt hn'), Option.getD_none]
    exact RV_tup.2 ⟨[], rfl, trivial⟩

theorem copX_RV {P : Program} {L : Lay} {c : Ctx} {t : TypeId} {fr : Fr} {a : Act} (hf : RF L c fr a) {o : Operand} {x : X} (h : copX P t o = some x) : RV L c (x.ev fr) (a.eval o) := by
  cases o with
  | tmp n =>
    simp only [copX, Option.some.injEq] at h
    subst h
    have := RVl.getD hf n
    simpa [X.ev, Act.eval, Array.getD_eq_getD_getElem?] using this
  | const v =>
    simp only [copX] at h
    obtain ⟨y, hy, rfl⟩ := Option.map_eq_some_iff.1 h
    exact constV_RV hy
  | func f =>
    simp only [copX, Option.some.injEq] at h
    subst h
    exact RV_fn.2 ⟨[], rfl, trivial⟩
  | global _ => simp [copX] at h

/-- Operands, at their types. -/
def copXs (P : Program) : List (TypeId × Operand) → Option (List X)
  | [] => some []
  | (t, o) :: os => match copX P t o, copXs P os with | some x, some xs => some (x :: xs) | _, _ => none

theorem copXs_RV {P : Program} {L : Lay} {c : Ctx} {fr : Fr} {a : Act} (hf : RF L c fr a) : ∀ {os : List (TypeId × Operand)} {xs : List X}, copXs P os = some xs → RVl L c (xs.map (X.ev fr)) (os.map fun p => a.eval p.2)
  | [], xs, h => by simp only [copXs, Option.some.injEq] at h; subst h; trivial
  | (t, o) :: os, xs, h => by
    simp only [copXs] at h
    split at h
    · rename_i x xs' h1 h2
      simp only [Option.some.injEq] at h
      subst h
      exact ⟨copX_RV hf h1, copXs_RV hf h2⟩
    · cases h

end Go.Vm
