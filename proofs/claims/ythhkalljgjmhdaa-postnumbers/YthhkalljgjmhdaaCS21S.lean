/- Post: any calls, against plain rows. Conditions: none. -/
import Derived.Test.YthhkalljgjmhdaaCS21Q
namespace Go.Proofs.Ythhkalljgjmhdaa
open Go Go.Vm Go.Proofs Go.Cl
set_option linter.unusedSimpArgs false
set_option linter.unusedVariables false
set_option maxRecDepth 100000
theorem wpC_cutS {cf : CF} {base n : Nat} {v : V} {a b c : C} {e : Env} {h : Hp} {K : Post} (M : Env → Hp → Prop) (h1 : ∀ e H, M e H → K .normal e H) (h2 : ∀ K' : Post, (∀ e H, M e H → K' .normal e H) → wpC cf base v a b e h (seqK cf base c (blockK n K'))) : wpC cf base v a b e h (seqK cf base c (blockK n K)) := h2 K h1
/-- A row in a place of its own, apart from these. -/
def Rw (n : Nat) (H : Hp) (g : Option Nat) (q : Nat) (x : V) (vs : List V) (S : List Nat) : Prop := XR H g q x vs ∧ n ≤ q ∧ q ∉ S
theorem Rw.step {n : Nat} {H H' : Hp} {g : Option Nat} {q : Nat} {x : V} {vs : List V} {S : List Nat} (r : Rw n H g q x vs S) (hn : n ≤ H.length) (f : ∀ j b, j ∉ S → H[j]? = some b → H'[j]? = some b) (S' : List Nat) (hS : ∀ s ∈ S', s ∈ S ∨ H.length ≤ s) :
    ∃ q', (q' = q ∨ H.length ≤ q') ∧ Rw n H' g q' x vs S' := by
  obtain ⟨x1, hq, hs⟩ := r
  rcases x1 with x1 | ⟨x1, x2⟩
  · have hle : ∀ (l : List Nat) (s : Nat), s ∈ l → s ≤ l.sum := fun l s h => by
      induction l with
      | nil => cases h
      | cons a l ih => rcases List.mem_cons.1 h with rfl | h <;> simp; have := ih h; omega
    exact ⟨H.length + S'.sum + 1, .inr (by omega), .inl x1, by omega, fun h => by have := hle _ _ h; omega⟩
  · have hl := lt_of_get x2
    exact ⟨q, .inl rfl, .inr ⟨x1, f _ _ hs x2⟩, hq, fun h => by rcases hS _ h with h | h; exact hs h; omega⟩
theorem old_fw {H H' : Hp} (hl : H.length ≤ H'.length) (f : ∀ (j : Nat) (b : Blk), H[j]? = some b → H'[j]? = some b) : Fw [] H H' := ⟨hl, fun j b h _ => f j b h, fun j l h => f j _ h⟩
/-- Two rows one behind the other, as a row of its own. -/
theorem two_app {H : Hp} {g : Option Nat} {y1 y2 : V} {a b : List V} {bytes : Nat} (s1 : SR H y1 g a) (s2 : SR H y2 g b) (g1 : ∀ z ∈ a, z.ground = true) (g2 : ∀ z ∈ b, z.ground = true) (hb : (a.length + b.length) * bytes ≤ 140737488355328) :
    ∃ x1 H1 x2 H2 q, (∀ cf base, opV cf base H (.app g bytes) [.imm true g [], y1] = some (x1, H1)) ∧ (∀ cf base, opV cf base H1 (.app g bytes) [x1, y2] = some (x2, H2)) ∧ XR H2 g q x2 (a ++ b) ∧ H.length ≤ q ∧ Fw [] H H1 ∧ Fw [] H H2 := by
  obtain ⟨x1, H1, q1, a1, a2, a3, a4, a5, a6, a7⟩ := (XR.nil H g H.length).appL (n := H.length) (bytes := bytes) (Nat.le_refl _) (Nat.le_refl _) s1.src g1 (by have : a.length * bytes ≤ (a.length + b.length) * bytes := Nat.mul_le_mul_right _ (by omega); simp; omega)
  have n0 : ∀ j b, H[j]? = some b → j ≠ H.length := fun j b h e => by have := lt_of_get h; omega
  have f1 : Fw [] H H1 := old_fw a6 fun j b h => a7 j b (n0 j b h) h
  have s2' := s2.fw f1
  obtain ⟨x2, H2, q2, b1, b2, b3, b4, b5, b6, b7⟩ := a2.appL (n := H.length) (bytes := bytes) a3 a4 s2'.src g2 (by simpa using hb)
  refine ⟨x1, H1, x2, H2, q2, a1, b1, by simpa using b2, b3, f1, old_fw b4 fun j b h => b7 j b (fun e => ?_) (f1.old _ _ h (by simp))⟩
  have := lt_of_get h; omega
/-- An office beside plain rows. -/
structure Pl (n : Nat) (H : Hp) (id k : Nat) (m hv : V) (O : List It) : Prop where
  o : OR H id k O
  ii : n ≤ id
  kk : n ≤ k
  len : O.length ≤ 64
  byt : ∀ y ∈ O, y.1.bytes.length ≤ 30
  rows : ∃ qm qh, Rw n H (some 25) qm m (letsV O) [id, k, qh] ∧ Rw n H none qh hv (heldV O) [id, k]
theorem Pl.sm {n : Nat} {H : Hp} {id k : Nat} {m hv : V} {O : List It} (p : Pl n H id k m hv O) : SR H m (some 25) (letsV O) := by obtain ⟨_, _, r, _⟩ := p.rows; exact r.1.SR
theorem Pl.sh {n : Nat} {H : Hp} {id k : Nat} {m hv : V} {O : List It} (p : Pl n H id k m hv O) : SR H hv none (heldV O) := by obtain ⟨_, _, _, r⟩ := p.rows; exact r.1.SR
theorem Pl.nn {n : Nat} {H : Hp} {id k : Nat} {m hv : V} {O : List It} (p : Pl n H id k m hv O) : n ≤ H.length := by have := p.o.lt; have := p.ii; omega
theorem Pl.keep {n : Nat} {H H' : Hp} {id k : Nat} {m hv : V} {O : List It} (p : Pl n H id k m hv O) (f : Fw [id, k] H H') : SR H' m (some 25) (letsV O) ∧ SR H' hv none (heldV O) := by
  obtain ⟨qm, qh, r1, r2⟩ := p.rows
  exact ⟨(r1.1.mono fun b h => f.old _ _ h (by have := r1.2.2; simp at this ⊢; omega)).SR, (r2.1.mono fun b h => f.old _ _ h r2.2.2).SR⟩
theorem held_gr (O : List It) : ∀ z ∈ heldV O, z.ground = true := by
  intro z hz; obtain ⟨y, _, rfl⟩ := List.mem_map.1 hz; rfl
theorem held_er (O : List It) (j : Nat) : heldV (O.eraseIdx j) = (heldV O).take j ++ (heldV O).drop (j + 1) := by
  rw [heldV, heldV, List.eraseIdx_eq_take_drop_succ, List.map_append, List.map_take, List.map_drop]
theorem map_set_same21 {α β : Type} (f : α → β) : ∀ (O : List α) (i : Nat) (z : α), (∀ y, O[i]? = some y → f z = f y) → (O.set i z).map f = O.map f
  | [], i, z, _ => rfl
  | x :: O, 0, z, h => by simp [h x rfl]
  | x :: O, i + 1, z, h => by simp only [List.set_cons_succ, List.map_cons]; rw [map_set_same21 f O i z (fun y hy => h y (by simpa using hy))]
/-- What the office does to its own places leaves the rows. -/
theorem Pl.turn {n : Nat} {H H' : Hp} {id k k' : Nat} {m hv : V} {O O' : List It} (p : Pl n H id k m hv O) (f : Fw [id, k] H H') (hk : k' = k ∨ H.length ≤ k') (o : OR H' id k' O') (hl : O'.length ≤ 64) (hb : ∀ y ∈ O', y.1.bytes.length ≤ 30) (e1 : letsV O' = letsV O) (e2 : heldV O' = heldV O) : Pl n H' id k' m hv O' := by
  have hn := p.nn
  obtain ⟨qm, qh, r1, r2⟩ := p.rows
  obtain ⟨qh', h1, r2'⟩ := r2.step hn (fun j b hj h => f.old j b h hj) [id, k'] (by simp; rcases hk with rfl | hk <;> simp [*])
  obtain ⟨qm', h2, r1'⟩ := r1.step hn (fun j b hj h => f.old j b h (by simp at hj ⊢; omega)) [id, k', qh'] (by simp; rcases hk with rfl | hk <;> rcases h1 with rfl | h1 <;> simp [*])
  exact ⟨o, p.ii, by have := p.kk; omega, hl, hb, qm', qh', by rw [e1]; exact r1', by rw [e2]; exact r2'⟩
/-- New rows instead. -/
theorem Pl.new {n : Nat} {H H1 H2 : Hp} {id k qm qh : Nat} {m hv : V} {O : List It} (hn : n ≤ H.length) (o : OR H id k O) (hi : n ≤ id) (hk : n ≤ k) (hl : O.length ≤ 64) (hb : ∀ y ∈ O, y.1.bytes.length ≤ 30) (f1 : Fw [] H H1) (f2 : Fw [] H1 H2)
    (xm : XR H1 (some 25) qm m (letsV O)) (hm : H.length ≤ qm) (xh : XR H2 none qh hv (heldV O)) (hh : H1.length ≤ qh) : Pl n H2 id k m hv O := by
  have l1 := o.lt; have l2 := o.ltk
  have l3 := f1.len; have l4 := f2.len
  have r0 : Rw n H1 (some 25) qm m (letsV O) [id, k] := ⟨xm, by omega, by simp; omega⟩
  obtain ⟨qm', h2, r1'⟩ := r0.step (by omega) (fun j b hj h => f2.old j b h (by simp)) [id, k, qh] (by simp; omega)
  exact ⟨o.mono (f1.trans f2) (by simp) (by simp), hi, hk, hl, hb, qm', qh, r1', xh, by omega, by simp; omega⟩
theorem takes_out {O : List It} {w : Int} (hn : ¬ (0 ≤ w ∧ w < O.length)) : takes O w = false := by
  unfold takes
  by_cases h0 : 0 ≤ w
  · have : ¬ w < O.length := fun h => hn ⟨h0, h⟩
    simp [this]
  · simp [h0]
theorem heldAt_out {O : List It} {w : Int} (hn : ¬ (0 ≤ w ∧ w < O.length)) : heldAt O w = false := by
  cases h : heldAt O w with
  | false => rfl
  | true => exact absurd ⟨(heldAt_in h).1, (heldAt_in h).2.1⟩ hn
theorem held_nb {O : List It} {j : Nat} (hj : j < O.length) (l : Bs) : heldV O ≠ l.map byteV := by
  intro e
  have a : (heldV O)[j]? = (l.map byteV)[j]? := by rw [e]
  rw [heldV, List.getElem?_map, List.getElem?_map, List.getElem?_eq_getElem hj] at a
  cases h : l[j]? with
  | none => rw [h] at a; simp at a
  | some x => rw [h] at a; simp [byteV] at a
/-- One letter is held, or freed. -/
theorem Pl.flip {n : Nat} {H H' : Hp} {id k j : Nat} {m hv : V} {O : List It} {y : It} {b : Bool} (p : Pl n H id k m hv O) (f : Fw [id, k] H H') (hy : O[j]? = some y) (o : OR H' id k (O.set j (y.1, b))) :
    ∃ qh, hv = .ref qh [] none 0 O.length O.length ∧ H'[qh]? = some (.cells none (heldV O)) ∧ n ≤ qh ∧ Pl n (H'.set qh (.cells none ((heldV O).set j (.s (.bool b))))) id k m hv (O.set j (y.1, b)) := by
  have hn := p.nn
  have hj := (List.getElem?_eq_some_iff.1 hy).1
  obtain ⟨qm, qh, r1, r2⟩ := p.rows
  obtain ⟨x2, h2, h3⟩ := r2
  rcases x2 with ⟨_, x2⟩ | ⟨rfl, x2⟩
  · have : O.length = 0 := by simpa [heldV] using congrArg List.length x2
    omega
  have g := f.old _ _ x2 h3
  simp only [List.mem_cons, List.not_mem_nil, or_false, not_or] at h3
  have lq := lt_of_get x2
  obtain ⟨qm', h4, r1'⟩ := r1.step hn (fun j b hj h => f.old j b h (by simp at hj ⊢; omega)) [id, k, qh] (by simp)
  have fs := Fw.setN (S := [qh]) (k := .cells none ((heldV O).set j (.s (.bool b)))) (by simp) g (held_nb hj)
  have el : letsV (O.set j (y.1, b)) = letsV O := map_set_same21 _ _ _ _ fun z hz => by rw [hy] at hz; cases hz; rfl
  have eh : heldV (O.set j (y.1, b)) = (heldV O).set j (.s (.bool b)) := by simp [heldV, List.map_set]
  refine ⟨qh, by simp [heldV], g, h2, o.mono fs (by simp; exact fun h => h3.1 h.symm) (by simp; exact fun h => h3.2 h.symm), p.ii, p.kk, by simpa using p.len, fun z hz => ?_, qm', qh, ⟨?_, r1'.2.1, r1'.2.2⟩, ⟨.inr ⟨by simp [heldV], by rw [eh]; exact set_get g⟩, h2, by simp; exact h3⟩⟩
  · rcases List.mem_or_eq_of_mem_set hz with hz | rfl
    · exact p.byt z hz
    · exact p.byt y (List.mem_of_getElem? hy)
  · rw [el]; exact r1'.1.set (fun e => r1'.2.2 (by simp [e])) _
end Go.Proofs.Ythhkalljgjmhdaa
