/- Where a vault is put. Conditions: none. -/
import Derived.Test.YtfhmclgnfabdfaaCS12F
namespace Go.Proofs.Ytfhmclgnfabdfaa
open Go Go.Vm Go.Proofs Go.Cl
set_option linter.unusedSimpArgs false
set_option linter.unusedVariables false
set_option maxRecDepth 100000
def placedT (l : List Vault) (v : Vault) : List Vault := (l.filter fun w => decide (cmpB w.iD v.iD < 0)) ++ [v] ++ l.filter fun w => decide (0 < cmpB w.iD v.iD)
theorem filter_lt {l : List Vault} (hr : Rise l) (id : Bs) : (l.filter fun w => decide (cmpB w.iD id < 0)) = l.take (pos l id) := by
  induction l with
  | nil => rfl
  | cons w l ih =>
    obtain ⟨h1, h2⟩ := List.pairwise_cons.1 hr
    by_cases hw : cmpB w.iD id < 0
    · have e : pos (w :: l) id = pos l id + 1 := by simp [pos, hw]
      rw [e, List.filter_cons_of_pos (by simpa using hw), ih h2]; rfl
    · have hz : ∀ x ∈ l, ¬ cmpB x.iD id < 0 := fun x hx h => hw (cmp_trans _ _ _ (h1 x hx) h)
      have e : pos (w :: l) id = 0 := by
        rw [pos, List.countP_eq_zero]
        intro x hx
        rcases List.mem_cons.1 hx with rfl | hx
        · simpa using hw
        · simpa using hz x hx
      rw [e, List.take_zero, List.filter_eq_nil_iff]
      intro x hx
      rcases List.mem_cons.1 hx with rfl | hx
      · simpa using hw
      · simpa using hz x hx
theorem filter_gt {l : List Vault} (hr : Rise l) (id : Bs) : (l.filter fun w => decide (0 < cmpB w.iD id)) = if (l[pos l id]?).map Vault.iD = some id then l.drop (pos l id + 1) else l.drop (pos l id) := by
  induction l with
  | nil => rfl
  | cons w l ih =>
    obtain ⟨h1, h2⟩ := List.pairwise_cons.1 hr
    by_cases hw : cmpB w.iD id < 0
    · have e : pos (w :: l) id = pos l id + 1 := by simp [pos, hw]
      rw [e, List.filter_cons_of_neg (by simp; omega), ih h2]
      simp only [List.getElem?_cons_succ, List.drop_succ_cons]
    · have hz : ∀ x ∈ l, 0 < cmpB x.iD id := fun x hx => by
        have a1 := h1 x hx
        have a2 := cmp_anti x.iD id
        rcases Int.lt_or_le 0 (cmpB x.iD id) with h | h
        · exact h
        · exfalso
          rcases Int.lt_or_eq_of_le h with h | h
          · exact hw (cmp_trans _ _ _ a1 h)
          · rw [cmp_zero _ _ h] at a1; exact hw a1
      have e : pos (w :: l) id = 0 := by
        rw [pos, List.countP_eq_zero]
        intro x hx
        rcases List.mem_cons.1 hx with rfl | hx
        · simpa using hw
        · have := hz x hx; simp; omega
      have hl : l.filter (fun w => decide (0 < cmpB w.iD id)) = l := List.filter_eq_self.2 fun x hx => by simpa using hz x hx
      rw [e]
      simp only [List.getElem?_cons_zero, Option.map_some, Option.some.injEq, Nat.zero_add, List.drop_succ_cons, List.drop_zero]
      by_cases hi : w.iD = id
      · rw [if_pos hi, List.filter_cons_of_neg (by rw [hi]; simp [cmp_self]), hl]
      · rw [if_neg hi, List.filter_cons_of_pos (by
          have : cmpB w.iD id ≠ 0 := fun h => hi (cmp_zero _ _ h)
          simp; omega), hl]
theorem putT_placed {l : List Vault} {v : Vault} (hr : Rise l) (h : (putT l v).1 = 0) : (putT l v).2 = placedT l v := by
  unfold placedT
  rw [filter_lt hr, filter_gt hr]
  unfold putT at h ⊢
  split
  · rename_i h1; rw [if_pos h1] at h; cases h
  · rename_i h1
    rw [if_neg h1] at h
    split
    · rename_i h2
      have hlt : pos l v.iD < l.length := by
        cases hp : l[pos l v.iD]? with
        | none => rw [hp] at h2; cases h2
        | some w => exact (List.getElem?_eq_some_iff.1 hp).1
      rw [List.set_eq_take_append_cons_drop, if_pos hlt]; simp
    · rename_i h2
      rw [if_neg h2] at h
      split
      · rename_i h3; rw [if_pos h3] at h; cases h
      · rfl
theorem pos_eq {l : List Vault} (hr : Rise l) {j : Nat} {w : Vault} {id : Bs} (h : l[j]? = some w) (hw : w.iD = id) : pos l id = j := by
  have h1 := pos_lt (id := id) hr h
  rw [hw, cmp_self] at h1
  have h2 : ¬ j < pos l id := fun h => absurd (h1.2 h) (by decide)
  rcases Nat.lt_or_ge (pos l id) j with h3 | h3
  · have hj := (List.getElem?_eq_some_iff.1 h).1
    have hp : l[pos l id]? = some l[pos l id] := List.getElem?_eq_getElem (by omega)
    have h4 := pos_lt (id := id) hr hp
    have h5 := List.pairwise_iff_getElem.1 hr (pos l id) j (by omega) hj h3
    have h6 : l[j] = w := (List.getElem?_eq_some_iff.1 h).2
    rw [h6, hw] at h5
    exact absurd (h4.1 h5) (by omega)
  · omega
theorem place_rise {l : List Vault} (hr : Rise l) (v : Vault) : Rise (placedT l v) := by
  unfold Rise placedT
  have f1 : (l.filter fun w => decide (cmpB w.iD v.iD < 0)).Pairwise fun v w => cmpB v.iD w.iD < 0 := hr.sublist List.filter_sublist
  have f2 : (l.filter fun w => decide (0 < cmpB w.iD v.iD)).Pairwise fun v w => cmpB v.iD w.iD < 0 := hr.sublist List.filter_sublist
  refine List.pairwise_append.2 ⟨List.pairwise_append.2 ⟨f1, by simp, ?_⟩, f2, ?_⟩
  · intro a ha b hb
    simp at ha hb; subst hb; exact ha.2
  · intro a ha b hb
    have hb' : cmpB v.iD b.iD < 0 := by
      have := (List.mem_filter.1 hb).2
      have q := cmp_anti b.iD v.iD
      simp at this; omega
    rcases List.mem_append.1 ha with ha | ha
    · have := (List.mem_filter.1 ha).2
      exact cmp_trans _ _ _ (by simpa using this) hb'
    · simp at ha; subst ha; exact hb'
end Go.Proofs.Ytfhmclgnfabdfaa
