/- The ideal map against a plain list of vaults, as plain data. Conditions: none. -/
import Derived.Test.YtfhmclgnfabdfaaCS23a
import Derived.Test.YtfhmclgnfabdfaaCS12O
namespace Go.Proofs.Ytfhmclgnfabdfaa
open Go Go.Vm Go.Proofs Go.Cl
set_option linter.unusedSimpArgs false
set_option linter.unusedVariables false
theorem getT_found {L : List Vault} (hr : Rise L) {j : Nat} {w : Vault} {id : Bs} (h : L[j]? = some w) (hw : w.iD = id) : getT L id = some w := by
  have := pos_eq hr h hw
  unfold getT
  rw [this, h]
  simp [hw]
theorem getT_none {l : List Vault} {id : Bs} (h : ∀ v ∈ l, v.iD ≠ id) : getT l id = none := by
  unfold getT
  split
  · rename_i hc
    cases hp : l[pos l id]? with
    | none => rfl
    | some v => rw [hp] at hc; simp at hc; exact absurd hc (h v (List.mem_of_getElem? hp))
  · rfl
theorem getT_mem {l : List Vault} (hr : Rise l) {v : Vault} (hv : v ∈ l) : getT l v.iD = some v := by
  obtain ⟨j, hj⟩ := List.getElem?_of_mem hv
  exact getT_found hr hj rfl
theorem getT_none_iff {l : List Vault} (hr : Rise l) (id : Bs) : getT l id = none ↔ ∀ v ∈ l, v.iD ≠ id := by
  refine ⟨fun h v hv he => ?_, getT_none⟩
  subst he
  rw [getT_mem hr hv] at h; cases h
/-- What putting a right vault comes to, where there is room. -/
theorem putT_right {l : List Vault} {v : Vault} (hr : Rise l) (hv : rightV v = true) (hc : getT l v.iD = none → l.length < 4) : (putT l v).2 = placedT l v := by
  refine putT_placed hr ?_
  unfold putT
  rw [if_neg (by simp [hv])]
  by_cases c : (l[pos l v.iD]?).map Vault.iD = some v.iD
  · rw [if_pos c]
  · rw [if_neg c, if_neg ?_]
    have : getT l v.iD = none := by unfold getT; rw [if_neg c]
    have := hc this
    omega
theorem placed_mem {l : List Vault} (v w : Vault) : w ∈ placedT l v ↔ w = v ∨ w ∈ l ∧ w.iD ≠ v.iD := by
  simp only [placedT, List.mem_append, List.mem_filter, List.mem_singleton, decide_eq_true_eq]
  constructor
  · rintro ((⟨h1, h2⟩ | h) | ⟨h1, h2⟩)
    · exact .inr ⟨h1, fun e => by rw [e, cmp_self] at h2; omega⟩
    · exact .inl h
    · exact .inr ⟨h1, fun e => by rw [e, cmp_self] at h2; omega⟩
  · rintro (h | ⟨h1, h2⟩)
    · exact .inl (.inr h)
    · by_cases h3 : cmpB w.iD v.iD < 0
      · exact .inl (.inl ⟨h1, h3⟩)
      · refine .inr ⟨h1, ?_⟩
        have : cmpB w.iD v.iD ≠ 0 := fun e => h2 (cmp_zero _ _ e)
        omega
theorem Rise_nodup {l : List Vault} (hr : Rise l) : (l.map Vault.iD).Nodup := by
  rw [List.nodup_iff_pairwise_ne, List.pairwise_map]
  exact hr.imp fun {a b} h e => by rw [e, cmp_self] at h; omega
theorem len_le {l m : List Bs} : l.Nodup → (∀ x ∈ l, x ∈ m) → l.length ≤ m.length := by
  induction l generalizing m with
  | nil => intro _ _; exact Nat.zero_le _
  | cons a l ih =>
    intro hn hs
    obtain ⟨h1, h2⟩ := List.nodup_cons.1 hn
    have ha := hs a (by simp)
    have := ih (m := m.erase a) h2 fun x hx => by
      have hne : x ≠ a := fun e => h1 (e ▸ hx)
      exact (List.mem_erase_of_ne hne).2 (hs x (by simp [hx]))
    rw [List.length_erase_of_mem ha] at this
    have := List.length_pos_of_mem ha
    simp only [List.length_cons]; omega
theorem placed_len {l : List Vault} (hr : Rise l) (v : Vault) (hc : getT l v.iD = none → l.length < 4) (h4 : l.length ≤ 4) : (placedT l v).length ≤ 4 := by
  have hn := Rise_nodup (place_rise hr v)
  by_cases hg : getT l v.iD = none
  · have h1 := hc hg
    have := len_le (m := v.iD :: l.map Vault.iD) hn fun x hx => by
      obtain ⟨w, hw, rfl⟩ := List.mem_map.1 hx
      rcases (placed_mem v w).1 hw with rfl | ⟨h, _⟩
      · simp
      · simp only [List.mem_cons, List.mem_map]; exact .inr ⟨w, h, rfl⟩
    simp at this; omega
  · obtain ⟨w, hw⟩ := Option.ne_none_iff_exists'.1 hg
    obtain ⟨hw1, hw2⟩ := getT_id hw
    have := len_le (m := l.map Vault.iD) hn fun x hx => by
      obtain ⟨u, hu, rfl⟩ := List.mem_map.1 hx
      rcases (placed_mem v u).1 hu with rfl | ⟨h, _⟩
      · rw [← hw1]; exact List.mem_map.2 ⟨w, hw2, rfl⟩
      · exact List.mem_map.2 ⟨u, h, rfl⟩
    simp at this; omega
/-- A map stays right. -/
theorem MOk.idealDo {ls : Nat → List Vault} (ho : MOk ls) (q : Request) (hl : q.iD.length = 4) : MOk (idealDo ls q).2 := by
  unfold Ytfhmclgnfabdfaa.idealDo
  by_cases hq : rightQ q = false
  · rw [if_pos hq]; exact ho
  rw [if_neg hq]
  have hs := shardOf_lt q.iD
  obtain ⟨o1, o2, o3⟩ := ho _ hs
  have hz := getT_zero (id := q.iD) ho hs
  have hdr := doG_right (by simpa using hq) hz
  by_cases hc : (doG ((getT (ls (shardOf q.iD)) q.iD).getD zeroV) q).2.2 = false
  · rw [if_pos hc]; exact ho
  rw [if_neg hc]
  obtain ⟨r1, r2⟩ := hdr (by simpa using hc)
  generalize doG ((getT (ls (shardOf q.iD)) q.iD).getD zeroV) q = d at *
  by_cases hf : getT (ls (shardOf q.iD)) q.iD = none ∧ 4 ≤ (ls (shardOf q.iD)).length
  · rw [if_pos hf]; exact ho
  rw [if_neg hf]
  have hroom : getT (ls (shardOf q.iD)) d.1.iD = none → (ls (shardOf q.iD)).length < 4 := fun h => by
    rw [r2] at h
    have := not_and.1 hf h
    omega
  intro i hi
  by_cases his : i = shardOf q.iD
  · subst his
    simp only [updL_same]
    rw [putT_right o1 r1 hroom]
    refine ⟨place_rise o1 _, placed_len o1 _ hroom o2, fun v hv => ?_⟩
    rcases (placed_mem d.1 v).1 hv with rfl | ⟨h, _⟩
    · exact ⟨r1, by rw [r2], by rw [r2]; exact hl⟩
    · exact o3 v h
  · simp only [updL_ne _ _ _ _ his]; exact ho i hi
end Go.Proofs.Ytfhmclgnfabdfaa
