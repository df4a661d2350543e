/- The order in which a plain list's vaults are told. Conditions: none. -/
import Derived.Test.YtkkncdokkdamcaaCM23b
namespace Go.Proofs.Ytkkncdokkdamcaa
open Go Go.Vm Go.Proofs Go.Cl
set_option linter.unusedSimpArgs false
set_option linter.unusedVariables false
/-- Does a name stand behind another one? -/
def laterB (a b : Bs) : Bool := decide (shardOf b < shardOf a) || (decide (shardOf a = shardOf b) && decide (0 < cmpB a b))
theorem later_iff (a b : Bs) : laterB a b = true ↔ shardOf b < shardOf a ∨ shardOf a = shardOf b ∧ 0 < cmpB a b := by simp [laterB]
theorem later_trans {a b c : Bs} (h : laterB a b = true) (k : laterB b c = true) : laterB a c = true := by
  rw [later_iff] at *
  rcases h with h | ⟨h, h'⟩
  · rcases k with k | ⟨k, k'⟩
    · exact .inl (by omega)
    · exact .inl (by omega)
  · rcases k with k | ⟨k, k'⟩
    · exact .inl (by omega)
    · refine .inr ⟨by omega, ?_⟩
      have h1 := cmp_anti a b
      have h2 := cmp_anti b c
      have h3 := cmp_anti a c
      have := cmp_trans c b a (by omega) (by omega)
      omega
theorem later_total {a b : Bs} (h : ¬ laterB a b = true) (hne : a ≠ b) : laterB b a = true := by
  rw [later_iff] at *
  have h1 := cmp_anti a b
  by_cases hs : shardOf a = shardOf b
  · refine .inr ⟨hs.symm, ?_⟩
    have : cmpB a b ≠ 0 := fun e => hne (cmp_zero _ _ e)
    have : ¬ 0 < cmpB a b := fun e => h (.inr ⟨hs, e⟩)
    omega
  · refine .inl ?_
    have : ¬ shardOf b < shardOf a := fun e => h (.inl e)
    omega
theorem later_irrefl (a : Bs) : laterB a a = false := by
  cases h : laterB a a with
  | false => rfl
  | true => rw [later_iff, cmp_self] at h; omega
def SO (l : List Vault) : Prop := l.Pairwise fun a b => laterB b.iD a.iD = true
/-- Where a vault goes among the first k. -/
def insK (out : List Vault) (v : Vault) : Nat → Nat
  | 0 => 0
  | k + 1 => if (out[k]?).map (fun w => laterB w.iD v.iD) = some true then insK out v k else k + 1
def insA (out : List Vault) (v : Vault) : List Vault := out.take (insK out v out.length) ++ [v] ++ out.drop (insK out v out.length)
def allA (pl : List Vault) : Nat → List Vault
  | 0 => []
  | i + 1 => match pl[i]? with
    | some v => insA (allA pl i) v
    | none => allA pl i
theorem insK_spec (out : List Vault) (v : Vault) : ∀ n, n ≤ out.length → insK out v n ≤ n ∧ (∀ j w, insK out v n ≤ j → j < n → out[j]? = some w → laterB w.iD v.iD = true) ∧ (∀ w, 0 < insK out v n → out[insK out v n - 1]? = some w → ¬ laterB w.iD v.iD = true)
  | 0, _ => ⟨Nat.le_refl _, fun j w h1 h2 => by omega, fun w h => by simp [insK] at h⟩
  | n + 1, h => by
    obtain ⟨a1, a2, a3⟩ := insK_spec out v n (by omega)
    have hw : out[n]? = some out[n] := List.getElem?_eq_getElem (by omega)
    rw [insK, hw, Option.map_some]
    by_cases c : laterB out[n].iD v.iD = true
    · rw [if_pos (by rw [c])]
      refine ⟨by omega, fun j w h1 h2 h3 => ?_, a3⟩
      by_cases hj : j = n
      · subst hj; rw [hw] at h3; cases h3; exact c
      · exact a2 j w h1 (by omega) h3
    · rw [if_neg (by simpa using c)]
      refine ⟨Nat.le_refl _, fun j w h1 h2 => by omega, fun w _ h2 => ?_⟩
      rw [Nat.add_sub_cancel, hw] at h2; cases h2; exact c
theorem insA_mem (out : List Vault) (v w : Vault) : w ∈ insA out v ↔ w = v ∨ w ∈ out := by
  unfold insA
  have h : w ∈ out ↔ w ∈ out.take (insK out v out.length) ∨ w ∈ out.drop (insK out v out.length) := by
    rw [← List.mem_append, List.take_append_drop]
  rw [h]
  simp only [List.mem_append, List.mem_singleton]
  constructor
  · rintro ((a | a) | a)
    · exact .inr (.inl a)
    · exact .inl a
    · exact .inr (.inr a)
  · rintro (a | a | a)
    · exact .inl (.inr a)
    · exact .inl (.inl a)
    · exact .inr a
theorem insA_SO {out : List Vault} {v : Vault} (hs : SO out) (hn : ∀ w ∈ out, w.iD ≠ v.iD) : SO (insA out v) := by
  obtain ⟨a1, a2, a3⟩ := insK_spec out v out.length (Nat.le_refl _)
  unfold insA
  generalize insK out v out.length = k at *
  have h1 : SO (out.take k) := hs.sublist (List.take_sublist _ _)
  have h2 : SO (out.drop k) := hs.sublist (List.drop_sublist _ _)
  have hlo : ∀ w ∈ out.take k, laterB v.iD w.iD = true := by
    intro w hw
    obtain ⟨j, hj⟩ := List.getElem?_of_mem hw
    rw [List.getElem?_take] at hj
    split at hj
    case isFalse => cases hj
    rename_i hjk
    have hk : out[k - 1]? = some (out[k - 1]'(by omega)) := List.getElem?_eq_getElem (by omega)
    have h3 := a3 _ (by omega) hk
    have h4 := later_total h3 (hn _ (List.getElem_mem _))
    by_cases hjj : j = k - 1
    · subst hjj; rw [hk] at hj; cases hj; exact h4
    · have hjl := List.getElem?_eq_some_iff.1 hj
      have := List.pairwise_iff_getElem.1 hs j (k - 1) hjl.1 (by omega) (by omega)
      rw [hjl.2] at this
      exact later_trans h4 this
  have hhi : ∀ w ∈ out.drop k, laterB w.iD v.iD = true := by
    intro w hw
    obtain ⟨j, hj⟩ := List.getElem?_of_mem hw
    rw [List.getElem?_drop] at hj
    exact a2 _ w (by omega) (List.getElem?_eq_some_iff.1 hj).1 hj
  unfold SO
  rw [List.append_assoc, List.pairwise_append]
  refine ⟨h1, ?_, ?_⟩
  · rw [List.singleton_append, List.pairwise_cons]
    exact ⟨fun w hw => hhi w hw, h2⟩
  · intro a ha b hb
    rcases List.mem_cons.1 (by simpa using hb : b ∈ v :: out.drop k) with rfl | hb
    · exact hlo a ha
    · exact later_trans (hhi b hb) (hlo a ha)
theorem SO_ext : ∀ {l m : List Vault}, SO l → SO m → (∀ w, w ∈ l ↔ w ∈ m) → l = m
  | [], [], _, _, _ => rfl
  | [], b :: m, _, _, h => by have := (h b).2 (by simp); simp at this
  | a :: l, [], _, _, h => by have := (h a).1 (by simp); simp at this
  | a :: l, b :: m, h1, h2, h => by
    obtain ⟨p1, p2⟩ := List.pairwise_cons.1 h1
    obtain ⟨q1, q2⟩ := List.pairwise_cons.1 h2
    have hab : a = b := by
      rcases List.mem_cons.1 ((h a).1 (by simp)) with e | e
      · exact e
      · rcases List.mem_cons.1 ((h b).2 (by simp)) with e' | e'
        · exact e'.symm
        · have := later_trans (q1 a e) (p1 b e')
          rw [later_irrefl] at this; cases this
    subst hab
    have hn : ∀ {l : List Vault}, (∀ c ∈ l, laterB c.iD a.iD = true) → a ∉ l := fun hl ha => by
      have := hl a ha
      rw [later_irrefl] at this; cases this
    rw [SO_ext p2 q2 fun w => ?_]
    have := h w
    simp only [List.mem_cons] at this
    constructor
    · intro hw
      rcases this.1 (.inr hw) with rfl | e
      · exact absurd hw (hn p1)
      · exact e
    · intro hw
      rcases this.2 (.inr hw) with rfl | e
      · exact absurd hw (hn q1)
      · exact e
theorem allA_spec {pl : List Vault} (nd : (pl.map Vault.iD).Nodup) : ∀ i, i ≤ pl.length → SO (allA pl i) ∧ (∀ w, w ∈ allA pl i ↔ w ∈ pl.take i) ∧ (allA pl i).length = i
  | 0, _ => ⟨List.Pairwise.nil, by simp [allA], rfl⟩
  | i + 1, h => by
    obtain ⟨a1, a2, a3⟩ := allA_spec nd i (by omega)
    have hv : pl[i]? = some pl[i] := List.getElem?_eq_getElem (by omega)
    rw [allA, hv]
    refine ⟨insA_SO a1 fun w hw he => ?_, fun w => ?_, ?_⟩
    · obtain ⟨j, hj⟩ := List.getElem?_of_mem ((a2 w).1 hw)
      rw [List.getElem?_take] at hj
      split at hj
      · have := nd_inj nd hj hv he; omega
      · cases hj
    · rw [insA_mem, a2, List.take_add_one, hv]
      simp only [Option.toList_some, List.mem_append, List.mem_singleton]
      exact Or.comm
    · have := (insK_spec (allA pl i) pl[i] (allA pl i).length (Nat.le_refl _)).1
      simp only [insA, List.length_append, List.length_take, List.length_drop, List.length_cons, List.length_nil]; omega
theorem allP_SO {ls : Nat → List Vault} (ho : MOk ls) : ∀ n, n ≤ 16 → SO (allP ls n)
  | 0, _ => List.Pairwise.nil
  | n + 1, h => by
    rw [allP_succ]
    unfold SO
    rw [List.pairwise_append]
    refine ⟨allP_SO ho n (by omega), ?_, ?_⟩
    · refine ((ho n (by omega)).1).imp_of_mem fun {a b} ha hb hab => ?_
      rw [later_iff]
      have h1 := ((ho n (by omega)).2.2 a ha).2.1
      have h2 := ((ho n (by omega)).2.2 b hb).2.1
      have := cmp_anti a.iD b.iD
      exact .inr ⟨by rw [h1, h2], by omega⟩
    · intro a ha b hb
      obtain ⟨i, hi, ha⟩ := mem_allP.1 ha
      rw [later_iff]
      have h1 := ((ho i (by omega)).2.2 a ha).2.1
      have h2 := ((ho n (by omega)).2.2 b hb).2.1
      exact .inl (by omega)
theorem Rel.all {ls : Nat → List Vault} {pl : List Vault} (r : Rel ls pl) : allP ls 16 = allA pl pl.length := by
  obtain ⟨a1, a2, _⟩ := allA_spec r.nd pl.length (Nat.le_refl _)
  refine SO_ext (allP_SO r.ok 16 (Nat.le_refl _)) a1 fun w => ?_
  rw [r.mem_all, a2, List.take_length]
end Go.Proofs.Ytkkncdokkdamcaa
