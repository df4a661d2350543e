/- The ideal map against a plain list of vaults, as plain data: a request, the order. Conditions: none. -/
import Derived.Test.YtkkncdokkdamcaaCM23
namespace Go.Proofs.Ytkkncdokkdamcaa
open Go Go.Vm Go.Proofs Go.Cl
set_option linter.unusedSimpArgs false
set_option linter.unusedVariables false
/-- Where a name was last seen among the first i; -1: nowhere. -/
def lastI (pl : List Vault) (id : Bs) : Nat → Int
  | 0 => -1
  | i + 1 => if (pl[i]?).map Vault.iD = some id then (i : Int) else lastI pl id i
/-- How many of the first i are of a shard. -/
def cntS (pl : List Vault) (s : Nat) (i : Nat) : Nat := (pl.take i).countP fun v => decide (shardOf v.iD = s)
theorem cntS_succ {pl : List Vault} {s i : Nat} {v : Vault} (h : pl[i]? = some v) : cntS pl s (i + 1) = cntS pl s i + if shardOf v.iD = s then 1 else 0 := by
  unfold cntS
  rw [List.take_add_one, h]
  simp [List.countP_append, List.countP_cons]
theorem lastI_spec (pl : List Vault) (id : Bs) : ∀ i, i ≤ pl.length → (lastI pl id i = -1 ∧ ∀ j v, j < i → pl[j]? = some v → v.iD ≠ id) ∨ ∃ (j : Nat) (v : Vault), j < i ∧ lastI pl id i = (j : Int) ∧ pl[j]? = some v ∧ v.iD = id
  | 0, _ => .inl ⟨rfl, fun j v hj => by omega⟩
  | i + 1, h => by
    have hv : pl[i]? = some pl[i] := List.getElem?_eq_getElem (by omega)
    rw [lastI, hv, Option.map_some]
    by_cases c : (pl[i]).iD = id
    · rw [if_pos (by rw [c])]
      exact .inr ⟨i, _, by omega, rfl, hv, c⟩
    · rw [if_neg (by simpa using c)]
      rcases lastI_spec pl id i (by omega) with ⟨h1, h2⟩ | ⟨j, v, h1, h2⟩
      · refine .inl ⟨h1, fun j v hj hjv => ?_⟩
        by_cases hji : j = i
        · subst hji; rw [hv] at hjv; cases hjv; exact c
        · exact h2 j v (by omega) hjv
      · exact .inr ⟨j, v, by omega, h2⟩
/-- A request done on a plain list. -/
def plainDo (pl : List Vault) (q : Request) : Reply × List Vault :=
  if rightQ q = false then ({ zeroR with why := 12 }, pl) else
  let k := lastI pl q.iD pl.length
  let d := doG ((pl[k.toNat]?).filter (fun _ => decide (0 ≤ k)) |>.getD zeroV) q
  if d.2.2 = false then (d.2.1, pl)
  else if k < 0 ∧ 4 ≤ cntS pl (shardOf q.iD) pl.length then (⟨13, q.iD, 0, 0, [], q.client, q.num⟩, pl)
  else (d.2.1, if k < 0 then pl ++ [d.1] else pl.set k.toNat d.1)
/-- The shards' rows have just what a list has. -/
structure Rel (ls : Nat → List Vault) (pl : List Vault) : Prop where
  ok : MOk ls
  nd : (pl.map Vault.iD).Nodup
  mem : ∀ i, i < 16 → ∀ v, v ∈ ls i ↔ v ∈ pl ∧ shardOf v.iD = i
theorem nd_inj {pl : List Vault} (h : (pl.map Vault.iD).Nodup) {i j : Nat} {v w : Vault} (hi : pl[i]? = some v) (hj : pl[j]? = some w) (he : v.iD = w.iD) : i = j := by
  have hi' := List.getElem?_eq_some_iff.1 hi
  have hj' := List.getElem?_eq_some_iff.1 hj
  have key : ∀ (i j : Nat) (hi : i < pl.length) (hj : j < pl.length), (pl[i]).iD = (pl[j]).iD → ¬ i < j := by
    intro i j hi hj he hlt
    have := List.pairwise_iff_getElem.1 (List.nodup_iff_pairwise_ne.1 h) i j (by simpa using hi) (by simpa using hj) hlt
    simp at this
    exact this he
  have a := key i j hi'.1 hj'.1 (by rw [hi'.2, hj'.2]; exact he)
  have b := key j i hj'.1 hi'.1 (by rw [hi'.2, hj'.2]; exact he.symm)
  omega
theorem Rel.get {ls : Nat → List Vault} {pl : List Vault} (r : Rel ls pl) (id : Bs) : (lastI pl id pl.length = -1 ∧ getT (ls (shardOf id)) id = none) ∨ ∃ (j : Nat) (v : Vault), lastI pl id pl.length = (j : Int) ∧ pl[j]? = some v ∧ v.iD = id ∧ getT (ls (shardOf id)) id = some v := by
  have hs := shardOf_lt id
  rcases lastI_spec pl id pl.length (Nat.le_refl _) with ⟨h1, h2⟩ | ⟨j, v, h1, h2, h3, h4⟩
  · refine .inl ⟨h1, getT_none fun v hv he => ?_⟩
    obtain ⟨hv, _⟩ := (r.mem _ hs v).1 hv
    obtain ⟨j, hj⟩ := List.getElem?_of_mem hv
    exact h2 j v (List.getElem?_eq_some_iff.1 hj).1 hj he
  · refine .inr ⟨j, v, h2, h3, h4, ?_⟩
    have : v ∈ ls (shardOf id) := (r.mem _ hs v).2 ⟨List.mem_of_getElem? h3, by rw [h4]⟩
    rw [← h4] at this ⊢
    exact getT_mem (r.ok _ (shardOf_lt _)).1 this
theorem Rel.cnt {ls : Nat → List Vault} {pl : List Vault} (r : Rel ls pl) (s : Nat) (hs : s < 16) : cntS pl s pl.length = (ls s).length := by
  unfold cntS
  rw [List.take_length, List.countP_eq_length_filter]
  have h1 : ((pl.filter fun v => decide (shardOf v.iD = s)).map Vault.iD).Nodup := List.Nodup.sublist (List.Sublist.map _ List.filter_sublist) r.nd
  have h2 := Rise_nodup (r.ok s hs).1
  have a := len_le (m := (ls s).map Vault.iD) h1 fun x hx => by
    obtain ⟨v, hv, rfl⟩ := List.mem_map.1 hx
    obtain ⟨hv1, hv2⟩ := List.mem_filter.1 hv
    exact List.mem_map.2 ⟨v, (r.mem s hs v).2 ⟨hv1, by simpa using hv2⟩, rfl⟩
  have b := len_le (m := (pl.filter fun v => decide (shardOf v.iD = s)).map Vault.iD) h2 fun x hx => by
    obtain ⟨v, hv, rfl⟩ := List.mem_map.1 hx
    obtain ⟨hv1, hv2⟩ := (r.mem s hs v).1 hv
    exact List.mem_map.2 ⟨v, List.mem_filter.2 ⟨hv1, by simpa using hv2⟩, rfl⟩
  simp only [List.length_map] at a b
  omega
theorem mem_allP {ls : Nat → List Vault} {n : Nat} {v : Vault} : v ∈ allP ls n ↔ ∃ i, i < n ∧ v ∈ ls i := by simp [allP]
theorem Rel.mem_all {ls : Nat → List Vault} {pl : List Vault} (r : Rel ls pl) (v : Vault) : v ∈ allP ls 16 ↔ v ∈ pl := by
  rw [mem_allP]
  constructor
  · rintro ⟨i, hi, h⟩; exact ((r.mem i hi v).1 h).1
  · intro h; exact ⟨shardOf v.iD, shardOf_lt _, (r.mem _ (shardOf_lt _) v).2 ⟨h, rfl⟩⟩
theorem Rel.len {ls : Nat → List Vault} {pl : List Vault} (r : Rel ls pl) : pl.length ≤ 64 := by
  have h1 := len_le (m := (allP ls 16).map Vault.iD) r.nd fun x hx => by
    obtain ⟨v, hv, rfl⟩ := List.mem_map.1 hx
    exact List.mem_map.2 ⟨v, (r.mem_all v).2 hv, rfl⟩
  have h2 := allP_len ls 16 fun j hj => (r.ok j hj).2.1
  simp only [List.length_map] at h1
  omega
theorem Rel.nil : Rel (fun _ => []) [] := ⟨fun i _ => ⟨List.Pairwise.nil, by simp, by simp⟩, by simp, by simp⟩
theorem set_mem {pl : List Vault} {j : Nat} {v : Vault} (nd : (pl.map Vault.iD).Nodup) (h2 : pl[j]? = some v) (u w : Vault) : w ∈ pl.set j u ↔ w = u ∨ w ∈ pl ∧ w.iD ≠ v.iD := by
  have hj := (List.getElem?_eq_some_iff.1 h2).1
  constructor
  · intro hw
    obtain ⟨k, hk⟩ := List.getElem?_of_mem hw
    by_cases hjk : j = k
    · subst hjk
      rw [List.getElem?_set_self hj] at hk
      exact .inl (by simpa using hk.symm)
    · rw [List.getElem?_set_ne hjk] at hk
      exact .inr ⟨List.mem_of_getElem? hk, fun he => hjk (nd_inj nd h2 hk he.symm)⟩
  · rintro (rfl | ⟨hw, hne⟩)
    · exact List.mem_of_getElem? (i := j) (by rw [List.getElem?_set_self hj])
    · obtain ⟨k, hk⟩ := List.getElem?_of_mem hw
      refine List.mem_of_getElem? (i := k) ?_
      rw [List.getElem?_set_ne (fun e => by subst e; rw [h2] at hk; cases hk; exact hne rfl)]
      exact hk
theorem set_ids {pl : List Vault} {j : Nat} {v u : Vault} (h2 : pl[j]? = some v) (hu : u.iD = v.iD) : (pl.set j u).map Vault.iD = pl.map Vault.iD := by
  have hj := (List.getElem?_eq_some_iff.1 h2).1
  rw [List.map_set]
  apply List.ext_getElem?
  intro k
  by_cases hjk : j = k
  · subst hjk
    rw [List.getElem?_set_self (by simpa using hj), List.getElem?_map, h2, hu]; rfl
  · rw [List.getElem?_set_ne hjk]
set_option maxHeartbeats 1000000 in
theorem Rel.do {ls : Nat → List Vault} {pl : List Vault} (r : Rel ls pl) (q : Request) (hl : q.iD.length = 4) : Rel (idealDo ls q).2 (plainDo pl q).2 ∧ (idealDo ls q).1 = (plainDo pl q).1 := by
  have hok := r.ok.idealDo q hl
  unfold idealDo plainDo at *
  by_cases hq : rightQ q = false
  · simp only [hq, if_true]; exact ⟨r, trivial⟩
  simp only [hq, Bool.true_eq_false, if_false] at hok ⊢
  have hs := shardOf_lt q.iD
  have hcn := r.cnt _ hs
  have hz := getT_zero (id := q.iD) r.ok hs
  have hdr := doG_right (by simpa using hq) hz
  obtain ⟨o1, o2, o3⟩ := r.ok _ hs
  rcases r.get q.iD with ⟨h1, h2⟩ | ⟨j, v, h1, h2, h3, h4⟩
  · rw [h2] at hok hdr
    have hd : ((pl[(-1 : Int).toNat]?).filter (fun _ => decide (0 ≤ (-1 : Int))) |>.getD zeroV) = (none : Option Vault).getD zeroV := by simp
    simp only [h1, h2, hd] at hok hdr ⊢
    generalize doG ((none : Option Vault).getD zeroV) q = d at *
    by_cases hc : d.2.2 = false
    · simp only [hc, if_true]; exact ⟨r, trivial⟩
    simp only [hc, Bool.true_eq_false, if_false] at hok ⊢
    obtain ⟨r1, r2⟩ := hdr (by simpa using hc)
    rw [hcn]
    by_cases hf : 4 ≤ (ls (shardOf q.iD)).length
    · simp only [hf, and_true, if_true, show (-1 : Int) < 0 by omega]; exact r
    simp only [hf, and_false, if_false, show (-1 : Int) < 0 by omega, if_true] at hok ⊢
    refine ⟨⟨hok, ?_, ?_⟩, trivial⟩
    · rw [List.map_append, List.nodup_append]
      refine ⟨r.nd, by simp, ?_⟩
      intro a ha b hb
      simp at hb
      subst hb
      obtain ⟨w, hw, rfl⟩ := List.mem_map.1 ha
      intro he
      rw [r2] at he
      have : w ∈ ls (shardOf q.iD) := (r.mem _ hs w).2 ⟨hw, by rw [he]⟩
      exact (getT_none_iff o1 q.iD).1 h2 w this he
    · intro i hi w
      by_cases his : i = shardOf q.iD
      · subst his
        rw [updL_same, putT_right o1 r1 (fun _ => by omega), placed_mem, r.mem _ hs, List.mem_append, List.mem_singleton, r2]
        constructor
        · rintro (rfl | ⟨⟨a, b⟩, c⟩)
          · exact ⟨.inr rfl, by rw [r2]⟩
          · exact ⟨.inl a, b⟩
        · rintro ⟨a | a, b⟩
          · refine .inr ⟨⟨a, b⟩, fun he => ?_⟩
            exact (getT_none_iff o1 q.iD).1 h2 w ((r.mem _ hs w).2 ⟨a, b⟩) he
          · exact .inl a
      · rw [updL_ne _ _ _ _ his, r.mem i hi, List.mem_append, List.mem_singleton]
        constructor
        · rintro ⟨a, b⟩; exact ⟨.inl a, b⟩
        · rintro ⟨a | rfl, b⟩
          · exact ⟨a, b⟩
          · rw [r2] at b; exact absurd b.symm his
  · have hd : ((pl[(j : Int).toNat]?).filter (fun _ => decide (0 ≤ (j : Int))) |>.getD zeroV) = (some v).getD zeroV := by simp [h2, Option.filter]
    rw [h4] at hok hdr
    simp only [h1, h4, hd] at hok hdr ⊢
    generalize doG ((some v).getD zeroV) q = d at *
    by_cases hc : d.2.2 = false
    · simp only [hc, if_true]; exact ⟨r, trivial⟩
    simp only [hc, Bool.true_eq_false, if_false] at hok ⊢
    obtain ⟨r1, r2⟩ := hdr (by simpa using hc)
    have hj := (List.getElem?_eq_some_iff.1 h2).1
    simp only [reduceCtorEq, false_and, if_false, show ¬ (j : Int) < 0 by omega, Int.toNat_natCast] at hok ⊢
    have hmem := set_mem r.nd h2 d.1
    rw [h3] at hmem
    refine ⟨⟨hok, ?_, ?_⟩, trivial⟩
    · rw [set_ids h2 (by rw [r2, h3])]; exact r.nd
    · intro i hi w
      by_cases his : i = shardOf q.iD
      · subst his
        have hroom : getT (ls (shardOf q.iD)) d.1.iD = none → (ls (shardOf q.iD)).length < 4 := fun h => by rw [r2, h4] at h; cases h
        rw [updL_same, putT_right o1 r1 hroom, placed_mem, r.mem _ hs, hmem, r2]
        constructor
        · rintro (rfl | ⟨⟨a, b⟩, c⟩)
          · exact ⟨.inl rfl, by rw [r2]⟩
          · exact ⟨.inr ⟨a, c⟩, b⟩
        · rintro ⟨rfl | ⟨a, c⟩, b⟩
          · exact .inl rfl
          · exact .inr ⟨⟨a, b⟩, c⟩
      · rw [updL_ne _ _ _ _ his, r.mem i hi, hmem]
        constructor
        · rintro ⟨a, b⟩; exact ⟨.inr ⟨a, fun he => his (by rw [← b, he])⟩, b⟩
        · rintro ⟨rfl | ⟨a, _⟩, b⟩
          · rw [r2] at b; exact absurd b.symm his
          · exact ⟨a, b⟩
end Go.Proofs.Ytkkncdokkdamcaa
