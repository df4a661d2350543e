/- The ideal map: what its functions come to. Conditions: none. -/
import Derived.Test.YtfhmclgnfabdfaaCS23
import Derived.Test.YtfhmclgnfabdfaaCS11R
namespace Go.Proofs.Ytfhmclgnfabdfaa
open Go Go.Vm Go.Proofs Go.Cl
set_option linter.unusedSimpArgs false
set_option linter.unusedVariables false
set_option maxRecDepth 100000
def tptrs (ts : Nat → Nat × Nat) (n : Nat) : List V := (List.range n).map fun i => V.ptr (ts i).1 [0] 1
theorem tptrs_succ (ts : Nat → Nat × Nat) (n : Nat) : tptrs ts (n + 1) = tptrs ts n ++ [V.ptr (ts n).1 [0] 1] := by simp [tptrs, List.range_succ]
theorem tptrs_congr {ts ts' : Nat → Nat × Nat} {n : Nat} (h : ∀ i, i < n → ts i = ts' i) : tptrs ts n = tptrs ts' n := by
  unfold tptrs
  apply List.map_congr_left
  intro i hi
  rw [h i (List.mem_range.1 hi)]
/-- A map in memory: its object m; the vaults of each shard; F: what it owns. -/
def MR (h : Hp) (m : Nat) (ls : Nat → List Vault) (F : List Nat) : Prop :=
  ∃ (r : Nat) (ts : Nat → Nat × Nat) (own : Nat → Nat), h[m]? = some (.cells (some 81) [.st 81 [.ref r [] none 0 16 16]]) ∧ h[r]? = some (.cells none (tptrs ts 16)) ∧
    (∀ i, i < 16 → TR h (ts i).1 (ts i).2 (ls i)) ∧ own m = 100 ∧ own r = 101 ∧ (∀ i, i < 16 → own (ts i).1 = i ∧ own (ts i).2 = i) ∧ m ∈ F ∧ r ∈ F ∧ (∀ i, i < 16 → (ts i).1 ∈ F ∧ (ts i).2 ∈ F) ∧ ∀ j ∈ F, j < h.length
theorem MR.mono {S F : List Nat} {h h' : Hp} {m : Nat} {ls : Nat → List Vault} (hm : MR h m ls F) (f : Fw S h h') (hd : ∀ j ∈ F, j ∉ S) : MR h' m ls F := by
  obtain ⟨r, ts, own, h1, h2, h3, h4, h5, h6, h7, h8, h9, h10⟩ := hm
  exact ⟨r, ts, own, f.old _ _ h1 (hd _ h7), f.old _ _ h2 (hd _ h8), fun i hi => (h3 i hi).mono f (hd _ (h9 i hi).1) (hd _ (h9 i hi).2), h4, h5, h6, h7, h8, h9, fun j hj => f.lt (h10 j hj)⟩
theorem MR.lt {F : List Nat} {h : Hp} {m : Nat} {ls : Nat → List Vault} (hm : MR h m ls F) : ∀ j ∈ F, j < h.length := by
  obtain ⟨r, ts, own, h1, h2, h3, h4, h5, h6, h7, h8, h9, h10⟩ := hm
  exact h10
theorem MR.app {F : List Nat} {h : Hp} {m : Nat} {ls : Nat → List Vault} (hm : MR h m ls F) (t : Hp) : MR (h ++ t) m ls F := hm.mono (Fw.app [] h t) (by simp)
/-- What is kept right of a map. -/
def MOk (ls : Nat → List Vault) : Prop := ∀ i, i < 16 → Rise (ls i) ∧ (ls i).length ≤ 4 ∧ ∀ v ∈ ls i, rightV v = true ∧ shardOf v.iD = i ∧ v.iD.length = 4
/-- A map that is being made: so many tables of it are there. -/
def MRp (n : Nat) (H : Hp) (i : Nat) (y : V) (k : Nat) (ts : Nat → Nat × Nat) (own : Nat → Nat) : Prop :=
  H[n]? = some (.cells (some 81) [.st 81 [y]]) ∧ (i = 0 ∧ y = .imm true none [] ∨ 0 < i ∧ y = .ref k [] none 0 i i ∧ H[k]? = some (.cells none (tptrs ts i)) ∧ own k = 101 ∧ n ≤ k) ∧ own n = 100 ∧
    (∀ j, j < i → TR H (ts j).1 (ts j).2 [] ∧ own (ts j).1 = j ∧ own (ts j).2 = j ∧ n ≤ (ts j).1 ∧ n ≤ (ts j).2)
/-- One table more. -/
theorem MRp.step {n i k k' t : Nat} {H H' : Hp} {y : V} {ts : Nat → Nat × Nat} {own : Nat → Nat} (hp : MRp n H i y k ts own) (hn : n < H.length) (ht : H.length ≤ t) (hkt : k' ≠ t) (hk' : k' = k ∧ 0 < i ∨ H.length ≤ k') (hi : i < 16)
    (hm : H'[n]? = some (.cells (some 81) [.st 81 [.ref k' [] none 0 (i + 1) (i + 1)]])) (hr : H'[k']? = some (.cells none (tptrs ts i ++ [V.ptr t [0] 1]))) (hT : TR H' t t []) (ho : ∀ (j : Nat) (b : Blk), j ≠ n → (0 < i → j ≠ k) → H[j]? = some b → H'[j]? = some b) :
    ∃ ts' own', MRp n H' (i + 1) (.ref k' [] none 0 (i + 1) (i + 1)) k' ts' own' := by
  obtain ⟨h1, h2, h3, h4⟩ := hp
  refine ⟨fun j => if j = i then (t, t) else ts j, fun j => if j = t then i else if j = k' then 101 else own j, hm, .inr ⟨by omega, rfl, ?_, by simp [hkt], ?_⟩, ?_, ?_⟩
  · rw [hr, tptrs_succ, if_pos rfl]
    rw [tptrs_congr (ts := ts) (ts' := fun j => if j = i then (t, t) else ts j) (fun j hj => by rw [if_neg (by omega)])]
  · rcases hk' with ⟨rfl, hi0⟩ | hk'
    · rcases h2 with ⟨h2, _⟩ | ⟨_, _, _, _, h2⟩
      · omega
      · exact h2
    · omega
  · have hnk : n ≠ k' := by
      rcases hk' with ⟨rfl, hi0⟩ | hk'
      · rcases h2 with ⟨h2, _⟩ | ⟨_, _, _, h2, _⟩
        · omega
        · intro e; rw [e, h2] at h3; cases h3
      · omega
    simp only [show n ≠ t by omega, hnk, if_false]; exact h3
  · intro j hj
    by_cases hji : j = i
    · subst hji
      simp only [if_true]
      exact ⟨hT, trivial, trivial, by omega, by omega⟩
    · obtain ⟨a1, a2, a3, a4, a5⟩ := h4 j (by omega)
      have hl := a1.lt
      simp only [hji, if_false]
      have hk1 : 0 < i → (ts j).1 ≠ k ∧ (ts j).2 ≠ k := fun hi0 => by
        rcases h2 with ⟨h2, _⟩ | ⟨_, _, _, h2, _⟩
        · omega
        · exact ⟨fun e => by rw [e, h2] at a2; omega, fun e => by rw [e, h2] at a3; omega⟩
      have hn1 : (ts j).1 ≠ n ∧ (ts j).2 ≠ n := ⟨fun e => by rw [e, h3] at a2; omega, fun e => by rw [e, h3] at a3; omega⟩
      have hkk : (ts j).1 ≠ k' ∧ (ts j).2 ≠ k' := by
        rcases hk' with ⟨rfl, hi0⟩ | hk'
        · exact hk1 hi0
        · omega
      refine ⟨?_, by rw [if_neg (by omega), if_neg hkk.1]; exact a2, by rw [if_neg (by omega), if_neg hkk.2]; exact a3, a4, a5⟩
      obtain ⟨x, b1, b2⟩ := a1
      refine ⟨x, ho _ _ hn1.1 (fun h => (hk1 h).1) b1, ?_⟩
      rcases b2 with b2 | ⟨b3, b4, b5⟩
      · exact .inl b2
      · exact .inr ⟨b3, b4, ho _ _ hn1.2 (fun h => (hk1 h).2) b5⟩
/-- The vaults of the first shards. -/
def allP (ls : Nat → List Vault) (i : Nat) : List Vault := (List.range i).flatMap ls
/-- Another row of vaults in a shard. -/
def updL (ls : Nat → List Vault) (s : Nat) (l : List Vault) : Nat → List Vault := fun j => if j = s then l else ls j
theorem updL_same (ls : Nat → List Vault) (s : Nat) (l : List Vault) : updL ls s l s = l := by simp [updL]
theorem updL_ne (ls : Nat → List Vault) (s j : Nat) (l : List Vault) (h : j ≠ s) : updL ls s l j = ls j := by simp [updL, h]
/-- A request done on a map. -/
def idealDo (ls : Nat → List Vault) (q : Request) : Reply × (Nat → List Vault) :=
  if rightQ q = false then ({ zeroR with why := 12 }, ls) else
  if (doG ((getT (ls (shardOf q.iD)) q.iD).getD zeroV) q).2.2 = false then ((doG ((getT (ls (shardOf q.iD)) q.iD).getD zeroV) q).2.1, ls)
  else if getT (ls (shardOf q.iD)) q.iD = none ∧ 4 ≤ (ls (shardOf q.iD)).length then (⟨13, q.iD, 0, 0, [], q.client, q.num⟩, ls)
  else ((doG ((getT (ls (shardOf q.iD)) q.iD).getD zeroV) q).2.1, updL ls (shardOf q.iD) (putT (ls (shardOf q.iD)) (doG ((getT (ls (shardOf q.iD)) q.iD).getD zeroV) q).1).2)
theorem getT_id {l : List Vault} {id : Bs} {v : Vault} (h : getT l id = some v) : v.iD = id ∧ v ∈ l := by
  unfold getT at h
  split at h
  · rename_i hc
    rw [h] at hc
    exact ⟨by simpa using hc, List.mem_of_getElem? h⟩
  · cases h
theorem getT_zero {ls : Nat → List Vault} {s : Nat} {id : Bs} (ho : MOk ls) (hs : s < 16) : (getT (ls s) id).getD zeroV = zeroV ∨ rightV ((getT (ls s) id).getD zeroV) = true ∧ ((getT (ls s) id).getD zeroV).iD = id := by
  cases hg : getT (ls s) id with
  | none => exact .inl rfl
  | some v => exact .inr ⟨((ho s hs).2.2 v (getT_id hg).2).1, (getT_id hg).1⟩
theorem right_gen {v : Vault} (h : v = zeroV ∨ rightV v = true) : 0 ≤ v.gen := by
  rcases h with rfl | h
  · decide
  · have := right_goneV h; omega
theorem doG_right {v : Vault} {q : Request} (hq : rightQ q = true) (hz : v = zeroV ∨ rightV v = true ∧ v.iD = q.iD) (hc : (doG v q).2.2 = true) : rightV (doG v q).1 = true ∧ (doG v q).1.iD = q.iD := by
  have hgen := right_gen (hz.imp id And.left)
  have esc : ∀ r, (escV v q r).2.2 = true → (q.op = 1 ∨ q.op = 3) → rightV (escV v q r).1 = true ∧ (escV v q r).1.iD = q.iD := by
    intro r h hop
    unfold escV at h ⊢
    split at h
    · cases h
    · rename_i hlt
      rw [if_neg hlt]
      refine ⟨?_, rfl⟩
      simp only [rightQ, hop, if_true, Bool.and_eq_true, decide_eq_true_eq] at hq
      simp [rightV]
      omega
  have hnz : missV v q = 0 → rightV v = true ∧ v.iD = q.iD ∧ v.gone = false := by
    intro hm
    rcases hz with rfl | hz
    · simp [missV, zeroV] at hm
    · refine ⟨hz.1, hz.2, ?_⟩
      have := right_goneV hz.1
      cases hg : v.gone with
      | false => rfl
      | true => simp [missV, hg] at hm; omega
  unfold doG at hc ⊢
  split at hc
  · rename_i h1
    rw [if_pos h1]
    split at hc
    · cases hc
    · rename_i h2
      rw [if_neg h2]
      exact esc _ hc (.inl h1)
  · rename_i h1
    rw [if_neg h1]
    split at hc
    · cases hc
    · rename_i h2
      obtain ⟨a1, a2, a3⟩ := hnz (Decidable.not_not.1 h2)
      have a4 := right_goneV a1
      have a5 : v.gen ≤ 1099511627776 := by simp [rightV] at a1; exact a1.1.2
      have hgo : ∀ w, rightV (goneV v w) = true ∧ (goneV v w).iD = q.iD := fun w => ⟨by simp [rightV, goneV, a4, a5], a2⟩
      rw [if_neg h2]
      split at hc
      · rename_i h3
        rw [if_pos h3]
        unfold recV at hc ⊢
        split at hc
        · cases hc
        · rename_i h4
          rw [if_neg h4]
          split at hc
          · rename_i h5
            rw [if_pos h5]; exact hgo true
          · rename_i h5
            rw [if_neg h5]
            refine ⟨?_, a2⟩
            have := right_used a1 a3
            simp [rightV, a3] at a1
            simp [rightV, usedV, a3, a1]
            omega
      · rename_i h3
        rw [if_neg h3]
        split at hc
        · rename_i h4
          rw [if_pos h4]; exact esc _ hc (.inr h4)
        · rename_i h4
          rw [if_neg h4]; exact hgo false
theorem MR.congr {h : Hp} {m : Nat} {ls ls' : Nat → List Vault} {F : List Nat} (hm : MR h m ls F) (hc : ∀ i, i < 16 → ls i = ls' i) : MR h m ls' F := by
  obtain ⟨r, ts, own, h1, h2, h3, h4⟩ := hm
  exact ⟨r, ts, own, h1, h2, fun i hi => by rw [← hc i hi]; exact h3 i hi, h4⟩
theorem MOk.rising {ls : Nat → List Vault} (ho : MOk ls) (i : Nat) (hi : i < 16) : rising (ls i) = true := by
  obtain ⟨o1, o2, o3⟩ := ho i hi
  simp only [Ytfhmclgnfabdfaa.rising, Bool.and_eq_true, decide_eq_true_eq, List.all_eq_true]
  exact ⟨⟨o2, fun v hv => (o3 v hv).1⟩, o1⟩
end Go.Proofs.Ytfhmclgnfabdfaa
