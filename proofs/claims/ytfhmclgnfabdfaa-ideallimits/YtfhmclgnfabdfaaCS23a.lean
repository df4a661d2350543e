/- The ideal map: what its functions come to. Conditions: none. -/
import Derived.Test.YtfhmclgnfabdfaaCS23
import Derived.Test.YtfhmclgnfabdfaaCS11R
namespace Go.Proofs.Ytfhmclgnfabdfaa
open Go Go.Vm Go.Proofs Go.Cl
set_option linter.unusedSimpArgs false
set_option linter.unusedVariables false
set_option maxRecDepth 100000
def tptrs (ts : Nat → Nat × Nat) (n : Nat) : List V := (List.range n).map fun i => V.ptr (ts i).1 [0] 1
theorem tptrs_succ (ts : Nat → Nat × Nat) (n : Nat) : tptrs ts (n + 1) = tptrs ts n ++ [V.ptr (ts n).1 [0] 1] := by simp [tptrs, List.range_succ]
theorem tptrs_len (ts : Nat → Nat × Nat) (n : Nat) : (tptrs ts n).length = n := by simp [tptrs]
theorem tptrs_get (ts : Nat → Nat × Nat) (n i : Nat) (h : i < n) : (tptrs ts n)[i]? = some (V.ptr (ts i).1 [0] 1) := by simp [tptrs, h]
theorem tptrs_congr {ts ts' : Nat → Nat × Nat} {n : Nat} (h : ∀ i, i < n → ts i = ts' i) : tptrs ts n = tptrs ts' n := by
  unfold tptrs
  apply List.map_congr_left
  intro i hi
  rw [h i (List.mem_range.1 hi)]
/-- A map in memory: its object m; the vaults of each shard; F: what it owns. -/
def MR (h : Hp) (m : Nat) (ls : Nat → List Vault) (F : List Nat) : Prop :=
  ∃ (r : Nat) (ts : Nat → Nat × Nat) (own : Nat → Nat), h[m]? = some (.cells (some 81) [.st 81 [.ref r [] none 0 16 16]]) ∧ h[r]? = some (.cells none (tptrs ts 16)) ∧
    (∀ i, i < 16 → TR h (ts i).1 (ts i).2 (ls i)) ∧ own m = 100 ∧ own r = 101 ∧ (∀ i, i < 16 → own (ts i).1 = i ∧ own (ts i).2 = i) ∧ m ∈ F ∧ r ∈ F ∧ (∀ i, i < 16 → (ts i).1 ∈ F ∧ (ts i).2 ∈ F) ∧ ∀ j ∈ F, j < h.length
theorem MR.mono {S F : List Nat} {h h' : Hp} {m : Nat} {ls : Nat → List Vault} (hm : MR h m ls F) (f : Fw S h h') (hd : ∀ j ∈ F, j ∉ S) : MR h' m ls F := by
  obtain ⟨r, ts, own, h1, h2, h3, h4, h5, h6, h7, h8, h9, h10⟩ := hm
  exact ⟨r, ts, own, f.old _ _ h1 (hd _ h7), f.old _ _ h2 (hd _ h8), fun i hi => (h3 i hi).mono f (hd _ (h9 i hi).1) (hd _ (h9 i hi).2), h4, h5, h6, h7, h8, h9, fun j hj => f.lt (h10 j hj)⟩
theorem MR.lt {F : List Nat} {h : Hp} {m : Nat} {ls : Nat → List Vault} (hm : MR h m ls F) : ∀ j ∈ F, j < h.length := by
  obtain ⟨r, ts, own, h1, h2, h3, h4, h5, h6, h7, h8, h9, h10⟩ := hm
  exact h10
theorem MR.app {F : List Nat} {h : Hp} {m : Nat} {ls : Nat → List Vault} (hm : MR h m ls F) (t : Hp) : MR (h ++ t) m ls F := hm.mono (Fw.app [] h t) (by simp)
/-- What is kept right of a map. -/
def MOk (ls : Nat → List Vault) : Prop := ∀ i, i < 16 → Rise (ls i) ∧ (ls i).length ≤ 4 ∧ ∀ v ∈ ls i, rightV v = true ∧ shardOf v.iD = i ∧ v.iD.length = 4
/-- A map that is being made: so many tables of it are there. -/
def MRp (n : Nat) (H : Hp) (i : Nat) (y : V) (k : Nat) (ts : Nat → Nat × Nat) (own : Nat → Nat) : Prop :=
  H[n]? = some (.cells (some 81) [.st 81 [y]]) ∧ (i = 0 ∧ y = .imm true none [] ∨ 0 < i ∧ y = .ref k [] none 0 i i ∧ H[k]? = some (.cells none (tptrs ts i)) ∧ own k = 101 ∧ n ≤ k) ∧ own n = 100 ∧
    (∀ j, j < i → TR H (ts j).1 (ts j).2 [] ∧ own (ts j).1 = j ∧ own (ts j).2 = j ∧ n ≤ (ts j).1 ∧ n ≤ (ts j).2)
/-- One table more. -/
theorem MRp.step {n i k k' t : Nat} {H H' : Hp} {y : V} {ts : Nat → Nat × Nat} {own : Nat → Nat} (hp : MRp n H i y k ts own) (hn : n < H.length) (ht : H.length ≤ t) (hkt : k' ≠ t) (hk' : k' = k ∧ 0 < i ∨ H.length ≤ k') (hi : i < 16)
    (hm : H'[n]? = some (.cells (some 81) [.st 81 [.ref k' [] none 0 (i + 1) (i + 1)]])) (hr : H'[k']? = some (.cells none (tptrs ts i ++ [V.ptr t [0] 1]))) (hT : TR H' t t []) (ho : ∀ (j : Nat) (b : Blk), j ≠ n → (0 < i → j ≠ k) → H[j]? = some b → H'[j]? = some b) :
    ∃ ts' own', MRp n H' (i + 1) (.ref k' [] none 0 (i + 1) (i + 1)) k' ts' own' := by
  obtain ⟨h1, h2, h3, h4⟩ := hp
  refine ⟨fun j => if j = i then (t, t) else ts j, fun j => if j = t then i else if j = k' then 101 else own j, hm, .inr ⟨by omega, rfl, ?_, by simp [hkt], ?_⟩, ?_, ?_⟩
  · rw [hr, tptrs_succ, if_pos rfl]
    rw [tptrs_congr (ts := ts) (ts' := fun j => if j = i then (t, t) else ts j) (fun j hj => by rw [if_neg (by omega)])]
  · rcases hk' with ⟨rfl, hi0⟩ | hk'
    · rcases h2 with ⟨h2, _⟩ | ⟨_, _, _, _, h2⟩
      · omega
      · exact h2
    · omega
  · have hnk : n ≠ k' := by
      rcases hk' with ⟨rfl, hi0⟩ | hk'
      · rcases h2 with ⟨h2, _⟩ | ⟨_, _, _, h2, _⟩
        · omega
        · intro e; rw [e, h2] at h3; cases h3
      · omega
    simp only [show n ≠ t by omega, hnk, if_false]; exact h3
  · intro j hj
    by_cases hji : j = i
    · subst hji
      simp only [if_true]
      exact ⟨hT, trivial, trivial, by omega, by omega⟩
    · obtain ⟨a1, a2, a3, a4, a5⟩ := h4 j (by omega)
      have hl := a1.lt
      simp only [hji, if_false]
      have hk1 : 0 < i → (ts j).1 ≠ k ∧ (ts j).2 ≠ k := fun hi0 => by
        rcases h2 with ⟨h2, _⟩ | ⟨_, _, _, h2, _⟩
        · omega
        · exact ⟨fun e => by rw [e, h2] at a2; omega, fun e => by rw [e, h2] at a3; omega⟩
      have hn1 : (ts j).1 ≠ n ∧ (ts j).2 ≠ n := ⟨fun e => by rw [e, h3] at a2; omega, fun e => by rw [e, h3] at a3; omega⟩
      have hkk : (ts j).1 ≠ k' ∧ (ts j).2 ≠ k' := by
        rcases hk' with ⟨rfl, hi0⟩ | hk'
        · exact hk1 hi0
        · omega
      refine ⟨?_, by rw [if_neg (by omega), if_neg hkk.1]; exact a2, by rw [if_neg (by omega), if_neg hkk.2]; exact a3, a4, a5⟩
      obtain ⟨x, b1, b2⟩ := a1
      refine ⟨x, ho _ _ hn1.1 (fun h => (hk1 h).1) b1, ?_⟩
      rcases b2 with b2 | ⟨b3, b4, b5⟩
      · exact .inl b2
      · exact .inr ⟨b3, b4, ho _ _ hn1.2 (fun h => (hk1 h).2) b5⟩
theorem INew_ok (b : Nat) (h : Hp) (hb : b ≤ h.length) : ∃ v h', run fns pr b 15 [] h = some (v, h') ∧ ∃ F, v = .ptr h.length [0] 1 ∧ MR h' h.length (fun _ => []) F ∧ Fw [] h h' ∧ ∀ j ∈ F, h.length ≤ j := by
  refine Vm.runQ (nt := 18) rfl fit15 (by simp) ?_
  have hvb : (0 : Nat) = 0 := rfl
  try simp only [B15, B15R0, B15L0, go_sem, V.s.injEq, Value.bool.injEq, ↓reduceIte, Nat.reduceEqDiff, Nat.reduceBEq, Nat.reduceAdd, Nat.reduceSub, Nat.reduceLT, Nat.reduceLeDiff, Int.reduceLT, Int.reduceLE, Int.reduceEq, Int.reduceToNat, List.append_assoc, List.length_append, Vm.get_app, Vm.set_app, Vm.get_appL, Vm.get_appL0, Vm.set_appL, Vm.set_appL0, Nat.le_refl, Nat.le_add_right, okAt]
  repeat' (
    first | refine wpC_cases ?_ ?_ | refine wpU_casesT ?_ ?_ | refine wpU_casesF ?_ ?_
    all_goals intro hvc
    all_goals first | replace hvc := not_of_true hvc | replace hvc := not_of_false hvc | skip
    all_goals first | subst hvc | replace hvb := And.intro hvc hvb
    all_goals try simp only [hvb, B15, B15R0, B15L0, go_sem, V.s.injEq, Value.bool.injEq, ↓reduceIte, Nat.reduceEqDiff, Nat.reduceBEq, Nat.reduceAdd, Nat.reduceSub, Nat.reduceLT, Nat.reduceLeDiff, Int.reduceLT, Int.reduceLE, Int.reduceEq, Int.reduceToNat, List.append_assoc, List.length_append, Vm.get_app, Vm.set_app, Vm.get_appL, Vm.get_appL0, Vm.set_appL, Vm.set_appL0, Nat.le_refl, Nat.le_add_right, okAt])
  refine wp_for (fun m e H => ∃ i y k ts own, m = 16 - i ∧ i ≤ 16 ∧ e 4 = .s (.int .i64 (i : Nat)) ∧ e 1 = .ptr h.length [0] 1 ∧ MRp h.length H i y k ts own ∧ Fw [] h H)
    (fun e H => e 1 = .ptr h.length [0] 1 ∧ ∃ y k ts own, MRp h.length H 16 y k ts own ∧ Fw [] h H)
    16 _ _ ⟨0, _, 0, fun _ => (0, 0), fun _ => 100, rfl, by omega, rfl, rfl, ⟨get_app0 _ _, .inl ⟨rfl, rfl⟩, rfl, fun j hj => by omega⟩, Fw.app _ _ _⟩ ?_ ?_
  · rintro m e H ⟨i, y, k, ts, own, rfl, hi, e4, e1, hp, fw⟩
    have hp' := hp
    obtain ⟨hm, hy, hom, hts⟩ := hp'
    have hlm := lt_of_get hm
    by_cases c : i < 16
    · have c' : (i : Int) < 16 := by omega
      have hwr : IntKind.i64.wrap ((i : Int) + 1) = ((i + 1 : Nat) : Int) := wrap_small (by omega)
      have hn := fun b' h0 => TNew_eq b' h0
      have hmT := fun t => get_old hm t
      have hstT := fun t b' => set_old hlm t b'
      have gr : ∀ (p : Bool) (q : Nat), (p || decide (b ≤ h.length + q)) = true := fun p q => by simp; right; omega
      have gr0 : decide (b ≤ h.length) = true := by simpa using hb
      obtain ⟨A, hA⟩ : ∃ A : List Blk, [Blk.cells (some 72) [.st 72 [.imm true (some 29) []]], .cells none [V.ptr H.length [0] 1]] = A := ⟨_, rfl⟩
      have hAl : A.length = 2 := by rw [← hA]; rfl
      have hA0 : (H ++ A)[H.length]? = some (Blk.cells (some 72) [.st 72 [.imm true (some 29) []]]) := by rw [← hA]; exact get_app _ _ 0
      have hsr : source (H ++ A) (.ref (H.length + 1) [] none 0 1 1) = some (none, [V.ptr H.length [0] 1]) := (SR_ref (show (H ++ A)[H.length + 1]? = some (.cells none [V.ptr H.length [0] 1]) by rw [← hA]; exact get_app _ _ 1) rfl).src
      have hsame : [Blk.cells (some 72) [.st 72 [.imm true (some 29) []]]] ++ [.cells none [V.ptr H.length [0] 1]] = A := hA
      rcases hy with ⟨rfl, rfl⟩ | ⟨hi0, rfl, hk, hok, hkb⟩
      · have happ := fun cf base => o_app_nil (cf := cf) (base := base) (h := H ++ A) (g := none) (bytes := 8) (ys := [V.ptr H.length [0] 1]) hsr (by simp) (by simp)
        have hvb : (0 : Nat) = 0 := rfl
        try simp only [B15, B15R0, B15L0, e4, e1, c', hwr, hm, hmT, hstT, hn, hA, hsame, happ, gr0, go_sem, V.s.injEq, Value.bool.injEq, ↓reduceIte, Nat.reduceEqDiff, Nat.reduceBEq, Nat.reduceAdd, Nat.reduceSub, Nat.reduceLT, Nat.reduceLeDiff, Int.reduceLT, Int.reduceLE, Int.reduceEq, Int.reduceToNat, List.append_assoc, List.length_append, Vm.get_app, Vm.set_app, Vm.get_appL, Vm.get_appL0, Vm.set_appL, Vm.set_appL0, Nat.le_refl, Nat.le_add_right, okAt]
        repeat' (
          first | refine wpC_cases ?_ ?_ | refine wpU_casesT ?_ ?_ | refine wpU_casesF ?_ ?_
          all_goals intro hvc
          all_goals first | replace hvc := not_of_true hvc | replace hvc := not_of_false hvc | skip
          all_goals first | subst hvc | replace hvb := And.intro hvc hvb
          all_goals try simp only [hvb, B15, B15R0, B15L0, e4, e1, c', hwr, hm, hmT, hstT, hn, hA, hsame, happ, gr0, go_sem, V.s.injEq, Value.bool.injEq, ↓reduceIte, Nat.reduceEqDiff, Nat.reduceBEq, Nat.reduceAdd, Nat.reduceSub, Nat.reduceLT, Nat.reduceLeDiff, Int.reduceLT, Int.reduceLE, Int.reduceEq, Int.reduceToNat, List.append_assoc, List.length_append, Vm.get_app, Vm.set_app, Vm.get_appL, Vm.get_appL0, Vm.set_appL, Vm.set_appL0, Nat.le_refl, Nat.le_add_right, okAt])
        obtain ⟨ts', own', hp2⟩ := hp.step (k' := H.length + A.length) (t := H.length) (H' := H.set h.length (.cells (some 81) [.st 81 [.ref (H.length + A.length) [] none 0 1 1]]) ++ (A ++ [.cells none [V.ptr H.length [0] 1]])) hlm (Nat.le_refl _) (by omega) (.inr (by omega)) c
          (get_old (set_get hm) _) (by rw [get_appL (n := H.length) (by simp), List.getElem?_append_right (Nat.le_refl _)]; simp [tptrs])
          ⟨_, by rw [get_appL0 (n := H.length) (by simp), ← hA]; rfl, .inl ⟨rfl, rfl, rfl⟩⟩ (fun j b hj _ hb => get_old (by rw [List.getElem?_set_ne (Ne.symm hj)]; exact hb) _)
        exact ⟨15, by omega, 1, _, _, ts', own', rfl, by omega, rfl, hp2, (fw.set_new (Nat.le_refl _) _).trans (Fw.app _ _ _)⟩
      · have hkn : k ≠ h.length := fun e => by rw [e, hom] at hok; omega
        have hlk := lt_of_get hk
        have happ := fun cf => o_app_grow (cf := cf) (base := b) (h := H ++ A) (g := none) (bytes := 8) (ys := [V.ptr H.length [0] 1]) (get_old hk A) hsr (by simp) (by simp [mayPut]; left; omega) (by simp [tptrs_len]; omega)
        simp only [tptrs_len] at happ
        have hmk : ∀ c, ((H ++ A).set k c)[h.length]? = some (.cells (some 81) [.st 81 [.ref k [] none 0 i i]]) := fun c => by rw [List.getElem?_set_ne hkn]; exact hmT A
        have hvb : (0 : Nat) = 0 := rfl
        try simp only [B15, B15R0, B15L0, e4, e1, c', hwr, hm, hmT, hstT, hn, hA, hsame, happ, hmk, gr0, go_sem, V.s.injEq, Value.bool.injEq, ↓reduceIte, Nat.reduceEqDiff, Nat.reduceBEq, Nat.reduceAdd, Nat.reduceSub, Nat.reduceLT, Nat.reduceLeDiff, Int.reduceLT, Int.reduceLE, Int.reduceEq, Int.reduceToNat, List.append_assoc, List.length_append, Vm.get_app, Vm.set_app, Vm.get_appL, Vm.get_appL0, Vm.set_appL, Vm.set_appL0, Nat.le_refl, Nat.le_add_right, okAt]
        repeat' (
          first | refine wpC_cases ?_ ?_ | refine wpU_casesT ?_ ?_ | refine wpU_casesF ?_ ?_
          all_goals intro hvc
          all_goals first | replace hvc := not_of_true hvc | replace hvc := not_of_false hvc | skip
          all_goals first | subst hvc | replace hvb := And.intro hvc hvb
          all_goals try simp only [hvb, B15, B15R0, B15L0, e4, e1, c', hwr, hm, hmT, hstT, hn, hA, hsame, happ, hmk, gr0, go_sem, V.s.injEq, Value.bool.injEq, ↓reduceIte, Nat.reduceEqDiff, Nat.reduceBEq, Nat.reduceAdd, Nat.reduceSub, Nat.reduceLT, Nat.reduceLeDiff, Int.reduceLT, Int.reduceLE, Int.reduceEq, Int.reduceToNat, List.append_assoc, List.length_append, Vm.get_app, Vm.set_app, Vm.get_appL, Vm.get_appL0, Vm.set_appL, Vm.set_appL0, Nat.le_refl, Nat.le_add_right, okAt])
        obtain ⟨ts', own', hp2⟩ := hp.step (k' := k) (t := H.length) (H' := ((H ++ A).set k (.cells none (tptrs ts i ++ [V.ptr H.length [0] 1]))).set h.length (.cells (some 81) [.st 81 [.ref k [] none 0 (i + 1) (i + 1)]])) hlm (Nat.le_refl _) (by omega) (.inl ⟨rfl, hi0⟩) c
          (set_get (hmk _)) (by rw [List.getElem?_set_ne (Ne.symm hkn)]; exact set_get (get_old hk A))
          ⟨_, by rw [List.getElem?_set_ne (by omega), List.getElem?_set_ne (by omega)]; exact hA0, .inl ⟨rfl, rfl, rfl⟩⟩ (fun j b hj hk hb => by rw [List.getElem?_set_ne (Ne.symm hj), List.getElem?_set_ne (Ne.symm (hk hi0))]; exact get_old hb _)
        exact ⟨16 - (i + 1), by omega, i + 1, _, _, ts', own', rfl, by omega, rfl, hp2, ((fw.trans (Fw.app _ _ _)).set_new hkb _).set_new (Nat.le_refl _) _⟩
    · have c' : ¬ (i : Int) < 16 := by omega
      obtain rfl : i = 16 := by omega
      have hvb : (0 : Nat) = 0 := rfl
      try simp only [B15, B15R0, B15L0, e4, e1, c', go_sem, V.s.injEq, Value.bool.injEq, ↓reduceIte, Nat.reduceEqDiff, Nat.reduceBEq, Nat.reduceAdd, Nat.reduceSub, Nat.reduceLT, Nat.reduceLeDiff, Int.reduceLT, Int.reduceLE, Int.reduceEq, Int.reduceToNat, List.append_assoc, List.length_append, Vm.get_app, Vm.set_app, Vm.get_appL, Vm.get_appL0, Vm.set_appL, Vm.set_appL0, Nat.le_refl, Nat.le_add_right, okAt]
      repeat' (
        first | refine wpC_cases ?_ ?_ | refine wpU_casesT ?_ ?_ | refine wpU_casesF ?_ ?_
        all_goals intro hvc
        all_goals first | replace hvc := not_of_true hvc | replace hvc := not_of_false hvc | skip
        all_goals first | subst hvc | replace hvb := And.intro hvc hvb
        all_goals try simp only [hvb, B15, B15R0, B15L0, e4, e1, c', go_sem, V.s.injEq, Value.bool.injEq, ↓reduceIte, Nat.reduceEqDiff, Nat.reduceBEq, Nat.reduceAdd, Nat.reduceSub, Nat.reduceLT, Nat.reduceLeDiff, Int.reduceLT, Int.reduceLE, Int.reduceEq, Int.reduceToNat, List.append_assoc, List.length_append, Vm.get_app, Vm.set_app, Vm.get_appL, Vm.get_appL0, Vm.set_appL, Vm.set_appL0, Nat.le_refl, Nat.le_add_right, okAt])
      all_goals exact ⟨y, k, ts, own, hp, fw⟩
  · rintro e H ⟨e1, y, k, ts, own, hp, fw⟩
    have hvb : (0 : Nat) = 0 := rfl
    try simp only [B15, B15R0, B15L0, e1, go_sem, V.s.injEq, Value.bool.injEq, ↓reduceIte, Nat.reduceEqDiff, Nat.reduceBEq, Nat.reduceAdd, Nat.reduceSub, Nat.reduceLT, Nat.reduceLeDiff, Int.reduceLT, Int.reduceLE, Int.reduceEq, Int.reduceToNat, List.append_assoc, List.length_append, Vm.get_app, Vm.set_app, Vm.get_appL, Vm.get_appL0, Vm.set_appL, Vm.set_appL0, Nat.le_refl, Nat.le_add_right, okAt]
    repeat' (
      first | refine wpC_cases ?_ ?_ | refine wpU_casesT ?_ ?_ | refine wpU_casesF ?_ ?_
      all_goals intro hvc
      all_goals first | replace hvc := not_of_true hvc | replace hvc := not_of_false hvc | skip
      all_goals first | subst hvc | replace hvb := And.intro hvc hvb
      all_goals try simp only [hvb, B15, B15R0, B15L0, e1, go_sem, V.s.injEq, Value.bool.injEq, ↓reduceIte, Nat.reduceEqDiff, Nat.reduceBEq, Nat.reduceAdd, Nat.reduceSub, Nat.reduceLT, Nat.reduceLeDiff, Int.reduceLT, Int.reduceLE, Int.reduceEq, Int.reduceToNat, List.append_assoc, List.length_append, Vm.get_app, Vm.set_app, Vm.get_appL, Vm.get_appL0, Vm.set_appL, Vm.set_appL0, Nat.le_refl, Nat.le_add_right, okAt])
    obtain ⟨h1, h2, h3, h4⟩ := hp
    rcases h2 with ⟨h2, _⟩ | ⟨_, rfl, h6, h7, h8⟩
    · omega
    · exact ⟨(h.length :: k :: (List.range 16).flatMap fun j => [(ts j).1, (ts j).2]), ⟨k, ts, own, h1, h6, fun j hj => (h4 j hj).1, h3, h7, fun j hj => ⟨(h4 j hj).2.1, (h4 j hj).2.2.1⟩, by simp, by simp, fun j hj => ⟨by simp; right; right; exact ⟨j, hj, .inl rfl⟩, by simp; right; right; exact ⟨j, hj, .inr rfl⟩⟩, by
        intro j hj
        simp only [List.mem_cons, List.mem_flatMap, List.mem_range, List.not_mem_nil, or_false] at hj
        rcases hj with rfl | rfl | ⟨a, ha, rfl | rfl⟩
        · exact lt_of_get h1
        · exact lt_of_get h6
        · exact (h4 a ha).1.lt.1
        · exact (h4 a ha).1.lt.2⟩, fw, by
        intro j hj
        simp only [List.mem_cons, List.mem_flatMap, List.mem_range, List.not_mem_nil, or_false] at hj
        rcases hj with rfl | rfl | ⟨a, ha, rfl | rfl⟩
        · exact Nat.le_refl _
        · exact h8
        · exact (h4 a ha).2.2.2.1
        · exact (h4 a ha).2.2.2.2⟩
theorem shard_get {h : Hp} {r : Nat} {ts : Nat → Nat × Nat} (h2 : h[r]? = some (.cells none (tptrs ts 16))) (s : Nat) (hs : s < 16) : SR h (.ref r [] none 0 16 16) none (tptrs ts 16) ∧ (tptrs ts 16)[s]? = some (V.ptr (ts s).1 [0] 1) :=
  ⟨SR_ref h2 (tptrs_len _ _), tptrs_get _ _ _ hs⟩
/-- The vaults of the first shards. -/
def allP (ls : Nat → List Vault) (i : Nat) : List Vault := (List.range i).flatMap ls
theorem allP_succ (ls : Nat → List Vault) (i : Nat) : allP ls (i + 1) = allP ls i ++ ls i := by simp [allP, List.range_succ]
theorem allP_len (ls : Nat → List Vault) (i : Nat) (h : ∀ j, j < i → (ls j).length ≤ 4) : (allP ls i).length ≤ 4 * i := by
  induction i with
  | zero => simp [allP]
  | succ i ih =>
    have := ih fun j hj => h j (by omega)
    have := h i (by omega)
    rw [allP_succ, List.length_append]; omega
theorem encs_ground (l : List Vault) : ∀ z ∈ l.map Vault.enc, V.ground z = true := by
  intro z hz
  obtain ⟨v, _, rfl⟩ := List.mem_map.1 hz
  exact enc_ground v
theorem IAll_ok (b : Nat) (h : Hp) (m : Nat) (ls : Nat → List Vault) (F : List Nat) (hm : MR h m ls F) (ho : MOk ls) :
    run fns pr b 37 [.ptr m [0] 1] h = some (.imm false (some 29) ((allP ls 16).map Vault.enc), h) := by
  refine Vm.runP (nt := 21) rfl fit37 (by simp) ?_
  obtain ⟨r, ts, own, h1, h2, h3, _⟩ := hm
  have hvb : (0 : Nat) = 0 := rfl
  try simp only [B37, B37R0, B37L0, h1, go_sem, V.s.injEq, Value.bool.injEq, ↓reduceIte, Nat.reduceEqDiff, Nat.reduceBEq, Nat.reduceAdd, Nat.reduceSub, Nat.reduceLT, Nat.reduceLeDiff, Int.reduceLT, Int.reduceLE, Int.reduceEq, Int.reduceToNat, List.append_assoc, List.length_append, Vm.get_app, Vm.set_app, Vm.get_appL, Vm.get_appL0, Vm.set_appL, Vm.set_appL0, Nat.le_refl, Nat.le_add_right, okAt]
  repeat' (
    first | refine wpC_cases ?_ ?_ | refine wpU_casesT ?_ ?_ | refine wpU_casesF ?_ ?_
    all_goals intro hvc
    all_goals first | replace hvc := not_of_true hvc | replace hvc := not_of_false hvc | skip
    all_goals first | subst hvc | replace hvb := And.intro hvc hvb
    all_goals try simp only [hvb, B37, B37R0, B37L0, h1, go_sem, V.s.injEq, Value.bool.injEq, ↓reduceIte, Nat.reduceEqDiff, Nat.reduceBEq, Nat.reduceAdd, Nat.reduceSub, Nat.reduceLT, Nat.reduceLeDiff, Int.reduceLT, Int.reduceLE, Int.reduceEq, Int.reduceToNat, List.append_assoc, List.length_append, Vm.get_app, Vm.set_app, Vm.get_appL, Vm.get_appL0, Vm.set_appL, Vm.set_appL0, Nat.le_refl, Nat.le_add_right, okAt])
  refine wp_for (fun n e H => ∃ i y k, n = 16 - i ∧ i ≤ 16 ∧ e 11 = .s (.int .i64 (i : Nat)) ∧ e 10 = .s (.int .i64 (16 : Nat)) ∧ e 9 = .ref r [] none 0 16 16 ∧ e 3 = y ∧ XR H (some 29) k y ((allP ls i).map Vault.enc) ∧ h.length ≤ k ∧ Fw [] h H)
    (fun e H => ∃ y k, e 3 = y ∧ XR H (some 29) k y ((allP ls 16).map Vault.enc) ∧ h.length ≤ k ∧ Fw [] h H)
    16 _ _ ⟨0, _, h.length, rfl, by omega, rfl, rfl, rfl, rfl, XR.nil _ _ _, Nat.le_refl _, Fw.refl _ _⟩ ?_ ?_
  · rintro n e H ⟨i, y, k, rfl, hi, e11, e10, e9, e3, xr, hk, fw⟩
    by_cases c : i < 16
    · have c' : (i : Int) < ((16 : Nat) : Int) := by omega
      obtain ⟨o1, o2, o3⟩ := ho i c
      have hwr : IntKind.i64.wrap ((i : Int) + 1) = ((i + 1 : Nat) : Int) := wrap_small (by omega)
      obtain ⟨q1, q2⟩ := shard_get (fw.old _ _ h2 (by simp)) i c
      have hia := fun cf base => q1.o_ias (cf := cf) (base := base) (k := .i64) (i := i) (by rw [tptrs_len]; exact c)
      have hlo := fun cf base => q1.o_ld (cf := cf) (base := base) q2 rfl
      have hal := TAll_ok h.length H (ts i).1 (ts i).2 (ls i) ((h3 i c).mono fw (by simp) (by simp)) (by omega) (fun v hv => right_secretV (o3 v hv).1)
      have hlen := allP_len ls i fun j hj => (ho j (by omega)).2.1
      obtain ⟨y', H', k', hap, xr', hk', hl', _, hg, hold⟩ := xr.appL (n := h.length) (bytes := 96) (y := .imm false (some 29) ((ls i).map Vault.enc)) (ys := (ls i).map Vault.enc) hk fw.len rfl (encs_ground _) (by simp; omega)
      have xr' : XR H' (some 29) k' y' ((allP ls (i + 1)).map Vault.enc) := by rw [allP_succ, List.map_append]; exact xr'
      have fw' : Fw [] h H' := fw.trans' (n := 0) hg hold hk
      have hvb : (0 : Nat) = 0 := rfl
      try simp only [e11, e10, e9, e3, c', hia, hlo, hal, hap, hwr, go_sem, V.s.injEq, Value.bool.injEq, ↓reduceIte, Nat.reduceEqDiff, Nat.reduceBEq, Nat.reduceAdd, Nat.reduceSub, Nat.reduceLT, Nat.reduceLeDiff, Int.reduceLT, Int.reduceLE, Int.reduceEq, Int.reduceToNat, List.append_assoc, List.length_append, Vm.get_app, Vm.set_app, Vm.get_appL, Vm.get_appL0, Vm.set_appL, Vm.set_appL0, Nat.le_refl, Nat.le_add_right, okAt]
      repeat' (
        first | refine wpC_cases ?_ ?_ | refine wpU_casesT ?_ ?_ | refine wpU_casesF ?_ ?_
        all_goals intro hvc
        all_goals first | replace hvc := not_of_true hvc | replace hvc := not_of_false hvc | skip
        all_goals first | subst hvc | replace hvb := And.intro hvc hvb
        all_goals try simp only [hvb, e11, e10, e9, e3, c', hia, hlo, hal, hap, hwr, go_sem, V.s.injEq, Value.bool.injEq, ↓reduceIte, Nat.reduceEqDiff, Nat.reduceBEq, Nat.reduceAdd, Nat.reduceSub, Nat.reduceLT, Nat.reduceLeDiff, Int.reduceLT, Int.reduceLE, Int.reduceEq, Int.reduceToNat, List.append_assoc, List.length_append, Vm.get_app, Vm.set_app, Vm.get_appL, Vm.get_appL0, Vm.set_appL, Vm.set_appL0, Nat.le_refl, Nat.le_add_right, okAt])
      all_goals exact ⟨16 - (i + 1), by omega, i + 1, y', k', rfl, by omega, rfl, rfl, xr', hk', fw'⟩
    · have c' : ¬ (i : Int) < ((16 : Nat) : Int) := by omega
      obtain rfl : i = 16 := by omega
      have hvb : (0 : Nat) = 0 := rfl
      try simp only [e11, e10, e9, e3, c', go_sem, V.s.injEq, Value.bool.injEq, ↓reduceIte, Nat.reduceEqDiff, Nat.reduceBEq, Nat.reduceAdd, Nat.reduceSub, Nat.reduceLT, Nat.reduceLeDiff, Int.reduceLT, Int.reduceLE, Int.reduceEq, Int.reduceToNat, List.append_assoc, List.length_append, Vm.get_app, Vm.set_app, Vm.get_appL, Vm.get_appL0, Vm.set_appL, Vm.set_appL0, Nat.le_refl, Nat.le_add_right, okAt]
      repeat' (
        first | refine wpC_cases ?_ ?_ | refine wpU_casesT ?_ ?_ | refine wpU_casesF ?_ ?_
        all_goals intro hvc
        all_goals first | replace hvc := not_of_true hvc | replace hvc := not_of_false hvc | skip
        all_goals first | subst hvc | replace hvb := And.intro hvc hvb
        all_goals try simp only [hvb, e11, e10, e9, e3, c', go_sem, V.s.injEq, Value.bool.injEq, ↓reduceIte, Nat.reduceEqDiff, Nat.reduceBEq, Nat.reduceAdd, Nat.reduceSub, Nat.reduceLT, Nat.reduceLeDiff, Int.reduceLT, Int.reduceLE, Int.reduceEq, Int.reduceToNat, List.append_assoc, List.length_append, Vm.get_app, Vm.set_app, Vm.get_appL, Vm.get_appL0, Vm.set_appL, Vm.set_appL0, Nat.le_refl, Nat.le_add_right, okAt])
      all_goals exact ⟨y, k, rfl, xr, hk, fw⟩
  · rintro e H ⟨y, k, e3, xr, hk, fw⟩
    have hf := xr.frz (n := h.length) hk (encs_plain _)
    have ht := fw.take
    have hvb : (0 : Nat) = 0 := rfl
    try simp only [e3, hf, ht, go_sem, V.s.injEq, Value.bool.injEq, ↓reduceIte, Nat.reduceEqDiff, Nat.reduceBEq, Nat.reduceAdd, Nat.reduceSub, Nat.reduceLT, Nat.reduceLeDiff, Int.reduceLT, Int.reduceLE, Int.reduceEq, Int.reduceToNat, List.append_assoc, List.length_append, Vm.get_app, Vm.set_app, Vm.get_appL, Vm.get_appL0, Vm.set_appL, Vm.set_appL0, Nat.le_refl, Nat.le_add_right, okAt]
    repeat' (
      first | refine wpC_cases ?_ ?_ | refine wpU_casesT ?_ ?_ | refine wpU_casesF ?_ ?_
      all_goals intro hvc
      all_goals first | replace hvc := not_of_true hvc | replace hvc := not_of_false hvc | skip
      all_goals first | subst hvc | replace hvb := And.intro hvc hvb
      all_goals try simp only [hvb, e3, hf, ht, go_sem, V.s.injEq, Value.bool.injEq, ↓reduceIte, Nat.reduceEqDiff, Nat.reduceBEq, Nat.reduceAdd, Nat.reduceSub, Nat.reduceLT, Nat.reduceLeDiff, Int.reduceLT, Int.reduceLE, Int.reduceEq, Int.reduceToNat, List.append_assoc, List.length_append, Vm.get_app, Vm.set_app, Vm.get_appL, Vm.get_appL0, Vm.set_appL, Vm.set_appL0, Nat.le_refl, Nat.le_add_right, okAt])
/-- Another row of vaults in a shard. -/
def updL (ls : Nat → List Vault) (s : Nat) (l : List Vault) : Nat → List Vault := fun j => if j = s then l else ls j
theorem updL_same (ls : Nat → List Vault) (s : Nat) (l : List Vault) : updL ls s l s = l := by simp [updL]
theorem updL_ne (ls : Nat → List Vault) (s j : Nat) (l : List Vault) (h : j ≠ s) : updL ls s l j = ls j := by simp [updL, h]
/-- A table of a map is another one. -/
theorem MR.table {F : List Nat} {h h' : Hp} {m r s k' : Nat} {ls : Nat → List Vault} {ts : Nat → Nat × Nat} {own : Nat → Nat} {l : List Vault} (h1 : h[m]? = some (.cells (some 81) [.st 81 [.ref r [] none 0 16 16]])) (h2 : h[r]? = some (.cells none (tptrs ts 16)))
    (h3 : ∀ i, i < 16 → TR h (ts i).1 (ts i).2 (ls i)) (h4 : own m = 100) (h5 : own r = 101) (h6 : ∀ i, i < 16 → own (ts i).1 = i ∧ own (ts i).2 = i) (h7 : m ∈ F) (h8 : r ∈ F) (h9 : ∀ i, i < 16 → (ts i).1 ∈ F ∧ (ts i).2 ∈ F) (h10 : ∀ j ∈ F, j < h.length) (hs : s < 16)
    (hT : TR h' (ts s).1 k' l) (fw : Fw [(ts s).1, (ts s).2] h h') (hk : k' = (ts s).2 ∨ k' = (ts s).1 ∨ h.length ≤ k') : MR h' m (updL ls s l) (k' :: F) := by
  obtain ⟨a1, a2⟩ := h6 s hs
  have hne : ∀ j, own j ≠ s → j ∉ [(ts s).1, (ts s).2] := fun j hj hm => by
    simp at hm
    rcases hm with rfl | rfl
    · exact hj a1
    · exact hj a2
  have hnk : ∀ j, own j ≠ s → j < h.length → j ≠ k' := fun j hj hl e => by
    rcases hk with hk | hk | hk
    · rw [e, hk] at hj; exact hj a2
    · rw [e, hk] at hj; exact hj a1
    · omega
  refine ⟨r, fun j => if j = s then ((ts s).1, k') else ts j, fun j => if j = k' then s else own j, fw.old _ _ h1 (hne _ (by omega)), ?_, ?_, ?_, ?_, ?_, by simp [h7], by simp [h8], ?_, ?_⟩
  · rw [fw.old _ _ h2 (hne _ (by omega))]
    congr 2
    unfold tptrs
    apply List.map_congr_left
    intro i _
    by_cases hi : i = s
    · subst hi; simp
    · simp [hi]
  · intro i hi
    by_cases his : i = s
    · subst his; simpa [updL] using hT
    · obtain ⟨b1, b2⟩ := h6 i hi
      simp only [his, if_false, updL]
      exact (h3 i hi).mono fw (hne _ (by omega)) (hne _ (by omega))
  · simp only [hnk m (by omega) (lt_of_get h1), if_false]; exact h4
  · simp only [hnk r (by omega) (lt_of_get h2), if_false]; exact h5
  · intro i hi
    by_cases his : i = s
    · subst his; simp [a1]
    · obtain ⟨b1, b2⟩ := h6 i hi
      obtain ⟨l1, l2⟩ := (h3 i hi).lt
      simp only [his, if_false, hnk _ (by omega) l1, hnk _ (by omega) l2]
      exact ⟨b1, b2⟩
  · intro i hi
    by_cases his : i = s
    · subst his; simp [h9 i hi]
    · simp [his, h9 i hi]
  · intro j hj
    rcases List.mem_cons.1 hj with rfl | hj
    · exact hT.lt.2
    · exact fw.lt (h10 j hj)
/-- A request done on a map. -/
def idealDo (ls : Nat → List Vault) (q : Request) : Reply × (Nat → List Vault) :=
  if rightQ q = false then ({ zeroR with why := 12 }, ls) else
  if (doG ((getT (ls (shardOf q.iD)) q.iD).getD zeroV) q).2.2 = false then ((doG ((getT (ls (shardOf q.iD)) q.iD).getD zeroV) q).2.1, ls)
  else if getT (ls (shardOf q.iD)) q.iD = none ∧ 4 ≤ (ls (shardOf q.iD)).length then (⟨13, q.iD, 0, 0, [], q.client, q.num⟩, ls)
  else ((doG ((getT (ls (shardOf q.iD)) q.iD).getD zeroV) q).2.1, updL ls (shardOf q.iD) (putT (ls (shardOf q.iD)) (doG ((getT (ls (shardOf q.iD)) q.iD).getD zeroV) q).1).2)
theorem getT_id {l : List Vault} {id : Bs} {v : Vault} (h : getT l id = some v) : v.iD = id ∧ v ∈ l := by
  unfold getT at h
  split at h
  · rename_i hc
    rw [h] at hc
    exact ⟨by simpa using hc, List.mem_of_getElem? h⟩
  · cases h
theorem getT_zero {ls : Nat → List Vault} {s : Nat} {id : Bs} (ho : MOk ls) (hs : s < 16) : (getT (ls s) id).getD zeroV = zeroV ∨ rightV ((getT (ls s) id).getD zeroV) = true ∧ ((getT (ls s) id).getD zeroV).iD = id := by
  cases hg : getT (ls s) id with
  | none => exact .inl rfl
  | some v => exact .inr ⟨((ho s hs).2.2 v (getT_id hg).2).1, (getT_id hg).1⟩
theorem right_gen {v : Vault} (h : v = zeroV ∨ rightV v = true) : 0 ≤ v.gen := by
  rcases h with rfl | h
  · decide
  · have := right_goneV h; omega
theorem doG_right {v : Vault} {q : Request} (hq : rightQ q = true) (hz : v = zeroV ∨ rightV v = true ∧ v.iD = q.iD) (hc : (doG v q).2.2 = true) : rightV (doG v q).1 = true ∧ (doG v q).1.iD = q.iD := by
  have hgen := right_gen (hz.imp id And.left)
  have esc : ∀ r, (escV v q r).2.2 = true → (q.op = 1 ∨ q.op = 3) → rightV (escV v q r).1 = true ∧ (escV v q r).1.iD = q.iD := by
    intro r h hop
    unfold escV at h ⊢
    split at h
    · cases h
    · rename_i hlt
      rw [if_neg hlt]
      refine ⟨?_, rfl⟩
      simp only [rightQ, hop, if_true, Bool.and_eq_true, decide_eq_true_eq] at hq
      simp [rightV]
      omega
  have hnz : missV v q = 0 → rightV v = true ∧ v.iD = q.iD ∧ v.gone = false := by
    intro hm
    rcases hz with rfl | hz
    · simp [missV, zeroV] at hm
    · refine ⟨hz.1, hz.2, ?_⟩
      have := right_goneV hz.1
      cases hg : v.gone with
      | false => rfl
      | true => simp [missV, hg] at hm; omega
  unfold doG at hc ⊢
  split at hc
  · rename_i h1
    rw [if_pos h1]
    split at hc
    · cases hc
    · rename_i h2
      rw [if_neg h2]
      exact esc _ hc (.inl h1)
  · rename_i h1
    rw [if_neg h1]
    split at hc
    · cases hc
    · rename_i h2
      obtain ⟨a1, a2, a3⟩ := hnz (Decidable.not_not.1 h2)
      have a4 := right_goneV a1
      have a5 : v.gen ≤ 1099511627776 := by simp [rightV] at a1; exact a1.1.2
      have hgo : ∀ w, rightV (goneV v w) = true ∧ (goneV v w).iD = q.iD := fun w => ⟨by simp [rightV, goneV, a4, a5], a2⟩
      rw [if_neg h2]
      split at hc
      · rename_i h3
        rw [if_pos h3]
        unfold recV at hc ⊢
        split at hc
        · cases hc
        · rename_i h4
          rw [if_neg h4]
          split at hc
          · rename_i h5
            rw [if_pos h5]; exact hgo true
          · rename_i h5
            rw [if_neg h5]
            refine ⟨?_, a2⟩
            have := right_used a1 a3
            simp [rightV, a3] at a1
            simp [rightV, usedV, a3, a1]
            omega
      · rename_i h3
        rw [if_neg h3]
        split at hc
        · rename_i h4
          rw [if_pos h4]; exact esc _ hc (.inr h4)
        · rename_i h4
          rw [if_neg h4]; exact hgo false
theorem IDo_ok (b : Nat) (h : Hp) (m : Nat) (ls : Nat → List Vault) (F : List Nat) (q : Request) (f : Bool) (hb : ∀ j ∈ F, b ≤ j) (hm : MR h m ls F) (ho : MOk ls) (hl : q.iD.length ≤ 1000000) :
    ∃ v h', run fns pr b 17 [.ptr m [0] 1, q.encF f] h = some (v, h') ∧ ∃ F', v = (idealDo ls q).1.enc ∧ MR h' m (idealDo ls q).2 F' ∧ Fw F h h' ∧ (∀ j ∈ F', j ∈ F ∨ h.length ≤ j) := by
  have hs := shardOf_lt q.iD
  obtain ⟨o1, o2, o3⟩ := ho _ hs
  have hz := getT_zero (id := q.iD) ho hs
  have hsh := fun b h0 => ShardOf_ok b h0 q.iD hl
  have hrq := fun h0 f => RightRequestF_ok b h0 f q
  obtain ⟨r, ts, own, h1, h2, h3, h4, h5, h6, h7, h8, h9, h10⟩ := hm
  have hm : MR h m ls F := ⟨r, ts, own, h1, h2, h3, h4, h5, h6, h7, h8, h9, h10⟩
  have hgt := fun b t => TGet_ok b (h ++ t) (ts (shardOf q.iD)).1 (ts (shardOf q.iD)).2 (ls (shardOf q.iD)) q.iD ((h3 _ hs).mono (Fw.app [] h t) (by simp) (by simp)) o1 (by omega) (fun v hv => right_secretV (o3 v hv).1)
  obtain ⟨q1, q2⟩ := shard_get h2 _ hs
  have hia := fun cf base t => (q1.app t).o_ias (cf := cf) (base := base) (k := .i64) (i := shardOf q.iD) (by rw [tptrs_len]; exact hs)
  have hlo := fun cf base t => (q1.app t).o_ld (cf := cf) (base := base) q2 rfl
  have hg1 := fun t => get_old h1 t
  have hlen := fun b t => TLen_ok b (h ++ t) (ts (shardOf q.iD)).1 (ts (shardOf q.iD)).2 (ls (shardOf q.iD)) ((h3 _ hs).mono (Fw.app [] h t) (by simp) (by simp))
  have hbl : b ≤ h.length := Nat.le_trans (hb m h7) (Nat.le_of_lt (lt_of_get h1))
  have gr : ∀ k, decide (b ≤ h.length + k) = true := fun k => decide_eq_true (Nat.le_trans hbl (Nat.le_add_right _ _))
  unfold idealDo
  cases hq : rightQ q with
  | false =>
    rw [if_pos rfl]
    suffices hh : ∃ w h', run fns pr b 17 [.ptr m [0] 1, q.encF f] h = some (w, h') ∧ w = ({ zeroR with why := 12 } : Reply).enc ∧ ∃ t, h' = h ++ t by
      obtain ⟨w, h', e, rfl, t, rfl⟩ := hh
      exact ⟨_, _, e, F, rfl, hm.app t, Fw.app _ _ _, fun j hj => .inl hj⟩
    refine Vm.runQ (nt := 59) rfl fit17 (by simp) ?_
    simp only [Request.encF] at hrq ⊢
    have hvb : (0 : Nat) = 0 := rfl
    try simp only [B17, hrq, hq, zero4_a, gr, go_sem, V.s.injEq, Value.bool.injEq, ↓reduceIte, Nat.reduceEqDiff, Nat.reduceBEq, Nat.reduceAdd, Nat.reduceSub, Nat.reduceLT, Nat.reduceLeDiff, Int.reduceLT, Int.reduceLE, Int.reduceEq, Int.reduceToNat, List.append_assoc, List.length_append, Vm.get_app, Vm.set_app, Vm.get_appL, Vm.get_appL0, Vm.set_appL, Vm.set_appL0, Nat.le_refl, Nat.le_add_right, okAt]
    repeat' (
      first | refine wpC_cases ?_ ?_ | refine wpU_casesT ?_ ?_ | refine wpU_casesF ?_ ?_
      all_goals intro hvc
      all_goals first | replace hvc := not_of_true hvc | replace hvc := not_of_false hvc | skip
      all_goals first | subst hvc | replace hvb := And.intro hvc hvb
      all_goals try simp only [hvb, B17, hrq, hq, zero4_a, gr, go_sem, V.s.injEq, Value.bool.injEq, ↓reduceIte, Nat.reduceEqDiff, Nat.reduceBEq, Nat.reduceAdd, Nat.reduceSub, Nat.reduceLT, Nat.reduceLeDiff, Int.reduceLT, Int.reduceLE, Int.reduceEq, Int.reduceToNat, List.append_assoc, List.length_append, Vm.get_app, Vm.set_app, Vm.get_appL, Vm.get_appL0, Vm.set_appL, Vm.set_appL0, Nat.le_refl, Nat.le_add_right, okAt])
    exact ⟨rfl, _, rfl⟩
  | true =>
    rw [if_neg (by simp)]
    generalize hS : shardOf q.iD = S at *
    generalize hO : getT (ls S) q.iD = o at *
    have hgen := right_gen (hz.imp id And.left)
    have hdo := fun b h0 f g => Do_good b h0 f g (o.getD zeroV) q hgen hq hz
    have hdr := doG_right hq hz
    simp only [Vault.enc_F, outV] at hgt hdo
    generalize hD : doG (o.getD zeroV) q = d at *
    obtain ⟨d1, d2, d3⟩ := d
    simp only at hdr ⊢
    have hpre : ∀ P : V → Hp → Prop, (∃ v h', run fns pr b 17 [.ptr m [0] 1, q.encF f] h = some (v, h') ∧ P v h') → ∃ v h', run fns pr b 17 [.ptr m [0] 1, q.encF f] h = some (v, h') ∧ P v h' := fun _ h => h
    cases d3 with
    | false =>
      rw [if_pos rfl]
      suffices hh : ∃ w h', run fns pr b 17 [.ptr m [0] 1, q.encF f] h = some (w, h') ∧ w = d2.enc ∧ ∃ t, h' = h ++ t by
        obtain ⟨w, h', e, rfl, t, rfl⟩ := hh
        exact ⟨_, _, e, F, rfl, hm.app t, Fw.app _ _ _, fun j hj => .inl hj⟩
      refine Vm.runQ (nt := 59) rfl fit17 (by simp) ?_
      simp only [Request.encF] at hrq hdo ⊢
      have hvb : (0 : Nat) = 0 := rfl
      try simp only [B17, hrq, hq, zero4_a, gr, hg1, hsh, hS, hia, hlo, hgt, hdo, encF_tyV, encF_soV, enc_tyR, enc_soR, go_sem, V.s.injEq, Value.bool.injEq, ↓reduceIte, Nat.reduceEqDiff, Nat.reduceBEq, Nat.reduceAdd, Nat.reduceSub, Nat.reduceLT, Nat.reduceLeDiff, Int.reduceLT, Int.reduceLE, Int.reduceEq, Int.reduceToNat, List.append_assoc, List.length_append, Vm.get_app, Vm.set_app, Vm.get_appL, Vm.get_appL0, Vm.set_appL, Vm.set_appL0, Nat.le_refl, Nat.le_add_right, okAt]
      repeat' (
        first | refine wpC_cases ?_ ?_ | refine wpU_casesT ?_ ?_ | refine wpU_casesF ?_ ?_
        all_goals intro hvc
        all_goals first | replace hvc := not_of_true hvc | replace hvc := not_of_false hvc | skip
        all_goals first | subst hvc | replace hvb := And.intro hvc hvb
        all_goals try simp only [hvb, B17, hrq, hq, zero4_a, gr, hg1, hsh, hS, hia, hlo, hgt, hdo, encF_tyV, encF_soV, enc_tyR, enc_soR, go_sem, V.s.injEq, Value.bool.injEq, ↓reduceIte, Nat.reduceEqDiff, Nat.reduceBEq, Nat.reduceAdd, Nat.reduceSub, Nat.reduceLT, Nat.reduceLeDiff, Int.reduceLT, Int.reduceLE, Int.reduceEq, Int.reduceToNat, List.append_assoc, List.length_append, Vm.get_app, Vm.set_app, Vm.get_appL, Vm.get_appL0, Vm.set_appL, Vm.set_appL0, Nat.le_refl, Nat.le_add_right, okAt])
      exact ⟨_, rfl⟩
    | true =>
      rw [if_neg (by simp)]
      have hdr := hdr rfl
      by_cases cf : o = none ∧ 4 ≤ (ls S).length
      · rw [if_pos cf]
        obtain ⟨rfl, c4⟩ := cf
        simp only [Option.getD_none, Option.isSome_none] at hdo hgt
        suffices hh : ∃ w h', run fns pr b 17 [.ptr m [0] 1, q.encF f] h = some (w, h') ∧ w = (⟨13, q.iD, 0, 0, [], q.client, q.num⟩ : Reply).enc ∧ ∃ t, h' = h ++ t by
          obtain ⟨w, h', e, rfl, t, rfl⟩ := hh
          exact ⟨_, _, e, F, rfl, hm.app t, Fw.app _ _ _, fun j hj => .inl hj⟩
        have c4' : (4 : Int) ≤ (ls S).length := by omega
        refine Vm.runQ (nt := 59) rfl fit17 (by simp) ?_
        simp only [Request.encF] at hrq hdo ⊢
        have hvb : (0 : Nat) = 0 := rfl
        try simp only [B17, hrq, hq, zero4_a, gr, hg1, hsh, hS, hia, hlo, hgt, hdo, hlen, c4', encF_tyV, encF_soV, enc_tyR, enc_soR, go_sem, V.s.injEq, Value.bool.injEq, ↓reduceIte, Nat.reduceEqDiff, Nat.reduceBEq, Nat.reduceAdd, Nat.reduceSub, Nat.reduceLT, Nat.reduceLeDiff, Int.reduceLT, Int.reduceLE, Int.reduceEq, Int.reduceToNat, List.append_assoc, List.length_append, Vm.get_app, Vm.set_app, Vm.get_appL, Vm.get_appL0, Vm.set_appL, Vm.set_appL0, Nat.le_refl, Nat.le_add_right, okAt]
        repeat' (
          first | refine wpC_cases ?_ ?_ | refine wpU_casesT ?_ ?_ | refine wpU_casesF ?_ ?_
          all_goals intro hvc
          all_goals first | replace hvc := not_of_true hvc | replace hvc := not_of_false hvc | skip
          all_goals first | subst hvc | replace hvb := And.intro hvc hvb
          all_goals try simp only [hvb, B17, hrq, hq, zero4_a, gr, hg1, hsh, hS, hia, hlo, hgt, hdo, hlen, c4', encF_tyV, encF_soV, enc_tyR, enc_soR, go_sem, V.s.injEq, Value.bool.injEq, ↓reduceIte, Nat.reduceEqDiff, Nat.reduceBEq, Nat.reduceAdd, Nat.reduceSub, Nat.reduceLT, Nat.reduceLeDiff, Int.reduceLT, Int.reduceLE, Int.reduceEq, Int.reduceToNat, List.append_assoc, List.length_append, Vm.get_app, Vm.set_app, Vm.get_appL, Vm.get_appL0, Vm.set_appL, Vm.set_appL0, Nat.le_refl, Nat.le_add_right, okAt])
        exact ⟨rfl, _, rfl⟩
      · rw [if_neg cf]
        have hput := fun t => TPut_ok b (h ++ t) (ts S).1 (ts S).2 (ls S) d1 (hb _ (h9 S hs).1) ((h3 _ hs).mono (Fw.app [] h t) (by simp) (by simp)) o1 o2
        obtain ⟨hp, hput⟩ := Classical.axiomOfChoice hput
        obtain ⟨kp, hput⟩ := Classical.axiomOfChoice hput
        have hpe := fun t => (hput t).1
        have htl := (h3 _ hs).lt
        have hl := fun (t : Hp) (k : Nat) (hk : k < t.length) => (show (hp t)[h.length + k]? = t[k]? by
          have h1 : (h ++ t)[h.length + k]? = some t[k] := by rw [get_app]; exact List.getElem?_eq_getElem hk
          rw [(hput t).2.2.1.old _ _ h1 (by simp; omega), List.getElem?_eq_getElem hk])
        have hls := fun (t : Hp) (k : Nat) (c : Blk) (hk : k < t.length) => (show ((hp t).set (h.length + k) c)[h.length + k]? = some c by
          have := hl t k hk
          rw [List.getElem?_eq_getElem hk] at this
          exact set_get this)
        have c4' : o.isSome = false → decide ((4 : Int) ≤ (ls S).length) = false := fun hi => by
          have : o = none := by simpa using hi
          simp [this] at cf; simp; omega
        suffices hh : ∃ w h', run fns pr b 17 [.ptr m [0] 1, q.encF f] h = some (w, h') ∧ w = d2.enc ∧ ∃ t x, 2 ≤ t.length ∧ h' = (hp t).set (h.length + 1) (.cells (some 38) [x]) ∧ ∃ y, (hp t)[h.length + 1]? = some (.cells (some 38) [y]) by
          obtain ⟨w, h', e, rfl, t, x, ht2, rfl, y, hy⟩ := hh
          obtain ⟨_, p2, p3, p4⟩ := hput t
          simp only [List.length_append] at p4
          have f2 : Fw [h.length + 1] (hp t) ((hp t).set (h.length + 1) (.cells (some 38) [x])) := Fw.set (by simp) hy
          have f1 : Fw [(ts S).1, (ts S).2] h ((hp t).set (h.length + 1) (.cells (some 38) [x])) := (((Fw.app _ h t).trans p3)).step f2 (by omega)
          refine ⟨_, _, e, _, rfl, MR.table h1 h2 h3 h4 h5 h6 h7 h8 h9 h10 hs (p2.mono f2 (by simp; omega) (by simp; omega)) f1 (p4.imp id fun _ => .inr (by omega)), f1.mono (by simp [h9 S hs]), ?_⟩
          intro j hj
          rcases List.mem_cons.1 hj with rfl | hj
          · rcases p4 with p4 | p4
            · exact .inl (p4 ▸ (h9 S hs).2)
            · exact .inr (by omega)
          · exact .inl hj
        refine Vm.runQ (nt := 59) rfl fit17 (by simp) ?_
        simp only [Request.encF] at hrq hdo ⊢
        simp only [Vault.enc_F] at hpe
        have hvb : (0 : Nat) = 0 := rfl
        try simp only [B17, hrq, hq, zero4_a, gr, hg1, hsh, hS, hia, hlo, hgt, hdo, hlen, c4', hpe, hl, hls, encF_tyV, encF_soV, enc_tyR, enc_soR, go_sem, V.s.injEq, Value.bool.injEq, ↓reduceIte, Nat.reduceEqDiff, Nat.reduceBEq, Nat.reduceAdd, Nat.reduceSub, Nat.reduceLT, Nat.reduceLeDiff, Int.reduceLT, Int.reduceLE, Int.reduceEq, Int.reduceToNat, List.append_assoc, List.length_append, Vm.get_app, Vm.set_app, Vm.get_appL, Vm.get_appL0, Vm.set_appL, Vm.set_appL0, Nat.le_refl, Nat.le_add_right, okAt]
        repeat' (
          first | refine wpC_cases ?_ ?_ | refine wpU_casesT ?_ ?_ | refine wpU_casesF ?_ ?_
          all_goals intro hvc
          all_goals first | replace hvc := not_of_true hvc | replace hvc := not_of_false hvc | skip
          all_goals first | subst hvc | replace hvb := And.intro hvc hvb
          all_goals try simp only [hvb, B17, hrq, hq, zero4_a, gr, hg1, hsh, hS, hia, hlo, hgt, hdo, hlen, c4', hpe, hl, hls, encF_tyV, encF_soV, enc_tyR, enc_soR, go_sem, V.s.injEq, Value.bool.injEq, ↓reduceIte, Nat.reduceEqDiff, Nat.reduceBEq, Nat.reduceAdd, Nat.reduceSub, Nat.reduceLT, Nat.reduceLeDiff, Int.reduceLT, Int.reduceLE, Int.reduceEq, Int.reduceToNat, List.append_assoc, List.length_append, Vm.get_app, Vm.set_app, Vm.get_appL, Vm.get_appL0, Vm.set_appL, Vm.set_appL0, Nat.le_refl, Nat.le_add_right, okAt])
        all_goals exact ⟨_, _, by simp, rfl, _, hl _ 1 (by simp)⟩
theorem MR.congr {h : Hp} {m : Nat} {ls ls' : Nat → List Vault} {F : List Nat} (hm : MR h m ls F) (hc : ∀ i, i < 16 → ls i = ls' i) : MR h m ls' F := by
  obtain ⟨r, ts, own, h1, h2, h3, h4⟩ := hm
  exact ⟨r, ts, own, h1, h2, fun i hi => by rw [← hc i hi]; exact h3 i hi, h4⟩
theorem MOk.rising {ls : Nat → List Vault} (ho : MOk ls) (i : Nat) (hi : i < 16) : rising (ls i) = true := by
  obtain ⟨o1, o2, o3⟩ := ho i hi
  simp only [Ytfhmclgnfabdfaa.rising, Bool.and_eq_true, decide_eq_true_eq, List.all_eq_true]
  exact ⟨⟨o2, fun v hv => (o3 v hv).1⟩, o1⟩
end Go.Proofs.Ytfhmclgnfabdfaa
