/- Tables of vaults: what their functions come to. Conditions: none. -/
import Derived.Test.YtfhmclgnfabdfaaCSO
namespace Go.Proofs.Ytfhmclgnfabdfaa
open Go Go.Vm Go.Proofs Go.Cl
set_option linter.unusedSimpArgs false
set_option linter.unusedVariables false
set_option maxRecDepth 100000
theorem encs_plain (l : List Vault) : V.plain.all (l.map Vault.enc) = true := by
  induction l with
  | nil => rfl
  | cons v l ih => simp only [List.map_cons, plain_cons, ih, Vault.enc, go_sem]
/-- A table in memory: the object t, its row k. -/
def TR (h : Hp) (t k : Nat) (l : List Vault) : Prop :=
  ∃ x, h[t]? = some (.cells (some 72) [.st 72 [x]]) ∧
    ((x = .imm true (some 29) [] ∧ l = [] ∧ k = t) ∨ (x = .ref k [] (some 29) 0 l.length l.length ∧ k ≠ t ∧ h[k]? = some (.cells (some 29) (l.map Vault.enc))))
theorem TR.mono {S : List Nat} {h h' : Hp} {t k : Nat} {l : List Vault} (ho : TR h t k l) (f : Fw S h h') (hi : t ∉ S) (hk : k ∉ S) : TR h' t k l := by
  obtain ⟨x, h1, h2⟩ := ho
  refine ⟨x, f.old _ _ h1 hi, ?_⟩
  rcases h2 with h2 | ⟨a, b, c⟩
  · exact .inl h2
  · exact .inr ⟨a, b, f.old _ _ c hk⟩
theorem TR.lt {h : Hp} {t k : Nat} {l : List Vault} (ho : TR h t k l) : t < h.length ∧ k < h.length := by
  obtain ⟨x, h1, h2⟩ := ho
  refine ⟨lt_of_get h1, ?_⟩
  rcases h2 with ⟨_, _, rfl⟩ | ⟨_, _, h3⟩
  · exact lt_of_get h1
  · exact lt_of_get h3
theorem TLen_ok (b : Nat) (h : Hp) (t k : Nat) (l : List Vault) (ho : TR h t k l) : run fns pr b 34 [.ptr t [0] 1] h = some (.s (.int .i64 l.length), h) := by
  refine Vm.runP (nt := 8) rfl fit34 (by simp) ?_
  obtain ⟨x, h1, ⟨rfl, rfl, rfl⟩ | ⟨rfl, h2, h3⟩⟩ := ho
  · have hvb : (0 : Nat) = 0 := rfl
    try simp only [B34, h1, go_sem, V.s.injEq, Value.bool.injEq, ↓reduceIte, Nat.reduceEqDiff, Nat.reduceBEq, Nat.reduceAdd, Nat.reduceSub, Nat.reduceLT, Nat.reduceLeDiff, Int.reduceLT, Int.reduceLE, Int.reduceEq, Int.reduceToNat, List.append_assoc, List.length_append, Vm.get_app, Vm.set_app, Vm.get_appL, Vm.get_appL0, Vm.set_appL, Vm.set_appL0, Nat.le_refl, Nat.le_add_right, okAt]
    repeat' (
      first | refine wpC_cases ?_ ?_ | refine wpU_casesT ?_ ?_ | refine wpU_casesF ?_ ?_
      all_goals intro hvc
      all_goals first | replace hvc := not_of_true hvc | replace hvc := not_of_false hvc | skip
      all_goals first | subst hvc | replace hvb := And.intro hvc hvb
      all_goals try simp only [hvb, B34, h1, go_sem, V.s.injEq, Value.bool.injEq, ↓reduceIte, Nat.reduceEqDiff, Nat.reduceBEq, Nat.reduceAdd, Nat.reduceSub, Nat.reduceLT, Nat.reduceLeDiff, Int.reduceLT, Int.reduceLE, Int.reduceEq, Int.reduceToNat, List.append_assoc, List.length_append, Vm.get_app, Vm.set_app, Vm.get_appL, Vm.get_appL0, Vm.set_appL, Vm.set_appL0, Nat.le_refl, Nat.le_add_right, okAt])
    all_goals rfl
  · have hvb : (0 : Nat) = 0 := rfl
    try simp only [B34, h1, go_sem, V.s.injEq, Value.bool.injEq, ↓reduceIte, Nat.reduceEqDiff, Nat.reduceBEq, Nat.reduceAdd, Nat.reduceSub, Nat.reduceLT, Nat.reduceLeDiff, Int.reduceLT, Int.reduceLE, Int.reduceEq, Int.reduceToNat, List.append_assoc, List.length_append, Vm.get_app, Vm.set_app, Vm.get_appL, Vm.get_appL0, Vm.set_appL, Vm.set_appL0, Nat.le_refl, Nat.le_add_right, okAt]
    repeat' (
      first | refine wpC_cases ?_ ?_ | refine wpU_casesT ?_ ?_ | refine wpU_casesF ?_ ?_
      all_goals intro hvc
      all_goals first | replace hvc := not_of_true hvc | replace hvc := not_of_false hvc | skip
      all_goals first | subst hvc | replace hvb := And.intro hvc hvb
      all_goals try simp only [hvb, B34, h1, go_sem, V.s.injEq, Value.bool.injEq, ↓reduceIte, Nat.reduceEqDiff, Nat.reduceBEq, Nat.reduceAdd, Nat.reduceSub, Nat.reduceLT, Nat.reduceLeDiff, Int.reduceLT, Int.reduceLE, Int.reduceEq, Int.reduceToNat, List.append_assoc, List.length_append, Vm.get_app, Vm.set_app, Vm.get_appL, Vm.get_appL0, Vm.set_appL, Vm.set_appL0, Nat.le_refl, Nat.le_add_right, okAt])
theorem town_ok (b : Nat) (h : Hp) (f : Bool) (v : Vault) (hl : v.secret.length ≤ 140737488355328) : run fns pr b 31 [v.encF f] h = some (v.enc, h) := by
  refine Vm.runP (nt := 8) rfl fit31 (by simp) ?_
  have hc := fun h0 => clone_ok h.length (h := h0) (BR_imm h0 f v.secret) hl
  have hvb : (0 : Nat) = 0 := rfl
  try simp only [B31, Vault.encF, Vault.enc, hc, go_sem, V.s.injEq, Value.bool.injEq, ↓reduceIte, Nat.reduceEqDiff, Nat.reduceBEq, Nat.reduceAdd, Nat.reduceSub, Nat.reduceLT, Nat.reduceLeDiff, Int.reduceLT, Int.reduceLE, Int.reduceEq, Int.reduceToNat, List.append_assoc, List.length_append, Vm.get_app, Vm.set_app, Vm.get_appL, Vm.get_appL0, Vm.set_appL, Vm.set_appL0, Nat.le_refl, Nat.le_add_right, okAt]
  repeat' (
    first | refine wpC_cases ?_ ?_ | refine wpU_casesT ?_ ?_ | refine wpU_casesF ?_ ?_
    all_goals intro hvc
    all_goals first | replace hvc := not_of_true hvc | replace hvc := not_of_false hvc | skip
    all_goals first | subst hvc | replace hvb := And.intro hvc hvb
    all_goals try simp only [hvb, B31, Vault.encF, Vault.enc, hc, go_sem, V.s.injEq, Value.bool.injEq, ↓reduceIte, Nat.reduceEqDiff, Nat.reduceBEq, Nat.reduceAdd, Nat.reduceSub, Nat.reduceLT, Nat.reduceLeDiff, Int.reduceLT, Int.reduceLE, Int.reduceEq, Int.reduceToNat, List.append_assoc, List.length_append, Vm.get_app, Vm.set_app, Vm.get_appL, Vm.get_appL0, Vm.set_appL, Vm.set_appL0, Nat.le_refl, Nat.le_add_right, okAt])
theorem find1_ok (b : Nat) (h : Hp) (v : Vault) (id : Bs) : run fns pr b 43 [v.enc, .arr 23 (id.map byteV)] h = some (.s (.int .i64 (cmpB v.iD id)), h) := by
  refine Vm.runP (nt := 9) rfl fit43 (by simp) ?_
  have hc := fun x y h0 => cmp_run h.length x y h0
  have hvb : (0 : Nat) = 0 := rfl
  try simp only [B43, Vault.enc, hc, go_sem, V.s.injEq, Value.bool.injEq, ↓reduceIte, Nat.reduceEqDiff, Nat.reduceBEq, Nat.reduceAdd, Nat.reduceSub, Nat.reduceLT, Nat.reduceLeDiff, Int.reduceLT, Int.reduceLE, Int.reduceEq, Int.reduceToNat, List.append_assoc, List.length_append, Vm.get_app, Vm.set_app, Vm.get_appL, Vm.get_appL0, Vm.set_appL, Vm.set_appL0, Nat.le_refl, Nat.le_add_right, okAt]
  repeat' (
    first | refine wpC_cases ?_ ?_ | refine wpU_casesT ?_ ?_ | refine wpU_casesF ?_ ?_
    all_goals intro hvc
    all_goals first | replace hvc := not_of_true hvc | replace hvc := not_of_false hvc | skip
    all_goals first | subst hvc | replace hvb := And.intro hvc hvb
    all_goals try simp only [hvb, B43, Vault.enc, hc, go_sem, V.s.injEq, Value.bool.injEq, ↓reduceIte, Nat.reduceEqDiff, Nat.reduceBEq, Nat.reduceAdd, Nat.reduceSub, Nat.reduceLT, Nat.reduceLeDiff, Int.reduceLT, Int.reduceLE, Int.reduceEq, Int.reduceToNat, List.append_assoc, List.length_append, Vm.get_app, Vm.set_app, Vm.get_appL, Vm.get_appL0, Vm.set_appL, Vm.set_appL0, Nat.le_refl, Nat.le_add_right, okAt])
theorem search_ok (b : Nat) (h : Hp) (x : V) (l : List Vault) (id : Bs) (hx : SR h x (some 29) (l.map Vault.enc)) (hr : Rise l) (hl : l.length ≤ 1000) :
    run fns pr b 42 [x, .arr 23 (id.map byteV), .fn 43 []] h = some (.tup [.s (.int .i64 (pos l id)), .s (.bool (decide ((l[pos l id]?).map Vault.iD = some id)))], h) := by
  refine Vm.runP (nt := 49) rfl fit42 (by simp) ?_
  have hlen := fun cf base h0 => hx.o_len (cf := cf) (base := base) (h := h0)
  simp only [List.length_map] at hlen
  have hxs : SR (h ++ [.cells (some 23) [.arr 23 (id.map byteV)]]) x (some 29) (l.map Vault.enc) := hx.app _
  generalize hH : h ++ [.cells (some 23) [.arr 23 (id.map byteV)]] = H at hxs
  have hHl : H[h.length]? = some (.cells (some 23) [.arr 23 (id.map byteV)]) := by rw [← hH]; exact get_app0 _ _
  have hHt : H.take h.length = h := by rw [← hH]; simp
  have hp := pos_le l id
  have hias := fun cf base k (i : Nat) hi => hxs.o_ias (cf := cf) (base := base) (k := k) (i := i) hi
  have hld := fun cf base (i : Nat) (v : Vault) (hv : l[i]? = some v) => hxs.o_ld (cf := cf) (base := base) (i := i) (v := v.enc) (by rw [List.getElem?_map, hv]; rfl) rfl
  have hf := fun h0 v => find1_ok h.length h0 v id
  simp only [List.length_map] at hias
  have hvb : (0 : Nat) = 0 := rfl
  try simp only [B42, B42R0, B42L0, hlen, hH, go_sem, V.s.injEq, Value.bool.injEq, ↓reduceIte, Nat.reduceEqDiff, Nat.reduceBEq, Nat.reduceAdd, Nat.reduceSub, Nat.reduceLT, Nat.reduceLeDiff, Int.reduceLT, Int.reduceLE, Int.reduceEq, Int.reduceToNat, List.append_assoc, List.length_append, Vm.get_app, Vm.set_app, Vm.get_appL, Vm.get_appL0, Vm.set_appL, Vm.set_appL0, Nat.le_refl, Nat.le_add_right, okAt]
  repeat' (
    first | refine wpC_cases ?_ ?_ | refine wpU_casesT ?_ ?_ | refine wpU_casesF ?_ ?_
    all_goals intro hvc
    all_goals first | replace hvc := not_of_true hvc | replace hvc := not_of_false hvc | skip
    all_goals first | subst hvc | replace hvb := And.intro hvc hvb
    all_goals try simp only [hvb, B42, B42R0, B42L0, hlen, hH, go_sem, V.s.injEq, Value.bool.injEq, ↓reduceIte, Nat.reduceEqDiff, Nat.reduceBEq, Nat.reduceAdd, Nat.reduceSub, Nat.reduceLT, Nat.reduceLeDiff, Int.reduceLT, Int.reduceLE, Int.reduceEq, Int.reduceToNat, List.append_assoc, List.length_append, Vm.get_app, Vm.set_app, Vm.get_appL, Vm.get_appL0, Vm.set_appL, Vm.set_appL0, Nat.le_refl, Nat.le_add_right, okAt])
  refine wp_for (fun m e hh => ∃ i j : Nat, m = j - i ∧ i ≤ pos l id ∧ pos l id ≤ j ∧ j ≤ l.length ∧ e 9 = .s (.int .i64 i) ∧ e 10 = .s (.int .i64 j) ∧ e 8 = .s (.int .i64 l.length) ∧ e 0 = x ∧ e 2 = .fn 43 [] ∧ e 4 = .ptr h.length [0] 1 ∧ hh = H)
    (fun e hh => e 9 = .s (.int .i64 (pos l id)) ∧ e 8 = .s (.int .i64 l.length) ∧ e 0 = x ∧ e 2 = .fn 43 [] ∧ e 4 = .ptr h.length [0] 1 ∧ hh = H) l.length _ _ ⟨0, l.length, by omega, by omega, hp, by omega, ?_, ?_, ?_, ?_, ?_, ?_, rfl⟩ ?_ ?_
  rotate_right 2
  · rintro m e hh ⟨i, j, rfl, h1, h2, h3, e9, e10, e8, e0', e2, e4, rfl⟩
    by_cases c : i < j
    · have c' : (i : Int) < j := by omega
      have hw1 : IntKind.i64.wrap ((i : Int) + j) = (i : Int) + j := wrap_i64 (by omega) (by omega)
      have hw2 : IntKind.u64.wrap ((i : Int) + j) = (i : Int) + j := wrap_u64 (by omega) (by omega)
      have hsh := fun cf base h => o_shr (cf := cf) (base := base) (h := h) .u64 .u64 ((i : Int) + j) 1 (by decide)
      have hsh' := fun cf base h => o_shr (cf := cf) (base := base) (h := h) .u64 .i64 ((i : Int) + j) 1 (by decide)
      have hs : shrI .u64 ((i : Int) + j) 1 = (((i + j) / 2 : Nat) : Int) := by
        simp only [shrI, show min (Int.toNat 1) IntKind.u64.bits = 1 from rfl]
        rw [Int.fdiv_eq_ediv_of_nonneg _ (by decide)]; omega
      have hw3 : IntKind.i64.wrap (((i + j) / 2 : Nat) : Int) = (((i + j) / 2 : Nat) : Int) := wrap_i64 (by omega) (by omega)
      obtain ⟨t, ht⟩ : ∃ t, t = (i + j) / 2 := ⟨_, rfl⟩
      rw [← ht] at hs hw3
      have hti : i ≤ t := by omega
      have htj : t < j := by omega
      have htl : t < l.length := by omega
      have hv : l[t]? = some l[t] := List.getElem?_eq_getElem htl
      generalize l[t] = v at hv
      have hlt := pos_lt hr hv (id := id)
      have hia := fun cf base k => hias cf base k t htl
      have hlo := fun cf base => hld cf base t v hv
      have hw4 : IntKind.i64.wrap ((t : Int) + 1) = ((t + 1 : Nat) : Int) := wrap_small (by omega)
      have hvb : (0 : Nat) = 0 := rfl
      try simp only [e9, e10, e8, e0', e2, e4, c', hw1, hw2, hsh, hsh', hs, hw3, hia, hlo, hHl, hf, hw4, List.getElem?_cons_zero, go_sem, V.s.injEq, Value.bool.injEq, ↓reduceIte, Nat.reduceEqDiff, Nat.reduceBEq, Nat.reduceAdd, Nat.reduceSub, Nat.reduceLT, Nat.reduceLeDiff, Int.reduceLT, Int.reduceLE, Int.reduceEq, Int.reduceToNat, List.append_assoc, List.length_append, Vm.get_app, Vm.set_app, Vm.get_appL, Vm.get_appL0, Vm.set_appL, Vm.set_appL0, Nat.le_refl, Nat.le_add_right, okAt]
      repeat' (
        first | refine wpC_cases ?_ ?_ | refine wpU_casesT ?_ ?_ | refine wpU_casesF ?_ ?_
        all_goals intro hvc
        all_goals first | replace hvc := not_of_true hvc | replace hvc := not_of_false hvc | skip
        all_goals first | subst hvc | replace hvb := And.intro hvc hvb
        all_goals try simp only [hvb, e9, e10, e8, e0', e2, e4, c', hw1, hw2, hsh, hsh', hs, hw3, hia, hlo, hHl, hf, hw4, List.getElem?_cons_zero, go_sem, V.s.injEq, Value.bool.injEq, ↓reduceIte, Nat.reduceEqDiff, Nat.reduceBEq, Nat.reduceAdd, Nat.reduceSub, Nat.reduceLT, Nat.reduceLeDiff, Int.reduceLT, Int.reduceLE, Int.reduceEq, Int.reduceToNat, List.append_assoc, List.length_append, Vm.get_app, Vm.set_app, Vm.get_appL, Vm.get_appL0, Vm.set_appL, Vm.set_appL0, Nat.le_refl, Nat.le_add_right, okAt])
      all_goals clear hias hld hia hlo hf hlen hsh hsh'
      · simp only [decide_eq_true_eq] at hvb
        exact ⟨j - (t + 1), by omega, t + 1, j, rfl, by omega, h2, h3, rfl, rfl⟩
      · simp only [decide_eq_false_iff_not] at hvb
        exact ⟨t - i, by omega, i, t, rfl, h1, by omega, by omega, rfl, rfl⟩
    · have c' : ¬ (i : Int) < j := by omega
      obtain rfl : i = pos l id := by omega
      have hvb : (0 : Nat) = 0 := rfl
      try simp only [e9, e10, e8, e0', e2, e4, c', go_sem, V.s.injEq, Value.bool.injEq, ↓reduceIte, Nat.reduceEqDiff, Nat.reduceBEq, Nat.reduceAdd, Nat.reduceSub, Nat.reduceLT, Nat.reduceLeDiff, Int.reduceLT, Int.reduceLE, Int.reduceEq, Int.reduceToNat, List.append_assoc, List.length_append, Vm.get_app, Vm.set_app, Vm.get_appL, Vm.get_appL0, Vm.set_appL, Vm.set_appL0, Nat.le_refl, Nat.le_add_right, okAt]
      repeat' (
        first | refine wpC_cases ?_ ?_ | refine wpU_casesT ?_ ?_ | refine wpU_casesF ?_ ?_
        all_goals intro hvc
        all_goals first | replace hvc := not_of_true hvc | replace hvc := not_of_false hvc | skip
        all_goals first | subst hvc | replace hvb := And.intro hvc hvb
        all_goals try simp only [hvb, e9, e10, e8, e0', e2, e4, c', go_sem, V.s.injEq, Value.bool.injEq, ↓reduceIte, Nat.reduceEqDiff, Nat.reduceBEq, Nat.reduceAdd, Nat.reduceSub, Nat.reduceLT, Nat.reduceLeDiff, Int.reduceLT, Int.reduceLE, Int.reduceEq, Int.reduceToNat, List.append_assoc, List.length_append, Vm.get_app, Vm.set_app, Vm.get_appL, Vm.get_appL0, Vm.set_appL, Vm.set_appL0, Nat.le_refl, Nat.le_add_right, okAt])
  · rintro e hh ⟨e9, e8, e0', e2, e4, rfl⟩
    by_cases c : pos l id < l.length
    · have c' : (pos l id : Int) < l.length := by omega
      have hv : l[pos l id]? = some l[pos l id] := List.getElem?_eq_getElem c
      generalize l[pos l id] = v at hv
      have hia := fun cf base k => hias cf base k _ c
      have hlo := fun cf base => hld cf base _ v hv
      have hz : decide (v.iD = id) = decide (cmpB v.iD id = 0) := by
        rw [decide_eq_decide]
        exact ⟨fun h => by rw [h]; exact cmp_self _, cmp_zero _ _⟩
      have hvb : (0 : Nat) = 0 := rfl
      try simp only [e9, e8, e0', e2, e4, c', hv, hia, hlo, hHl, hHt, hf, hz, List.getElem?_cons_zero, Option.map_some, go_sem, V.s.injEq, Value.bool.injEq, ↓reduceIte, Nat.reduceEqDiff, Nat.reduceBEq, Nat.reduceAdd, Nat.reduceSub, Nat.reduceLT, Nat.reduceLeDiff, Int.reduceLT, Int.reduceLE, Int.reduceEq, Int.reduceToNat, List.append_assoc, List.length_append, Vm.get_app, Vm.set_app, Vm.get_appL, Vm.get_appL0, Vm.set_appL, Vm.set_appL0, Nat.le_refl, Nat.le_add_right, okAt]
      repeat' (
        first | refine wpC_cases ?_ ?_ | refine wpU_casesT ?_ ?_ | refine wpU_casesF ?_ ?_
        all_goals intro hvc
        all_goals first | replace hvc := not_of_true hvc | replace hvc := not_of_false hvc | skip
        all_goals first | subst hvc | replace hvb := And.intro hvc hvb
        all_goals try simp only [hvb, e9, e8, e0', e2, e4, c', hv, hia, hlo, hHl, hHt, hf, hz, List.getElem?_cons_zero, Option.map_some, go_sem, V.s.injEq, Value.bool.injEq, ↓reduceIte, Nat.reduceEqDiff, Nat.reduceBEq, Nat.reduceAdd, Nat.reduceSub, Nat.reduceLT, Nat.reduceLeDiff, Int.reduceLT, Int.reduceLE, Int.reduceEq, Int.reduceToNat, List.append_assoc, List.length_append, Vm.get_app, Vm.set_app, Vm.get_appL, Vm.get_appL0, Vm.set_appL, Vm.set_appL0, Nat.le_refl, Nat.le_add_right, okAt])
    · have c' : ¬ (pos l id : Int) < l.length := by omega
      have hv : l[pos l id]? = none := List.getElem?_eq_none (by omega)
      have hvb : (0 : Nat) = 0 := rfl
      try simp only [e9, e8, e0', e2, e4, c', hv, hHt, Option.map_none, go_sem, V.s.injEq, Value.bool.injEq, ↓reduceIte, Nat.reduceEqDiff, Nat.reduceBEq, Nat.reduceAdd, Nat.reduceSub, Nat.reduceLT, Nat.reduceLeDiff, Int.reduceLT, Int.reduceLE, Int.reduceEq, Int.reduceToNat, List.append_assoc, List.length_append, Vm.get_app, Vm.set_app, Vm.get_appL, Vm.get_appL0, Vm.set_appL, Vm.set_appL0, Nat.le_refl, Nat.le_add_right, okAt]
      repeat' (
        first | refine wpC_cases ?_ ?_ | refine wpU_casesT ?_ ?_ | refine wpU_casesF ?_ ?_
        all_goals intro hvc
        all_goals first | replace hvc := not_of_true hvc | replace hvc := not_of_false hvc | skip
        all_goals first | subst hvc | replace hvb := And.intro hvc hvb
        all_goals try simp only [hvb, e9, e8, e0', e2, e4, c', hv, hHt, Option.map_none, go_sem, V.s.injEq, Value.bool.injEq, ↓reduceIte, Nat.reduceEqDiff, Nat.reduceBEq, Nat.reduceAdd, Nat.reduceSub, Nat.reduceLT, Nat.reduceLeDiff, Int.reduceLT, Int.reduceLE, Int.reduceEq, Int.reduceToNat, List.append_assoc, List.length_append, Vm.get_app, Vm.set_app, Vm.get_appL, Vm.get_appL0, Vm.set_appL, Vm.set_appL0, Nat.le_refl, Nat.le_add_right, okAt])
      all_goals simp
  all_goals rfl
theorem find_ok (b : Nat) (h : Hp) (t k : Nat) (l : List Vault) (id : Bs) (ho : TR h t k l) (hr : Rise l) (hl : l.length ≤ 1000) :
    run fns pr b 30 [.ptr t [0] 1, .arr 23 (id.map byteV)] h = some (.tup [.s (.int .i64 (pos l id)), .s (.bool (decide ((l[pos l id]?).map Vault.iD = some id)))], h) := by
  refine Vm.runP (nt := 14) rfl fit30 (by simp) ?_
  obtain ⟨x, h1, hh⟩ := ho
  have hx : SR h x (some 29) (l.map Vault.enc) := by
    rcases hh with ⟨rfl, rfl, _⟩ | ⟨rfl, _, h3⟩
    · exact .inl ⟨_, rfl⟩
    · exact SR_ref h3 (by simp)
  have hty := hx.ty
  have hs := fun t' => search_ok h.length (h ++ t') x l id (hx.app t') hr hl
  have hg := fun t' => get_old h1 t'
  have hvb : (0 : Nat) = 0 := rfl
  try simp only [B30, hs, hg, hty, go_sem, V.s.injEq, Value.bool.injEq, ↓reduceIte, Nat.reduceEqDiff, Nat.reduceBEq, Nat.reduceAdd, Nat.reduceSub, Nat.reduceLT, Nat.reduceLeDiff, Int.reduceLT, Int.reduceLE, Int.reduceEq, Int.reduceToNat, List.append_assoc, List.length_append, Vm.get_app, Vm.set_app, Vm.get_appL, Vm.get_appL0, Vm.set_appL, Vm.set_appL0, Nat.le_refl, Nat.le_add_right, okAt]
  repeat' (
    first | refine wpC_cases ?_ ?_ | refine wpU_casesT ?_ ?_ | refine wpU_casesF ?_ ?_
    all_goals intro hvc
    all_goals first | replace hvc := not_of_true hvc | replace hvc := not_of_false hvc | skip
    all_goals first | subst hvc | replace hvb := And.intro hvc hvb
    all_goals try simp only [hvb, B30, hs, hg, hty, go_sem, V.s.injEq, Value.bool.injEq, ↓reduceIte, Nat.reduceEqDiff, Nat.reduceBEq, Nat.reduceAdd, Nat.reduceSub, Nat.reduceLT, Nat.reduceLeDiff, Int.reduceLT, Int.reduceLE, Int.reduceEq, Int.reduceToNat, List.append_assoc, List.length_append, Vm.get_app, Vm.set_app, Vm.get_appL, Vm.get_appL0, Vm.set_appL, Vm.set_appL0, Nat.le_refl, Nat.le_add_right, okAt])
/-- The vault of a name. -/
def getT (l : List Vault) (id : Bs) : Option Vault := if (l[pos l id]?).map Vault.iD = some id then l[pos l id]? else none
theorem TGet_ok (b : Nat) (h : Hp) (t k : Nat) (l : List Vault) (id : Bs) (ho : TR h t k l) (hr : Rise l) (hl : l.length ≤ 1000) (hs : ∀ v ∈ l, v.secret.length ≤ 64) :
    run fns pr b 33 [.ptr t [0] 1, .arr 23 (id.map byteV)] h = some (.tup [((getT l id).getD zeroV).enc, .s (.bool (getT l id).isSome)], h) := by
  refine Vm.runP (nt := 25) rfl fit33 (by simp) ?_
  have hf := fun t' => find_ok h.length (h ++ t') t k l id (ho.mono (Fw.app [] h t') (by simp) (by simp)) hr hl
  obtain ⟨x, h1, hh⟩ := ho
  have hx : SR h x (some 29) (l.map Vault.enc) := by
    rcases hh with ⟨rfl, rfl, _⟩ | ⟨rfl, _, h3⟩
    · exact .inl ⟨_, rfl⟩
    · exact SR_ref h3 (by simp)
  have hty := hx.ty
  have hg := fun t' => get_old h1 t'
  unfold getT
  by_cases c : (l[pos l id]?).map Vault.iD = some id
  · rw [if_pos c]
    cases hv : l[pos l id]? with
    | none => rw [hv] at c; cases c
    | some v =>
      have hlt := (List.getElem?_eq_some_iff.1 hv).1
      have hvs := hs v (List.mem_of_getElem? hv)
      have hia := fun cf base t' => (hx.app t').o_ias (cf := cf) (base := base) (k := .i64) (i := pos l id) (by simpa using hlt)
      have hlo := fun cf base t' => (hx.app t').o_ld (cf := cf) (base := base) (i := pos l id) (v := v.enc) (by rw [List.getElem?_map, hv]; rfl) rfl
      have how := fun h0 => town_ok h.length h0 false v (by omega)
      rw [← Vault.enc_F] at how
      have hvb : (0 : Nat) = 0 := rfl
      try simp only [B33, hf, hg, hty, c, hia, hlo, how, enc_tyV, enc_soV, enc_frV, Option.getD_some, Option.isSome_some, go_sem, V.s.injEq, Value.bool.injEq, ↓reduceIte, Nat.reduceEqDiff, Nat.reduceBEq, Nat.reduceAdd, Nat.reduceSub, Nat.reduceLT, Nat.reduceLeDiff, Int.reduceLT, Int.reduceLE, Int.reduceEq, Int.reduceToNat, List.append_assoc, List.length_append, Vm.get_app, Vm.set_app, Vm.get_appL, Vm.get_appL0, Vm.set_appL, Vm.set_appL0, Nat.le_refl, Nat.le_add_right, okAt]
      repeat' (
        first | refine wpC_cases ?_ ?_ | refine wpU_casesT ?_ ?_ | refine wpU_casesF ?_ ?_
        all_goals intro hvc
        all_goals first | replace hvc := not_of_true hvc | replace hvc := not_of_false hvc | skip
        all_goals first | subst hvc | replace hvb := And.intro hvc hvb
        all_goals try simp only [hvb, B33, hf, hg, hty, c, hia, hlo, how, enc_tyV, enc_soV, enc_frV, Option.getD_some, Option.isSome_some, go_sem, V.s.injEq, Value.bool.injEq, ↓reduceIte, Nat.reduceEqDiff, Nat.reduceBEq, Nat.reduceAdd, Nat.reduceSub, Nat.reduceLT, Nat.reduceLeDiff, Int.reduceLT, Int.reduceLE, Int.reduceEq, Int.reduceToNat, List.append_assoc, List.length_append, Vm.get_app, Vm.set_app, Vm.get_appL, Vm.get_appL0, Vm.set_appL, Vm.set_appL0, Nat.le_refl, Nat.le_add_right, okAt])
  · rw [if_neg c]
    have hvb : (0 : Nat) = 0 := rfl
    try simp only [B33, hf, hg, hty, c, zero4_a, zero16_a, go_sem, V.s.injEq, Value.bool.injEq, ↓reduceIte, Nat.reduceEqDiff, Nat.reduceBEq, Nat.reduceAdd, Nat.reduceSub, Nat.reduceLT, Nat.reduceLeDiff, Int.reduceLT, Int.reduceLE, Int.reduceEq, Int.reduceToNat, List.append_assoc, List.length_append, Vm.get_app, Vm.set_app, Vm.get_appL, Vm.get_appL0, Vm.set_appL, Vm.set_appL0, Nat.le_refl, Nat.le_add_right, okAt]
    repeat' (
      first | refine wpC_cases ?_ ?_ | refine wpU_casesT ?_ ?_ | refine wpU_casesF ?_ ?_
      all_goals intro hvc
      all_goals first | replace hvc := not_of_true hvc | replace hvc := not_of_false hvc | skip
      all_goals first | subst hvc | replace hvb := And.intro hvc hvb
      all_goals try simp only [hvb, B33, hf, hg, hty, c, zero4_a, zero16_a, go_sem, V.s.injEq, Value.bool.injEq, ↓reduceIte, Nat.reduceEqDiff, Nat.reduceBEq, Nat.reduceAdd, Nat.reduceSub, Nat.reduceLT, Nat.reduceLeDiff, Int.reduceLT, Int.reduceLE, Int.reduceEq, Int.reduceToNat, List.append_assoc, List.length_append, Vm.get_app, Vm.set_app, Vm.get_appL, Vm.get_appL0, Vm.set_appL, Vm.set_appL0, Nat.le_refl, Nat.le_add_right, okAt])
    rfl
theorem enc_ground (v : Vault) : v.enc.ground = true := by
  have : v.enc.plain = true := by simp only [Vault.enc, go_sem]
  exact ground_plain _ this
/-- What putting a vault comes to: a number, the table. -/
def putT (l : List Vault) (v : Vault) : Int × List Vault :=
  if rightV v = false then (1, l) else if (l[pos l v.iD]?).map Vault.iD = some v.iD then (0, l.set (pos l v.iD) v) else if 4 ≤ l.length then (13, l) else (0, l.take (pos l v.iD) ++ [v] ++ l.drop (pos l v.iD))
theorem TPut_ok (b : Nat) (h : Hp) (t k : Nat) (l : List Vault) (v : Vault) (hb : b ≤ t) (ho : TR h t k l) (hr : Rise l) (hl : l.length ≤ 4) :
    ∃ h' k', run fns pr b 12 [.ptr t [0] 1, v.enc] h = some (.s (.int .i64 (putT l v).1), h') ∧ TR h' t k' (putT l v).2 ∧ Fw [t, k] h h' ∧ (k' = k ∨ h.length ≤ k') := by
  have hf := fun t' => find_ok b (h ++ t') t k l v.iD (ho.mono (Fw.app [] h t') (by simp) (by simp)) hr (by omega)
  have hrv := fun h0 f => RightVaultF_ok b h0 f v
  have how := fun hs h0 => town_ok b h0 false v hs
  simp only [← Vault.enc_F] at how
  have hrv' := fun h0 => hrv h0 false
  simp only [← Vault.enc_F] at hrv'
  have htl := ho.lt
  unfold putT
  cases hv : rightV v with
  | false =>
    rw [if_pos rfl]
    suffices h : ∃ w h', run fns pr b 12 [.ptr t [0] 1, v.enc] h = some (w, h') ∧ w = .s (.int .i64 1) ∧ h' = h ++ [.cells (some 29) [v.enc]] by
      obtain ⟨w, h', e, rfl, rfl⟩ := h
      exact ⟨_, k, e, ho.mono (Fw.app [] h _) (by simp) (by simp), Fw.app _ _ _, .inl rfl⟩
    refine Vm.runQ (nt := 47) rfl fit12 (by simp) ?_
    simp only [Vault.enc] at hf hrv' ⊢
    have hvb : (0 : Nat) = 0 := rfl
    try simp only [B12, hf, hrv', hv, go_sem, V.s.injEq, Value.bool.injEq, ↓reduceIte, Nat.reduceEqDiff, Nat.reduceBEq, Nat.reduceAdd, Nat.reduceSub, Nat.reduceLT, Nat.reduceLeDiff, Int.reduceLT, Int.reduceLE, Int.reduceEq, Int.reduceToNat, List.append_assoc, List.length_append, Vm.get_app, Vm.set_app, Vm.get_appL, Vm.get_appL0, Vm.set_appL, Vm.set_appL0, Nat.le_refl, Nat.le_add_right, okAt]
    repeat' (
      first | refine wpC_cases ?_ ?_ | refine wpU_casesT ?_ ?_ | refine wpU_casesF ?_ ?_
      all_goals intro hvc
      all_goals first | replace hvc := not_of_true hvc | replace hvc := not_of_false hvc | skip
      all_goals first | subst hvc | replace hvb := And.intro hvc hvb
      all_goals try simp only [hvb, B12, hf, hrv', hv, go_sem, V.s.injEq, Value.bool.injEq, ↓reduceIte, Nat.reduceEqDiff, Nat.reduceBEq, Nat.reduceAdd, Nat.reduceSub, Nat.reduceLT, Nat.reduceLeDiff, Int.reduceLT, Int.reduceLE, Int.reduceEq, Int.reduceToNat, List.append_assoc, List.length_append, Vm.get_app, Vm.set_app, Vm.get_appL, Vm.get_appL0, Vm.set_appL, Vm.set_appL0, Nat.le_refl, Nat.le_add_right, okAt])
  | true =>
    have hs := right_secretV hv
    have how' := how (by omega)
    rw [if_neg (by simp)]
    obtain ⟨x, h1, hh⟩ := ho
    have hg := fun t' => get_old h1 t'
    have hst := fun t' b' => set_old htl.1 t' b'
    have gr := enc_ground v
    by_cases c1 : (l[pos l v.iD]?).map Vault.iD = some v.iD
    · rw [if_pos c1]
      rcases hh with ⟨rfl, rfl, rfl⟩ | ⟨rfl, hkt, h3⟩
      · simp at c1
      · have hlt : pos l v.iD < l.length := by
          cases hp : l[pos l v.iD]? with
          | none => rw [hp] at c1; cases c1
          | some w => exact (List.getElem?_eq_some_iff.1 hp).1
        have hg3 := fun t' => get_old h3 t'
        have hst3 := fun t' b' => set_old htl.2 t' b'
        have hlt' : (pos l v.iD : Int) < l.length := by omega
        have hlt0 : (0 : Int) ≤ pos l v.iD := by omega
        have hel : (l.map Vault.enc)[pos l v.iD]? = some (l[pos l v.iD]).enc := by rw [List.getElem?_map, List.getElem?_eq_getElem hlt]; rfl
        have hty : (l[pos l v.iD]).enc.ty = some 29 := rfl
        generalize hpp : pos l v.iD = p at *
        suffices h : ∃ w h', run fns pr b 12 [.ptr t [0] 1, v.enc] h = some (w, h') ∧ w = .s (.int .i64 0) ∧ h' = h.set k (.cells (some 29) ((l.map Vault.enc).set p v.enc)) ++ [.cells (some 29) [v.enc]] by
          obtain ⟨w, h', e, rfl, rfl⟩ := h
          refine ⟨_, k, e, ⟨.ref k [] (some 29) 0 l.length l.length, ?_, .inr ⟨by simp, hkt, ?_⟩⟩, ?_, .inl rfl⟩
          · exact get_old (by rw [List.getElem?_set_ne hkt]; exact h1) _
          · exact get_old (by rw [set_get h3, ← List.map_set]) _
          · exact (Fw.set (S := [t, k]) (by simp) h3).trans (Fw.app _ _ _)
        refine Vm.runQ (nt := 47) rfl fit12 (by simp) ?_
        have hlk := htl.2
        simp only [Vault.enc] at hf hrv' how' gr ⊢
        have hvb : (0 : Nat) = 0 := rfl
        try simp only [B12, hf, hrv', hv, c1, hg, hg3, hst3, hlt', hlt0, hlt, hel, hty, how', gr, go_sem, V.s.injEq, Value.bool.injEq, ↓reduceIte, Nat.reduceEqDiff, Nat.reduceBEq, Nat.reduceAdd, Nat.reduceSub, Nat.reduceLT, Nat.reduceLeDiff, Int.reduceLT, Int.reduceLE, Int.reduceEq, Int.reduceToNat, List.append_assoc, List.length_append, Vm.get_app, Vm.set_app, Vm.get_appL, Vm.get_appL0, Vm.set_appL, Vm.set_appL0, Nat.le_refl, Nat.le_add_right, okAt]
        repeat' (
          first | refine wpC_cases ?_ ?_ | refine wpU_casesT ?_ ?_ | refine wpU_casesF ?_ ?_
          all_goals intro hvc
          all_goals first | replace hvc := not_of_true hvc | replace hvc := not_of_false hvc | skip
          all_goals first | subst hvc | replace hvb := And.intro hvc hvb
          all_goals try simp only [hvb, B12, hf, hrv', hv, c1, hg, hg3, hst3, hlt', hlt0, hlt, hel, hty, how', gr, go_sem, V.s.injEq, Value.bool.injEq, ↓reduceIte, Nat.reduceEqDiff, Nat.reduceBEq, Nat.reduceAdd, Nat.reduceSub, Nat.reduceLT, Nat.reduceLeDiff, Int.reduceLT, Int.reduceLE, Int.reduceEq, Int.reduceToNat, List.append_assoc, List.length_append, Vm.get_app, Vm.set_app, Vm.get_appL, Vm.get_appL0, Vm.set_appL, Vm.set_appL0, Nat.le_refl, Nat.le_add_right, okAt])
    · rw [if_neg c1]
      have hlenx : lenV x = some l.length := by
        rcases hh with ⟨rfl, rfl, _⟩ | ⟨rfl, _⟩ <;> rfl
      have hxt : x.ty = none := by
        rcases hh with ⟨rfl, rfl, _⟩ | ⟨rfl, _⟩ <;> rfl
      have hxs : x.solid = true := by
        rcases hh with ⟨rfl, rfl, _⟩ | ⟨rfl, _⟩ <;> rfl
      have hlen := fun cf base h0 => o_len cf base h0 x _ hlenx
      by_cases c2 : 4 ≤ l.length
      · rw [if_pos c2]
        have c2' : (4 : Int) ≤ l.length := by omega
        suffices h : ∃ w h', run fns pr b 12 [.ptr t [0] 1, v.enc] h = some (w, h') ∧ w = .s (.int .i64 13) ∧ h' = h ++ [.cells (some 29) [v.enc]] by
          obtain ⟨w, h', e, rfl, rfl⟩ := h
          exact ⟨_, k, e, ⟨x, hg _, by
            rcases hh with hh | ⟨rfl, hkt, h3⟩
            · exact .inl hh
            · exact .inr ⟨rfl, hkt, get_old h3 _⟩⟩, Fw.app _ _ _, .inl rfl⟩
        refine Vm.runQ (nt := 47) rfl fit12 (by simp) ?_
        simp only [Vault.enc] at hf hrv' ⊢
        have hvb : (0 : Nat) = 0 := rfl
        try simp only [B12, hf, hrv', hv, c1, hg, hxt, hlen, c2', go_sem, V.s.injEq, Value.bool.injEq, ↓reduceIte, Nat.reduceEqDiff, Nat.reduceBEq, Nat.reduceAdd, Nat.reduceSub, Nat.reduceLT, Nat.reduceLeDiff, Int.reduceLT, Int.reduceLE, Int.reduceEq, Int.reduceToNat, List.append_assoc, List.length_append, Vm.get_app, Vm.set_app, Vm.get_appL, Vm.get_appL0, Vm.set_appL, Vm.set_appL0, Nat.le_refl, Nat.le_add_right, okAt]
        repeat' (
          first | refine wpC_cases ?_ ?_ | refine wpU_casesT ?_ ?_ | refine wpU_casesF ?_ ?_
          all_goals intro hvc
          all_goals first | replace hvc := not_of_true hvc | replace hvc := not_of_false hvc | skip
          all_goals first | subst hvc | replace hvb := And.intro hvc hvb
          all_goals try simp only [hvb, B12, hf, hrv', hv, c1, hg, hxt, hlen, c2', go_sem, V.s.injEq, Value.bool.injEq, ↓reduceIte, Nat.reduceEqDiff, Nat.reduceBEq, Nat.reduceAdd, Nat.reduceSub, Nat.reduceLT, Nat.reduceLeDiff, Int.reduceLT, Int.reduceLE, Int.reduceEq, Int.reduceToNat, List.append_assoc, List.length_append, Vm.get_app, Vm.set_app, Vm.get_appL, Vm.get_appL0, Vm.set_appL, Vm.set_appL0, Nat.le_refl, Nat.le_add_right, okAt])
      · rw [if_neg c2]
        have c2' : ¬ (4 : Int) ≤ l.length := by omega
        have hgv := hg
        have hple := pos_le l v.iD
        generalize hpp : pos l v.iD = p at *
        rcases hh with ⟨rfl, rfl, rfl⟩ | ⟨rfl, hkt, h3⟩
        · obtain rfl : p = 0 := by simpa using hple
          have hin : insertV (some 29) 96 [.imm true (some 29) [], .s (.int .i64 ((0 : Nat) : Int)), .ref (h.length + 1) [] (some 29) 0 1 1] (h ++ [.cells (some 29) [v.enc], .cells (some 29) [v.enc]]) = some (.ref (h.length + 2) [] (some 29) 0 1 1, h ++ [.cells (some 29) [v.enc], .cells (some 29) [v.enc], .cells (some 29) [v.enc]]) := by
            have := insertV_nil (g := some 29) (by_ := 96) (h := h ++ [.cells (some 29) [v.enc], .cells (some 29) [v.enc]]) (idy := h.length + 1) (e := v.enc) (by rw [get_app]; rfl) gr
            rw [show (((0 : Nat) : Int)) = 0 from rfl, this]
            simp
          have c2'' : ¬ (4 : Int) ≤ ((0 : Nat) : Int) := by decide
          suffices h : ∃ w h', run fns pr b 12 [.ptr k [0] 1, v.enc] h = some (w, h') ∧ w = .s (.int .i64 0) ∧ h' = h.set k (.cells (some 72) [.st 72 [.ref (h.length + 2) [] (some 29) 0 1 1]]) ++ [.cells (some 29) [v.enc], .cells (some 29) [v.enc], .cells (some 29) [v.enc]] by
            obtain ⟨w, h', e, rfl, rfl⟩ := h
            refine ⟨_, h.length + 2, e, ⟨.ref (h.length + 2) [] (some 29) 0 1 1, ?_, .inr ⟨rfl, by omega, ?_⟩⟩, ?_, .inr (by omega)⟩
            · exact get_old (set_get h1) _
            · rw [get_appL (by simp)]; rfl
            · exact (Fw.set (S := [k, k]) (by simp) h1).trans (Fw.app _ _ _)
          refine Vm.runQ (nt := 47) rfl fit12 (by simp) ?_
          simp only [Vault.enc] at hf hrv' how' gr hin ⊢
          have hvb : (0 : Nat) = 0 := rfl
          try simp only [B12, hf, hrv', hv, c1, hg, hst, hxt, hlen, c2'', hb, how', gr, insert_run, hin, List.length_nil, go_sem, V.s.injEq, Value.bool.injEq, ↓reduceIte, Nat.reduceEqDiff, Nat.reduceBEq, Nat.reduceAdd, Nat.reduceSub, Nat.reduceLT, Nat.reduceLeDiff, Int.reduceLT, Int.reduceLE, Int.reduceEq, Int.reduceToNat, List.append_assoc, List.length_append, Vm.get_app, Vm.set_app, Vm.get_appL, Vm.get_appL0, Vm.set_appL, Vm.set_appL0, Nat.le_refl, Nat.le_add_right, okAt]
          repeat' (
            first | refine wpC_cases ?_ ?_ | refine wpU_casesT ?_ ?_ | refine wpU_casesF ?_ ?_
            all_goals intro hvc
            all_goals first | replace hvc := not_of_true hvc | replace hvc := not_of_false hvc | skip
            all_goals first | subst hvc | replace hvb := And.intro hvc hvb
            all_goals try simp only [hvb, B12, hf, hrv', hv, c1, hg, hst, hxt, hlen, c2'', hb, how', gr, insert_run, hin, List.length_nil, go_sem, V.s.injEq, Value.bool.injEq, ↓reduceIte, Nat.reduceEqDiff, Nat.reduceBEq, Nat.reduceAdd, Nat.reduceSub, Nat.reduceLT, Nat.reduceLeDiff, Int.reduceLT, Int.reduceLE, Int.reduceEq, Int.reduceToNat, List.append_assoc, List.length_append, Vm.get_app, Vm.set_app, Vm.get_appL, Vm.get_appL0, Vm.set_appL, Vm.set_appL0, Nat.le_refl, Nat.le_add_right, okAt])
        · have hin : insertV (some 29) 96 [.ref k [] (some 29) 0 l.length l.length, .s (.int .i64 p), .ref (h.length + 1) [] (some 29) 0 1 1] (h ++ [.cells (some 29) [v.enc], .cells (some 29) [v.enc]]) = some (.ref k [] (some 29) 0 (l.length + 1) (l.length + 1), h.set k (.cells (some 29) ((l.take p ++ [v] ++ l.drop p).map Vault.enc)) ++ [.cells (some 29) [v.enc], .cells (some 29) [v.enc]]) := by
            rw [insertV_ref (e := v.enc) (get_old h3 _) (by simp) (by rw [get_app]; rfl) (by omega) hple (by omega) gr, set_old htl.2]
            simp [List.map_take, List.map_drop]
          have hgk : ∀ (b' : Blk) (t' : Hp), (h.set k b' ++ t')[t]? = some (.cells (some 72) [.st 72 [.ref k [] (some 29) 0 l.length l.length]]) := fun b' t' => get_old (by rw [List.getElem?_set_ne hkt]; exact h1) _
          have hsk : ∀ (b' b2 : Blk) (t' : Hp), (h.set k b' ++ t').set t b2 = (h.set k b').set t b2 ++ t' := fun b' b2 t' => set_old (by simp; exact htl.1) t' b2
          suffices h : ∃ w h', run fns pr b 12 [.ptr t [0] 1, v.enc] h = some (w, h') ∧ w = .s (.int .i64 0) ∧ h' = (h.set k (.cells (some 29) ((l.take p ++ [v] ++ l.drop p).map Vault.enc))).set t (.cells (some 72) [.st 72 [.ref k [] (some 29) 0 (l.length + 1) (l.length + 1)]]) ++ [.cells (some 29) [v.enc], .cells (some 29) [v.enc]] by
            obtain ⟨w, h', e, rfl, rfl⟩ := h
            have hl1 : (l.take p ++ [v] ++ l.drop p).length = l.length + 1 := by simp; omega
            refine ⟨_, k, e, ⟨.ref k [] (some 29) 0 (l.length + 1) (l.length + 1), ?_, .inr ⟨by rw [hl1], hkt, ?_⟩⟩, ?_, .inl rfl⟩
            · exact get_old (set_get (by rw [List.getElem?_set_ne hkt]; exact h1)) _
            · exact get_old (by rw [List.getElem?_set_ne (Ne.symm hkt)]; exact set_get h3) _
            · exact ((Fw.set (S := [t, k]) (by simp) h3).trans (Fw.set (S := [t, k]) (by simp) (by rw [List.getElem?_set_ne hkt]; exact h1))).trans (Fw.app _ _ _)
          refine Vm.runQ (nt := 47) rfl fit12 (by simp) ?_
          simp only [Vault.enc] at hf hrv' how' gr hin ⊢
          have hvb : (0 : Nat) = 0 := rfl
          try simp only [B12, hf, hrv', hv, c1, hg, hgk, hsk, hst, hxt, hlen, c2', hb, how', gr, insert_run, hin, go_sem, V.s.injEq, Value.bool.injEq, ↓reduceIte, Nat.reduceEqDiff, Nat.reduceBEq, Nat.reduceAdd, Nat.reduceSub, Nat.reduceLT, Nat.reduceLeDiff, Int.reduceLT, Int.reduceLE, Int.reduceEq, Int.reduceToNat, List.append_assoc, List.length_append, Vm.get_app, Vm.set_app, Vm.get_appL, Vm.get_appL0, Vm.set_appL, Vm.set_appL0, Nat.le_refl, Nat.le_add_right, okAt]
          repeat' (
            first | refine wpC_cases ?_ ?_ | refine wpU_casesT ?_ ?_ | refine wpU_casesF ?_ ?_
            all_goals intro hvc
            all_goals first | replace hvc := not_of_true hvc | replace hvc := not_of_false hvc | skip
            all_goals first | subst hvc | replace hvb := And.intro hvc hvb
            all_goals try simp only [hvb, B12, hf, hrv', hv, c1, hg, hgk, hsk, hst, hxt, hlen, c2', hb, how', gr, insert_run, hin, go_sem, V.s.injEq, Value.bool.injEq, ↓reduceIte, Nat.reduceEqDiff, Nat.reduceBEq, Nat.reduceAdd, Nat.reduceSub, Nat.reduceLT, Nat.reduceLeDiff, Int.reduceLT, Int.reduceLE, Int.reduceEq, Int.reduceToNat, List.append_assoc, List.length_append, Vm.get_app, Vm.set_app, Vm.get_appL, Vm.get_appL0, Vm.set_appL, Vm.set_appL0, Nat.le_refl, Nat.le_add_right, okAt])
theorem TAll_ok (b : Nat) (h : Hp) (t k : Nat) (l : List Vault) (ho : TR h t k l) (hl : l.length ≤ 1000) (hs : ∀ v ∈ l, v.secret.length ≤ 64) :
    run fns pr b 13 [.ptr t [0] 1] h = some (.imm false (some 29) (l.map Vault.enc), h) := by
  refine Vm.runP (nt := 22) rfl fit13 (by simp) ?_
  have htl := ho.lt
  obtain ⟨x, h1, hh⟩ := ho
  have hx : SR h x (some 29) (l.map Vault.enc) := by
    rcases hh with ⟨rfl, rfl, _⟩ | ⟨rfl, _, h3⟩
    · exact .inl ⟨_, rfl⟩
    · exact SR_ref h3 (by simp)
  have hty := hx.ty
  have hlen := fun cf base h0 => hx.o_len (cf := cf) (base := base) (h := h0)
  simp only [List.length_map] at hlen
  have hvb : (0 : Nat) = 0 := rfl
  try simp only [B13, B13R0, B13L0, h1, hty, hlen, go_sem, V.s.injEq, Value.bool.injEq, ↓reduceIte, Nat.reduceEqDiff, Nat.reduceBEq, Nat.reduceAdd, Nat.reduceSub, Nat.reduceLT, Nat.reduceLeDiff, Int.reduceLT, Int.reduceLE, Int.reduceEq, Int.reduceToNat, List.append_assoc, List.length_append, Vm.get_app, Vm.set_app, Vm.get_appL, Vm.get_appL0, Vm.set_appL, Vm.set_appL0, Nat.le_refl, Nat.le_add_right, okAt]
  repeat' (
    first | refine wpC_cases ?_ ?_ | refine wpU_casesT ?_ ?_ | refine wpU_casesF ?_ ?_
    all_goals intro hvc
    all_goals first | replace hvc := not_of_true hvc | replace hvc := not_of_false hvc | skip
    all_goals first | subst hvc | replace hvb := And.intro hvc hvb
    all_goals try simp only [hvb, B13, B13R0, B13L0, h1, hty, hlen, go_sem, V.s.injEq, Value.bool.injEq, ↓reduceIte, Nat.reduceEqDiff, Nat.reduceBEq, Nat.reduceAdd, Nat.reduceSub, Nat.reduceLT, Nat.reduceLeDiff, Int.reduceLT, Int.reduceLE, Int.reduceEq, Int.reduceToNat, List.append_assoc, List.length_append, Vm.get_app, Vm.set_app, Vm.get_appL, Vm.get_appL0, Vm.set_appL, Vm.set_appL0, Nat.le_refl, Nat.le_add_right, okAt])
  refine wp_for (fun m e H => ∃ i : Nat, m = l.length - i ∧ i ≤ l.length ∧ e 11 = .s (.int .i64 i) ∧ e 10 = .s (.int .i64 l.length) ∧ e 9 = x ∧ ∃ ko out, e 3 = out ∧ LR H (some 29) ko out ((l.take i).map Vault.enc) ∧ Fw [] h H ∧ h.length ≤ ko)
    (fun e H => ∃ ko out, e 3 = out ∧ LR H (some 29) ko out (l.map Vault.enc) ∧ Fw [] h H ∧ h.length ≤ ko) l.length _ _ ⟨0, by omega, by omega, ?_, ?_, ?_, h.length, .imm true (some 29) [], ?_, .inl ⟨rfl, rfl⟩, Fw.refl _ _, Nat.le_refl _⟩ ?_ ?_
  rotate_right 2
  · rintro m e H ⟨i, rfl, hi, e11, e10, e9, ko, out, e3, lr, fw, hko⟩
    by_cases c : i < l.length
    · have c' : (i : Int) < l.length := by omega
      have hv : l[i]? = some l[i] := List.getElem?_eq_getElem c
      have hvs := hs _ (List.mem_of_getElem? hv)
      have htk : l.take (i + 1) = l.take i ++ [l[i]] := by rw [List.take_add_one, hv]; rfl
      generalize l[i] = v at hv hvs htk
      have hia := fun cf base => (hx.fw fw).o_ias (cf := cf) (base := base) (k := .i64) (i := i) (by simpa using c)
      have hlo := fun cf base => (hx.fw fw).o_ld (cf := cf) (base := base) (i := i) (v := v.enc) (by rw [List.getElem?_map, hv]; rfl) rfl
      have how := fun h0 => town_ok h.length h0 false v (by omega)
      rw [← Vault.enc_F] at how
      have hwr : IntKind.i64.wrap ((i : Int) + 1) = ((i + 1 : Nat) : Int) := wrap_small (by omega)
      obtain ⟨x', H', k', hap, lr', fw', hk'⟩ := lr.app1 (T := [.cells (some 29) [v.enc], .cells (some 29) [v.enc]]) (idy := H.length + 1) (z := v.enc) (bytes := 96) hko fw (by rw [get_app]; rfl) (enc_ground v) (by simp; omega)
      have gr := enc_ground v
      have hvb : (0 : Nat) = 0 := rfl
      try simp only [e11, e10, e9, e3, c', hia, hlo, how, enc_tyV, enc_soV, hwr, hap, gr, go_sem, V.s.injEq, Value.bool.injEq, ↓reduceIte, Nat.reduceEqDiff, Nat.reduceBEq, Nat.reduceAdd, Nat.reduceSub, Nat.reduceLT, Nat.reduceLeDiff, Int.reduceLT, Int.reduceLE, Int.reduceEq, Int.reduceToNat, List.append_assoc, List.length_append, Vm.get_app, Vm.set_app, Vm.get_appL, Vm.get_appL0, Vm.set_appL, Vm.set_appL0, Nat.le_refl, Nat.le_add_right, okAt]
      repeat' (
        first | refine wpC_cases ?_ ?_ | refine wpU_casesT ?_ ?_ | refine wpU_casesF ?_ ?_
        all_goals intro hvc
        all_goals first | replace hvc := not_of_true hvc | replace hvc := not_of_false hvc | skip
        all_goals first | subst hvc | replace hvb := And.intro hvc hvb
        all_goals try simp only [hvb, e11, e10, e9, e3, c', hia, hlo, how, enc_tyV, enc_soV, hwr, hap, gr, go_sem, V.s.injEq, Value.bool.injEq, ↓reduceIte, Nat.reduceEqDiff, Nat.reduceBEq, Nat.reduceAdd, Nat.reduceSub, Nat.reduceLT, Nat.reduceLeDiff, Int.reduceLT, Int.reduceLE, Int.reduceEq, Int.reduceToNat, List.append_assoc, List.length_append, Vm.get_app, Vm.set_app, Vm.get_appL, Vm.get_appL0, Vm.set_appL, Vm.set_appL0, Nat.le_refl, Nat.le_add_right, okAt])
      exact ⟨l.length - (i + 1), by omega, i + 1, rfl, by omega, rfl, _, _, rfl, by rw [htk, List.map_append]; exact lr', fw', hk'⟩
    · have c' : ¬ (i : Int) < l.length := by omega
      obtain rfl : i = l.length := by omega
      rw [List.take_length] at lr
      have hvb : (0 : Nat) = 0 := rfl
      try simp only [e11, e10, e9, e3, c', go_sem, V.s.injEq, Value.bool.injEq, ↓reduceIte, Nat.reduceEqDiff, Nat.reduceBEq, Nat.reduceAdd, Nat.reduceSub, Nat.reduceLT, Nat.reduceLeDiff, Int.reduceLT, Int.reduceLE, Int.reduceEq, Int.reduceToNat, List.append_assoc, List.length_append, Vm.get_app, Vm.set_app, Vm.get_appL, Vm.get_appL0, Vm.set_appL, Vm.set_appL0, Nat.le_refl, Nat.le_add_right, okAt]
      repeat' (
        first | refine wpC_cases ?_ ?_ | refine wpU_casesT ?_ ?_ | refine wpU_casesF ?_ ?_
        all_goals intro hvc
        all_goals first | replace hvc := not_of_true hvc | replace hvc := not_of_false hvc | skip
        all_goals first | subst hvc | replace hvb := And.intro hvc hvb
        all_goals try simp only [hvb, e11, e10, e9, e3, c', go_sem, V.s.injEq, Value.bool.injEq, ↓reduceIte, Nat.reduceEqDiff, Nat.reduceBEq, Nat.reduceAdd, Nat.reduceSub, Nat.reduceLT, Nat.reduceLeDiff, Int.reduceLT, Int.reduceLE, Int.reduceEq, Int.reduceToNat, List.append_assoc, List.length_append, Vm.get_app, Vm.set_app, Vm.get_appL, Vm.get_appL0, Vm.set_appL, Vm.set_appL0, Nat.le_refl, Nat.le_add_right, okAt])
      exact ⟨ko, out, rfl, lr, fw, hko⟩
  · rintro e H ⟨ko, out, e3, lr, fw, hko⟩
    have hfz := lr.frz hko (encs_plain l)
    have htk := fw.take
    have hvb : (0 : Nat) = 0 := rfl
    try simp only [e3, hfz, htk, go_sem, V.s.injEq, Value.bool.injEq, ↓reduceIte, Nat.reduceEqDiff, Nat.reduceBEq, Nat.reduceAdd, Nat.reduceSub, Nat.reduceLT, Nat.reduceLeDiff, Int.reduceLT, Int.reduceLE, Int.reduceEq, Int.reduceToNat, List.append_assoc, List.length_append, Vm.get_app, Vm.set_app, Vm.get_appL, Vm.get_appL0, Vm.set_appL, Vm.set_appL0, Nat.le_refl, Nat.le_add_right, okAt]
    repeat' (
      first | refine wpC_cases ?_ ?_ | refine wpU_casesT ?_ ?_ | refine wpU_casesF ?_ ?_
      all_goals intro hvc
      all_goals first | replace hvc := not_of_true hvc | replace hvc := not_of_false hvc | skip
      all_goals first | subst hvc | replace hvb := And.intro hvc hvb
      all_goals try simp only [hvb, e3, hfz, htk, go_sem, V.s.injEq, Value.bool.injEq, ↓reduceIte, Nat.reduceEqDiff, Nat.reduceBEq, Nat.reduceAdd, Nat.reduceSub, Nat.reduceLT, Nat.reduceLeDiff, Int.reduceLT, Int.reduceLE, Int.reduceEq, Int.reduceToNat, List.append_assoc, List.length_append, Vm.get_app, Vm.set_app, Vm.get_appL, Vm.get_appL0, Vm.set_appL, Vm.set_appL0, Nat.le_refl, Nat.le_add_right, okAt])
  all_goals rfl
instance (l : List Vault) : Decidable (Rise l) := by unfold Rise; infer_instance
/-- The rows that may fill a table. -/
def rising (l : List Vault) : Bool := decide (l.length ≤ 4) && l.all rightV && decide (Rise l)
end Go.Proofs.Ytfhmclgnfabdfaa
