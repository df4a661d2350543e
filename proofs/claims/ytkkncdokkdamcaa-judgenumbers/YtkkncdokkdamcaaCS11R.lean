/- One vault, as the document says. Conditions: none. -/
import Derived.Test.YtkkncdokkdamcaaCS11
namespace Go.Proofs.Ytkkncdokkdamcaa
open Go Go.Vm Go.Proofs Go.Cl
set_option linter.unusedSimpArgs false
set_option linter.unusedVariables false
set_option maxRecDepth 100000
theorem rnumber_ok (b : Nat) (h : Hp) (n : Int) : run fns pr b 77 [.s (.int .u64 n)] h = some (.s (.bool (decide (n ≤ 1099511627776))), h) := by
  refine Vm.runP (nt := 5) rfl fit77 (by simp) ?_
  have hvb : (0 : Nat) = 0 := rfl
  try simp only [B77, go_sem, V.s.injEq, Value.bool.injEq, ↓reduceIte, Nat.reduceEqDiff, Nat.reduceBEq, Nat.reduceAdd, Nat.reduceSub, Nat.reduceLT, Nat.reduceLeDiff, Int.reduceLT, Int.reduceLE, Int.reduceEq, Int.reduceToNat, List.append_assoc, List.length_append, Vm.get_app, Vm.set_app, Vm.get_appL, Vm.get_appL0, Vm.set_appL, Vm.set_appL0, Nat.le_refl, Nat.le_add_right, okAt]
  repeat' (
    first | refine wpC_cases ?_ ?_ | refine wpU_casesT ?_ ?_ | refine wpU_casesF ?_ ?_
    all_goals intro hvc
    all_goals first | replace hvc := not_of_true hvc | replace hvc := not_of_false hvc | skip
    all_goals first | subst hvc | replace hvb := And.intro hvc hvb
    all_goals try simp only [hvb, B77, go_sem, V.s.injEq, Value.bool.injEq, ↓reduceIte, Nat.reduceEqDiff, Nat.reduceBEq, Nat.reduceAdd, Nat.reduceSub, Nat.reduceLT, Nat.reduceLeDiff, Int.reduceLT, Int.reduceLE, Int.reduceEq, Int.reduceToNat, List.append_assoc, List.length_append, Vm.get_app, Vm.set_app, Vm.get_appL, Vm.get_appL0, Vm.set_appL, Vm.set_appL0, Nat.le_refl, Nat.le_add_right, okAt])
theorem RRightRequest_ok (b : Nat) (h : Hp) (f : Bool) (q : Request) : run fns pr b 62 [q.encF f] h = some (.s (.bool (rightQ q)), h) := by
  refine Vm.runP (nt := 64) rfl fit62 (by simp) ?_
  have hw := fun h0 n => rnumber_ok h.length h0 n
  have hvb : (0 : Nat) = 0 := rfl
  try simp only [B62, Request.encF, hw, zero16_a, o_eqaB, go_sem, V.s.injEq, Value.bool.injEq, ↓reduceIte, Nat.reduceEqDiff, Nat.reduceBEq, Nat.reduceAdd, Nat.reduceSub, Nat.reduceLT, Nat.reduceLeDiff, Int.reduceLT, Int.reduceLE, Int.reduceEq, Int.reduceToNat, List.append_assoc, List.length_append, Vm.get_app, Vm.set_app, Vm.get_appL, Vm.get_appL0, Vm.set_appL, Vm.set_appL0, Nat.le_refl, Nat.le_add_right, okAt]
  repeat' (
    first | refine wpC_cases ?_ ?_ | refine wpU_casesT ?_ ?_ | refine wpU_casesF ?_ ?_
    all_goals intro hvc
    all_goals first | replace hvc := not_of_true hvc | replace hvc := not_of_false hvc | skip
    all_goals first | subst hvc | replace hvb := And.intro hvc hvb
    all_goals try simp only [hvb, B62, Request.encF, hw, zero16_a, o_eqaB, go_sem, V.s.injEq, Value.bool.injEq, ↓reduceIte, Nat.reduceEqDiff, Nat.reduceBEq, Nat.reduceAdd, Nat.reduceSub, Nat.reduceLT, Nat.reduceLeDiff, Int.reduceLT, Int.reduceLE, Int.reduceEq, Int.reduceToNat, List.append_assoc, List.length_append, Vm.get_app, Vm.set_app, Vm.get_appL, Vm.get_appL0, Vm.set_appL, Vm.set_appL0, Nat.le_refl, Nat.le_add_right, okAt])
  all_goals clear hw
  all_goals try simp only [decide_eq_true_eq, decide_eq_false_iff_not] at *
  all_goals first
    | (simp_all [rightQ, whoB, -Int.not_le, -Int.not_lt, -Nat.not_le, -Nat.not_lt, Bool.beq_eq_decide_eq]; done)
    | (simp_all [rightQ, whoB, -Int.not_le, -Int.not_lt, -Nat.not_le, -Nat.not_lt, Bool.beq_eq_decide_eq]; omega)
    | (simp_all [rightQ, whoB, Bool.beq_eq_decide_eq]; done)
    | (simp_all [rightQ, whoB, Bool.beq_eq_decide_eq]; omega)
    | skip
theorem RRightVault_ok (b : Nat) (h : Hp) (f : Bool) (v : Vault) : run fns pr b 79 [v.encF f] h = some (.s (.bool (rightV v)), h) := by
  refine Vm.runP (nt := 71) rfl fit79 (by simp) ?_
  have hw := fun h0 n => rnumber_ok h.length h0 n
  have hvb : (0 : Nat) = 0 := rfl
  try simp only [B79, Vault.encF, hw, zero16_a, o_eqaB, go_sem, V.s.injEq, Value.bool.injEq, ↓reduceIte, Nat.reduceEqDiff, Nat.reduceBEq, Nat.reduceAdd, Nat.reduceSub, Nat.reduceLT, Nat.reduceLeDiff, Int.reduceLT, Int.reduceLE, Int.reduceEq, Int.reduceToNat, List.append_assoc, List.length_append, Vm.get_app, Vm.set_app, Vm.get_appL, Vm.get_appL0, Vm.set_appL, Vm.set_appL0, Nat.le_refl, Nat.le_add_right, okAt]
  repeat' (
    first | refine wpC_cases ?_ ?_ | refine wpU_casesT ?_ ?_ | refine wpU_casesF ?_ ?_
    all_goals intro hvc
    all_goals first | replace hvc := not_of_true hvc | replace hvc := not_of_false hvc | skip
    all_goals first | subst hvc | replace hvb := And.intro hvc hvb
    all_goals try simp only [hvb, B79, Vault.encF, hw, zero16_a, o_eqaB, go_sem, V.s.injEq, Value.bool.injEq, ↓reduceIte, Nat.reduceEqDiff, Nat.reduceBEq, Nat.reduceAdd, Nat.reduceSub, Nat.reduceLT, Nat.reduceLeDiff, Int.reduceLT, Int.reduceLE, Int.reduceEq, Int.reduceToNat, List.append_assoc, List.length_append, Vm.get_app, Vm.set_app, Vm.get_appL, Vm.get_appL0, Vm.set_appL, Vm.set_appL0, Nat.le_refl, Nat.le_add_right, okAt])
  all_goals clear hw
  all_goals try simp only [decide_eq_true_eq, decide_eq_false_iff_not] at *
  all_goals first
    | (simp_all [rightV, -Int.not_le, -Int.not_lt, -Nat.not_le, -Nat.not_lt, Bool.beq_eq_decide_eq]; done)
    | (simp_all [rightV, -Int.not_le, -Int.not_lt, -Nat.not_le, -Nat.not_lt, Bool.beq_eq_decide_eq]; omega)
    | (simp_all [rightV, Bool.beq_eq_decide_eq]; done)
    | (simp_all [rightV, Bool.beq_eq_decide_eq]; omega)
    | skip
theorem RReplies_ok (b : Nat) (h : Hp) (f g : Bool) (v w : Reply) : run fns pr b 42 [v.encF f, w.encF g] h = some (.s (.bool (decide (v = w))), h) := by
  refine Vm.runP (nt := 54) rfl fit42 (by simp) ?_
  obtain ⟨a1, a2, a3, a4, a5, a6, a7⟩ := v
  obtain ⟨c1, c2, c3, c4, c5, c6, c7⟩ := w
  simp only [Reply.mk.injEq]
  have he := fun h0 base l f => (BR_imm h0 f l).o_b2s (cf := run fns pr h.length) (base := base)
  have hvb : (0 : Nat) = 0 := rfl
  try simp only [B42, Reply.encF, o_eqaB, he, go_sem, V.s.injEq, Value.bool.injEq, ↓reduceIte, Nat.reduceEqDiff, Nat.reduceBEq, Nat.reduceAdd, Nat.reduceSub, Nat.reduceLT, Nat.reduceLeDiff, Int.reduceLT, Int.reduceLE, Int.reduceEq, Int.reduceToNat, List.append_assoc, List.length_append, Vm.get_app, Vm.set_app, Vm.get_appL, Vm.get_appL0, Vm.set_appL, Vm.set_appL0, Nat.le_refl, Nat.le_add_right, okAt]
  repeat' (
    first | refine wpC_cases ?_ ?_ | refine wpU_casesT ?_ ?_ | refine wpU_casesF ?_ ?_
    all_goals intro hvc
    all_goals first | replace hvc := not_of_true hvc | replace hvc := not_of_false hvc | skip
    all_goals first | subst hvc | replace hvb := And.intro hvc hvb
    all_goals try simp only [hvb, B42, Reply.encF, o_eqaB, he, go_sem, V.s.injEq, Value.bool.injEq, ↓reduceIte, Nat.reduceEqDiff, Nat.reduceBEq, Nat.reduceAdd, Nat.reduceSub, Nat.reduceLT, Nat.reduceLeDiff, Int.reduceLT, Int.reduceLE, Int.reduceEq, Int.reduceToNat, List.append_assoc, List.length_append, Vm.get_app, Vm.set_app, Vm.get_appL, Vm.get_appL0, Vm.set_appL, Vm.set_appL0, Nat.le_refl, Nat.le_add_right, okAt])
  all_goals (clear he; simp_all [Bool.beq_eq_decide_eq])
theorem rfresh_ok (b : Nat) (h : Hp) (f g : Bool) (v : Vault) (q : Request) (hg : 0 ≤ v.gen ∧ v.gen < 1099511627776) : run fns pr b 85 [v.encF f, q.encF g] h = some ((⟨q.iD, v.gen + 1, q.pin, q.secret, q.limit, 0, q.owner, false, false⟩ : Vault).enc, h) := by
  refine Vm.runP (nt := 19) rfl fit85 (by simp) ?_
  have hw : IntKind.u64.wrap (v.gen + 1) = v.gen + 1 := wrap_u64 (by omega) (by omega)
  have hvb : (0 : Nat) = 0 := rfl
  try simp only [B85, Vault.encF, Request.encF, Vault.enc, hw, go_sem, V.s.injEq, Value.bool.injEq, ↓reduceIte, Nat.reduceEqDiff, Nat.reduceBEq, Nat.reduceAdd, Nat.reduceSub, Nat.reduceLT, Nat.reduceLeDiff, Int.reduceLT, Int.reduceLE, Int.reduceEq, Int.reduceToNat, List.append_assoc, List.length_append, Vm.get_app, Vm.set_app, Vm.get_appL, Vm.get_appL0, Vm.set_appL, Vm.set_appL0, Nat.le_refl, Nat.le_add_right, okAt]
  repeat' (
    first | refine wpC_cases ?_ ?_ | refine wpU_casesT ?_ ?_ | refine wpU_casesF ?_ ?_
    all_goals intro hvc
    all_goals first | replace hvc := not_of_true hvc | replace hvc := not_of_false hvc | skip
    all_goals first | subst hvc | replace hvb := And.intro hvc hvb
    all_goals try simp only [hvb, B85, Vault.encF, Request.encF, Vault.enc, hw, go_sem, V.s.injEq, Value.bool.injEq, ↓reduceIte, Nat.reduceEqDiff, Nat.reduceBEq, Nat.reduceAdd, Nat.reduceSub, Nat.reduceLT, Nat.reduceLeDiff, Int.reduceLT, Int.reduceLE, Int.reduceEq, Int.reduceToNat, List.append_assoc, List.length_append, Vm.get_app, Vm.set_app, Vm.get_appL, Vm.get_appL0, Vm.set_appL, Vm.set_appL0, Nat.le_refl, Nat.le_add_right, okAt])
theorem ragain_ok (b : Nat) (h : Hp) (f f' g : Bool) (v : Vault) (q : Request) (r : Reply) (hg : 0 ≤ v.gen) : run fns pr b 80 [v.encF f, q.encF f', r.encF g] h = some (outV (escV v q r), h) := by
  refine Vm.runP (nt := 26) rfl fit80 (by simp) ?_
  have hc := fun h0 hh => rfresh_ok h.length h0 f f' v q hh
  have hw : v.gen < 1099511627776 → IntKind.u64.wrap (v.gen + 1) = v.gen + 1 := fun _ => wrap_u64 (by omega) (by omega)
  obtain ⟨iD, gen, pin, se, li, us, ow, go, wi⟩ := v
  simp only [Vault.encF, Request.encF, Vault.enc] at hc
  by_cases c : 1099511627776 ≤ gen
  · have hvb : (0 : Nat) = 0 := rfl
    try simp only [B80, Vault.encF, Request.encF, Reply.encF, c, go_sem, V.s.injEq, Value.bool.injEq, ↓reduceIte, Nat.reduceEqDiff, Nat.reduceBEq, Nat.reduceAdd, Nat.reduceSub, Nat.reduceLT, Nat.reduceLeDiff, Int.reduceLT, Int.reduceLE, Int.reduceEq, Int.reduceToNat, List.append_assoc, List.length_append, Vm.get_app, Vm.set_app, Vm.get_appL, Vm.get_appL0, Vm.set_appL, Vm.set_appL0, Nat.le_refl, Nat.le_add_right, okAt]
    repeat' (
      first | refine wpC_cases ?_ ?_ | refine wpU_casesT ?_ ?_ | refine wpU_casesF ?_ ?_
      all_goals intro hvc
      all_goals first | replace hvc := not_of_true hvc | replace hvc := not_of_false hvc | skip
      all_goals first | subst hvc | replace hvb := And.intro hvc hvb
      all_goals try simp only [hvb, B80, Vault.encF, Request.encF, Reply.encF, c, go_sem, V.s.injEq, Value.bool.injEq, ↓reduceIte, Nat.reduceEqDiff, Nat.reduceBEq, Nat.reduceAdd, Nat.reduceSub, Nat.reduceLT, Nat.reduceLeDiff, Int.reduceLT, Int.reduceLE, Int.reduceEq, Int.reduceToNat, List.append_assoc, List.length_append, Vm.get_app, Vm.set_app, Vm.get_appL, Vm.get_appL0, Vm.set_appL, Vm.set_appL0, Nat.le_refl, Nat.le_add_right, okAt])
    all_goals clear hc hw
    all_goals try simp only [decide_eq_true_eq, decide_eq_false_iff_not] at *
    all_goals first
      | (simp_all [escV, outV, Vault.enc, Reply.enc, -Int.not_le, -Int.not_lt, -Nat.not_le, -Nat.not_lt, Bool.beq_eq_decide_eq]; done)
      | (simp_all [escV, outV, Vault.enc, Reply.enc, -Int.not_le, -Int.not_lt, -Nat.not_le, -Nat.not_lt, Bool.beq_eq_decide_eq]; omega)
      | (simp_all [escV, outV, Vault.enc, Reply.enc, Bool.beq_eq_decide_eq]; done)
      | (simp_all [escV, outV, Vault.enc, Reply.enc, Bool.beq_eq_decide_eq]; omega)
      | skip
  · have hc' := fun h0 => hc h0 ⟨hg, show gen < 1099511627776 by omega⟩
    have hw' := hw (show gen < 1099511627776 by omega)
    clear hc hw
    have hvb : (0 : Nat) = 0 := rfl
    try simp only [B80, Vault.encF, Request.encF, Reply.encF, c, hc', hw', go_sem, V.s.injEq, Value.bool.injEq, ↓reduceIte, Nat.reduceEqDiff, Nat.reduceBEq, Nat.reduceAdd, Nat.reduceSub, Nat.reduceLT, Nat.reduceLeDiff, Int.reduceLT, Int.reduceLE, Int.reduceEq, Int.reduceToNat, List.append_assoc, List.length_append, Vm.get_app, Vm.set_app, Vm.get_appL, Vm.get_appL0, Vm.set_appL, Vm.set_appL0, Nat.le_refl, Nat.le_add_right, okAt]
    repeat' (
      first | refine wpC_cases ?_ ?_ | refine wpU_casesT ?_ ?_ | refine wpU_casesF ?_ ?_
      all_goals intro hvc
      all_goals first | replace hvc := not_of_true hvc | replace hvc := not_of_false hvc | skip
      all_goals first | subst hvc | replace hvb := And.intro hvc hvb
      all_goals try simp only [hvb, B80, Vault.encF, Request.encF, Reply.encF, c, hc', hw', go_sem, V.s.injEq, Value.bool.injEq, ↓reduceIte, Nat.reduceEqDiff, Nat.reduceBEq, Nat.reduceAdd, Nat.reduceSub, Nat.reduceLT, Nat.reduceLeDiff, Int.reduceLT, Int.reduceLE, Int.reduceEq, Int.reduceToNat, List.append_assoc, List.length_append, Vm.get_app, Vm.set_app, Vm.get_appL, Vm.get_appL0, Vm.set_appL, Vm.set_appL0, Nat.le_refl, Nat.le_add_right, okAt])
    all_goals clear hc'
    all_goals try simp only [decide_eq_true_eq, decide_eq_false_iff_not] at *
    all_goals first
      | (simp_all [escV, outV, Vault.enc, Reply.enc, -Int.not_le, -Int.not_lt, -Nat.not_le, -Nat.not_lt, Bool.beq_eq_decide_eq]; done)
      | (simp_all [escV, outV, Vault.enc, Reply.enc, -Int.not_le, -Int.not_lt, -Nat.not_le, -Nat.not_lt, Bool.beq_eq_decide_eq]; omega)
      | (simp_all [escV, outV, Vault.enc, Reply.enc, Bool.beq_eq_decide_eq]; done)
      | (simp_all [escV, outV, Vault.enc, Reply.enc, Bool.beq_eq_decide_eq]; omega)
      | skip
theorem rguess_ok (b : Nat) (h : Hp) (f f' g : Bool) (v : Vault) (q : Request) (r : Reply) (hr : rightV v = true) (hg : v.gone = false) (hr0 : r.left = 0) : run fns pr b 81 [v.encF f, q.encF f', r.encF g] h = some (outV (recV v q r), h) := by
  refine Vm.runP (nt := 50) rfl fit81 (by simp) ?_
  have hu := right_used hr hg
  have hs : v.secret.length ≤ 64 := by simp [rightV, hg] at hr; omega
  have hw : IntKind.i64.wrap (v.used + 1) = v.used + 1 := wrap_i64 (by omega) (by omega)
  have hw2 : IntKind.i64.wrap (v.limit - v.used) = v.limit - v.used := wrap_i64 (by omega) (by omega)
  have hw3 : IntKind.i64.wrap (v.limit - (v.used + 1)) = v.limit - (v.used + 1) := wrap_i64 (by omega) (by omega)
  have hl : leftV v = v.limit - v.used := by simp [leftV, hg, hr]
  have hl2 : v.used + 1 ≠ v.limit → leftV (usedV v) = v.limit - (v.used + 1) := fun hne => by
    have : rightV (usedV v) = true := by
      clear hw hw2 hw3 hl
      simp [rightV, hg] at hr
      simp [rightV, usedV, hg, hr]; omega
    simp only [leftV, this]
    simp [usedV, hg]
  clear hr
  obtain ⟨iD, gen, pin, se, li, us, ow, go, wi⟩ := v
  obtain ⟨op, id', pin', se', li', ow', ky, cl, nu⟩ := q
  obtain ⟨why, id1, gen1, left1, se1, cl1, nu1⟩ := r
  simp only [usedV] at hl2
  simp only at hw hw2 hw3 hl hl2 hg hu hs
  simp only at hr0
  subst hr0
  by_cases hla : us + 1 = li
  · have hle : li ≤ us + 1 := by omega
    have hz : li - (us + 1) = 0 := by omega
    by_cases hse : se = []
    · subst hse
      have hvb : (0 : Nat) = 0 := rfl
      try simp only [B81, Vault.encF, Request.encF, Reply.encF, o_eqaB, hw, hw2, hw3, hle, app_none, List.map_nil, zero16_a, lt_self_add, frz_refE, go_sem, V.s.injEq, Value.bool.injEq, ↓reduceIte, Nat.reduceEqDiff, Nat.reduceBEq, Nat.reduceAdd, Nat.reduceSub, Nat.reduceLT, Nat.reduceLeDiff, Int.reduceLT, Int.reduceLE, Int.reduceEq, Int.reduceToNat, List.append_assoc, List.length_append, Vm.get_app, Vm.set_app, Vm.get_appL, Vm.get_appL0, Vm.set_appL, Vm.set_appL0, Nat.le_refl, Nat.le_add_right, okAt]
      repeat' (
        first | refine wpC_cases ?_ ?_ | refine wpU_casesT ?_ ?_ | refine wpU_casesF ?_ ?_
        all_goals intro hvc
        all_goals first | replace hvc := not_of_true hvc | replace hvc := not_of_false hvc | skip
        all_goals first | subst hvc | replace hvb := And.intro hvc hvb
        all_goals try simp only [hvb, B81, Vault.encF, Request.encF, Reply.encF, o_eqaB, hw, hw2, hw3, hle, app_none, List.map_nil, zero16_a, lt_self_add, frz_refE, go_sem, V.s.injEq, Value.bool.injEq, ↓reduceIte, Nat.reduceEqDiff, Nat.reduceBEq, Nat.reduceAdd, Nat.reduceSub, Nat.reduceLT, Nat.reduceLeDiff, Int.reduceLT, Int.reduceLE, Int.reduceEq, Int.reduceToNat, List.append_assoc, List.length_append, Vm.get_app, Vm.set_app, Vm.get_appL, Vm.get_appL0, Vm.set_appL, Vm.set_appL0, Nat.le_refl, Nat.le_add_right, okAt])
      all_goals try simp only [decide_eq_true_eq, decide_eq_false_iff_not] at *
      all_goals first
        | (simp_all [recV, outV, Vault.enc, Reply.enc, usedV, goneV, -Int.not_le, -Int.not_lt, -Nat.not_le, -Nat.not_lt, Bool.beq_eq_decide_eq]; done)
        | (simp_all [recV, outV, Vault.enc, Reply.enc, usedV, goneV, -Int.not_le, -Int.not_lt, -Nat.not_le, -Nat.not_lt, Bool.beq_eq_decide_eq]; omega)
        | (simp_all [recV, outV, Vault.enc, Reply.enc, usedV, goneV, Bool.beq_eq_decide_eq]; done)
        | (simp_all [recV, outV, Vault.enc, Reply.enc, usedV, goneV, Bool.beq_eq_decide_eq]; omega)
        | skip
    · have happ := fun cf base h => app_bytes (cf := cf) (base := base) (h := h) (f := f) hse (by omega)
      have hvb : (0 : Nat) = 0 := rfl
      try simp only [B81, Vault.encF, Request.encF, Reply.encF, o_eqaB, hw, hw2, hw3, hle, happ, zero16_a, lt_self_add, frz_refE, rowOf_eq, rowR_some, frzW_bytes, go_sem, V.s.injEq, Value.bool.injEq, ↓reduceIte, Nat.reduceEqDiff, Nat.reduceBEq, Nat.reduceAdd, Nat.reduceSub, Nat.reduceLT, Nat.reduceLeDiff, Int.reduceLT, Int.reduceLE, Int.reduceEq, Int.reduceToNat, List.append_assoc, List.length_append, Vm.get_app, Vm.set_app, Vm.get_appL, Vm.get_appL0, Vm.set_appL, Vm.set_appL0, Nat.le_refl, Nat.le_add_right, okAt]
      repeat' (
        first | refine wpC_cases ?_ ?_ | refine wpU_casesT ?_ ?_ | refine wpU_casesF ?_ ?_
        all_goals intro hvc
        all_goals first | replace hvc := not_of_true hvc | replace hvc := not_of_false hvc | skip
        all_goals first | subst hvc | replace hvb := And.intro hvc hvb
        all_goals try simp only [hvb, B81, Vault.encF, Request.encF, Reply.encF, o_eqaB, hw, hw2, hw3, hle, happ, zero16_a, lt_self_add, frz_refE, rowOf_eq, rowR_some, frzW_bytes, go_sem, V.s.injEq, Value.bool.injEq, ↓reduceIte, Nat.reduceEqDiff, Nat.reduceBEq, Nat.reduceAdd, Nat.reduceSub, Nat.reduceLT, Nat.reduceLeDiff, Int.reduceLT, Int.reduceLE, Int.reduceEq, Int.reduceToNat, List.append_assoc, List.length_append, Vm.get_app, Vm.set_app, Vm.get_appL, Vm.get_appL0, Vm.set_appL, Vm.set_appL0, Nat.le_refl, Nat.le_add_right, okAt])
      all_goals clear happ
      all_goals try simp only [decide_eq_true_eq, decide_eq_false_iff_not] at *
      all_goals first
        | (simp_all [recV, outV, Vault.enc, Reply.enc, usedV, goneV, -Int.not_le, -Int.not_lt, -Nat.not_le, -Nat.not_lt, Bool.beq_eq_decide_eq]; done)
        | (simp_all [recV, outV, Vault.enc, Reply.enc, usedV, goneV, -Int.not_le, -Int.not_lt, -Nat.not_le, -Nat.not_lt, Bool.beq_eq_decide_eq]; omega)
        | (simp_all [recV, outV, Vault.enc, Reply.enc, usedV, goneV, Bool.beq_eq_decide_eq]; done)
        | (simp_all [recV, outV, Vault.enc, Reply.enc, usedV, goneV, Bool.beq_eq_decide_eq]; omega)
        | skip
  · have hle : ¬ li ≤ us + 1 := by omega
    have hl2 := hl2 hla
    by_cases hse : se = []
    · subst hse
      have hvb : (0 : Nat) = 0 := rfl
      try simp only [B81, Vault.encF, Request.encF, Reply.encF, o_eqaB, hw, hw2, hw3, hle, app_none, List.map_nil, zero16_a, lt_self_add, frz_refE, go_sem, V.s.injEq, Value.bool.injEq, ↓reduceIte, Nat.reduceEqDiff, Nat.reduceBEq, Nat.reduceAdd, Nat.reduceSub, Nat.reduceLT, Nat.reduceLeDiff, Int.reduceLT, Int.reduceLE, Int.reduceEq, Int.reduceToNat, List.append_assoc, List.length_append, Vm.get_app, Vm.set_app, Vm.get_appL, Vm.get_appL0, Vm.set_appL, Vm.set_appL0, Nat.le_refl, Nat.le_add_right, okAt]
      repeat' (
        first | refine wpC_cases ?_ ?_ | refine wpU_casesT ?_ ?_ | refine wpU_casesF ?_ ?_
        all_goals intro hvc
        all_goals first | replace hvc := not_of_true hvc | replace hvc := not_of_false hvc | skip
        all_goals first | subst hvc | replace hvb := And.intro hvc hvb
        all_goals try simp only [hvb, B81, Vault.encF, Request.encF, Reply.encF, o_eqaB, hw, hw2, hw3, hle, app_none, List.map_nil, zero16_a, lt_self_add, frz_refE, go_sem, V.s.injEq, Value.bool.injEq, ↓reduceIte, Nat.reduceEqDiff, Nat.reduceBEq, Nat.reduceAdd, Nat.reduceSub, Nat.reduceLT, Nat.reduceLeDiff, Int.reduceLT, Int.reduceLE, Int.reduceEq, Int.reduceToNat, List.append_assoc, List.length_append, Vm.get_app, Vm.set_app, Vm.get_appL, Vm.get_appL0, Vm.set_appL, Vm.set_appL0, Nat.le_refl, Nat.le_add_right, okAt])
      all_goals try simp only [decide_eq_true_eq, decide_eq_false_iff_not] at *
      all_goals first
        | (simp_all [recV, outV, Vault.enc, Reply.enc, usedV, goneV, -Int.not_le, -Int.not_lt, -Nat.not_le, -Nat.not_lt, Bool.beq_eq_decide_eq]; done)
        | (simp_all [recV, outV, Vault.enc, Reply.enc, usedV, goneV, -Int.not_le, -Int.not_lt, -Nat.not_le, -Nat.not_lt, Bool.beq_eq_decide_eq]; omega)
        | (simp_all [recV, outV, Vault.enc, Reply.enc, usedV, goneV, Bool.beq_eq_decide_eq]; done)
        | (simp_all [recV, outV, Vault.enc, Reply.enc, usedV, goneV, Bool.beq_eq_decide_eq]; omega)
        | skip
    · have happ := fun cf base h => app_bytes (cf := cf) (base := base) (h := h) (f := f) hse (by omega)
      have hvb : (0 : Nat) = 0 := rfl
      try simp only [B81, Vault.encF, Request.encF, Reply.encF, o_eqaB, hw, hw2, hw3, hle, happ, zero16_a, lt_self_add, frz_refE, rowOf_eq, rowR_some, frzW_bytes, go_sem, V.s.injEq, Value.bool.injEq, ↓reduceIte, Nat.reduceEqDiff, Nat.reduceBEq, Nat.reduceAdd, Nat.reduceSub, Nat.reduceLT, Nat.reduceLeDiff, Int.reduceLT, Int.reduceLE, Int.reduceEq, Int.reduceToNat, List.append_assoc, List.length_append, Vm.get_app, Vm.set_app, Vm.get_appL, Vm.get_appL0, Vm.set_appL, Vm.set_appL0, Nat.le_refl, Nat.le_add_right, okAt]
      repeat' (
        first | refine wpC_cases ?_ ?_ | refine wpU_casesT ?_ ?_ | refine wpU_casesF ?_ ?_
        all_goals intro hvc
        all_goals first | replace hvc := not_of_true hvc | replace hvc := not_of_false hvc | skip
        all_goals first | subst hvc | replace hvb := And.intro hvc hvb
        all_goals try simp only [hvb, B81, Vault.encF, Request.encF, Reply.encF, o_eqaB, hw, hw2, hw3, hle, happ, zero16_a, lt_self_add, frz_refE, rowOf_eq, rowR_some, frzW_bytes, go_sem, V.s.injEq, Value.bool.injEq, ↓reduceIte, Nat.reduceEqDiff, Nat.reduceBEq, Nat.reduceAdd, Nat.reduceSub, Nat.reduceLT, Nat.reduceLeDiff, Int.reduceLT, Int.reduceLE, Int.reduceEq, Int.reduceToNat, List.append_assoc, List.length_append, Vm.get_app, Vm.set_app, Vm.get_appL, Vm.get_appL0, Vm.set_appL, Vm.set_appL0, Nat.le_refl, Nat.le_add_right, okAt])
      all_goals clear happ
      all_goals try simp only [decide_eq_true_eq, decide_eq_false_iff_not] at *
      all_goals first
        | (simp_all [recV, outV, Vault.enc, Reply.enc, usedV, goneV, -Int.not_le, -Int.not_lt, -Nat.not_le, -Nat.not_lt, Bool.beq_eq_decide_eq]; done)
        | (simp_all [recV, outV, Vault.enc, Reply.enc, usedV, goneV, -Int.not_le, -Int.not_lt, -Nat.not_le, -Nat.not_lt, Bool.beq_eq_decide_eq]; omega)
        | (simp_all [recV, outV, Vault.enc, Reply.enc, usedV, goneV, Bool.beq_eq_decide_eq]; done)
        | (simp_all [recV, outV, Vault.enc, Reply.enc, usedV, goneV, Bool.beq_eq_decide_eq]; omega)
        | skip
theorem RDo_good (b : Nat) (h : Hp) (f g : Bool) (v : Vault) (q : Request) (hg : 0 ≤ v.gen) (hq : rightQ q = true) (hz : v = zeroV ∨ rightV v = true ∧ v.iD = q.iD) : run fns pr b 63 [v.encF f, q.encF g] h = some (outV (doG v q), h) := by
  unfold doG
  refine Vm.runP (nt := 112) rfl fit63 (by simp) ?_
  have h1 := fun b h0 f x3_0 x3_1 x3_2 x3_3 x3_4 x3_5 x3_6 x3_7 x3_8 => None_ok b h0 f ⟨x3_0, x3_1, x3_2, x3_3, x3_4, x3_5, x3_6, x3_7, x3_8⟩
  simp only [Vm.enc_unit, Q.enc, Vault.encF, Vault.enc, Request.encF, Request.enc, Reply.encF, Reply.enc, Draw.enc, Deed.enc] at h1
  have h2 := fun b h0 f x3_0 x3_1 x3_2 x3_3 x3_4 x3_5 x3_6 x3_7 x3_8 => RRightRequest_ok b h0 f ⟨x3_0, x3_1, x3_2, x3_3, x3_4, x3_5, x3_6, x3_7, x3_8⟩
  simp only [Vm.enc_unit, Q.enc, Vault.encF, Vault.enc, Request.encF, Request.enc, Reply.encF, Reply.enc, Draw.enc, Deed.enc] at h2
  have h3 := fun b h0 f x3_0 x3_1 x3_2 x3_3 x3_4 x3_5 x3_6 x3_7 x3_8 => RRightVault_ok b h0 f ⟨x3_0, x3_1, x3_2, x3_3, x3_4, x3_5, x3_6, x3_7, x3_8⟩
  simp only [Vm.enc_unit, Q.enc, Vault.encF, Vault.enc, Request.encF, Request.enc, Reply.encF, Reply.enc, Draw.enc, Deed.enc] at h3
  have h5 := fun b h0 f f' g x1 x2 x3 x4 x6 x7 => ragain_ok b h0 f f' g v q ⟨x1, x2, x3, x4, [], x6, x7⟩ hg
  have h7 : missV v q = 0 → ∀ b h0 f f' g x1 x2 x3 x6 x7, run fns pr b 81 [v.encF f, q.encF f', Reply.encF g ⟨x1, x2, x3, 0, [], x6, x7⟩] h0 = some (outV (recV v q ⟨x1, x2, x3, 0, [], x6, x7⟩), h0) := by
    intro hm b h0 f f' g x1 x2 x3 x6 x7
    simp only [missV] at hm
    rcases hz with rfl | hz
    · simp [zeroV] at hm
    · refine rguess_ok b h0 f f' g v q _ hz.1 ?_ rfl
      cases hgo : v.gone with
      | false => rfl
      | true => rw [if_neg (by have := right_goneV hz.1; omega), if_pos hgo] at hm; cases hm
  have hi : v ≠ zeroV → rightV v = true ∧ v.iD = q.iD := fun h => hz.resolve_left h
  have hgz : (v.gen = 0) = (v = zeroV) := by
    refine propext ⟨fun h => ?_, fun h => by rw [h]; rfl⟩
    rcases hz with h1 | h1
    · exact h1
    · have := right_goneV h1.1; omega
  clear hz
  have hmv : missV v q = if v = zeroV then 22 else if v.gone = true then 24 else if q.op ≠ 2 ∧ q.owner ≠ v.owner then 25 else 0 := by
    simp only [missV, hgz]
  generalize missV v q = m at *
  obtain ⟨iD, gen, pin, se, li, us, ow, go, wi⟩ := v
  obtain ⟨op, id', pin', se', li', ow', ky, cl, nu⟩ := q
  simp only [Vault.encF, Request.encF, Reply.encF, List.map_nil, outV] at h5 h7
  simp only [ne_eq] at hi ⊢
  clear hgz
  by_cases hzz : (⟨iD, gen, pin, se, li, us, ow, go, wi⟩ : Vault) = zeroV
  · rw [if_pos hzz] at hmv
    subst hmv
    clear h7 hi
    obtain ⟨rfl, rfl, rfl, rfl, rfl, rfl, rfl, rfl, rfl⟩ : iD = zero4 ∧ gen = 0 ∧ pin = zero16 ∧ se = [] ∧ li = 0 ∧ us = 0 ∧ ow = zero16 ∧ go = false ∧ wi = false := by simpa [zeroV] using hzz
    have h1z := fun b h0 f => h1 b h0 f zero4 0 zero16 [] 0 0 zero16 false false
    simp only [List.map_nil] at h1z h5
    clear h1
    by_cases c1 : op = 1
    · subst c1
      have hvb : (0 : Nat) = 0 := rfl
      try simp only [B63, Vault.encF, Request.encF, Reply.encF, o_eqaB, zero4_a, zero16_a, h1z, h2, h3, hq, enc_tyV, enc_tyR, enc_soV, enc_soR, enc_frV, enc_frR, hzz, h5, go_sem, V.s.injEq, Value.bool.injEq, ↓reduceIte, Nat.reduceEqDiff, Nat.reduceBEq, Nat.reduceAdd, Nat.reduceSub, Nat.reduceLT, Nat.reduceLeDiff, Int.reduceLT, Int.reduceLE, Int.reduceEq, Int.reduceToNat, List.append_assoc, List.length_append, Vm.get_app, Vm.set_app, Vm.get_appL, Vm.get_appL0, Vm.set_appL, Vm.set_appL0, Nat.le_refl, Nat.le_add_right, okAt]
      repeat' (
        first | refine wpC_cases ?_ ?_ | refine wpU_casesT ?_ ?_ | refine wpU_casesF ?_ ?_
        all_goals intro hvc
        all_goals first | replace hvc := not_of_true hvc | replace hvc := not_of_false hvc | skip
        all_goals first | subst hvc | replace hvb := And.intro hvc hvb
        all_goals try simp only [hvb, B63, Vault.encF, Request.encF, Reply.encF, o_eqaB, zero4_a, zero16_a, h1z, h2, h3, hq, enc_tyV, enc_tyR, enc_soV, enc_soR, enc_frV, enc_frR, hzz, h5, go_sem, V.s.injEq, Value.bool.injEq, ↓reduceIte, Nat.reduceEqDiff, Nat.reduceBEq, Nat.reduceAdd, Nat.reduceSub, Nat.reduceLT, Nat.reduceLeDiff, Int.reduceLT, Int.reduceLE, Int.reduceEq, Int.reduceToNat, List.append_assoc, List.length_append, Vm.get_app, Vm.set_app, Vm.get_appL, Vm.get_appL0, Vm.set_appL, Vm.set_appL0, Nat.le_refl, Nat.le_add_right, okAt])
      all_goals clear h5
      all_goals clear h1z h2 h3
      all_goals simp_all [outV, Vault.enc, Reply.enc, goneV, escV, zeroV]
    · clear h5
      have hvb : (0 : Nat) = 0 := rfl
      try simp only [B63, Vault.encF, Request.encF, Reply.encF, o_eqaB, zero4_a, zero16_a, h1z, h2, h3, hq, enc_tyV, enc_tyR, enc_soV, enc_soR, enc_frV, enc_frR, hzz, c1, go_sem, V.s.injEq, Value.bool.injEq, ↓reduceIte, Nat.reduceEqDiff, Nat.reduceBEq, Nat.reduceAdd, Nat.reduceSub, Nat.reduceLT, Nat.reduceLeDiff, Int.reduceLT, Int.reduceLE, Int.reduceEq, Int.reduceToNat, List.append_assoc, List.length_append, Vm.get_app, Vm.set_app, Vm.get_appL, Vm.get_appL0, Vm.set_appL, Vm.set_appL0, Nat.le_refl, Nat.le_add_right, okAt]
      repeat' (
        first | refine wpC_cases ?_ ?_ | refine wpU_casesT ?_ ?_ | refine wpU_casesF ?_ ?_
        all_goals intro hvc
        all_goals first | replace hvc := not_of_true hvc | replace hvc := not_of_false hvc | skip
        all_goals first | subst hvc | replace hvb := And.intro hvc hvb
        all_goals try simp only [hvb, B63, Vault.encF, Request.encF, Reply.encF, o_eqaB, zero4_a, zero16_a, h1z, h2, h3, hq, enc_tyV, enc_tyR, enc_soV, enc_soR, enc_frV, enc_frR, hzz, c1, go_sem, V.s.injEq, Value.bool.injEq, ↓reduceIte, Nat.reduceEqDiff, Nat.reduceBEq, Nat.reduceAdd, Nat.reduceSub, Nat.reduceLT, Nat.reduceLeDiff, Int.reduceLT, Int.reduceLE, Int.reduceEq, Int.reduceToNat, List.append_assoc, List.length_append, Vm.get_app, Vm.set_app, Vm.get_appL, Vm.get_appL0, Vm.set_appL, Vm.set_appL0, Nat.le_refl, Nat.le_add_right, okAt])
      all_goals clear h1z h2 h3
      all_goals simp_all [outV, Vault.enc, Reply.enc, goneV, escV, zeroV]
  · rw [if_neg hzz] at hmv
    obtain ⟨hi1, rfl⟩ : rightV ⟨iD, gen, pin, se, li, us, ow, go, wi⟩ = true ∧ iD = id' := hi hzz
    clear hi
    cases go with
    | true =>
      rw [if_pos rfl] at hmv
      subst hmv
      clear h7
      by_cases c1 : op = 1
      · subst c1
        have hvb : (0 : Nat) = 0 := rfl
        try simp only [B63, Vault.encF, Request.encF, Reply.encF, o_eqaB, zero4_a, zero16_a, h1, h2, h3, hq, enc_tyV, enc_tyR, enc_soV, enc_soR, enc_frV, enc_frR, hzz, hi1, h5, go_sem, V.s.injEq, Value.bool.injEq, ↓reduceIte, Nat.reduceEqDiff, Nat.reduceBEq, Nat.reduceAdd, Nat.reduceSub, Nat.reduceLT, Nat.reduceLeDiff, Int.reduceLT, Int.reduceLE, Int.reduceEq, Int.reduceToNat, List.append_assoc, List.length_append, Vm.get_app, Vm.set_app, Vm.get_appL, Vm.get_appL0, Vm.set_appL, Vm.set_appL0, Nat.le_refl, Nat.le_add_right, okAt]
        repeat' (
          first | refine wpC_cases ?_ ?_ | refine wpU_casesT ?_ ?_ | refine wpU_casesF ?_ ?_
          all_goals intro hvc
          all_goals first | replace hvc := not_of_true hvc | replace hvc := not_of_false hvc | skip
          all_goals first | subst hvc | replace hvb := And.intro hvc hvb
          all_goals try simp only [hvb, B63, Vault.encF, Request.encF, Reply.encF, o_eqaB, zero4_a, zero16_a, h1, h2, h3, hq, enc_tyV, enc_tyR, enc_soV, enc_soR, enc_frV, enc_frR, hzz, hi1, h5, go_sem, V.s.injEq, Value.bool.injEq, ↓reduceIte, Nat.reduceEqDiff, Nat.reduceBEq, Nat.reduceAdd, Nat.reduceSub, Nat.reduceLT, Nat.reduceLeDiff, Int.reduceLT, Int.reduceLE, Int.reduceEq, Int.reduceToNat, List.append_assoc, List.length_append, Vm.get_app, Vm.set_app, Vm.get_appL, Vm.get_appL0, Vm.set_appL, Vm.set_appL0, Nat.le_refl, Nat.le_add_right, okAt])
        all_goals clear h5
        all_goals clear h1 h2 h3
        all_goals try simp only [decide_eq_true_eq, decide_eq_false_iff_not] at *
        all_goals first
          | (simp_all [outV, Vault.enc, Reply.enc, goneV, -Int.not_le, -Int.not_lt, -Nat.not_le, -Nat.not_lt, Bool.beq_eq_decide_eq]; done)
          | (simp_all [outV, Vault.enc, Reply.enc, goneV, -Int.not_le, -Int.not_lt, -Nat.not_le, -Nat.not_lt, Bool.beq_eq_decide_eq]; omega)
          | (simp_all [outV, Vault.enc, Reply.enc, goneV, Bool.beq_eq_decide_eq]; done)
          | (simp_all [outV, Vault.enc, Reply.enc, goneV, Bool.beq_eq_decide_eq]; omega)
          | skip
      · clear h5
        have hvb : (0 : Nat) = 0 := rfl
        try simp only [B63, Vault.encF, Request.encF, Reply.encF, o_eqaB, zero4_a, zero16_a, h1, h2, h3, hq, enc_tyV, enc_tyR, enc_soV, enc_soR, enc_frV, enc_frR, hzz, hi1, c1, go_sem, V.s.injEq, Value.bool.injEq, ↓reduceIte, Nat.reduceEqDiff, Nat.reduceBEq, Nat.reduceAdd, Nat.reduceSub, Nat.reduceLT, Nat.reduceLeDiff, Int.reduceLT, Int.reduceLE, Int.reduceEq, Int.reduceToNat, List.append_assoc, List.length_append, Vm.get_app, Vm.set_app, Vm.get_appL, Vm.get_appL0, Vm.set_appL, Vm.set_appL0, Nat.le_refl, Nat.le_add_right, okAt]
        repeat' (
          first | refine wpC_cases ?_ ?_ | refine wpU_casesT ?_ ?_ | refine wpU_casesF ?_ ?_
          all_goals intro hvc
          all_goals first | replace hvc := not_of_true hvc | replace hvc := not_of_false hvc | skip
          all_goals first | subst hvc | replace hvb := And.intro hvc hvb
          all_goals try simp only [hvb, B63, Vault.encF, Request.encF, Reply.encF, o_eqaB, zero4_a, zero16_a, h1, h2, h3, hq, enc_tyV, enc_tyR, enc_soV, enc_soR, enc_frV, enc_frR, hzz, hi1, c1, go_sem, V.s.injEq, Value.bool.injEq, ↓reduceIte, Nat.reduceEqDiff, Nat.reduceBEq, Nat.reduceAdd, Nat.reduceSub, Nat.reduceLT, Nat.reduceLeDiff, Int.reduceLT, Int.reduceLE, Int.reduceEq, Int.reduceToNat, List.append_assoc, List.length_append, Vm.get_app, Vm.set_app, Vm.get_appL, Vm.get_appL0, Vm.set_appL, Vm.set_appL0, Nat.le_refl, Nat.le_add_right, okAt])
        all_goals clear h1 h2 h3
        all_goals try simp only [decide_eq_true_eq, decide_eq_false_iff_not] at *
        all_goals first
          | (simp_all [outV, Vault.enc, Reply.enc, goneV, -Int.not_le, -Int.not_lt, -Nat.not_le, -Nat.not_lt, Bool.beq_eq_decide_eq]; done)
          | (simp_all [outV, Vault.enc, Reply.enc, goneV, -Int.not_le, -Int.not_lt, -Nat.not_le, -Nat.not_lt, Bool.beq_eq_decide_eq]; omega)
          | (simp_all [outV, Vault.enc, Reply.enc, goneV, Bool.beq_eq_decide_eq]; done)
          | (simp_all [outV, Vault.enc, Reply.enc, goneV, Bool.beq_eq_decide_eq]; omega)
          | skip
    | false =>
      rw [if_neg (by simp)] at hmv
      by_cases c1 : op = 1
      · subst c1
        clear h5 h7
        have hvb : (0 : Nat) = 0 := rfl
        try simp only [B63, Vault.encF, Request.encF, Reply.encF, o_eqaB, zero4_a, zero16_a, h1, h2, h3, hq, enc_tyV, enc_tyR, enc_soV, enc_soR, enc_frV, enc_frR, hzz, hi1, go_sem, V.s.injEq, Value.bool.injEq, ↓reduceIte, Nat.reduceEqDiff, Nat.reduceBEq, Nat.reduceAdd, Nat.reduceSub, Nat.reduceLT, Nat.reduceLeDiff, Int.reduceLT, Int.reduceLE, Int.reduceEq, Int.reduceToNat, List.append_assoc, List.length_append, Vm.get_app, Vm.set_app, Vm.get_appL, Vm.get_appL0, Vm.set_appL, Vm.set_appL0, Nat.le_refl, Nat.le_add_right, okAt]
        repeat' (
          first | refine wpC_cases ?_ ?_ | refine wpU_casesT ?_ ?_ | refine wpU_casesF ?_ ?_
          all_goals intro hvc
          all_goals first | replace hvc := not_of_true hvc | replace hvc := not_of_false hvc | skip
          all_goals first | subst hvc | replace hvb := And.intro hvc hvb
          all_goals try simp only [hvb, B63, Vault.encF, Request.encF, Reply.encF, o_eqaB, zero4_a, zero16_a, h1, h2, h3, hq, enc_tyV, enc_tyR, enc_soV, enc_soR, enc_frV, enc_frR, hzz, hi1, go_sem, V.s.injEq, Value.bool.injEq, ↓reduceIte, Nat.reduceEqDiff, Nat.reduceBEq, Nat.reduceAdd, Nat.reduceSub, Nat.reduceLT, Nat.reduceLeDiff, Int.reduceLT, Int.reduceLE, Int.reduceEq, Int.reduceToNat, List.append_assoc, List.length_append, Vm.get_app, Vm.set_app, Vm.get_appL, Vm.get_appL0, Vm.set_appL, Vm.set_appL0, Nat.le_refl, Nat.le_add_right, okAt])
        all_goals clear h1 h2 h3
        all_goals try simp only [decide_eq_true_eq, decide_eq_false_iff_not] at *
        all_goals first
          | (simp_all [outV, Vault.enc, Reply.enc, goneV, -Int.not_le, -Int.not_lt, -Nat.not_le, -Nat.not_lt, Bool.beq_eq_decide_eq]; done)
          | (simp_all [outV, Vault.enc, Reply.enc, goneV, -Int.not_le, -Int.not_lt, -Nat.not_le, -Nat.not_lt, Bool.beq_eq_decide_eq]; omega)
          | (simp_all [outV, Vault.enc, Reply.enc, goneV, Bool.beq_eq_decide_eq]; done)
          | (simp_all [outV, Vault.enc, Reply.enc, goneV, Bool.beq_eq_decide_eq]; omega)
          | skip
      · by_cases c2 : op = 2
        · subst c2
          rw [if_neg (by simp)] at hmv
          subst hmv
          replace h7 := h7 rfl
          clear h5
          have hvb : (0 : Nat) = 0 := rfl
          try simp only [B63, Vault.encF, Request.encF, Reply.encF, o_eqaB, zero4_a, zero16_a, h1, h2, h3, hq, enc_tyV, enc_tyR, enc_soV, enc_soR, enc_frV, enc_frR, hzz, hi1, h7, go_sem, V.s.injEq, Value.bool.injEq, ↓reduceIte, Nat.reduceEqDiff, Nat.reduceBEq, Nat.reduceAdd, Nat.reduceSub, Nat.reduceLT, Nat.reduceLeDiff, Int.reduceLT, Int.reduceLE, Int.reduceEq, Int.reduceToNat, List.append_assoc, List.length_append, Vm.get_app, Vm.set_app, Vm.get_appL, Vm.get_appL0, Vm.set_appL, Vm.set_appL0, Nat.le_refl, Nat.le_add_right, okAt]
          repeat' (
            first | refine wpC_cases ?_ ?_ | refine wpU_casesT ?_ ?_ | refine wpU_casesF ?_ ?_
            all_goals intro hvc
            all_goals first | replace hvc := not_of_true hvc | replace hvc := not_of_false hvc | skip
            all_goals first | subst hvc | replace hvb := And.intro hvc hvb
            all_goals try simp only [hvb, B63, Vault.encF, Request.encF, Reply.encF, o_eqaB, zero4_a, zero16_a, h1, h2, h3, hq, enc_tyV, enc_tyR, enc_soV, enc_soR, enc_frV, enc_frR, hzz, hi1, h7, go_sem, V.s.injEq, Value.bool.injEq, ↓reduceIte, Nat.reduceEqDiff, Nat.reduceBEq, Nat.reduceAdd, Nat.reduceSub, Nat.reduceLT, Nat.reduceLeDiff, Int.reduceLT, Int.reduceLE, Int.reduceEq, Int.reduceToNat, List.append_assoc, List.length_append, Vm.get_app, Vm.set_app, Vm.get_appL, Vm.get_appL0, Vm.set_appL, Vm.set_appL0, Nat.le_refl, Nat.le_add_right, okAt])
          all_goals clear h7
          all_goals clear h1 h2 h3
          all_goals try simp only [decide_eq_true_eq, decide_eq_false_iff_not] at *
          all_goals first
            | (simp_all [outV, Vault.enc, Reply.enc, goneV, -Int.not_le, -Int.not_lt, -Nat.not_le, -Nat.not_lt, Bool.beq_eq_decide_eq]; done)
            | (simp_all [outV, Vault.enc, Reply.enc, goneV, -Int.not_le, -Int.not_lt, -Nat.not_le, -Nat.not_lt, Bool.beq_eq_decide_eq]; omega)
            | (simp_all [outV, Vault.enc, Reply.enc, goneV, Bool.beq_eq_decide_eq]; done)
            | (simp_all [outV, Vault.enc, Reply.enc, goneV, Bool.beq_eq_decide_eq]; omega)
            | skip
        · clear h7
          by_cases co : ow' = ow
          · rw [if_neg (by simp [co])] at hmv
            subst hmv
            subst co
            by_cases c3 : op = 3
            · subst c3
              have hvb : (0 : Nat) = 0 := rfl
              try simp only [B63, Vault.encF, Request.encF, Reply.encF, o_eqaB, zero4_a, zero16_a, h1, h2, h3, hq, enc_tyV, enc_tyR, enc_soV, enc_soR, enc_frV, enc_frR, hzz, hi1, h5, go_sem, V.s.injEq, Value.bool.injEq, ↓reduceIte, Nat.reduceEqDiff, Nat.reduceBEq, Nat.reduceAdd, Nat.reduceSub, Nat.reduceLT, Nat.reduceLeDiff, Int.reduceLT, Int.reduceLE, Int.reduceEq, Int.reduceToNat, List.append_assoc, List.length_append, Vm.get_app, Vm.set_app, Vm.get_appL, Vm.get_appL0, Vm.set_appL, Vm.set_appL0, Nat.le_refl, Nat.le_add_right, okAt]
              repeat' (
                first | refine wpC_cases ?_ ?_ | refine wpU_casesT ?_ ?_ | refine wpU_casesF ?_ ?_
                all_goals intro hvc
                all_goals first | replace hvc := not_of_true hvc | replace hvc := not_of_false hvc | skip
                all_goals first | subst hvc | replace hvb := And.intro hvc hvb
                all_goals try simp only [hvb, B63, Vault.encF, Request.encF, Reply.encF, o_eqaB, zero4_a, zero16_a, h1, h2, h3, hq, enc_tyV, enc_tyR, enc_soV, enc_soR, enc_frV, enc_frR, hzz, hi1, h5, go_sem, V.s.injEq, Value.bool.injEq, ↓reduceIte, Nat.reduceEqDiff, Nat.reduceBEq, Nat.reduceAdd, Nat.reduceSub, Nat.reduceLT, Nat.reduceLeDiff, Int.reduceLT, Int.reduceLE, Int.reduceEq, Int.reduceToNat, List.append_assoc, List.length_append, Vm.get_app, Vm.set_app, Vm.get_appL, Vm.get_appL0, Vm.set_appL, Vm.set_appL0, Nat.le_refl, Nat.le_add_right, okAt])
              all_goals clear h5
              all_goals clear h1 h2 h3
              all_goals try simp only [decide_eq_true_eq, decide_eq_false_iff_not] at *
              all_goals first
                | (simp_all [outV, Vault.enc, Reply.enc, goneV, -Int.not_le, -Int.not_lt, -Nat.not_le, -Nat.not_lt, Bool.beq_eq_decide_eq]; done)
                | (simp_all [outV, Vault.enc, Reply.enc, goneV, -Int.not_le, -Int.not_lt, -Nat.not_le, -Nat.not_lt, Bool.beq_eq_decide_eq]; omega)
                | (simp_all [outV, Vault.enc, Reply.enc, goneV, Bool.beq_eq_decide_eq]; done)
                | (simp_all [outV, Vault.enc, Reply.enc, goneV, Bool.beq_eq_decide_eq]; omega)
                | skip
            · clear h5
              have hvb : (0 : Nat) = 0 := rfl
              try simp only [B63, Vault.encF, Request.encF, Reply.encF, o_eqaB, zero4_a, zero16_a, h1, h2, h3, hq, enc_tyV, enc_tyR, enc_soV, enc_soR, enc_frV, enc_frR, hzz, hi1, c1, c2, c3, go_sem, V.s.injEq, Value.bool.injEq, ↓reduceIte, Nat.reduceEqDiff, Nat.reduceBEq, Nat.reduceAdd, Nat.reduceSub, Nat.reduceLT, Nat.reduceLeDiff, Int.reduceLT, Int.reduceLE, Int.reduceEq, Int.reduceToNat, List.append_assoc, List.length_append, Vm.get_app, Vm.set_app, Vm.get_appL, Vm.get_appL0, Vm.set_appL, Vm.set_appL0, Nat.le_refl, Nat.le_add_right, okAt]
              repeat' (
                first | refine wpC_cases ?_ ?_ | refine wpU_casesT ?_ ?_ | refine wpU_casesF ?_ ?_
                all_goals intro hvc
                all_goals first | replace hvc := not_of_true hvc | replace hvc := not_of_false hvc | skip
                all_goals first | subst hvc | replace hvb := And.intro hvc hvb
                all_goals try simp only [hvb, B63, Vault.encF, Request.encF, Reply.encF, o_eqaB, zero4_a, zero16_a, h1, h2, h3, hq, enc_tyV, enc_tyR, enc_soV, enc_soR, enc_frV, enc_frR, hzz, hi1, c1, c2, c3, go_sem, V.s.injEq, Value.bool.injEq, ↓reduceIte, Nat.reduceEqDiff, Nat.reduceBEq, Nat.reduceAdd, Nat.reduceSub, Nat.reduceLT, Nat.reduceLeDiff, Int.reduceLT, Int.reduceLE, Int.reduceEq, Int.reduceToNat, List.append_assoc, List.length_append, Vm.get_app, Vm.set_app, Vm.get_appL, Vm.get_appL0, Vm.set_appL, Vm.set_appL0, Nat.le_refl, Nat.le_add_right, okAt])
              all_goals clear h1 h2 h3
              all_goals try simp only [decide_eq_true_eq, decide_eq_false_iff_not] at *
              all_goals first
                | (simp_all [outV, Vault.enc, Reply.enc, goneV, -Int.not_le, -Int.not_lt, -Nat.not_le, -Nat.not_lt, Bool.beq_eq_decide_eq]; done)
                | (simp_all [outV, Vault.enc, Reply.enc, goneV, -Int.not_le, -Int.not_lt, -Nat.not_le, -Nat.not_lt, Bool.beq_eq_decide_eq]; omega)
                | (simp_all [outV, Vault.enc, Reply.enc, goneV, Bool.beq_eq_decide_eq]; done)
                | (simp_all [outV, Vault.enc, Reply.enc, goneV, Bool.beq_eq_decide_eq]; omega)
                | skip
          · rw [if_pos ⟨c2, co⟩] at hmv
            subst hmv
            clear h5
            have hvb : (0 : Nat) = 0 := rfl
            try simp only [B63, Vault.encF, Request.encF, Reply.encF, o_eqaB, zero4_a, zero16_a, h1, h2, h3, hq, enc_tyV, enc_tyR, enc_soV, enc_soR, enc_frV, enc_frR, hzz, hi1, co, c1, c2, go_sem, V.s.injEq, Value.bool.injEq, ↓reduceIte, Nat.reduceEqDiff, Nat.reduceBEq, Nat.reduceAdd, Nat.reduceSub, Nat.reduceLT, Nat.reduceLeDiff, Int.reduceLT, Int.reduceLE, Int.reduceEq, Int.reduceToNat, List.append_assoc, List.length_append, Vm.get_app, Vm.set_app, Vm.get_appL, Vm.get_appL0, Vm.set_appL, Vm.set_appL0, Nat.le_refl, Nat.le_add_right, okAt]
            repeat' (
              first | refine wpC_cases ?_ ?_ | refine wpU_casesT ?_ ?_ | refine wpU_casesF ?_ ?_
              all_goals intro hvc
              all_goals first | replace hvc := not_of_true hvc | replace hvc := not_of_false hvc | skip
              all_goals first | subst hvc | replace hvb := And.intro hvc hvb
              all_goals try simp only [hvb, B63, Vault.encF, Request.encF, Reply.encF, o_eqaB, zero4_a, zero16_a, h1, h2, h3, hq, enc_tyV, enc_tyR, enc_soV, enc_soR, enc_frV, enc_frR, hzz, hi1, co, c1, c2, go_sem, V.s.injEq, Value.bool.injEq, ↓reduceIte, Nat.reduceEqDiff, Nat.reduceBEq, Nat.reduceAdd, Nat.reduceSub, Nat.reduceLT, Nat.reduceLeDiff, Int.reduceLT, Int.reduceLE, Int.reduceEq, Int.reduceToNat, List.append_assoc, List.length_append, Vm.get_app, Vm.set_app, Vm.get_appL, Vm.get_appL0, Vm.set_appL, Vm.set_appL0, Nat.le_refl, Nat.le_add_right, okAt])
            all_goals clear h1 h2 h3
            all_goals try simp only [decide_eq_true_eq, decide_eq_false_iff_not] at *
            all_goals first
              | (simp_all [outV, Vault.enc, Reply.enc, goneV, -Int.not_le, -Int.not_lt, -Nat.not_le, -Nat.not_lt, Bool.beq_eq_decide_eq]; done)
              | (simp_all [outV, Vault.enc, Reply.enc, goneV, -Int.not_le, -Int.not_lt, -Nat.not_le, -Nat.not_lt, Bool.beq_eq_decide_eq]; omega)
              | (simp_all [outV, Vault.enc, Reply.enc, goneV, Bool.beq_eq_decide_eq]; done)
              | (simp_all [outV, Vault.enc, Reply.enc, goneV, Bool.beq_eq_decide_eq]; omega)
              | skip
end Go.Proofs.Ytkkncdokkdamcaa
