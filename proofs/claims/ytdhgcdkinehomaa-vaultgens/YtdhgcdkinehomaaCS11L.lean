/- VaultGens: its run. Conditions: none. -/
import Derived.Test.YtdhgcdkinehomaaCS11K
namespace Go.Proofs.Ytdhgcdkinehomaa
open Go Go.Vm Go.Proofs Go.Cl
set_option linter.unusedSimpArgs false
set_option linter.unusedVariables false
set_option maxRecDepth 100000
theorem keepQ_right (x : Q) (hx : x.wf) (id : Bs) : rightQ { keepQ x with iD := id } = true := by
  obtain ⟨h1, h2, h3, h4, h5, h6, h7, h8, h9⟩ := keepQ_facts x hx
  have hop : (keepQ x).op = 1 ∨ (keepQ x).op = 2 ∨ (keepQ x).op = 3 ∨ (keepQ x).op = 4 := by omega
  have g4 := within_ge (n := x.limit) (lo := 1) (hi := 32) (by omega)
  have g5 := within_le (n := x.limit) (lo := 1) (hi := 32) (by omega)
  have hw : whoB (keepQ x).client (keepQ x).num = true := by simp [whoB, h4, h5, h6]
  have e1 : ∀ n, (keepQ x).op = n → (1 + (within x.op 0 1048576).tmod 4) = n := fun n h => h
  rcases hop with h | h | h | h
  · have := e1 _ h
    simp only [rightQ, hw, h]
    simp [keepQ, this, g4, g5]; omega
  · have := e1 _ h
    simp only [rightQ, hw, h]
    simp [keepQ, this]
  · have := e1 _ h
    simp only [rightQ, hw, h]
    simp [keepQ, this, g4, g5]; omega
  · have := e1 _ h
    simp only [rightQ, hw, h]
    simp [keepQ, this]
/-- A vault that is right, or none. -/
def okV (id : Bs) (v : Vault) : Prop := v = zeroV ∨ rightV v = true ∧ v.iD = id
theorem okV_gen {id : Bs} {v : Vault} (h : okV id v) : 0 ≤ v.gen ∧ v.gen ≤ 1099511627776 := by
  rcases h with rfl | ⟨h, _⟩
  · exact ⟨by decide, by decide⟩
  · simp [rightV] at h; omega
theorem okV_esc {id : Bs} {v : Vault} {q : Request} (hv : okV id v) (hq : rightQ q = true) (ho : q.op = 1 ∨ q.op = 3) (hi : q.iD = id) (hg : ¬ 1099511627776 ≤ v.gen) : okV id ⟨q.iD, v.gen + 1, q.pin, q.secret, q.limit, 0, q.owner, false, false⟩ := by
  have := okV_gen hv
  refine .inr ⟨?_, hi⟩
  simp only [rightQ, if_pos ho] at hq
  simp at hq
  simp [rightV]; omega
theorem okV_gone {id : Bs} {v : Vault} (hv : okV id v) (h0 : v.gen ≠ 0) (w : Bool) : okV id (goneV v w) := by
  rcases hv with rfl | ⟨h, hi⟩
  · exact absurd rfl h0
  · refine .inr ⟨?_, hi⟩
    simp [rightV] at h
    have := h.1
    simp [rightV, goneV, this.1, this.2]
theorem okV_used {id : Bs} {v : Vault} (hv : okV id v) (h0 : v.gen ≠ 0) (hg : v.gone = false) (hu : v.used + 1 ≠ v.limit) : okV id (usedV v) := by
  rcases hv with rfl | ⟨h, hi⟩
  · exact absurd rfl h0
  · refine .inr ⟨?_, hi⟩
    simp [rightV, hg] at h
    obtain ⟨⟨h1, h2⟩, ⟨⟨⟨⟨h3, h4⟩, h5⟩, h6⟩, h7⟩, h8⟩ := h
    simp [rightV, usedV, hg, h1, h2, h3, h4, h5, h8]; omega
theorem doG_facts {id : Bs} {v : Vault} {q : Request} (hv : okV id v) (hq : rightQ q = true) (hi : q.iD = id) :
    (doG v q).2.1.iD = q.iD ∧ (doG v q).2.1.num = q.num ∧ (doG v q).2.1.client = q.client ∧ (doG v q).2.1.gen = (doG v q).1.gen ∧ okV id (doG v q).1 ∧
    (doG v q).1.gen = if (doG v q).2.2 = true ∧ (doG v q).2.1.why = 0 ∧ (q.op = 1 ∨ q.op = 3) then v.gen + 1 else v.gen := by
  have hop : q.op = 1 ∨ q.op = 2 ∨ q.op = 3 ∨ q.op = 4 := by
    simp [rightQ] at hq
    have := hq.2
    repeat' split at this
    all_goals first | omega | simp at this
  have hm : missV v q = 0 → v.gen ≠ 0 ∧ v.gone = false := by
    intro h; unfold missV at h
    split at h; cases h
    split at h; cases h
    exact ⟨by assumption, by simpa using (by assumption : ¬ v.gone = true)⟩
  unfold doG
  split
  · rename_i ho
    split
    · simp_all
    · unfold escV
      split
      · simp_all
      · have := okV_esc hv hq (.inl ho) hi (by assumption)
        simp_all
  · split
    · simp_all
    · rename_i hm0
      obtain ⟨h1, h2⟩ := hm (by simpa using hm0)
      split
      · unfold recV
        split
        · simp_all
        · split
          · have := okV_gone hv h1 true
            simp_all [goneV]
          · have := okV_used hv h1 h2 (by assumption)
            simp_all [usedV]
      · split
        · unfold escV
          split
          · simp_all
          · have := okV_esc hv hq (.inr (by assumption)) hi (by assumption)
            simp_all
        · have := okV_gone hv h1 false
          simp_all [goneV]

theorem known11_ok (b : Nat) (h : Hp) : run fns pr b 17 [] h = some (.s (.bool true), h) := by
  refine Vm.runP (nt := 93) rfl fit17 (by simp) ?_
  let q1 : Request := ⟨1, [1, 0, 0, 0], [2, 0, 0, 0, 0, 0, 0, 0, 0, 0, 0, 0, 0, 0, 0, 0], [115], 1, zero16, zero16, 0, 0⟩
  let q2 : Request := ⟨2, [1, 0, 0, 0], [3, 0, 0, 0, 0, 0, 0, 0, 0, 0, 0, 0, 0, 0, 0, 0], [], 0, zero16, zero16, 0, 0⟩
  let q3 : Request := ⟨2, [1, 0, 0, 0], [2, 0, 0, 0, 0, 0, 0, 0, 0, 0, 0, 0, 0, 0, 0, 0], [], 0, zero16, zero16, 0, 0⟩
  let v1 : Vault := ⟨[1, 0, 0, 0], 1, [2, 0, 0, 0, 0, 0, 0, 0, 0, 0, 0, 0, 0, 0, 0, 0], [115], 1, 0, zero16, false, false⟩
  let v2 : Vault := ⟨[1, 0, 0, 0], 1, zero16, [], 0, 0, zero16, true, true⟩
  have e1 : doG zeroV q1 = (v1, ⟨0, [1, 0, 0, 0], 1, 1, [], 0, 0⟩, true) := by decide
  have e2 : doG v1 q2 = (v2, ⟨23, [1, 0, 0, 0], 1, 0, [], 0, 0⟩, true) := by decide
  have e3 : doG v2 q3 = (v2, ⟨24, [1, 0, 0, 0], 1, 0, [], 0, 0⟩, false) := by decide
  have f1 := fun b h f g => Do_good b h f g zeroV q1 (by decide) (by decide) (by decide)
  have f2 := fun b h f g => Do_good b h f g v1 q2 (by decide) (by decide) (by decide)
  have f3 := fun b h f g => Do_good b h f g v2 q3 (by decide) (by decide) (by decide)
  rw [e1] at f1
  rw [e2] at f2
  rw [e3] at f3
  simp only [q1, q2, q3, v1, v2, zeroV, zero4, zero16, Vault.encF, Request.encF, Vault.enc, Reply.enc, outV, List.map_cons, List.map_nil, byteV, show UInt8.toNat 0 = 0 from rfl, show UInt8.toNat 1 = 1 from rfl, show UInt8.toNat 2 = 2 from rfl, show UInt8.toNat 3 = 3 from rfl, show UInt8.toNat 115 = 115 from rfl, Int.cast_ofNat_Int] at f1 f2 f3
  have hvb : (0 : Nat) = 0 := rfl
  try simp only [B17, f1, f2, f3, go_sem, V.s.injEq, Value.bool.injEq, ↓reduceIte, Nat.reduceEqDiff, Nat.reduceBEq, Nat.reduceAdd, Nat.reduceSub, Nat.reduceLT, Nat.reduceLeDiff, Int.reduceLT, Int.reduceLE, Int.reduceEq, Int.reduceToNat, List.append_assoc, List.length_append, Vm.get_app, Vm.set_app, Vm.get_appL, Vm.get_appL0, Vm.set_appL, Vm.set_appL0, Nat.le_refl, Nat.le_add_right, okAt]
  repeat' (
    first | refine wpC_cases ?_ ?_ | refine wpU_casesT ?_ ?_ | refine wpU_casesF ?_ ?_
    all_goals intro hvc
    all_goals first | replace hvc := not_of_true hvc | replace hvc := not_of_false hvc | skip
    all_goals first | subst hvc | replace hvb := And.intro hvc hvb
    all_goals try simp only [hvb, B17, f1, f2, f3, go_sem, V.s.injEq, Value.bool.injEq, ↓reduceIte, Nat.reduceEqDiff, Nat.reduceBEq, Nat.reduceAdd, Nat.reduceSub, Nat.reduceLT, Nat.reduceLeDiff, Int.reduceLT, Int.reduceLE, Int.reduceEq, Int.reduceToNat, List.append_assoc, List.length_append, Vm.get_app, Vm.set_app, Vm.get_appL, Vm.get_appL0, Vm.set_appL, Vm.set_appL0, Nat.le_refl, Nat.le_add_right, okAt])
  all_goals decide
def id7 : Bs := [7, 0, 0, 0]
theorem id7_v (t : Nat) : V.arr t [.s (.int .u8 7), .s (.int .u8 0), .s (.int .u8 0), .s (.int .u8 0)] = .arr t (id7.map byteV) := rfl
theorem Q_ty (x : Q) : x.enc.ty = some 35 := rfl
theorem VaultGens_run (l : List Q) (hl : l.length ≤ 140737488351232) (hb : ∀ x ∈ l, x.wf) :
    run fns pr 0 4 [.imm false (some 35) (l.map Q.enc)] [] = some (.s (.bool true), []) := by
  refine Vm.runP (nt := 109) rfl fit4 (by simp) ?_
  have hvb : (0 : Nat) = 0 := rfl
  try simp only [B4, B4R0, B4L0, zero4_a, zero16_a, go_sem, V.s.injEq, Value.bool.injEq, ↓reduceIte, Nat.reduceEqDiff, Nat.reduceBEq, Nat.reduceAdd, Nat.reduceSub, Nat.reduceLT, Nat.reduceLeDiff, Int.reduceLT, Int.reduceLE, Int.reduceEq, Int.reduceToNat, List.append_assoc, List.length_append, Vm.get_app, Vm.set_app, Vm.get_appL, Vm.get_appL0, Vm.set_appL, Vm.set_appL0, Nat.le_refl, Nat.le_add_right, okAt]
  repeat' (
    first | refine wpC_cases ?_ ?_ | refine wpU_casesT ?_ ?_ | refine wpU_casesF ?_ ?_
    all_goals intro hvc
    all_goals first | replace hvc := not_of_true hvc | replace hvc := not_of_false hvc | skip
    all_goals first | subst hvc | replace hvb := And.intro hvc hvb
    all_goals try simp only [hvb, B4, B4R0, B4L0, zero4_a, zero16_a, go_sem, V.s.injEq, Value.bool.injEq, ↓reduceIte, Nat.reduceEqDiff, Nat.reduceBEq, Nat.reduceAdd, Nat.reduceSub, Nat.reduceLT, Nat.reduceLeDiff, Int.reduceLT, Int.reduceLE, Int.reduceEq, Int.reduceToNat, List.append_assoc, List.length_append, Vm.get_app, Vm.set_app, Vm.get_appL, Vm.get_appL0, Vm.set_appL, Vm.set_appL0, Nat.le_refl, Nat.le_add_right, okAt])
  refine wp_for (fun m e h => ∃ i : Nat, m = 60 - i ∧ i ≤ 60 ∧ i ≤ l.length ∧ e 4 = .s (.int .i64 i) ∧ e 3 = .ptr 0 [0] 1 ∧ e 0 = .imm false (some 35) (l.map Q.enc) ∧
      ∃ v hr, h = .cells (some 29) [v.enc] :: hr ∧ okV id7 v)
    (fun e h => True) 60 _ _ ⟨0, rfl, by omega, by omega, ?_, ?_, ?_, zeroV, [], ?_, ?_⟩ ?_ ?_
  rotate_right 2
  · rintro m e h ⟨i, rfl, hi, hil, e4, e3, e0', v, hr, rfl, hv⟩
    by_cases c1 : i < l.length
    case neg =>
      have c1' : ¬ (i : Int) < l.length := by omega
      have hvb : (0 : Nat) = 0 := rfl
      try simp only [e4, e3, e0', c1', go_sem, V.s.injEq, Value.bool.injEq, ↓reduceIte, Nat.reduceEqDiff, Nat.reduceBEq, Nat.reduceAdd, Nat.reduceSub, Nat.reduceLT, Nat.reduceLeDiff, Int.reduceLT, Int.reduceLE, Int.reduceEq, Int.reduceToNat, List.append_assoc, List.length_append, Vm.get_app, Vm.set_app, Vm.get_appL, Vm.get_appL0, Vm.set_appL, Vm.set_appL0, Nat.le_refl, Nat.le_add_right, okAt]
      repeat' (
        first | refine wpC_cases ?_ ?_ | refine wpU_casesT ?_ ?_ | refine wpU_casesF ?_ ?_
        all_goals intro hvc
        all_goals first | replace hvc := not_of_true hvc | replace hvc := not_of_false hvc | skip
        all_goals first | subst hvc | replace hvb := And.intro hvc hvb
        all_goals try simp only [hvb, e4, e3, e0', c1', go_sem, V.s.injEq, Value.bool.injEq, ↓reduceIte, Nat.reduceEqDiff, Nat.reduceBEq, Nat.reduceAdd, Nat.reduceSub, Nat.reduceLT, Nat.reduceLeDiff, Int.reduceLT, Int.reduceLE, Int.reduceEq, Int.reduceToNat, List.append_assoc, List.length_append, Vm.get_app, Vm.set_app, Vm.get_appL, Vm.get_appL0, Vm.set_appL, Vm.set_appL0, Nat.le_refl, Nat.le_add_right, okAt])
    by_cases c2 : i < 60
    case neg =>
      have c1' : (i : Int) < l.length := by omega
      have c2' : ¬ (i : Int) < 60 := by omega
      have hvb : (0 : Nat) = 0 := rfl
      try simp only [e4, e3, e0', c1', c2', go_sem, V.s.injEq, Value.bool.injEq, ↓reduceIte, Nat.reduceEqDiff, Nat.reduceBEq, Nat.reduceAdd, Nat.reduceSub, Nat.reduceLT, Nat.reduceLeDiff, Int.reduceLT, Int.reduceLE, Int.reduceEq, Int.reduceToNat, List.append_assoc, List.length_append, Vm.get_app, Vm.set_app, Vm.get_appL, Vm.get_appL0, Vm.set_appL, Vm.set_appL0, Nat.le_refl, Nat.le_add_right, okAt]
      repeat' (
        first | refine wpC_cases ?_ ?_ | refine wpU_casesT ?_ ?_ | refine wpU_casesF ?_ ?_
        all_goals intro hvc
        all_goals first | replace hvc := not_of_true hvc | replace hvc := not_of_false hvc | skip
        all_goals first | subst hvc | replace hvb := And.intro hvc hvb
        all_goals try simp only [hvb, e4, e3, e0', c1', c2', go_sem, V.s.injEq, Value.bool.injEq, ↓reduceIte, Nat.reduceEqDiff, Nat.reduceBEq, Nat.reduceAdd, Nat.reduceSub, Nat.reduceLT, Nat.reduceLeDiff, Int.reduceLT, Int.reduceLE, Int.reduceEq, Int.reduceToNat, List.append_assoc, List.length_append, Vm.get_app, Vm.set_app, Vm.get_appL, Vm.get_appL0, Vm.set_appL, Vm.set_appL0, Nat.le_refl, Nat.le_add_right, okAt])
    have c1' : (i : Int) < l.length := by omega
    have c2' : (i : Int) < 60 := by omega
    have hi0 : (0 : Int) ≤ i := by omega
    have hwr : IntKind.i64.wrap ((i : Int) + 1) = ((i + 1 : Nat) : Int) := wrap_small (by omega)
    have hx : l[i]? = some l[i] := List.getElem?_eq_getElem c1
    have hxm : l[i] ∈ l := List.getElem_mem _
    generalize l[i] = x at hx hxm
    have hxw := hb x hxm
    have hq := fun h' => Request_ok 0 h' x hxw
    have hqr := keepQ_right x hxw id7
    generalize keepQ x = q at hq hqr
    obtain ⟨op, qid, pin, se, li, ow, ky, cl, nu⟩ := q
    have hd := fun h' f g => Do_good 0 h' f g v _ (okV_gen hv).1 hqr hv
    obtain ⟨f1, f2, f3, f4, f5, f6⟩ := doG_facts hv hqr rfl
    have hgv := okV_gen hv
    generalize doG v _ = o at hd f1 f2 f3 f4 f5 f6
    obtain ⟨⟨wid, wgen, wpin, wse, wli, wus, wow, wgo, wwi⟩, ⟨why, rid, rgen, rleft, rse, rcl, rnu⟩, c⟩ := o
    simp only at f1 f2 f3 f4 f5 f6
    subst f1 f2 f3 f4
    have hn := fun h' f => None_ok 0 h' f ⟨wid, rgen, wpin, wse, wli, wus, wow, wgo, wwi⟩
    have hri := fun h' => rRightVault_ok 0 h' ⟨wid, rgen, wpin, wse, wli, wus, wow, wgo, wwi⟩
    have hwg : IntKind.u64.wrap (v.gen + 1) = v.gen + 1 := wrap_u64 (by omega) (by omega)
    obtain ⟨vid, vgen, vpin, vse, vli, vus, vow, vgo, vwi⟩ := v
    simp only [Request.enc, Request.encF, Vault.encF, Vault.enc, Reply.enc, outV] at hq hd hn hri
    simp only at f6 hwg
    have hvb : (0 : Nat) = 0 := rfl
    try simp only [Q_ty, Vault.enc, e4, e3, e0', c1', c2', hi0, hwr, Int.toNat_natCast, List.getElem?_map, hx, hq, hd, hn, hri, hwg, o_eqaB, zero4_a, zero16_a, id7_v, List.length_cons, List.getElem?_cons_zero, List.getElem?_cons_succ, List.set_cons_succ, List.set_cons_zero, List.cons_append, Option.map_some, go_sem, V.s.injEq, Value.bool.injEq, ↓reduceIte, Nat.reduceEqDiff, Nat.reduceBEq, Nat.reduceAdd, Nat.reduceSub, Nat.reduceLT, Nat.reduceLeDiff, Int.reduceLT, Int.reduceLE, Int.reduceEq, Int.reduceToNat, List.append_assoc, List.length_append, Vm.get_app, Vm.set_app, Vm.get_appL, Vm.get_appL0, Vm.set_appL, Vm.set_appL0, Nat.le_refl, Nat.le_add_right, okAt]
    repeat' (
      first | refine wpC_cases ?_ ?_ | refine wpU_casesT ?_ ?_ | refine wpU_casesF ?_ ?_
      all_goals intro hvc
      all_goals first | replace hvc := not_of_true hvc | replace hvc := not_of_false hvc | skip
      all_goals first | subst hvc | replace hvb := And.intro hvc hvb
      all_goals try simp only [hvb, Q_ty, Vault.enc, e4, e3, e0', c1', c2', hi0, hwr, Int.toNat_natCast, List.getElem?_map, hx, hq, hd, hn, hri, hwg, o_eqaB, zero4_a, zero16_a, id7_v, List.length_cons, List.getElem?_cons_zero, List.getElem?_cons_succ, List.set_cons_succ, List.set_cons_zero, List.cons_append, Option.map_some, go_sem, V.s.injEq, Value.bool.injEq, ↓reduceIte, Nat.reduceEqDiff, Nat.reduceBEq, Nat.reduceAdd, Nat.reduceSub, Nat.reduceLT, Nat.reduceLeDiff, Int.reduceLT, Int.reduceLE, Int.reduceEq, Int.reduceToNat, List.append_assoc, List.length_append, Vm.get_app, Vm.set_app, Vm.get_appL, Vm.get_appL0, Vm.set_appL, Vm.set_appL0, Nat.le_refl, Nat.le_add_right, okAt])
    all_goals first
      | exact ⟨60 - (i + 1), by omega, i + 1, rfl, by omega, by omega, rfl, ⟨wid, rgen, wpin, wse, wli, wus, wow, wgo, wwi⟩, _, rfl, f5⟩
      | skip
    all_goals clear hq hd hn hri
    all_goals (simp only [decide_eq_true_eq, decide_eq_false_iff_not, Bool.not_eq_true, Bool.not_eq_false] at *)
    all_goals (simp_all [okV])
  · rintro e h -
    have hk := fun h => known11_ok 0 h
    have hvb : (0 : Nat) = 0 := rfl
    try simp only [B4R0, hk, go_sem, V.s.injEq, Value.bool.injEq, ↓reduceIte, Nat.reduceEqDiff, Nat.reduceBEq, Nat.reduceAdd, Nat.reduceSub, Nat.reduceLT, Nat.reduceLeDiff, Int.reduceLT, Int.reduceLE, Int.reduceEq, Int.reduceToNat, List.append_assoc, List.length_append, Vm.get_app, Vm.set_app, Vm.get_appL, Vm.get_appL0, Vm.set_appL, Vm.set_appL0, Nat.le_refl, Nat.le_add_right, okAt]
    repeat' (
      first | refine wpC_cases ?_ ?_ | refine wpU_casesT ?_ ?_ | refine wpU_casesF ?_ ?_
      all_goals intro hvc
      all_goals first | replace hvc := not_of_true hvc | replace hvc := not_of_false hvc | skip
      all_goals first | subst hvc | replace hvb := And.intro hvc hvb
      all_goals try simp only [hvb, B4R0, hk, go_sem, V.s.injEq, Value.bool.injEq, ↓reduceIte, Nat.reduceEqDiff, Nat.reduceBEq, Nat.reduceAdd, Nat.reduceSub, Nat.reduceLT, Nat.reduceLeDiff, Int.reduceLT, Int.reduceLE, Int.reduceEq, Int.reduceToNat, List.append_assoc, List.length_append, Vm.get_app, Vm.set_app, Vm.get_appL, Vm.get_appL0, Vm.set_appL, Vm.set_appL0, Nat.le_refl, Nat.le_add_right, okAt])
  all_goals first | exact Or.inl rfl | rfl
end Go.Proofs.Ytdhgcdkinehomaa
