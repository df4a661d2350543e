/- IdealCopies. Conditions: none. -/
import Derived.Test.YtkkncdokkdamcaaCM23
namespace Go.Proofs.Ytkkncdokkdamcaa
open Go Go.Vm Go.Proofs Go.Cl
set_option linter.unusedSimpArgs false
set_option linter.unusedVariables false
set_option maxRecDepth 100000
def nm1 : Bs := [1, 0, 0, 0]
def nm2 : Bs := [2, 0, 0, 0]
def kq1 : Request := ⟨1, [1, 0, 0, 0], zero16, [115], 2, zero16, zero16, 0, 0⟩
def kq2 : Request := ⟨2, [2, 0, 0, 0], zero16, [], 0, zero16, zero16, 0, 0⟩
def kl0 : Nat → List Vault := fun _ => []
theorem MOk_nil : MOk kl0 := fun i _ => ⟨List.Pairwise.nil, by simp [kl0], by simp [kl0]⟩
theorem kq1_v (f : Bool) : V.st 32 [.s (.int .i64 1), .arr 26 (nm1.map byteV), .arr 28 (zero16.map byteV), .imm f none [.s (.int .u8 115)], .s (.int .i64 2), .arr 28 (zero16.map byteV), .arr 28 (zero16.map byteV), .s (.int .i64 0), .s (.int .u64 0)] = kq1.encF f := rfl
theorem kq2_v (f : Bool) : V.st 32 [.s (.int .i64 2), .arr 26 (nm2.map byteV), .arr 28 (zero16.map byteV), .imm f none [], .s (.int .i64 0), .arr 28 (zero16.map byteV), .arr 28 (zero16.map byteV), .s (.int .i64 0), .s (.int .u64 0)] = kq2.encF f := rfl
theorem kid1 (t : Nat) : V.arr t [.s (.int .u8 1), .s (.int .u8 0), .s (.int .u8 0), .s (.int .u8 0)] = .arr t (nm1.map byteV) := rfl
theorem kid2 (t : Nat) : V.arr t [.s (.int .u8 2), .s (.int .u8 0), .s (.int .u8 0), .s (.int .u8 0)] = .arr t (nm2.map byteV) := rfl
theorem k_1 : (idealDo kl0 kq1).1.why = 0 ∧ (idealDo kl0 kq1).1.gen = 1 := by decide +kernel
theorem k_2 : (idealDo (idealDo kl0 kq1).2 kq1).1.why = 14 := by decide +kernel
theorem k_3 : (idealDo (idealDo (idealDo kl0 kq1).2 kq1).2 kq2).1.why = 22 := by decide +kernel
theorem k_4 : (allP (idealDo (idealDo (idealDo kl0 kq1).2 kq1).2 kq2).2 16).length = 1 := by decide +kernel
theorem known23_ok (b : Nat) (h : Hp) : run fns pr b 14 [] h = some (.s (.bool true), h) := by
  refine Vm.runP (nt := 47) rfl fit14 (by simp) ?_
  obtain ⟨v0, H0, e0', F0, rfl, m0, f0, hF0⟩ := INew_ok h.length h (Nat.le_refl _)
  have m0 : MR H0 h.length kl0 F0 := m0
  have gr : ∀ k, decide (h.length ≤ H0.length + k) = true := fun k => decide_eq_true (Nat.le_trans f0.len (Nat.le_add_right _ _))
  have hvb : (0 : Nat) = 0 := rfl
  try simp only [B14, e0', kid1, kid2, kq1_v, kq2_v, encF_tyQ, encF_soQ, gr, go_sem, V.s.injEq, Value.bool.injEq, ↓reduceIte, Nat.reduceEqDiff, Nat.reduceBEq, Nat.reduceAdd, Nat.reduceSub, Nat.reduceLT, Nat.reduceLeDiff, Int.reduceLT, Int.reduceLE, Int.reduceEq, Int.reduceToNat, List.append_assoc, List.length_append, Vm.get_app, Vm.set_app, Vm.get_appL, Vm.get_appL0, Vm.set_appL, Vm.set_appL0, Nat.le_refl, Nat.le_add_right, okAt]
  repeat' (
    first | refine wpC_cases ?_ ?_ | refine wpU_casesT ?_ ?_ | refine wpU_casesF ?_ ?_
    all_goals intro hvc
    all_goals first | replace hvc := not_of_true hvc | replace hvc := not_of_false hvc | skip
    all_goals first | subst hvc | replace hvb := And.intro hvc hvb
    all_goals try simp only [hvb, B14, e0', kid1, kid2, kq1_v, kq2_v, encF_tyQ, encF_soQ, gr, go_sem, V.s.injEq, Value.bool.injEq, ↓reduceIte, Nat.reduceEqDiff, Nat.reduceBEq, Nat.reduceAdd, Nat.reduceSub, Nat.reduceLT, Nat.reduceLeDiff, Int.reduceLT, Int.reduceLE, Int.reduceEq, Int.reduceToNat, List.append_assoc, List.length_append, Vm.get_app, Vm.set_app, Vm.get_appL, Vm.get_appL0, Vm.set_appL, Vm.set_appL0, Nat.le_refl, Nat.le_add_right, okAt])
  have hq0 : (H0 ++ [Blk.dead, Blk.cells (some 32) [Request.encF false kq1]])[H0.length + 1]? = some (Blk.cells (some 32) [Request.encF false kq1]) := get_app _ _ 1
  have hlt0 : H0.length + 1 < (H0 ++ [Blk.dead, Blk.cells (some 32) [Request.encF false kq1]]).length := by simp
  have fA : Fw [] H0 (H0 ++ [Blk.dead, Blk.cells (some 32) [Request.encF false kq1]]) := Fw.app _ _ _
  have mA := m0.app [Blk.dead, Blk.cells (some 32) [Request.encF false kq1]]
  have hlm := m0.lt
  generalize (H0 ++ [Blk.dead, Blk.cells (some 32) [Request.encF false kq1]]) = HA at *
  obtain ⟨v1, H1, d1, F1, rfl, m1, f1, hF1⟩ := IDo_ok h.length HA h.length kl0 F0 kq1 false hF0 mA MOk_nil (by decide)
  have hq1 := f1.old _ _ hq0 (fun hj => by have := hlm _ hj; omega)
  have o1 := MOk_nil.idealDo kq1 rfl
  have hF1' : ∀ j ∈ F1, h.length ≤ j := fun j hj => (hF1 j hj).elim (hF0 j) fun h' => by have := f0.len; have := fA.len; omega
  obtain ⟨v2, H2, d2, F2, rfl, m2, f2, hF2⟩ := IDo_ok h.length H1 h.length _ F1 kq1 false hF1' m1 o1 (by decide)
  have o2 := o1.idealDo kq1 rfl
  have hF2' : ∀ j ∈ F2, h.length ≤ j := fun j hj => (hF2 j hj).elim (hF1' j) fun h' => by have := f0.len; have := fA.len; have := f1.len; omega
  obtain ⟨v3, H3, d3, F3, rfl, m3, f3, hF3⟩ := IDo_ok h.length H2 h.length _ F2 kq2 false hF2' m2 o2 (by decide)
  have o3 := o2.idealDo kq2 rfl
  have hal := fun t => IAll_ok h.length (H3 ++ t) h.length _ F3 (m3.app t) o3
  have e1 : (idealDo kl0 kq1).1.enc = Reply.encF false (idealDo kl0 kq1).1 := rfl
  have a1 := k_1
  have a2 := k_2
  have a3 := k_3
  have a4 := k_4
  have hnd : Fw [] h H3 := by
    have g1 : Fw [] h HA := f0.trans fA
    have g2 : Fw [] h H1 := g1.new f1 (fun j hj => .inl (hF0 j hj))
    have g3 : Fw [] h H2 := g2.new f2 (fun j hj => .inl (hF1' j hj))
    exact g3.new f3 (fun j hj => .inl (hF2' j hj))
  have htk := fun t => (hnd.trans (Fw.app [] H3 t)).take
  generalize idealDo kl0 kq1 = r1 at *
  generalize idealDo r1.2 kq1 = r2 at *
  generalize idealDo r2.2 kq2 = r3 at *
  obtain ⟨⟨x1, x2, x3, x4, x5, x6, x7⟩, l1⟩ := r1
  obtain ⟨⟨y1, y2, y3, y4, y5, y6, y7⟩, l2⟩ := r2
  obtain ⟨⟨z1, z2, z3, z4, z5, z6, z7⟩, l3⟩ := r3
  simp only at a1 a2 a3 a4
  obtain ⟨rfl, rfl⟩ := a1
  subst a2 a3
  simp only [Reply.enc] at d1 d2 d3
  have a4' : (((allP l3 16).length : Nat) : Int) = 1 := by omega
  have gr3 : ∀ k, decide (h.length ≤ H3.length + k) = true := fun k => decide_eq_true (Nat.le_trans hnd.len (Nat.le_add_right _ _))
  have gr30 : decide (h.length ≤ H3.length) = true := gr3 0
  have hvb : (0 : Nat) = 0 := rfl
  try simp only [B14, d1, d2, d3, hq0, hq1, kid1, kid2, kq1_v, kq2_v, encF_tyQ, encF_soQ, gr3, gr30, hal, a4', htk, go_sem, V.s.injEq, Value.bool.injEq, ↓reduceIte, Nat.reduceEqDiff, Nat.reduceBEq, Nat.reduceAdd, Nat.reduceSub, Nat.reduceLT, Nat.reduceLeDiff, Int.reduceLT, Int.reduceLE, Int.reduceEq, Int.reduceToNat, List.append_assoc, List.length_append, Vm.get_app, Vm.set_app, Vm.get_appL, Vm.get_appL0, Vm.set_appL, Vm.set_appL0, Nat.le_refl, Nat.le_add_right, okAt]
  repeat' (
    first | refine wpC_cases ?_ ?_ | refine wpU_casesT ?_ ?_ | refine wpU_casesF ?_ ?_
    all_goals intro hvc
    all_goals first | replace hvc := not_of_true hvc | replace hvc := not_of_false hvc | skip
    all_goals first | subst hvc | replace hvb := And.intro hvc hvb
    all_goals try simp only [hvb, B14, d1, d2, d3, hq0, hq1, kid1, kid2, kq1_v, kq2_v, encF_tyQ, encF_soQ, gr3, gr30, hal, a4', htk, go_sem, V.s.injEq, Value.bool.injEq, ↓reduceIte, Nat.reduceEqDiff, Nat.reduceBEq, Nat.reduceAdd, Nat.reduceSub, Nat.reduceLT, Nat.reduceLeDiff, Int.reduceLT, Int.reduceLE, Int.reduceEq, Int.reduceToNat, List.append_assoc, List.length_append, Vm.get_app, Vm.set_app, Vm.get_appL, Vm.get_appL0, Vm.set_appL, Vm.set_appL0, Nat.le_refl, Nat.le_add_right, okAt])
theorem doG_why {v : Vault} {q : Request} (hc : (doG v q).2.2 = true) : (doG v q).2.1.why = 0 ∨ (doG v q).2.1.why = 23 := by
  have esc : ∀ r, (escV v q r).2.2 = true → (escV v q r).2.1.why = r.why := by
    intro r h
    unfold escV at h ⊢
    split at h
    · cases h
    · rename_i hlt; rw [if_neg hlt]
  unfold doG at hc ⊢
  split at hc
  · rename_i h1
    rw [if_pos h1]
    split at hc
    · cases hc
    · rename_i h2
      rw [if_neg h2, esc _ hc]; exact .inl rfl
  · rename_i h1
    rw [if_neg h1]
    split at hc
    · cases hc
    · rename_i h2
      rw [if_neg h2]
      split at hc
      · rename_i h3
        rw [if_pos h3]
        unfold recV at hc ⊢
        split at hc
        · cases hc
        · rename_i h4
          rw [if_neg h4]
          split <;> exact .inr rfl
      · rename_i h3
        rw [if_neg h3]
        split at hc
        · rename_i h4
          rw [if_pos h4, esc _ hc]; exact .inl rfl
        · rename_i h4
          rw [if_neg h4]; exact .inl rfl
/-- What is refused changes nothing. -/
theorem ideal_refused {ls : Nat → List Vault} {q : Request} (h0 : (idealDo ls q).1.why ≠ 0) (h1 : (idealDo ls q).1.why ≠ 23) : (idealDo ls q).2 = ls := by
  unfold idealDo at h0 h1 ⊢
  split
  · rfl
  · rename_i hq
    rw [if_neg hq] at h0 h1
    split
    · rfl
    · rename_i hc
      rw [if_neg hc] at h0 h1
      split
      · rfl
      · rename_i hf
        rw [if_neg hf] at h0 h1
        rcases doG_why (by simpa using hc) with h | h
        · exact absurd h h0
        · exact absurd h h1
theorem keepQ_id (x : Q) : (keepQ x).iD.length = 4 := rfl
theorem Q_ty (x : Q) : x.enc.ty = some 35 := rfl
theorem IdealCopies_run (b : Nat) (h : Hp) (l o : List Q) (hl : l.length ≤ 140737488351232) (hb : ∀ x ∈ l, x.wf) (ho : o.length ≤ 140737488351232) (hob : ∀ x ∈ o, x.wf) :
    run fns pr b 4 [.imm false (some 35) (l.map Q.enc), .imm false (some 35) (o.map Q.enc)] h = some (.s (.bool true), h) := by
  refine Vm.runP (nt := 86) rfl fit4 (by simp) ?_
  obtain ⟨v0, H0, e0', F0, rfl, m0, f0, hF0⟩ := INew_ok h.length h (Nat.le_refl _)
  have hvb : (0 : Nat) = 0 := rfl
  try simp only [B4, B4R0, B4R2, B4L2, B4L0, e0', go_sem, V.s.injEq, Value.bool.injEq, ↓reduceIte, Nat.reduceEqDiff, Nat.reduceBEq, Nat.reduceAdd, Nat.reduceSub, Nat.reduceLT, Nat.reduceLeDiff, Int.reduceLT, Int.reduceLE, Int.reduceEq, Int.reduceToNat, List.append_assoc, List.length_append, Vm.get_app, Vm.set_app, Vm.get_appL, Vm.get_appL0, Vm.set_appL, Vm.set_appL0, Nat.le_refl, Nat.le_add_right, okAt]
  repeat' (
    first | refine wpC_cases ?_ ?_ | refine wpU_casesT ?_ ?_ | refine wpU_casesF ?_ ?_
    all_goals intro hvc
    all_goals first | replace hvc := not_of_true hvc | replace hvc := not_of_false hvc | skip
    all_goals first | subst hvc | replace hvb := And.intro hvc hvb
    all_goals try simp only [hvb, B4, B4R0, B4R2, B4L2, B4L0, e0', go_sem, V.s.injEq, Value.bool.injEq, ↓reduceIte, Nat.reduceEqDiff, Nat.reduceBEq, Nat.reduceAdd, Nat.reduceSub, Nat.reduceLT, Nat.reduceLeDiff, Int.reduceLT, Int.reduceLE, Int.reduceEq, Int.reduceToNat, List.append_assoc, List.length_append, Vm.get_app, Vm.set_app, Vm.get_appL, Vm.get_appL0, Vm.set_appL, Vm.set_appL0, Nat.le_refl, Nat.le_add_right, okAt])
  obtain ⟨A, hA⟩ : ∃ A, V.imm false (some 35) (l.map Q.enc) = A := ⟨_, rfl⟩
  obtain ⟨B, hB⟩ : ∃ B, V.imm false (some 35) (o.map Q.enc) = B := ⟨_, rfl⟩
  have sA : ∀ H, SR H A (some 35) (l.map Q.enc) := fun H => .inl ⟨false, hA.symm⟩
  have sB : ∀ H, SR H B (some 35) (o.map Q.enc) := fun H => .inl ⟨false, hB.symm⟩
  rw [hA, hB]
  have lA := fun cf base H => (sA H).o_len (cf := cf) (base := base) (h := H)
  have lB := fun cf base H => (sB H).o_len (cf := cf) (base := base) (h := H)
  simp only [List.length_map] at lA lB
  refine wp_for (fun n e H => ∃ i ls F, n = l.length - i ∧ i ≤ l.length ∧ e 6 = .s (.int .i64 (i : Nat)) ∧ e 0 = A ∧ e 1 = B ∧ e 5 = .ptr h.length [0] 1 ∧ MR H h.length ls F ∧ MOk ls ∧ Fw [] h H ∧ ∀ j ∈ F, h.length ≤ j)
    (fun e H => e 1 = B ∧ e 5 = .ptr h.length [0] 1 ∧ ∃ ls F, MR H h.length ls F ∧ MOk ls ∧ Fw [] h H ∧ ∀ j ∈ F, h.length ≤ j)
    l.length _ _ ⟨0, _, F0, rfl, by omega, rfl, rfl, rfl, rfl, m0, MOk_nil, f0, hF0⟩ ?_ ?_
  · rintro n e H ⟨i, ls, F, rfl, hi, e6, e0, e1, e5, mr, ok, fw, hF⟩
    by_cases c1 : i < l.length
    case neg =>
      have c' : ¬ (i : Int) < l.length := by omega
      have hvb : (0 : Nat) = 0 := rfl
      try simp only [e6, e0, e1, e5, lA, c', go_sem, V.s.injEq, Value.bool.injEq, ↓reduceIte, Nat.reduceEqDiff, Nat.reduceBEq, Nat.reduceAdd, Nat.reduceSub, Nat.reduceLT, Nat.reduceLeDiff, Int.reduceLT, Int.reduceLE, Int.reduceEq, Int.reduceToNat, List.append_assoc, List.length_append, Vm.get_app, Vm.set_app, Vm.get_appL, Vm.get_appL0, Vm.set_appL, Vm.set_appL0, Nat.le_refl, Nat.le_add_right, okAt]
      repeat' (
        first | refine wpC_cases ?_ ?_ | refine wpU_casesT ?_ ?_ | refine wpU_casesF ?_ ?_
        all_goals intro hvc
        all_goals first | replace hvc := not_of_true hvc | replace hvc := not_of_false hvc | skip
        all_goals first | subst hvc | replace hvb := And.intro hvc hvb
        all_goals try simp only [hvb, e6, e0, e1, e5, lA, c', go_sem, V.s.injEq, Value.bool.injEq, ↓reduceIte, Nat.reduceEqDiff, Nat.reduceBEq, Nat.reduceAdd, Nat.reduceSub, Nat.reduceLT, Nat.reduceLeDiff, Int.reduceLT, Int.reduceLE, Int.reduceEq, Int.reduceToNat, List.append_assoc, List.length_append, Vm.get_app, Vm.set_app, Vm.get_appL, Vm.get_appL0, Vm.set_appL, Vm.set_appL0, Nat.le_refl, Nat.le_add_right, okAt])
      all_goals exact ⟨ls, F, mr, ok, fw, hF⟩
    have c1' : (i : Int) < l.length := by omega
    by_cases c2 : i < 30
    case neg =>
      have c' : ¬ (i : Int) < 30 := by omega
      have hvb : (0 : Nat) = 0 := rfl
      try simp only [e6, e0, e1, e5, lA, c1', c', go_sem, V.s.injEq, Value.bool.injEq, ↓reduceIte, Nat.reduceEqDiff, Nat.reduceBEq, Nat.reduceAdd, Nat.reduceSub, Nat.reduceLT, Nat.reduceLeDiff, Int.reduceLT, Int.reduceLE, Int.reduceEq, Int.reduceToNat, List.append_assoc, List.length_append, Vm.get_app, Vm.set_app, Vm.get_appL, Vm.get_appL0, Vm.set_appL, Vm.set_appL0, Nat.le_refl, Nat.le_add_right, okAt]
      repeat' (
        first | refine wpC_cases ?_ ?_ | refine wpU_casesT ?_ ?_ | refine wpU_casesF ?_ ?_
        all_goals intro hvc
        all_goals first | replace hvc := not_of_true hvc | replace hvc := not_of_false hvc | skip
        all_goals first | subst hvc | replace hvb := And.intro hvc hvb
        all_goals try simp only [hvb, e6, e0, e1, e5, lA, c1', c', go_sem, V.s.injEq, Value.bool.injEq, ↓reduceIte, Nat.reduceEqDiff, Nat.reduceBEq, Nat.reduceAdd, Nat.reduceSub, Nat.reduceLT, Nat.reduceLeDiff, Int.reduceLT, Int.reduceLE, Int.reduceEq, Int.reduceToNat, List.append_assoc, List.length_append, Vm.get_app, Vm.set_app, Vm.get_appL, Vm.get_appL0, Vm.set_appL, Vm.set_appL0, Nat.le_refl, Nat.le_add_right, okAt])
      all_goals exact ⟨ls, F, mr, ok, fw, hF⟩
    have c2' : (i : Int) < 30 := by omega
    have hx := hb _ (List.getElem_mem c1)
    have hia := fun cf base => (sA H).o_ias (cf := cf) (base := base) (k := .i64) (i := i) (by simpa using c1)
    have hlo := fun cf base => (sA H).o_ld (cf := cf) (base := base) (i := i) (v := Q.enc l[i]) (by simp [c1]) rfl
    have hrq := Request_ok h.length H l[i] hx
    obtain ⟨v1, H1, d1, F1, rfl, m1, f1, hF1⟩ := IDo_ok h.length H h.length ls F (keepQ l[i]) false hF mr ok (by rw [keepQ_id]; omega)
    have hwr : IntKind.i64.wrap ((i : Int) + 1) = ((i + 1 : Nat) : Int) := wrap_small (by omega)
    have hvb : (0 : Nat) = 0 := rfl
    try simp only [e6, e0, e1, e5, lA, c1', c2', hia, hlo, hrq, Request.enc_F, d1, hwr, go_sem, V.s.injEq, Value.bool.injEq, ↓reduceIte, Nat.reduceEqDiff, Nat.reduceBEq, Nat.reduceAdd, Nat.reduceSub, Nat.reduceLT, Nat.reduceLeDiff, Int.reduceLT, Int.reduceLE, Int.reduceEq, Int.reduceToNat, List.append_assoc, List.length_append, Vm.get_app, Vm.set_app, Vm.get_appL, Vm.get_appL0, Vm.set_appL, Vm.set_appL0, Nat.le_refl, Nat.le_add_right, okAt]
    repeat' (
      first | refine wpC_cases ?_ ?_ | refine wpU_casesT ?_ ?_ | refine wpU_casesF ?_ ?_
      all_goals intro hvc
      all_goals first | replace hvc := not_of_true hvc | replace hvc := not_of_false hvc | skip
      all_goals first | subst hvc | replace hvb := And.intro hvc hvb
      all_goals try simp only [hvb, e6, e0, e1, e5, lA, c1', c2', hia, hlo, hrq, Request.enc_F, d1, hwr, go_sem, V.s.injEq, Value.bool.injEq, ↓reduceIte, Nat.reduceEqDiff, Nat.reduceBEq, Nat.reduceAdd, Nat.reduceSub, Nat.reduceLT, Nat.reduceLeDiff, Int.reduceLT, Int.reduceLE, Int.reduceEq, Int.reduceToNat, List.append_assoc, List.length_append, Vm.get_app, Vm.set_app, Vm.get_appL, Vm.get_appL0, Vm.set_appL, Vm.set_appL0, Nat.le_refl, Nat.le_add_right, okAt])
    all_goals exact ⟨l.length - (i + 1), by omega, i + 1, _, F1, rfl, by omega, rfl, m1, ok.idealDo _ (keepQ_id _), fw.new f1 (fun j hj => .inl (hF j hj)), fun j hj => (hF1 j hj).elim (hF j) fun h' => by have := fw.len; omega⟩
  · rintro e H ⟨e1, e5, ls, F, mr, ok, fw, hF⟩
    have hal := IAll_ok h.length H h.length ls F mr ok
    obtain ⟨v2, H2, e2, Fc, rfl, mc, f2, hFc⟩ := ICopy_ok h.length H h.length ls F fw.len mr ok
    have hac := IAll_ok h.length H2 H.length ls Fc mc ok
    have hn1 := allP_len ls 16 fun j hj => (ok j hj).2.1
    have hv := Vaults_ok h.length H2 (.imm false (some 74) ((allP ls 16).map Vault.enc)) (.imm false (some 74) ((allP ls 16).map Vault.enc)) _ _ (.inl ⟨_, rfl⟩) (.inl ⟨_, rfl⟩) (show (allP ls 16).length ≤ 1000 by omega)
    simp only [decide_true] at hv
    have hvb : (0 : Nat) = 0 := rfl
    try simp only [e1, e5, hal, e2, hac, hv, go_sem, V.s.injEq, Value.bool.injEq, ↓reduceIte, Nat.reduceEqDiff, Nat.reduceBEq, Nat.reduceAdd, Nat.reduceSub, Nat.reduceLT, Nat.reduceLeDiff, Int.reduceLT, Int.reduceLE, Int.reduceEq, Int.reduceToNat, List.append_assoc, List.length_append, Vm.get_app, Vm.set_app, Vm.get_appL, Vm.get_appL0, Vm.set_appL, Vm.set_appL0, Nat.le_refl, Nat.le_add_right, okAt]
    repeat' (
      first | refine wpC_cases ?_ ?_ | refine wpU_casesT ?_ ?_ | refine wpU_casesF ?_ ?_
      all_goals intro hvc
      all_goals first | replace hvc := not_of_true hvc | replace hvc := not_of_false hvc | skip
      all_goals first | subst hvc | replace hvb := And.intro hvc hvb
      all_goals try simp only [hvb, e1, e5, hal, e2, hac, hv, go_sem, V.s.injEq, Value.bool.injEq, ↓reduceIte, Nat.reduceEqDiff, Nat.reduceBEq, Nat.reduceAdd, Nat.reduceSub, Nat.reduceLT, Nat.reduceLeDiff, Int.reduceLT, Int.reduceLE, Int.reduceEq, Int.reduceToNat, List.append_assoc, List.length_append, Vm.get_app, Vm.set_app, Vm.get_appL, Vm.get_appL0, Vm.set_appL, Vm.set_appL0, Nat.le_refl, Nat.le_add_right, okAt])
    have mm := mr.mono f2 (by simp)
    have hlt := mr.lt
    refine wp_for (fun n e H' => ∃ i lc F', n = o.length - i ∧ i ≤ o.length ∧ e 9 = .s (.int .i64 (i : Nat)) ∧ e 1 = B ∧ e 5 = .ptr h.length [0] 1 ∧ e 7 = .imm false (some 74) ((allP ls 16).map Vault.enc) ∧ e 8 = .ptr H.length [0] 1 ∧ MR H' h.length ls F ∧ MR H' H.length lc F' ∧ MOk lc ∧ Fw [] H H' ∧ ∀ j ∈ F', H.length ≤ j)
      (fun e H' => e 5 = .ptr h.length [0] 1 ∧ e 7 = .imm false (some 74) ((allP ls 16).map Vault.enc) ∧ MR H' h.length ls F ∧ Fw [] H H')
      o.length _ _ ⟨0, ls, Fc, rfl, by omega, rfl, e1, e5, rfl, rfl, mm, mc, ok, f2, hFc⟩ ?_ ?_
    · rintro n e H' ⟨i, lc, F', rfl, hi, e9, e1, e5, e7, e8, mm, mc, okc, fw', hF'⟩
      by_cases c1 : i < o.length
      case neg =>
        have c' : ¬ (i : Int) < o.length := by omega
        have hvb : (0 : Nat) = 0 := rfl
        try simp only [e9, e1, e5, e7, e8, lB, c', go_sem, V.s.injEq, Value.bool.injEq, ↓reduceIte, Nat.reduceEqDiff, Nat.reduceBEq, Nat.reduceAdd, Nat.reduceSub, Nat.reduceLT, Nat.reduceLeDiff, Int.reduceLT, Int.reduceLE, Int.reduceEq, Int.reduceToNat, List.append_assoc, List.length_append, Vm.get_app, Vm.set_app, Vm.get_appL, Vm.get_appL0, Vm.set_appL, Vm.set_appL0, Nat.le_refl, Nat.le_add_right, okAt]
        repeat' (
          first | refine wpC_cases ?_ ?_ | refine wpU_casesT ?_ ?_ | refine wpU_casesF ?_ ?_
          all_goals intro hvc
          all_goals first | replace hvc := not_of_true hvc | replace hvc := not_of_false hvc | skip
          all_goals first | subst hvc | replace hvb := And.intro hvc hvb
          all_goals try simp only [hvb, e9, e1, e5, e7, e8, lB, c', go_sem, V.s.injEq, Value.bool.injEq, ↓reduceIte, Nat.reduceEqDiff, Nat.reduceBEq, Nat.reduceAdd, Nat.reduceSub, Nat.reduceLT, Nat.reduceLeDiff, Int.reduceLT, Int.reduceLE, Int.reduceEq, Int.reduceToNat, List.append_assoc, List.length_append, Vm.get_app, Vm.set_app, Vm.get_appL, Vm.get_appL0, Vm.set_appL, Vm.set_appL0, Nat.le_refl, Nat.le_add_right, okAt])
        all_goals exact ⟨mm, fw'⟩
      have c1' : (i : Int) < o.length := by omega
      by_cases c2 : i < 20
      case neg =>
        have c' : ¬ (i : Int) < 20 := by omega
        have hvb : (0 : Nat) = 0 := rfl
        try simp only [e9, e1, e5, e7, e8, lB, c1', c', go_sem, V.s.injEq, Value.bool.injEq, ↓reduceIte, Nat.reduceEqDiff, Nat.reduceBEq, Nat.reduceAdd, Nat.reduceSub, Nat.reduceLT, Nat.reduceLeDiff, Int.reduceLT, Int.reduceLE, Int.reduceEq, Int.reduceToNat, List.append_assoc, List.length_append, Vm.get_app, Vm.set_app, Vm.get_appL, Vm.get_appL0, Vm.set_appL, Vm.set_appL0, Nat.le_refl, Nat.le_add_right, okAt]
        repeat' (
          first | refine wpC_cases ?_ ?_ | refine wpU_casesT ?_ ?_ | refine wpU_casesF ?_ ?_
          all_goals intro hvc
          all_goals first | replace hvc := not_of_true hvc | replace hvc := not_of_false hvc | skip
          all_goals first | subst hvc | replace hvb := And.intro hvc hvb
          all_goals try simp only [hvb, e9, e1, e5, e7, e8, lB, c1', c', go_sem, V.s.injEq, Value.bool.injEq, ↓reduceIte, Nat.reduceEqDiff, Nat.reduceBEq, Nat.reduceAdd, Nat.reduceSub, Nat.reduceLT, Nat.reduceLeDiff, Int.reduceLT, Int.reduceLE, Int.reduceEq, Int.reduceToNat, List.append_assoc, List.length_append, Vm.get_app, Vm.set_app, Vm.get_appL, Vm.get_appL0, Vm.set_appL, Vm.set_appL0, Nat.le_refl, Nat.le_add_right, okAt])
        all_goals exact ⟨mm, fw'⟩
      have c2' : (i : Int) < 20 := by omega
      have hx := hob _ (List.getElem_mem c1)
      have hia := fun cf base => (sB H').o_ias (cf := cf) (base := base) (k := .i64) (i := i) (by simpa using c1)
      have hlo := fun cf base => (sB H').o_ld (cf := cf) (base := base) (i := i) (v := Q.enc o[i]) (by simp [c1]) rfl
      have hrq := Request_ok h.length H' o[i] hx
      have hbe := IAll_ok h.length H' H.length lc F' mc okc
      obtain ⟨v1, H1, d1, F1, rfl, m1, f1, hF1⟩ := IDo_ok h.length H' H.length lc F' (keepQ o[i]) false (fun j hj => Nat.le_trans fw.len (hF' j hj)) mc okc (by rw [keepQ_id]; omega)
      have ok1 := okc.idealDo (keepQ o[i]) (keepQ_id _)
      have hal := fun t => IAll_ok h.length (H1 ++ t) H.length _ F1 (m1.app t) ok1
      have href := @ideal_refused lc (keepQ o[i])
      have hn1 := allP_len lc 16 fun j hj => (okc j hj).2.1
      have mm1 : MR H1 h.length ls F := mm.mono f1 fun j hj hj' => by have := hlt j hj; have := hF' j hj'; omega
      have fw1 : Fw [] H H1 := fw'.new f1 (fun j hj => .inl (hF' j hj))
      have hF1' : ∀ j ∈ F1, H.length ≤ j := fun j hj => (hF1 j hj).elim (hF' j) fun h' => by have := fw'.len; omega
      have hwr : IntKind.i64.wrap ((i : Int) + 1) = ((i + 1 : Nat) : Int) := wrap_small (by omega)
      have hv := fun t => Vaults_ok h.length (H1 ++ t) (.imm false (some 74) ((allP lc 16).map Vault.enc)) (.imm false (some 74) ((allP lc 16).map Vault.enc)) _ _ (.inl ⟨_, rfl⟩) (.inl ⟨_, rfl⟩) (show (allP lc 16).length ≤ 1000 by omega)
      simp only [decide_true] at hv
      have gr1 : ∀ k, decide (h.length ≤ H1.length + k) = true := fun k => decide_eq_true (by have := fw.len; have := fw1.len; omega)
      have gr10 : decide (h.length ≤ H1.length) = true := gr1 0
      have hend : ∀ t : Hp, ∃ m, m < o.length - i ∧ ∃ i' lc F', m = o.length - i' ∧ i' ≤ o.length ∧ Value.int IntKind.i64 ((i + 1 : Nat) : Int) = Value.int IntKind.i64 (i' : Int) ∧ MR (H1 ++ t) h.length ls F ∧ MR (H1 ++ t) H.length lc F' ∧ MOk lc ∧ Fw [] H (H1 ++ t) ∧ ∀ j ∈ F', H.length ≤ j :=
        fun t => ⟨o.length - (i + 1), by omega, i + 1, _, F1, rfl, by omega, rfl, mm1.app t, m1.app t, ok1, fw1.trans (Fw.app _ _ _), hF1'⟩
      generalize idealDo lc (keepQ o[i]) = r at *
      obtain ⟨⟨x1, x2, x3, x4, x5, x6, x7⟩, l1⟩ := r
      simp only [Reply.enc] at d1 hal href
      by_cases k0 : x1 = 0
      · subst k0
        have hvb : (0 : Nat) = 0 := rfl
        try simp only [e9, e1, e5, e7, e8, lB, c1', c2', hia, hlo, hrq, hbe, Request.enc_F, d1, gr1, gr10, hwr, go_sem, V.s.injEq, Value.bool.injEq, ↓reduceIte, Nat.reduceEqDiff, Nat.reduceBEq, Nat.reduceAdd, Nat.reduceSub, Nat.reduceLT, Nat.reduceLeDiff, Int.reduceLT, Int.reduceLE, Int.reduceEq, Int.reduceToNat, List.append_assoc, List.length_append, Vm.get_app, Vm.set_app, Vm.get_appL, Vm.get_appL0, Vm.set_appL, Vm.set_appL0, Nat.le_refl, Nat.le_add_right, okAt]
        repeat' (
          first | refine wpC_cases ?_ ?_ | refine wpU_casesT ?_ ?_ | refine wpU_casesF ?_ ?_
          all_goals intro hvc
          all_goals first | replace hvc := not_of_true hvc | replace hvc := not_of_false hvc | skip
          all_goals first | subst hvc | replace hvb := And.intro hvc hvb
          all_goals try simp only [hvb, e9, e1, e5, e7, e8, lB, c1', c2', hia, hlo, hrq, hbe, Request.enc_F, d1, gr1, gr10, hwr, go_sem, V.s.injEq, Value.bool.injEq, ↓reduceIte, Nat.reduceEqDiff, Nat.reduceBEq, Nat.reduceAdd, Nat.reduceSub, Nat.reduceLT, Nat.reduceLeDiff, Int.reduceLT, Int.reduceLE, Int.reduceEq, Int.reduceToNat, List.append_assoc, List.length_append, Vm.get_app, Vm.set_app, Vm.get_appL, Vm.get_appL0, Vm.set_appL, Vm.set_appL0, Nat.le_refl, Nat.le_add_right, okAt])
        all_goals exact hend _
      · by_cases k1 : x1 = 23
        · subst k1
          have hvb : (0 : Nat) = 0 := rfl
          try simp only [e9, e1, e5, e7, e8, lB, c1', c2', hia, hlo, hrq, hbe, Request.enc_F, d1, gr1, gr10, hwr, go_sem, V.s.injEq, Value.bool.injEq, ↓reduceIte, Nat.reduceEqDiff, Nat.reduceBEq, Nat.reduceAdd, Nat.reduceSub, Nat.reduceLT, Nat.reduceLeDiff, Int.reduceLT, Int.reduceLE, Int.reduceEq, Int.reduceToNat, List.append_assoc, List.length_append, Vm.get_app, Vm.set_app, Vm.get_appL, Vm.get_appL0, Vm.set_appL, Vm.set_appL0, Nat.le_refl, Nat.le_add_right, okAt]
          repeat' (
            first | refine wpC_cases ?_ ?_ | refine wpU_casesT ?_ ?_ | refine wpU_casesF ?_ ?_
            all_goals intro hvc
            all_goals first | replace hvc := not_of_true hvc | replace hvc := not_of_false hvc | skip
            all_goals first | subst hvc | replace hvb := And.intro hvc hvb
            all_goals try simp only [hvb, e9, e1, e5, e7, e8, lB, c1', c2', hia, hlo, hrq, hbe, Request.enc_F, d1, gr1, gr10, hwr, go_sem, V.s.injEq, Value.bool.injEq, ↓reduceIte, Nat.reduceEqDiff, Nat.reduceBEq, Nat.reduceAdd, Nat.reduceSub, Nat.reduceLT, Nat.reduceLeDiff, Int.reduceLT, Int.reduceLE, Int.reduceEq, Int.reduceToNat, List.append_assoc, List.length_append, Vm.get_app, Vm.set_app, Vm.get_appL, Vm.get_appL0, Vm.set_appL, Vm.set_appL0, Nat.le_refl, Nat.le_add_right, okAt])
          all_goals exact hend _
        · have := href k0 k1
          subst this
          have hvb : (0 : Nat) = 0 := rfl
          try simp only [e9, e1, e5, e7, e8, lB, c1', c2', hia, hlo, hrq, hbe, Request.enc_F, d1, gr1, gr10, k0, k1, hal, hv, hwr, go_sem, V.s.injEq, Value.bool.injEq, ↓reduceIte, Nat.reduceEqDiff, Nat.reduceBEq, Nat.reduceAdd, Nat.reduceSub, Nat.reduceLT, Nat.reduceLeDiff, Int.reduceLT, Int.reduceLE, Int.reduceEq, Int.reduceToNat, List.append_assoc, List.length_append, Vm.get_app, Vm.set_app, Vm.get_appL, Vm.get_appL0, Vm.set_appL, Vm.set_appL0, Nat.le_refl, Nat.le_add_right, okAt]
          repeat' (
            first | refine wpC_cases ?_ ?_ | refine wpU_casesT ?_ ?_ | refine wpU_casesF ?_ ?_
            all_goals intro hvc
            all_goals first | replace hvc := not_of_true hvc | replace hvc := not_of_false hvc | skip
            all_goals first | subst hvc | replace hvb := And.intro hvc hvb
            all_goals try simp only [hvb, e9, e1, e5, e7, e8, lB, c1', c2', hia, hlo, hrq, hbe, Request.enc_F, d1, gr1, gr10, k0, k1, hal, hv, hwr, go_sem, V.s.injEq, Value.bool.injEq, ↓reduceIte, Nat.reduceEqDiff, Nat.reduceBEq, Nat.reduceAdd, Nat.reduceSub, Nat.reduceLT, Nat.reduceLeDiff, Int.reduceLT, Int.reduceLE, Int.reduceEq, Int.reduceToNat, List.append_assoc, List.length_append, Vm.get_app, Vm.set_app, Vm.get_appL, Vm.get_appL0, Vm.set_appL, Vm.set_appL0, Nat.le_refl, Nat.le_add_right, okAt])
          all_goals exact hend _
    · rintro e H' ⟨e5, e7, mm, fw'⟩
      have hal := IAll_ok h.length H' h.length ls F mm ok
      have hv := Vaults_ok h.length H' (.imm false (some 74) ((allP ls 16).map Vault.enc)) (.imm false (some 74) ((allP ls 16).map Vault.enc)) _ _ (.inl ⟨_, rfl⟩) (.inl ⟨_, rfl⟩) (show (allP ls 16).length ≤ 1000 by omega)
      simp only [decide_true] at hv
      have hk := known23_ok h.length H'
      have htk := (fw.trans fw').take
      have hvb : (0 : Nat) = 0 := rfl
      try simp only [e5, e7, hal, hv, hk, htk, go_sem, V.s.injEq, Value.bool.injEq, ↓reduceIte, Nat.reduceEqDiff, Nat.reduceBEq, Nat.reduceAdd, Nat.reduceSub, Nat.reduceLT, Nat.reduceLeDiff, Int.reduceLT, Int.reduceLE, Int.reduceEq, Int.reduceToNat, List.append_assoc, List.length_append, Vm.get_app, Vm.set_app, Vm.get_appL, Vm.get_appL0, Vm.set_appL, Vm.set_appL0, Nat.le_refl, Nat.le_add_right, okAt]
      repeat' (
        first | refine wpC_cases ?_ ?_ | refine wpU_casesT ?_ ?_ | refine wpU_casesF ?_ ?_
        all_goals intro hvc
        all_goals first | replace hvc := not_of_true hvc | replace hvc := not_of_false hvc | skip
        all_goals first | subst hvc | replace hvb := And.intro hvc hvb
        all_goals try simp only [hvb, e5, e7, hal, hv, hk, htk, go_sem, V.s.injEq, Value.bool.injEq, ↓reduceIte, Nat.reduceEqDiff, Nat.reduceBEq, Nat.reduceAdd, Nat.reduceSub, Nat.reduceLT, Nat.reduceLeDiff, Int.reduceLT, Int.reduceLE, Int.reduceEq, Int.reduceToNat, List.append_assoc, List.length_append, Vm.get_app, Vm.set_app, Vm.get_appL, Vm.get_appL0, Vm.set_appL, Vm.set_appL0, Nat.le_refl, Nat.le_add_right, okAt])
end Go.Proofs.Ytkkncdokkdamcaa
