/- IdealCopies. Conditions: none. -/
import Derived.Test.YtfhmclgnfabdfaaCM23
namespace Go.Proofs.Ytfhmclgnfabdfaa
open Go Go.Vm Go.Proofs Go.Cl
set_option linter.unusedSimpArgs false
set_option linter.unusedVariables false
set_option maxRecDepth 100000
def nm1 : Bs := [1, 0, 0, 0]
def nm2 : Bs := [2, 0, 0, 0]
def kq1 : Request := ⟨1, [1, 0, 0, 0], zero16, [115], 2, zero16, zero16, 0, 0⟩
def kq2 : Request := ⟨2, [2, 0, 0, 0], zero16, [], 0, zero16, zero16, 0, 0⟩
def kl0 : Nat → List Vault := fun _ => []
theorem MOk_nil : MOk kl0 := fun i _ => ⟨List.Pairwise.nil, by simp [kl0], by simp [kl0]⟩
theorem kq1_v (f : Bool) : V.st 32 [.s (.int .i64 1), .arr 23 (nm1.map byteV), .arr 26 (zero16.map byteV), .imm f none [.s (.int .u8 115)], .s (.int .i64 2), .arr 26 (zero16.map byteV), .arr 26 (zero16.map byteV), .s (.int .i64 0), .s (.int .u64 0)] = kq1.encF f := rfl
theorem kq2_v (f : Bool) : V.st 32 [.s (.int .i64 2), .arr 23 (nm2.map byteV), .arr 26 (zero16.map byteV), .imm f none [], .s (.int .i64 0), .arr 26 (zero16.map byteV), .arr 26 (zero16.map byteV), .s (.int .i64 0), .s (.int .u64 0)] = kq2.encF f := rfl
theorem kid1 (t : Nat) : V.arr t [.s (.int .u8 1), .s (.int .u8 0), .s (.int .u8 0), .s (.int .u8 0)] = .arr t (nm1.map byteV) := rfl
theorem kid2 (t : Nat) : V.arr t [.s (.int .u8 2), .s (.int .u8 0), .s (.int .u8 0), .s (.int .u8 0)] = .arr t (nm2.map byteV) := rfl
theorem k_1 : (idealDo kl0 kq1).1.why = 0 ∧ (idealDo kl0 kq1).1.gen = 1 := by decide +kernel
theorem k_2 : (idealDo (idealDo kl0 kq1).2 kq1).1.why = 14 := by decide +kernel
theorem k_3 : (idealDo (idealDo (idealDo kl0 kq1).2 kq1).2 kq2).1.why = 22 := by decide +kernel
theorem k_4 : (allP (idealDo (idealDo (idealDo kl0 kq1).2 kq1).2 kq2).2 16).length = 1 := by decide +kernel
theorem known23_ok (b : Nat) (h : Hp) : run fns pr b 18 [] h = some (.s (.bool true), h) := by
  refine Vm.runP (nt := 47) rfl fit18 (by simp) ?_
  obtain ⟨v0, H0, e0', F0, rfl, m0, f0, hF0⟩ := INew_ok h.length h (Nat.le_refl _)
  have m0 : MR H0 h.length kl0 F0 := m0
  have gr : ∀ k, decide (h.length ≤ H0.length + k) = true := fun k => decide_eq_true (Nat.le_trans f0.len (Nat.le_add_right _ _))
  have hvb : (0 : Nat) = 0 := rfl
  try simp only [B18, e0', kid1, kid2, kq1_v, kq2_v, encF_tyQ, encF_soQ, gr, go_sem, V.s.injEq, Value.bool.injEq, ↓reduceIte, Nat.reduceEqDiff, Nat.reduceBEq, Nat.reduceAdd, Nat.reduceSub, Nat.reduceLT, Nat.reduceLeDiff, Int.reduceLT, Int.reduceLE, Int.reduceEq, Int.reduceToNat, List.append_assoc, List.length_append, Vm.get_app, Vm.set_app, Vm.get_appL, Vm.get_appL0, Vm.set_appL, Vm.set_appL0, Nat.le_refl, Nat.le_add_right, okAt]
  repeat' (
    first | refine wpC_cases ?_ ?_ | refine wpU_casesT ?_ ?_ | refine wpU_casesF ?_ ?_
    all_goals intro hvc
    all_goals first | replace hvc := not_of_true hvc | replace hvc := not_of_false hvc | skip
    all_goals first | subst hvc | replace hvb := And.intro hvc hvb
    all_goals try simp only [hvb, B18, e0', kid1, kid2, kq1_v, kq2_v, encF_tyQ, encF_soQ, gr, go_sem, V.s.injEq, Value.bool.injEq, ↓reduceIte, Nat.reduceEqDiff, Nat.reduceBEq, Nat.reduceAdd, Nat.reduceSub, Nat.reduceLT, Nat.reduceLeDiff, Int.reduceLT, Int.reduceLE, Int.reduceEq, Int.reduceToNat, List.append_assoc, List.length_append, Vm.get_app, Vm.set_app, Vm.get_appL, Vm.get_appL0, Vm.set_appL, Vm.set_appL0, Nat.le_refl, Nat.le_add_right, okAt])
  have hq0 : (H0 ++ [Blk.dead, Blk.cells (some 32) [Request.encF false kq1]])[H0.length + 1]? = some (Blk.cells (some 32) [Request.encF false kq1]) := get_app _ _ 1
  have hlt0 : H0.length + 1 < (H0 ++ [Blk.dead, Blk.cells (some 32) [Request.encF false kq1]]).length := by simp
  have fA : Fw [] H0 (H0 ++ [Blk.dead, Blk.cells (some 32) [Request.encF false kq1]]) := Fw.app _ _ _
  have mA := m0.app [Blk.dead, Blk.cells (some 32) [Request.encF false kq1]]
  have hlm := m0.lt
  generalize (H0 ++ [Blk.dead, Blk.cells (some 32) [Request.encF false kq1]]) = HA at *
  obtain ⟨v1, H1, d1, F1, rfl, m1, f1, hF1⟩ := IDo_ok h.length HA h.length kl0 F0 kq1 false hF0 mA MOk_nil (by decide)
  have hq1 := f1.old _ _ hq0 (fun hj => by have := hlm _ hj; omega)
  have o1 := MOk_nil.idealDo kq1 rfl
  have hF1' : ∀ j ∈ F1, h.length ≤ j := fun j hj => (hF1 j hj).elim (hF0 j) fun h' => by have := f0.len; have := fA.len; omega
  obtain ⟨v2, H2, d2, F2, rfl, m2, f2, hF2⟩ := IDo_ok h.length H1 h.length _ F1 kq1 false hF1' m1 o1 (by decide)
  have o2 := o1.idealDo kq1 rfl
  have hF2' : ∀ j ∈ F2, h.length ≤ j := fun j hj => (hF2 j hj).elim (hF1' j) fun h' => by have := f0.len; have := fA.len; have := f1.len; omega
  obtain ⟨v3, H3, d3, F3, rfl, m3, f3, hF3⟩ := IDo_ok h.length H2 h.length _ F2 kq2 false hF2' m2 o2 (by decide)
  have o3 := o2.idealDo kq2 rfl
  have hal := fun t => IAll_ok h.length (H3 ++ t) h.length _ F3 (m3.app t) o3
  have e1 : (idealDo kl0 kq1).1.enc = Reply.encF false (idealDo kl0 kq1).1 := rfl
  have a1 := k_1
  have a2 := k_2
  have a3 := k_3
  have a4 := k_4
  have hnd : Fw [] h H3 := by
    have g1 : Fw [] h HA := f0.trans fA
    have g2 : Fw [] h H1 := g1.new f1 (fun j hj => .inl (hF0 j hj))
    have g3 : Fw [] h H2 := g2.new f2 (fun j hj => .inl (hF1' j hj))
    exact g3.new f3 (fun j hj => .inl (hF2' j hj))
  have htk := fun t => (hnd.trans (Fw.app [] H3 t)).take
  generalize idealDo kl0 kq1 = r1 at *
  generalize idealDo r1.2 kq1 = r2 at *
  generalize idealDo r2.2 kq2 = r3 at *
  obtain ⟨⟨x1, x2, x3, x4, x5, x6, x7⟩, l1⟩ := r1
  obtain ⟨⟨y1, y2, y3, y4, y5, y6, y7⟩, l2⟩ := r2
  obtain ⟨⟨z1, z2, z3, z4, z5, z6, z7⟩, l3⟩ := r3
  simp only at a1 a2 a3 a4
  obtain ⟨rfl, rfl⟩ := a1
  subst a2 a3
  simp only [Reply.enc] at d1 d2 d3
  have a4' : (((allP l3 16).length : Nat) : Int) = 1 := by omega
  have gr3 : ∀ k, decide (h.length ≤ H3.length + k) = true := fun k => decide_eq_true (Nat.le_trans hnd.len (Nat.le_add_right _ _))
  have gr30 : decide (h.length ≤ H3.length) = true := gr3 0
  have hvb : (0 : Nat) = 0 := rfl
  try simp only [B18, d1, d2, d3, hq0, hq1, kid1, kid2, kq1_v, kq2_v, encF_tyQ, encF_soQ, gr3, gr30, hal, a4', htk, go_sem, V.s.injEq, Value.bool.injEq, ↓reduceIte, Nat.reduceEqDiff, Nat.reduceBEq, Nat.reduceAdd, Nat.reduceSub, Nat.reduceLT, Nat.reduceLeDiff, Int.reduceLT, Int.reduceLE, Int.reduceEq, Int.reduceToNat, List.append_assoc, List.length_append, Vm.get_app, Vm.set_app, Vm.get_appL, Vm.get_appL0, Vm.set_appL, Vm.set_appL0, Nat.le_refl, Nat.le_add_right, okAt]
  repeat' (
    first | refine wpC_cases ?_ ?_ | refine wpU_casesT ?_ ?_ | refine wpU_casesF ?_ ?_
    all_goals intro hvc
    all_goals first | replace hvc := not_of_true hvc | replace hvc := not_of_false hvc | skip
    all_goals first | subst hvc | replace hvb := And.intro hvc hvb
    all_goals try simp only [hvb, B18, d1, d2, d3, hq0, hq1, kid1, kid2, kq1_v, kq2_v, encF_tyQ, encF_soQ, gr3, gr30, hal, a4', htk, go_sem, V.s.injEq, Value.bool.injEq, ↓reduceIte, Nat.reduceEqDiff, Nat.reduceBEq, Nat.reduceAdd, Nat.reduceSub, Nat.reduceLT, Nat.reduceLeDiff, Int.reduceLT, Int.reduceLE, Int.reduceEq, Int.reduceToNat, List.append_assoc, List.length_append, Vm.get_app, Vm.set_app, Vm.get_appL, Vm.get_appL0, Vm.set_appL, Vm.set_appL0, Nat.le_refl, Nat.le_add_right, okAt])
end Go.Proofs.Ytfhmclgnfabdfaa
