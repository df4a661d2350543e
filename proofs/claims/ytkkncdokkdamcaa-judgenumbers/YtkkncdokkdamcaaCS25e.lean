/- The judge's known runs. Conditions: none. -/
import Derived.Test.YtkkncdokkdamcaaCS25d
import Derived.Test.YtkkncdokkdamcaaCS25a
namespace Go.Proofs.Ytkkncdokkdamcaa
open Go Go.Vm Go.Proofs Go.Cl
set_option linter.unusedSimpArgs false
set_option linter.unusedVariables false
set_option maxRecDepth 100000
def q25 : Request := ⟨2, [1, 0, 0, 0], zero16, [], 0, zero16, zero16, 0, 0⟩
def d25 : Deed := ⟨0, q25, zeroR⟩
def e25 : Deed := ⟨0, q25, { zeroR with why := 22, iD := [1, 0, 0, 0] }⟩
theorem first_d : firstI (repI [d25]) [d25] 1 = 0 := by decide +kernel
theorem first_e : firstI (repI [e25]) [e25] 1 = -1 := by decide +kernel
theorem known25_ok (b : Nat) (h : Hp) : run fns pr b 22 [] h = some (.s (.bool true), h) := by
  refine Vm.runP (nt := 31) rfl fit22 (by simp) ?_
  have hc0 := fun h0 f => Check_ok h.length h0 (.imm f (some 93) []) [] (.inl ⟨f, rfl⟩) (by simp) (by simp)
  have hW := fun h0 f id gen => Wrongs_ok h.length h0 (.imm f (some 39) []) [] id gen (.inl ⟨f, rfl⟩) (by simp)
  have hA := fun h0 f => After_ok h.length h0 (.imm f (some 39) []) [] (.inl ⟨f, rfl⟩) (by simp)
  have f0 : firstI (repI []) [] 0 = -1 := rfl
  simp only [List.map_nil, List.length_nil, f0] at hc0 hW hA
  have hq : V.st 32 [.s (.int .i64 2), .arr 26 [.s (.int .u8 1), .s (.int .u8 0), .s (.int .u8 0), .s (.int .u8 0)], z16 28, kx, ki, z16 28, z16 28, ki, ku] = q25.enc := by rfl
  have hd : V.st 93 [ki, q25.enc, .st 39 [ki, z4 26, ku, ki, kx, ki, ku]] = d25.enc := by rfl
  have he : V.st 93 [ki, q25.enc, .st 39 [.s (.int .i64 22), .arr 26 [.s (.int .u8 1), .s (.int .u8 0), .s (.int .u8 0), .s (.int .u8 0)], ku, ki, kx, ki, ku]] = e25.enc := by rfl
  have hc1 := Check_ok h.length (h ++ [Blk.cells (some 32) [q25.enc], Blk.cells (some 93) [d25.enc]]) (.ref (h.length + 1) [] (some 93) 0 1 1) [d25] (SR_ref (get_app _ _ 1) rfl) (by simp) (by simp [d25, q25])
  have hc2 := Check_ok h.length (h ++ [Blk.cells (some 32) [q25.enc], Blk.cells (some 93) [d25.enc], Blk.cells (some 93) [e25.enc]]) (.ref (h.length + 2) [] (some 93) 0 1 1) [e25] (SR_ref (get_app _ _ 2) rfl) (by simp) (by simp [e25, q25])
  have hq1 : q25.enc.ty = some 32 := by rfl
  have hq2 : q25.enc.solid = true := by rfl
  have hd1 : d25.enc.ty = some 93 := by rfl
  have hd2 : d25.enc.solid = true := by rfl
  have he1 : e25.enc.ty = some 93 := by rfl
  have he2 : e25.enc.solid = true := by rfl
  have w0 : ∀ id gen, wrongs id gen [] = 0 := fun _ _ => rfl
  have a0 : afterB [] = false := rfl
  rw [show [d25].length = 1 from rfl, first_d] at hc1
  rw [show [e25].length = 1 from rfl, first_e] at hc2
  simp only [w0, a0] at hW hA
  have hW : ∀ h0, run fns pr h.length 19 [.arr 26 [.s (.int .u8 0), .s (.int .u8 0), .s (.int .u8 0), .s (.int .u8 0)], ku, .imm true (some 39) []] h0 = some (.s (.int .i64 0), h0) := fun h0 => hW h0 true [0, 0, 0, 0] 0
  have hvb : (0 : Nat) = 0 := rfl
  try simp only [B22, hc0, hW, hA, hq, hd, he, hc1, hc2, hq1, hq2, hd1, hd2, he1, he2, go_sem, V.s.injEq, Value.bool.injEq, ↓reduceIte, Nat.reduceEqDiff, Nat.reduceBEq, Nat.reduceAdd, Nat.reduceSub, Nat.reduceLT, Nat.reduceLeDiff, Int.reduceLT, Int.reduceLE, Int.reduceEq, Int.reduceToNat, List.append_assoc, List.length_append, Vm.get_app, Vm.set_app, Vm.get_appL, Vm.get_appL0, Vm.set_appL, Vm.set_appL0, Nat.le_refl, Nat.le_add_right, okAt]
  repeat' (
    first | refine wpC_cases ?_ ?_ | refine wpU_casesT ?_ ?_ | refine wpU_casesF ?_ ?_
    all_goals intro hvc
    all_goals first | replace hvc := not_of_true hvc | replace hvc := not_of_false hvc | skip
    all_goals first | subst hvc | replace hvb := And.intro hvc hvb
    all_goals try simp only [hvb, B22, hc0, hW, hA, hq, hd, he, hc1, hc2, hq1, hq2, hd1, hd2, he1, he2, go_sem, V.s.injEq, Value.bool.injEq, ↓reduceIte, Nat.reduceEqDiff, Nat.reduceBEq, Nat.reduceAdd, Nat.reduceSub, Nat.reduceLT, Nat.reduceLeDiff, Int.reduceLT, Int.reduceLE, Int.reduceEq, Int.reduceToNat, List.append_assoc, List.length_append, Vm.get_app, Vm.set_app, Vm.get_appL, Vm.get_appL0, Vm.set_appL, Vm.set_appL0, Nat.le_refl, Nat.le_add_right, okAt])
end Go.Proofs.Ytkkncdokkdamcaa
