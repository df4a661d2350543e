/- Go's own small functions and the statements' small functions: what they compute. Conditions: none. -/
import Derived.Test.YthhkalljgjmhdaaCT
import Derived.Test.YthhkalljgjmhdaaCMK0
namespace Go.Proofs.Ythhkalljgjmhdaa
open Go Go.Vm Go.Proofs Go.Cl
set_option linter.unusedSimpArgs false
set_option linter.unusedVariables false
/-- What is known otherwise. -/
noncomputable def pr : CF := fun f vs h => match f with
  | 26 => cloneF vs h
  | _ => none
noncomputable abbrev R (b : Nat) : CF := run fns pr b

theorem clone_ok (b : Nat) {h : Hp} {x : V} {l : Bs} (hb : BR h x l) (hl : l.length ≤ 140737488355328) : run fns pr b 26 [x] h = some (.imm false none (l.map byteV), h) := by
  rw [run_pr fns pr rfl]; exact cloneF_eq hb hl

theorem wrap_small {n : Nat} (h : n < 4611686018427387904) : IntKind.i64.wrap ((n : Int) + 1) = ((n + 1 : Nat) : Int) := by
  rw [wrap_i64 (by omega) (by omega)]; omega

theorem Within_ok (b : Nat) (h : Hp) (n lo hi : Int) (h1 : -1000000000 ≤ lo) (h2 : lo ≤ hi) (h3 : hi ≤ 1000000000) (hn0 : -9223372036854775808 ≤ n) (hn1 : n ≤ 9223372036854775807) :
    run fns pr b 9 [.s (.int .i64 n), .s (.int .i64 lo), .s (.int .i64 hi)] h = some (.s (.int .i64 (within n lo hi)), h) := by
  refine Vm.runP (nt := 33) rfl fit9 (by simp) ?_
  have w1 : IntKind.i64.wrap (hi - lo) = hi - lo := wrap_i64 (by omega) (by omega)
  have w2 : IntKind.i64.wrap (hi - lo + 1) = hi - lo + 1 := wrap_i64 (by omega) (by omega)
  have hm := tmod_pos (n := n) (m := hi - lo + 1) (by omega)
  have e0 := Int.emod_nonneg n (show hi - lo + 1 ≠ 0 by omega)
  have e1 := Int.emod_lt_of_pos n (show 0 < hi - lo + 1 by omega)
  have hq := fun cf base h => o_rem cf base h .i64 n (hi - lo + 1) (by omega)
  by_cases c1 : lo ≤ n
  · by_cases c2 : n ≤ hi
    · have : within n lo hi = n := by simp [within, c1, c2]
      rw [this]
      simp only [B9, go_sem, simprocAttr, c1, c2]
    · have hw : within n lo hi = lo + n % (hi - lo + 1) := by simp [within, c2]
      rw [hw, hm]
      by_cases c3 : n.tmod (hi - lo + 1) < 0
      · rw [if_pos c3] at hm ⊢
        have w3 : IntKind.i64.wrap (n.tmod (hi - lo + 1) + hi) = n.tmod (hi - lo + 1) + hi := wrap_i64 (by omega) (by omega)
        have w4 : IntKind.i64.wrap (n.tmod (hi - lo + 1) + hi - lo) = n.tmod (hi - lo + 1) + hi - lo := wrap_i64 (by omega) (by omega)
        have w5 : IntKind.i64.wrap (n.tmod (hi - lo + 1) + hi - lo + 1) = n.tmod (hi - lo + 1) + hi - lo + 1 := wrap_i64 (by omega) (by omega)
        have w6 : IntKind.i64.wrap (lo + (n.tmod (hi - lo + 1) + hi - lo + 1)) = lo + (n.tmod (hi - lo + 1) + hi - lo + 1) := wrap_i64 (by omega) (by omega)
        simp only [B9, go_sem, simprocAttr, c1, c2, w1, w2, hq, c3, w3, w4, w5, w6]
        congr 2; omega
      · rw [if_neg c3] at hm ⊢
        have w6 : IntKind.i64.wrap (lo + n.tmod (hi - lo + 1)) = lo + n.tmod (hi - lo + 1) := wrap_i64 (by omega) (by omega)
        simp only [B9, go_sem, simprocAttr, c1, c2, w1, w2, hq, c3, w6]
  · have hw : within n lo hi = lo + n % (hi - lo + 1) := by simp [within, c1]
    rw [hw, hm]
    by_cases c3 : n.tmod (hi - lo + 1) < 0
    · rw [if_pos c3] at hm ⊢
      have w3 : IntKind.i64.wrap (n.tmod (hi - lo + 1) + hi) = n.tmod (hi - lo + 1) + hi := wrap_i64 (by omega) (by omega)
      have w4 : IntKind.i64.wrap (n.tmod (hi - lo + 1) + hi - lo) = n.tmod (hi - lo + 1) + hi - lo := wrap_i64 (by omega) (by omega)
      have w5 : IntKind.i64.wrap (n.tmod (hi - lo + 1) + hi - lo + 1) = n.tmod (hi - lo + 1) + hi - lo + 1 := wrap_i64 (by omega) (by omega)
      have w6 : IntKind.i64.wrap (lo + (n.tmod (hi - lo + 1) + hi - lo + 1)) = lo + (n.tmod (hi - lo + 1) + hi - lo + 1) := wrap_i64 (by omega) (by omega)
      simp only [B9, go_sem, simprocAttr, c1, w1, w2, hq, c3, w3, w4, w5, w6]
      congr 2; omega
    · rw [if_neg c3] at hm ⊢
      have w6 : IntKind.i64.wrap (lo + n.tmod (hi - lo + 1)) = lo + n.tmod (hi - lo + 1) := wrap_i64 (by omega) (by omega)
      simp only [B9, go_sem, simprocAttr, c1, w1, w2, hq, c3, w6]

end Go.Proofs.Ythhkalljgjmhdaa
