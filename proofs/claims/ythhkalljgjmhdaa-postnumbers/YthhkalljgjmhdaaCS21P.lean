/- Post: the statements' own comparisons. Conditions: none. -/
import Derived.Test.YthhkalljgjmhdaaCS21L
namespace Go.Proofs.Ythhkalljgjmhdaa
open Go Go.Vm Go.Proofs Go.Cl
set_option linter.unusedSimpArgs false
set_option linter.unusedVariables false
set_option maxRecDepth 100000

theorem lett_ok (b : Nat) (h : Hp) (l m : Letter) : run fns pr b 11 [l.enc, m.enc] h = some (.s (.bool (decide (l = m))), h) := by
  refine Vm.runP (nt := 33) rfl fit11 (by simp) ?_
  obtain ⟨a1, a2, a3, a4⟩ := l
  obtain ⟨c1, c2, c3, c4⟩ := m
  have hs := fun cf base h0 l => o_b2s cf base h0 _ none l (elems_imm h0 false none _)
  have he : (decide ((⟨a4.toArray⟩ : ByteArray) = ⟨c4.toArray⟩)) = decide (a4 = c4) := by
    rw [decide_eq_decide]; simp
  simp only [Letter.mk.injEq]
  by_cases h1 : a1 = c1
  case neg => simp only [B11, go_sem, simprocAttr, List.append_assoc, List.length_append, Vm.get_app, Vm.set_app, Vm.get_appL, Vm.get_appL0, Vm.set_appL, Vm.set_appL0, Nat.le_refl, Nat.le_add_right, Letter.enc, hs, he, Bool.beq_eq_decide_eq, h1, false_and, and_false, true_and, decide_false, decide_true]
  by_cases h2 : a2 = c2
  case neg => simp only [B11, go_sem, simprocAttr, List.append_assoc, List.length_append, Vm.get_app, Vm.set_app, Vm.get_appL, Vm.get_appL0, Vm.set_appL, Vm.set_appL0, Nat.le_refl, Nat.le_add_right, Letter.enc, hs, he, Bool.beq_eq_decide_eq, h1, h2, false_and, and_false, true_and, decide_false, decide_true]
  by_cases h3 : a3 = c3
  case neg => simp only [B11, go_sem, simprocAttr, List.append_assoc, List.length_append, Vm.get_app, Vm.set_app, Vm.get_appL, Vm.get_appL0, Vm.set_appL, Vm.set_appL0, Nat.le_refl, Nat.le_add_right, Letter.enc, hs, he, Bool.beq_eq_decide_eq, h1, h2, h3, false_and, and_false, true_and, decide_false, decide_true]
  simp only [B11, Letter.enc, hs, he, Bool.beq_eq_decide_eq, h1, h2, h3, true_and, decide_true, go_sem, V.s.injEq, Value.bool.injEq, simprocAttr, List.append_assoc, List.length_append, Vm.get_app, Vm.set_app, Vm.get_appL, Vm.get_appL0, Vm.set_appL, Vm.set_appL0, Nat.le_refl, Nat.le_add_right, okAt]

theorem All_ok (b : Nat) (h : Hp) (id k : Nat) (O : List It) (ho : OR h id k O) (hmax : O.length ≤ 1000) : run fns pr b 25 [.ptr id [0] 1] h = some (.imm false (some 25) (O.map fun x => x.1.enc), h) := by
  refine Vm.runP (nt := 22) rfl fit25 (by simp) ?_
  obtain ⟨x, hg, hx, hl, hsr, hget⟩ := ho.sr
  have hok : ∀ y ∈ O, y.1.ok := by obtain ⟨_, _, q, _⟩ := ho; exact q
  have hlen := fun cf base h0 => o_len cf base h0 x _ hl
  simp only [B25, B25R0, B25L0, hg, hx, hlen, go_sem, V.s.injEq, Value.bool.injEq, simprocAttr, List.append_assoc, List.length_append, Vm.get_app, Vm.set_app, Vm.get_appL, Vm.get_appL0, Vm.set_appL, Vm.set_appL0, Nat.le_refl, Nat.le_add_right, okAt]
  refine wp_for (fun n e H => ∃ (i : Nat) (z : V) (q : Nat), n = O.length - i ∧ i ≤ O.length ∧ e 11 = .s (.int .i64 (i : Nat)) ∧ e 10 = .s (.int .i64 (O.length : Nat)) ∧ e 9 = x ∧ e 3 = z ∧ XR H (some 25) q z ((O.take i).map fun x => x.1.enc) ∧ h.length ≤ q ∧ Fw [] h H)
    (fun e H => ∃ (z : V) (q : Nat), e 3 = z ∧ XR H (some 25) q z (O.map fun x => x.1.enc) ∧ h.length ≤ q ∧ Fw [] h H) O.length _ _ ⟨0, _, h.length, by omega, by omega, rfl, rfl, rfl, rfl, by exact .inl ⟨rfl, rfl⟩, Nat.le_refl _, Fw.refl _ _⟩ ?_ ?_
  · rintro n e H ⟨i, z, q, rfl, hi, e11, e10, e9, e3, xr, hq, fw⟩
    by_cases c : i < O.length
    · have c' : (i : Int) < (O.length : Nat) := by omega
      have hw : IntKind.i64.wrap ((i : Int) + 1) = ((i + 1 : Nat) : Int) := wrap_small (by omega)
      have hm : O[i]? = some O[i] := List.getElem?_eq_getElem c
      have ht : O.take (i + 1) = O.take i ++ [O[i]] := by rw [List.take_succ_eq_append_getElem c]
      have hy := hok O[i] (List.getElem_mem c)
      generalize O[i] = y at hm ht hy
      obtain ⟨x2, g2, _, _, _, hget2⟩ := (ho.mono fw (by simp) (by simp)).sr
      have hxx : x2 = x := by
        rw [fw.old _ _ hg (by simp)] at g2; simpa using g2.symm
      subst hxx
      obtain ⟨p, hp1, hp2⟩ := hget2 i y hm (run fns pr h.length) h.length
      have hlt := letter_ok h.length H y hy
      have hz : V.ground y.1.enc = true := ground_plain _ (Letter.enc_plain _)
      obtain ⟨x', H', k', h1, h2, h3, h4, h5⟩ := xr.app1 (h := h) (T := [.cells (some 25) [y.1.enc]]) (idy := H.length) (z := y.1.enc) (bytes := 48) hq fw (by rw [get_app0]; rfl) hz (by simp; omega)
      have hlh := fw.len
      simp only [e11, e10, e9, e3, c', hp1, hp2, hlt, hw, h1, Letter.enc_ty, Letter.enc_solid, go_sem, V.s.injEq, Value.bool.injEq, simprocAttr, List.append_assoc, List.length_append, Vm.get_app, Vm.set_app, Vm.get_appL, Vm.get_appL0, Vm.set_appL, Vm.set_appL0, Nat.le_refl, Nat.le_add_right, okAt]
      refine ⟨O.length - (i + 1), by omega, i + 1, _, k', rfl, by omega, rfl, rfl, by rw [ht, List.map_append]; exact h2, by rcases h4 with rfl | h4 <;> omega, h3⟩
    · have c' : ¬ (i : Int) < (O.length : Nat) := by omega
      simp only [e11, e10, e9, e3, c', go_sem, V.s.injEq, Value.bool.injEq, simprocAttr, List.append_assoc, List.length_append, Vm.get_app, Vm.set_app, Vm.get_appL, Vm.get_appL0, Vm.set_appL, Vm.set_appL0, Nat.le_refl, Nat.le_add_right, okAt]
      rw [List.take_of_length_le (by omega)] at xr
      exact ⟨_, q, rfl, xr, hq, fw⟩
  · rintro e H ⟨z, q, e3, xr, hq, fw⟩
    have hp : V.plain.all (O.map fun x => x.1.enc) = true := plain_map _ (fun x => Letter.enc_plain _) O
    have hf := xr.frz (n := h.length) hq hp
    simp only [e3, hf, fw.take, go_sem, V.s.injEq, Value.bool.injEq, simprocAttr, List.append_assoc, List.length_append, Vm.get_app, Vm.set_app, Vm.get_appL, Vm.get_appL0, Vm.set_appL, Vm.set_appL0, Nat.le_refl, Nat.le_add_right, okAt]
end Go.Proofs.Ythhkalljgjmhdaa
