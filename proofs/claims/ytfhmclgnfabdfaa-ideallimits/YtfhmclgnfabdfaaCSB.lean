/- What is left of bytes: the parts of blend.Sum. Conditions: none. -/
import Derived.Test.YtfhmclgnfabdfaaCSC
import Derived.Test.YtfhmclgnfabdfaaCSBF
namespace Go.Proofs.Ytfhmclgnfabdfaa
open Go Go.Vm Go.Proofs Go.Cl
set_option linter.unusedSimpArgs false
set_option linter.unusedVariables false
set_option maxRecDepth 100000
/-- What is known otherwise, where a copy of bytes stays in the heap. -/
def pr2 : CF := fun f vs h => match f with
  | 40 => cloneV vs h
  | _ => none
theorem pr2_ok : CalleesOK Try.prog (layOf Try.prog) pr2 := by
  intro f vs h v h' hr
  unfold pr2 at hr
  split at hr
  · obtain ⟨x, rfl⟩ := cloneV_keeps hr
    refine ⟨⟨_, Try.func40, rfl, by kernel_rfl⟩, fun c w us hv hs => ?_⟩
    match us, hv with
    | [u], hv => exact clone_calls lay_ok hr hv.1 hs
  · cases hr
theorem pr2_kp : KpP pr2 := by
  intro f vs h v h' hr base
  unfold pr2 at hr
  split at hr
  · exact cloneV_kp hr base
  · cases hr
theorem rotl_ok (b : Nat) (h : Hp) (x k : Nat) (hx : x < 4294967296) (hk : k = 16 ∨ k = 12 ∨ k = 8 ∨ k = 7) : run fns2 pr2 b 53 [.s (.int .u32 x), .s (.int .i64 k)] h = some (.s (.int .u32 (rot k x : Nat)), h) := by
  refine Vm.runP (nt := 17) rfl fit53 (by simp) ?_
  have s1 : shlI .u32 (x : Int) (k : Int) = _ := shl_i (a := x) (k := k) (by omega)
  have s2 : shrI .u32 (x : Int) ((32 - k : Nat) : Int) = _ := shr_i (a := x) (k := 32 - k) (by omega)
  have s3 := or_i (a := x * 2 ^ k % 4294967296) (b := x / 2 ^ (32 - k)) (Nat.mod_lt _ (by decide)) (Nat.lt_of_le_of_lt (Nat.div_le_self _ _) hx)
  rw [rot_or hx (by omega)] at s3
  have w1 : IntKind.u64.wrap (k : Int) = (k : Int) := wrap_u64 (by omega) (by omega)
  have a1 : andI .u64 (k : Int) 31 = (k : Int) := by rcases hk with rfl | rfl | rfl | rfl <;> rfl
  have w2 : IntKind.u64.wrap (32 - (k : Int)) = ((32 - k : Nat) : Int) := by rw [wrap_u64 (by omega) (by omega)]; omega
  have h1 := fun cf base h => o_shl cf base h .u32 .u64 (x : Int) (k : Int) (by omega)
  have h2 := fun cf base h => o_shr cf base h .u32 .u64 (x : Int) ((32 - k : Nat) : Int) (by omega)
  have hvb : (0 : Nat) = 0 := rfl
  try simp only [B53, w1, a1, w2, h1, h2, s1, s2, s3, go_sem, V.s.injEq, Value.bool.injEq, ↓reduceIte, Nat.reduceEqDiff, Nat.reduceBEq, Nat.reduceAdd, Nat.reduceSub, Nat.reduceLT, Nat.reduceLeDiff, Int.reduceLT, Int.reduceLE, Int.reduceEq, Int.reduceToNat, List.append_assoc, List.length_append, Vm.get_app, Vm.set_app, Vm.get_appL, Vm.get_appL0, Vm.set_appL, Vm.set_appL0, Nat.le_refl, Nat.le_add_right, okAt]
  repeat' (
    first | refine wpC_cases ?_ ?_ | refine wpU_casesT ?_ ?_ | refine wpU_casesF ?_ ?_
    all_goals intro hvc
    all_goals first | replace hvc := not_of_true hvc | replace hvc := not_of_false hvc | skip
    all_goals first | subst hvc | replace hvb := And.intro hvc hvb
    all_goals try simp only [hvb, B53, w1, a1, w2, h1, h2, s1, s2, s3, go_sem, V.s.injEq, Value.bool.injEq, ↓reduceIte, Nat.reduceEqDiff, Nat.reduceBEq, Nat.reduceAdd, Nat.reduceSub, Nat.reduceLT, Nat.reduceLeDiff, Int.reduceLT, Int.reduceLE, Int.reduceEq, Int.reduceToNat, List.append_assoc, List.length_append, Vm.get_app, Vm.set_app, Vm.get_appL, Vm.get_appL0, Vm.set_appL, Vm.set_appL0, Nat.le_refl, Nat.le_add_right, okAt])
theorem ground_or (p : Bool) (n : Value) : (p || (V.s n).ground) = true := by cases p <;> rfl
theorem stir_ok (b : Nat) (h : Hp) (id : Nat) (x : W) (hg : h[id]? = some (.cells (some 96) [.arr 96 x.vs])) :
    run fns2 pr2 b 51 [.ptr id [0] 1] h = some (.tup [], h.set id (.cells (some 96) [.arr 96 (stirW x).vs])) := by
  refine Vm.runP (nt := 98) rfl fit51 (by simp) ?_
  have hss : ∀ c, (h.set id c)[id]? = some c := fun c => set_get hg
  have hs2 : ∀ c d, (h.set id c).set id d = h.set id d := fun c d => List.set_set ..
  have htk : ∀ c, (h.set id c).take h.length = h.set id c := fun c => List.take_of_length_le (by rw [List.length_set]; exact Nat.le_refl _)
  have r16 : ∀ b h y z, run fns2 pr2 b 53 [.s (.int .u32 ((xr y z : Nat) : Int)), .s (.int .i64 16)] h = some (.s (.int .u32 ((rot 16 (xr y z) : Nat) : Int)), h) := fun b h y z => rotl_ok b h _ 16 (xr_lt _ _) (by omega)
  have r12 : ∀ b h y z, run fns2 pr2 b 53 [.s (.int .u32 ((xr y z : Nat) : Int)), .s (.int .i64 12)] h = some (.s (.int .u32 ((rot 12 (xr y z) : Nat) : Int)), h) := fun b h y z => rotl_ok b h _ 12 (xr_lt _ _) (by omega)
  have r8 : ∀ b h y z, run fns2 pr2 b 53 [.s (.int .u32 ((xr y z : Nat) : Int)), .s (.int .i64 8)] h = some (.s (.int .u32 ((rot 8 (xr y z) : Nat) : Int)), h) := fun b h y z => rotl_ok b h _ 8 (xr_lt _ _) (by omega)
  have r7 : ∀ b h y z, run fns2 pr2 b 53 [.s (.int .u32 ((xr y z : Nat) : Int)), .s (.int .i64 7)] h = some (.s (.int .u32 ((rot 7 (xr y z) : Nat) : Int)), h) := fun b h y z => rotl_ok b h _ 7 (xr_lt _ _) (by omega)
  simp only [W.vs] at hg
  have l0 : (0 : Int) < ((4 : Nat) : Int) := by decide
  have l1 : (1 : Int) < ((4 : Nat) : Int) := by decide
  have l2 : (2 : Int) < ((4 : Nat) : Int) := by decide
  have l3 : (3 : Int) < ((4 : Nat) : Int) := by decide
  have hvb : (0 : Nat) = 0 := rfl
  try simp only [B51, l0, l1, l2, l3, hg, hss, hs2, htk, ad_i, xr_i, r16, r12, r8, r7, ground_or, go_sem, V.s.injEq, Value.bool.injEq, ↓reduceIte, Nat.reduceEqDiff, Nat.reduceBEq, Nat.reduceAdd, Nat.reduceSub, Nat.reduceLT, Nat.reduceLeDiff, Int.reduceLT, Int.reduceLE, Int.reduceEq, Int.reduceToNat, List.append_assoc, List.length_append, Vm.get_app, Vm.set_app, Vm.get_appL, Vm.get_appL0, Vm.set_appL, Vm.set_appL0, Nat.le_refl, Nat.le_add_right, okAt]
  repeat' (
    first | refine wpC_cases ?_ ?_ | refine wpU_casesT ?_ ?_ | refine wpU_casesF ?_ ?_
    all_goals intro hvc
    all_goals first | replace hvc := not_of_true hvc | replace hvc := not_of_false hvc | skip
    all_goals first | subst hvc | replace hvb := And.intro hvc hvb
    all_goals try simp only [hvb, B51, l0, l1, l2, l3, hg, hss, hs2, htk, ad_i, xr_i, r16, r12, r8, r7, ground_or, go_sem, V.s.injEq, Value.bool.injEq, ↓reduceIte, Nat.reduceEqDiff, Nat.reduceBEq, Nat.reduceAdd, Nat.reduceSub, Nat.reduceLT, Nat.reduceLeDiff, Int.reduceLT, Int.reduceLE, Int.reduceEq, Int.reduceToNat, List.append_assoc, List.length_append, Vm.get_app, Vm.set_app, Vm.get_appL, Vm.get_appL0, Vm.set_appL, Vm.set_appL0, Nat.le_refl, Nat.le_add_right, okAt])
  all_goals rfl
theorem low_ok (b : Nat) (h : Hp) (x : V) (l : Bs) (hb : BR h x l) (hl : 4 ≤ l.length) : run fns2 pr2 b 50 [x] h = some (.s (.int .u32 (le4 l : Nat)), h) := by
  refine Vm.runP (nt := 18) rfl fit50 (by simp) ?_
  have hvb : (0 : Nat) = 0 := rfl
  try simp only [B50, B50R0, B50L0, go_sem, V.s.injEq, Value.bool.injEq, ↓reduceIte, Nat.reduceEqDiff, Nat.reduceBEq, Nat.reduceAdd, Nat.reduceSub, Nat.reduceLT, Nat.reduceLeDiff, Int.reduceLT, Int.reduceLE, Int.reduceEq, Int.reduceToNat, List.append_assoc, List.length_append, Vm.get_app, Vm.set_app, Vm.get_appL, Vm.get_appL0, Vm.set_appL, Vm.set_appL0, Nat.le_refl, Nat.le_add_right, okAt]
  repeat' (
    first | refine wpC_cases ?_ ?_ | refine wpU_casesT ?_ ?_ | refine wpU_casesF ?_ ?_
    all_goals intro hvc
    all_goals first | replace hvc := not_of_true hvc | replace hvc := not_of_false hvc | skip
    all_goals first | subst hvc | replace hvb := And.intro hvc hvb
    all_goals try simp only [hvb, B50, B50R0, B50L0, go_sem, V.s.injEq, Value.bool.injEq, ↓reduceIte, Nat.reduceEqDiff, Nat.reduceBEq, Nat.reduceAdd, Nat.reduceSub, Nat.reduceLT, Nat.reduceLeDiff, Int.reduceLT, Int.reduceLE, Int.reduceEq, Int.reduceToNat, List.append_assoc, List.length_append, Vm.get_app, Vm.set_app, Vm.get_appL, Vm.get_appL0, Vm.set_appL, Vm.set_appL0, Nat.le_refl, Nat.le_add_right, okAt])
  have hsr : SR h x none (l.map byteV) := by
    rcases hb with ⟨f, rfl⟩ | ⟨id, off, bl, rfl, h1, h2, h3⟩
    · exact .inl ⟨f, rfl⟩
    · exact .inr ⟨id, off, bl.length, bl.map byteV, by simp, h1, by simp, by simpa using h2, by rw [List.length_map, ← List.map_drop, ← List.map_take, h3]⟩
  have hv : ∀ i, i < 4 → ∃ u : Nat, u < 256 ∧ (l.getD i 0).toNat = u ∧ (∀ cf base, opV cf base h (.ias none) [x, .s (.int .i64 (i : Nat))] = some (eltP x i, h)) ∧ (∀ cf base, opV cf base h (.ld none) [eltP x i] = some (.s (.int .u8 u), h)) := by
    intro i hi
    have h1 : l[i]? = some (l.getD i 0) := by rw [List.getD, List.getElem?_eq_getElem (by omega)]; rfl
    exact ⟨_, (l.getD i 0).toNat_lt, rfl, fun cf base => hsr.o_ias (by simp; omega), fun cf base => hsr.o_ld (v := byteV (l.getD i 0)) (by rw [List.getElem?_map, h1]; rfl) rfl⟩
  refine wp_for (fun m e H => ∃ j, m = j ∧ j ≤ 4 ∧ e 4 = .s (.int .i64 ((j : Nat) - 1)) ∧ e 3 = .s (.int .u32 (le4 l / 256 ^ j : Nat)) ∧ e 0 = x ∧ H = h)
    (fun e H => e 3 = .s (.int .u32 (le4 l : Nat)) ∧ H = h)
    4 _ _ ⟨4, rfl, by omega, rfl, by rw [le4_top]; rfl, rfl, rfl⟩ ?_ ?_
  · rintro m e H ⟨j, rfl, hj, e4, e3, e0, rfl⟩
    cases m with
    | zero =>
      have c' : ¬ (0 : Int) ≤ ((0 : Nat) : Int) - 1 := by omega
      rw [Nat.pow_zero, Nat.div_one] at e3
      have hvb : (0 : Nat) = 0 := rfl
      try simp only [e4, c', go_sem, V.s.injEq, Value.bool.injEq, ↓reduceIte, Nat.reduceEqDiff, Nat.reduceBEq, Nat.reduceAdd, Nat.reduceSub, Nat.reduceLT, Nat.reduceLeDiff, Int.reduceLT, Int.reduceLE, Int.reduceEq, Int.reduceToNat, List.append_assoc, List.length_append, Vm.get_app, Vm.set_app, Vm.get_appL, Vm.get_appL0, Vm.set_appL, Vm.set_appL0, Nat.le_refl, Nat.le_add_right, okAt]
      repeat' (
        first | refine wpC_cases ?_ ?_ | refine wpU_casesT ?_ ?_ | refine wpU_casesF ?_ ?_
        all_goals intro hvc
        all_goals first | replace hvc := not_of_true hvc | replace hvc := not_of_false hvc | skip
        all_goals first | subst hvc | replace hvb := And.intro hvc hvb
        all_goals try simp only [hvb, e4, c', go_sem, V.s.injEq, Value.bool.injEq, ↓reduceIte, Nat.reduceEqDiff, Nat.reduceBEq, Nat.reduceAdd, Nat.reduceSub, Nat.reduceLT, Nat.reduceLeDiff, Int.reduceLT, Int.reduceLE, Int.reduceEq, Int.reduceToNat, List.append_assoc, List.length_append, Vm.get_app, Vm.set_app, Vm.get_appL, Vm.get_appL0, Vm.set_appL, Vm.set_appL0, Nat.le_refl, Nat.le_add_right, okAt])
      all_goals exact e3
    | succ j =>
      have hj1 : (((j + 1 : Nat) : Int) - 1) = (j : Int) := by omega
      rw [hj1] at e4
      have c' : (0 : Int) ≤ (j : Int) := by omega
      obtain ⟨u, hu, hu2, hia, hld⟩ := hv j (by omega)
      have hst := le4_step l j (by omega)
      have hsm := le4_small l j
      rw [hu2] at hst
      generalize le4 l / 256 ^ (j + 1) = y at e3 hst hsm
      have hw : IntKind.i64.wrap ((j : Int) - 1) = (j : Int) - 1 := wrap_i64 (by omega) (by omega)
      have wu : IntKind.u32.wrap (u : Int) = (u : Int) := wrap_u32 (by omega) (by omega)
      have s1 : shlI .u32 (y : Int) 8 = _ := shl_i (a := y) (k := 8) (by omega)
      have e1 : y * 2 ^ 8 % 4294967296 = y * 2 ^ 8 := Nat.mod_eq_of_lt (by omega)
      rw [e1] at s1
      have h1 : ∀ cf base h, opV cf base h (.bin .num .shl) [.s (.int .u32 y), .s (.int .u64 8)] = some (.s (.int .u32 ((y * 2 ^ 8 : Nat) : Int)), h) := fun cf base h => by rw [← s1]; exact o_shl cf base h .u32 .u64 (y : Int) 8 (by omega)
      have s3 := or_i (a := y * 2 ^ 8) (b := u) (by omega) (by omega)
      rw [or_add (show u < 2 ^ 8 from hu)] at s3
      rw [show y * 2 ^ 8 + u = y * 256 + u from rfl, hst] at s3
      clear s1 e1
      generalize y * 2 ^ 8 = y1 at h1 s3
      have hvb : (0 : Nat) = 0 := rfl
      try simp only [e4, e3, e0, c', hia, hld, wu, h1, s3, hw, go_sem, V.s.injEq, Value.bool.injEq, ↓reduceIte, Nat.reduceEqDiff, Nat.reduceBEq, Nat.reduceAdd, Nat.reduceSub, Nat.reduceLT, Nat.reduceLeDiff, Int.reduceLT, Int.reduceLE, Int.reduceEq, Int.reduceToNat, List.append_assoc, List.length_append, Vm.get_app, Vm.set_app, Vm.get_appL, Vm.get_appL0, Vm.set_appL, Vm.set_appL0, Nat.le_refl, Nat.le_add_right, okAt]
      repeat' (
        first | refine wpC_cases ?_ ?_ | refine wpU_casesT ?_ ?_ | refine wpU_casesF ?_ ?_
        all_goals intro hvc
        all_goals first | replace hvc := not_of_true hvc | replace hvc := not_of_false hvc | skip
        all_goals first | subst hvc | replace hvb := And.intro hvc hvb
        all_goals try simp only [hvb, e4, e3, e0, c', hia, hld, wu, h1, s3, hw, go_sem, V.s.injEq, Value.bool.injEq, ↓reduceIte, Nat.reduceEqDiff, Nat.reduceBEq, Nat.reduceAdd, Nat.reduceSub, Nat.reduceLT, Nat.reduceLeDiff, Int.reduceLT, Int.reduceLE, Int.reduceEq, Int.reduceToNat, List.append_assoc, List.length_append, Vm.get_app, Vm.set_app, Vm.get_appL, Vm.get_appL0, Vm.set_appL, Vm.set_appL0, Nat.le_refl, Nat.le_add_right, okAt])
      all_goals exact ⟨j, by omega, j, rfl, by omega, rfl, rfl⟩
  · rintro e H ⟨e3, rfl⟩
    have hvb : (0 : Nat) = 0 := rfl
    try simp only [e3, go_sem, V.s.injEq, Value.bool.injEq, ↓reduceIte, Nat.reduceEqDiff, Nat.reduceBEq, Nat.reduceAdd, Nat.reduceSub, Nat.reduceLT, Nat.reduceLeDiff, Int.reduceLT, Int.reduceLE, Int.reduceEq, Int.reduceToNat, List.append_assoc, List.length_append, Vm.get_app, Vm.set_app, Vm.get_appL, Vm.get_appL0, Vm.set_appL, Vm.set_appL0, Nat.le_refl, Nat.le_add_right, okAt]
    repeat' (
      first | refine wpC_cases ?_ ?_ | refine wpU_casesT ?_ ?_ | refine wpU_casesF ?_ ?_
      all_goals intro hvc
      all_goals first | replace hvc := not_of_true hvc | replace hvc := not_of_false hvc | skip
      all_goals first | subst hvc | replace hvb := And.intro hvc hvb
      all_goals try simp only [hvb, e3, go_sem, V.s.injEq, Value.bool.injEq, ↓reduceIte, Nat.reduceEqDiff, Nat.reduceBEq, Nat.reduceAdd, Nat.reduceSub, Nat.reduceLT, Nat.reduceLeDiff, Int.reduceLT, Int.reduceLE, Int.reduceEq, Int.reduceToNat, List.append_assoc, List.length_append, Vm.get_app, Vm.set_app, Vm.get_appL, Vm.get_appL0, Vm.set_appL, Vm.set_appL0, Nat.le_refl, Nat.le_add_right, okAt])
end Go.Proofs.Ytfhmclgnfabdfaa
