/- The document's own map: a plain list. Conditions: none. -/
import Derived.Test.YtkkncdokkdamcaaCM23c
import Derived.Test.YtkkncdokkdamcaaCS23b
import Derived.Test.YtkkncdokkdamcaaCVc
namespace Go.Proofs.Ytkkncdokkdamcaa
open Go Go.Vm Go.Proofs Go.Cl
set_option linter.unusedSimpArgs false
set_option linter.unusedVariables false
set_option maxRecDepth 100000
/-- A plain list in memory: the object p, its row k. -/
def PR (h : Hp) (p k : Nat) (pl : List Vault) : Prop :=
  ∃ x, h[p]? = some (.cells (some 85) [.st 85 [x]]) ∧ XR h (some 74) k x (pl.map Vault.enc) ∧ p ≠ k ∧ (pl = [] → x = .imm true (some 74) [])
theorem PR.mono {S : List Nat} {h h' : Hp} {p k : Nat} {pl : List Vault} (hp : PR h p k pl) (f : Fw S h h') (h1 : p ∉ S) (h2 : k ∉ S) : PR h' p k pl := by
  obtain ⟨x, a, b, c⟩ := hp
  exact ⟨x, f.old _ _ a h1, b.mono fun w hw => f.old _ _ hw h2, c⟩
theorem fld0 (v : Vault) : v.enc = .st 74 [.arr 26 (v.iD.map byteV), .s (.int .u64 v.gen), .arr 28 (v.pin.map byteV), .imm false none (v.secret.map byteV), .s (.int .i64 v.limit), .s (.int .i64 v.used), .arr 28 (v.owner.map byteV), .s (.bool v.gone), .s (.bool v.wiped)] := rfl
/-- The vault that was found. -/
def atK (pl : List Vault) (k : Int) : Vault := (((pl[k.toNat]?).filter fun _ => decide (0 ≤ k))).getD zeroV
theorem atK_neg (pl : List Vault) {k : Int} (h : k < 0) : atK pl k = zeroV := by
  have : decide (0 ≤ k) = false := by simp; omega
  unfold atK
  rw [this]
  cases pl[k.toNat]? <;> rfl
theorem atK_nat {pl : List Vault} {j : Nat} {v : Vault} (h : pl[j]? = some v) : atK pl j = v := by
  unfold atK
  simp [h, Option.filter]
theorem PGet_ok (b : Nat) (h : Hp) (p k : Nat) (pl : List Vault) (id : Bs) (hp : PR h p k pl) (hl : id.length ≤ 1000000) (hpl : pl.length ≤ 1000) (hid : ∀ v ∈ pl, v.iD.length ≤ 1000000) :
    run fns pr b 41 [.ptr p [0] 1, .arr 26 (id.map byteV)] h = some (.tup [(atK pl (lastI pl id pl.length)).enc, .s (.int .i64 (lastI pl id pl.length)), .s (.int .i64 (cntS pl (shardOf id) pl.length : Nat))], h) := by
  refine Vm.runP (nt := 57) rfl fit41 (by simp) ?_
  obtain ⟨x, h1, xr, hpk, _⟩ := hp
  have hty := xr.ty.1
  have hg1 := fun t => get_old h1 t
  have sx := fun t => xr.SR.app (h := h) t
  have hlx := fun cf base h0 => xr.SR.o_len (cf := cf) (base := base) (h := h0)
  simp only [List.length_map] at hlx
  have hsh := fun h0 => RShardOf_ok h.length h0 id hl
  have hvb : (0 : Nat) = 0 := rfl
  try simp only [B41, B41R0, B41L0, go_sem, V.s.injEq, Value.bool.injEq, ↓reduceIte, Nat.reduceEqDiff, Nat.reduceBEq, Nat.reduceAdd, Nat.reduceSub, Nat.reduceLT, Nat.reduceLeDiff, Int.reduceLT, Int.reduceLE, Int.reduceEq, Int.reduceToNat, List.append_assoc, List.length_append, Vm.get_app, Vm.set_app, Vm.get_appL, Vm.get_appL0, Vm.set_appL, Vm.set_appL0, Nat.le_refl, Nat.le_add_right, okAt]
  repeat' (
    first | refine wpC_cases ?_ ?_ | refine wpU_casesT ?_ ?_ | refine wpU_casesF ?_ ?_
    all_goals intro hvc
    all_goals first | replace hvc := not_of_true hvc | replace hvc := not_of_false hvc | skip
    all_goals first | subst hvc | replace hvb := And.intro hvc hvb
    all_goals try simp only [hvb, B41, B41R0, B41L0, go_sem, V.s.injEq, Value.bool.injEq, ↓reduceIte, Nat.reduceEqDiff, Nat.reduceBEq, Nat.reduceAdd, Nat.reduceSub, Nat.reduceLT, Nat.reduceLeDiff, Int.reduceLT, Int.reduceLE, Int.reduceEq, Int.reduceToNat, List.append_assoc, List.length_append, Vm.get_app, Vm.set_app, Vm.get_appL, Vm.get_appL0, Vm.set_appL, Vm.set_appL0, Nat.le_refl, Nat.le_add_right, okAt])
  obtain ⟨T, hT⟩ : ∃ T : Hp, [Blk.cells (some 26) [.arr 26 (id.map byteV)], Blk.cells (some 74) [.st 74 [.arr 26 (zero4.map byteV), .s (.int .u64 0), .arr 28 (zero16.map byteV), .imm false none [], .s (.int .i64 0), .s (.int .i64 0), .arr 28 (zero16.map byteV), .s (.bool false), .s (.bool false)]]] = T := ⟨_, rfl⟩
  rw [hT]
  have t0 : (h ++ T)[h.length]? = some (Blk.cells (some 26) [.arr 26 (id.map byteV)]) := by rw [← hT]; exact get_app0 _ _
  have t1 : (h ++ T)[h.length + 1]? = some (Blk.cells (some 74) [.st 74 [.arr 26 (zero4.map byteV), .s (.int .u64 0), .arr 28 (zero16.map byteV), .imm false none [], .s (.int .i64 0), .s (.int .i64 0), .arr 28 (zero16.map byteV), .s (.bool false), .s (.bool false)]]) := by rw [← hT]; exact get_app _ _ 1
  refine wp_for (fun n e H => ∃ i, n = pl.length - i ∧ i ≤ pl.length ∧ e 9 = .s (.int .i64 (i : Nat)) ∧ e 0 = .ptr p [0] 1 ∧ e 3 = .ptr h.length [0] 1 ∧ e 4 = .ptr (h.length + 1) [0] 1 ∧ e 7 = .s (.int .i64 (cntS pl (shardOf id) i : Nat)) ∧ e 8 = .s (.int .i64 (lastI pl id i)) ∧ H = h ++ T)
    (fun e H => e 0 = .ptr p [0] 1 ∧ e 4 = .ptr (h.length + 1) [0] 1 ∧ e 7 = .s (.int .i64 (cntS pl (shardOf id) pl.length : Nat)) ∧ e 8 = .s (.int .i64 (lastI pl id pl.length)) ∧ H = h ++ T)
    pl.length _ _ ⟨0, rfl, by omega, rfl, rfl, rfl, rfl, rfl, rfl, rfl⟩ ?_ ?_
  · rintro n e H ⟨i, rfl, hi, e9, e0, e3, e4, e7, e8, rfl⟩
    by_cases c : i < pl.length
    · have c' : (i : Int) < pl.length := by omega
      have hv : pl[i]? = some pl[i] := List.getElem?_eq_getElem c
      have hve : (pl.map Vault.enc)[i]? = some (pl[i]).enc := by rw [List.getElem?_map, hv]; rfl
      have hia := fun cf base => (sx T).o_ias (cf := cf) (base := base) (k := .i64) (i := i) (by simpa using c)
      rw [fld0] at hve
      have hfa := fun cf base => (sx T).o_fa (cf := cf) (base := base) (f := 0) hve (by simp)
      have hlf := fun cf base => (sx T).o_ldf (cf := cf) (base := base) (f := 0) (g' := some 26) hve rfl rfl
      have hsv := fun h0 => RShardOf_ok h.length h0 (pl[i]).iD (hid _ (List.getElem_mem c))
      have hcs := cntS_succ (s := shardOf id) hv
      have hls : lastI pl id (i + 1) = if (pl[i]).iD = id then (i : Int) else lastI pl id i := by
        rw [lastI, hv]; simp
      have hcl : cntS pl (shardOf id) i ≤ i := by unfold cntS; exact Nat.le_trans List.countP_le_length (by simp; omega)
      have hwr : IntKind.i64.wrap ((i : Int) + 1) = ((i + 1 : Nat) : Int) := wrap_small (by omega)
      have hwn : IntKind.i64.wrap ((cntS pl (shardOf id) i : Int) + 1) = ((cntS pl (shardOf id) i + 1 : Nat) : Int) := wrap_small (by omega)
      generalize pl[i] = v at *
      have hend : ∀ (k : Int) (m : Nat), k = lastI pl id (i + 1) → m = cntS pl (shardOf id) (i + 1) → ∃ n, n < pl.length - i ∧ ∃ i', n = pl.length - i' ∧ i' ≤ pl.length ∧ Value.int IntKind.i64 ((i + 1 : Nat) : Int) = Value.int IntKind.i64 (i' : Int) ∧ Value.int IntKind.i64 (m : Int) = Value.int IntKind.i64 (cntS pl (shardOf id) i' : Nat) ∧ Value.int IntKind.i64 k = Value.int IntKind.i64 (lastI pl id i') :=
        fun k m h1 h2 => ⟨pl.length - (i + 1), by omega, i + 1, rfl, by omega, rfl, by rw [h2], by rw [h1]⟩
      by_cases d1 : v.iD = id
      · have d2 : (shardOf v.iD : Int) = (shardOf id : Int) := by rw [d1]
        rw [if_pos d1] at hls
        rw [if_pos (by rw [d1])] at hcs
        subst d1
        have hvb : (0 : Nat) = 0 := rfl
        try simp only [e9, e0, e3, e4, e7, e8, c', hg1, hty, hlx, hia, hfa, hlf, t0, o_eqaB, hsv, hsh, hwr, hwn, go_sem, V.s.injEq, Value.bool.injEq, ↓reduceIte, Nat.reduceEqDiff, Nat.reduceBEq, Nat.reduceAdd, Nat.reduceSub, Nat.reduceLT, Nat.reduceLeDiff, Int.reduceLT, Int.reduceLE, Int.reduceEq, Int.reduceToNat, List.append_assoc, List.length_append, Vm.get_app, Vm.set_app, Vm.get_appL, Vm.get_appL0, Vm.set_appL, Vm.set_appL0, Nat.le_refl, Nat.le_add_right, okAt]
        repeat' (
          first | refine wpC_cases ?_ ?_ | refine wpU_casesT ?_ ?_ | refine wpU_casesF ?_ ?_
          all_goals intro hvc
          all_goals first | replace hvc := not_of_true hvc | replace hvc := not_of_false hvc | skip
          all_goals first | subst hvc | replace hvb := And.intro hvc hvb
          all_goals try simp only [hvb, e9, e0, e3, e4, e7, e8, c', hg1, hty, hlx, hia, hfa, hlf, t0, o_eqaB, hsv, hsh, hwr, hwn, go_sem, V.s.injEq, Value.bool.injEq, ↓reduceIte, Nat.reduceEqDiff, Nat.reduceBEq, Nat.reduceAdd, Nat.reduceSub, Nat.reduceLT, Nat.reduceLeDiff, Int.reduceLT, Int.reduceLE, Int.reduceEq, Int.reduceToNat, List.append_assoc, List.length_append, Vm.get_app, Vm.set_app, Vm.get_appL, Vm.get_appL0, Vm.set_appL, Vm.set_appL0, Nat.le_refl, Nat.le_add_right, okAt])
        all_goals exact hend _ _ hls.symm hcs.symm
      · rw [if_neg d1] at hls
        by_cases d2 : shardOf v.iD = shardOf id
        · have d2' : (shardOf v.iD : Int) = (shardOf id : Int) := by rw [d2]
          rw [if_pos d2] at hcs
          have hvb : (0 : Nat) = 0 := rfl
          try simp only [e9, e0, e3, e4, e7, e8, c', hg1, hty, hlx, hia, hfa, hlf, t0, o_eqaB, d1, hsv, hsh, d2', hwr, hwn, go_sem, V.s.injEq, Value.bool.injEq, ↓reduceIte, Nat.reduceEqDiff, Nat.reduceBEq, Nat.reduceAdd, Nat.reduceSub, Nat.reduceLT, Nat.reduceLeDiff, Int.reduceLT, Int.reduceLE, Int.reduceEq, Int.reduceToNat, List.append_assoc, List.length_append, Vm.get_app, Vm.set_app, Vm.get_appL, Vm.get_appL0, Vm.set_appL, Vm.set_appL0, Nat.le_refl, Nat.le_add_right, okAt]
          repeat' (
            first | refine wpC_cases ?_ ?_ | refine wpU_casesT ?_ ?_ | refine wpU_casesF ?_ ?_
            all_goals intro hvc
            all_goals first | replace hvc := not_of_true hvc | replace hvc := not_of_false hvc | skip
            all_goals first | subst hvc | replace hvb := And.intro hvc hvb
            all_goals try simp only [hvb, e9, e0, e3, e4, e7, e8, c', hg1, hty, hlx, hia, hfa, hlf, t0, o_eqaB, d1, hsv, hsh, d2', hwr, hwn, go_sem, V.s.injEq, Value.bool.injEq, ↓reduceIte, Nat.reduceEqDiff, Nat.reduceBEq, Nat.reduceAdd, Nat.reduceSub, Nat.reduceLT, Nat.reduceLeDiff, Int.reduceLT, Int.reduceLE, Int.reduceEq, Int.reduceToNat, List.append_assoc, List.length_append, Vm.get_app, Vm.set_app, Vm.get_appL, Vm.get_appL0, Vm.set_appL, Vm.set_appL0, Nat.le_refl, Nat.le_add_right, okAt])
          all_goals exact hend _ _ hls.symm hcs.symm
        · have d2' : ¬ (shardOf v.iD : Int) = (shardOf id : Int) := by omega
          rw [if_neg d2] at hcs
          have hvb : (0 : Nat) = 0 := rfl
          try simp only [e9, e0, e3, e4, e7, e8, c', hg1, hty, hlx, hia, hfa, hlf, t0, o_eqaB, d1, hsv, hsh, d2', hwr, hwn, go_sem, V.s.injEq, Value.bool.injEq, ↓reduceIte, Nat.reduceEqDiff, Nat.reduceBEq, Nat.reduceAdd, Nat.reduceSub, Nat.reduceLT, Nat.reduceLeDiff, Int.reduceLT, Int.reduceLE, Int.reduceEq, Int.reduceToNat, List.append_assoc, List.length_append, Vm.get_app, Vm.set_app, Vm.get_appL, Vm.get_appL0, Vm.set_appL, Vm.set_appL0, Nat.le_refl, Nat.le_add_right, okAt]
          repeat' (
            first | refine wpC_cases ?_ ?_ | refine wpU_casesT ?_ ?_ | refine wpU_casesF ?_ ?_
            all_goals intro hvc
            all_goals first | replace hvc := not_of_true hvc | replace hvc := not_of_false hvc | skip
            all_goals first | subst hvc | replace hvb := And.intro hvc hvb
            all_goals try simp only [hvb, e9, e0, e3, e4, e7, e8, c', hg1, hty, hlx, hia, hfa, hlf, t0, o_eqaB, d1, hsv, hsh, d2', hwr, hwn, go_sem, V.s.injEq, Value.bool.injEq, ↓reduceIte, Nat.reduceEqDiff, Nat.reduceBEq, Nat.reduceAdd, Nat.reduceSub, Nat.reduceLT, Nat.reduceLeDiff, Int.reduceLT, Int.reduceLE, Int.reduceEq, Int.reduceToNat, List.append_assoc, List.length_append, Vm.get_app, Vm.set_app, Vm.get_appL, Vm.get_appL0, Vm.set_appL, Vm.set_appL0, Nat.le_refl, Nat.le_add_right, okAt])
          all_goals exact hend _ _ hls.symm hcs.symm
    · have c' : ¬ (i : Int) < pl.length := by omega
      have : i = pl.length := by omega
      subst this
      have hvb : (0 : Nat) = 0 := rfl
      try simp only [e9, e0, e3, e4, e7, e8, hg1, hty, hlx, c', go_sem, V.s.injEq, Value.bool.injEq, ↓reduceIte, Nat.reduceEqDiff, Nat.reduceBEq, Nat.reduceAdd, Nat.reduceSub, Nat.reduceLT, Nat.reduceLeDiff, Int.reduceLT, Int.reduceLE, Int.reduceEq, Int.reduceToNat, List.append_assoc, List.length_append, Vm.get_app, Vm.set_app, Vm.get_appL, Vm.get_appL0, Vm.set_appL, Vm.set_appL0, Nat.le_refl, Nat.le_add_right, okAt]
      repeat' (
        first | refine wpC_cases ?_ ?_ | refine wpU_casesT ?_ ?_ | refine wpU_casesF ?_ ?_
        all_goals intro hvc
        all_goals first | replace hvc := not_of_true hvc | replace hvc := not_of_false hvc | skip
        all_goals first | subst hvc | replace hvb := And.intro hvc hvb
        all_goals try simp only [hvb, e9, e0, e3, e4, e7, e8, hg1, hty, hlx, c', go_sem, V.s.injEq, Value.bool.injEq, ↓reduceIte, Nat.reduceEqDiff, Nat.reduceBEq, Nat.reduceAdd, Nat.reduceSub, Nat.reduceLT, Nat.reduceLeDiff, Int.reduceLT, Int.reduceLE, Int.reduceEq, Int.reduceToNat, List.append_assoc, List.length_append, Vm.get_app, Vm.set_app, Vm.get_appL, Vm.get_appL0, Vm.set_appL, Vm.set_appL0, Nat.le_refl, Nat.le_add_right, okAt])
  · rintro e H ⟨e0, e4, e7, e8, rfl⟩
    subst hT
    rcases lastI_spec pl id pl.length (Nat.le_refl _) with ⟨k1, _⟩ | ⟨j, v, k0, k1, k2, k3⟩
    · rw [k1] at e8 ⊢
      rw [atK_neg _ (by omega)]
      have hvb : (0 : Nat) = 0 := rfl
      try simp only [e0, e4, e7, e8, zeroV_e, Vault.enc_F, go_sem, V.s.injEq, Value.bool.injEq, ↓reduceIte, Nat.reduceEqDiff, Nat.reduceBEq, Nat.reduceAdd, Nat.reduceSub, Nat.reduceLT, Nat.reduceLeDiff, Int.reduceLT, Int.reduceLE, Int.reduceEq, Int.reduceToNat, List.append_assoc, List.length_append, Vm.get_app, Vm.set_app, Vm.get_appL, Vm.get_appL0, Vm.set_appL, Vm.set_appL0, Nat.le_refl, Nat.le_add_right, okAt]
      repeat' (
        first | refine wpC_cases ?_ ?_ | refine wpU_casesT ?_ ?_ | refine wpU_casesF ?_ ?_
        all_goals intro hvc
        all_goals first | replace hvc := not_of_true hvc | replace hvc := not_of_false hvc | skip
        all_goals first | subst hvc | replace hvb := And.intro hvc hvb
        all_goals try simp only [hvb, e0, e4, e7, e8, zeroV_e, Vault.enc_F, go_sem, V.s.injEq, Value.bool.injEq, ↓reduceIte, Nat.reduceEqDiff, Nat.reduceBEq, Nat.reduceAdd, Nat.reduceSub, Nat.reduceLT, Nat.reduceLeDiff, Int.reduceLT, Int.reduceLE, Int.reduceEq, Int.reduceToNat, List.append_assoc, List.length_append, Vm.get_app, Vm.set_app, Vm.get_appL, Vm.get_appL0, Vm.set_appL, Vm.set_appL0, Nat.le_refl, Nat.le_add_right, okAt])
    · rw [k1] at e8 ⊢
      rw [atK_nat k2]
      have c' : ¬ (j : Int) < 0 := by omega
      have hve : (pl.map Vault.enc)[j]? = some v.enc := by rw [List.getElem?_map, k2]; rfl
      have hia := fun cf base t => (sx t).o_ias (cf := cf) (base := base) (k := .i64) (i := j) (by simpa using k0)
      have hlo := fun cf base t => (sx t).o_ld (cf := cf) (base := base) hve rfl
      have hvb : (0 : Nat) = 0 := rfl
      try simp only [e0, e4, e7, e8, hg1, hty, c', hia, hlo, enc_tyV, enc_soV, enc_frV, Nat.le_add_right, go_sem, V.s.injEq, Value.bool.injEq, ↓reduceIte, Nat.reduceEqDiff, Nat.reduceBEq, Nat.reduceAdd, Nat.reduceSub, Nat.reduceLT, Nat.reduceLeDiff, Int.reduceLT, Int.reduceLE, Int.reduceEq, Int.reduceToNat, List.append_assoc, List.length_append, Vm.get_app, Vm.set_app, Vm.get_appL, Vm.get_appL0, Vm.set_appL, Vm.set_appL0, Nat.le_refl, Nat.le_add_right, okAt]
      repeat' (
        first | refine wpC_cases ?_ ?_ | refine wpU_casesT ?_ ?_ | refine wpU_casesF ?_ ?_
        all_goals intro hvc
        all_goals first | replace hvc := not_of_true hvc | replace hvc := not_of_false hvc | skip
        all_goals first | subst hvc | replace hvb := And.intro hvc hvb
        all_goals try simp only [hvb, e0, e4, e7, e8, hg1, hty, c', hia, hlo, enc_tyV, enc_soV, enc_frV, Nat.le_add_right, go_sem, V.s.injEq, Value.bool.injEq, ↓reduceIte, Nat.reduceEqDiff, Nat.reduceBEq, Nat.reduceAdd, Nat.reduceSub, Nat.reduceLT, Nat.reduceLeDiff, Int.reduceLT, Int.reduceLE, Int.reduceEq, Int.reduceToNat, List.append_assoc, List.length_append, Vm.get_app, Vm.set_app, Vm.get_appL, Vm.get_appL0, Vm.set_appL, Vm.set_appL0, Nat.le_refl, Nat.le_add_right, okAt])
theorem later_ok (b : Nat) (h : Hp) (x y : Bs) (hx : x.length ≤ 1000000) (hy : y.length ≤ 1000000) : run fns pr b 65 [.arr 26 (x.map byteV), .arr 26 (y.map byteV)] h = some (.s (.bool (laterB x y)), h) := by
  refine Vm.runP (nt := 26) rfl fit65 (by simp) ?_
  have hsx := fun h0 => RShardOf_ok h.length h0 x hx
  have hsy := fun h0 => RShardOf_ok h.length h0 y hy
  have hgt := fun cf base h0 => o_sgtr_cmp x y cf base h0
  obtain ⟨T, hT⟩ : ∃ T : Hp, [Blk.cells (some 26) [.arr 26 (x.map byteV)], Blk.cells (some 26) [.arr 26 (y.map byteV)]] = T := ⟨_, rfl⟩
  have t0 : (h ++ T)[h.length]? = some (Blk.cells (some 26) [.arr 26 (x.map byteV)]) := by rw [← hT]; exact get_app0 _ _
  have t1 : (h ++ T)[h.length + 1]? = some (Blk.cells (some 26) [.arr 26 (y.map byteV)]) := by rw [← hT]; exact get_app _ _ 1
  have eb0 := fun cf base => Vm.o_b2s cf base (h ++ T) _ none x (Rd_arr t0)
  have eb1 := fun cf base => Vm.o_b2s cf base (h ++ T) _ none y (Rd_arr t1)
  unfold laterB
  generalize shardOf x = X at *
  generalize shardOf y = Y at *
  by_cases c1 : Y < X
  · have c1' : (Y : Int) < (X : Int) := by omega
    have hvb : (0 : Nat) = 0 := rfl
    try simp only [B65, hT, t0, t1, hsx, hsy, c1', c1, Bool.true_or, go_sem, V.s.injEq, Value.bool.injEq, ↓reduceIte, Nat.reduceEqDiff, Nat.reduceBEq, Nat.reduceAdd, Nat.reduceSub, Nat.reduceLT, Nat.reduceLeDiff, Int.reduceLT, Int.reduceLE, Int.reduceEq, Int.reduceToNat, List.append_assoc, List.length_append, Vm.get_app, Vm.set_app, Vm.get_appL, Vm.get_appL0, Vm.set_appL, Vm.set_appL0, Nat.le_refl, Nat.le_add_right, okAt]
    repeat' (
      first | refine wpC_cases ?_ ?_ | refine wpU_casesT ?_ ?_ | refine wpU_casesF ?_ ?_
      all_goals intro hvc
      all_goals first | replace hvc := not_of_true hvc | replace hvc := not_of_false hvc | skip
      all_goals first | subst hvc | replace hvb := And.intro hvc hvb
      all_goals try simp only [hvb, B65, hT, t0, t1, hsx, hsy, c1', c1, Bool.true_or, go_sem, V.s.injEq, Value.bool.injEq, ↓reduceIte, Nat.reduceEqDiff, Nat.reduceBEq, Nat.reduceAdd, Nat.reduceSub, Nat.reduceLT, Nat.reduceLeDiff, Int.reduceLT, Int.reduceLE, Int.reduceEq, Int.reduceToNat, List.append_assoc, List.length_append, Vm.get_app, Vm.set_app, Vm.get_appL, Vm.get_appL0, Vm.set_appL, Vm.set_appL0, Nat.le_refl, Nat.le_add_right, okAt])
  · have c1' : ¬ (Y : Int) < (X : Int) := by omega
    by_cases c2 : X = Y
    · subst c2
      have hvb : (0 : Nat) = 0 := rfl
      try simp only [B65, hT, t0, t1, hsx, hsy, c1', c1, o_sla0, slaR_some, eb0, eb1, hgt, Bool.false_or, Bool.true_and, go_sem, V.s.injEq, Value.bool.injEq, ↓reduceIte, Nat.reduceEqDiff, Nat.reduceBEq, Nat.reduceAdd, Nat.reduceSub, Nat.reduceLT, Nat.reduceLeDiff, Int.reduceLT, Int.reduceLE, Int.reduceEq, Int.reduceToNat, List.append_assoc, List.length_append, Vm.get_app, Vm.set_app, Vm.get_appL, Vm.get_appL0, Vm.set_appL, Vm.set_appL0, Nat.le_refl, Nat.le_add_right, okAt]
      repeat' (
        first | refine wpC_cases ?_ ?_ | refine wpU_casesT ?_ ?_ | refine wpU_casesF ?_ ?_
        all_goals intro hvc
        all_goals first | replace hvc := not_of_true hvc | replace hvc := not_of_false hvc | skip
        all_goals first | subst hvc | replace hvb := And.intro hvc hvb
        all_goals try simp only [hvb, B65, hT, t0, t1, hsx, hsy, c1', c1, o_sla0, slaR_some, eb0, eb1, hgt, Bool.false_or, Bool.true_and, go_sem, V.s.injEq, Value.bool.injEq, ↓reduceIte, Nat.reduceEqDiff, Nat.reduceBEq, Nat.reduceAdd, Nat.reduceSub, Nat.reduceLT, Nat.reduceLeDiff, Int.reduceLT, Int.reduceLE, Int.reduceEq, Int.reduceToNat, List.append_assoc, List.length_append, Vm.get_app, Vm.set_app, Vm.get_appL, Vm.get_appL0, Vm.set_appL, Vm.set_appL0, Nat.le_refl, Nat.le_add_right, okAt])
    · have c2' : ¬ (X : Int) = (Y : Int) := by omega
      have hvb : (0 : Nat) = 0 := rfl
      try simp only [B65, hT, t0, t1, hsx, hsy, c1', c1, c2', c2, Bool.false_or, Bool.false_and, go_sem, V.s.injEq, Value.bool.injEq, ↓reduceIte, Nat.reduceEqDiff, Nat.reduceBEq, Nat.reduceAdd, Nat.reduceSub, Nat.reduceLT, Nat.reduceLeDiff, Int.reduceLT, Int.reduceLE, Int.reduceEq, Int.reduceToNat, List.append_assoc, List.length_append, Vm.get_app, Vm.set_app, Vm.get_appL, Vm.get_appL0, Vm.set_appL, Vm.set_appL0, Nat.le_refl, Nat.le_add_right, okAt]
      repeat' (
        first | refine wpC_cases ?_ ?_ | refine wpU_casesT ?_ ?_ | refine wpU_casesF ?_ ?_
        all_goals intro hvc
        all_goals first | replace hvc := not_of_true hvc | replace hvc := not_of_false hvc | skip
        all_goals first | subst hvc | replace hvb := And.intro hvc hvb
        all_goals try simp only [hvb, B65, hT, t0, t1, hsx, hsy, c1', c1, c2', c2, Bool.false_or, Bool.false_and, go_sem, V.s.injEq, Value.bool.injEq, ↓reduceIte, Nat.reduceEqDiff, Nat.reduceBEq, Nat.reduceAdd, Nat.reduceSub, Nat.reduceLT, Nat.reduceLeDiff, Int.reduceLT, Int.reduceLE, Int.reduceEq, Int.reduceToNat, List.append_assoc, List.length_append, Vm.get_app, Vm.set_app, Vm.get_appL, Vm.get_appL0, Vm.set_appL, Vm.set_appL0, Nat.le_refl, Nat.le_add_right, okAt])
theorem PAll_ok (b : Nat) (h : Hp) (p k : Nat) (pl : List Vault) (hp : PR h p k pl) (hpl : pl.length ≤ 1000) (hid : ∀ v ∈ pl, v.iD.length ≤ 1000000) :
    run fns pr b 43 [.ptr p [0] 1] h = some (.imm false (some 74) ((allA pl pl.length).map Vault.enc), h) := by
  refine Vm.runP (nt := 57) rfl fit43 (by simp) ?_
  obtain ⟨x, h1, xr, hpk, _⟩ := hp
  have hty := xr.ty.1
  have hlx := fun cf base h0 => xr.SR.o_len (cf := cf) (base := base) (h := h0)
  simp only [List.length_map] at hlx
  have hal : ∀ i, i ≤ pl.length → (allA pl i).length = i := by
    intro i
    induction i with
    | zero => intro _; rfl
    | succ i ih =>
      intro hi
      have hv : pl[i]? = some pl[i] := List.getElem?_eq_getElem (by omega)
      have := (insK_spec (allA pl i) pl[i] (allA pl i).length (Nat.le_refl _)).1
      have := ih (by omega)
      simp only [allA, hv, insA, List.length_append, List.length_take, List.length_drop, List.length_cons, List.length_nil]; omega
  have hvb : (0 : Nat) = 0 := rfl
  try simp only [B43, B43R0, B43L0, B43R2, B43L2, go_sem, V.s.injEq, Value.bool.injEq, ↓reduceIte, Nat.reduceEqDiff, Nat.reduceBEq, Nat.reduceAdd, Nat.reduceSub, Nat.reduceLT, Nat.reduceLeDiff, Int.reduceLT, Int.reduceLE, Int.reduceEq, Int.reduceToNat, List.append_assoc, List.length_append, Vm.get_app, Vm.set_app, Vm.get_appL, Vm.get_appL0, Vm.set_appL, Vm.set_appL0, Nat.le_refl, Nat.le_add_right, okAt]
  repeat' (
    first | refine wpC_cases ?_ ?_ | refine wpU_casesT ?_ ?_ | refine wpU_casesF ?_ ?_
    all_goals intro hvc
    all_goals first | replace hvc := not_of_true hvc | replace hvc := not_of_false hvc | skip
    all_goals first | subst hvc | replace hvb := And.intro hvc hvb
    all_goals try simp only [hvb, B43, B43R0, B43L0, B43R2, B43L2, go_sem, V.s.injEq, Value.bool.injEq, ↓reduceIte, Nat.reduceEqDiff, Nat.reduceBEq, Nat.reduceAdd, Nat.reduceSub, Nat.reduceLT, Nat.reduceLeDiff, Int.reduceLT, Int.reduceLE, Int.reduceEq, Int.reduceToNat, List.append_assoc, List.length_append, Vm.get_app, Vm.set_app, Vm.get_appL, Vm.get_appL0, Vm.set_appL, Vm.set_appL0, Nat.le_refl, Nat.le_add_right, okAt])
  refine wp_for (fun n e H => ∃ i y ky, n = pl.length - i ∧ i ≤ pl.length ∧ e 4 = .s (.int .i64 (i : Nat)) ∧ e 0 = .ptr p [0] 1 ∧ e 3 = y ∧ XR H (some 74) ky y ((allA pl i).map Vault.enc) ∧ h.length ≤ ky ∧ Fw [] h H)
    (fun e H => ∃ y ky, e 3 = y ∧ XR H (some 74) ky y ((allA pl pl.length).map Vault.enc) ∧ h.length ≤ ky ∧ Fw [] h H)
    pl.length _ _ ⟨0, _, h.length, rfl, by omega, rfl, rfl, rfl, XR.nil _ _ _, Nat.le_refl _, Fw.refl _ _⟩ ?_ ?_
  · rintro n e H ⟨i, y, ky, rfl, hi, e4, e0, e3, yr, hky, fw⟩
    have g1 := fw.old _ _ h1 (by simp)
    have hyl := fun cf base h0 => yr.SR.o_len (cf := cf) (base := base) (h := h0)
    simp only [List.length_map, hal i hi] at hyl
    by_cases c : i < pl.length
    · have c' : (i : Int) < pl.length := by omega
      have hvb : (0 : Nat) = 0 := rfl
      try simp only [e4, e0, e3, g1, hty, hlx, c', hyl, go_sem, V.s.injEq, Value.bool.injEq, ↓reduceIte, Nat.reduceEqDiff, Nat.reduceBEq, Nat.reduceAdd, Nat.reduceSub, Nat.reduceLT, Nat.reduceLeDiff, Int.reduceLT, Int.reduceLE, Int.reduceEq, Int.reduceToNat, List.append_assoc, List.length_append, Vm.get_app, Vm.set_app, Vm.get_appL, Vm.get_appL0, Vm.set_appL, Vm.set_appL0, Nat.le_refl, Nat.le_add_right, okAt]
      repeat' (
        first | refine wpC_cases ?_ ?_ | refine wpU_casesT ?_ ?_ | refine wpU_casesF ?_ ?_
        all_goals intro hvc
        all_goals first | replace hvc := not_of_true hvc | replace hvc := not_of_false hvc | skip
        all_goals first | subst hvc | replace hvb := And.intro hvc hvb
        all_goals try simp only [hvb, e4, e0, e3, g1, hty, hlx, c', hyl, go_sem, V.s.injEq, Value.bool.injEq, ↓reduceIte, Nat.reduceEqDiff, Nat.reduceBEq, Nat.reduceAdd, Nat.reduceSub, Nat.reduceLT, Nat.reduceLeDiff, Int.reduceLT, Int.reduceLE, Int.reduceEq, Int.reduceToNat, List.append_assoc, List.length_append, Vm.get_app, Vm.set_app, Vm.get_appL, Vm.get_appL0, Vm.set_appL, Vm.set_appL0, Nat.le_refl, Nat.le_add_right, okAt])
      have hv : pl[i]? = some pl[i] := List.getElem?_eq_getElem c
      have hvi := hid _ (List.getElem_mem c)
      have hsx := xr.SR.fw fw
      have hve : (pl.map Vault.enc)[i]? = some (pl[i]).enc := by rw [List.getElem?_map, hv]; rfl
      have hve0 := hve
      rw [fld0] at hve0
      have hia := fun cf base => hsx.o_ias (cf := cf) (base := base) (k := .i64) (i := i) (by simpa using c)
      have hfa := fun cf base => hsx.o_fa (cf := cf) (base := base) (f := 0) hve0 (by simp)
      have hlf := fun cf base => hsx.o_ldf (cf := cf) (base := base) (f := 0) (g' := some 26) hve0 rfl rfl
      have hA1 : allA pl (i + 1) = insA (allA pl i) pl[i] := by rw [allA, hv]
      have hin := insK_spec (allA pl i) pl[i]
      have hin0 : insA (allA pl i) pl[i] = (allA pl i).take (insK (allA pl i) pl[i] i) ++ [pl[i]] ++ (allA pl i).drop (insK (allA pl i) pl[i] i) := by rw [insA, hal i hi]
      have hAl := hal i hi
      have hAid : ∀ w ∈ allA pl i, w.iD.length ≤ 1000000 := by
        have key : ∀ i, i ≤ pl.length → ∀ w ∈ allA pl i, w ∈ pl := by
          intro i
          induction i with
          | zero => intro _ w hw; simp [allA] at hw
          | succ i ih =>
            intro hi w hw
            have hv : pl[i]? = some pl[i] := List.getElem?_eq_getElem (by omega)
            rw [allA, hv] at hw
            rcases (insA_mem _ _ _).1 hw with rfl | hw
            · exact List.getElem_mem _
            · exact ih (by omega) w hw
        exact fun w hw => hid w (key i hi w hw)
      generalize pl[i] = v at *
      generalize allA pl i = A at *
      refine wp_for (fun n e H' => ∃ j, n = j ∧ j ≤ i ∧ insK A v i = insK A v j ∧ e 5 = .s (.int .i64 (j : Nat)) ∧ e 4 = .s (.int .i64 (i : Nat)) ∧ e 0 = .ptr p [0] 1 ∧ e 3 = y ∧ H' = H)
        (fun e H' => e 5 = .s (.int .i64 (insK A v i : Nat)) ∧ e 4 = .s (.int .i64 (i : Nat)) ∧ e 0 = .ptr p [0] 1 ∧ e 3 = y ∧ H' = H)
        i _ _ ⟨i, rfl, Nat.le_refl _, rfl, rfl, e4, e0, e3, rfl⟩ ?_ ?_
      · rintro n e H' ⟨j, rfl, hj, hins, e5, e4, e0, e3, rfl⟩
        cases n with
        | zero =>
          have c0 : ¬ (0 : Int) < ((0 : Nat) : Int) := by omega
          have hz : insK A v i = 0 := by rw [hins]; rfl
          have hvb : (0 : Nat) = 0 := rfl
          try simp only [e5, e4, e0, e3, c0, go_sem, V.s.injEq, Value.bool.injEq, ↓reduceIte, Nat.reduceEqDiff, Nat.reduceBEq, Nat.reduceAdd, Nat.reduceSub, Nat.reduceLT, Nat.reduceLeDiff, Int.reduceLT, Int.reduceLE, Int.reduceEq, Int.reduceToNat, List.append_assoc, List.length_append, Vm.get_app, Vm.set_app, Vm.get_appL, Vm.get_appL0, Vm.set_appL, Vm.set_appL0, Nat.le_refl, Nat.le_add_right, okAt]
          repeat' (
            first | refine wpC_cases ?_ ?_ | refine wpU_casesT ?_ ?_ | refine wpU_casesF ?_ ?_
            all_goals intro hvc
            all_goals first | replace hvc := not_of_true hvc | replace hvc := not_of_false hvc | skip
            all_goals first | subst hvc | replace hvb := And.intro hvc hvb
            all_goals try simp only [hvb, e5, e4, e0, e3, c0, go_sem, V.s.injEq, Value.bool.injEq, ↓reduceIte, Nat.reduceEqDiff, Nat.reduceBEq, Nat.reduceAdd, Nat.reduceSub, Nat.reduceLT, Nat.reduceLeDiff, Int.reduceLT, Int.reduceLE, Int.reduceEq, Int.reduceToNat, List.append_assoc, List.length_append, Vm.get_app, Vm.set_app, Vm.get_appL, Vm.get_appL0, Vm.set_appL, Vm.set_appL0, Nat.le_refl, Nat.le_add_right, okAt])
          all_goals simp [hz]
        | succ j =>
          have c0 : (0 : Int) < ((j + 1 : Nat) : Int) := by omega
          have hw1 : IntKind.i64.wrap (((j + 1 : Nat) : Int) - 1) = (j : Int) := by rw [wrap_i64 (by omega) (by omega)]; omega
          have hjA : A[j]? = some A[j] := List.getElem?_eq_getElem (by omega)
          have hjid := hAid _ (List.getElem_mem (show j < A.length by omega))
          generalize A[j]'(by omega) = w at hjA hjid
          have hwe : (A.map Vault.enc)[j]? = some w.enc := by rw [List.getElem?_map, hjA]; rfl
          rw [fld0] at hwe
          have hib := fun cf base => yr.SR.o_ias (cf := cf) (base := base) (k := .i64) (i := j) (by simp; omega)
          have hfb := fun cf base => yr.SR.o_fa (cf := cf) (base := base) (f := 0) hwe (by simp)
          have hlb := fun cf base => yr.SR.o_ldf (cf := cf) (base := base) (f := 0) (g' := some 26) hwe rfl rfl
          have hla := fun h0 => later_ok h.length h0 w.iD v.iD hjid hvi
          have hst : insK A v (j + 1) = if laterB w.iD v.iD = true then insK A v j else j + 1 := by
            rw [insK, hjA]; simp
          cases hlt : laterB w.iD v.iD with
          | true =>
            rw [hlt, if_pos rfl] at hst
            rw [hst] at hins
            have hvb : (0 : Nat) = 0 := rfl
            try simp only [e5, e4, e0, e3, c0, hw1, hib, hfb, hlb, g1, hty, hia, hfa, hlf, hla, hlt, go_sem, V.s.injEq, Value.bool.injEq, ↓reduceIte, Nat.reduceEqDiff, Nat.reduceBEq, Nat.reduceAdd, Nat.reduceSub, Nat.reduceLT, Nat.reduceLeDiff, Int.reduceLT, Int.reduceLE, Int.reduceEq, Int.reduceToNat, List.append_assoc, List.length_append, Vm.get_app, Vm.set_app, Vm.get_appL, Vm.get_appL0, Vm.set_appL, Vm.set_appL0, Nat.le_refl, Nat.le_add_right, okAt]
            repeat' (
              first | refine wpC_cases ?_ ?_ | refine wpU_casesT ?_ ?_ | refine wpU_casesF ?_ ?_
              all_goals intro hvc
              all_goals first | replace hvc := not_of_true hvc | replace hvc := not_of_false hvc | skip
              all_goals first | subst hvc | replace hvb := And.intro hvc hvb
              all_goals try simp only [hvb, e5, e4, e0, e3, c0, hw1, hib, hfb, hlb, g1, hty, hia, hfa, hlf, hla, hlt, go_sem, V.s.injEq, Value.bool.injEq, ↓reduceIte, Nat.reduceEqDiff, Nat.reduceBEq, Nat.reduceAdd, Nat.reduceSub, Nat.reduceLT, Nat.reduceLeDiff, Int.reduceLT, Int.reduceLE, Int.reduceEq, Int.reduceToNat, List.append_assoc, List.length_append, Vm.get_app, Vm.set_app, Vm.get_appL, Vm.get_appL0, Vm.set_appL, Vm.set_appL0, Nat.le_refl, Nat.le_add_right, okAt])
            all_goals exact ⟨j, by omega, j, rfl, by omega, hins, rfl⟩
          | false =>
            rw [hlt, if_neg (by simp)] at hst
            have hz : insK A v i = j + 1 := by rw [hins, hst]
            have hvb : (0 : Nat) = 0 := rfl
            try simp only [e5, e4, e0, e3, c0, hw1, hib, hfb, hlb, g1, hty, hia, hfa, hlf, hla, hlt, go_sem, V.s.injEq, Value.bool.injEq, ↓reduceIte, Nat.reduceEqDiff, Nat.reduceBEq, Nat.reduceAdd, Nat.reduceSub, Nat.reduceLT, Nat.reduceLeDiff, Int.reduceLT, Int.reduceLE, Int.reduceEq, Int.reduceToNat, List.append_assoc, List.length_append, Vm.get_app, Vm.set_app, Vm.get_appL, Vm.get_appL0, Vm.set_appL, Vm.set_appL0, Nat.le_refl, Nat.le_add_right, okAt]
            repeat' (
              first | refine wpC_cases ?_ ?_ | refine wpU_casesT ?_ ?_ | refine wpU_casesF ?_ ?_
              all_goals intro hvc
              all_goals first | replace hvc := not_of_true hvc | replace hvc := not_of_false hvc | skip
              all_goals first | subst hvc | replace hvb := And.intro hvc hvb
              all_goals try simp only [hvb, e5, e4, e0, e3, c0, hw1, hib, hfb, hlb, g1, hty, hia, hfa, hlf, hla, hlt, go_sem, V.s.injEq, Value.bool.injEq, ↓reduceIte, Nat.reduceEqDiff, Nat.reduceBEq, Nat.reduceAdd, Nat.reduceSub, Nat.reduceLT, Nat.reduceLeDiff, Int.reduceLT, Int.reduceLE, Int.reduceEq, Int.reduceToNat, List.append_assoc, List.length_append, Vm.get_app, Vm.set_app, Vm.get_appL, Vm.get_appL0, Vm.set_appL, Vm.set_appL0, Nat.le_refl, Nat.le_add_right, okAt])
            all_goals simp [hz]
      · rintro e H' ⟨e5, e4, e0, e3, rfl⟩
        obtain ⟨hKi, _, _⟩ := hin i (by omega)
        generalize insK A v i = K at *
        have sy := yr.SR
        have hKl : K ≤ (A.map Vault.enc).length := by simp; omega
        have hil : (A.map Vault.enc).length = i := by simp [hAl]
        have hlt : ∀ w, H'[ky]? = some w → ky < H'.length := fun w hw => lt_of_get hw
        have sh : source H' (cutP y (some 74) 0 K) = some (some 74, (A.take K).map Vault.enc) := by rw [(sy.hiR hKl).src, List.map_take]
        obtain ⟨y1, H1, k1, ap1, xr1, hk1, hl1, _, hg1, hold1⟩ := (XR.nil H' (some 74) H'.length).appL (n := H'.length) (bytes := 96) (Nat.le_refl _) (Nat.le_refl _) sh (encs_ground _) (by simp; omega)
        have o1 : ∀ (j : Nat) (w : Blk), H'[j]? = some w → H1[j]? = some w := fun j w hw => hold1 j w (by have := lt_of_get hw; omega) hw
        have sy1 : SR H1 y _ _ := (yr.mono fun w hw => o1 _ _ hw).SR
        obtain ⟨y2, H2, k2, ap2, xr2, hk2, hl2, _, hg2, hold2⟩ := xr1.appL (n := H'.length) (bytes := 96) (y := .imm true (some 74) [v.enc]) (ys := [v.enc]) hk1 hl1 rfl (fun z hz => by simp at hz; subst hz; exact enc_ground v) (by simp; omega)
        have o2 : ∀ (j : Nat) (w : Blk), H'[j]? = some w → H2[j]? = some w := fun j w hw => hold2 j w (by have := lt_of_get hw; omega) (o1 j w hw)
        have sy2 : SR H2 y _ _ := (yr.mono fun w hw => o2 _ _ hw).SR
        have sl : source H2 (cutP y (some 74) K i) = some (some 74, (A.drop K).map Vault.enc) := by
          have := (sy2.loR hKl).src
          rw [hil] at this
          rw [this, List.map_drop]
        obtain ⟨y3, H3, k3, ap3, xr3, hk3, hl3, _, hg3, hold3⟩ := xr2.appL (n := H'.length) (bytes := 96) hk2 hl2 sl (encs_ground _) (by simp; omega)
        have o3 : ∀ (j : Nat) (w : Blk), H'[j]? = some w → H3[j]? = some w := fun j w hw => hold3 j w (by have := lt_of_get hw; omega) (o2 j w hw)
        have xr3 : XR H3 (some 74) k3 y3 ((allA pl (i + 1)).map Vault.enc) := by
          rw [hA1, hin0]
          simpa using xr3
        have f1 : Fw [] H' H1 := Fw.of_old (by simpa using hg1) o1
        have f2 : Fw [] H' H2 := Fw.of_old (by omega) o2
        have f3 : Fw [] H' H3 := Fw.of_old (by omega) o3
        have hsh := fun cf base => sy.o_hi (cf := cf) (base := base) (k := .i64) hKl
        have sl0 := fun cf base => sy.o_lo (cf := cf) (base := base) (k := .i64) hKl
        have sl1 := fun cf base => sy1.o_lo (cf := cf) (base := base) (k := .i64) hKl
        have sl2 := fun cf base => sy2.o_lo (cf := cf) (base := base) (k := .i64) hKl
        rw [hil] at sl0 sl1 sl2
        have s1 := hsx.fw f1
        have hia1 := fun cf base => s1.o_ias (cf := cf) (base := base) (k := .i64) (i := i) (by simpa using c)
        have hlo0 := fun cf base => hsx.o_ld (cf := cf) (base := base) hve rfl
        have hlo1 := fun cf base => s1.o_ld (cf := cf) (base := base) hve rfl
        have g11 := f1.old _ _ g1 (by simp)
        have hwr : IntKind.i64.wrap ((i : Int) + 1) = ((i + 1 : Nat) : Int) := wrap_small (by omega)
        have hvb : (0 : Nat) = 0 := rfl
        try simp only [e5, e4, e0, e3, hsh, ap1, g11, g1, hty, hia, hia1, hlo0, hlo1, enc_tyV, enc_soV, ap2, sl0, sl1, sl2, ap3, hwr, go_sem, V.s.injEq, Value.bool.injEq, ↓reduceIte, Nat.reduceEqDiff, Nat.reduceBEq, Nat.reduceAdd, Nat.reduceSub, Nat.reduceLT, Nat.reduceLeDiff, Int.reduceLT, Int.reduceLE, Int.reduceEq, Int.reduceToNat, List.append_assoc, List.length_append, Vm.get_app, Vm.set_app, Vm.get_appL, Vm.get_appL0, Vm.set_appL, Vm.set_appL0, Nat.le_refl, Nat.le_add_right, okAt]
        repeat' (
          first | refine wpC_cases ?_ ?_ | refine wpU_casesT ?_ ?_ | refine wpU_casesF ?_ ?_
          all_goals intro hvc
          all_goals first | replace hvc := not_of_true hvc | replace hvc := not_of_false hvc | skip
          all_goals first | subst hvc | replace hvb := And.intro hvc hvb
          all_goals try simp only [hvb, e5, e4, e0, e3, hsh, ap1, g11, g1, hty, hia, hia1, hlo0, hlo1, enc_tyV, enc_soV, ap2, sl0, sl1, sl2, ap3, hwr, go_sem, V.s.injEq, Value.bool.injEq, ↓reduceIte, Nat.reduceEqDiff, Nat.reduceBEq, Nat.reduceAdd, Nat.reduceSub, Nat.reduceLT, Nat.reduceLeDiff, Int.reduceLT, Int.reduceLE, Int.reduceEq, Int.reduceToNat, List.append_assoc, List.length_append, Vm.get_app, Vm.set_app, Vm.get_appL, Vm.get_appL0, Vm.set_appL, Vm.set_appL0, Nat.le_refl, Nat.le_add_right, okAt])
        all_goals exact ⟨pl.length - (i + 1), by omega, i + 1, y3, k3, rfl, by omega, rfl, rfl, xr3, by have := fw.len; omega, fw.trans f3⟩
    · have c' : ¬ (i : Int) < pl.length := by omega
      have : i = pl.length := by omega
      subst this
      have hvb : (0 : Nat) = 0 := rfl
      try simp only [e4, e0, e3, g1, hty, hlx, c', go_sem, V.s.injEq, Value.bool.injEq, ↓reduceIte, Nat.reduceEqDiff, Nat.reduceBEq, Nat.reduceAdd, Nat.reduceSub, Nat.reduceLT, Nat.reduceLeDiff, Int.reduceLT, Int.reduceLE, Int.reduceEq, Int.reduceToNat, List.append_assoc, List.length_append, Vm.get_app, Vm.set_app, Vm.get_appL, Vm.get_appL0, Vm.set_appL, Vm.set_appL0, Nat.le_refl, Nat.le_add_right, okAt]
      repeat' (
        first | refine wpC_cases ?_ ?_ | refine wpU_casesT ?_ ?_ | refine wpU_casesF ?_ ?_
        all_goals intro hvc
        all_goals first | replace hvc := not_of_true hvc | replace hvc := not_of_false hvc | skip
        all_goals first | subst hvc | replace hvb := And.intro hvc hvb
        all_goals try simp only [hvb, e4, e0, e3, g1, hty, hlx, c', go_sem, V.s.injEq, Value.bool.injEq, ↓reduceIte, Nat.reduceEqDiff, Nat.reduceBEq, Nat.reduceAdd, Nat.reduceSub, Nat.reduceLT, Nat.reduceLeDiff, Int.reduceLT, Int.reduceLE, Int.reduceEq, Int.reduceToNat, List.append_assoc, List.length_append, Vm.get_app, Vm.set_app, Vm.get_appL, Vm.get_appL0, Vm.set_appL, Vm.set_appL0, Nat.le_refl, Nat.le_add_right, okAt])
      all_goals exact ⟨y, ky, rfl, yr, hky, fw⟩
  · rintro e H ⟨y, ky, e3, yr, hky, fw⟩
    have hf := yr.frz (n := h.length) hky (encs_plain _)
    have ht := fw.take
    have hvb : (0 : Nat) = 0 := rfl
    try simp only [e3, hf, ht, go_sem, V.s.injEq, Value.bool.injEq, ↓reduceIte, Nat.reduceEqDiff, Nat.reduceBEq, Nat.reduceAdd, Nat.reduceSub, Nat.reduceLT, Nat.reduceLeDiff, Int.reduceLT, Int.reduceLE, Int.reduceEq, Int.reduceToNat, List.append_assoc, List.length_append, Vm.get_app, Vm.set_app, Vm.get_appL, Vm.get_appL0, Vm.set_appL, Vm.set_appL0, Nat.le_refl, Nat.le_add_right, okAt]
    repeat' (
      first | refine wpC_cases ?_ ?_ | refine wpU_casesT ?_ ?_ | refine wpU_casesF ?_ ?_
      all_goals intro hvc
      all_goals first | replace hvc := not_of_true hvc | replace hvc := not_of_false hvc | skip
      all_goals first | subst hvc | replace hvb := And.intro hvc hvb
      all_goals try simp only [hvb, e3, hf, ht, go_sem, V.s.injEq, Value.bool.injEq, ↓reduceIte, Nat.reduceEqDiff, Nat.reduceBEq, Nat.reduceAdd, Nat.reduceSub, Nat.reduceLT, Nat.reduceLeDiff, Int.reduceLT, Int.reduceLE, Int.reduceEq, Int.reduceToNat, List.append_assoc, List.length_append, Vm.get_app, Vm.set_app, Vm.get_appL, Vm.get_appL0, Vm.set_appL, Vm.set_appL0, Nat.le_refl, Nat.le_add_right, okAt])
theorem PDo_ok (b : Nat) (h : Hp) (p k : Nat) (pl : List Vault) (q : Request) (f : Bool) (hb : b ≤ p) (hp : PR h p k pl) (hl : q.iD.length ≤ 1000000) (hpl : pl.length ≤ 1000) (hid : ∀ v ∈ pl, v.iD.length ≤ 1000000) (hr : ∀ v ∈ pl, rightV v = true) :
    ∃ v h', run fns pr b 39 [.ptr p [0] 1, q.encF f] h = some (v, h') ∧ ∃ k', v = (plainDo pl q).1.enc ∧ PR h' p k' (plainDo pl q).2 ∧ Fw [p] h h' ∧ (k' = k ∧ (plainDo pl q).2 = pl ∨ h.length ≤ k') := by
  have hrq := fun h0 f => RRightRequest_ok b h0 f q
  have hp' := hp
  obtain ⟨x, h1, xr, hpk, _⟩ := hp'
  have hlp := lt_of_get h1
  have hbl : b ≤ h.length := by omega
  have gr : ∀ k, decide (b ≤ h.length + k) = true := fun k => decide_eq_true (Nat.le_trans hbl (Nat.le_add_right _ _))
  have hgt := fun t => PGet_ok b (h ++ t) p k pl q.iD (hp.mono (Fw.app [] h t) (by simp) (by simp)) hl hpl hid
  have hat : ∀ k, atK pl k = (((pl[k.toNat]?).filter fun _ => decide (0 ≤ k))).getD zeroV := fun _ => rfl
  have hzd : atK pl (lastI pl q.iD pl.length) = zeroV ∨ rightV (atK pl (lastI pl q.iD pl.length)) = true ∧ (atK pl (lastI pl q.iD pl.length)).iD = q.iD := by
    rcases lastI_spec pl q.iD pl.length (Nat.le_refl _) with ⟨k1, _⟩ | ⟨j, v, k0, k1, k2, k3⟩
    · rw [k1]; exact .inl (atK_neg _ (by omega))
    · rw [k1, atK_nat k2]; exact .inr ⟨hr _ (List.mem_of_getElem? k2), k3⟩
  unfold plainDo
  simp only [← hat]
  cases hq : rightQ q with
  | false =>
    suffices hh : ∃ w h', run fns pr b 39 [.ptr p [0] 1, q.encF f] h = some (w, h') ∧ w = ({ zeroR with why := 12 } : Reply).enc ∧ ∃ t, h' = h ++ t by
      obtain ⟨w, h', e, rfl, t, rfl⟩ := hh
      exact ⟨_, _, e, k, rfl, hp.mono (Fw.app [] h t) (by simp) (by simp), Fw.app _ _ _, .inl ⟨rfl, by first | rfl | trivial⟩⟩
    refine Vm.runQ (nt := 75) rfl fit39 (by simp) ?_
    simp only [Request.encF] at hrq ⊢
    have hvb : (0 : Nat) = 0 := rfl
    try simp only [B39, B39J0, hrq, hq, gr, go_sem, V.s.injEq, Value.bool.injEq, ↓reduceIte, Nat.reduceEqDiff, Nat.reduceBEq, Nat.reduceAdd, Nat.reduceSub, Nat.reduceLT, Nat.reduceLeDiff, Int.reduceLT, Int.reduceLE, Int.reduceEq, Int.reduceToNat, List.append_assoc, List.length_append, Vm.get_app, Vm.set_app, Vm.get_appL, Vm.get_appL0, Vm.set_appL, Vm.set_appL0, Nat.le_refl, Nat.le_add_right, okAt]
    repeat' (
      first | refine wpC_cases ?_ ?_ | refine wpU_casesT ?_ ?_ | refine wpU_casesF ?_ ?_
      all_goals intro hvc
      all_goals first | replace hvc := not_of_true hvc | replace hvc := not_of_false hvc | skip
      all_goals first | subst hvc | replace hvb := And.intro hvc hvb
      all_goals try simp only [hvb, B39, B39J0, hrq, hq, gr, go_sem, V.s.injEq, Value.bool.injEq, ↓reduceIte, Nat.reduceEqDiff, Nat.reduceBEq, Nat.reduceAdd, Nat.reduceSub, Nat.reduceLT, Nat.reduceLeDiff, Int.reduceLT, Int.reduceLE, Int.reduceEq, Int.reduceToNat, List.append_assoc, List.length_append, Vm.get_app, Vm.set_app, Vm.get_appL, Vm.get_appL0, Vm.set_appL, Vm.set_appL0, Nat.le_refl, Nat.le_add_right, okAt])
    exact ⟨rfl, _, rfl⟩
  | true =>
    simp only [Bool.true_eq_false, if_false]
    have hgen := right_gen (hzd.imp id And.left)
    have hdo := fun b h0 f g => RDo_good b h0 f g (atK pl (lastI pl q.iD pl.length)) q hgen hq hzd
    have hdr := doG_right hq hzd
    simp only [Vault.enc_F, outV] at hgt hdo
    have hspec := lastI_spec pl q.iD pl.length (Nat.le_refl _)
    generalize lastI pl q.iD pl.length = K at *
    generalize atK pl K = v0 at *
    generalize doG v0 q = d at *
    generalize cntS pl (shardOf q.iD) pl.length = N at *
    obtain ⟨d1, d2, d3⟩ := d
    simp only at hdr ⊢
    cases d3 with
    | false =>
      simp only [if_true]
      suffices hh : ∃ w h', run fns pr b 39 [.ptr p [0] 1, q.encF f] h = some (w, h') ∧ w = d2.enc ∧ ∃ t, h' = h ++ t by
        obtain ⟨w, h', e, rfl, t, rfl⟩ := hh
        exact ⟨_, _, e, k, rfl, hp.mono (Fw.app [] h t) (by simp) (by simp), Fw.app _ _ _, .inl ⟨rfl, by first | rfl | trivial⟩⟩
      refine Vm.runQ (nt := 75) rfl fit39 (by simp) ?_
      simp only [Request.encF] at hrq hdo ⊢
      have hvb : (0 : Nat) = 0 := rfl
      try simp only [B39, B39J0, hrq, hq, gr, hgt, hdo, encF_tyV, encF_soV, enc_tyR, enc_soR, go_sem, V.s.injEq, Value.bool.injEq, ↓reduceIte, Nat.reduceEqDiff, Nat.reduceBEq, Nat.reduceAdd, Nat.reduceSub, Nat.reduceLT, Nat.reduceLeDiff, Int.reduceLT, Int.reduceLE, Int.reduceEq, Int.reduceToNat, List.append_assoc, List.length_append, Vm.get_app, Vm.set_app, Vm.get_appL, Vm.get_appL0, Vm.set_appL, Vm.set_appL0, Nat.le_refl, Nat.le_add_right, okAt]
      repeat' (
        first | refine wpC_cases ?_ ?_ | refine wpU_casesT ?_ ?_ | refine wpU_casesF ?_ ?_
        all_goals intro hvc
        all_goals first | replace hvc := not_of_true hvc | replace hvc := not_of_false hvc | skip
        all_goals first | subst hvc | replace hvb := And.intro hvc hvb
        all_goals try simp only [hvb, B39, B39J0, hrq, hq, gr, hgt, hdo, encF_tyV, encF_soV, enc_tyR, enc_soR, go_sem, V.s.injEq, Value.bool.injEq, ↓reduceIte, Nat.reduceEqDiff, Nat.reduceBEq, Nat.reduceAdd, Nat.reduceSub, Nat.reduceLT, Nat.reduceLeDiff, Int.reduceLT, Int.reduceLE, Int.reduceEq, Int.reduceToNat, List.append_assoc, List.length_append, Vm.get_app, Vm.set_app, Vm.get_appL, Vm.get_appL0, Vm.set_appL, Vm.set_appL0, Nat.le_refl, Nat.le_add_right, okAt])
      exact ⟨_, rfl⟩
    | true =>
      simp only [Bool.true_eq_false, if_false]
      have hdr := hdr rfl
      by_cases cf : K < 0 ∧ 4 ≤ N
      · rw [if_pos cf]
        obtain ⟨c0, c4⟩ := cf
        have c4' : (4 : Int) ≤ (N : Int) := by omega
        suffices hh : ∃ w h', run fns pr b 39 [.ptr p [0] 1, q.encF f] h = some (w, h') ∧ w = (⟨13, q.iD, 0, 0, [], q.client, q.num⟩ : Reply).enc ∧ ∃ t, h' = h ++ t by
          obtain ⟨w, h', e, rfl, t, rfl⟩ := hh
          exact ⟨_, _, e, k, rfl, hp.mono (Fw.app [] h t) (by simp) (by simp), Fw.app _ _ _, .inl ⟨rfl, by first | rfl | trivial⟩⟩
        refine Vm.runQ (nt := 75) rfl fit39 (by simp) ?_
        simp only [Request.encF] at hrq hdo ⊢
        have hvb : (0 : Nat) = 0 := rfl
        try simp only [B39, B39J0, hrq, hq, gr, hgt, hdo, c0, c4', encF_tyV, encF_soV, enc_tyR, enc_soR, go_sem, V.s.injEq, Value.bool.injEq, ↓reduceIte, Nat.reduceEqDiff, Nat.reduceBEq, Nat.reduceAdd, Nat.reduceSub, Nat.reduceLT, Nat.reduceLeDiff, Int.reduceLT, Int.reduceLE, Int.reduceEq, Int.reduceToNat, List.append_assoc, List.length_append, Vm.get_app, Vm.set_app, Vm.get_appL, Vm.get_appL0, Vm.set_appL, Vm.set_appL0, Nat.le_refl, Nat.le_add_right, okAt]
        repeat' (
          first | refine wpC_cases ?_ ?_ | refine wpU_casesT ?_ ?_ | refine wpU_casesF ?_ ?_
          all_goals intro hvc
          all_goals first | replace hvc := not_of_true hvc | replace hvc := not_of_false hvc | skip
          all_goals first | subst hvc | replace hvb := And.intro hvc hvb
          all_goals try simp only [hvb, B39, B39J0, hrq, hq, gr, hgt, hdo, c0, c4', encF_tyV, encF_soV, enc_tyR, enc_soR, go_sem, V.s.injEq, Value.bool.injEq, ↓reduceIte, Nat.reduceEqDiff, Nat.reduceBEq, Nat.reduceAdd, Nat.reduceSub, Nat.reduceLT, Nat.reduceLeDiff, Int.reduceLT, Int.reduceLE, Int.reduceEq, Int.reduceToNat, List.append_assoc, List.length_append, Vm.get_app, Vm.set_app, Vm.get_appL, Vm.get_appL0, Vm.set_appL, Vm.set_appL0, Nat.le_refl, Nat.le_add_right, okAt])
        exact ⟨rfl, _, rfl⟩
      · rw [if_neg cf]
        have c4' : K < 0 → ¬ (4 : Int) ≤ (N : Int) := fun h h' => cf ⟨h, by omega⟩
        obtain ⟨T, hT⟩ : ∃ T : Hp, [Blk.cells (some 32) [q.encF f], .cells (some 39) [.st 39 [.s (.int .i64 0), .arr 26 (zero4.map byteV), .s (.int .u64 0), .s (.int .i64 0), .imm false none [], .s (.int .i64 0), .s (.int .u64 0)]], .cells (some 74) [v0.encF false], .cells (some 74) [d1.encF false], .cells (some 39) [d2.enc]] = T := ⟨_, rfl⟩
        have hTl : T.length = 5 := by rw [← hT]; rfl
        have hsx : source (h ++ T) x = some (some 74, pl.map Vault.enc) := (xr.SR.app T).src
        obtain ⟨y1, H1, k1, ap1, xr1, hk1, hl1, _, hg1, hold1⟩ := (XR.nil (h ++ T) (some 74) (h ++ T).length).appL (n := (h ++ T).length) (bytes := 96) (Nat.le_refl _) (Nat.le_refl _) hsx (encs_ground _) (by simp; omega)
        have o1 : ∀ (j : Nat) (w : Blk), (h ++ T)[j]? = some w → H1[j]? = some w := fun j w hw => hold1 j w (by have := lt_of_get hw; omega) hw
        have f1 : Fw [] h H1 := (Fw.app [] h T).trans (Fw.of_old (by simpa using hg1) o1)
        have hlT : (h ++ T).length = h.length + 5 := by simp [hTl]
        have hy1 := xr1.ty
        have hloc : ∀ i, i < 5 → H1[h.length + i]? = T[i]? := fun i hi => by
          have : (h ++ T)[h.length + i]? = some (T[i]'(by omega)) := by rw [get_app]; exact List.getElem?_eq_getElem (by omega)
          rw [o1 _ _ this]; exact (List.getElem?_eq_getElem (by omega)).symm
        have g1 : H1[p]? = _ := o1 _ _ (get_old h1 T)
        have hTp : ∀ c : Blk, ∀ i, i < 5 → (H1.set p c)[h.length + i]? = T[i]? := fun c i hi => by rw [List.getElem?_set_ne (by omega)]; exact hloc i hi
        have hpp : ∀ c : Blk, (H1.set p c)[p]? = some c := fun c => set_get g1
        have hl0 : ∀ c : Blk, (H1.set p c)[h.length]? = some (Blk.cells (some 32) [q.encF f]) := fun c => by
          have := hTp c 0 (by omega)
          rw [Nat.add_zero, ← hT] at this; exact this
        have hl1 : ∀ c : Blk, (H1.set p c)[h.length + 1]? = some (Blk.cells (some 39) [zeroR.enc]) := fun c => by
          have := hTp c 1 (by omega)
          rw [← hT] at this; exact this
        have hl3 : ∀ c : Blk, (H1.set p c)[h.length + 3]? = some (Blk.cells (some 74) [d1.encF false]) := fun c => by
          have := hTp c 3 (by omega)
          rw [← hT] at this; exact this
        have hl4 : ∀ c : Blk, (H1.set p c)[h.length + 4]? = some (Blk.cells (some 39) [d2.enc]) := fun c => by
          have := hTp c 4 (by omega)
          rw [← hT] at this; exact this
        have hgrp : ∀ z : V, ∀ c : Bool, (decide (b ≤ p) || c) = true := fun z c => by simp [hb]
        have hpT := get_old h1 T
        have hxty := xr.ty.1
        by_cases cn : K < 0
        · have c4' := c4' cn
          rw [if_pos cn]
          obtain ⟨G, hG⟩ : ∃ G : Hp, H1.set p (.cells (some 85) [.st 85 [y1]]) = G := ⟨_, rfl⟩
          have hGl : G.length = H1.length := by rw [← hG]; simp
          have xrG : XR G (some 74) k1 y1 (pl.map Vault.enc) := by
            rw [← hG]; exact xr1.set (by omega) _
          obtain ⟨y2, H2, k2, ap2, xr2, hk2, hl2, _, hg2, hold2⟩ := xrG.pushL (n := (h ++ T).length) (m := 1) (ys := [d1.encF false]) (bytes := 96) hk1 (by omega) rfl (fun z hz => by simp at hz; subst hz; exact enc_ground d1) (by simp; omega)
          have hG1 : ∀ j w, j < (h ++ T).length → G[j]? = some w → H2[j]? = some w := fun j w hj hw => hold2 j w (by omega) hw
          have m0 := hpp (.cells (some 85) [.st 85 [y1]])
          have m1 := hl1 (.cells (some 85) [.st 85 [y1]])
          have m4 := hl4 (.cells (some 85) [.st 85 [y1]])
          have m3 := hl3 (.cells (some 85) [.st 85 [y1]])
          rw [hG] at m0 m1 m3 m4
          have n0 := hG1 _ _ (by omega) m0
          have n1 := hG1 _ _ (by omega) m1
          have n4 := hG1 _ _ (by omega) m4
          have mt0 := fun t => get_old m0 t
          have hy2 := xr2.ty
          have mt3 := fun t => get_old m3 t
          have q0 : ∀ c : Blk, (H2.set p c)[p]? = some c := fun c => set_get n0
          have q1 : ∀ c : Blk, (H2.set p c)[h.length + 1]? = some (Blk.cells (some 39) [zeroR.enc]) := fun c => by rw [List.getElem?_set_ne (by omega)]; exact n1
          have q4 : ∀ c : Blk, (H2.set p c)[h.length + 4]? = some (Blk.cells (some 39) [d2.enc]) := fun c => by rw [List.getElem?_set_ne (by omega)]; exact n4
          have q11 : ∀ c d : Blk, ((H2.set p c).set (h.length + 1) d)[h.length + 1]? = some d := fun c d => set_get (q1 c)
          suffices hh : ∃ w h', run fns pr b 39 [.ptr p [0] 1, q.encF f] h = some (w, h') ∧ w = d2.enc ∧ h' = (H2.set p (.cells (some 85) [.st 85 [y2]])).set (h.length + 1) (.cells (some 39) [d2.enc]) by
            obtain ⟨w, h', e, rfl, rfl⟩ := hh
            have fz : Fw [] h G → True := fun _ => trivial
            have fp : Fw [p] h H1 := f1.mono (by simp)
            have fG : Fw [p] h G := by rw [← hG]; exact fp.trans (Fw.set (by simp) g1)
            have f2 : Fw [p] h H2 := ⟨by have := fG.len; omega, fun j w hj hs => hG1 _ _ (by have := lt_of_get hj; omega) (fG.old j w hj hs), fun j l hj => by
              have := lt_of_get hj
              exact hG1 _ _ (by omega) (fG.byt j l hj)⟩
            have f3 : Fw [p] h (H2.set p (.cells (some 85) [.st 85 [y2]])) := f2.trans (Fw.set (by simp) n0)
            refine ⟨_, _, e, k2, rfl, ⟨y2, by rw [List.getElem?_set_ne (by omega)]; exact q0 _, ?_, by omega, fun h => by simp at h⟩, f3.set_new (by omega) _, .inr (by omega)⟩
            have : pl.map Vault.enc ++ [d1.encF false] = (pl ++ [d1]).map Vault.enc := by rw [List.map_append]; rfl
            rw [← this]
            exact (xr2.set (by omega) _).set (by omega) _
          refine Vm.runQ (nt := 75) rfl fit39 (by simp) ?_
          simp only [Request.encF] at hrq hdo ap1 hT hl0 ⊢
          have hvb : (0 : Nat) = 0 := rfl
          try simp only [B39, B39J0, hrq, hq, gr, hgt, hdo, cn, c4', encF_tyV, encF_soV, enc_tyR, enc_soR, hT, hpT, hxty, ap1, g1, hpp, hy1, hb, hG, m0, mt0, m3, mt3, ap2, hy2, n0, q0, q1, q4, q11, List.getElem?_cons_zero, go_sem, V.s.injEq, Value.bool.injEq, ↓reduceIte, Nat.reduceEqDiff, Nat.reduceBEq, Nat.reduceAdd, Nat.reduceSub, Nat.reduceLT, Nat.reduceLeDiff, Int.reduceLT, Int.reduceLE, Int.reduceEq, Int.reduceToNat, List.append_assoc, List.length_append, Vm.get_app, Vm.set_app, Vm.get_appL, Vm.get_appL0, Vm.set_appL, Vm.set_appL0, Nat.le_refl, Nat.le_add_right, okAt]
          repeat' (
            first | refine wpC_cases ?_ ?_ | refine wpU_casesT ?_ ?_ | refine wpU_casesF ?_ ?_
            all_goals intro hvc
            all_goals first | replace hvc := not_of_true hvc | replace hvc := not_of_false hvc | skip
            all_goals first | subst hvc | replace hvb := And.intro hvc hvb
            all_goals try simp only [hvb, B39, B39J0, hrq, hq, gr, hgt, hdo, cn, c4', encF_tyV, encF_soV, enc_tyR, enc_soR, hT, hpT, hxty, ap1, g1, hpp, hy1, hb, hG, m0, mt0, m3, mt3, ap2, hy2, n0, q0, q1, q4, q11, List.getElem?_cons_zero, go_sem, V.s.injEq, Value.bool.injEq, ↓reduceIte, Nat.reduceEqDiff, Nat.reduceBEq, Nat.reduceAdd, Nat.reduceSub, Nat.reduceLT, Nat.reduceLeDiff, Int.reduceLT, Int.reduceLE, Int.reduceEq, Int.reduceToNat, List.append_assoc, List.length_append, Vm.get_app, Vm.set_app, Vm.get_appL, Vm.get_appL0, Vm.set_appL, Vm.set_appL0, Nat.le_refl, Nat.le_add_right, okAt])
        · rw [if_neg cn]
          obtain ⟨j, v, j0, rfl, j2, j3⟩ : ∃ (j : Nat) (v : Vault), j < pl.length ∧ K = (j : Int) ∧ pl[j]? = some v ∧ v.iD = q.iD := by
            rcases hspec with ⟨h, _⟩ | h
            · omega
            · exact h
          rw [Int.toNat_natCast]
          rcases xr1 with ⟨_, e1⟩ | ⟨rfl, hr1⟩
          · have : pl = [] := by simpa using e1
            subst this; simp at j0
          rw [List.nil_append] at hr1
          simp only [List.nil_append, List.length_map] at ap1 hy1
          have j0' : (j : Int) < (pl.length : Int) := by omega
          have j1' : (0 : Int) ≤ (j : Int) := by omega
          obtain ⟨G, hG⟩ : ∃ G : Hp, H1.set p (.cells (some 85) [.st 85 [.ref k1 [] (some 74) 0 pl.length pl.length]]) = G := ⟨_, rfl⟩
          have hGl : G.length = H1.length := by rw [← hG]; simp
          have m0 := hpp (.cells (some 85) [.st 85 [.ref k1 [] (some 74) 0 pl.length pl.length]])
          have m1 := hl1 (.cells (some 85) [.st 85 [.ref k1 [] (some 74) 0 pl.length pl.length]])
          have m4 := hl4 (.cells (some 85) [.st 85 [.ref k1 [] (some 74) 0 pl.length pl.length]])
          have m3 := hl3 (.cells (some 85) [.st 85 [.ref k1 [] (some 74) 0 pl.length pl.length]])
          have mk : (H1.set p (.cells (some 85) [.st 85 [.ref k1 [] (some 74) 0 pl.length pl.length]]))[k1]? = some (.cells (some 74) (pl.map Vault.enc)) := by rw [List.getElem?_set_ne (by omega)]; exact hr1
          rw [hG] at m0 m1 m3 m4 mk
          have hml : (pl.map Vault.enc).length = pl.length := List.length_map ..
          have hme : (pl.map Vault.enc)[j]? = some v.enc := by rw [List.getElem?_map, j2]; rfl
          have hms : (pl.map Vault.enc).set j (d1.encF false) = (pl.set j d1).map Vault.enc := by rw [List.map_set]; rfl
          have hbk : ∀ c : Bool, (decide (b ≤ k1) || c) = true := fun c => by
            have : b ≤ k1 := by omega
            simp [this]
          have q1 : ∀ c : Blk, (G.set k1 c)[h.length + 1]? = some (Blk.cells (some 39) [zeroR.enc]) := fun c => by rw [List.getElem?_set_ne (by omega)]; exact m1
          have q4 : ∀ c : Blk, (G.set k1 c)[h.length + 4]? = some (Blk.cells (some 39) [d2.enc]) := fun c => by rw [List.getElem?_set_ne (by omega)]; exact m4
          have q11 : ∀ c d : Blk, ((G.set k1 c).set (h.length + 1) d)[h.length + 1]? = some d := fun c d => set_get (q1 c)
          suffices hh : ∃ w h', run fns pr b 39 [.ptr p [0] 1, q.encF f] h = some (w, h') ∧ w = d2.enc ∧ h' = (G.set k1 (.cells (some 74) ((pl.set j d1).map Vault.enc))).set (h.length + 1) (.cells (some 39) [d2.enc]) by
            obtain ⟨w, h', e, rfl, rfl⟩ := hh
            have fG : Fw [p] h G := by rw [← hG]; exact (f1.mono (by simp)).trans (Fw.set (by simp) g1)
            refine ⟨_, _, e, k1, rfl, ⟨_, by rw [List.getElem?_set_ne (by omega), List.getElem?_set_ne (by omega)]; exact m0, .inr ⟨by simp, by rw [List.getElem?_set_ne (by omega)]; exact set_get mk⟩, by omega, fun h => by simp at h; subst h; simp at j0⟩, (fG.set_new (by omega) _).set_new (by omega) _, .inr (by omega)⟩
          generalize hM : pl.map Vault.enc = M at *
          generalize (pl.set j d1).map Vault.enc = M' at *
          refine Vm.runQ (nt := 75) rfl fit39 (by simp) ?_
          simp only [Request.encF] at hrq hdo ap1 hT hl0 ⊢
          have hvb : (0 : Nat) = 0 := rfl
          try simp only [B39, B39J0, hrq, hq, gr, hgt, hdo, cn, encF_tyV, encF_soV, enc_tyR, enc_soR, hT, hpT, hxty, ap1, g1, hpp, hy1, hb, hG, m0, m3, mk, hml, hme, hms, hbk, j0, j0', j1', q1, q4, q11, enc_tyV, enc_soV, List.getElem?_cons_zero, go_sem, V.s.injEq, Value.bool.injEq, ↓reduceIte, Nat.reduceEqDiff, Nat.reduceBEq, Nat.reduceAdd, Nat.reduceSub, Nat.reduceLT, Nat.reduceLeDiff, Int.reduceLT, Int.reduceLE, Int.reduceEq, Int.reduceToNat, List.append_assoc, List.length_append, Vm.get_app, Vm.set_app, Vm.get_appL, Vm.get_appL0, Vm.set_appL, Vm.set_appL0, Nat.le_refl, Nat.le_add_right, okAt]
          repeat' (
            first | refine wpC_cases ?_ ?_ | refine wpU_casesT ?_ ?_ | refine wpU_casesF ?_ ?_
            all_goals intro hvc
            all_goals first | replace hvc := not_of_true hvc | replace hvc := not_of_false hvc | skip
            all_goals first | subst hvc | replace hvb := And.intro hvc hvb
            all_goals try simp only [hvb, B39, B39J0, hrq, hq, gr, hgt, hdo, cn, encF_tyV, encF_soV, enc_tyR, enc_soR, hT, hpT, hxty, ap1, g1, hpp, hy1, hb, hG, m0, m3, mk, hml, hme, hms, hbk, j0, j0', j1', q1, q4, q11, enc_tyV, enc_soV, List.getElem?_cons_zero, go_sem, V.s.injEq, Value.bool.injEq, ↓reduceIte, Nat.reduceEqDiff, Nat.reduceBEq, Nat.reduceAdd, Nat.reduceSub, Nat.reduceLT, Nat.reduceLeDiff, Int.reduceLT, Int.reduceLE, Int.reduceEq, Int.reduceToNat, List.append_assoc, List.length_append, Vm.get_app, Vm.set_app, Vm.get_appL, Vm.get_appL0, Vm.set_appL, Vm.set_appL0, Nat.le_refl, Nat.le_add_right, okAt])
end Go.Proofs.Ytkkncdokkdamcaa
