/- The judge's document: a plain list. Conditions: none. -/
import Derived.Test.YtkkncdokkdamcaaCS25a
import Derived.Test.YtkkncdokkdamcaaCM23d
namespace Go.Proofs.Ytkkncdokkdamcaa
open Go Go.Vm Go.Proofs Go.Cl
set_option linter.unusedSimpArgs false
set_option linter.unusedVariables false
set_option maxRecDepth 100000
/-- A plain list in memory: the object p, its row k. -/
def PR5 (h : Hp) (p k : Nat) (pl : List Vault) : Prop :=
  ∃ x, h[p]? = some (.cells (some 96) [.st 96 [x]]) ∧ XR h (some 74) k x (pl.map Vault.enc) ∧ p ≠ k ∧ (pl = [] → x = .imm true (some 74) [])
theorem PR5.mono {S : List Nat} {h h' : Hp} {p k : Nat} {pl : List Vault} (hp : PR5 h p k pl) (f : Fw S h h') (h1 : p ∉ S) (h2 : k ∉ S) : PR5 h' p k pl := by
  obtain ⟨x, a, b, c⟩ := hp
  exact ⟨x, f.old _ _ a h1, b.mono fun w hw => f.old _ _ hw h2, c⟩
theorem loop5 (b : Nat) (h : Hp) (p k : Nat) (pl : List Vault) (q : Request) (f : Bool) (hp : PR5 h p k pl) (hl : q.iD.length ≤ 1000000) (hpl : pl.length ≤ 1000) (hid : ∀ v ∈ pl, v.iD.length ≤ 1000000) (r : V) (e : Env) (K : Post)
    (e0 : e 0 = .ptr p [0] 1) (e3 : e 3 = .ptr h.length [0] 1) (e4 : e 4 = .ptr (h.length + 1) [0] 1) (e5 : e 5 = .s (.int .i64 (-1))) (e6 : e 6 = .s (.int .i64 0)) (e7 : e 7 = .s (.int .i64 0))
    (R : ∀ e : Env, e 0 = .ptr p [0] 1 → e 3 = .ptr h.length [0] 1 → e 4 = .ptr (h.length + 1) [0] 1 → e 5 = .s (.int .i64 (lastI pl q.iD pl.length)) → e 6 = .s (.int .i64 (cntS pl (shardOf q.iD) pl.length : Nat)) → K .normal e (h ++ [Blk.cells (some 32) [q.encF f], Blk.cells (some 39) [r]])) :
    wp (run fns pr b) b B47L0 e (h ++ [Blk.cells (some 32) [q.encF f], Blk.cells (some 39) [r]]) (blockK 0 K) := by
  obtain ⟨T, hT⟩ : ∃ T : Hp, [Blk.cells (some 32) [q.encF f], Blk.cells (some 39) [r]] = T := ⟨_, rfl⟩
  rw [hT] at R ⊢
  obtain ⟨x, h1, xr, hpk, _⟩ := hp
  have hty := xr.ty.1
  have hg1 := fun t => get_old h1 t
  have sx := fun t => xr.SR.app (h := h) t
  have hlx := fun cf base h0 => xr.SR.o_len (cf := cf) (base := base) (h := h0)
  simp only [List.length_map] at hlx
  have hsh := fun h0 => RShardOf_ok b h0 q.iD hl
  have t0 : (h ++ T)[h.length]? = some (Blk.cells (some 32) [q.encF f]) := by rw [← hT]; exact get_app0 _ _
  clear hT
  simp only [Request.encF] at t0
  unfold B47L0
  refine wp_for (fun n e H => ∃ i, n = pl.length - i ∧ i ≤ pl.length ∧ e 7 = .s (.int .i64 (i : Nat)) ∧ e 0 = .ptr p [0] 1 ∧ e 3 = .ptr h.length [0] 1 ∧ e 4 = .ptr (h.length + 1) [0] 1 ∧ e 6 = .s (.int .i64 (cntS pl (shardOf q.iD) i : Nat)) ∧ e 5 = .s (.int .i64 (lastI pl q.iD i)) ∧ H = h ++ T)
    (fun e H => e 0 = .ptr p [0] 1 ∧ e 3 = .ptr h.length [0] 1 ∧ e 4 = .ptr (h.length + 1) [0] 1 ∧ e 6 = .s (.int .i64 (cntS pl (shardOf q.iD) pl.length : Nat)) ∧ e 5 = .s (.int .i64 (lastI pl q.iD pl.length)) ∧ H = h ++ T)
    pl.length _ _ ⟨0, rfl, by omega, e7, e0, e3, e4, e6, e5, rfl⟩ ?_ ?_
  · clear e0 e3 e4 e5 e6 e7
    rintro n e H ⟨i, rfl, hi, e7, e0, e3, e4, e6, e5, rfl⟩
    generalize hidq : q.iD = id at *
    by_cases c : i < pl.length
    · have c' : (i : Int) < pl.length := by omega
      have hv : pl[i]? = some pl[i] := List.getElem?_eq_getElem c
      have hve : (pl.map Vault.enc)[i]? = some (pl[i]).enc := by rw [List.getElem?_map, hv]; rfl
      have hia := fun cf base => (sx T).o_ias (cf := cf) (base := base) (k := .i64) (i := i) (by simpa using c)
      rw [fld0] at hve
      have hfa := fun cf base => (sx T).o_fa (cf := cf) (base := base) (f := 0) hve (by simp)
      have hlf := fun cf base => (sx T).o_ldf (cf := cf) (base := base) (f := 0) (g' := some 26) hve rfl rfl
      have hsv := fun h0 => RShardOf_ok b h0 (pl[i]).iD (hid _ (List.getElem_mem c))
      have hcs := cntS_succ (s := shardOf id) hv
      have hls : lastI pl id (i + 1) = if (pl[i]).iD = id then (i : Int) else lastI pl id i := by
        rw [lastI, hv]; simp
      have hcl : cntS pl (shardOf id) i ≤ i := by unfold cntS; exact Nat.le_trans List.countP_le_length (by simp; omega)
      have hwr : IntKind.i64.wrap ((i : Int) + 1) = ((i + 1 : Nat) : Int) := wrap_small (by omega)
      have hwn : IntKind.i64.wrap ((cntS pl (shardOf id) i : Int) + 1) = ((cntS pl (shardOf id) i + 1 : Nat) : Int) := wrap_small (by omega)
      generalize pl[i] = v at *
      have hend : ∀ (k : Int) (m : Nat), k = lastI pl id (i + 1) → m = cntS pl (shardOf id) (i + 1) → ∃ n, n < pl.length - i ∧ ∃ i', n = pl.length - i' ∧ i' ≤ pl.length ∧ Value.int IntKind.i64 ((i + 1 : Nat) : Int) = Value.int IntKind.i64 (i' : Int) ∧ Value.int IntKind.i64 (m : Int) = Value.int IntKind.i64 (cntS pl (shardOf id) i' : Nat) ∧ Value.int IntKind.i64 k = Value.int IntKind.i64 (lastI pl id i') :=
        fun k m h1 h2 => ⟨pl.length - (i + 1), by omega, i + 1, rfl, by omega, rfl, by rw [h2], by rw [h1]⟩
      by_cases d1 : v.iD = id
      · have d2 : (shardOf v.iD : Int) = (shardOf id : Int) := by rw [d1]
        rw [if_pos d1] at hls
        rw [if_pos (by rw [d1])] at hcs
        subst d1
        have hvb : (0 : Nat) = 0 := rfl
        try simp only [e7, e0, e3, e4, e6, e5, c', hg1, hty, hlx, hia, hfa, hlf, t0, o_eqaB, hsv, hsh, hwr, hwn, go_sem, V.s.injEq, Value.bool.injEq, ↓reduceIte, Nat.reduceEqDiff, Nat.reduceBEq, Nat.reduceAdd, Nat.reduceSub, Nat.reduceLT, Nat.reduceLeDiff, Int.reduceLT, Int.reduceLE, Int.reduceEq, Int.reduceToNat, List.append_assoc, List.length_append, Vm.get_app, Vm.set_app, Vm.get_appL, Vm.get_appL0, Vm.set_appL, Vm.set_appL0, Nat.le_refl, Nat.le_add_right, okAt]
        repeat' (
          first | refine wpC_cases ?_ ?_ | refine wpU_casesT ?_ ?_ | refine wpU_casesF ?_ ?_
          all_goals intro hvc
          all_goals first | replace hvc := not_of_true hvc | replace hvc := not_of_false hvc | skip
          all_goals first | subst hvc | replace hvb := And.intro hvc hvb
          all_goals try simp only [hvb, e7, e0, e3, e4, e6, e5, c', hg1, hty, hlx, hia, hfa, hlf, t0, o_eqaB, hsv, hsh, hwr, hwn, go_sem, V.s.injEq, Value.bool.injEq, ↓reduceIte, Nat.reduceEqDiff, Nat.reduceBEq, Nat.reduceAdd, Nat.reduceSub, Nat.reduceLT, Nat.reduceLeDiff, Int.reduceLT, Int.reduceLE, Int.reduceEq, Int.reduceToNat, List.append_assoc, List.length_append, Vm.get_app, Vm.set_app, Vm.get_appL, Vm.get_appL0, Vm.set_appL, Vm.set_appL0, Nat.le_refl, Nat.le_add_right, okAt])
        all_goals exact hend _ _ hls.symm hcs.symm
      · rw [if_neg d1] at hls
        by_cases d2 : shardOf v.iD = shardOf id
        · have d2' : (shardOf v.iD : Int) = (shardOf id : Int) := by rw [d2]
          rw [if_pos d2] at hcs
          have hvb : (0 : Nat) = 0 := rfl
          try simp only [e7, e0, e3, e4, e6, e5, c', hg1, hty, hlx, hia, hfa, hlf, t0, o_eqaB, d1, hsv, hsh, d2', hwr, hwn, go_sem, V.s.injEq, Value.bool.injEq, ↓reduceIte, Nat.reduceEqDiff, Nat.reduceBEq, Nat.reduceAdd, Nat.reduceSub, Nat.reduceLT, Nat.reduceLeDiff, Int.reduceLT, Int.reduceLE, Int.reduceEq, Int.reduceToNat, List.append_assoc, List.length_append, Vm.get_app, Vm.set_app, Vm.get_appL, Vm.get_appL0, Vm.set_appL, Vm.set_appL0, Nat.le_refl, Nat.le_add_right, okAt]
          repeat' (
            first | refine wpC_cases ?_ ?_ | refine wpU_casesT ?_ ?_ | refine wpU_casesF ?_ ?_
            all_goals intro hvc
            all_goals first | replace hvc := not_of_true hvc | replace hvc := not_of_false hvc | skip
            all_goals first | subst hvc | replace hvb := And.intro hvc hvb
            all_goals try simp only [hvb, e7, e0, e3, e4, e6, e5, c', hg1, hty, hlx, hia, hfa, hlf, t0, o_eqaB, d1, hsv, hsh, d2', hwr, hwn, go_sem, V.s.injEq, Value.bool.injEq, ↓reduceIte, Nat.reduceEqDiff, Nat.reduceBEq, Nat.reduceAdd, Nat.reduceSub, Nat.reduceLT, Nat.reduceLeDiff, Int.reduceLT, Int.reduceLE, Int.reduceEq, Int.reduceToNat, List.append_assoc, List.length_append, Vm.get_app, Vm.set_app, Vm.get_appL, Vm.get_appL0, Vm.set_appL, Vm.set_appL0, Nat.le_refl, Nat.le_add_right, okAt])
          all_goals exact hend _ _ hls.symm hcs.symm
        · have d2' : ¬ (shardOf v.iD : Int) = (shardOf id : Int) := by omega
          rw [if_neg d2] at hcs
          have hvb : (0 : Nat) = 0 := rfl
          try simp only [e7, e0, e3, e4, e6, e5, c', hg1, hty, hlx, hia, hfa, hlf, t0, o_eqaB, d1, hsv, hsh, d2', hwr, hwn, go_sem, V.s.injEq, Value.bool.injEq, ↓reduceIte, Nat.reduceEqDiff, Nat.reduceBEq, Nat.reduceAdd, Nat.reduceSub, Nat.reduceLT, Nat.reduceLeDiff, Int.reduceLT, Int.reduceLE, Int.reduceEq, Int.reduceToNat, List.append_assoc, List.length_append, Vm.get_app, Vm.set_app, Vm.get_appL, Vm.get_appL0, Vm.set_appL, Vm.set_appL0, Nat.le_refl, Nat.le_add_right, okAt]
          repeat' (
            first | refine wpC_cases ?_ ?_ | refine wpU_casesT ?_ ?_ | refine wpU_casesF ?_ ?_
            all_goals intro hvc
            all_goals first | replace hvc := not_of_true hvc | replace hvc := not_of_false hvc | skip
            all_goals first | subst hvc | replace hvb := And.intro hvc hvb
            all_goals try simp only [hvb, e7, e0, e3, e4, e6, e5, c', hg1, hty, hlx, hia, hfa, hlf, t0, o_eqaB, d1, hsv, hsh, d2', hwr, hwn, go_sem, V.s.injEq, Value.bool.injEq, ↓reduceIte, Nat.reduceEqDiff, Nat.reduceBEq, Nat.reduceAdd, Nat.reduceSub, Nat.reduceLT, Nat.reduceLeDiff, Int.reduceLT, Int.reduceLE, Int.reduceEq, Int.reduceToNat, List.append_assoc, List.length_append, Vm.get_app, Vm.set_app, Vm.get_appL, Vm.get_appL0, Vm.set_appL, Vm.set_appL0, Nat.le_refl, Nat.le_add_right, okAt])
          all_goals exact hend _ _ hls.symm hcs.symm
    · have c' : ¬ (i : Int) < pl.length := by omega
      have : i = pl.length := by omega
      subst this
      have hvb : (0 : Nat) = 0 := rfl
      try simp only [e7, e0, e3, e4, e6, e5, hg1, hty, hlx, c', go_sem, V.s.injEq, Value.bool.injEq, ↓reduceIte, Nat.reduceEqDiff, Nat.reduceBEq, Nat.reduceAdd, Nat.reduceSub, Nat.reduceLT, Nat.reduceLeDiff, Int.reduceLT, Int.reduceLE, Int.reduceEq, Int.reduceToNat, List.append_assoc, List.length_append, Vm.get_app, Vm.set_app, Vm.get_appL, Vm.get_appL0, Vm.set_appL, Vm.set_appL0, Nat.le_refl, Nat.le_add_right, okAt]
      repeat' (
        first | refine wpC_cases ?_ ?_ | refine wpU_casesT ?_ ?_ | refine wpU_casesF ?_ ?_
        all_goals intro hvc
        all_goals first | replace hvc := not_of_true hvc | replace hvc := not_of_false hvc | skip
        all_goals first | subst hvc | replace hvb := And.intro hvc hvb
        all_goals try simp only [hvb, e7, e0, e3, e4, e6, e5, hg1, hty, hlx, c', go_sem, V.s.injEq, Value.bool.injEq, ↓reduceIte, Nat.reduceEqDiff, Nat.reduceBEq, Nat.reduceAdd, Nat.reduceSub, Nat.reduceLT, Nat.reduceLeDiff, Int.reduceLT, Int.reduceLE, Int.reduceEq, Int.reduceToNat, List.append_assoc, List.length_append, Vm.get_app, Vm.set_app, Vm.get_appL, Vm.get_appL0, Vm.set_appL, Vm.set_appL0, Nat.le_refl, Nat.le_add_right, okAt])
  · rintro e H ⟨e0, e3, e4, e6, e5, rfl⟩
    exact R e e0 e3 e4 e5 e6
theorem P5Do_ok (b : Nat) (h : Hp) (p k : Nat) (pl : List Vault) (q : Request) (f : Bool) (hb : b ≤ p) (hp : PR5 h p k pl) (hl : q.iD.length ≤ 1000000) (hpl : pl.length ≤ 1000) (hid : ∀ v ∈ pl, v.iD.length ≤ 1000000) (hr : ∀ v ∈ pl, rightV v = true) :
    ∃ v h', run fns pr b 47 [.ptr p [0] 1, q.encF f] h = some (v, h') ∧ ∃ k', v = (plainDo pl q).1.enc ∧ PR5 h' p k' (plainDo pl q).2 ∧ Fw [p] h h' ∧ (k' = k ∧ (plainDo pl q).2 = pl ∨ h.length ≤ k') := by
  have hrq := fun h0 f => RRightRequest_ok b h0 f q
  have hp' := hp
  obtain ⟨x, h1, xr, hpk, _⟩ := hp'
  have hlp := lt_of_get h1
  have hbl : b ≤ h.length := by omega
  have gr : ∀ k, decide (b ≤ h.length + k) = true := fun k => decide_eq_true (Nat.le_trans hbl (Nat.le_add_right _ _))
  have hlp5 := fun r e K => loop5 b h p k pl q f hp hl hpl hid r e K
  have hty := xr.ty.1
  have hgp := fun t => get_old h1 t
  have sx := fun t => xr.SR.app (h := h) t
  have hlx := fun cf base h0 => xr.SR.o_len (cf := cf) (base := base) (h := h0)
  simp only [List.length_map] at hlx
  have hat : ∀ k, atK pl k = (((pl[k.toNat]?).filter fun _ => decide (0 ≤ k))).getD zeroV := fun _ => rfl
  have hzd : atK pl (lastI pl q.iD pl.length) = zeroV ∨ rightV (atK pl (lastI pl q.iD pl.length)) = true ∧ (atK pl (lastI pl q.iD pl.length)).iD = q.iD := by
    rcases lastI_spec pl q.iD pl.length (Nat.le_refl _) with ⟨k1, _⟩ | ⟨j, v, k0, k1, k2, k3⟩
    · rw [k1]; exact .inl (atK_neg _ (by omega))
    · rw [k1, atK_nat k2]; exact .inr ⟨hr _ (List.mem_of_getElem? k2), k3⟩
  unfold plainDo
  simp only [← hat]
  cases hq : rightQ q with
  | false =>
    suffices hh : ∃ w h', run fns pr b 47 [.ptr p [0] 1, q.encF f] h = some (w, h') ∧ w = ({ zeroR with why := 12 } : Reply).enc ∧ ∃ t, h' = h ++ t by
      obtain ⟨w, h', e, rfl, t, rfl⟩ := hh
      exact ⟨_, _, e, k, rfl, hp.mono (Fw.app [] h t) (by simp) (by simp), Fw.app _ _ _, .inl ⟨rfl, by first | rfl | trivial⟩⟩
    refine Vm.runQ (nt := 120) rfl fit47 (by simp) ?_
    simp only [Request.encF] at hrq ⊢
    have hvb : (0 : Nat) = 0 := rfl
    try simp only [B47, B47R0, B47J0, B47L0, hrq, hq, gr, go_sem, V.s.injEq, Value.bool.injEq, ↓reduceIte, Nat.reduceEqDiff, Nat.reduceBEq, Nat.reduceAdd, Nat.reduceSub, Nat.reduceLT, Nat.reduceLeDiff, Int.reduceLT, Int.reduceLE, Int.reduceEq, Int.reduceToNat, List.append_assoc, List.length_append, Vm.get_app, Vm.set_app, Vm.get_appL, Vm.get_appL0, Vm.set_appL, Vm.set_appL0, Nat.le_refl, Nat.le_add_right, okAt]
    repeat' (
      first | refine wpC_cases ?_ ?_ | refine wpU_casesT ?_ ?_ | refine wpU_casesF ?_ ?_
      all_goals intro hvc
      all_goals first | replace hvc := not_of_true hvc | replace hvc := not_of_false hvc | skip
      all_goals first | subst hvc | replace hvb := And.intro hvc hvb
      all_goals try simp only [hvb, B47, B47R0, B47J0, B47L0, hrq, hq, gr, go_sem, V.s.injEq, Value.bool.injEq, ↓reduceIte, Nat.reduceEqDiff, Nat.reduceBEq, Nat.reduceAdd, Nat.reduceSub, Nat.reduceLT, Nat.reduceLeDiff, Int.reduceLT, Int.reduceLE, Int.reduceEq, Int.reduceToNat, List.append_assoc, List.length_append, Vm.get_app, Vm.set_app, Vm.get_appL, Vm.get_appL0, Vm.set_appL, Vm.set_appL0, Nat.le_refl, Nat.le_add_right, okAt])
    exact ⟨rfl, _, rfl⟩
  | true =>
    simp only [Bool.true_eq_false, if_false]
    have hgen := right_gen (hzd.imp id And.left)
    have hdo := fun b h0 f g => RDo_good b h0 f g (atK pl (lastI pl q.iD pl.length)) q hgen hq hzd
    have hdr := doG_right hq hzd
    simp only [Vault.enc_F, outV] at hdo
    have hspec := lastI_spec pl q.iD pl.length (Nat.le_refl _)
    have hkn : lastI pl q.iD pl.length < 0 → atK pl (lastI pl q.iD pl.length) = zeroV := fun hk => atK_neg _ hk
    have hkj : ∀ (j : Nat) (v : Vault), lastI pl q.iD pl.length = (j : Int) → pl[j]? = some v → atK pl (lastI pl q.iD pl.length) = v := fun j v hk hv => by rw [hk]; exact atK_nat hv
    generalize lastI pl q.iD pl.length = K at *
    generalize atK pl K = v0 at *
    generalize doG v0 q = d at *
    generalize cntS pl (shardOf q.iD) pl.length = N at *
    obtain ⟨d1, d2, d3⟩ := d
    simp only at hdr ⊢
    cases d3 with
    | false =>
      simp only [if_true]
      suffices hh : ∃ w h', run fns pr b 47 [.ptr p [0] 1, q.encF f] h = some (w, h') ∧ w = d2.enc ∧ ∃ t, h' = h ++ t by
        obtain ⟨w, h', e, rfl, t, rfl⟩ := hh
        exact ⟨_, _, e, k, rfl, hp.mono (Fw.app [] h t) (by simp) (by simp), Fw.app _ _ _, .inl ⟨rfl, by first | rfl | trivial⟩⟩
      refine Vm.runQ (nt := 120) rfl fit47 (by simp) ?_
      simp only [Request.encF] at hrq hlp5 hdo ⊢
      have hvb : (0 : Nat) = 0 := rfl
      try simp only [B47 , hrq, hq, gr, go_sem, V.s.injEq, Value.bool.injEq, ↓reduceIte, Nat.reduceEqDiff, Nat.reduceBEq, Nat.reduceAdd, Nat.reduceSub, Nat.reduceLT, Nat.reduceLeDiff, Int.reduceLT, Int.reduceLE, Int.reduceEq, Int.reduceToNat, List.append_assoc, List.length_append, Vm.get_app, Vm.set_app, Vm.get_appL, Vm.get_appL0, Vm.set_appL, Vm.set_appL0, Nat.le_refl, Nat.le_add_right, okAt]
      repeat' (
        first | refine wpC_cases ?_ ?_ | refine wpU_casesT ?_ ?_ | refine wpU_casesF ?_ ?_
        all_goals intro hvc
        all_goals first | replace hvc := not_of_true hvc | replace hvc := not_of_false hvc | skip
        all_goals first | subst hvc | replace hvb := And.intro hvc hvb
        all_goals try simp only [hvb, B47 , hrq, hq, gr, go_sem, V.s.injEq, Value.bool.injEq, ↓reduceIte, Nat.reduceEqDiff, Nat.reduceBEq, Nat.reduceAdd, Nat.reduceSub, Nat.reduceLT, Nat.reduceLeDiff, Int.reduceLT, Int.reduceLE, Int.reduceEq, Int.reduceToNat, List.append_assoc, List.length_append, Vm.get_app, Vm.set_app, Vm.get_appL, Vm.get_appL0, Vm.set_appL, Vm.set_appL0, Nat.le_refl, Nat.le_add_right, okAt])
      refine hlp5 _ _ _ (by rfl) (by rfl) (by rfl) (by rfl) (by rfl) (by rfl) ?_
      rintro e e0 e3 e4 e5 e6
      by_cases cn : K < 0
      · have cn0 : ¬ (0 : Int) ≤ K := by omega
        have hzv := zeroV_e false
        rw [← hkn cn] at hzv
        have hzv := hzv.symm
        have hvb : (0 : Nat) = 0 := rfl
        try simp only [B47R0 , B47J0 , e0, e3, e4, e5, e6, hgp, hty, hlx, gr, cn, cn0, hzv, hdo, encF_tyV, encF_soV, enc_tyR, enc_soR, go_sem, V.s.injEq, Value.bool.injEq, ↓reduceIte, Nat.reduceEqDiff, Nat.reduceBEq, Nat.reduceAdd, Nat.reduceSub, Nat.reduceLT, Nat.reduceLeDiff, Int.reduceLT, Int.reduceLE, Int.reduceEq, Int.reduceToNat, List.append_assoc, List.length_append, Vm.get_app, Vm.set_app, Vm.get_appL, Vm.get_appL0, Vm.set_appL, Vm.set_appL0, Nat.le_refl, Nat.le_add_right, okAt]
        repeat' (
          first | refine wpC_cases ?_ ?_ | refine wpU_casesT ?_ ?_ | refine wpU_casesF ?_ ?_
          all_goals intro hvc
          all_goals first | replace hvc := not_of_true hvc | replace hvc := not_of_false hvc | skip
          all_goals first | subst hvc | replace hvb := And.intro hvc hvb
          all_goals try simp only [hvb, B47R0 , B47J0 , e0, e3, e4, e5, e6, hgp, hty, hlx, gr, cn, cn0, hzv, hdo, encF_tyV, encF_soV, enc_tyR, enc_soR, go_sem, V.s.injEq, Value.bool.injEq, ↓reduceIte, Nat.reduceEqDiff, Nat.reduceBEq, Nat.reduceAdd, Nat.reduceSub, Nat.reduceLT, Nat.reduceLeDiff, Int.reduceLT, Int.reduceLE, Int.reduceEq, Int.reduceToNat, List.append_assoc, List.length_append, Vm.get_app, Vm.set_app, Vm.get_appL, Vm.get_appL0, Vm.set_appL, Vm.set_appL0, Nat.le_refl, Nat.le_add_right, okAt])
        exact ⟨_, rfl⟩
      · obtain ⟨j, v, j0, rfl, j2, j3⟩ := hspec.resolve_left (fun h => cn (by omega))
        obtain rfl := hkj j v rfl j2
        have j1' : (0 : Int) ≤ (j : Int) := by omega
        have cn' : ¬ (j : Int) < 0 := by omega
        have hve : (pl.map Vault.enc)[j]? = some v0.enc := by rw [List.getElem?_map, j2]; rfl
        have hia := fun cf base t => (sx t).o_ias (cf := cf) (base := base) (k := .i64) (i := j) (by simpa using j0)
        have hlo := fun cf base t => (sx t).o_ld (cf := cf) (base := base) hve rfl
        simp only [Vault.enc_F] at hlo
        have hvb : (0 : Nat) = 0 := rfl
        try simp only [B47R0 , B47J0 , e0, e3, e4, e5, e6, hgp, hty, hlx, gr, j1', cn', hia, hlo, zeroV_e, hdo, encF_tyV, encF_soV, enc_tyR, enc_soR, go_sem, V.s.injEq, Value.bool.injEq, ↓reduceIte, Nat.reduceEqDiff, Nat.reduceBEq, Nat.reduceAdd, Nat.reduceSub, Nat.reduceLT, Nat.reduceLeDiff, Int.reduceLT, Int.reduceLE, Int.reduceEq, Int.reduceToNat, List.append_assoc, List.length_append, Vm.get_app, Vm.set_app, Vm.get_appL, Vm.get_appL0, Vm.set_appL, Vm.set_appL0, Nat.le_refl, Nat.le_add_right, okAt]
        repeat' (
          first | refine wpC_cases ?_ ?_ | refine wpU_casesT ?_ ?_ | refine wpU_casesF ?_ ?_
          all_goals intro hvc
          all_goals first | replace hvc := not_of_true hvc | replace hvc := not_of_false hvc | skip
          all_goals first | subst hvc | replace hvb := And.intro hvc hvb
          all_goals try simp only [hvb, B47R0 , B47J0 , e0, e3, e4, e5, e6, hgp, hty, hlx, gr, j1', cn', hia, hlo, zeroV_e, hdo, encF_tyV, encF_soV, enc_tyR, enc_soR, go_sem, V.s.injEq, Value.bool.injEq, ↓reduceIte, Nat.reduceEqDiff, Nat.reduceBEq, Nat.reduceAdd, Nat.reduceSub, Nat.reduceLT, Nat.reduceLeDiff, Int.reduceLT, Int.reduceLE, Int.reduceEq, Int.reduceToNat, List.append_assoc, List.length_append, Vm.get_app, Vm.set_app, Vm.get_appL, Vm.get_appL0, Vm.set_appL, Vm.set_appL0, Nat.le_refl, Nat.le_add_right, okAt])
        exact ⟨_, rfl⟩
    | true =>
      simp only [Bool.true_eq_false, if_false]
      have hdr := hdr rfl
      by_cases cf : K < 0 ∧ 4 ≤ N
      · rw [if_pos cf]
        obtain ⟨c0, c4⟩ := cf
        have c4' : (4 : Int) ≤ (N : Int) := by omega
        suffices hh : ∃ w h', run fns pr b 47 [.ptr p [0] 1, q.encF f] h = some (w, h') ∧ w = (⟨13, q.iD, 0, 0, [], q.client, q.num⟩ : Reply).enc ∧ ∃ t, h' = h ++ t by
          obtain ⟨w, h', e, rfl, t, rfl⟩ := hh
          exact ⟨_, _, e, k, rfl, hp.mono (Fw.app [] h t) (by simp) (by simp), Fw.app _ _ _, .inl ⟨rfl, by first | rfl | trivial⟩⟩
        refine Vm.runQ (nt := 120) rfl fit47 (by simp) ?_
        simp only [Request.encF] at hrq hlp5 hdo ⊢
        have hvb : (0 : Nat) = 0 := rfl
        try simp only [B47 , hrq, hq, gr, go_sem, V.s.injEq, Value.bool.injEq, ↓reduceIte, Nat.reduceEqDiff, Nat.reduceBEq, Nat.reduceAdd, Nat.reduceSub, Nat.reduceLT, Nat.reduceLeDiff, Int.reduceLT, Int.reduceLE, Int.reduceEq, Int.reduceToNat, List.append_assoc, List.length_append, Vm.get_app, Vm.set_app, Vm.get_appL, Vm.get_appL0, Vm.set_appL, Vm.set_appL0, Nat.le_refl, Nat.le_add_right, okAt]
        repeat' (
          first | refine wpC_cases ?_ ?_ | refine wpU_casesT ?_ ?_ | refine wpU_casesF ?_ ?_
          all_goals intro hvc
          all_goals first | replace hvc := not_of_true hvc | replace hvc := not_of_false hvc | skip
          all_goals first | subst hvc | replace hvb := And.intro hvc hvb
          all_goals try simp only [hvb, B47 , hrq, hq, gr, go_sem, V.s.injEq, Value.bool.injEq, ↓reduceIte, Nat.reduceEqDiff, Nat.reduceBEq, Nat.reduceAdd, Nat.reduceSub, Nat.reduceLT, Nat.reduceLeDiff, Int.reduceLT, Int.reduceLE, Int.reduceEq, Int.reduceToNat, List.append_assoc, List.length_append, Vm.get_app, Vm.set_app, Vm.get_appL, Vm.get_appL0, Vm.set_appL, Vm.set_appL0, Nat.le_refl, Nat.le_add_right, okAt])
        refine hlp5 _ _ _ (by rfl) (by rfl) (by rfl) (by rfl) (by rfl) (by rfl) ?_
        rintro e e0 e3 e4 e5 e6
        have cn0 : ¬ (0 : Int) ≤ K := by omega
        have hzv := zeroV_e false
        rw [← hkn c0] at hzv
        have hzv := hzv.symm
        have hvb : (0 : Nat) = 0 := rfl
        try simp only [B47R0 , B47J0 , e0, e3, e4, e5, e6, hgp, hty, hlx, gr, cn0, hzv, hdo, c0, c4', encF_tyV, encF_soV, enc_tyR, enc_soR, go_sem, V.s.injEq, Value.bool.injEq, ↓reduceIte, Nat.reduceEqDiff, Nat.reduceBEq, Nat.reduceAdd, Nat.reduceSub, Nat.reduceLT, Nat.reduceLeDiff, Int.reduceLT, Int.reduceLE, Int.reduceEq, Int.reduceToNat, List.append_assoc, List.length_append, Vm.get_app, Vm.set_app, Vm.get_appL, Vm.get_appL0, Vm.set_appL, Vm.set_appL0, Nat.le_refl, Nat.le_add_right, okAt]
        repeat' (
          first | refine wpC_cases ?_ ?_ | refine wpU_casesT ?_ ?_ | refine wpU_casesF ?_ ?_
          all_goals intro hvc
          all_goals first | replace hvc := not_of_true hvc | replace hvc := not_of_false hvc | skip
          all_goals first | subst hvc | replace hvb := And.intro hvc hvb
          all_goals try simp only [hvb, B47R0 , B47J0 , e0, e3, e4, e5, e6, hgp, hty, hlx, gr, cn0, hzv, hdo, c0, c4', encF_tyV, encF_soV, enc_tyR, enc_soR, go_sem, V.s.injEq, Value.bool.injEq, ↓reduceIte, Nat.reduceEqDiff, Nat.reduceBEq, Nat.reduceAdd, Nat.reduceSub, Nat.reduceLT, Nat.reduceLeDiff, Int.reduceLT, Int.reduceLE, Int.reduceEq, Int.reduceToNat, List.append_assoc, List.length_append, Vm.get_app, Vm.set_app, Vm.get_appL, Vm.get_appL0, Vm.set_appL, Vm.set_appL0, Nat.le_refl, Nat.le_add_right, okAt])
        exact ⟨rfl, _, rfl⟩
      · rw [if_neg cf]
        have c4' : K < 0 → ¬ (4 : Int) ≤ (N : Int) := fun h h' => cf ⟨h, by omega⟩
        obtain ⟨T, hT⟩ : ∃ T : Hp, [Blk.cells (some 32) [q.encF f], .cells (some 39) [.st 39 [.s (.int .i64 0), .arr 26 (zero4.map byteV), .s (.int .u64 0), .s (.int .i64 0), .imm false none [], .s (.int .i64 0), .s (.int .u64 0)]], .cells (some 74) [v0.encF false], .cells (some 74) [d1.encF false], .cells (some 39) [d2.enc]] = T := ⟨_, rfl⟩
        have hTl : T.length = 5 := by rw [← hT]; rfl
        have hsx : source (h ++ T) x = some (some 74, pl.map Vault.enc) := (xr.SR.app T).src
        obtain ⟨y1, H1, k1, ap1, xr1, hk1, hl1, _, hg1, hold1⟩ := (XR.nil (h ++ T) (some 74) (h ++ T).length).appL (n := (h ++ T).length) (bytes := 96) (Nat.le_refl _) (Nat.le_refl _) hsx (encs_ground _) (by simp; omega)
        have o1 : ∀ (j : Nat) (w : Blk), (h ++ T)[j]? = some w → H1[j]? = some w := fun j w hw => hold1 j w (by have := lt_of_get hw; omega) hw
        have f1 : Fw [] h H1 := (Fw.app [] h T).trans (Fw.of_old (by simpa using hg1) o1)
        have hlT : (h ++ T).length = h.length + 5 := by simp [hTl]
        have hy1 := xr1.ty
        have hloc : ∀ i, i < 5 → H1[h.length + i]? = T[i]? := fun i hi => by
          have : (h ++ T)[h.length + i]? = some (T[i]'(by omega)) := by rw [get_app]; exact List.getElem?_eq_getElem (by omega)
          rw [o1 _ _ this]; exact (List.getElem?_eq_getElem (by omega)).symm
        have g1 : H1[p]? = _ := o1 _ _ (get_old h1 T)
        have hTp : ∀ c : Blk, ∀ i, i < 5 → (H1.set p c)[h.length + i]? = T[i]? := fun c i hi => by rw [List.getElem?_set_ne (by omega)]; exact hloc i hi
        have hpp : ∀ c : Blk, (H1.set p c)[p]? = some c := fun c => set_get g1
        have hl0 : ∀ c : Blk, (H1.set p c)[h.length]? = some (Blk.cells (some 32) [q.encF f]) := fun c => by
          have := hTp c 0 (by omega)
          rw [Nat.add_zero, ← hT] at this; exact this
        have hl1 : ∀ c : Blk, (H1.set p c)[h.length + 1]? = some (Blk.cells (some 39) [zeroR.enc]) := fun c => by
          have := hTp c 1 (by omega)
          rw [← hT] at this; exact this
        have hl3 : ∀ c : Blk, (H1.set p c)[h.length + 3]? = some (Blk.cells (some 74) [d1.encF false]) := fun c => by
          have := hTp c 3 (by omega)
          rw [← hT] at this; exact this
        have hl4 : ∀ c : Blk, (H1.set p c)[h.length + 4]? = some (Blk.cells (some 39) [d2.enc]) := fun c => by
          have := hTp c 4 (by omega)
          rw [← hT] at this; exact this
        have hgrp : ∀ z : V, ∀ c : Bool, (decide (b ≤ p) || c) = true := fun z c => by simp [hb]
        have hpT := get_old h1 T
        have hxty := xr.ty.1
        by_cases cn : K < 0
        · have c4' := c4' cn
          rw [if_pos cn]
          obtain ⟨G, hG⟩ : ∃ G : Hp, H1 = G := ⟨_, rfl⟩
          have hGl : G.length = H1.length := by rw [hG]
          have xrG : XR G (some 74) k1 y1 (pl.map Vault.enc) := by
            rw [← hG]; exact xr1
          obtain ⟨y2, H2, k2, ap2, xr2, hk2, hl2, _, hg2, hold2⟩ := xrG.appL (n := (h ++ T).length) (y := .imm true (some 74) [d1.encF false]) (ys := [d1.encF false]) (bytes := 96) hk1 (by omega) rfl (fun z hz => by simp at hz; subst hz; exact enc_ground d1) (by simp; omega)
          have hG1 : ∀ j w, j < (h ++ T).length → G[j]? = some w → H2[j]? = some w := fun j w hj hw => hold2 j w (by omega) hw
          have m0 := g1
          have m1 : H1[h.length + 1]? = some (Blk.cells (some 39) [zeroR.enc]) := by have := hloc 1 (by omega); rw [← hT] at this; exact this
          have m4 : H1[h.length + 4]? = some (Blk.cells (some 39) [d2.enc]) := by have := hloc 4 (by omega); rw [← hT] at this; exact this
          have m3 : H1[h.length + 3]? = some (Blk.cells (some 74) [d1.encF false]) := by have := hloc 3 (by omega); rw [← hT] at this; exact this
          rw [hG] at m0 m1 m3 m4
          have n0 := hG1 _ _ (by omega) m0
          have hT3 : T[3]? = some (Blk.cells (some 74) [d1.encF false]) := by rw [← hT]; rfl
          have n1 := hG1 _ _ (by omega) m1
          have n4 := hG1 _ _ (by omega) m4
          have mt0 := fun t => get_old m0 t
          have hy2 := xr2.ty
          have mt3 := fun t => get_old m3 t
          have q0 : ∀ c : Blk, (H2.set p c)[p]? = some c := fun c => set_get n0
          have q1 : ∀ c : Blk, (H2.set p c)[h.length + 1]? = some (Blk.cells (some 39) [zeroR.enc]) := fun c => by rw [List.getElem?_set_ne (by omega)]; exact n1
          have q4 : ∀ c : Blk, (H2.set p c)[h.length + 4]? = some (Blk.cells (some 39) [d2.enc]) := fun c => by rw [List.getElem?_set_ne (by omega)]; exact n4
          have q11 : ∀ c d : Blk, ((H2.set p c).set (h.length + 1) d)[h.length + 1]? = some d := fun c d => set_get (q1 c)
          suffices hh : ∃ w h', run fns pr b 47 [.ptr p [0] 1, q.encF f] h = some (w, h') ∧ w = d2.enc ∧ h' = (H2.set p (.cells (some 96) [.st 96 [y2]])).set (h.length + 1) (.cells (some 39) [d2.enc]) by
            obtain ⟨w, h', e, rfl, rfl⟩ := hh
            have fz : Fw [] h G → True := fun _ => trivial
            have fp : Fw [p] h H1 := f1.mono (by simp)
            have fG : Fw [p] h G := by rw [← hG]; exact fp
            have f2 : Fw [p] h H2 := ⟨by have := fG.len; omega, fun j w hj hs => hG1 _ _ (by have := lt_of_get hj; omega) (fG.old j w hj hs), fun j l hj => by
              have := lt_of_get hj
              exact hG1 _ _ (by omega) (fG.byt j l hj)⟩
            have f3 : Fw [p] h (H2.set p (.cells (some 96) [.st 96 [y2]])) := f2.trans (Fw.set (by simp) n0)
            refine ⟨_, _, e, k2, rfl, ⟨y2, by rw [List.getElem?_set_ne (by omega)]; exact q0 _, ?_, by omega, fun h => by simp at h⟩, f3.set_new (by omega) _, .inr (by omega)⟩
            have : pl.map Vault.enc ++ [d1.encF false] = (pl ++ [d1]).map Vault.enc := by rw [List.map_append]; rfl
            rw [← this]
            exact (xr2.set (by omega) _).set (by omega) _
          refine Vm.runQ (nt := 120) rfl fit47 (by simp) ?_
          simp only [Request.encF] at hrq hlp5 hdo ap1 hT hl0 ⊢
          have hvb : (0 : Nat) = 0 := rfl
          try simp only [B47 , hrq, hq, gr, go_sem, V.s.injEq, Value.bool.injEq, ↓reduceIte, Nat.reduceEqDiff, Nat.reduceBEq, Nat.reduceAdd, Nat.reduceSub, Nat.reduceLT, Nat.reduceLeDiff, Int.reduceLT, Int.reduceLE, Int.reduceEq, Int.reduceToNat, List.append_assoc, List.length_append, Vm.get_app, Vm.set_app, Vm.get_appL, Vm.get_appL0, Vm.set_appL, Vm.set_appL0, Nat.le_refl, Nat.le_add_right, okAt]
          repeat' (
            first | refine wpC_cases ?_ ?_ | refine wpU_casesT ?_ ?_ | refine wpU_casesF ?_ ?_
            all_goals intro hvc
            all_goals first | replace hvc := not_of_true hvc | replace hvc := not_of_false hvc | skip
            all_goals first | subst hvc | replace hvb := And.intro hvc hvb
            all_goals try simp only [hvb, B47 , hrq, hq, gr, go_sem, V.s.injEq, Value.bool.injEq, ↓reduceIte, Nat.reduceEqDiff, Nat.reduceBEq, Nat.reduceAdd, Nat.reduceSub, Nat.reduceLT, Nat.reduceLeDiff, Int.reduceLT, Int.reduceLE, Int.reduceEq, Int.reduceToNat, List.append_assoc, List.length_append, Vm.get_app, Vm.set_app, Vm.get_appL, Vm.get_appL0, Vm.set_appL, Vm.set_appL0, Nat.le_refl, Nat.le_add_right, okAt])
          refine hlp5 _ _ _ (by rfl) (by rfl) (by rfl) (by rfl) (by rfl) (by rfl) ?_
          rintro e e0 e3 e4 e5 e6
          have cn0 : ¬ (0 : Int) ≤ K := by omega
          have hzv := zeroV_e false
          rw [← hkn cn] at hzv
          have hzv := hzv.symm
          have hvb : (0 : Nat) = 0 := rfl
          try simp only [B47R0 , B47J0 , e0, e3, e4, e5, e6, hgp, hty, hlx, gr, cn0, hzv, hdo, cn, c4', encF_tyV, encF_soV, enc_tyR, enc_soR, hT, hpT, hxty, ap1, g1, hpp, hy1, hb, hG, hT3, m0, mt0, m3, mt3, ap2, hy2, n0, q0, q1, q4, q11, List.getElem?_cons_zero, go_sem, V.s.injEq, Value.bool.injEq, ↓reduceIte, Nat.reduceEqDiff, Nat.reduceBEq, Nat.reduceAdd, Nat.reduceSub, Nat.reduceLT, Nat.reduceLeDiff, Int.reduceLT, Int.reduceLE, Int.reduceEq, Int.reduceToNat, List.append_assoc, List.length_append, Vm.get_app, Vm.set_app, Vm.get_appL, Vm.get_appL0, Vm.set_appL, Vm.set_appL0, Nat.le_refl, Nat.le_add_right, okAt]
          repeat' (
            first | refine wpC_cases ?_ ?_ | refine wpU_casesT ?_ ?_ | refine wpU_casesF ?_ ?_
            all_goals intro hvc
            all_goals first | replace hvc := not_of_true hvc | replace hvc := not_of_false hvc | skip
            all_goals first | subst hvc | replace hvb := And.intro hvc hvb
            all_goals try simp only [hvb, B47R0 , B47J0 , e0, e3, e4, e5, e6, hgp, hty, hlx, gr, cn0, hzv, hdo, cn, c4', encF_tyV, encF_soV, enc_tyR, enc_soR, hT, hpT, hxty, ap1, g1, hpp, hy1, hb, hG, hT3, m0, mt0, m3, mt3, ap2, hy2, n0, q0, q1, q4, q11, List.getElem?_cons_zero, go_sem, V.s.injEq, Value.bool.injEq, ↓reduceIte, Nat.reduceEqDiff, Nat.reduceBEq, Nat.reduceAdd, Nat.reduceSub, Nat.reduceLT, Nat.reduceLeDiff, Int.reduceLT, Int.reduceLE, Int.reduceEq, Int.reduceToNat, List.append_assoc, List.length_append, Vm.get_app, Vm.set_app, Vm.get_appL, Vm.get_appL0, Vm.set_appL, Vm.set_appL0, Nat.le_refl, Nat.le_add_right, okAt])
        · rw [if_neg cn]
          obtain ⟨j, v, j0, rfl, j2, j3⟩ : ∃ (j : Nat) (v : Vault), j < pl.length ∧ K = (j : Int) ∧ pl[j]? = some v ∧ v.iD = q.iD := by
            rcases hspec with ⟨h, _⟩ | h
            · omega
            · exact h
          rw [Int.toNat_natCast]
          rcases xr1 with ⟨_, e1⟩ | ⟨rfl, hr1⟩
          · have : pl = [] := by simpa using e1
            subst this; simp at j0
          rw [List.nil_append] at hr1
          simp only [List.nil_append, List.length_map] at ap1 hy1
          have j0' : (j : Int) < (pl.length : Int) := by omega
          have j1' : (0 : Int) ≤ (j : Int) := by omega
          obtain rfl := hkj j v rfl j2
          have j1' : (0 : Int) ≤ (j : Int) := by omega
          have cn' : ¬ (j : Int) < 0 := by omega
          have hve : (pl.map Vault.enc)[j]? = some v0.enc := by rw [List.getElem?_map, j2]; rfl
          have hia := fun cf base t => (sx t).o_ias (cf := cf) (base := base) (k := .i64) (i := j) (by simpa using j0)
          have hlo := fun cf base t => (sx t).o_ld (cf := cf) (base := base) hve rfl
          simp only [Vault.enc_F] at hlo
          obtain ⟨G, hG⟩ : ∃ G : Hp, H1.set p (.cells (some 96) [.st 96 [.ref k1 [] (some 74) 0 pl.length pl.length]]) = G := ⟨_, rfl⟩
          have hGl : G.length = H1.length := by rw [← hG]; simp
          have m0 := hpp (.cells (some 96) [.st 96 [.ref k1 [] (some 74) 0 pl.length pl.length]])
          have m1 := hl1 (.cells (some 96) [.st 96 [.ref k1 [] (some 74) 0 pl.length pl.length]])
          have m4 := hl4 (.cells (some 96) [.st 96 [.ref k1 [] (some 74) 0 pl.length pl.length]])
          have m3 := hl3 (.cells (some 96) [.st 96 [.ref k1 [] (some 74) 0 pl.length pl.length]])
          have mk : (H1.set p (.cells (some 96) [.st 96 [.ref k1 [] (some 74) 0 pl.length pl.length]]))[k1]? = some (.cells (some 74) (pl.map Vault.enc)) := by rw [List.getElem?_set_ne (by omega)]; exact hr1
          rw [hG] at m0 m1 m3 m4 mk
          have hml : (pl.map Vault.enc).length = pl.length := List.length_map ..
          have hme : (pl.map Vault.enc)[j]? = some v0.enc := by rw [List.getElem?_map, j2]; rfl
          have hms : (pl.map Vault.enc).set j (d1.encF false) = (pl.set j d1).map Vault.enc := by rw [List.map_set]; rfl
          have hbk : ∀ c : Bool, (decide (b ≤ k1) || c) = true := fun c => by
            have : b ≤ k1 := by omega
            simp [this]
          have q1 : ∀ c : Blk, (G.set k1 c)[h.length + 1]? = some (Blk.cells (some 39) [zeroR.enc]) := fun c => by rw [List.getElem?_set_ne (by omega)]; exact m1
          have q4 : ∀ c : Blk, (G.set k1 c)[h.length + 4]? = some (Blk.cells (some 39) [d2.enc]) := fun c => by rw [List.getElem?_set_ne (by omega)]; exact m4
          have q11 : ∀ c d : Blk, ((G.set k1 c).set (h.length + 1) d)[h.length + 1]? = some d := fun c d => set_get (q1 c)
          suffices hh : ∃ w h', run fns pr b 47 [.ptr p [0] 1, q.encF f] h = some (w, h') ∧ w = d2.enc ∧ h' = (G.set k1 (.cells (some 74) ((pl.set j d1).map Vault.enc))).set (h.length + 1) (.cells (some 39) [d2.enc]) by
            obtain ⟨w, h', e, rfl, rfl⟩ := hh
            have fG : Fw [p] h G := by rw [← hG]; exact (f1.mono (by simp)).trans (Fw.set (by simp) g1)
            refine ⟨_, _, e, k1, rfl, ⟨_, by rw [List.getElem?_set_ne (by omega), List.getElem?_set_ne (by omega)]; exact m0, .inr ⟨by simp, by rw [List.getElem?_set_ne (by omega)]; exact set_get mk⟩, by omega, fun h => by simp at h; subst h; simp at j0⟩, (fG.set_new (by omega) _).set_new (by omega) _, .inr (by omega)⟩
          generalize hM : pl.map Vault.enc = M at *
          generalize (pl.set j d1).map Vault.enc = M' at *
          refine Vm.runQ (nt := 120) rfl fit47 (by simp) ?_
          simp only [Request.encF] at hrq hlp5 hdo ap1 hT hl0 ⊢
          have hvb : (0 : Nat) = 0 := rfl
          try simp only [B47 , hrq, hq, gr, go_sem, V.s.injEq, Value.bool.injEq, ↓reduceIte, Nat.reduceEqDiff, Nat.reduceBEq, Nat.reduceAdd, Nat.reduceSub, Nat.reduceLT, Nat.reduceLeDiff, Int.reduceLT, Int.reduceLE, Int.reduceEq, Int.reduceToNat, List.append_assoc, List.length_append, Vm.get_app, Vm.set_app, Vm.get_appL, Vm.get_appL0, Vm.set_appL, Vm.set_appL0, Nat.le_refl, Nat.le_add_right, okAt]
          repeat' (
            first | refine wpC_cases ?_ ?_ | refine wpU_casesT ?_ ?_ | refine wpU_casesF ?_ ?_
            all_goals intro hvc
            all_goals first | replace hvc := not_of_true hvc | replace hvc := not_of_false hvc | skip
            all_goals first | subst hvc | replace hvb := And.intro hvc hvb
            all_goals try simp only [hvb, B47 , hrq, hq, gr, go_sem, V.s.injEq, Value.bool.injEq, ↓reduceIte, Nat.reduceEqDiff, Nat.reduceBEq, Nat.reduceAdd, Nat.reduceSub, Nat.reduceLT, Nat.reduceLeDiff, Int.reduceLT, Int.reduceLE, Int.reduceEq, Int.reduceToNat, List.append_assoc, List.length_append, Vm.get_app, Vm.set_app, Vm.get_appL, Vm.get_appL0, Vm.set_appL, Vm.set_appL0, Nat.le_refl, Nat.le_add_right, okAt])
          refine hlp5 _ _ _ (by rfl) (by rfl) (by rfl) (by rfl) (by rfl) (by rfl) ?_
          rintro e e0 e3 e4 e5 e6
          have hvb : (0 : Nat) = 0 := rfl
          try simp only [B47R0 , B47J0 , e0, e3, e4, e5, e6, hgp, hty, hlx, gr, cn', hia, hlo, zeroV_e, hdo, cn, encF_tyV, encF_soV, enc_tyR, enc_soR, hT, hpT, hxty, ap1, g1, hpp, hy1, hb, hG, m0, m3, mk, hml, hme, hms, hbk, j0, j0', j1', q1, q4, q11, enc_tyV, enc_soV, List.getElem?_cons_zero, go_sem, V.s.injEq, Value.bool.injEq, ↓reduceIte, Nat.reduceEqDiff, Nat.reduceBEq, Nat.reduceAdd, Nat.reduceSub, Nat.reduceLT, Nat.reduceLeDiff, Int.reduceLT, Int.reduceLE, Int.reduceEq, Int.reduceToNat, List.append_assoc, List.length_append, Vm.get_app, Vm.set_app, Vm.get_appL, Vm.get_appL0, Vm.set_appL, Vm.set_appL0, Nat.le_refl, Nat.le_add_right, okAt]
          repeat' (
            first | refine wpC_cases ?_ ?_ | refine wpU_casesT ?_ ?_ | refine wpU_casesF ?_ ?_
            all_goals intro hvc
            all_goals first | replace hvc := not_of_true hvc | replace hvc := not_of_false hvc | skip
            all_goals first | subst hvc | replace hvb := And.intro hvc hvb
            all_goals try simp only [hvb, B47R0 , B47J0 , e0, e3, e4, e5, e6, hgp, hty, hlx, gr, cn', hia, hlo, zeroV_e, hdo, cn, encF_tyV, encF_soV, enc_tyR, enc_soR, hT, hpT, hxty, ap1, g1, hpp, hy1, hb, hG, m0, m3, mk, hml, hme, hms, hbk, j0, j0', j1', q1, q4, q11, enc_tyV, enc_soV, List.getElem?_cons_zero, go_sem, V.s.injEq, Value.bool.injEq, ↓reduceIte, Nat.reduceEqDiff, Nat.reduceBEq, Nat.reduceAdd, Nat.reduceSub, Nat.reduceLT, Nat.reduceLeDiff, Int.reduceLT, Int.reduceLE, Int.reduceEq, Int.reduceToNat, List.append_assoc, List.length_append, Vm.get_app, Vm.set_app, Vm.get_appL, Vm.get_appL0, Vm.set_appL, Vm.set_appL0, Nat.le_refl, Nat.le_add_right, okAt])
end Go.Proofs.Ytkkncdokkdamcaa
