/- IdealPlays, IdealNumbers: maps against the document's. Conditions: none. -/
import Derived.Test.YtkkncdokkdamcaaCS23c
namespace Go.Proofs.Ytkkncdokkdamcaa
open Go Go.Vm Go.Proofs Go.Cl
set_option linter.unusedSimpArgs false
set_option linter.unusedVariables false
set_option maxRecDepth 100000
theorem Rel.right {ls : Nat → List Vault} {pl : List Vault} (r : Rel ls pl) : ∀ v ∈ pl, rightV v = true ∧ v.iD.length = 4 := fun v hv => by
  have := (r.mem _ (shardOf_lt v.iD) v).2 ⟨hv, rfl⟩
  exact ⟨((r.ok _ (shardOf_lt _)).2.2 v this).1, ((r.ok _ (shardOf_lt _)).2.2 v this).2.2⟩
theorem Rel.at {ls : Nat → List Vault} {pl : List Vault} (r : Rel ls pl) (id : Bs) : (getT (ls (shardOf id)) id).getD zeroV = atK pl (lastI pl id pl.length) ∧ ((getT (ls (shardOf id)) id).isSome = decide (0 ≤ lastI pl id pl.length)) := by
  rcases r.get id with ⟨h1, h2⟩ | ⟨j, v, h1, h2, h3, h4⟩
  · rw [h1, h2, atK_neg _ (by omega)]; exact ⟨rfl, rfl⟩
  · rw [h1, h4, atK_nat h2]; exact ⟨rfl, by simp⟩
theorem play_ok (b : Nat) (h : Hp) (A B : V) (l : List Q) (raw : List Request) (most : Nat) (sA : SR h A (some 35) (l.map Q.enc)) (sB : SR h B (some 32) (raw.map Request.enc)) (hm : most ≤ 1000) (hl : l.length ≤ 140737488351232) (hb : ∀ x ∈ l, x.wf) (hr : raw.length ≤ 140737488351232) (hrb : ∀ x ∈ raw, x.wf) :
    run fns pr b 18 [A, B, .s (.int .i64 (most : Nat))] h = some (.s (.bool true), h) := by
  refine Vm.runP (nt := 119) rfl fit18 (by simp) ?_
  obtain ⟨v0, H0, e0', F0, rfl, m0, f0, hF0⟩ := INew_ok h.length h (Nat.le_refl _)
  have hvb : (0 : Nat) = 0 := rfl
  try simp only [B18, B18R0, B18L0, e0', go_sem, V.s.injEq, Value.bool.injEq, ↓reduceIte, Nat.reduceEqDiff, Nat.reduceBEq, Nat.reduceAdd, Nat.reduceSub, Nat.reduceLT, Nat.reduceLeDiff, Int.reduceLT, Int.reduceLE, Int.reduceEq, Int.reduceToNat, List.append_assoc, List.length_append, Vm.get_app, Vm.set_app, Vm.get_appL, Vm.get_appL0, Vm.set_appL, Vm.set_appL0, Nat.le_refl, Nat.le_add_right, okAt]
  repeat' (
    first | refine wpC_cases ?_ ?_ | refine wpU_casesT ?_ ?_ | refine wpU_casesF ?_ ?_
    all_goals intro hvc
    all_goals first | replace hvc := not_of_true hvc | replace hvc := not_of_false hvc | skip
    all_goals first | subst hvc | replace hvb := And.intro hvc hvb
    all_goals try simp only [hvb, B18, B18R0, B18L0, e0', go_sem, V.s.injEq, Value.bool.injEq, ↓reduceIte, Nat.reduceEqDiff, Nat.reduceBEq, Nat.reduceAdd, Nat.reduceSub, Nat.reduceLT, Nat.reduceLeDiff, Int.reduceLT, Int.reduceLE, Int.reduceEq, Int.reduceToNat, List.append_assoc, List.length_append, Vm.get_app, Vm.set_app, Vm.get_appL, Vm.get_appL0, Vm.set_appL, Vm.set_appL0, Nat.le_refl, Nat.le_add_right, okAt])
  have lA := fun cf base H => sA.o_len (cf := cf) (base := base) (h := H)
  have lB := fun cf base H => sB.o_len (cf := cf) (base := base) (h := H)
  simp only [List.length_map] at lA lB
  have hfl := m0.lt
  refine wp_for (fun n e H => ∃ i ls pl F p k, n = l.length - i ∧ i ≤ l.length ∧ e 9 = .s (.int .i64 (i : Nat)) ∧ e 0 = A ∧ e 1 = B ∧ e 2 = .s (.int .i64 (most : Nat)) ∧ e 7 = .ptr h.length [0] 1 ∧ e 8 = .ptr p [0] 1 ∧ MR H h.length ls F ∧ PR H p k pl ∧ Rel ls pl ∧ Fw [] h H ∧ (∀ j ∈ F, h.length ≤ j) ∧ h.length ≤ p ∧ (p ∉ F ∧ k ∉ F))
    (fun e H => e 7 = .ptr h.length [0] 1 ∧ Fw [] h H)
    l.length _ _ ⟨0, _, [], F0, H0.length, H0.length + 1, rfl, by omega, rfl, rfl, rfl, rfl, rfl, rfl, m0.app _, ⟨_, get_app0 _ _, XR.nil _ _ _, by omega, fun _ => rfl⟩, Rel.nil, f0.trans (Fw.app _ _ _), hF0, f0.len, fun h => by have := hfl _ h; omega, fun h => by have := hfl _ h; omega⟩ ?_ ?_
  · rintro n e H ⟨i, ls, pl, F, p, k, rfl, hi, e9, e0, e1, e2, e7, e8, mr, pr1, rel, fw, hF, hpn, hpF⟩
    by_cases c1 : i < l.length
    case neg =>
      have c' : ¬ (i : Int) < l.length := by omega
      have hvb : (0 : Nat) = 0 := rfl
      try simp only [e9, e0, e1, e2, e7, e8, lA, c', go_sem, V.s.injEq, Value.bool.injEq, ↓reduceIte, Nat.reduceEqDiff, Nat.reduceBEq, Nat.reduceAdd, Nat.reduceSub, Nat.reduceLT, Nat.reduceLeDiff, Int.reduceLT, Int.reduceLE, Int.reduceEq, Int.reduceToNat, List.append_assoc, List.length_append, Vm.get_app, Vm.set_app, Vm.get_appL, Vm.get_appL0, Vm.set_appL, Vm.set_appL0, Nat.le_refl, Nat.le_add_right, okAt]
      repeat' (
        first | refine wpC_cases ?_ ?_ | refine wpU_casesT ?_ ?_ | refine wpU_casesF ?_ ?_
        all_goals intro hvc
        all_goals first | replace hvc := not_of_true hvc | replace hvc := not_of_false hvc | skip
        all_goals first | subst hvc | replace hvb := And.intro hvc hvb
        all_goals try simp only [hvb, e9, e0, e1, e2, e7, e8, lA, c', go_sem, V.s.injEq, Value.bool.injEq, ↓reduceIte, Nat.reduceEqDiff, Nat.reduceBEq, Nat.reduceAdd, Nat.reduceSub, Nat.reduceLT, Nat.reduceLeDiff, Int.reduceLT, Int.reduceLE, Int.reduceEq, Int.reduceToNat, List.append_assoc, List.length_append, Vm.get_app, Vm.set_app, Vm.get_appL, Vm.get_appL0, Vm.set_appL, Vm.set_appL0, Nat.le_refl, Nat.le_add_right, okAt])
      all_goals exact fw
    have c1' : (i : Int) < l.length := by omega
    by_cases c2 : i < most
    case neg =>
      have c' : ¬ (i : Int) < (most : Int) := by omega
      have hvb : (0 : Nat) = 0 := rfl
      try simp only [e9, e0, e1, e2, e7, e8, lA, c1', c', go_sem, V.s.injEq, Value.bool.injEq, ↓reduceIte, Nat.reduceEqDiff, Nat.reduceBEq, Nat.reduceAdd, Nat.reduceSub, Nat.reduceLT, Nat.reduceLeDiff, Int.reduceLT, Int.reduceLE, Int.reduceEq, Int.reduceToNat, List.append_assoc, List.length_append, Vm.get_app, Vm.set_app, Vm.get_appL, Vm.get_appL0, Vm.set_appL, Vm.set_appL0, Nat.le_refl, Nat.le_add_right, okAt]
      repeat' (
        first | refine wpC_cases ?_ ?_ | refine wpU_casesT ?_ ?_ | refine wpU_casesF ?_ ?_
        all_goals intro hvc
        all_goals first | replace hvc := not_of_true hvc | replace hvc := not_of_false hvc | skip
        all_goals first | subst hvc | replace hvb := And.intro hvc hvb
        all_goals try simp only [hvb, e9, e0, e1, e2, e7, e8, lA, c1', c', go_sem, V.s.injEq, Value.bool.injEq, ↓reduceIte, Nat.reduceEqDiff, Nat.reduceBEq, Nat.reduceAdd, Nat.reduceSub, Nat.reduceLT, Nat.reduceLeDiff, Int.reduceLT, Int.reduceLE, Int.reduceEq, Int.reduceToNat, List.append_assoc, List.length_append, Vm.get_app, Vm.set_app, Vm.get_appL, Vm.get_appL0, Vm.set_appL, Vm.set_appL0, Nat.le_refl, Nat.le_add_right, okAt])
      all_goals exact fw
    have c2' : (i : Int) < (most : Int) := by omega
    have hx := hb _ (List.getElem_mem c1)
    have hia := fun cf base => (sA.fw fw).o_ias (cf := cf) (base := base) (k := .i64) (i := i) (by simpa using c1)
    have hlo := fun cf base => (sA.fw fw).o_ld (cf := cf) (base := base) (i := i) (v := Q.enc l[i]) (by simp [c1]) rfl
    have hrq := Request_ok h.length H l[i] hx
    have hrm : ∀ cf base h, opV cf base h (.bin .num .rem) [.s (.int .i64 i), .s (.int .i64 7)] = some (.s (.int .i64 ((i % 7 : Nat) : Int)), h) := fun cf base h => by
      rw [o_rem cf base h .i64 _ 7 (by omega), Int.tmod_eq_emod_of_nonneg (by omega)]; rfl
    have hqo : ∀ cf base h, opV cf base h (.bin .num .quo) [.s (.int .i64 i), .s (.int .i64 7)] = some (.s (.int .i64 ((i / 7 : Nat) : Int)), h) := fun cf base h => by
      rw [o_quo cf base h .i64 _ 7 (by omega), Int.tdiv_eq_ediv_of_nonneg (by omega), wrap_i64 (by omega) (by omega)]; rfl
    have gr : ∀ k, decide (h.length ≤ H.length + k) = true := fun k => decide_eq_true (Nat.le_trans fw.len (Nat.le_add_right _ _))
    have gr0 := gr 0
    rw [Nat.add_zero] at gr0
    by_cases c6 : i % 7 = 6
    · have c6' : ((i % 7 : Nat) : Int) = 6 := by omega
      by_cases c7 : i / 7 < raw.length
      · have c7' : ((i / 7 : Nat) : Int) < raw.length := by omega
        have hib := fun cf base t => (sB.fw (fw.trans (Fw.app _ H t))).o_ias (cf := cf) (base := base) (k := .i64) (i := i / 7) (by simpa using c7)
        have hlb := fun cf base t => (sB.fw (fw.trans (Fw.app _ H t))).o_ld (cf := cf) (base := base) (i := i / 7) (v := Request.enc raw[i / 7]) (by simp [c7]) rfl
        have hq4 : (raw[i / 7]).iD.length = 4 := (hrb _ (List.getElem_mem c7)).iD
        obtain ⟨q, hq⟩ : ∃ q, raw[i / 7] = q := ⟨_, rfl⟩
        rw [hq] at hlb hq4
        obtain ⟨HA, hHA⟩ : ∃ HA : Hp, H ++ [Blk.cells (some 32) [q.encF false]] = HA := ⟨_, rfl⟩
        have hvb : (0 : Nat) = 0 := rfl
        try simp only [e9, e0, e1, e2, e7, e8, lA, lB, c1', c2', hia, hlo, hrq, hrm, hqo, c6', c7', hib, hlb, gr, gr0, Request.enc_F, encF_tyQ, encF_soQ, hHA, go_sem, V.s.injEq, Value.bool.injEq, ↓reduceIte, Nat.reduceEqDiff, Nat.reduceBEq, Nat.reduceAdd, Nat.reduceSub, Nat.reduceLT, Nat.reduceLeDiff, Int.reduceLT, Int.reduceLE, Int.reduceEq, Int.reduceToNat, List.append_assoc, List.length_append, Vm.get_app, Vm.set_app, Vm.get_appL, Vm.get_appL0, Vm.set_appL, Vm.set_appL0, Nat.le_refl, Nat.le_add_right, okAt]
        repeat' (
          first | refine wpC_cases ?_ ?_ | refine wpU_casesT ?_ ?_ | refine wpU_casesF ?_ ?_
          all_goals intro hvc
          all_goals first | replace hvc := not_of_true hvc | replace hvc := not_of_false hvc | skip
          all_goals first | subst hvc | replace hvb := And.intro hvc hvb
          all_goals try simp only [hvb, e9, e0, e1, e2, e7, e8, lA, lB, c1', c2', hia, hlo, hrq, hrm, hqo, c6', c7', hib, hlb, gr, gr0, Request.enc_F, encF_tyQ, encF_soQ, hHA, go_sem, V.s.injEq, Value.bool.injEq, ↓reduceIte, Nat.reduceEqDiff, Nat.reduceBEq, Nat.reduceAdd, Nat.reduceSub, Nat.reduceLT, Nat.reduceLeDiff, Int.reduceLT, Int.reduceLE, Int.reduceEq, Int.reduceToNat, List.append_assoc, List.length_append, Vm.get_app, Vm.set_app, Vm.get_appL, Vm.get_appL0, Vm.set_appL, Vm.set_appL0, Nat.le_refl, Nat.le_add_right, okAt])
        have hqb : HA[H.length]? = some (Blk.cells (some 32) [q.encF false]) := by rw [← hHA]; exact get_app0 _ _
        have fA : Fw [] H HA := by rw [← hHA]; exact Fw.app _ _ _
        have hlA : HA.length = H.length + 1 := by rw [← hHA]; simp
        clear hHA
        have mA := mr.mono fA (by simp)
        have pA := pr1.mono fA (by simp) (by simp)
        have mlt := mr.lt
        obtain ⟨vc, HB, ec, Fc, rfl, mc, fB, hFc⟩ := ICopy_ok h.length HA h.length ls F (by have := fw.len; have := fA.len; omega) mA rel.ok
        have mB := mA.mono fB (by simp)
        have pB := pA.mono fB (by simp) (by simp)
        have hqb1 := fB.old _ _ hqb (by simp)
        obtain ⟨v1, HC, d1, F1, rfl, m1, fC, hF1⟩ := IDo_ok h.length HB h.length ls F q false hF mB rel.ok (by omega)
        have pC := pB.mono fC hpF.1 hpF.2
        have hqb2 := fC.old _ _ hqb1 (fun hj => by have := mlt _ hj; omega)
        have mcC := mc.mono fC (fun j hj hj' => by have := hFc j hj; have := mlt j hj'; omega)
        have hrt := rel.right
        have rl := rel.len
        have plt : p < H.length ∧ (k < H.length ∨ pl = []) := by
          obtain ⟨x, a1, a2, a3, _⟩ := pr1
          refine ⟨lt_of_get a1, ?_⟩
          rcases a2 with ⟨_, e⟩ | ⟨_, e⟩
          · exact .inr (by simpa using e)
          · exact .inl (lt_of_get e)
        obtain ⟨v2, HD, d2, k2, rfl, p2, fD, hk2⟩ := PDo_ok h.length HC p k pl q false hpn pC (by omega) (by omega) (fun v hv => by rw [(hrt v hv).2]; omega) (fun v hv => (hrt v hv).1)
        obtain ⟨rel2, hrep⟩ := rel.do q hq4
        rw [← hrep] at d2
        have lB := fB.len
        have lC := fC.len
        have lD := fD.len
        have m2 := m1.mono fD (fun j hj hj' => by
          simp at hj'
          rcases hF1 j hj with h' | h'
          · exact hpF.1 (hj' ▸ h')
          · omega)
        have mcD := mcC.mono fD (fun j hj hj' => by
          simp at hj'
          have := hFc j hj; omega)
        have hqb3 := fD.old _ _ hqb2 (by simp; omega)
        have hig := fun t => IGet_ok h.length (HD ++ t) h.length _ F1 q.iD (m2.app t) rel2.ok (by omega)
        have rl2 := rel2.len
        have hrt2 := rel2.right
        have hpg := fun t => PGet_ok h.length (HD ++ t) p k2 _ q.iD (p2.mono (Fw.app [] HD t) (by simp) (by simp)) (by omega) (by omega) (fun v hv => by rw [(hrt2 v hv).2]; omega)
        have hat := rel2.at q.iD
        have hal := fun t => IAll_ok h.length (HD ++ t) h.length _ F1 (m2.app t) rel2.ok
        have hpa := fun t => PAll_ok h.length (HD ++ t) p k2 _ (p2.mono (Fw.app [] HD t) (by simp) (by simp)) (by omega) (fun v hv => by rw [(hrt2 v hv).2]; omega)
        have hca := fun t => IAll_ok h.length (HD ++ t) HA.length _ Fc (mcD.app t) rel.ok
        rw [rel2.all] at hal
        rw [rel.all] at hca
        have hla := (allA_spec rel2.nd _ (Nat.le_refl _)).2.2
        have hlc := (allA_spec rel.nd _ (Nat.le_refl _)).2.2
        have hle : pl.length ≤ (plainDo pl q).2.length := by
          unfold plainDo
          simp only
          split
          · exact Nat.le_refl _
          · split
            · exact Nat.le_refl _
            · split
              · exact Nat.le_refl _
              · split <;> simp
        have hp2 := p2
        obtain ⟨x2, px, py, pz, _⟩ := hp2
        have hxl := fun cf base h0 => py.SR.o_len (cf := cf) (base := base) (h := h0)
        have hxt := py.ty
        have pxt := fun t => get_old px t
        have hrp := fun h0 r => RReplies_ok h.length h0 false false r r
        have hsm := fun h0 v => rSame_ok h.length h0 false false v v
        have hvs := fun h0 (l : List Vault) (hl : l.length ≤ 1000) => Vaults_ok h.length h0 (.imm false (some 74) (l.map Vault.enc)) (.imm false (some 74) (l.map Vault.enc)) l l (.inl ⟨_, rfl⟩) (.inl ⟨_, rfl⟩) hl
        simp only [decide_true] at hrp hsm hvs
        have fD' : Fw [] h HD := ((((fw.trans fA).trans fB).new fC (fun j hj => .inl (hF j hj))).new fD (by simp; exact hpn))
        have hF1' : ∀ j ∈ F1, h.length ≤ j := fun j hj => (hF1 j hj).elim (hF j) fun h' => by have := fw.len; omega
        obtain ⟨k3, p3, hpF1⟩ : ∃ k3, PR HD p k3 (plainDo pl q).2 ∧ (p ∉ F1 ∧ k3 ∉ F1) := by
          have hpF1 : p ∉ F1 := fun hj => by
            rcases hF1 _ hj with h' | h'
            · exact hpF.1 h'
            · omega
          by_cases he : (plainDo pl q).2 = []
          · obtain ⟨x3, qx, qy, qz, qe⟩ := p2
            exact ⟨HD.length + p + 1, ⟨x3, qx, .inl ⟨qe he, by rw [he]; rfl⟩, by omega, qe⟩, hpF1, fun hj => by have := m2.lt _ hj; omega⟩
          · refine ⟨k2, p2, hpF1, fun hj => ?_⟩
            have h9 := m1.lt _ hj
            rcases hk2 with ⟨rfl, he2⟩ | h'
            · rcases hF1 _ hj with h' | h'
              · exact hpF.2 h'
              · rcases plt.2 with h'' | h''
                · omega
                · rw [he2] at he; exact he h''
            · omega
        simp only [hat.1, hat.2] at hig
        simp only [Request.encF] at d1 d2 hqb hqb1 hqb2 hqb3
        have hqt := fun t => get_old hqb3 t
        have gD : ∀ k, decide (h.length ≤ HD.length + k) = true := fun k => decide_eq_true (Nat.le_trans fD'.len (Nat.le_add_right _ _))
        have gD0 := gD 0
        rw [Nat.add_zero] at gD0
        have hcl : ¬ (((plainDo pl q).2.length : Nat) : Int) < (((allA pl pl.length).length : Nat) : Int) := by omega
        have hfin : ∀ t : Hp, ∃ n, n < l.length - i ∧ ∃ i' ls pl F p' k, n = l.length - i' ∧ i' ≤ l.length ∧ Value.int IntKind.i64 ((i + 1 : Nat) : Int) = Value.int IntKind.i64 (i' : Int) ∧ V.ptr p [0] 1 = V.ptr p' [0] 1 ∧ MR (HD ++ t) h.length ls F ∧ PR (HD ++ t) p' k pl ∧ Rel ls pl ∧ Fw [] h (HD ++ t) ∧ (∀ j ∈ F, h.length ≤ j) ∧ h.length ≤ p' ∧ (p' ∉ F ∧ k ∉ F) :=
          fun t => ⟨l.length - (i + 1), by omega, i + 1, _, _, F1, p, k3, rfl, by omega, rfl, rfl, m2.app t, p3.mono (Fw.app [] HD t) (by simp) (by simp), rel2, fD'.trans (Fw.app _ _ _), hF1', hpn, hpF1⟩
        have hv1 := fun h0 => hvs h0 (allA (plainDo pl q).2 (plainDo pl q).2.length) (by omega)
        have hlen2 : (pl.length : Nat) ≤ 64 := rl
        simp only [List.length_map] at hxl
        generalize (idealDo ls q).1 = rep at *
        generalize (plainDo pl q).2 = pl2 at *
        generalize lastI pl2 q.iD pl2.length = K at *
        generalize atK pl2 K = va at *
        generalize allA pl2 pl2.length = L2 at *
        generalize allA pl pl.length = L1 at *
        have ty1 : ∀ r : Reply, (Reply.encF false r).ty = some 39 := fun r => by rfl
        have so1 : ∀ r : Reply, (Reply.encF false r).solid = true := fun r => by rfl
        have hll : (L1.map Vault.enc).length = L1.length := List.length_map ..
        have hwr : IntKind.i64.wrap ((i : Int) + 1) = ((i + 1 : Nat) : Int) := wrap_small (by omega)
        have hig0 := hig []
        have hpg0 := hpg []
        have hfin0 := hfin []
        simp only [List.append_nil] at hig0 hpg0 hfin0
        by_cases k0 : 0 ≤ K
        · have hvb : (0 : Nat) = 0 := rfl
          try simp only [ec, Request.encF, d1, hqb, hqb1, hqb2, hqb3, d2, e9, e7, e8, e0, e1, e2, hig0, hpg0, hig, hpg, hqt, k0, hal, hpa, hca, hrp, hsm, hv1, pxt, px, hxt, hxl, hcl, gD, gD0, enc_tyV, enc_soV, enc_tyR, enc_soR, Reply.enc_F, Vault.enc_F, encF_tyV, encF_soV, ty1, so1, hwr, go_sem, V.s.injEq, Value.bool.injEq, ↓reduceIte, Nat.reduceEqDiff, Nat.reduceBEq, Nat.reduceAdd, Nat.reduceSub, Nat.reduceLT, Nat.reduceLeDiff, Int.reduceLT, Int.reduceLE, Int.reduceEq, Int.reduceToNat, List.append_assoc, List.length_append, Vm.get_app, Vm.set_app, Vm.get_appL, Vm.get_appL0, Vm.set_appL, Vm.set_appL0, Nat.le_refl, Nat.le_add_right, okAt]
          repeat' (
            first | refine wpC_cases ?_ ?_ | refine wpU_casesT ?_ ?_ | refine wpU_casesF ?_ ?_
            all_goals intro hvc
            all_goals first | replace hvc := not_of_true hvc | replace hvc := not_of_false hvc | skip
            all_goals first | subst hvc | replace hvb := And.intro hvc hvb
            all_goals try simp only [hvb, ec, Request.encF, d1, hqb, hqb1, hqb2, hqb3, d2, e9, e7, e8, e0, e1, e2, hig0, hpg0, hig, hpg, hqt, k0, hal, hpa, hca, hrp, hsm, hv1, pxt, px, hxt, hxl, hcl, gD, gD0, enc_tyV, enc_soV, enc_tyR, enc_soR, Reply.enc_F, Vault.enc_F, encF_tyV, encF_soV, ty1, so1, hwr, go_sem, V.s.injEq, Value.bool.injEq, ↓reduceIte, Nat.reduceEqDiff, Nat.reduceBEq, Nat.reduceAdd, Nat.reduceSub, Nat.reduceLT, Nat.reduceLeDiff, Int.reduceLT, Int.reduceLE, Int.reduceEq, Int.reduceToNat, List.append_assoc, List.length_append, Vm.get_app, Vm.set_app, Vm.get_appL, Vm.get_appL0, Vm.set_appL, Vm.set_appL0, Nat.le_refl, Nat.le_add_right, okAt])
          all_goals exact hfin _
        · have hvb : (0 : Nat) = 0 := rfl
          try simp only [ec, Request.encF, d1, hqb, hqb1, hqb2, hqb3, d2, e9, e7, e8, e0, e1, e2, hig0, hpg0, hig, hpg, hqt, k0, hal, hpa, hca, hrp, hsm, hv1, pxt, px, hxt, hxl, hcl, gD, gD0, enc_tyV, enc_soV, enc_tyR, enc_soR, Reply.enc_F, Vault.enc_F, encF_tyV, encF_soV, ty1, so1, hwr, go_sem, V.s.injEq, Value.bool.injEq, ↓reduceIte, Nat.reduceEqDiff, Nat.reduceBEq, Nat.reduceAdd, Nat.reduceSub, Nat.reduceLT, Nat.reduceLeDiff, Int.reduceLT, Int.reduceLE, Int.reduceEq, Int.reduceToNat, List.append_assoc, List.length_append, Vm.get_app, Vm.set_app, Vm.get_appL, Vm.get_appL0, Vm.set_appL, Vm.set_appL0, Nat.le_refl, Nat.le_add_right, okAt]
          repeat' (
            first | refine wpC_cases ?_ ?_ | refine wpU_casesT ?_ ?_ | refine wpU_casesF ?_ ?_
            all_goals intro hvc
            all_goals first | replace hvc := not_of_true hvc | replace hvc := not_of_false hvc | skip
            all_goals first | subst hvc | replace hvb := And.intro hvc hvb
            all_goals try simp only [hvb, ec, Request.encF, d1, hqb, hqb1, hqb2, hqb3, d2, e9, e7, e8, e0, e1, e2, hig0, hpg0, hig, hpg, hqt, k0, hal, hpa, hca, hrp, hsm, hv1, pxt, px, hxt, hxl, hcl, gD, gD0, enc_tyV, enc_soV, enc_tyR, enc_soR, Reply.enc_F, Vault.enc_F, encF_tyV, encF_soV, ty1, so1, hwr, go_sem, V.s.injEq, Value.bool.injEq, ↓reduceIte, Nat.reduceEqDiff, Nat.reduceBEq, Nat.reduceAdd, Nat.reduceSub, Nat.reduceLT, Nat.reduceLeDiff, Int.reduceLT, Int.reduceLE, Int.reduceEq, Int.reduceToNat, List.append_assoc, List.length_append, Vm.get_app, Vm.set_app, Vm.get_appL, Vm.get_appL0, Vm.set_appL, Vm.set_appL0, Nat.le_refl, Nat.le_add_right, okAt])
          all_goals exact hfin _
      · have c7' : ¬ ((i / 7 : Nat) : Int) < raw.length := by omega
        have hq4 := keepQ_id l[i]
        obtain ⟨q, hq⟩ : ∃ q, keepQ l[i] = q := ⟨_, rfl⟩
        rw [hq] at hrq hq4
        obtain ⟨HA, hHA⟩ : ∃ HA : Hp, H ++ [Blk.cells (some 32) [q.encF false]] = HA := ⟨_, rfl⟩
        have hvb : (0 : Nat) = 0 := rfl
        try simp only [e9, e0, e1, e2, e7, e8, lA, lB, c1', c2', hia, hlo, hrq, hrm, hqo, c6', c7', gr, gr0, Request.enc_F, encF_tyQ, encF_soQ, hHA, go_sem, V.s.injEq, Value.bool.injEq, ↓reduceIte, Nat.reduceEqDiff, Nat.reduceBEq, Nat.reduceAdd, Nat.reduceSub, Nat.reduceLT, Nat.reduceLeDiff, Int.reduceLT, Int.reduceLE, Int.reduceEq, Int.reduceToNat, List.append_assoc, List.length_append, Vm.get_app, Vm.set_app, Vm.get_appL, Vm.get_appL0, Vm.set_appL, Vm.set_appL0, Nat.le_refl, Nat.le_add_right, okAt]
        repeat' (
          first | refine wpC_cases ?_ ?_ | refine wpU_casesT ?_ ?_ | refine wpU_casesF ?_ ?_
          all_goals intro hvc
          all_goals first | replace hvc := not_of_true hvc | replace hvc := not_of_false hvc | skip
          all_goals first | subst hvc | replace hvb := And.intro hvc hvb
          all_goals try simp only [hvb, e9, e0, e1, e2, e7, e8, lA, lB, c1', c2', hia, hlo, hrq, hrm, hqo, c6', c7', gr, gr0, Request.enc_F, encF_tyQ, encF_soQ, hHA, go_sem, V.s.injEq, Value.bool.injEq, ↓reduceIte, Nat.reduceEqDiff, Nat.reduceBEq, Nat.reduceAdd, Nat.reduceSub, Nat.reduceLT, Nat.reduceLeDiff, Int.reduceLT, Int.reduceLE, Int.reduceEq, Int.reduceToNat, List.append_assoc, List.length_append, Vm.get_app, Vm.set_app, Vm.get_appL, Vm.get_appL0, Vm.set_appL, Vm.set_appL0, Nat.le_refl, Nat.le_add_right, okAt])
        have hqb : HA[H.length]? = some (Blk.cells (some 32) [q.encF false]) := by rw [← hHA]; exact get_app0 _ _
        have fA : Fw [] H HA := by rw [← hHA]; exact Fw.app _ _ _
        have hlA : HA.length = H.length + 1 := by rw [← hHA]; simp
        clear hHA
        have mA := mr.mono fA (by simp)
        have pA := pr1.mono fA (by simp) (by simp)
        have mlt := mr.lt
        obtain ⟨vc, HB, ec, Fc, rfl, mc, fB, hFc⟩ := ICopy_ok h.length HA h.length ls F (by have := fw.len; have := fA.len; omega) mA rel.ok
        have mB := mA.mono fB (by simp)
        have pB := pA.mono fB (by simp) (by simp)
        have hqb1 := fB.old _ _ hqb (by simp)
        obtain ⟨v1, HC, d1, F1, rfl, m1, fC, hF1⟩ := IDo_ok h.length HB h.length ls F q false hF mB rel.ok (by omega)
        have pC := pB.mono fC hpF.1 hpF.2
        have hqb2 := fC.old _ _ hqb1 (fun hj => by have := mlt _ hj; omega)
        have mcC := mc.mono fC (fun j hj hj' => by have := hFc j hj; have := mlt j hj'; omega)
        have hrt := rel.right
        have rl := rel.len
        have plt : p < H.length ∧ (k < H.length ∨ pl = []) := by
          obtain ⟨x, a1, a2, a3, _⟩ := pr1
          refine ⟨lt_of_get a1, ?_⟩
          rcases a2 with ⟨_, e⟩ | ⟨_, e⟩
          · exact .inr (by simpa using e)
          · exact .inl (lt_of_get e)
        obtain ⟨v2, HD, d2, k2, rfl, p2, fD, hk2⟩ := PDo_ok h.length HC p k pl q false hpn pC (by omega) (by omega) (fun v hv => by rw [(hrt v hv).2]; omega) (fun v hv => (hrt v hv).1)
        obtain ⟨rel2, hrep⟩ := rel.do q hq4
        rw [← hrep] at d2
        have lB := fB.len
        have lC := fC.len
        have lD := fD.len
        have m2 := m1.mono fD (fun j hj hj' => by
          simp at hj'
          rcases hF1 j hj with h' | h'
          · exact hpF.1 (hj' ▸ h')
          · omega)
        have mcD := mcC.mono fD (fun j hj hj' => by
          simp at hj'
          have := hFc j hj; omega)
        have hqb3 := fD.old _ _ hqb2 (by simp; omega)
        have hig := fun t => IGet_ok h.length (HD ++ t) h.length _ F1 q.iD (m2.app t) rel2.ok (by omega)
        have rl2 := rel2.len
        have hrt2 := rel2.right
        have hpg := fun t => PGet_ok h.length (HD ++ t) p k2 _ q.iD (p2.mono (Fw.app [] HD t) (by simp) (by simp)) (by omega) (by omega) (fun v hv => by rw [(hrt2 v hv).2]; omega)
        have hat := rel2.at q.iD
        have hal := fun t => IAll_ok h.length (HD ++ t) h.length _ F1 (m2.app t) rel2.ok
        have hpa := fun t => PAll_ok h.length (HD ++ t) p k2 _ (p2.mono (Fw.app [] HD t) (by simp) (by simp)) (by omega) (fun v hv => by rw [(hrt2 v hv).2]; omega)
        have hca := fun t => IAll_ok h.length (HD ++ t) HA.length _ Fc (mcD.app t) rel.ok
        rw [rel2.all] at hal
        rw [rel.all] at hca
        have hla := (allA_spec rel2.nd _ (Nat.le_refl _)).2.2
        have hlc := (allA_spec rel.nd _ (Nat.le_refl _)).2.2
        have hle : pl.length ≤ (plainDo pl q).2.length := by
          unfold plainDo
          simp only
          split
          · exact Nat.le_refl _
          · split
            · exact Nat.le_refl _
            · split
              · exact Nat.le_refl _
              · split <;> simp
        have hp2 := p2
        obtain ⟨x2, px, py, pz, _⟩ := hp2
        have hxl := fun cf base h0 => py.SR.o_len (cf := cf) (base := base) (h := h0)
        have hxt := py.ty
        have pxt := fun t => get_old px t
        have hrp := fun h0 r => RReplies_ok h.length h0 false false r r
        have hsm := fun h0 v => rSame_ok h.length h0 false false v v
        have hvs := fun h0 (l : List Vault) (hl : l.length ≤ 1000) => Vaults_ok h.length h0 (.imm false (some 74) (l.map Vault.enc)) (.imm false (some 74) (l.map Vault.enc)) l l (.inl ⟨_, rfl⟩) (.inl ⟨_, rfl⟩) hl
        simp only [decide_true] at hrp hsm hvs
        have fD' : Fw [] h HD := ((((fw.trans fA).trans fB).new fC (fun j hj => .inl (hF j hj))).new fD (by simp; exact hpn))
        have hF1' : ∀ j ∈ F1, h.length ≤ j := fun j hj => (hF1 j hj).elim (hF j) fun h' => by have := fw.len; omega
        obtain ⟨k3, p3, hpF1⟩ : ∃ k3, PR HD p k3 (plainDo pl q).2 ∧ (p ∉ F1 ∧ k3 ∉ F1) := by
          have hpF1 : p ∉ F1 := fun hj => by
            rcases hF1 _ hj with h' | h'
            · exact hpF.1 h'
            · omega
          by_cases he : (plainDo pl q).2 = []
          · obtain ⟨x3, qx, qy, qz, qe⟩ := p2
            exact ⟨HD.length + p + 1, ⟨x3, qx, .inl ⟨qe he, by rw [he]; rfl⟩, by omega, qe⟩, hpF1, fun hj => by have := m2.lt _ hj; omega⟩
          · refine ⟨k2, p2, hpF1, fun hj => ?_⟩
            have h9 := m1.lt _ hj
            rcases hk2 with ⟨rfl, he2⟩ | h'
            · rcases hF1 _ hj with h' | h'
              · exact hpF.2 h'
              · rcases plt.2 with h'' | h''
                · omega
                · rw [he2] at he; exact he h''
            · omega
        simp only [hat.1, hat.2] at hig
        simp only [Request.encF] at d1 d2 hqb hqb1 hqb2 hqb3
        have hqt := fun t => get_old hqb3 t
        have gD : ∀ k, decide (h.length ≤ HD.length + k) = true := fun k => decide_eq_true (Nat.le_trans fD'.len (Nat.le_add_right _ _))
        have gD0 := gD 0
        rw [Nat.add_zero] at gD0
        have hcl : ¬ (((plainDo pl q).2.length : Nat) : Int) < (((allA pl pl.length).length : Nat) : Int) := by omega
        have hfin : ∀ t : Hp, ∃ n, n < l.length - i ∧ ∃ i' ls pl F p' k, n = l.length - i' ∧ i' ≤ l.length ∧ Value.int IntKind.i64 ((i + 1 : Nat) : Int) = Value.int IntKind.i64 (i' : Int) ∧ V.ptr p [0] 1 = V.ptr p' [0] 1 ∧ MR (HD ++ t) h.length ls F ∧ PR (HD ++ t) p' k pl ∧ Rel ls pl ∧ Fw [] h (HD ++ t) ∧ (∀ j ∈ F, h.length ≤ j) ∧ h.length ≤ p' ∧ (p' ∉ F ∧ k ∉ F) :=
          fun t => ⟨l.length - (i + 1), by omega, i + 1, _, _, F1, p, k3, rfl, by omega, rfl, rfl, m2.app t, p3.mono (Fw.app [] HD t) (by simp) (by simp), rel2, fD'.trans (Fw.app _ _ _), hF1', hpn, hpF1⟩
        have hv1 := fun h0 => hvs h0 (allA (plainDo pl q).2 (plainDo pl q).2.length) (by omega)
        have hlen2 : (pl.length : Nat) ≤ 64 := rl
        simp only [List.length_map] at hxl
        generalize (idealDo ls q).1 = rep at *
        generalize (plainDo pl q).2 = pl2 at *
        generalize lastI pl2 q.iD pl2.length = K at *
        generalize atK pl2 K = va at *
        generalize allA pl2 pl2.length = L2 at *
        generalize allA pl pl.length = L1 at *
        have ty1 : ∀ r : Reply, (Reply.encF false r).ty = some 39 := fun r => by rfl
        have so1 : ∀ r : Reply, (Reply.encF false r).solid = true := fun r => by rfl
        have hll : (L1.map Vault.enc).length = L1.length := List.length_map ..
        have hwr : IntKind.i64.wrap ((i : Int) + 1) = ((i + 1 : Nat) : Int) := wrap_small (by omega)
        have hig0 := hig []
        have hpg0 := hpg []
        have hfin0 := hfin []
        simp only [List.append_nil] at hig0 hpg0 hfin0
        by_cases k0 : 0 ≤ K
        · have hvb : (0 : Nat) = 0 := rfl
          try simp only [ec, Request.encF, d1, hqb, hqb1, hqb2, hqb3, d2, e9, e7, e8, e0, e1, e2, hig0, hpg0, hig, hpg, hqt, k0, hal, hpa, hca, hrp, hsm, hv1, pxt, px, hxt, hxl, hcl, gD, gD0, enc_tyV, enc_soV, enc_tyR, enc_soR, Reply.enc_F, Vault.enc_F, encF_tyV, encF_soV, ty1, so1, hwr, go_sem, V.s.injEq, Value.bool.injEq, ↓reduceIte, Nat.reduceEqDiff, Nat.reduceBEq, Nat.reduceAdd, Nat.reduceSub, Nat.reduceLT, Nat.reduceLeDiff, Int.reduceLT, Int.reduceLE, Int.reduceEq, Int.reduceToNat, List.append_assoc, List.length_append, Vm.get_app, Vm.set_app, Vm.get_appL, Vm.get_appL0, Vm.set_appL, Vm.set_appL0, Nat.le_refl, Nat.le_add_right, okAt]
          repeat' (
            first | refine wpC_cases ?_ ?_ | refine wpU_casesT ?_ ?_ | refine wpU_casesF ?_ ?_
            all_goals intro hvc
            all_goals first | replace hvc := not_of_true hvc | replace hvc := not_of_false hvc | skip
            all_goals first | subst hvc | replace hvb := And.intro hvc hvb
            all_goals try simp only [hvb, ec, Request.encF, d1, hqb, hqb1, hqb2, hqb3, d2, e9, e7, e8, e0, e1, e2, hig0, hpg0, hig, hpg, hqt, k0, hal, hpa, hca, hrp, hsm, hv1, pxt, px, hxt, hxl, hcl, gD, gD0, enc_tyV, enc_soV, enc_tyR, enc_soR, Reply.enc_F, Vault.enc_F, encF_tyV, encF_soV, ty1, so1, hwr, go_sem, V.s.injEq, Value.bool.injEq, ↓reduceIte, Nat.reduceEqDiff, Nat.reduceBEq, Nat.reduceAdd, Nat.reduceSub, Nat.reduceLT, Nat.reduceLeDiff, Int.reduceLT, Int.reduceLE, Int.reduceEq, Int.reduceToNat, List.append_assoc, List.length_append, Vm.get_app, Vm.set_app, Vm.get_appL, Vm.get_appL0, Vm.set_appL, Vm.set_appL0, Nat.le_refl, Nat.le_add_right, okAt])
          all_goals exact hfin _
        · have hvb : (0 : Nat) = 0 := rfl
          try simp only [ec, Request.encF, d1, hqb, hqb1, hqb2, hqb3, d2, e9, e7, e8, e0, e1, e2, hig0, hpg0, hig, hpg, hqt, k0, hal, hpa, hca, hrp, hsm, hv1, pxt, px, hxt, hxl, hcl, gD, gD0, enc_tyV, enc_soV, enc_tyR, enc_soR, Reply.enc_F, Vault.enc_F, encF_tyV, encF_soV, ty1, so1, hwr, go_sem, V.s.injEq, Value.bool.injEq, ↓reduceIte, Nat.reduceEqDiff, Nat.reduceBEq, Nat.reduceAdd, Nat.reduceSub, Nat.reduceLT, Nat.reduceLeDiff, Int.reduceLT, Int.reduceLE, Int.reduceEq, Int.reduceToNat, List.append_assoc, List.length_append, Vm.get_app, Vm.set_app, Vm.get_appL, Vm.get_appL0, Vm.set_appL, Vm.set_appL0, Nat.le_refl, Nat.le_add_right, okAt]
          repeat' (
            first | refine wpC_cases ?_ ?_ | refine wpU_casesT ?_ ?_ | refine wpU_casesF ?_ ?_
            all_goals intro hvc
            all_goals first | replace hvc := not_of_true hvc | replace hvc := not_of_false hvc | skip
            all_goals first | subst hvc | replace hvb := And.intro hvc hvb
            all_goals try simp only [hvb, ec, Request.encF, d1, hqb, hqb1, hqb2, hqb3, d2, e9, e7, e8, e0, e1, e2, hig0, hpg0, hig, hpg, hqt, k0, hal, hpa, hca, hrp, hsm, hv1, pxt, px, hxt, hxl, hcl, gD, gD0, enc_tyV, enc_soV, enc_tyR, enc_soR, Reply.enc_F, Vault.enc_F, encF_tyV, encF_soV, ty1, so1, hwr, go_sem, V.s.injEq, Value.bool.injEq, ↓reduceIte, Nat.reduceEqDiff, Nat.reduceBEq, Nat.reduceAdd, Nat.reduceSub, Nat.reduceLT, Nat.reduceLeDiff, Int.reduceLT, Int.reduceLE, Int.reduceEq, Int.reduceToNat, List.append_assoc, List.length_append, Vm.get_app, Vm.set_app, Vm.get_appL, Vm.get_appL0, Vm.set_appL, Vm.set_appL0, Nat.le_refl, Nat.le_add_right, okAt])
          all_goals exact hfin _
    · have c6' : ¬ ((i % 7 : Nat) : Int) = 6 := by omega
      have hq4 := keepQ_id l[i]
      obtain ⟨q, hq⟩ : ∃ q, keepQ l[i] = q := ⟨_, rfl⟩
      rw [hq] at hrq hq4
      obtain ⟨HA, hHA⟩ : ∃ HA : Hp, H ++ [Blk.cells (some 32) [q.encF false]] = HA := ⟨_, rfl⟩
      have hvb : (0 : Nat) = 0 := rfl
      try simp only [e9, e0, e1, e2, e7, e8, lA, lB, c1', c2', hia, hlo, hrq, hrm, hqo, c6', gr, gr0, Request.enc_F, encF_tyQ, encF_soQ, hHA, go_sem, V.s.injEq, Value.bool.injEq, ↓reduceIte, Nat.reduceEqDiff, Nat.reduceBEq, Nat.reduceAdd, Nat.reduceSub, Nat.reduceLT, Nat.reduceLeDiff, Int.reduceLT, Int.reduceLE, Int.reduceEq, Int.reduceToNat, List.append_assoc, List.length_append, Vm.get_app, Vm.set_app, Vm.get_appL, Vm.get_appL0, Vm.set_appL, Vm.set_appL0, Nat.le_refl, Nat.le_add_right, okAt]
      repeat' (
        first | refine wpC_cases ?_ ?_ | refine wpU_casesT ?_ ?_ | refine wpU_casesF ?_ ?_
        all_goals intro hvc
        all_goals first | replace hvc := not_of_true hvc | replace hvc := not_of_false hvc | skip
        all_goals first | subst hvc | replace hvb := And.intro hvc hvb
        all_goals try simp only [hvb, e9, e0, e1, e2, e7, e8, lA, lB, c1', c2', hia, hlo, hrq, hrm, hqo, c6', gr, gr0, Request.enc_F, encF_tyQ, encF_soQ, hHA, go_sem, V.s.injEq, Value.bool.injEq, ↓reduceIte, Nat.reduceEqDiff, Nat.reduceBEq, Nat.reduceAdd, Nat.reduceSub, Nat.reduceLT, Nat.reduceLeDiff, Int.reduceLT, Int.reduceLE, Int.reduceEq, Int.reduceToNat, List.append_assoc, List.length_append, Vm.get_app, Vm.set_app, Vm.get_appL, Vm.get_appL0, Vm.set_appL, Vm.set_appL0, Nat.le_refl, Nat.le_add_right, okAt])
      have hqb : HA[H.length]? = some (Blk.cells (some 32) [q.encF false]) := by rw [← hHA]; exact get_app0 _ _
      have fA : Fw [] H HA := by rw [← hHA]; exact Fw.app _ _ _
      have hlA : HA.length = H.length + 1 := by rw [← hHA]; simp
      clear hHA
      have mA := mr.mono fA (by simp)
      have pA := pr1.mono fA (by simp) (by simp)
      have mlt := mr.lt
      obtain ⟨vc, HB, ec, Fc, rfl, mc, fB, hFc⟩ := ICopy_ok h.length HA h.length ls F (by have := fw.len; have := fA.len; omega) mA rel.ok
      have mB := mA.mono fB (by simp)
      have pB := pA.mono fB (by simp) (by simp)
      have hqb1 := fB.old _ _ hqb (by simp)
      obtain ⟨v1, HC, d1, F1, rfl, m1, fC, hF1⟩ := IDo_ok h.length HB h.length ls F q false hF mB rel.ok (by omega)
      have pC := pB.mono fC hpF.1 hpF.2
      have hqb2 := fC.old _ _ hqb1 (fun hj => by have := mlt _ hj; omega)
      have mcC := mc.mono fC (fun j hj hj' => by have := hFc j hj; have := mlt j hj'; omega)
      have hrt := rel.right
      have rl := rel.len
      have plt : p < H.length ∧ (k < H.length ∨ pl = []) := by
        obtain ⟨x, a1, a2, a3, _⟩ := pr1
        refine ⟨lt_of_get a1, ?_⟩
        rcases a2 with ⟨_, e⟩ | ⟨_, e⟩
        · exact .inr (by simpa using e)
        · exact .inl (lt_of_get e)
      obtain ⟨v2, HD, d2, k2, rfl, p2, fD, hk2⟩ := PDo_ok h.length HC p k pl q false hpn pC (by omega) (by omega) (fun v hv => by rw [(hrt v hv).2]; omega) (fun v hv => (hrt v hv).1)
      obtain ⟨rel2, hrep⟩ := rel.do q hq4
      rw [← hrep] at d2
      have lB := fB.len
      have lC := fC.len
      have lD := fD.len
      have m2 := m1.mono fD (fun j hj hj' => by
        simp at hj'
        rcases hF1 j hj with h' | h'
        · exact hpF.1 (hj' ▸ h')
        · omega)
      have mcD := mcC.mono fD (fun j hj hj' => by
        simp at hj'
        have := hFc j hj; omega)
      have hqb3 := fD.old _ _ hqb2 (by simp; omega)
      have hig := fun t => IGet_ok h.length (HD ++ t) h.length _ F1 q.iD (m2.app t) rel2.ok (by omega)
      have rl2 := rel2.len
      have hrt2 := rel2.right
      have hpg := fun t => PGet_ok h.length (HD ++ t) p k2 _ q.iD (p2.mono (Fw.app [] HD t) (by simp) (by simp)) (by omega) (by omega) (fun v hv => by rw [(hrt2 v hv).2]; omega)
      have hat := rel2.at q.iD
      have hal := fun t => IAll_ok h.length (HD ++ t) h.length _ F1 (m2.app t) rel2.ok
      have hpa := fun t => PAll_ok h.length (HD ++ t) p k2 _ (p2.mono (Fw.app [] HD t) (by simp) (by simp)) (by omega) (fun v hv => by rw [(hrt2 v hv).2]; omega)
      have hca := fun t => IAll_ok h.length (HD ++ t) HA.length _ Fc (mcD.app t) rel.ok
      rw [rel2.all] at hal
      rw [rel.all] at hca
      have hla := (allA_spec rel2.nd _ (Nat.le_refl _)).2.2
      have hlc := (allA_spec rel.nd _ (Nat.le_refl _)).2.2
      have hle : pl.length ≤ (plainDo pl q).2.length := by
        unfold plainDo
        simp only
        split
        · exact Nat.le_refl _
        · split
          · exact Nat.le_refl _
          · split
            · exact Nat.le_refl _
            · split <;> simp
      have hp2 := p2
      obtain ⟨x2, px, py, pz, _⟩ := hp2
      have hxl := fun cf base h0 => py.SR.o_len (cf := cf) (base := base) (h := h0)
      have hxt := py.ty
      have pxt := fun t => get_old px t
      have hrp := fun h0 r => RReplies_ok h.length h0 false false r r
      have hsm := fun h0 v => rSame_ok h.length h0 false false v v
      have hvs := fun h0 (l : List Vault) (hl : l.length ≤ 1000) => Vaults_ok h.length h0 (.imm false (some 74) (l.map Vault.enc)) (.imm false (some 74) (l.map Vault.enc)) l l (.inl ⟨_, rfl⟩) (.inl ⟨_, rfl⟩) hl
      simp only [decide_true] at hrp hsm hvs
      have fD' : Fw [] h HD := ((((fw.trans fA).trans fB).new fC (fun j hj => .inl (hF j hj))).new fD (by simp; exact hpn))
      have hF1' : ∀ j ∈ F1, h.length ≤ j := fun j hj => (hF1 j hj).elim (hF j) fun h' => by have := fw.len; omega
      obtain ⟨k3, p3, hpF1⟩ : ∃ k3, PR HD p k3 (plainDo pl q).2 ∧ (p ∉ F1 ∧ k3 ∉ F1) := by
        have hpF1 : p ∉ F1 := fun hj => by
          rcases hF1 _ hj with h' | h'
          · exact hpF.1 h'
          · omega
        by_cases he : (plainDo pl q).2 = []
        · obtain ⟨x3, qx, qy, qz, qe⟩ := p2
          exact ⟨HD.length + p + 1, ⟨x3, qx, .inl ⟨qe he, by rw [he]; rfl⟩, by omega, qe⟩, hpF1, fun hj => by have := m2.lt _ hj; omega⟩
        · refine ⟨k2, p2, hpF1, fun hj => ?_⟩
          have h9 := m1.lt _ hj
          rcases hk2 with ⟨rfl, he2⟩ | h'
          · rcases hF1 _ hj with h' | h'
            · exact hpF.2 h'
            · rcases plt.2 with h'' | h''
              · omega
              · rw [he2] at he; exact he h''
          · omega
      simp only [hat.1, hat.2] at hig
      simp only [Request.encF] at d1 d2 hqb hqb1 hqb2 hqb3
      have hqt := fun t => get_old hqb3 t
      have gD : ∀ k, decide (h.length ≤ HD.length + k) = true := fun k => decide_eq_true (Nat.le_trans fD'.len (Nat.le_add_right _ _))
      have gD0 := gD 0
      rw [Nat.add_zero] at gD0
      have hcl : ¬ (((plainDo pl q).2.length : Nat) : Int) < (((allA pl pl.length).length : Nat) : Int) := by omega
      have hfin : ∀ t : Hp, ∃ n, n < l.length - i ∧ ∃ i' ls pl F p' k, n = l.length - i' ∧ i' ≤ l.length ∧ Value.int IntKind.i64 ((i + 1 : Nat) : Int) = Value.int IntKind.i64 (i' : Int) ∧ V.ptr p [0] 1 = V.ptr p' [0] 1 ∧ MR (HD ++ t) h.length ls F ∧ PR (HD ++ t) p' k pl ∧ Rel ls pl ∧ Fw [] h (HD ++ t) ∧ (∀ j ∈ F, h.length ≤ j) ∧ h.length ≤ p' ∧ (p' ∉ F ∧ k ∉ F) :=
        fun t => ⟨l.length - (i + 1), by omega, i + 1, _, _, F1, p, k3, rfl, by omega, rfl, rfl, m2.app t, p3.mono (Fw.app [] HD t) (by simp) (by simp), rel2, fD'.trans (Fw.app _ _ _), hF1', hpn, hpF1⟩
      have hv1 := fun h0 => hvs h0 (allA (plainDo pl q).2 (plainDo pl q).2.length) (by omega)
      have hlen2 : (pl.length : Nat) ≤ 64 := rl
      simp only [List.length_map] at hxl
      generalize (idealDo ls q).1 = rep at *
      generalize (plainDo pl q).2 = pl2 at *
      generalize lastI pl2 q.iD pl2.length = K at *
      generalize atK pl2 K = va at *
      generalize allA pl2 pl2.length = L2 at *
      generalize allA pl pl.length = L1 at *
      have ty1 : ∀ r : Reply, (Reply.encF false r).ty = some 39 := fun r => by rfl
      have so1 : ∀ r : Reply, (Reply.encF false r).solid = true := fun r => by rfl
      have hll : (L1.map Vault.enc).length = L1.length := List.length_map ..
      have hwr : IntKind.i64.wrap ((i : Int) + 1) = ((i + 1 : Nat) : Int) := wrap_small (by omega)
      have hig0 := hig []
      have hpg0 := hpg []
      have hfin0 := hfin []
      simp only [List.append_nil] at hig0 hpg0 hfin0
      by_cases k0 : 0 ≤ K
      · have hvb : (0 : Nat) = 0 := rfl
        try simp only [ec, Request.encF, d1, hqb, hqb1, hqb2, hqb3, d2, e9, e7, e8, e0, e1, e2, hig0, hpg0, hig, hpg, hqt, k0, hal, hpa, hca, hrp, hsm, hv1, pxt, px, hxt, hxl, hcl, gD, gD0, enc_tyV, enc_soV, enc_tyR, enc_soR, Reply.enc_F, Vault.enc_F, encF_tyV, encF_soV, ty1, so1, hwr, go_sem, V.s.injEq, Value.bool.injEq, ↓reduceIte, Nat.reduceEqDiff, Nat.reduceBEq, Nat.reduceAdd, Nat.reduceSub, Nat.reduceLT, Nat.reduceLeDiff, Int.reduceLT, Int.reduceLE, Int.reduceEq, Int.reduceToNat, List.append_assoc, List.length_append, Vm.get_app, Vm.set_app, Vm.get_appL, Vm.get_appL0, Vm.set_appL, Vm.set_appL0, Nat.le_refl, Nat.le_add_right, okAt]
        repeat' (
          first | refine wpC_cases ?_ ?_ | refine wpU_casesT ?_ ?_ | refine wpU_casesF ?_ ?_
          all_goals intro hvc
          all_goals first | replace hvc := not_of_true hvc | replace hvc := not_of_false hvc | skip
          all_goals first | subst hvc | replace hvb := And.intro hvc hvb
          all_goals try simp only [hvb, ec, Request.encF, d1, hqb, hqb1, hqb2, hqb3, d2, e9, e7, e8, e0, e1, e2, hig0, hpg0, hig, hpg, hqt, k0, hal, hpa, hca, hrp, hsm, hv1, pxt, px, hxt, hxl, hcl, gD, gD0, enc_tyV, enc_soV, enc_tyR, enc_soR, Reply.enc_F, Vault.enc_F, encF_tyV, encF_soV, ty1, so1, hwr, go_sem, V.s.injEq, Value.bool.injEq, ↓reduceIte, Nat.reduceEqDiff, Nat.reduceBEq, Nat.reduceAdd, Nat.reduceSub, Nat.reduceLT, Nat.reduceLeDiff, Int.reduceLT, Int.reduceLE, Int.reduceEq, Int.reduceToNat, List.append_assoc, List.length_append, Vm.get_app, Vm.set_app, Vm.get_appL, Vm.get_appL0, Vm.set_appL, Vm.set_appL0, Nat.le_refl, Nat.le_add_right, okAt])
        all_goals exact hfin _
      · have hvb : (0 : Nat) = 0 := rfl
        try simp only [ec, Request.encF, d1, hqb, hqb1, hqb2, hqb3, d2, e9, e7, e8, e0, e1, e2, hig0, hpg0, hig, hpg, hqt, k0, hal, hpa, hca, hrp, hsm, hv1, pxt, px, hxt, hxl, hcl, gD, gD0, enc_tyV, enc_soV, enc_tyR, enc_soR, Reply.enc_F, Vault.enc_F, encF_tyV, encF_soV, ty1, so1, hwr, go_sem, V.s.injEq, Value.bool.injEq, ↓reduceIte, Nat.reduceEqDiff, Nat.reduceBEq, Nat.reduceAdd, Nat.reduceSub, Nat.reduceLT, Nat.reduceLeDiff, Int.reduceLT, Int.reduceLE, Int.reduceEq, Int.reduceToNat, List.append_assoc, List.length_append, Vm.get_app, Vm.set_app, Vm.get_appL, Vm.get_appL0, Vm.set_appL, Vm.set_appL0, Nat.le_refl, Nat.le_add_right, okAt]
        repeat' (
          first | refine wpC_cases ?_ ?_ | refine wpU_casesT ?_ ?_ | refine wpU_casesF ?_ ?_
          all_goals intro hvc
          all_goals first | replace hvc := not_of_true hvc | replace hvc := not_of_false hvc | skip
          all_goals first | subst hvc | replace hvb := And.intro hvc hvb
          all_goals try simp only [hvb, ec, Request.encF, d1, hqb, hqb1, hqb2, hqb3, d2, e9, e7, e8, e0, e1, e2, hig0, hpg0, hig, hpg, hqt, k0, hal, hpa, hca, hrp, hsm, hv1, pxt, px, hxt, hxl, hcl, gD, gD0, enc_tyV, enc_soV, enc_tyR, enc_soR, Reply.enc_F, Vault.enc_F, encF_tyV, encF_soV, ty1, so1, hwr, go_sem, V.s.injEq, Value.bool.injEq, ↓reduceIte, Nat.reduceEqDiff, Nat.reduceBEq, Nat.reduceAdd, Nat.reduceSub, Nat.reduceLT, Nat.reduceLeDiff, Int.reduceLT, Int.reduceLE, Int.reduceEq, Int.reduceToNat, List.append_assoc, List.length_append, Vm.get_app, Vm.set_app, Vm.get_appL, Vm.get_appL0, Vm.set_appL, Vm.set_appL0, Nat.le_refl, Nat.le_add_right, okAt])
        all_goals exact hfin _
  · rintro e H ⟨e7, fw⟩
    have ht := fw.take
    have hvb : (0 : Nat) = 0 := rfl
    try simp only [e7, ht, go_sem, V.s.injEq, Value.bool.injEq, ↓reduceIte, Nat.reduceEqDiff, Nat.reduceBEq, Nat.reduceAdd, Nat.reduceSub, Nat.reduceLT, Nat.reduceLeDiff, Int.reduceLT, Int.reduceLE, Int.reduceEq, Int.reduceToNat, List.append_assoc, List.length_append, Vm.get_app, Vm.set_app, Vm.get_appL, Vm.get_appL0, Vm.set_appL, Vm.set_appL0, Nat.le_refl, Nat.le_add_right, okAt]
    repeat' (
      first | refine wpC_cases ?_ ?_ | refine wpU_casesT ?_ ?_ | refine wpU_casesF ?_ ?_
      all_goals intro hvc
      all_goals first | replace hvc := not_of_true hvc | replace hvc := not_of_false hvc | skip
      all_goals first | subst hvc | replace hvb := And.intro hvc hvb
      all_goals try simp only [hvb, e7, ht, go_sem, V.s.injEq, Value.bool.injEq, ↓reduceIte, Nat.reduceEqDiff, Nat.reduceBEq, Nat.reduceAdd, Nat.reduceSub, Nat.reduceLT, Nat.reduceLeDiff, Int.reduceLT, Int.reduceLE, Int.reduceEq, Int.reduceToNat, List.append_assoc, List.length_append, Vm.get_app, Vm.set_app, Vm.get_appL, Vm.get_appL0, Vm.set_appL, Vm.set_appL0, Nat.le_refl, Nat.le_add_right, okAt])
theorem IdealPlays_run (b : Nat) (h : Hp) (l : List Q) (raw : List Request) (hl : l.length ≤ 140737488351232) (hb : ∀ x ∈ l, x.wf) (hr : raw.length ≤ 140737488351232) (hrb : ∀ x ∈ raw, x.wf) :
    run fns pr b 6 [.imm false (some 35) (l.map Q.enc), .imm false (some 32) (raw.map Request.enc)] h = some (.s (.bool true), h) := by
  refine Vm.runP (nt := 11) rfl fit6 (by simp) ?_
  have hp := play_ok h.length h _ _ l raw 60 (.inl ⟨false, rfl⟩) (.inl ⟨false, rfl⟩) (by omega) hl hb hr hrb
  have hk := known23_ok h.length h
  simp only [Int.cast_ofNat_Int] at hp
  have hvb : (0 : Nat) = 0 := rfl
  try simp only [B6, hp, hk, go_sem, V.s.injEq, Value.bool.injEq, ↓reduceIte, Nat.reduceEqDiff, Nat.reduceBEq, Nat.reduceAdd, Nat.reduceSub, Nat.reduceLT, Nat.reduceLeDiff, Int.reduceLT, Int.reduceLE, Int.reduceEq, Int.reduceToNat, List.append_assoc, List.length_append, Vm.get_app, Vm.set_app, Vm.get_appL, Vm.get_appL0, Vm.set_appL, Vm.set_appL0, Nat.le_refl, Nat.le_add_right, okAt]
  repeat' (
    first | refine wpC_cases ?_ ?_ | refine wpU_casesT ?_ ?_ | refine wpU_casesF ?_ ?_
    all_goals intro hvc
    all_goals first | replace hvc := not_of_true hvc | replace hvc := not_of_false hvc | skip
    all_goals first | subst hvc | replace hvb := And.intro hvc hvb
    all_goals try simp only [hvb, B6, hp, hk, go_sem, V.s.injEq, Value.bool.injEq, ↓reduceIte, Nat.reduceEqDiff, Nat.reduceBEq, Nat.reduceAdd, Nat.reduceSub, Nat.reduceLT, Nat.reduceLeDiff, Int.reduceLT, Int.reduceLE, Int.reduceEq, Int.reduceToNat, List.append_assoc, List.length_append, Vm.get_app, Vm.set_app, Vm.get_appL, Vm.get_appL0, Vm.set_appL, Vm.set_appL0, Nat.le_refl, Nat.le_add_right, okAt])
end Go.Proofs.Ytkkncdokkdamcaa
