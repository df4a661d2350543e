/- The judge's document: deeds that are made. Conditions: none. -/
import Derived.Test.YtkkncdokkdamcaaCS25b
import Derived.Test.YtkkncdokkdamcaaCS11K
namespace Go.Proofs.Ytkkncdokkdamcaa
open Go Go.Vm Go.Proofs Go.Cl
set_option linter.unusedSimpArgs false
set_option linter.unusedVariables false
set_option maxRecDepth 100000
theorem keepQ_four (x : Q) : (keepQ x).iD.length = 4 := rfl
def turnR (t : Int) (r : Reply) : Reply :=
  if t = 1 then { r with left := xorI .i64 r.left 1 } else if t = 2 then { r with why := IntKind.i64.wrap (r.why + 1) } else if t = 3 then { r with secret := 120 :: r.secret }
  else if t = 4 then { r with gen := IntKind.u64.wrap (r.gen + 1) } else if t = 5 then { r with num := IntKind.u64.wrap (r.num + 1) } else r
def madeP (l : List Draw) : Nat → List Vault
  | 0 => []
  | i + 1 => (plainDo (madeP l i) (keepQ (l.getD i default).q)).2
def madeD (l : List Draw) : Nat → List Deed
  | 0 => []
  | i + 1 => madeD l i ++ [⟨((i % 3 : Nat) : Int), keepQ (l.getD i default).q, turnR (l.getD i default).turn (plainDo (madeP l i) (keepQ (l.getD i default).q)).1⟩]
theorem madeD_len (l : List Draw) (n : Nat) : (madeD l n).length = n := by induction n with
  | zero => rfl
  | succ n ih => simp [madeD, ih]
theorem madeD_id (l : List Draw) (n : Nat) : ∀ x ∈ madeD l n, x.request.iD.length = 4 := by
  induction n with
  | zero => intro x hx; cases hx
  | succ n ih =>
    intro x hx
    simp only [madeD, List.mem_append, List.mem_singleton] at hx
    rcases hx with hx | rfl
    · exact ih x hx
    · exact keepQ_four _
theorem madeP_rel (l : List Draw) (n : Nat) : ∃ ls, Rel ls (madeP l n) := by
  induction n with
  | zero => exact ⟨_, Rel.nil⟩
  | succ n ih =>
    obtain ⟨ls, h⟩ := ih
    exact ⟨_, (h.do (keepQ (l.getD n default).q) (keepQ_four _)).1⟩
theorem doG_sec (v : Vault) (q : Request) (h : v.secret.length ≤ 64) : (doG v q).2.1.secret.length ≤ 64 := by
  unfold doG recV escV
  repeat' split
  all_goals first | exact h | exact Nat.zero_le _
theorem plain_sec (pl : List Vault) (q : Request) (hr : ∀ v ∈ pl, rightV v = true) : (plainDo pl q).1.secret.length ≤ 64 := by
  unfold plainDo
  split
  · exact Nat.zero_le _
  have hs : ((pl[(lastI pl q.iD pl.length).toNat]?).filter (fun _ => decide (0 ≤ lastI pl q.iD pl.length)) |>.getD zeroV).secret.length ≤ 64 := by
    cases hv : (pl[(lastI pl q.iD pl.length).toNat]?).filter (fun _ => decide (0 ≤ lastI pl q.iD pl.length)) with
    | none => exact Nat.zero_le _
    | some v =>
      have := Option.filter_eq_some_iff.1 hv
      exact right_secretV (hr v (List.mem_of_getElem? this.1))
  have := doG_sec _ q hs
  simp only
  split
  · exact this
  · split
    · exact Nat.zero_le _
    · exact this
theorem fldD (d : Draw) : d.enc = .st 57 [Q.enc d.q, .s (.int .i64 d.turn)] := rfl
theorem plain_Ds (l : List Deed) : V.plain.all (l.map Deed.enc) = true := by
  induction l with
  | nil => rfl
  | cons d l ih =>
    have : d.enc.plain = true := by simp only [Deed.enc, Request.enc, Reply.enc, go_sem]
    simp only [List.map_cons, V.plain.all, this, ih, Bool.and_self]
theorem ground_D (d : Deed) : d.enc.ground = true := by
  have : d.enc.plain = true := by simp only [Deed.enc, Request.enc, Reply.enc, go_sem]
  exact ground_plain _ this
theorem wpC_cut5 {cf : CF} {base : Nat} {v : V} {a b : C} {e : Env} {h : Hp} {K : Post} (M : Env → Hp → Prop) (h1 : wpC cf base v a b e h (midK M K)) (h2 : ∀ e' h', M e' h' → K .normal e' h') : wpC cf base v a b e h K := by
  have := wp_cut (cf := cf) (base := base) (a := .cond (.c v) a b) (e := e) (h := h) M (by rw [Vm.wp_cond]; exact h1) h2
  rw [Vm.wp_cond] at this
  exact this
theorem made_ok (b : Nat) (h : Hp) (A : V) (l : List Draw) (most : Nat) (sA : SR h A (some 57) (l.map Draw.enc)) (hm : most ≤ 1000) (hl : l.length ≤ 140737488351232) (hw : ∀ x ∈ l, x.wf) :
    run fns pr b 24 [A, .s (.int .i64 (most : Nat))] h = some (.imm false (some 93) ((madeD l (min l.length most)).map Deed.enc), h) := by
  refine Vm.runP (nt := 78) rfl fit24 (by simp) ?_
  have lA := fun cf base H => sA.o_len (cf := cf) (base := base) (h := H)
  simp only [List.length_map] at lA
  have hvb : (0 : Nat) = 0 := rfl
  try simp only [B24, B24R0, B24L0, go_sem, V.s.injEq, Value.bool.injEq, ↓reduceIte, Nat.reduceEqDiff, Nat.reduceBEq, Nat.reduceAdd, Nat.reduceSub, Nat.reduceLT, Nat.reduceLeDiff, Int.reduceLT, Int.reduceLE, Int.reduceEq, Int.reduceToNat, List.append_assoc, List.length_append, Vm.get_app, Vm.set_app, Vm.get_appL, Vm.get_appL0, Vm.set_appL, Vm.set_appL0, Nat.le_refl, Nat.le_add_right, okAt]
  repeat' (
    first | refine wpC_cases ?_ ?_ | refine wpU_casesT ?_ ?_ | refine wpU_casesF ?_ ?_
    all_goals intro hvc
    all_goals first | replace hvc := not_of_true hvc | replace hvc := not_of_false hvc | skip
    all_goals first | subst hvc | replace hvb := And.intro hvc hvb
    all_goals try simp only [hvb, B24, B24R0, B24L0, go_sem, V.s.injEq, Value.bool.injEq, ↓reduceIte, Nat.reduceEqDiff, Nat.reduceBEq, Nat.reduceAdd, Nat.reduceSub, Nat.reduceLT, Nat.reduceLeDiff, Int.reduceLT, Int.reduceLE, Int.reduceEq, Int.reduceToNat, List.append_assoc, List.length_append, Vm.get_app, Vm.set_app, Vm.get_appL, Vm.get_appL0, Vm.set_appL, Vm.set_appL0, Nat.le_refl, Nat.le_add_right, okAt])
  refine wp_for (fun n e H => ∃ i k y kk, n = l.length - i ∧ i ≤ l.length ∧ i ≤ most ∧ e 7 = .s (.int .i64 (i : Nat)) ∧ e 0 = A ∧ e 1 = .s (.int .i64 (most : Nat)) ∧ e 5 = .ptr h.length [0] 1 ∧ e 6 = y ∧ PR5 H h.length k (madeP l i) ∧ XR H (some 93) kk y ((madeD l i).map Deed.enc) ∧ Fw [] h H ∧ h.length < kk ∧ h.length < H.length ∧ k ≠ kk)
    (fun e H => ∃ y kk, e 6 = y ∧ XR H (some 93) kk y ((madeD l (min l.length most)).map Deed.enc) ∧ h.length < kk ∧ Fw [] h H)
    l.length _ _ ⟨0, h.length + 1, _, h.length + 2, rfl, by omega, by omega, rfl, rfl, rfl, rfl, rfl, ⟨_, get_app0 _ _, XR.nil _ _ _, by omega, fun _ => rfl⟩, XR.nil _ _ _, Fw.app _ _ _, by omega, by simp, by omega⟩ ?_ ?_
  · rintro n e H ⟨i, k, y, kk, rfl, hi, hi2, e7, e0, e1, e5, e6, pr1, xr, fw, hkk, hlH, hkne⟩
    by_cases c1 : i < l.length
    case neg =>
      have c' : ¬ (i : Int) < l.length := by omega
      have : min l.length most = i := by omega
      have hvb : (0 : Nat) = 0 := rfl
      try simp only [e7, e0, e1, e5, e6, lA, c', this, go_sem, V.s.injEq, Value.bool.injEq, ↓reduceIte, Nat.reduceEqDiff, Nat.reduceBEq, Nat.reduceAdd, Nat.reduceSub, Nat.reduceLT, Nat.reduceLeDiff, Int.reduceLT, Int.reduceLE, Int.reduceEq, Int.reduceToNat, List.append_assoc, List.length_append, Vm.get_app, Vm.set_app, Vm.get_appL, Vm.get_appL0, Vm.set_appL, Vm.set_appL0, Nat.le_refl, Nat.le_add_right, okAt]
      repeat' (
        first | refine wpC_cases ?_ ?_ | refine wpU_casesT ?_ ?_ | refine wpU_casesF ?_ ?_
        all_goals intro hvc
        all_goals first | replace hvc := not_of_true hvc | replace hvc := not_of_false hvc | skip
        all_goals first | subst hvc | replace hvb := And.intro hvc hvb
        all_goals try simp only [hvb, e7, e0, e1, e5, e6, lA, c', this, go_sem, V.s.injEq, Value.bool.injEq, ↓reduceIte, Nat.reduceEqDiff, Nat.reduceBEq, Nat.reduceAdd, Nat.reduceSub, Nat.reduceLT, Nat.reduceLeDiff, Int.reduceLT, Int.reduceLE, Int.reduceEq, Int.reduceToNat, List.append_assoc, List.length_append, Vm.get_app, Vm.set_app, Vm.get_appL, Vm.get_appL0, Vm.set_appL, Vm.set_appL0, Nat.le_refl, Nat.le_add_right, okAt])
      all_goals exact ⟨y, kk, rfl, xr, hkk, fw⟩
    have c1' : (i : Int) < l.length := by omega
    by_cases c2 : i < most
    case neg =>
      have c' : ¬ (i : Int) < (most : Int) := by omega
      have : min l.length most = i := by omega
      have hvb : (0 : Nat) = 0 := rfl
      try simp only [e7, e0, e1, e5, e6, lA, c1', c', this, go_sem, V.s.injEq, Value.bool.injEq, ↓reduceIte, Nat.reduceEqDiff, Nat.reduceBEq, Nat.reduceAdd, Nat.reduceSub, Nat.reduceLT, Nat.reduceLeDiff, Int.reduceLT, Int.reduceLE, Int.reduceEq, Int.reduceToNat, List.append_assoc, List.length_append, Vm.get_app, Vm.set_app, Vm.get_appL, Vm.get_appL0, Vm.set_appL, Vm.set_appL0, Nat.le_refl, Nat.le_add_right, okAt]
      repeat' (
        first | refine wpC_cases ?_ ?_ | refine wpU_casesT ?_ ?_ | refine wpU_casesF ?_ ?_
        all_goals intro hvc
        all_goals first | replace hvc := not_of_true hvc | replace hvc := not_of_false hvc | skip
        all_goals first | subst hvc | replace hvb := And.intro hvc hvb
        all_goals try simp only [hvb, e7, e0, e1, e5, e6, lA, c1', c', this, go_sem, V.s.injEq, Value.bool.injEq, ↓reduceIte, Nat.reduceEqDiff, Nat.reduceBEq, Nat.reduceAdd, Nat.reduceSub, Nat.reduceLT, Nat.reduceLeDiff, Int.reduceLT, Int.reduceLE, Int.reduceEq, Int.reduceToNat, List.append_assoc, List.length_append, Vm.get_app, Vm.set_app, Vm.get_appL, Vm.get_appL0, Vm.set_appL, Vm.set_appL0, Nat.le_refl, Nat.le_add_right, okAt])
      all_goals exact ⟨y, kk, rfl, xr, hkk, fw⟩
    have c2' : (i : Int) < (most : Int) := by omega
    have hv : l[i]? = some l[i] := List.getElem?_eq_getElem c1
    have hgd : l.getD i default = l[i] := by rw [List.getD_eq_getElem?_getD, hv]; rfl
    have hmP : madeP l (i + 1) = (plainDo (madeP l i) (keepQ (l[i]).q)).2 := by rw [madeP, hgd]
    have hmD : madeD l (i + 1) = madeD l i ++ [⟨((i % 3 : Nat) : Int), keepQ (l[i]).q, turnR (l[i]).turn (plainDo (madeP l i) (keepQ (l[i]).q)).1⟩] := by rw [madeD, hgd]
    have hdl := madeD_len l i
    have hx := hw _ (List.getElem_mem c1)
    obtain ⟨d, hd⟩ : ∃ d, l[i] = d := ⟨_, rfl⟩
    rw [hd] at hv hmP hmD hx
    have hve : (l.map Draw.enc)[i]? = some d.enc := by rw [List.getElem?_map, hv]; rfl
    rw [fldD] at hve
    have hil : i < (l.map Draw.enc).length := by simpa using c1
    have hia := fun cf base => (sA.fw fw).o_ias (cf := cf) (base := base) (k := .i64) hil
    have hfa := fun cf base => (sA.fw fw).o_fa (cf := cf) (base := base) (f := 0) hve (by simp)
    have hlf := fun cf base => (sA.fw fw).o_ldf (cf := cf) (base := base) (f := 0) (g' := some 35) hve rfl rfl
    have hrq := Request_ok h.length H d.q hx.q
    have hq4 := keepQ_four d.q
    obtain ⟨q, hq⟩ : ∃ q, keepQ d.q = q := ⟨_, rfl⟩
    rw [hq] at hrq hq4 hmP hmD
    obtain ⟨HA, hHA⟩ : ∃ HA : Hp, H ++ [Blk.cells (some 32) [q.encF false]] = HA := ⟨_, rfl⟩
    have hqb : HA[H.length]? = some (Blk.cells (some 32) [q.encF false]) := by rw [← hHA]; exact get_app0 _ _
    have fA : Fw [] H HA := by rw [← hHA]; exact Fw.app _ _ _
    have hlA : HA.length = H.length + 1 := by rw [← hHA]; simp
    have pA := pr1.mono fA (by simp) (by simp)
    obtain ⟨ls, rel⟩ := madeP_rel l i
    have hrt := rel.right
    have rl := rel.len
    have hsec := plain_sec (madeP l i) q fun v hv => (hrt v hv).1
    obtain ⟨v1, HB, d1, k2, rfl, p2, fB, hk2⟩ := P5Do_ok h.length HA h.length k (madeP l i) q false (Nat.le_refl _) pA (by omega) (by omega) (fun v hv => by rw [(hrt v hv).2]; omega) (fun v hv => (hrt v hv).1)
    have lB := fB.len
    have hqb2 := fB.old _ _ hqb (by simp; omega)
    have fB' : Fw [] h HB := (fw.trans fA).new fB (by simp)
    have xB : XR HB (some 93) kk y ((madeD l i).map Deed.enc) := (xr.mono fun w hw => fA.old _ _ hw (by simp)).mono fun w hw => fB.old _ _ hw (by simp; omega)
    have hlBh : h.length < HB.length := by omega
    have hia2 := fun cf base t => (sA.fw (fB'.trans (Fw.app _ HB t))).o_ias (cf := cf) (base := base) (k := .i64) hil
    have hfa2 := fun cf base t => (sA.fw (fB'.trans (Fw.app _ HB t))).o_fa (cf := cf) (base := base) (f := 1) hve (by simp)
    have hlf2 := fun cf base t => (sA.fw (fB'.trans (Fw.app _ HB t))).o_ldf (cf := cf) (base := base) (f := 1) (g' := none) hve rfl rfl
    have gr : ∀ k, decide (h.length ≤ H.length + k) = true := fun k => decide_eq_true (Nat.le_trans fw.len (Nat.le_add_right _ _))
    have gr0 := gr 0
    rw [Nat.add_zero] at gr0
    have gB : ∀ k, decide (h.length ≤ HB.length + k) = true := fun k => decide_eq_true (by omega)
    have gB0 := gB 0
    rw [Nat.add_zero] at gB0
    have ty1 : ∀ r : Reply, (Reply.encF false r).ty = some 39 := fun r => by rfl
    have so1 : ∀ r : Reply, (Reply.encF false r).solid = true := fun r => by rfl
    rw [← hmP] at p2
    generalize (plainDo (madeP l i) q).1 = rep at *
    simp only [go_sem, ↓reduceIte, Nat.reduceEqDiff, Nat.reduceBEq, Nat.reduceAdd, Nat.reduceSub, Nat.reduceLT, Nat.reduceLeDiff, Int.reduceLT, Int.reduceLE, Int.reduceEq, Int.reduceToNat, e7, e0, e1, e5, e6, c1', c2', lA, hia, hfa, hlf, hrq, gr, gr0, gB, gB0, Request.enc_F, encF_tyQ, encF_soQ, hHA, hqb, d1, Reply.enc_F, ty1, so1, hia2, hfa2, hlf2]
    refine wpC_cut5 (fun e H' => e 7 = .s (.int .i64 (i : Nat)) ∧ e 0 = A ∧ e 1 = .s (.int .i64 (most : Nat)) ∧ e 5 = .ptr h.length [0] 1 ∧ e 6 = y ∧ e 8 = .ptr H.length [0] 1 ∧ e 9 = .ptr HB.length [0] 1 ∧ ∃ ex, H' = HB ++ (Blk.cells (some 39) [(turnR d.turn rep).encF false] :: ex)) ?_ ?_
    · clear hia hfa hlf hia2 hfa2 hlf2 hrq lA
      have hsr : ∀ h0 : Hp, source h0 (.imm false none (rep.secret.map byteV)) = some (none, rep.secret.map byteV) := fun h0 => rfl
      by_cases t1 : d.turn = 1
      · have hvb : (0 : Nat) = 0 := rfl
        try simp only [gr, gr0, gB, gB0, Reply.encF, e7, e0, e1, e5, e6, t1, go_sem, V.s.injEq, Value.bool.injEq, ↓reduceIte, Nat.reduceEqDiff, Nat.reduceBEq, Nat.reduceAdd, Nat.reduceSub, Nat.reduceLT, Nat.reduceLeDiff, Int.reduceLT, Int.reduceLE, Int.reduceEq, Int.reduceToNat, List.append_assoc, List.length_append, Vm.get_app, Vm.set_app, Vm.get_appL, Vm.get_appL0, Vm.set_appL, Vm.set_appL0, Nat.le_refl, Nat.le_add_right, okAt]
        repeat' (
          first | refine wpC_cases ?_ ?_ | refine wpU_casesT ?_ ?_ | refine wpU_casesF ?_ ?_
          all_goals intro hvc
          all_goals first | replace hvc := not_of_true hvc | replace hvc := not_of_false hvc | skip
          all_goals first | subst hvc | replace hvb := And.intro hvc hvb
          all_goals try simp only [hvb, gr, gr0, gB, gB0, Reply.encF, e7, e0, e1, e5, e6, t1, go_sem, V.s.injEq, Value.bool.injEq, ↓reduceIte, Nat.reduceEqDiff, Nat.reduceBEq, Nat.reduceAdd, Nat.reduceSub, Nat.reduceLT, Nat.reduceLeDiff, Int.reduceLT, Int.reduceLE, Int.reduceEq, Int.reduceToNat, List.append_assoc, List.length_append, Vm.get_app, Vm.set_app, Vm.get_appL, Vm.get_appL0, Vm.set_appL, Vm.set_appL0, Nat.le_refl, Nat.le_add_right, okAt])
        all_goals exact ⟨[], by simp [turnR, Reply.encF]⟩
      by_cases t2 : d.turn = 2
      · have hvb : (0 : Nat) = 0 := rfl
        try simp only [gr, gr0, gB, gB0, Reply.encF, e7, e0, e1, e5, e6, t2, go_sem, V.s.injEq, Value.bool.injEq, ↓reduceIte, Nat.reduceEqDiff, Nat.reduceBEq, Nat.reduceAdd, Nat.reduceSub, Nat.reduceLT, Nat.reduceLeDiff, Int.reduceLT, Int.reduceLE, Int.reduceEq, Int.reduceToNat, List.append_assoc, List.length_append, Vm.get_app, Vm.set_app, Vm.get_appL, Vm.get_appL0, Vm.set_appL, Vm.set_appL0, Nat.le_refl, Nat.le_add_right, okAt]
        repeat' (
          first | refine wpC_cases ?_ ?_ | refine wpU_casesT ?_ ?_ | refine wpU_casesF ?_ ?_
          all_goals intro hvc
          all_goals first | replace hvc := not_of_true hvc | replace hvc := not_of_false hvc | skip
          all_goals first | subst hvc | replace hvb := And.intro hvc hvb
          all_goals try simp only [hvb, gr, gr0, gB, gB0, Reply.encF, e7, e0, e1, e5, e6, t2, go_sem, V.s.injEq, Value.bool.injEq, ↓reduceIte, Nat.reduceEqDiff, Nat.reduceBEq, Nat.reduceAdd, Nat.reduceSub, Nat.reduceLT, Nat.reduceLeDiff, Int.reduceLT, Int.reduceLE, Int.reduceEq, Int.reduceToNat, List.append_assoc, List.length_append, Vm.get_app, Vm.set_app, Vm.get_appL, Vm.get_appL0, Vm.set_appL, Vm.set_appL0, Nat.le_refl, Nat.le_add_right, okAt])
        all_goals exact ⟨[], by simp [turnR, Reply.encF]⟩
      by_cases t3 : d.turn = 3
      · by_cases hs0 : rep.secret = []
        · have ha : ∀ cf base h0, opV cf base h0 (.apx none 1) [.imm true none [.s (.int .u8 120)], .imm false none (rep.secret.map byteV)] = some (.imm false none [.s (.int .u8 120)], h0) := fun cf base h0 => apx_none (gy := none) (by rw [hs0]; rfl)
          have hvb : (0 : Nat) = 0 := rfl
          try simp only [gr, gr0, gB, gB0, Reply.encF, e7, e0, e1, e5, e6, t3, ha, go_sem, V.s.injEq, Value.bool.injEq, ↓reduceIte, Nat.reduceEqDiff, Nat.reduceBEq, Nat.reduceAdd, Nat.reduceSub, Nat.reduceLT, Nat.reduceLeDiff, Int.reduceLT, Int.reduceLE, Int.reduceEq, Int.reduceToNat, List.append_assoc, List.length_append, Vm.get_app, Vm.set_app, Vm.get_appL, Vm.get_appL0, Vm.set_appL, Vm.set_appL0, Nat.le_refl, Nat.le_add_right, okAt]
          repeat' (
            first | refine wpC_cases ?_ ?_ | refine wpU_casesT ?_ ?_ | refine wpU_casesF ?_ ?_
            all_goals intro hvc
            all_goals first | replace hvc := not_of_true hvc | replace hvc := not_of_false hvc | skip
            all_goals first | subst hvc | replace hvb := And.intro hvc hvb
            all_goals try simp only [hvb, gr, gr0, gB, gB0, Reply.encF, e7, e0, e1, e5, e6, t3, ha, go_sem, V.s.injEq, Value.bool.injEq, ↓reduceIte, Nat.reduceEqDiff, Nat.reduceBEq, Nat.reduceAdd, Nat.reduceSub, Nat.reduceLT, Nat.reduceLeDiff, Int.reduceLT, Int.reduceLE, Int.reduceEq, Int.reduceToNat, List.append_assoc, List.length_append, Vm.get_app, Vm.set_app, Vm.get_appL, Vm.get_appL0, Vm.set_appL, Vm.set_appL0, Nat.le_refl, Nat.le_add_right, okAt])
          all_goals exact ⟨[.dead], by simp [turnR, Reply.encF, hs0, byteV]⟩
        · have ha : ∀ cf base h0, opV cf base h0 (.apx none 1) [.imm true none [.s (.int .u8 120)], .imm false none (rep.secret.map byteV)] = some (.imm false none ((120 :: rep.secret).map byteV), h0 ++ [.dead]) := fun cf base h0 => apx_imm (vs := [.s (.int .u8 120)]) (ys := rep.secret.map byteV) rfl (by simpa using hs0) (by simp; omega)
          have hvb : (0 : Nat) = 0 := rfl
          try simp only [gr, gr0, gB, gB0, Reply.encF, e7, e0, e1, e5, e6, t3, ha, go_sem, V.s.injEq, Value.bool.injEq, ↓reduceIte, Nat.reduceEqDiff, Nat.reduceBEq, Nat.reduceAdd, Nat.reduceSub, Nat.reduceLT, Nat.reduceLeDiff, Int.reduceLT, Int.reduceLE, Int.reduceEq, Int.reduceToNat, List.append_assoc, List.length_append, Vm.get_app, Vm.set_app, Vm.get_appL, Vm.get_appL0, Vm.set_appL, Vm.set_appL0, Nat.le_refl, Nat.le_add_right, okAt]
          repeat' (
            first | refine wpC_cases ?_ ?_ | refine wpU_casesT ?_ ?_ | refine wpU_casesF ?_ ?_
            all_goals intro hvc
            all_goals first | replace hvc := not_of_true hvc | replace hvc := not_of_false hvc | skip
            all_goals first | subst hvc | replace hvb := And.intro hvc hvb
            all_goals try simp only [hvb, gr, gr0, gB, gB0, Reply.encF, e7, e0, e1, e5, e6, t3, ha, go_sem, V.s.injEq, Value.bool.injEq, ↓reduceIte, Nat.reduceEqDiff, Nat.reduceBEq, Nat.reduceAdd, Nat.reduceSub, Nat.reduceLT, Nat.reduceLeDiff, Int.reduceLT, Int.reduceLE, Int.reduceEq, Int.reduceToNat, List.append_assoc, List.length_append, Vm.get_app, Vm.set_app, Vm.get_appL, Vm.get_appL0, Vm.set_appL, Vm.set_appL0, Nat.le_refl, Nat.le_add_right, okAt])
          all_goals exact ⟨[.dead, .dead], by simp [turnR, Reply.encF, byteV]⟩
      by_cases t4 : d.turn = 4
      · have hvb : (0 : Nat) = 0 := rfl
        try simp only [gr, gr0, gB, gB0, Reply.encF, e7, e0, e1, e5, e6, t4, go_sem, V.s.injEq, Value.bool.injEq, ↓reduceIte, Nat.reduceEqDiff, Nat.reduceBEq, Nat.reduceAdd, Nat.reduceSub, Nat.reduceLT, Nat.reduceLeDiff, Int.reduceLT, Int.reduceLE, Int.reduceEq, Int.reduceToNat, List.append_assoc, List.length_append, Vm.get_app, Vm.set_app, Vm.get_appL, Vm.get_appL0, Vm.set_appL, Vm.set_appL0, Nat.le_refl, Nat.le_add_right, okAt]
        repeat' (
          first | refine wpC_cases ?_ ?_ | refine wpU_casesT ?_ ?_ | refine wpU_casesF ?_ ?_
          all_goals intro hvc
          all_goals first | replace hvc := not_of_true hvc | replace hvc := not_of_false hvc | skip
          all_goals first | subst hvc | replace hvb := And.intro hvc hvb
          all_goals try simp only [hvb, gr, gr0, gB, gB0, Reply.encF, e7, e0, e1, e5, e6, t4, go_sem, V.s.injEq, Value.bool.injEq, ↓reduceIte, Nat.reduceEqDiff, Nat.reduceBEq, Nat.reduceAdd, Nat.reduceSub, Nat.reduceLT, Nat.reduceLeDiff, Int.reduceLT, Int.reduceLE, Int.reduceEq, Int.reduceToNat, List.append_assoc, List.length_append, Vm.get_app, Vm.set_app, Vm.get_appL, Vm.get_appL0, Vm.set_appL, Vm.set_appL0, Nat.le_refl, Nat.le_add_right, okAt])
        all_goals exact ⟨[], by simp [turnR, Reply.encF]⟩
      by_cases t5 : d.turn = 5
      · have hvb : (0 : Nat) = 0 := rfl
        try simp only [gr, gr0, gB, gB0, Reply.encF, e7, e0, e1, e5, e6, t5, go_sem, V.s.injEq, Value.bool.injEq, ↓reduceIte, Nat.reduceEqDiff, Nat.reduceBEq, Nat.reduceAdd, Nat.reduceSub, Nat.reduceLT, Nat.reduceLeDiff, Int.reduceLT, Int.reduceLE, Int.reduceEq, Int.reduceToNat, List.append_assoc, List.length_append, Vm.get_app, Vm.set_app, Vm.get_appL, Vm.get_appL0, Vm.set_appL, Vm.set_appL0, Nat.le_refl, Nat.le_add_right, okAt]
        repeat' (
          first | refine wpC_cases ?_ ?_ | refine wpU_casesT ?_ ?_ | refine wpU_casesF ?_ ?_
          all_goals intro hvc
          all_goals first | replace hvc := not_of_true hvc | replace hvc := not_of_false hvc | skip
          all_goals first | subst hvc | replace hvb := And.intro hvc hvb
          all_goals try simp only [hvb, gr, gr0, gB, gB0, Reply.encF, e7, e0, e1, e5, e6, t5, go_sem, V.s.injEq, Value.bool.injEq, ↓reduceIte, Nat.reduceEqDiff, Nat.reduceBEq, Nat.reduceAdd, Nat.reduceSub, Nat.reduceLT, Nat.reduceLeDiff, Int.reduceLT, Int.reduceLE, Int.reduceEq, Int.reduceToNat, List.append_assoc, List.length_append, Vm.get_app, Vm.set_app, Vm.get_appL, Vm.get_appL0, Vm.set_appL, Vm.set_appL0, Nat.le_refl, Nat.le_add_right, okAt])
        all_goals exact ⟨[], by simp [turnR, Reply.encF]⟩
      have hvb : (0 : Nat) = 0 := rfl
      try simp only [gr, gr0, gB, gB0, Reply.encF, e7, e0, e1, e5, e6, t1, t2, t3, t4, t5, go_sem, V.s.injEq, Value.bool.injEq, ↓reduceIte, Nat.reduceEqDiff, Nat.reduceBEq, Nat.reduceAdd, Nat.reduceSub, Nat.reduceLT, Nat.reduceLeDiff, Int.reduceLT, Int.reduceLE, Int.reduceEq, Int.reduceToNat, List.append_assoc, List.length_append, Vm.get_app, Vm.set_app, Vm.get_appL, Vm.get_appL0, Vm.set_appL, Vm.set_appL0, Nat.le_refl, Nat.le_add_right, okAt]
      repeat' (
        first | refine wpC_cases ?_ ?_ | refine wpU_casesT ?_ ?_ | refine wpU_casesF ?_ ?_
        all_goals intro hvc
        all_goals first | replace hvc := not_of_true hvc | replace hvc := not_of_false hvc | skip
        all_goals first | subst hvc | replace hvb := And.intro hvc hvb
        all_goals try simp only [hvb, gr, gr0, gB, gB0, Reply.encF, e7, e0, e1, e5, e6, t1, t2, t3, t4, t5, go_sem, V.s.injEq, Value.bool.injEq, ↓reduceIte, Nat.reduceEqDiff, Nat.reduceBEq, Nat.reduceAdd, Nat.reduceSub, Nat.reduceLT, Nat.reduceLeDiff, Int.reduceLT, Int.reduceLE, Int.reduceEq, Int.reduceToNat, List.append_assoc, List.length_append, Vm.get_app, Vm.set_app, Vm.get_appL, Vm.get_appL0, Vm.set_appL, Vm.set_appL0, Nat.le_refl, Nat.le_add_right, okAt])
      all_goals exact ⟨[], by simp [turnR, Reply.encF, t1, t2, t3, t4, t5]⟩
    · clear e7 e0 e1 e5 e6 gr gr0 gB gB0 hia hfa hlf hia2 hfa2 hlf2 hrq lA d1
      rintro e H2 ⟨e7, e0, e1, e5, e6, e8, e9, ex, rfl⟩
      generalize turnR d.turn rep = R at *
      obtain ⟨D, hD⟩ : ∃ D : Deed, (⟨((i % 3 : Nat) : Int), q, R⟩ : Deed) = D := ⟨_, rfl⟩
      have hDe : V.st 93 [.s (.int .i64 ((i % 3 : Nat) : Int)), q.encF false, R.encF false] = D.enc := by rw [← hD]; rfl
      rw [hD] at hmD
      obtain ⟨HD, hHD⟩ : ∃ HD : Hp, HB ++ (Blk.cells (some 39) [R.encF false] :: ex) = HD := ⟨_, rfl⟩
      have fD : Fw [] HB HD := by rw [← hHD]; exact Fw.app _ _ _
      have lD := fD.len
      have hqD := fD.old _ _ hqb2 (by simp)
      have hrD : HD[HB.length]? = some (Blk.cells (some 39) [R.encF false]) := by rw [← hHD]; exact get_app0 _ _
      rw [hHD]
      have hqD2 := fun t => get_old hqD t
      have hrD2 := fun t => get_old hrD t
      have pD := p2.mono fD (by simp) (by simp)
      have xD : XR HD (some 93) kk y ((madeD l i).map Deed.enc) := xB.mono fun w hw => fD.old _ _ hw (by simp)
      obtain ⟨kq, xq, hq1, hq2⟩ : ∃ kq, XR HD (some 93) kq y ((madeD l i).map Deed.enc) ∧ h.length < kq ∧ kq ≠ k2 := by
        rcases xr with ⟨rfl, e⟩ | ⟨rfl, hr⟩
        · exact ⟨h.length + k2 + 1, .inl ⟨rfl, e⟩, by omega, by omega⟩
        · have := lt_of_get hr
          refine ⟨kk, xD, hkk, ?_⟩
          rcases hk2 with ⟨rfl, _⟩ | hk2 <;> omega
      obtain ⟨y3, H3, k3, ap3, xr3, hk3, hl3, hk3', hg3, hold3⟩ := xq.pushL (n := h.length + 1) (m := 1) (ys := [D.enc]) (bytes := 192) (by omega) (by omega) rfl (fun z hz => by simp at hz; subst hz; exact ground_D D) (by simp; omega)
      have xr3 : XR H3 (some 93) k3 y3 ((madeD l (i + 1)).map Deed.enc) := by rw [hmD, List.map_append]; exact xr3
      have f3 : Fw [] h H3 := (fB'.trans fD).trans' (n := 0) hg3 hold3 (by omega)
      obtain ⟨x4, z1, z2, z3, z4⟩ := pD
      obtain ⟨k4, p4, hk4⟩ : ∃ k4, PR5 H3 h.length k4 (madeP l (i + 1)) ∧ k4 ≠ k3 := by
        have z1' := hold3 _ _ (by omega) z1
        rcases z2 with ⟨rfl, e⟩ | ⟨rfl, hr⟩
        · exact ⟨h.length + k3 + 1, ⟨_, z1', .inl ⟨rfl, e⟩, by omega, z4⟩, by omega⟩
        · have := lt_of_get hr
          refine ⟨k2, ⟨_, z1', .inr ⟨rfl, hold3 _ _ (fun e => hq2 e.symm) hr⟩, z3, z4⟩, ?_⟩
          rcases hk3' with rfl | hk3'
          · exact fun e => hq2 e.symm
          · omega
      have rem : ∀ cf base h, opV cf base h (.bin .num .rem) [.s (.int .i64 (i : Nat)), .s (.int .i64 3)] = some (.s (.int .i64 ((i % 3 : Nat) : Int)), h) := fun cf base h => by
        rw [o_rem cf base h .i64 _ 3 (by omega), Int.tmod_eq_emod_of_nonneg (by omega)]; rfl
      have hwr : IntKind.i64.wrap ((i : Int) + 1) = ((i + 1 : Nat) : Int) := wrap_small (by omega)
      have qty : some 93 = D.enc.ty := by rfl
      have qso : D.enc.solid = true := by rfl
      have hvb : (0 : Nat) = 0 := rfl
      try simp only [e7, e0, e1, e5, e6, e8, e9, rem, hqD, hrD, hqD2, hrD2, encF_tyQ, encF_soQ, ty1, so1, hDe, ap3, hwr, ← qty, qso, go_sem, V.s.injEq, Value.bool.injEq, ↓reduceIte, Nat.reduceEqDiff, Nat.reduceBEq, Nat.reduceAdd, Nat.reduceSub, Nat.reduceLT, Nat.reduceLeDiff, Int.reduceLT, Int.reduceLE, Int.reduceEq, Int.reduceToNat, List.append_assoc, List.length_append, Vm.get_app, Vm.set_app, Vm.get_appL, Vm.get_appL0, Vm.set_appL, Vm.set_appL0, Nat.le_refl, Nat.le_add_right, okAt]
      repeat' (
        first | refine wpC_cases ?_ ?_ | refine wpU_casesT ?_ ?_ | refine wpU_casesF ?_ ?_
        all_goals intro hvc
        all_goals first | replace hvc := not_of_true hvc | replace hvc := not_of_false hvc | skip
        all_goals first | subst hvc | replace hvb := And.intro hvc hvb
        all_goals try simp only [hvb, e7, e0, e1, e5, e6, e8, e9, rem, hqD, hrD, hqD2, hrD2, encF_tyQ, encF_soQ, ty1, so1, hDe, ap3, hwr, ← qty, qso, go_sem, V.s.injEq, Value.bool.injEq, ↓reduceIte, Nat.reduceEqDiff, Nat.reduceBEq, Nat.reduceAdd, Nat.reduceSub, Nat.reduceLT, Nat.reduceLeDiff, Int.reduceLT, Int.reduceLE, Int.reduceEq, Int.reduceToNat, List.append_assoc, List.length_append, Vm.get_app, Vm.set_app, Vm.get_appL, Vm.get_appL0, Vm.set_appL, Vm.set_appL0, Nat.le_refl, Nat.le_add_right, okAt])
      all_goals exact ⟨l.length - (i + 1), by omega, i + 1, k4, y3, k3, rfl, by omega, by omega, rfl, rfl, p4, xr3, f3, by omega, by omega, hk4⟩
  · rintro e H ⟨y, kk, e6, xr, hkk, fw⟩
    have hf := xr.frz (n := h.length) (by omega) (plain_Ds _)
    have ht := fw.take
    have hvb : (0 : Nat) = 0 := rfl
    try simp only [e6, hf, ht, go_sem, V.s.injEq, Value.bool.injEq, ↓reduceIte, Nat.reduceEqDiff, Nat.reduceBEq, Nat.reduceAdd, Nat.reduceSub, Nat.reduceLT, Nat.reduceLeDiff, Int.reduceLT, Int.reduceLE, Int.reduceEq, Int.reduceToNat, List.append_assoc, List.length_append, Vm.get_app, Vm.set_app, Vm.get_appL, Vm.get_appL0, Vm.set_appL, Vm.set_appL0, Nat.le_refl, Nat.le_add_right, okAt]
    repeat' (
      first | refine wpC_cases ?_ ?_ | refine wpU_casesT ?_ ?_ | refine wpU_casesF ?_ ?_
      all_goals intro hvc
      all_goals first | replace hvc := not_of_true hvc | replace hvc := not_of_false hvc | skip
      all_goals first | subst hvc | replace hvb := And.intro hvc hvb
      all_goals try simp only [hvb, e6, hf, ht, go_sem, V.s.injEq, Value.bool.injEq, ↓reduceIte, Nat.reduceEqDiff, Nat.reduceBEq, Nat.reduceAdd, Nat.reduceSub, Nat.reduceLT, Nat.reduceLeDiff, Int.reduceLT, Int.reduceLE, Int.reduceEq, Int.reduceToNat, List.append_assoc, List.length_append, Vm.get_app, Vm.set_app, Vm.get_appL, Vm.get_appL0, Vm.set_appL, Vm.set_appL0, Nat.le_refl, Nat.le_add_right, okAt])
end Go.Proofs.Ytkkncdokkdamcaa
