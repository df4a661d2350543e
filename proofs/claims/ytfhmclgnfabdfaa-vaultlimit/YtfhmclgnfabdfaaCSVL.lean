/- VaultLimit: its run. Conditions: none. -/
import Derived.Test.YtfhmclgnfabdfaaCS11L
import Derived.Test.YtfhmclgnfabdfaaCVc
namespace Go.Proofs.Ytfhmclgnfabdfaa
open Go Go.Vm Go.Proofs Go.Cl
set_option linter.unusedSimpArgs false
set_option linter.unusedVariables false
set_option maxRecDepth 100000
def id1 : Bs := [1, 0, 0, 0]
theorem id1_v (t : Nat) : V.arr t [.s (.int .u8 1), .s (.int .u8 0), .s (.int .u8 0), .s (.int .u8 0)] = .arr t (id1.map byteV) := rfl
def upd (w : Int → Int) (a n : Int) : Int → Int := fun b => if b = a then n else w b
/-- What the two maps, and the last Gen that is over, are beside a vault. -/
structure LimI (v : Vault) (wr li : Int → Int) (over : Int) : Prop where
  ok : okV id1 v
  w0 : ∀ g, v.gen < g → wr g = 0
  l0 : ∀ g, v.gen < g → li g = 0
  live : v.gen ≠ 0 → v.gone = false → li v.gen = v.limit ∧ wr v.gen = v.used ∧ over ≠ v.gen
  ov : over ≤ v.gen
theorem LimI.zero : LimI zeroV (fun _ => 0) (fun _ => 0) 0 := ⟨.inl rfl, fun _ _ => rfl, fun _ _ => rfl, fun h => absurd rfl h, by decide⟩
theorem lim_step {v : Vault} {wr li : Int → Int} {over : Int} {q : Request} (hI : LimI v wr li over) (hq : rightQ q = true) (hi : q.iD = id1) :
    ((doG v q).2.2 = false → (doG v q).1 = v) ∧
    (((doG v q).2.1.why = 0 ∧ (q.op = 1 ∨ q.op = 3) ∧ li (doG v q).2.1.gen = 0 ∧ (doG v q).2.1.secret = [] ∧ LimI (doG v q).1 wr (upd li (doG v q).2.1.gen q.limit) over) ∨
     ((doG v q).2.1.why = 23 ∧ wr (doG v q).2.1.gen + 1 ≤ li (doG v q).2.1.gen ∧ 0 ≤ wr (doG v q).2.1.gen ∧ li (doG v q).2.1.gen ≤ 32 ∧ (doG v q).2.1.left = li (doG v q).2.1.gen - (wr (doG v q).2.1.gen + 1) ∧ (doG v q).2.1.secret = [] ∧
      LimI (doG v q).1 (upd wr (doG v q).2.1.gen (wr (doG v q).2.1.gen + 1)) li (if wr (doG v q).2.1.gen + 1 = li (doG v q).2.1.gen then (doG v q).2.1.gen else over)) ∨
     ((doG v q).2.1.why ≠ 23 ∧ ¬ ((doG v q).2.1.why = 0 ∧ (q.op = 1 ∨ q.op = 3)) ∧ ((doG v q).2.1.secret ≠ [] → q.op = 2 ∧ (doG v q).2.1.why = 0 ∧ (doG v q).2.1.gen ≠ over ∧ q.pin = v.pin) ∧ LimI (doG v q).1 wr li over)) := by
  have hop : q.op = 1 ∨ q.op = 2 ∨ q.op = 3 ∨ q.op = 4 := by
    simp [rightQ] at hq
    have := hq.2
    repeat' split at this
    all_goals first | omega | simp at this
  have hgv := okV_gen hI.ok
  have esc : (q.op = 1 ∨ q.op = 3) → ¬ 1099511627776 ≤ v.gen → LimI ⟨q.iD, v.gen + 1, q.pin, q.secret, q.limit, 0, q.owner, false, false⟩ wr (upd li (v.gen + 1) q.limit) over := by
    intro ho hg
    refine ⟨okV_esc hI.ok hq ho hi hg, fun g h => hI.w0 g (by simp only at h; omega), fun g h => ?_, fun _ _ => ⟨by simp [upd], ?_, ?_⟩, ?_⟩
    · simp only at h
      simp only [upd]; rw [if_neg (by omega)]; exact hI.l0 g (by omega)
    · exact hI.w0 _ (by simp only; omega)
    · have := hI.ov; simp only; omega
    · have := hI.ov; simp only; omega
  have hl1 : li (v.gen + 1) = 0 := hI.l0 _ (by omega)
  have hmis : missV v q = 0 ∨ missV v q = 22 ∨ missV v q = 24 ∨ missV v q = 25 := by
    unfold missV
    repeat' split
    all_goals simp
  have hm : missV v q = 0 → v.gen ≠ 0 ∧ v.gone = false := by
    intro h; unfold missV at h
    split at h; cases h
    split at h; cases h
    exact ⟨by assumption, by simpa using (by assumption : ¬ v.gone = true)⟩
  have escC : ∀ r : Reply, r.why = 0 → r.secret = [] → (q.op = 1 ∨ q.op = 3) → ((escV v q r).2.2 = false → (escV v q r).1 = v) ∧
    (((escV v q r).2.1.why = 0 ∧ li (escV v q r).2.1.gen = 0 ∧ (escV v q r).2.1.secret = [] ∧ LimI (escV v q r).1 wr (upd li (escV v q r).2.1.gen q.limit) over) ∨ ((escV v q r).2.1.why = 31 ∧ (escV v q r).2.1.secret = [] ∧ (escV v q r).1 = v)) := by
    intro r h0 h1 ho
    unfold escV
    split
    · exact ⟨fun _ => rfl, .inr ⟨rfl, h1, rfl⟩⟩
    · rename_i hg
      exact ⟨fun h => (by cases h), .inl ⟨h0, hl1, h1, esc ho hg⟩⟩
  unfold doG
  split
  · rename_i ho
    split
    · exact ⟨fun _ => rfl, .inr (.inr ⟨by simp, by simp, by simp, hI⟩)⟩
    · obtain ⟨h1, h2 | h2⟩ := escC ⟨0, q.iD, v.gen, 0, [], q.client, q.num⟩ rfl rfl (.inl ho)
      · exact ⟨h1, .inl ⟨h2.1, .inl ho, h2.2⟩⟩
      · exact ⟨h1, .inr (.inr ⟨by rw [h2.1]; decide, by rw [h2.1]; simp, by rw [h2.2.1]; simp, by rw [h2.2.2]; exact hI⟩)⟩
  · rename_i ho
    split
    · rename_i hm0
      refine ⟨fun _ => rfl, .inr (.inr ⟨?_, ?_, by simp, hI⟩)⟩ <;> simp only <;> omega
    · rename_i hm0
      obtain ⟨hg0, hgo⟩ := hm (by simpa using hm0)
      obtain ⟨k1, k2, k3⟩ := hI.live hg0 hgo
      have hrv : rightV v = true := by
        rcases hI.ok with rfl | h
        · exact absurd rfl hg0
        · exact h.1
      have hu := right_used hrv hgo
      split
      · rename_i ho2
        unfold recV
        split
        · rename_i hp
          exact ⟨fun _ => rfl, .inr (.inr ⟨by simp, by simp only; omega, fun _ => ⟨ho2, rfl, fun h => k3 h.symm, hp⟩, hI⟩)⟩
        · split
          · rename_i hlast
            refine ⟨fun h => (by cases h), .inr (.inl ⟨rfl, ?_, ?_, ?_, ?_, rfl, ?_⟩)⟩
            · simp only [k1, k2]; omega
            · simp only [k2]; omega
            · simp only [k1]; omega
            · simp only [k1, k2]; omega
            · refine ⟨okV_gone hI.ok hg0 true, fun g h => ?_, fun g h => hI.l0 g h, fun _ h => (by cases h), ?_⟩
              · simp only [goneV] at h
                simp only [upd]; rw [if_neg (by omega)]; exact hI.w0 g h
              · simp only [goneV]
                have := hI.ov
                split <;> omega
          · rename_i hlast
            have hwr : (usedV v).gen = v.gen := rfl
            have huo := okV_used hI.ok hg0 hgo hlast
            have hr2 : rightV (usedV v) = true := by
              rcases huo with h | h
              · exact absurd (by rw [← hwr, h]; rfl) hg0
              · exact h.1
            have hlv : leftV (usedV v) = v.limit - (v.used + 1) := by
              unfold leftV
              rw [if_neg (by rw [hr2]; simp [usedV, hgo])]; rfl
            refine ⟨fun h => (by cases h), .inr (.inl ⟨rfl, ?_, ?_, ?_, ?_, rfl, ?_⟩)⟩
            · simp only [k1, k2]; omega
            · simp only [k2]; omega
            · simp only [k1]; omega
            · simp only [k1, k2, hlv]
            · refine ⟨huo, fun g h => ?_, fun g h => hI.l0 g h, fun _ _ => ⟨k1, ?_, ?_⟩, ?_⟩
              · rw [hwr] at h
                simp only [upd]; rw [if_neg (by omega)]; exact hI.w0 g h
              · simp only [upd, usedV, if_true, k2]
              · simp only [k1, k2, usedV]
                rw [if_neg hlast]; exact k3
              · simp only [k1, k2, usedV]
                rw [if_neg hlast]; exact hI.ov
      · rename_i ho2
        split
        · rename_i ho3
          obtain ⟨h1, h2 | h2⟩ := escC ⟨0, q.iD, v.gen, 0, [], q.client, q.num⟩ rfl rfl (.inr ho3)
          · exact ⟨h1, .inl ⟨h2.1, .inr ho3, h2.2⟩⟩
          · exact ⟨h1, .inr (.inr ⟨by rw [h2.1]; decide, by rw [h2.1]; simp, by rw [h2.2.1]; simp, by rw [h2.2.2]; exact hI⟩)⟩
        · rename_i ho3
          refine ⟨fun h => (by cases h), .inr (.inr ⟨by simp, by simp only; omega, by simp, ⟨okV_gone hI.ok hg0 false, hI.w0, hI.l0, fun _ h => (by cases h), hI.ov⟩⟩)⟩
theorem keepQ_lim (x : Q) (hx : x.wf) (id : Bs) : rightQ { keepQ x with iD := id, limit := min (keepQ x).limit 4 } = true := by
  have h := keepQ_right x hx id
  generalize keepQ x = q at h
  simp only [rightQ] at h ⊢
  simp only [Bool.and_eq_true] at h ⊢
  refine ⟨h.1, ?_⟩
  have h2 := h.2
  split <;> rename_i c1
  · rw [if_pos c1] at h2; simp at h2 ⊢; omega
  · rw [if_neg c1] at h2
    split <;> rename_i c2
    · rw [if_pos c2] at h2; simp at h2 ⊢
      exact ⟨⟨by omega, h2.1.2⟩, h2.2⟩
    · rw [if_neg c2] at h2
      split <;> rename_i c3
      · rw [if_pos c3] at h2; simp at h2 ⊢
        exact ⟨⟨by omega, h2.1.2⟩, h2.2⟩
      · rw [if_neg c3] at h2; exact h2
abbrev mkG : Int → V := fun n => .s (.int .u64 n)
set_option maxHeartbeats 1000000 in
theorem VaultLimit_run (l : List Q) (hl : l.length ≤ 140737488351232) (hb : ∀ x ∈ l, x.wf) :
    run fns pr 0 3 [.imm false (some 35) (l.map Q.enc)] [] = some (.s (.bool true), []) := by
  refine Vm.runP (nt := 145) rfl fit3 (by simp) ?_
  have hvb : (0 : Nat) = 0 := rfl
  try simp only [B3, B3R0, B3L0, zero4_a, zero16_a, o_mkm, go_sem, V.s.injEq, Value.bool.injEq, ↓reduceIte, Nat.reduceEqDiff, Nat.reduceBEq, Nat.reduceAdd, Nat.reduceSub, Nat.reduceLT, Nat.reduceLeDiff, Int.reduceLT, Int.reduceLE, Int.reduceEq, Int.reduceToNat, List.append_assoc, List.length_append, Vm.get_app, Vm.set_app, Vm.get_appL, Vm.get_appL0, Vm.set_appL, Vm.set_appL0, Nat.le_refl, Nat.le_add_right, okAt]
  repeat' (
    first | refine wpC_cases ?_ ?_ | refine wpU_casesT ?_ ?_ | refine wpU_casesF ?_ ?_
    all_goals intro hvc
    all_goals first | replace hvc := not_of_true hvc | replace hvc := not_of_false hvc | skip
    all_goals first | subst hvc | replace hvb := And.intro hvc hvb
    all_goals try simp only [hvb, B3, B3R0, B3L0, zero4_a, zero16_a, o_mkm, go_sem, V.s.injEq, Value.bool.injEq, ↓reduceIte, Nat.reduceEqDiff, Nat.reduceBEq, Nat.reduceAdd, Nat.reduceSub, Nat.reduceLT, Nat.reduceLeDiff, Int.reduceLT, Int.reduceLE, Int.reduceEq, Int.reduceToNat, List.append_assoc, List.length_append, Vm.get_app, Vm.set_app, Vm.get_appL, Vm.get_appL0, Vm.set_appL, Vm.set_appL0, Nat.le_refl, Nat.le_add_right, okAt])
  refine wp_for (fun m e h => ∃ i : Nat, m = 80 - i ∧ i ≤ 80 ∧ i ≤ l.length ∧ e 7 = .s (.int .i64 i) ∧ e 3 = .ptr 0 [0] 1 ∧ e 4 = .mp 1 ∧ e 5 = .mp 2 ∧ e 0 = .imm false (some 35) (l.map Q.enc) ∧
      ∃ v hr over B1 B2 wr li, e 6 = .s (.int .u64 over) ∧ h = .cells (some 29) [v.enc] :: B1 :: B2 :: hr ∧ MI none mkG B1 wr ∧ MI none mkG B2 li ∧ LimI v wr li over)
    (fun e h => True) 80 _ _ ⟨0, rfl, by omega, by omega, ?_, ?_, ?_, ?_, ?_, zeroV, [], 0, _, _, _, _, ?_, ?_, MI.new (KeyR.int .u64), MI.new (KeyR.int .u64), LimI.zero⟩ ?_ ?_
  rotate_right 2
  · rintro m e h ⟨i, rfl, hi, hil, e7, e3, e4, e5, e0', v, hr, over, B1, B2, wr, li, e6, rfl, m1, m2, hI⟩
    by_cases c1 : i < l.length
    case neg =>
      have c1' : ¬ (i : Int) < l.length := by omega
      have hvb : (0 : Nat) = 0 := rfl
      try simp only [e7, e3, e0', c1', go_sem, V.s.injEq, Value.bool.injEq, ↓reduceIte, Nat.reduceEqDiff, Nat.reduceBEq, Nat.reduceAdd, Nat.reduceSub, Nat.reduceLT, Nat.reduceLeDiff, Int.reduceLT, Int.reduceLE, Int.reduceEq, Int.reduceToNat, List.append_assoc, List.length_append, Vm.get_app, Vm.set_app, Vm.get_appL, Vm.get_appL0, Vm.set_appL, Vm.set_appL0, Nat.le_refl, Nat.le_add_right, okAt]
      repeat' (
        first | refine wpC_cases ?_ ?_ | refine wpU_casesT ?_ ?_ | refine wpU_casesF ?_ ?_
        all_goals intro hvc
        all_goals first | replace hvc := not_of_true hvc | replace hvc := not_of_false hvc | skip
        all_goals first | subst hvc | replace hvb := And.intro hvc hvb
        all_goals try simp only [hvb, e7, e3, e0', c1', go_sem, V.s.injEq, Value.bool.injEq, ↓reduceIte, Nat.reduceEqDiff, Nat.reduceBEq, Nat.reduceAdd, Nat.reduceSub, Nat.reduceLT, Nat.reduceLeDiff, Int.reduceLT, Int.reduceLE, Int.reduceEq, Int.reduceToNat, List.append_assoc, List.length_append, Vm.get_app, Vm.set_app, Vm.get_appL, Vm.get_appL0, Vm.set_appL, Vm.set_appL0, Nat.le_refl, Nat.le_add_right, okAt])
    by_cases c2 : i < 80
    case neg =>
      have c1' : (i : Int) < l.length := by omega
      have c2' : ¬ (i : Int) < 80 := by omega
      have hvb : (0 : Nat) = 0 := rfl
      try simp only [e7, e3, e0', c1', c2', go_sem, V.s.injEq, Value.bool.injEq, ↓reduceIte, Nat.reduceEqDiff, Nat.reduceBEq, Nat.reduceAdd, Nat.reduceSub, Nat.reduceLT, Nat.reduceLeDiff, Int.reduceLT, Int.reduceLE, Int.reduceEq, Int.reduceToNat, List.append_assoc, List.length_append, Vm.get_app, Vm.set_app, Vm.get_appL, Vm.get_appL0, Vm.set_appL, Vm.set_appL0, Nat.le_refl, Nat.le_add_right, okAt]
      repeat' (
        first | refine wpC_cases ?_ ?_ | refine wpU_casesT ?_ ?_ | refine wpU_casesF ?_ ?_
        all_goals intro hvc
        all_goals first | replace hvc := not_of_true hvc | replace hvc := not_of_false hvc | skip
        all_goals first | subst hvc | replace hvb := And.intro hvc hvb
        all_goals try simp only [hvb, e7, e3, e0', c1', c2', go_sem, V.s.injEq, Value.bool.injEq, ↓reduceIte, Nat.reduceEqDiff, Nat.reduceBEq, Nat.reduceAdd, Nat.reduceSub, Nat.reduceLT, Nat.reduceLeDiff, Int.reduceLT, Int.reduceLE, Int.reduceEq, Int.reduceToNat, List.append_assoc, List.length_append, Vm.get_app, Vm.set_app, Vm.get_appL, Vm.get_appL0, Vm.set_appL, Vm.set_appL0, Nat.le_refl, Nat.le_add_right, okAt])
    have c1' : (i : Int) < l.length := by omega
    have c2' : (i : Int) < 80 := by omega
    have hi0 : (0 : Int) ≤ i := by omega
    have hwr : IntKind.i64.wrap ((i : Int) + 1) = ((i + 1 : Nat) : Int) := wrap_small (by omega)
    have hx : l[i]? = some l[i] := List.getElem?_eq_getElem c1
    have hxm : l[i] ∈ l := List.getElem_mem _
    generalize l[i] = x at hx hxm
    have hxw := hb x hxm
    have hq := fun h' => Request_ok 0 h' x hxw
    have hqr := keepQ_lim x hxw id1
    generalize keepQ x = q at hq hqr
    obtain ⟨op, qid, pin, se, lim, ow, ky, cl, nu⟩ := q
    have hgv := okV_gen hI.ok
    have hd := fun h' f g => Do_good 0 h' f g v _ hgv.1 hqr hI.ok
    obtain ⟨f1, f2⟩ := lim_step hI hqr rfl
    have hgr := (doG_facts hI.ok hqr rfl).2.2.2.1
    have hgr2 := okV_gen (doG_facts hI.ok hqr rfl).2.2.2.2.1
    simp only at f1 f2 hgr hgr2
    generalize doG v _ = o at hd f1 f2 hgr hgr2
    obtain ⟨w, ⟨why, rid, rgen, rleft, rse, rcl, rnu⟩, c⟩ := o
    simp only at f1 f2 hgr hgr2
    have hs := fun h' f g => rSame_ok 0 h' f g w v
    have k1 := fun cf base h id (hh : h[id]? = some B1) => m1.lku (cf := cf) (base := base) (h := h) (id := id) rgen hh
    have k2 := fun cf base h id (hh : h[id]? = some B2) => m2.lku (cf := cf) (base := base) (h := h) (id := id) rgen hh
    simp only [Request.enc, Request.encF, Reply.enc, outV] at hq hd
    have hc : (c = false ∧ w = v) ∨ c = true := by
      cases c
      · exact .inl ⟨rfl, f1 rfl⟩
      · exact .inr rfl
    rcases hc with ⟨rfl, rfl⟩ | rfl
    · obtain ⟨wid, wgen, wpin, wse, wli, wus, wow, wgo, wwi⟩ := w
      simp only [Vault.encF, Vault.enc] at hd hs ⊢
      simp only at hgr hgr2 hgv
      simp only [eq_self, decide_true] at hs
      rcases f2 with ⟨rfl, rfl | rfl, g0, rfl, hI'⟩ | ⟨rfl, g1, g2, g3, rfl, rfl, hI'⟩ | ⟨g1, g2, g3, hI'⟩
      · obtain ⟨B2', m2', u2⟩ := m2.mup rgen (min lim 4)
        clear hqr hI
        have hvb : (0 : Nat) = 0 := rfl
        try simp only [Q_ty, e7, e3, e4, e5, e6, e0', c1', c2', hi0, hwr, Int.toNat_natCast, List.getElem?_map, hx, hq, hd, hs, o_eqaB, zero4_a, zero16_a, id1_v, List.length_cons, List.getElem?_cons_zero, List.getElem?_cons_succ, List.set_cons_succ, List.set_cons_zero, List.cons_append, Option.map_some, show ((0 : Nat) : Int) = 0 from rfl, Int.lt_irrefl, k1, k2, u2, g0, go_sem, V.s.injEq, Value.bool.injEq, ↓reduceIte, Nat.reduceEqDiff, Nat.reduceBEq, Nat.reduceAdd, Nat.reduceSub, Nat.reduceLT, Nat.reduceLeDiff, Int.reduceLT, Int.reduceLE, Int.reduceEq, Int.reduceToNat, List.append_assoc, List.length_append, Vm.get_app, Vm.set_app, Vm.get_appL, Vm.get_appL0, Vm.set_appL, Vm.set_appL0, Nat.le_refl, Nat.le_add_right, okAt]
        repeat' (
          first | refine wpC_cases ?_ ?_ | refine wpU_casesT ?_ ?_ | refine wpU_casesF ?_ ?_
          all_goals intro hvc
          all_goals first | replace hvc := not_of_true hvc | replace hvc := not_of_false hvc | skip
          all_goals first | subst hvc | replace hvb := And.intro hvc hvb
          all_goals try simp only [hvb, Q_ty, e7, e3, e4, e5, e6, e0', c1', c2', hi0, hwr, Int.toNat_natCast, List.getElem?_map, hx, hq, hd, hs, o_eqaB, zero4_a, zero16_a, id1_v, List.length_cons, List.getElem?_cons_zero, List.getElem?_cons_succ, List.set_cons_succ, List.set_cons_zero, List.cons_append, Option.map_some, show ((0 : Nat) : Int) = 0 from rfl, Int.lt_irrefl, k1, k2, u2, g0, go_sem, V.s.injEq, Value.bool.injEq, ↓reduceIte, Nat.reduceEqDiff, Nat.reduceBEq, Nat.reduceAdd, Nat.reduceSub, Nat.reduceLT, Nat.reduceLeDiff, Int.reduceLT, Int.reduceLE, Int.reduceEq, Int.reduceToNat, List.append_assoc, List.length_append, Vm.get_app, Vm.set_app, Vm.get_appL, Vm.get_appL0, Vm.set_appL, Vm.set_appL0, Nat.le_refl, Nat.le_add_right, okAt])
        all_goals exact ⟨80 - (i + 1), by omega, i + 1, rfl, by omega, by omega, rfl, ⟨wid, wgen, wpin, wse, wli, wus, wow, wgo, wwi⟩, _, over, B1, B2', wr, _, rfl, rfl, m1, m2', hI'⟩
      · obtain ⟨B2', m2', u2⟩ := m2.mup rgen (min lim 4)
        clear hqr hI
        have hvb : (0 : Nat) = 0 := rfl
        try simp only [Q_ty, e7, e3, e4, e5, e6, e0', c1', c2', hi0, hwr, Int.toNat_natCast, List.getElem?_map, hx, hq, hd, hs, o_eqaB, zero4_a, zero16_a, id1_v, List.length_cons, List.getElem?_cons_zero, List.getElem?_cons_succ, List.set_cons_succ, List.set_cons_zero, List.cons_append, Option.map_some, show ((0 : Nat) : Int) = 0 from rfl, Int.lt_irrefl, k1, k2, u2, g0, go_sem, V.s.injEq, Value.bool.injEq, ↓reduceIte, Nat.reduceEqDiff, Nat.reduceBEq, Nat.reduceAdd, Nat.reduceSub, Nat.reduceLT, Nat.reduceLeDiff, Int.reduceLT, Int.reduceLE, Int.reduceEq, Int.reduceToNat, List.append_assoc, List.length_append, Vm.get_app, Vm.set_app, Vm.get_appL, Vm.get_appL0, Vm.set_appL, Vm.set_appL0, Nat.le_refl, Nat.le_add_right, okAt]
        repeat' (
          first | refine wpC_cases ?_ ?_ | refine wpU_casesT ?_ ?_ | refine wpU_casesF ?_ ?_
          all_goals intro hvc
          all_goals first | replace hvc := not_of_true hvc | replace hvc := not_of_false hvc | skip
          all_goals first | subst hvc | replace hvb := And.intro hvc hvb
          all_goals try simp only [hvb, Q_ty, e7, e3, e4, e5, e6, e0', c1', c2', hi0, hwr, Int.toNat_natCast, List.getElem?_map, hx, hq, hd, hs, o_eqaB, zero4_a, zero16_a, id1_v, List.length_cons, List.getElem?_cons_zero, List.getElem?_cons_succ, List.set_cons_succ, List.set_cons_zero, List.cons_append, Option.map_some, show ((0 : Nat) : Int) = 0 from rfl, Int.lt_irrefl, k1, k2, u2, g0, go_sem, V.s.injEq, Value.bool.injEq, ↓reduceIte, Nat.reduceEqDiff, Nat.reduceBEq, Nat.reduceAdd, Nat.reduceSub, Nat.reduceLT, Nat.reduceLeDiff, Int.reduceLT, Int.reduceLE, Int.reduceEq, Int.reduceToNat, List.append_assoc, List.length_append, Vm.get_app, Vm.set_app, Vm.get_appL, Vm.get_appL0, Vm.set_appL, Vm.set_appL0, Nat.le_refl, Nat.le_add_right, okAt])
        all_goals exact ⟨80 - (i + 1), by omega, i + 1, rfl, by omega, by omega, rfl, ⟨wid, wgen, wpin, wse, wli, wus, wow, wgo, wwi⟩, _, over, B1, B2', wr, _, rfl, rfl, m1, m2', hI'⟩
      · obtain ⟨B1', m1', u1⟩ := m1.mup rgen (wr rgen + 1)
        have k1' := fun cf base h id (hh : h[id]? = some B1') => m1'.lku (cf := cf) (base := base) (h := h) (id := id) rgen hh
        simp only [if_true] at k1'
        have wa : IntKind.i64.wrap (wr rgen + 1) = wr rgen + 1 := wrap_i64 (by omega) (by omega)
        have ws : IntKind.i64.wrap (li rgen - (wr rgen + 1)) = li rgen - (wr rgen + 1) := wrap_i64 (by omega) (by omega)
        have nl : ¬ li rgen < wr rgen + 1 := by omega
        clear hqr hI
        by_cases ce : wr rgen + 1 = li rgen
        · rw [if_pos ce] at hI'
          have hce := decide_eq_true ce
          have hvb : (0 : Nat) = 0 := rfl
          try simp only [Q_ty, e7, e3, e4, e5, e6, e0', c1', c2', hi0, hwr, Int.toNat_natCast, List.getElem?_map, hx, hq, hd, hs, o_eqaB, zero4_a, zero16_a, id1_v, List.length_cons, List.getElem?_cons_zero, List.getElem?_cons_succ, List.set_cons_succ, List.set_cons_zero, List.cons_append, Option.map_some, show ((0 : Nat) : Int) = 0 from rfl, Int.lt_irrefl, k1, k2, k1', u1, wa, ws, nl, hce, go_sem, V.s.injEq, Value.bool.injEq, ↓reduceIte, Nat.reduceEqDiff, Nat.reduceBEq, Nat.reduceAdd, Nat.reduceSub, Nat.reduceLT, Nat.reduceLeDiff, Int.reduceLT, Int.reduceLE, Int.reduceEq, Int.reduceToNat, List.append_assoc, List.length_append, Vm.get_app, Vm.set_app, Vm.get_appL, Vm.get_appL0, Vm.set_appL, Vm.set_appL0, Nat.le_refl, Nat.le_add_right, okAt]
          repeat' (
            first | refine wpC_cases ?_ ?_ | refine wpU_casesT ?_ ?_ | refine wpU_casesF ?_ ?_
            all_goals intro hvc
            all_goals first | replace hvc := not_of_true hvc | replace hvc := not_of_false hvc | skip
            all_goals first | subst hvc | replace hvb := And.intro hvc hvb
            all_goals try simp only [hvb, Q_ty, e7, e3, e4, e5, e6, e0', c1', c2', hi0, hwr, Int.toNat_natCast, List.getElem?_map, hx, hq, hd, hs, o_eqaB, zero4_a, zero16_a, id1_v, List.length_cons, List.getElem?_cons_zero, List.getElem?_cons_succ, List.set_cons_succ, List.set_cons_zero, List.cons_append, Option.map_some, show ((0 : Nat) : Int) = 0 from rfl, Int.lt_irrefl, k1, k2, k1', u1, wa, ws, nl, hce, go_sem, V.s.injEq, Value.bool.injEq, ↓reduceIte, Nat.reduceEqDiff, Nat.reduceBEq, Nat.reduceAdd, Nat.reduceSub, Nat.reduceLT, Nat.reduceLeDiff, Int.reduceLT, Int.reduceLE, Int.reduceEq, Int.reduceToNat, List.append_assoc, List.length_append, Vm.get_app, Vm.set_app, Vm.get_appL, Vm.get_appL0, Vm.set_appL, Vm.set_appL0, Nat.le_refl, Nat.le_add_right, okAt])
          all_goals exact ⟨80 - (i + 1), by omega, i + 1, rfl, by omega, by omega, rfl, ⟨wid, wgen, wpin, wse, wli, wus, wow, wgo, wwi⟩, _, _, B1', B2, _, li, rfl, rfl, m1', m2, hI'⟩
        · rw [if_neg ce] at hI'
          have hce := decide_eq_false ce
          have hvb : (0 : Nat) = 0 := rfl
          try simp only [Q_ty, e7, e3, e4, e5, e6, e0', c1', c2', hi0, hwr, Int.toNat_natCast, List.getElem?_map, hx, hq, hd, hs, o_eqaB, zero4_a, zero16_a, id1_v, List.length_cons, List.getElem?_cons_zero, List.getElem?_cons_succ, List.set_cons_succ, List.set_cons_zero, List.cons_append, Option.map_some, show ((0 : Nat) : Int) = 0 from rfl, Int.lt_irrefl, k1, k2, k1', u1, wa, ws, nl, hce, go_sem, V.s.injEq, Value.bool.injEq, ↓reduceIte, Nat.reduceEqDiff, Nat.reduceBEq, Nat.reduceAdd, Nat.reduceSub, Nat.reduceLT, Nat.reduceLeDiff, Int.reduceLT, Int.reduceLE, Int.reduceEq, Int.reduceToNat, List.append_assoc, List.length_append, Vm.get_app, Vm.set_app, Vm.get_appL, Vm.get_appL0, Vm.set_appL, Vm.set_appL0, Nat.le_refl, Nat.le_add_right, okAt]
          repeat' (
            first | refine wpC_cases ?_ ?_ | refine wpU_casesT ?_ ?_ | refine wpU_casesF ?_ ?_
            all_goals intro hvc
            all_goals first | replace hvc := not_of_true hvc | replace hvc := not_of_false hvc | skip
            all_goals first | subst hvc | replace hvb := And.intro hvc hvb
            all_goals try simp only [hvb, Q_ty, e7, e3, e4, e5, e6, e0', c1', c2', hi0, hwr, Int.toNat_natCast, List.getElem?_map, hx, hq, hd, hs, o_eqaB, zero4_a, zero16_a, id1_v, List.length_cons, List.getElem?_cons_zero, List.getElem?_cons_succ, List.set_cons_succ, List.set_cons_zero, List.cons_append, Option.map_some, show ((0 : Nat) : Int) = 0 from rfl, Int.lt_irrefl, k1, k2, k1', u1, wa, ws, nl, hce, go_sem, V.s.injEq, Value.bool.injEq, ↓reduceIte, Nat.reduceEqDiff, Nat.reduceBEq, Nat.reduceAdd, Nat.reduceSub, Nat.reduceLT, Nat.reduceLeDiff, Int.reduceLT, Int.reduceLE, Int.reduceEq, Int.reduceToNat, List.append_assoc, List.length_append, Vm.get_app, Vm.set_app, Vm.get_appL, Vm.get_appL0, Vm.set_appL, Vm.set_appL0, Nat.le_refl, Nat.le_add_right, okAt])
          all_goals exact ⟨80 - (i + 1), by omega, i + 1, rfl, by omega, by omega, rfl, ⟨wid, wgen, wpin, wse, wli, wus, wow, wgo, wwi⟩, _, _, B1', B2, _, li, rfl, rfl, m1', m2, hI'⟩
      · clear hqr hI
        have g4 : 0 < (rse.length : Int) → op = 2 ∧ why = 0 ∧ ¬ rgen = over ∧ pin = wpin := fun h => g3 (by intro e; subst e; simp at h)
        have hvb : (0 : Nat) = 0 := rfl
        try simp only [Q_ty, e7, e3, e4, e5, e6, e0', c1', c2', hi0, hwr, Int.toNat_natCast, List.getElem?_map, hx, hq, hd, hs, o_eqaB, zero4_a, zero16_a, id1_v, List.length_cons, List.getElem?_cons_zero, List.getElem?_cons_succ, List.set_cons_succ, List.set_cons_zero, List.cons_append, Option.map_some, show ((0 : Nat) : Int) = 0 from rfl, Int.lt_irrefl, k1, k2, g1, go_sem, V.s.injEq, Value.bool.injEq, ↓reduceIte, Nat.reduceEqDiff, Nat.reduceBEq, Nat.reduceAdd, Nat.reduceSub, Nat.reduceLT, Nat.reduceLeDiff, Int.reduceLT, Int.reduceLE, Int.reduceEq, Int.reduceToNat, List.append_assoc, List.length_append, Vm.get_app, Vm.set_app, Vm.get_appL, Vm.get_appL0, Vm.set_appL, Vm.set_appL0, Nat.le_refl, Nat.le_add_right, okAt]
        repeat' (
          first | refine wpC_cases ?_ ?_ | refine wpU_casesT ?_ ?_ | refine wpU_casesF ?_ ?_
          all_goals intro hvc
          all_goals first | replace hvc := not_of_true hvc | replace hvc := not_of_false hvc | skip
          all_goals first | subst hvc | replace hvb := And.intro hvc hvb
          all_goals try simp only [hvb, Q_ty, e7, e3, e4, e5, e6, e0', c1', c2', hi0, hwr, Int.toNat_natCast, List.getElem?_map, hx, hq, hd, hs, o_eqaB, zero4_a, zero16_a, id1_v, List.length_cons, List.getElem?_cons_zero, List.getElem?_cons_succ, List.set_cons_succ, List.set_cons_zero, List.cons_append, Option.map_some, show ((0 : Nat) : Int) = 0 from rfl, Int.lt_irrefl, k1, k2, g1, go_sem, V.s.injEq, Value.bool.injEq, ↓reduceIte, Nat.reduceEqDiff, Nat.reduceBEq, Nat.reduceAdd, Nat.reduceSub, Nat.reduceLT, Nat.reduceLeDiff, Int.reduceLT, Int.reduceLE, Int.reduceEq, Int.reduceToNat, List.append_assoc, List.length_append, Vm.get_app, Vm.set_app, Vm.get_appL, Vm.get_appL0, Vm.set_appL, Vm.set_appL0, Nat.le_refl, Nat.le_add_right, okAt])
        all_goals first
          | exact ⟨80 - (i + 1), by omega, i + 1, rfl, by omega, by omega, rfl, ⟨wid, wgen, wpin, wse, wli, wus, wow, wgo, wwi⟩, _, over, B1, B2, wr, li, rfl, rfl, m1, m2, hI'⟩
          | (exfalso; clear hd hs hq k1 k2 m1 m2 hI' hb hx hl hgr hgr2 hgv hxw e7 e3 e4 e5 e6 e0' f1; simp_all; done)
    · obtain ⟨wid, wgen, wpin, wse, wli, wus, wow, wgo, wwi⟩ := w
      obtain ⟨vid, vgen, vpin, vse, vli, vus, vow, vgo, vwi⟩ := v
      simp only [Vault.encF, Vault.enc] at hd hs ⊢
      simp only at hgr hgr2 hgv
      rcases f2 with ⟨rfl, rfl | rfl, g0, rfl, hI'⟩ | ⟨rfl, g1, g2, g3, rfl, rfl, hI'⟩ | ⟨g1, g2, g3, hI'⟩
      · obtain ⟨B2', m2', u2⟩ := m2.mup rgen (min lim 4)
        clear hqr hI
        have hvb : (0 : Nat) = 0 := rfl
        try simp only [Q_ty, e7, e3, e4, e5, e6, e0', c1', c2', hi0, hwr, Int.toNat_natCast, List.getElem?_map, hx, hq, hd, hs, o_eqaB, zero4_a, zero16_a, id1_v, List.length_cons, List.getElem?_cons_zero, List.getElem?_cons_succ, List.set_cons_succ, List.set_cons_zero, List.cons_append, Option.map_some, show ((0 : Nat) : Int) = 0 from rfl, Int.lt_irrefl, k1, k2, u2, g0, go_sem, V.s.injEq, Value.bool.injEq, ↓reduceIte, Nat.reduceEqDiff, Nat.reduceBEq, Nat.reduceAdd, Nat.reduceSub, Nat.reduceLT, Nat.reduceLeDiff, Int.reduceLT, Int.reduceLE, Int.reduceEq, Int.reduceToNat, List.append_assoc, List.length_append, Vm.get_app, Vm.set_app, Vm.get_appL, Vm.get_appL0, Vm.set_appL, Vm.set_appL0, Nat.le_refl, Nat.le_add_right, okAt]
        repeat' (
          first | refine wpC_cases ?_ ?_ | refine wpU_casesT ?_ ?_ | refine wpU_casesF ?_ ?_
          all_goals intro hvc
          all_goals first | replace hvc := not_of_true hvc | replace hvc := not_of_false hvc | skip
          all_goals first | subst hvc | replace hvb := And.intro hvc hvb
          all_goals try simp only [hvb, Q_ty, e7, e3, e4, e5, e6, e0', c1', c2', hi0, hwr, Int.toNat_natCast, List.getElem?_map, hx, hq, hd, hs, o_eqaB, zero4_a, zero16_a, id1_v, List.length_cons, List.getElem?_cons_zero, List.getElem?_cons_succ, List.set_cons_succ, List.set_cons_zero, List.cons_append, Option.map_some, show ((0 : Nat) : Int) = 0 from rfl, Int.lt_irrefl, k1, k2, u2, g0, go_sem, V.s.injEq, Value.bool.injEq, ↓reduceIte, Nat.reduceEqDiff, Nat.reduceBEq, Nat.reduceAdd, Nat.reduceSub, Nat.reduceLT, Nat.reduceLeDiff, Int.reduceLT, Int.reduceLE, Int.reduceEq, Int.reduceToNat, List.append_assoc, List.length_append, Vm.get_app, Vm.set_app, Vm.get_appL, Vm.get_appL0, Vm.set_appL, Vm.set_appL0, Nat.le_refl, Nat.le_add_right, okAt])
        all_goals exact ⟨80 - (i + 1), by omega, i + 1, rfl, by omega, by omega, rfl, ⟨wid, wgen, wpin, wse, wli, wus, wow, wgo, wwi⟩, _, over, B1, B2', wr, _, rfl, rfl, m1, m2', hI'⟩
      · obtain ⟨B2', m2', u2⟩ := m2.mup rgen (min lim 4)
        clear hqr hI
        have hvb : (0 : Nat) = 0 := rfl
        try simp only [Q_ty, e7, e3, e4, e5, e6, e0', c1', c2', hi0, hwr, Int.toNat_natCast, List.getElem?_map, hx, hq, hd, hs, o_eqaB, zero4_a, zero16_a, id1_v, List.length_cons, List.getElem?_cons_zero, List.getElem?_cons_succ, List.set_cons_succ, List.set_cons_zero, List.cons_append, Option.map_some, show ((0 : Nat) : Int) = 0 from rfl, Int.lt_irrefl, k1, k2, u2, g0, go_sem, V.s.injEq, Value.bool.injEq, ↓reduceIte, Nat.reduceEqDiff, Nat.reduceBEq, Nat.reduceAdd, Nat.reduceSub, Nat.reduceLT, Nat.reduceLeDiff, Int.reduceLT, Int.reduceLE, Int.reduceEq, Int.reduceToNat, List.append_assoc, List.length_append, Vm.get_app, Vm.set_app, Vm.get_appL, Vm.get_appL0, Vm.set_appL, Vm.set_appL0, Nat.le_refl, Nat.le_add_right, okAt]
        repeat' (
          first | refine wpC_cases ?_ ?_ | refine wpU_casesT ?_ ?_ | refine wpU_casesF ?_ ?_
          all_goals intro hvc
          all_goals first | replace hvc := not_of_true hvc | replace hvc := not_of_false hvc | skip
          all_goals first | subst hvc | replace hvb := And.intro hvc hvb
          all_goals try simp only [hvb, Q_ty, e7, e3, e4, e5, e6, e0', c1', c2', hi0, hwr, Int.toNat_natCast, List.getElem?_map, hx, hq, hd, hs, o_eqaB, zero4_a, zero16_a, id1_v, List.length_cons, List.getElem?_cons_zero, List.getElem?_cons_succ, List.set_cons_succ, List.set_cons_zero, List.cons_append, Option.map_some, show ((0 : Nat) : Int) = 0 from rfl, Int.lt_irrefl, k1, k2, u2, g0, go_sem, V.s.injEq, Value.bool.injEq, ↓reduceIte, Nat.reduceEqDiff, Nat.reduceBEq, Nat.reduceAdd, Nat.reduceSub, Nat.reduceLT, Nat.reduceLeDiff, Int.reduceLT, Int.reduceLE, Int.reduceEq, Int.reduceToNat, List.append_assoc, List.length_append, Vm.get_app, Vm.set_app, Vm.get_appL, Vm.get_appL0, Vm.set_appL, Vm.set_appL0, Nat.le_refl, Nat.le_add_right, okAt])
        all_goals exact ⟨80 - (i + 1), by omega, i + 1, rfl, by omega, by omega, rfl, ⟨wid, wgen, wpin, wse, wli, wus, wow, wgo, wwi⟩, _, over, B1, B2', wr, _, rfl, rfl, m1, m2', hI'⟩
      · obtain ⟨B1', m1', u1⟩ := m1.mup rgen (wr rgen + 1)
        have k1' := fun cf base h id (hh : h[id]? = some B1') => m1'.lku (cf := cf) (base := base) (h := h) (id := id) rgen hh
        simp only [if_true] at k1'
        have wa : IntKind.i64.wrap (wr rgen + 1) = wr rgen + 1 := wrap_i64 (by omega) (by omega)
        have ws : IntKind.i64.wrap (li rgen - (wr rgen + 1)) = li rgen - (wr rgen + 1) := wrap_i64 (by omega) (by omega)
        have nl : ¬ li rgen < wr rgen + 1 := by omega
        clear hqr hI
        by_cases ce : wr rgen + 1 = li rgen
        · rw [if_pos ce] at hI'
          have hce := decide_eq_true ce
          have hvb : (0 : Nat) = 0 := rfl
          try simp only [Q_ty, e7, e3, e4, e5, e6, e0', c1', c2', hi0, hwr, Int.toNat_natCast, List.getElem?_map, hx, hq, hd, hs, o_eqaB, zero4_a, zero16_a, id1_v, List.length_cons, List.getElem?_cons_zero, List.getElem?_cons_succ, List.set_cons_succ, List.set_cons_zero, List.cons_append, Option.map_some, show ((0 : Nat) : Int) = 0 from rfl, Int.lt_irrefl, k1, k2, k1', u1, wa, ws, nl, hce, go_sem, V.s.injEq, Value.bool.injEq, ↓reduceIte, Nat.reduceEqDiff, Nat.reduceBEq, Nat.reduceAdd, Nat.reduceSub, Nat.reduceLT, Nat.reduceLeDiff, Int.reduceLT, Int.reduceLE, Int.reduceEq, Int.reduceToNat, List.append_assoc, List.length_append, Vm.get_app, Vm.set_app, Vm.get_appL, Vm.get_appL0, Vm.set_appL, Vm.set_appL0, Nat.le_refl, Nat.le_add_right, okAt]
          repeat' (
            first | refine wpC_cases ?_ ?_ | refine wpU_casesT ?_ ?_ | refine wpU_casesF ?_ ?_
            all_goals intro hvc
            all_goals first | replace hvc := not_of_true hvc | replace hvc := not_of_false hvc | skip
            all_goals first | subst hvc | replace hvb := And.intro hvc hvb
            all_goals try simp only [hvb, Q_ty, e7, e3, e4, e5, e6, e0', c1', c2', hi0, hwr, Int.toNat_natCast, List.getElem?_map, hx, hq, hd, hs, o_eqaB, zero4_a, zero16_a, id1_v, List.length_cons, List.getElem?_cons_zero, List.getElem?_cons_succ, List.set_cons_succ, List.set_cons_zero, List.cons_append, Option.map_some, show ((0 : Nat) : Int) = 0 from rfl, Int.lt_irrefl, k1, k2, k1', u1, wa, ws, nl, hce, go_sem, V.s.injEq, Value.bool.injEq, ↓reduceIte, Nat.reduceEqDiff, Nat.reduceBEq, Nat.reduceAdd, Nat.reduceSub, Nat.reduceLT, Nat.reduceLeDiff, Int.reduceLT, Int.reduceLE, Int.reduceEq, Int.reduceToNat, List.append_assoc, List.length_append, Vm.get_app, Vm.set_app, Vm.get_appL, Vm.get_appL0, Vm.set_appL, Vm.set_appL0, Nat.le_refl, Nat.le_add_right, okAt])
          all_goals exact ⟨80 - (i + 1), by omega, i + 1, rfl, by omega, by omega, rfl, ⟨wid, wgen, wpin, wse, wli, wus, wow, wgo, wwi⟩, _, _, B1', B2, _, li, rfl, rfl, m1', m2, hI'⟩
        · rw [if_neg ce] at hI'
          have hce := decide_eq_false ce
          have hvb : (0 : Nat) = 0 := rfl
          try simp only [Q_ty, e7, e3, e4, e5, e6, e0', c1', c2', hi0, hwr, Int.toNat_natCast, List.getElem?_map, hx, hq, hd, hs, o_eqaB, zero4_a, zero16_a, id1_v, List.length_cons, List.getElem?_cons_zero, List.getElem?_cons_succ, List.set_cons_succ, List.set_cons_zero, List.cons_append, Option.map_some, show ((0 : Nat) : Int) = 0 from rfl, Int.lt_irrefl, k1, k2, k1', u1, wa, ws, nl, hce, go_sem, V.s.injEq, Value.bool.injEq, ↓reduceIte, Nat.reduceEqDiff, Nat.reduceBEq, Nat.reduceAdd, Nat.reduceSub, Nat.reduceLT, Nat.reduceLeDiff, Int.reduceLT, Int.reduceLE, Int.reduceEq, Int.reduceToNat, List.append_assoc, List.length_append, Vm.get_app, Vm.set_app, Vm.get_appL, Vm.get_appL0, Vm.set_appL, Vm.set_appL0, Nat.le_refl, Nat.le_add_right, okAt]
          repeat' (
            first | refine wpC_cases ?_ ?_ | refine wpU_casesT ?_ ?_ | refine wpU_casesF ?_ ?_
            all_goals intro hvc
            all_goals first | replace hvc := not_of_true hvc | replace hvc := not_of_false hvc | skip
            all_goals first | subst hvc | replace hvb := And.intro hvc hvb
            all_goals try simp only [hvb, Q_ty, e7, e3, e4, e5, e6, e0', c1', c2', hi0, hwr, Int.toNat_natCast, List.getElem?_map, hx, hq, hd, hs, o_eqaB, zero4_a, zero16_a, id1_v, List.length_cons, List.getElem?_cons_zero, List.getElem?_cons_succ, List.set_cons_succ, List.set_cons_zero, List.cons_append, Option.map_some, show ((0 : Nat) : Int) = 0 from rfl, Int.lt_irrefl, k1, k2, k1', u1, wa, ws, nl, hce, go_sem, V.s.injEq, Value.bool.injEq, ↓reduceIte, Nat.reduceEqDiff, Nat.reduceBEq, Nat.reduceAdd, Nat.reduceSub, Nat.reduceLT, Nat.reduceLeDiff, Int.reduceLT, Int.reduceLE, Int.reduceEq, Int.reduceToNat, List.append_assoc, List.length_append, Vm.get_app, Vm.set_app, Vm.get_appL, Vm.get_appL0, Vm.set_appL, Vm.set_appL0, Nat.le_refl, Nat.le_add_right, okAt])
          all_goals exact ⟨80 - (i + 1), by omega, i + 1, rfl, by omega, by omega, rfl, ⟨wid, wgen, wpin, wse, wli, wus, wow, wgo, wwi⟩, _, _, B1', B2, _, li, rfl, rfl, m1', m2, hI'⟩
      · clear hqr hI
        have g4 : 0 < (rse.length : Int) → op = 2 ∧ why = 0 ∧ ¬ rgen = over ∧ pin = vpin := fun h => g3 (by intro e; subst e; simp at h)
        have hvb : (0 : Nat) = 0 := rfl
        try simp only [Q_ty, e7, e3, e4, e5, e6, e0', c1', c2', hi0, hwr, Int.toNat_natCast, List.getElem?_map, hx, hq, hd, hs, o_eqaB, zero4_a, zero16_a, id1_v, List.length_cons, List.getElem?_cons_zero, List.getElem?_cons_succ, List.set_cons_succ, List.set_cons_zero, List.cons_append, Option.map_some, show ((0 : Nat) : Int) = 0 from rfl, Int.lt_irrefl, k1, k2, g1, go_sem, V.s.injEq, Value.bool.injEq, ↓reduceIte, Nat.reduceEqDiff, Nat.reduceBEq, Nat.reduceAdd, Nat.reduceSub, Nat.reduceLT, Nat.reduceLeDiff, Int.reduceLT, Int.reduceLE, Int.reduceEq, Int.reduceToNat, List.append_assoc, List.length_append, Vm.get_app, Vm.set_app, Vm.get_appL, Vm.get_appL0, Vm.set_appL, Vm.set_appL0, Nat.le_refl, Nat.le_add_right, okAt]
        repeat' (
          first | refine wpC_cases ?_ ?_ | refine wpU_casesT ?_ ?_ | refine wpU_casesF ?_ ?_
          all_goals intro hvc
          all_goals first | replace hvc := not_of_true hvc | replace hvc := not_of_false hvc | skip
          all_goals first | subst hvc | replace hvb := And.intro hvc hvb
          all_goals try simp only [hvb, Q_ty, e7, e3, e4, e5, e6, e0', c1', c2', hi0, hwr, Int.toNat_natCast, List.getElem?_map, hx, hq, hd, hs, o_eqaB, zero4_a, zero16_a, id1_v, List.length_cons, List.getElem?_cons_zero, List.getElem?_cons_succ, List.set_cons_succ, List.set_cons_zero, List.cons_append, Option.map_some, show ((0 : Nat) : Int) = 0 from rfl, Int.lt_irrefl, k1, k2, g1, go_sem, V.s.injEq, Value.bool.injEq, ↓reduceIte, Nat.reduceEqDiff, Nat.reduceBEq, Nat.reduceAdd, Nat.reduceSub, Nat.reduceLT, Nat.reduceLeDiff, Int.reduceLT, Int.reduceLE, Int.reduceEq, Int.reduceToNat, List.append_assoc, List.length_append, Vm.get_app, Vm.set_app, Vm.get_appL, Vm.get_appL0, Vm.set_appL, Vm.set_appL0, Nat.le_refl, Nat.le_add_right, okAt])
        all_goals first
          | exact ⟨80 - (i + 1), by omega, i + 1, rfl, by omega, by omega, rfl, ⟨wid, wgen, wpin, wse, wli, wus, wow, wgo, wwi⟩, _, over, B1, B2, wr, li, rfl, rfl, m1, m2, hI'⟩
          | (exfalso; clear hd hs hq k1 k2 m1 m2 hI' hb hx hl hgr hgr2 hgv hxw e7 e3 e4 e5 e6 e0' f1; simp_all; done)
  · rintro e h -
    have hk := fun h => known11_ok 0 h
    have hvb : (0 : Nat) = 0 := rfl
    try simp only [B3R0, hk, go_sem, V.s.injEq, Value.bool.injEq, ↓reduceIte, Nat.reduceEqDiff, Nat.reduceBEq, Nat.reduceAdd, Nat.reduceSub, Nat.reduceLT, Nat.reduceLeDiff, Int.reduceLT, Int.reduceLE, Int.reduceEq, Int.reduceToNat, List.append_assoc, List.length_append, Vm.get_app, Vm.set_app, Vm.get_appL, Vm.get_appL0, Vm.set_appL, Vm.set_appL0, Nat.le_refl, Nat.le_add_right, okAt]
    repeat' (
      first | refine wpC_cases ?_ ?_ | refine wpU_casesT ?_ ?_ | refine wpU_casesF ?_ ?_
      all_goals intro hvc
      all_goals first | replace hvc := not_of_true hvc | replace hvc := not_of_false hvc | skip
      all_goals first | subst hvc | replace hvb := And.intro hvc hvb
      all_goals try simp only [hvb, B3R0, hk, go_sem, V.s.injEq, Value.bool.injEq, ↓reduceIte, Nat.reduceEqDiff, Nat.reduceBEq, Nat.reduceAdd, Nat.reduceSub, Nat.reduceLT, Nat.reduceLeDiff, Int.reduceLT, Int.reduceLE, Int.reduceEq, Int.reduceToNat, List.append_assoc, List.length_append, Vm.get_app, Vm.set_app, Vm.get_appL, Vm.get_appL0, Vm.set_appL, Vm.set_appL0, Nat.le_refl, Nat.le_add_right, okAt])
  all_goals first | exact Or.inl rfl | rfl
end Go.Proofs.Ytfhmclgnfabdfaa
