/- IdealLimits: its run. Conditions: none. -/
import Derived.Test.YtfhmclgnfabdfaaCS23b
import Derived.Test.YtfhmclgnfabdfaaCS11L
import Derived.Test.YtfhmclgnfabdfaaCVc
namespace Go.Proofs.Ytfhmclgnfabdfaa
open Go Go.Vm Go.Proofs Go.Cl
set_option linter.unusedSimpArgs false
set_option linter.unusedVariables false
set_option maxRecDepth 100000
theorem dog_lim {v : Vault} {q : Request} (hz : v = zeroV ∨ rightV v = true ∧ v.iD = q.iD) (hq : rightQ q = true) :
    ((doG v q).2.2 = true ∧ (doG v q).2.1.why = 0 ∧ (q.op = 1 ∨ q.op = 3) ∧ (doG v q).2.1.secret = [] ∧ (doG v q).1.limit = q.limit ∧ (doG v q).1.used = 0) ∨
    ((doG v q).2.2 = true ∧ (doG v q).2.1.why = 23 ∧ v.gone = false ∧ v.gen ≠ 0 ∧ 0 ≤ v.used ∧ v.used + 1 ≤ v.limit ∧ v.limit ≤ 32 ∧ (doG v q).2.1.left = v.limit - (v.used + 1) ∧ (doG v q).2.1.secret = [] ∧ ((doG v q).1.gone = false → (doG v q).1.limit = v.limit ∧ (doG v q).1.used = v.used + 1)) ∨
    ((doG v q).2.2 = true ∧ (doG v q).2.1.why = 0 ∧ ¬ (q.op = 1 ∨ q.op = 3) ∧ (doG v q).2.1.secret = [] ∧ (doG v q).1.gone = true) ∨
    ((doG v q).2.2 = false ∧ (doG v q).2.1.why ≠ 23 ∧ ¬ ((doG v q).2.1.why = 0 ∧ (q.op = 1 ∨ q.op = 3)) ∧ ((doG v q).2.1.secret ≠ [] → v.gone = false ∧ v.gen ≠ 0 ∧ v.used < v.limit)) := by
  have hmis : missV v q = 0 ∨ missV v q = 22 ∨ missV v q = 24 ∨ missV v q = 25 := by
    unfold missV
    repeat' split
    all_goals simp
  have hm : missV v q = 0 → v.gen ≠ 0 ∧ v.gone = false := by
    intro h; unfold missV at h
    split at h; cases h
    split at h; cases h
    exact ⟨by assumption, by simpa using (by assumption : ¬ v.gone = true)⟩
  have escC : ∀ r : Reply, r.why = 0 → r.secret = [] →
      ((escV v q r).2.2 = true ∧ (escV v q r).2.1.why = 0 ∧ (escV v q r).2.1.secret = [] ∧ (escV v q r).1.limit = q.limit ∧ (escV v q r).1.used = 0) ∨ ((escV v q r).2.2 = false ∧ (escV v q r).2.1.why = 31 ∧ (escV v q r).2.1.secret = []) := by
    intro r h0 h1
    unfold escV
    split
    · exact .inr ⟨rfl, rfl, h1⟩
    · exact .inl ⟨rfl, h0, h1, rfl, rfl⟩
  unfold doG
  split
  · rename_i ho
    split
    · exact .inr (.inr (.inr ⟨rfl, by simp, by simp, by simp⟩))
    · rcases escC ⟨0, q.iD, v.gen, 0, [], q.client, q.num⟩ rfl rfl with h | h
      · exact .inl ⟨h.1, h.2.1, .inl ho, h.2.2⟩
      · exact .inr (.inr (.inr ⟨h.1, by rw [h.2.1]; decide, by rw [h.2.1]; simp, by rw [h.2.2]; simp⟩))
  · rename_i ho
    split
    · refine .inr (.inr (.inr ⟨rfl, ?_, ?_, by simp⟩)) <;> simp only <;> omega
    · rename_i hm0
      obtain ⟨hg0, hgo⟩ := hm (by simpa using hm0)
      have hrv : rightV v = true := by
        rcases hz with rfl | h
        · exact absurd rfl hg0
        · exact h.1
      have hu := right_used hrv hgo
      split
      · rename_i ho2
        unfold recV
        split
        · exact .inr (.inr (.inr ⟨rfl, by simp, by simp only; omega, fun _ => ⟨hgo, hg0, hu.2.1⟩⟩))
        · split
          · rename_i hlast
            exact .inr (.inl ⟨rfl, rfl, hgo, hg0, hu.1, by omega, hu.2.2, by simp only; omega, rfl, fun h => by cases h⟩)
          · rename_i hlast
            have hr2 : rightV (usedV v) = true := by
              simp [rightV, hgo] at hrv
              obtain ⟨⟨h1, h2⟩, ⟨⟨⟨⟨h3, h4⟩, h5⟩, h6⟩, h7⟩, h8⟩ := hrv
              simp [rightV, usedV, hgo, h1, h2, h3, h4, h5, h8]; omega
            have hlv : leftV (usedV v) = v.limit - (v.used + 1) := by
              unfold leftV
              rw [if_neg (by rw [hr2]; simp [usedV, hgo])]; rfl
            exact .inr (.inl ⟨rfl, rfl, hgo, hg0, hu.1, by omega, hu.2.2, hlv, rfl, fun _ => ⟨rfl, rfl⟩⟩)
      · rename_i ho2
        split
        · rename_i ho3
          rcases escC ⟨0, q.iD, v.gen, 0, [], q.client, q.num⟩ rfl rfl with h | h
          · exact .inl ⟨h.1, h.2.1, .inr ho3, h.2.2⟩
          · exact .inr (.inr (.inr ⟨h.1, by rw [h.2.1]; decide, by rw [h.2.1]; simp, by rw [h.2.2]; simp⟩))
        · exact .inr (.inr (.inl ⟨rfl, rfl, by omega, rfl, rfl⟩))
theorem getT_placed {L : List Vault} (hr : Rise L) (v : Vault) (id : Bs) : getT (placedT L v) id = if id = v.iD then some v else getT L id := by
  have hr' := place_rise hr v
  by_cases he : id = v.iD
  · rw [if_pos he, he]
    exact getT_mem hr' ((placed_mem v v).2 (.inl rfl))
  · rw [if_neg he]
    cases hg : getT L id with
    | none =>
      rw [getT_none_iff hr']
      intro w hw hwi
      rcases (placed_mem v w).1 hw with rfl | ⟨hw, _⟩
      · exact he hwi.symm
      · exact (getT_none_iff hr id).1 hg w hw hwi
    | some w =>
      obtain ⟨h1, h2⟩ := getT_id hg
      subst h1
      exact getT_mem hr' ((placed_mem v w).2 (.inr ⟨h2, he⟩))
def updB (w : Bs → Int) (a : Bs) (n : Int) : Bs → Int := fun b => if b = a then n else w b
/-- What the two maps have beside the tables' vaults. -/
def JI (ls : Nat → List Vault) (li wr : Bs → Int) : Prop := ∀ id v, getT (ls (shardOf id)) id = some v → v.gone = false → li id = v.limit ∧ wr id = v.used
theorem JI.step {ls : Nat → List Vault} {li wr : Bs → Int} {q : Request} (hj : JI ls li wr) (ho : MOk ls) (hq : rightQ q = true) :
    ((idealDo ls q).1.why = 0 ∧ (q.op = 1 ∨ q.op = 3) ∧ (idealDo ls q).1.secret = [] ∧ JI (idealDo ls q).2 (updB li q.iD q.limit) (updB wr q.iD 0)) ∨
    ((idealDo ls q).1.why = 23 ∧ 0 ≤ wr q.iD ∧ wr q.iD + 1 ≤ li q.iD ∧ li q.iD ≤ 32 ∧ (idealDo ls q).1.left = li q.iD - (wr q.iD + 1) ∧ (idealDo ls q).1.secret = [] ∧ JI (idealDo ls q).2 li (updB wr q.iD (wr q.iD + 1))) ∨
    ((idealDo ls q).1.why ≠ 23 ∧ ¬ ((idealDo ls q).1.why = 0 ∧ (q.op = 1 ∨ q.op = 3)) ∧ ((idealDo ls q).1.secret ≠ [] → wr q.iD < li q.iD) ∧ JI (idealDo ls q).2 li wr) := by
  have hs := shardOf_lt q.iD
  obtain ⟨o1, o2, o3⟩ := ho _ hs
  have hz := getT_zero (id := q.iD) ho hs
  have hd := dog_lim hz hq
  have hdr := doG_right hq hz
  have hlive : ((getT (ls (shardOf q.iD)) q.iD).getD zeroV).gone = false → ((getT (ls (shardOf q.iD)) q.iD).getD zeroV).gen ≠ 0 → li q.iD = ((getT (ls (shardOf q.iD)) q.iD).getD zeroV).limit ∧ wr q.iD = ((getT (ls (shardOf q.iD)) q.iD).getD zeroV).used := by
    intro h1 h2
    cases hg : getT (ls (shardOf q.iD)) q.iD with
    | none => rw [hg] at h2; exact absurd rfl h2
    | some v => rw [hg] at h1; exact hj q.iD v hg h1
  unfold idealDo
  rw [if_neg (by simp [hq])]
  generalize hov : (getT (ls (shardOf q.iD)) q.iD).getD zeroV = v at *
  generalize doG v q = o at *
  have after : rightV o.1 = true ∧ o.1.iD = q.iD → (getT (ls (shardOf q.iD)) q.iD = none → (ls (shardOf q.iD)).length < 4) → ∀ id, getT (updL ls (shardOf q.iD) (putT (ls (shardOf q.iD)) o.1).2 (shardOf id)) id = if id = q.iD then some o.1 else getT (ls (shardOf id)) id := by
    rintro ⟨h1, h2⟩ h3 id
    rw [putT_right o1 h1 (by rw [h2]; exact h3)]
    by_cases he : id = q.iD
    · rw [if_pos he, he, updL_same, getT_placed o1, h2, if_pos rfl]
    · rw [if_neg he]
      by_cases hsh : shardOf id = shardOf q.iD
      · rw [hsh, updL_same, getT_placed o1, h2, if_neg he]
      · rw [updL_ne _ _ _ _ hsh]
  rcases hd with ⟨c, h1, h2, h3, h4, h5⟩ | ⟨c, h1, h2, h3, h4, h5, h6, h7, h8, h9⟩ | ⟨c, h1, h2, h3, h4⟩ | ⟨c, h1, h2, h3⟩
  · rw [if_neg (by simp [c])]
    split
    · exact .inr (.inr ⟨by simp, by simp, by simp, hj⟩)
    · rename_i hf
      have ha := after (hdr c) (fun h => Nat.lt_of_not_le fun h' => hf ⟨h, h'⟩)
      refine .inl ⟨h1, h2, h3, fun id w hw hg => ?_⟩
      simp only [ha] at hw
      by_cases he : id = q.iD
      · rw [if_pos he, Option.some.injEq] at hw
        simp only [updB, if_pos he, ← hw, h4, h5, and_self]
      · rw [if_neg he] at hw
        simp only [updB, if_neg he]
        exact hj id w hw hg
  · obtain ⟨k1, k2⟩ := hlive h2 h3
    rw [if_neg (by simp [c])]
    have hsome : getT (ls (shardOf q.iD)) q.iD ≠ none := by
      intro h; rw [h] at hov; subst hov; exact h3 rfl
    rw [if_neg (fun h => hsome h.1)]
    have ha := after (hdr c) (fun h => absurd h hsome)
    refine .inr (.inl ⟨h1, by omega, by omega, by omega, by rw [k1, k2]; exact h7, h8, fun id w hw hg => ?_⟩)
    simp only [ha] at hw
    by_cases he : id = q.iD
    · rw [if_pos he, Option.some.injEq] at hw
      rw [← hw] at hg
      obtain ⟨g1, g2⟩ := h9 hg
      rw [← hw, g1, g2, he, k1]
      simp only [updB, if_true, k2, and_self]
    · rw [if_neg he] at hw
      simp only [updB, if_neg he]
      exact hj id w hw hg
  · rw [if_neg (by simp [c])]
    split
    · exact .inr (.inr ⟨by simp, by simp, by simp, hj⟩)
    · rename_i hf
      have ha := after (hdr c) (fun h => Nat.lt_of_not_le fun h' => hf ⟨h, h'⟩)
      refine .inr (.inr ⟨by rw [h1]; decide, fun h => h2 h.2, by rw [h3]; simp, fun id w hw hg => ?_⟩)
      simp only [ha] at hw
      by_cases he : id = q.iD
      · rw [if_pos he, Option.some.injEq] at hw
        rw [← hw, h4] at hg; cases hg
      · rw [if_neg he] at hw
        exact hj id w hw hg
  · rw [if_pos c]
    refine .inr (.inr ⟨h1, h2, fun h => ?_, hj⟩)
    obtain ⟨g1, g2, g3⟩ := h3 h
    obtain ⟨k1, k2⟩ := hlive g1 g2
    omega
theorem keepQ_lim3 (x : Q) (hx : x.wf) (id : Bs) : rightQ { keepQ x with iD := id, limit := min (keepQ x).limit 3 } = true := by
  have h := keepQ_right x hx id
  generalize keepQ x = q at h
  simp only [rightQ] at h ⊢
  simp only [Bool.and_eq_true] at h ⊢
  refine ⟨h.1, ?_⟩
  have h2 := h.2
  split <;> rename_i c1
  · rw [if_pos c1] at h2; simp at h2 ⊢; omega
  · rw [if_neg c1] at h2
    split <;> rename_i c2
    · rw [if_pos c2] at h2; simp at h2 ⊢
      exact ⟨⟨by omega, h2.1.2⟩, h2.2⟩
    · rw [if_neg c2] at h2
      split <;> rename_i c3
      · rw [if_pos c3] at h2; simp at h2 ⊢
        exact ⟨⟨by omega, h2.1.2⟩, h2.2⟩
      · rw [if_neg c3] at h2; exact h2
abbrev mkI : Bs → V := fun id => .arr 23 (id.map byteV)
theorem mkI_ok : KeyR (some (23, .u8)) mkI := KeyR.bytes _
theorem MI.fw {B : Blk} {w : Bs → Int} (hm : MI (some (23, .u8)) mkI B w) {h : Hp} {m : Nat} (hg : h[m]? = some B) (B' : Blk) : Fw [m] h (h.set m B') := by
  obtain ⟨get, ⟨_, l, cl, h1, _⟩, _⟩ := hm
  simp only [List.getElem?_cons_zero, Option.some.injEq] at h1
  subst h1
  refine ⟨by simp, fun j b hj hs => ?_, fun j b hj => ?_⟩
  · rw [List.getElem?_set_ne (fun e => hs (by simp [e]))]; exact hj
  · by_cases e : m = j
    · subst e; rw [hg] at hj; cases hj
    · rw [List.getElem?_set_ne e]; exact hj
theorem Qt_ty (x : Q) : x.enc.ty = some 35 := rfl
theorem IdealLimits_run (l : List Q) (hl : l.length ≤ 140737488351232) (hb : ∀ x ∈ l, x.wf) :
    run fns pr 0 5 [.imm false (some 35) (l.map Q.enc)] [] = some (.s (.bool true), []) := by
  refine Vm.runP (nt := 114) rfl fit5 (by simp) ?_
  obtain ⟨v0, H0, d0, F0, rfl, m0, f0, hF0⟩ := INew_ok 0 [] (Nat.le_refl _)
  simp only [List.length_nil] at d0 m0
  have hF0' := m0.lt
  obtain ⟨A, hA⟩ : ∃ A, V.imm false (some 35) (l.map Q.enc) = A := ⟨_, rfl⟩
  rw [hA]
  have lA : ∀ cf base H, opV cf base H .len [A] = some (.s (.int .i64 (l.length : Nat)), H) := fun cf base H => by rw [← hA, o_lenI, List.length_map]
  have hvb : (0 : Nat) = 0 := rfl
  try simp only [B5, B5R0, B5L0, d0, o_peql10, go_sem, V.s.injEq, Value.bool.injEq, ↓reduceIte, Nat.reduceEqDiff, Nat.reduceBEq, Nat.reduceAdd, Nat.reduceSub, Nat.reduceLT, Nat.reduceLeDiff, Int.reduceLT, Int.reduceLE, Int.reduceEq, Int.reduceToNat, List.append_assoc, List.length_append, Vm.get_app, Vm.set_app, Vm.get_appL, Vm.get_appL0, Vm.set_appL, Vm.set_appL0, Nat.le_refl, Nat.le_add_right, okAt]
  repeat' (
    first | refine wpC_cases ?_ ?_ | refine wpU_casesT ?_ ?_ | refine wpU_casesF ?_ ?_
    all_goals intro hvc
    all_goals first | replace hvc := not_of_true hvc | replace hvc := not_of_false hvc | skip
    all_goals first | subst hvc | replace hvb := And.intro hvc hvb
    all_goals try simp only [hvb, B5, B5R0, B5L0, d0, o_peql10, go_sem, V.s.injEq, Value.bool.injEq, ↓reduceIte, Nat.reduceEqDiff, Nat.reduceBEq, Nat.reduceAdd, Nat.reduceSub, Nat.reduceLT, Nat.reduceLeDiff, Int.reduceLT, Int.reduceLE, Int.reduceEq, Int.reduceToNat, List.append_assoc, List.length_append, Vm.get_app, Vm.set_app, Vm.get_appL, Vm.get_appL0, Vm.set_appL, Vm.set_appL0, Nat.le_refl, Nat.le_add_right, okAt])
  refine wp_for (fun m e H => ∃ i : Nat, m = 80 - i ∧ i ≤ 80 ∧ i ≤ l.length ∧ e 6 = .s (.int .i64 i) ∧ e 3 = .ptr 0 [0] 1 ∧ e 4 = .mp H0.length ∧ e 5 = .mp (H0.length + 1) ∧ e 0 = A ∧
      ∃ ls F BL BW li wr, MR H 0 ls F ∧ MOk ls ∧ H[H0.length]? = some BL ∧ H[H0.length + 1]? = some BW ∧ MI (some (23, .u8)) mkI BL li ∧ MI (some (23, .u8)) mkI BW wr ∧ JI ls li wr ∧ (∀ j ∈ F, j ≠ H0.length ∧ j ≠ H0.length + 1))
    (fun e H => True) 80 _ _ ⟨0, rfl, by omega, by omega, ?_, ?_, ?_, ?_, ?_, fun _ => [], F0, .map [] 0, .map [] 0, _, _, m0.app _, MOk_nil, ?_, ?_, MI.new mkI_ok, MI.new mkI_ok, ?_, ?_⟩ ?_ ?_
  rotate_right 2
  · rintro m e H ⟨i, rfl, hi, hil, e6, e3, e4, e5, e0', ls, F, BL, BW, li, wr, mr, ok, gL, gW, mL, mW, hJ, hF⟩
    by_cases c1 : i < l.length
    case neg =>
      have c1' : ¬ (i : Int) < l.length := by omega
      have hvb : (0 : Nat) = 0 := rfl
      try simp only [e6, e3, e0', lA, c1', go_sem, V.s.injEq, Value.bool.injEq, ↓reduceIte, Nat.reduceEqDiff, Nat.reduceBEq, Nat.reduceAdd, Nat.reduceSub, Nat.reduceLT, Nat.reduceLeDiff, Int.reduceLT, Int.reduceLE, Int.reduceEq, Int.reduceToNat, List.append_assoc, List.length_append, Vm.get_app, Vm.set_app, Vm.get_appL, Vm.get_appL0, Vm.set_appL, Vm.set_appL0, Nat.le_refl, Nat.le_add_right, okAt]
      repeat' (
        first | refine wpC_cases ?_ ?_ | refine wpU_casesT ?_ ?_ | refine wpU_casesF ?_ ?_
        all_goals intro hvc
        all_goals first | replace hvc := not_of_true hvc | replace hvc := not_of_false hvc | skip
        all_goals first | subst hvc | replace hvb := And.intro hvc hvb
        all_goals try simp only [hvb, e6, e3, e0', lA, c1', go_sem, V.s.injEq, Value.bool.injEq, ↓reduceIte, Nat.reduceEqDiff, Nat.reduceBEq, Nat.reduceAdd, Nat.reduceSub, Nat.reduceLT, Nat.reduceLeDiff, Int.reduceLT, Int.reduceLE, Int.reduceEq, Int.reduceToNat, List.append_assoc, List.length_append, Vm.get_app, Vm.set_app, Vm.get_appL, Vm.get_appL0, Vm.set_appL, Vm.set_appL0, Nat.le_refl, Nat.le_add_right, okAt])
    have c1' : (i : Int) < l.length := by omega
    by_cases c2 : i < 80
    case neg =>
      have c2' : ¬ (i : Int) < 80 := by omega
      have hvb : (0 : Nat) = 0 := rfl
      try simp only [e6, e3, e0', lA, c1', c2', go_sem, V.s.injEq, Value.bool.injEq, ↓reduceIte, Nat.reduceEqDiff, Nat.reduceBEq, Nat.reduceAdd, Nat.reduceSub, Nat.reduceLT, Nat.reduceLeDiff, Int.reduceLT, Int.reduceLE, Int.reduceEq, Int.reduceToNat, List.append_assoc, List.length_append, Vm.get_app, Vm.set_app, Vm.get_appL, Vm.get_appL0, Vm.set_appL, Vm.set_appL0, Nat.le_refl, Nat.le_add_right, okAt]
      repeat' (
        first | refine wpC_cases ?_ ?_ | refine wpU_casesT ?_ ?_ | refine wpU_casesF ?_ ?_
        all_goals intro hvc
        all_goals first | replace hvc := not_of_true hvc | replace hvc := not_of_false hvc | skip
        all_goals first | subst hvc | replace hvb := And.intro hvc hvb
        all_goals try simp only [hvb, e6, e3, e0', lA, c1', c2', go_sem, V.s.injEq, Value.bool.injEq, ↓reduceIte, Nat.reduceEqDiff, Nat.reduceBEq, Nat.reduceAdd, Nat.reduceSub, Nat.reduceLT, Nat.reduceLeDiff, Int.reduceLT, Int.reduceLE, Int.reduceEq, Int.reduceToNat, List.append_assoc, List.length_append, Vm.get_app, Vm.set_app, Vm.get_appL, Vm.get_appL0, Vm.set_appL, Vm.set_appL0, Nat.le_refl, Nat.le_add_right, okAt])
    have c2' : (i : Int) < 80 := by omega
    have hi0 : (0 : Int) ≤ i := by omega
    have hwr : IntKind.i64.wrap ((i : Int) + 1) = ((i + 1 : Nat) : Int) := wrap_small (by omega)
    have hx : l[i]? = some l[i] := List.getElem?_eq_getElem c1
    have hxm : l[i] ∈ l := List.getElem_mem _
    generalize l[i] = x at hx hxm
    have hxw := hb x hxm
    have hq := fun h' => Request_ok 0 h' x hxw
    have ic : ∀ cf base H, opV cf base H (.ias (some 35)) [A, .s (.int .i64 (i : Nat))] = some (.iptr x.enc, H) := fun cf base H => by
      rw [← hA, o_iasI, if_pos hi0, Int.toNat_natCast, List.getElem?_map, hx]; rfl
    have hfx : ∀ cf base H, opV cf base H (.fa 35 1) [.iptr x.enc] = some (.iptr (.s (.int .i64 x.iD)), H) := fun cf base H => rfl
    have hrm : ∀ cf base H, opV cf base H (.bin .num .rem) [.s (.int .i64 x.iD), .s (.int .i64 5)] = some (.s (.int .i64 (x.iD.tmod 5)), H) := fun cf base H => o_rem cf base H .i64 _ 5 (by omega)
    have hid := fun h' => ID_ok 0 h' (x.iD.tmod 5) (by have := Int.tmod_lt_of_pos x.iD (show (0 : Int) < 5 by decide); have := Int.lt_tmod_of_pos x.iD (show (0 : Int) < 5 by decide); omega) (by have := Int.tmod_lt_of_pos x.iD (show (0 : Int) < 5 by decide); omega)
    have hqr := keepQ_lim3 x hxw (idOf (x.iD.tmod 5))
    have hi4 : (idOf (x.iD.tmod 5)).length = 4 := rfl
    generalize idOf (x.iD.tmod 5) = id at hid hqr hi4
    generalize keepQ x = q at hq hqr
    obtain ⟨op, qid, pin, se, lim, ow, ky, cl, nu⟩ := q
    simp only at hqr
    obtain ⟨qq, hqq⟩ : ∃ qq, Request.mk op id pin se (min lim 3) ow ky cl nu = qq := ⟨_, rfl⟩
    have fA : Fw [] H (H ++ [Blk.cells (some 32) [qq.enc]]) := Fw.app _ _ _
    obtain ⟨v1, H1, d1, F1, rfl, m1, f1, hF1⟩ := IDo_ok 0 _ 0 ls F qq false (fun _ _ => Nat.zero_le _) (mr.app [Blk.cells (some 32) [qq.enc]]) ok (by rw [← hqq]; simp only; omega)
    have hst := hJ.step (q := qq) ok (by rw [← hqq]; exact hqr)
    have ok1 := ok.idealDo qq (by rw [← hqq]; exact hi4)
    have hlt := mr.lt
    have hLt : H0.length + 1 < H.length := by
      have := (List.getElem?_eq_some_iff.1 gW).1; exact this
    have gq1 : H1[H.length]? = some (Blk.cells (some 32) [qq.enc]) := f1.old _ _ (get_app0 _ _) (fun hj => by have := hlt _ hj; omega)
    have gL1 : H1[H0.length]? = some BL := f1.old _ _ (fA.old _ _ gL (by simp)) (fun hj => (hF _ hj).1 rfl)
    have gW1 : H1[H0.length + 1]? = some BW := f1.old _ _ (fA.old _ _ gW (by simp)) (fun hj => (hF _ hj).2 rfl)
    have hl1 := f1.len
    simp only [List.length_append, List.length_cons, List.length_nil] at hl1
    have hF1' : ∀ j ∈ F1, j ≠ H0.length ∧ j ≠ H0.length + 1 := fun j hj => (hF1 j hj).elim (hF j) fun h' => by simp only [List.length_append, List.length_cons, List.length_nil] at h'; omega
    have hqi : qq.iD = id := by rw [← hqq]
    have hqo : qq.op = op := by rw [← hqq]
    have hql : qq.limit = min lim 3 := by rw [← hqq]
    rw [hqi, hqo, hql] at hst
    generalize idealDo ls qq = o at *
    obtain ⟨⟨why, rid, rgen, rleft, rse, rcl, rnu⟩, ls'⟩ := o
    simp only at hst m1 ok1
    subst hqq
    simp only [Request.enc, Request.encF, Reply.enc] at hq d1 gq1
    obtain ⟨HB, hHB⟩ : ∃ HB : Hp, H1 ++ [Blk.cells (some 38) [V.st 38 [.s (.int .i64 why), .arr 23 (rid.map byteV), .s (.int .u64 rgen), .s (.int .i64 rleft), .imm false none (rse.map byteV), .s (.int .i64 rcl), .s (.int .u64 rnu)]]] = HB := ⟨_, rfl⟩
    have mB : MR HB 0 ls' F1 := by rw [← hHB]; exact m1.app _
    have gq := get_old gq1 [Blk.cells (some 38) [V.st 38 [.s (.int .i64 why), .arr 23 (rid.map byteV), .s (.int .u64 rgen), .s (.int .i64 rleft), .imm false none (rse.map byteV), .s (.int .i64 rcl), .s (.int .u64 rnu)]]]
    have gLB := get_old gL1 [Blk.cells (some 38) [V.st 38 [.s (.int .i64 why), .arr 23 (rid.map byteV), .s (.int .u64 rgen), .s (.int .i64 rleft), .imm false none (rse.map byteV), .s (.int .i64 rcl), .s (.int .u64 rnu)]]]
    have gWB := get_old gW1 [Blk.cells (some 38) [V.st 38 [.s (.int .i64 why), .arr 23 (rid.map byteV), .s (.int .u64 rgen), .s (.int .i64 rleft), .imm false none (rse.map byteV), .s (.int .i64 rcl), .s (.int .u64 rnu)]]]
    have gr : (H1 ++ [Blk.cells (some 38) [V.st 38 [.s (.int .i64 why), .arr 23 (rid.map byteV), .s (.int .u64 rgen), .s (.int .i64 rleft), .imm false none (rse.map byteV), .s (.int .i64 rcl), .s (.int .u64 rnu)]]])[H1.length]? = some (Blk.cells (some 38) [V.st 38 [.s (.int .i64 why), .arr 23 (rid.map byteV), .s (.int .u64 rgen), .s (.int .i64 rleft), .imm false none (rse.map byteV), .s (.int .i64 rcl), .s (.int .u64 rnu)]]) := get_app0 _ _
    rw [hHB] at gq gLB gWB gr
    have nLW : H0.length ≠ H0.length + 1 := by omega
    have nLq : H0.length ≠ H.length := by omega
    have nWq : H0.length + 1 ≠ H.length := by omega
    have nLr : H0.length ≠ H1.length := by omega
    have nWr : H0.length + 1 ≠ H1.length := by omega
    have mapB : ∀ (H : Hp) (m : Nat) (B B' : Blk) (w : Bs → Int) (ls : Nat → List Vault) (F : List Nat), MR H 0 ls F → (∀ j ∈ F, j ≠ m) → H[m]? = some B → MI (some (23, .u8)) mkI B w → MR (H.set m B') 0 ls F := fun H m B B' w ls F hm hf hg hw =>
      hm.mono (MI.fw hw hg B') (fun j hj h => hf j hj (List.mem_singleton.1 h))
    have fL : ∀ j ∈ F1, j ≠ H0.length := fun j hj => (hF1' j hj).1
    have fW : ∀ j ∈ F1, j ≠ H0.length + 1 := fun j hj => (hF1' j hj).2
    rcases hst with ⟨rfl, ho, rfl, hJ'⟩ | ⟨rfl, g0, g1, g2, rfl, rfl, hJ'⟩ | ⟨g1, g2, g3, hJ'⟩
    · simp only [List.map_nil] at hHB gr d1
      obtain ⟨BL', mL', uL⟩ := mL.mup id (min lim 3)
      obtain ⟨BW', mW', uW⟩ := mW.mup id 0
      have eL := fun cf base => uL cf base HB _ gLB
      have mC := mapB HB _ BL BL' _ _ _ mB fL gLB mL
      have q1 : (HB.set H0.length BL')[H.length]? = _ := (List.getElem?_set_ne nLq).trans gq
      have q2 : (HB.set H0.length BL')[H1.length]? = _ := (List.getElem?_set_ne nLr).trans gr
      have q3 : (HB.set H0.length BL')[H0.length]? = _ := set_getB gLB
      have q4 : (HB.set H0.length BL')[H0.length + 1]? = _ := (List.getElem?_set_ne nLW).trans gWB
      generalize HB.set H0.length BL' = HC at *
      have eW := fun cf base => uW cf base HC _ q4
      have mD := mapB HC _ BW BW' _ _ _ mC fW q4 mW
      have p1 : (HC.set (H0.length + 1) BW')[H.length]? = _ := (List.getElem?_set_ne nWq).trans q1
      have p2 : (HC.set (H0.length + 1) BW')[H1.length]? = _ := (List.getElem?_set_ne nWr).trans q2
      have p3 : (HC.set (H0.length + 1) BW')[H0.length]? = _ := (List.getElem?_set_ne (Ne.symm nLW)).trans q3
      have p4 : (HC.set (H0.length + 1) BW')[H0.length + 1]? = _ := set_getB q4
      generalize HC.set (H0.length + 1) BW' = HD at *
      clear hJ hqr hb hx hxm hxw uL uW mapB hl mB mC
      rcases ho with rfl | rfl
      · have hvb : (0 : Nat) = 0 := rfl
        try simp only [e6, e3, e4, e5, e0', lA, c1', c2', hwr, ic, Qt_ty, hq, hfx, hrm, hid, d1, gq1, Nat.zero_le, hHB, gq, gr, show ((0 : Nat) : Int) = 0 from rfl, Int.lt_irrefl, eL, eW, q1, q2, p1, p2, go_sem, V.s.injEq, Value.bool.injEq, ↓reduceIte, Nat.reduceEqDiff, Nat.reduceBEq, Nat.reduceAdd, Nat.reduceSub, Nat.reduceLT, Nat.reduceLeDiff, Int.reduceLT, Int.reduceLE, Int.reduceEq, Int.reduceToNat, List.append_assoc, List.length_append, Vm.get_app, Vm.set_app, Vm.get_appL, Vm.get_appL0, Vm.set_appL, Vm.set_appL0, Nat.le_refl, Nat.le_add_right, okAt]
        repeat' (
          first | refine wpC_cases ?_ ?_ | refine wpU_casesT ?_ ?_ | refine wpU_casesF ?_ ?_
          all_goals intro hvc
          all_goals first | replace hvc := not_of_true hvc | replace hvc := not_of_false hvc | skip
          all_goals first | subst hvc | replace hvb := And.intro hvc hvb
          all_goals try simp only [hvb, e6, e3, e4, e5, e0', lA, c1', c2', hwr, ic, Qt_ty, hq, hfx, hrm, hid, d1, gq1, Nat.zero_le, hHB, gq, gr, show ((0 : Nat) : Int) = 0 from rfl, Int.lt_irrefl, eL, eW, q1, q2, p1, p2, go_sem, V.s.injEq, Value.bool.injEq, ↓reduceIte, Nat.reduceEqDiff, Nat.reduceBEq, Nat.reduceAdd, Nat.reduceSub, Nat.reduceLT, Nat.reduceLeDiff, Int.reduceLT, Int.reduceLE, Int.reduceEq, Int.reduceToNat, List.append_assoc, List.length_append, Vm.get_app, Vm.set_app, Vm.get_appL, Vm.get_appL0, Vm.set_appL, Vm.set_appL0, Nat.le_refl, Nat.le_add_right, okAt])
        all_goals exact ⟨80 - (i + 1), by omega, i + 1, rfl, by omega, by omega, rfl, ls', F1, BL', BW', _, _, mD, ok1, p3, p4, mL', mW', hJ', hF1'⟩
      · have hvb : (0 : Nat) = 0 := rfl
        try simp only [e6, e3, e4, e5, e0', lA, c1', c2', hwr, ic, Qt_ty, hq, hfx, hrm, hid, d1, gq1, Nat.zero_le, hHB, gq, gr, show ((0 : Nat) : Int) = 0 from rfl, Int.lt_irrefl, eL, eW, q1, q2, p1, p2, go_sem, V.s.injEq, Value.bool.injEq, ↓reduceIte, Nat.reduceEqDiff, Nat.reduceBEq, Nat.reduceAdd, Nat.reduceSub, Nat.reduceLT, Nat.reduceLeDiff, Int.reduceLT, Int.reduceLE, Int.reduceEq, Int.reduceToNat, List.append_assoc, List.length_append, Vm.get_app, Vm.set_app, Vm.get_appL, Vm.get_appL0, Vm.set_appL, Vm.set_appL0, Nat.le_refl, Nat.le_add_right, okAt]
        repeat' (
          first | refine wpC_cases ?_ ?_ | refine wpU_casesT ?_ ?_ | refine wpU_casesF ?_ ?_
          all_goals intro hvc
          all_goals first | replace hvc := not_of_true hvc | replace hvc := not_of_false hvc | skip
          all_goals first | subst hvc | replace hvb := And.intro hvc hvb
          all_goals try simp only [hvb, e6, e3, e4, e5, e0', lA, c1', c2', hwr, ic, Qt_ty, hq, hfx, hrm, hid, d1, gq1, Nat.zero_le, hHB, gq, gr, show ((0 : Nat) : Int) = 0 from rfl, Int.lt_irrefl, eL, eW, q1, q2, p1, p2, go_sem, V.s.injEq, Value.bool.injEq, ↓reduceIte, Nat.reduceEqDiff, Nat.reduceBEq, Nat.reduceAdd, Nat.reduceSub, Nat.reduceLT, Nat.reduceLeDiff, Int.reduceLT, Int.reduceLE, Int.reduceEq, Int.reduceToNat, List.append_assoc, List.length_append, Vm.get_app, Vm.set_app, Vm.get_appL, Vm.get_appL0, Vm.set_appL, Vm.set_appL0, Nat.le_refl, Nat.le_add_right, okAt])
        all_goals exact ⟨80 - (i + 1), by omega, i + 1, rfl, by omega, by omega, rfl, ls', F1, BL', BW', _, _, mD, ok1, p3, p4, mL', mW', hJ', hF1'⟩
    · simp only [List.map_nil] at hHB gr d1
      obtain ⟨BW1, n, mW1, u1, u2⟩ := mW.mpe id
      obtain ⟨BW2, mW2, u3⟩ := u2 (wr id + 1)
      have wa : IntKind.i64.wrap (wr id + 1) = wr id + 1 := wrap_i64 (by omega) (by omega)
      have ws : IntKind.i64.wrap (li id - (wr id + 1)) = li id - (wr id + 1) := wrap_i64 (by omega) (by omega)
      have nl : ¬ li id < wr id + 1 := by omega
      have l0 := fun cf base => mW.lku id cf base gWB
      have eM := fun cf base => u1 cf base HB _ gWB
      have mC := mapB HB _ BW BW1 _ _ _ mB fW gWB mW
      have q1 : (HB.set (H0.length + 1) BW1)[H.length]? = _ := (List.getElem?_set_ne nWq).trans gq
      have q2 : (HB.set (H0.length + 1) BW1)[H1.length]? = _ := (List.getElem?_set_ne nWr).trans gr
      have q3 : (HB.set (H0.length + 1) BW1)[H0.length]? = _ := (List.getElem?_set_ne (Ne.symm nLW)).trans gLB
      have q4 : (HB.set (H0.length + 1) BW1)[H0.length + 1]? = _ := set_getB gWB
      generalize HB.set (H0.length + 1) BW1 = HC at *
      have l1 := fun cf base => mW1.lku id cf base q4
      have eN := fun cf base k => u3 cf base HC _ k q4
      have mD := mapB HC _ BW1 BW2 _ _ _ mC fW q4 mW1
      have p1 : (HC.set (H0.length + 1) BW2)[H.length]? = _ := (List.getElem?_set_ne nWq).trans q1
      have p2 : (HC.set (H0.length + 1) BW2)[H1.length]? = _ := (List.getElem?_set_ne nWr).trans q2
      have p3 : (HC.set (H0.length + 1) BW2)[H0.length]? = _ := (List.getElem?_set_ne (Ne.symm nLW)).trans q3
      have p4 : (HC.set (H0.length + 1) BW2)[H0.length + 1]? = _ := set_getB q4
      generalize HC.set (H0.length + 1) BW2 = HD at *
      have l2 := fun cf base => mW2.lku id cf base p4
      have l3 := fun cf base => mL.lku id cf base p3
      simp only [if_true] at l2
      clear hJ hqr hb hx hxm hxw u1 u2 u3 mapB hl mB mC
      have hvb : (0 : Nat) = 0 := rfl
      try simp only [e6, e3, e4, e5, e0', lA, c1', c2', hwr, ic, Qt_ty, hq, hfx, hrm, hid, d1, gq1, Nat.zero_le, hHB, gq, gr, show ((0 : Nat) : Int) = 0 from rfl, Int.lt_irrefl, eM, eN, l0, l1, l2, l3, q1, q2, p1, p2, wa, ws, nl, go_sem, V.s.injEq, Value.bool.injEq, ↓reduceIte, Nat.reduceEqDiff, Nat.reduceBEq, Nat.reduceAdd, Nat.reduceSub, Nat.reduceLT, Nat.reduceLeDiff, Int.reduceLT, Int.reduceLE, Int.reduceEq, Int.reduceToNat, List.append_assoc, List.length_append, Vm.get_app, Vm.set_app, Vm.get_appL, Vm.get_appL0, Vm.set_appL, Vm.set_appL0, Nat.le_refl, Nat.le_add_right, okAt]
      repeat' (
        first | refine wpC_cases ?_ ?_ | refine wpU_casesT ?_ ?_ | refine wpU_casesF ?_ ?_
        all_goals intro hvc
        all_goals first | replace hvc := not_of_true hvc | replace hvc := not_of_false hvc | skip
        all_goals first | subst hvc | replace hvb := And.intro hvc hvb
        all_goals try simp only [hvb, e6, e3, e4, e5, e0', lA, c1', c2', hwr, ic, Qt_ty, hq, hfx, hrm, hid, d1, gq1, Nat.zero_le, hHB, gq, gr, show ((0 : Nat) : Int) = 0 from rfl, Int.lt_irrefl, eM, eN, l0, l1, l2, l3, q1, q2, p1, p2, wa, ws, nl, go_sem, V.s.injEq, Value.bool.injEq, ↓reduceIte, Nat.reduceEqDiff, Nat.reduceBEq, Nat.reduceAdd, Nat.reduceSub, Nat.reduceLT, Nat.reduceLeDiff, Int.reduceLT, Int.reduceLE, Int.reduceEq, Int.reduceToNat, List.append_assoc, List.length_append, Vm.get_app, Vm.set_app, Vm.get_appL, Vm.get_appL0, Vm.set_appL, Vm.set_appL0, Nat.le_refl, Nat.le_add_right, okAt])
      all_goals exact ⟨80 - (i + 1), by omega, i + 1, rfl, by omega, by omega, rfl, ls', F1, BL, BW2, li, _, mD, ok1, p3, p4, mL, mW2, hJ', hF1'⟩
    · have l2 := fun cf base => mW.lku id cf base gWB
      have l3 := fun cf base => mL.lku id cf base gLB
      have g4 : rse.length = 0 ∨ wr id < li id := by
        by_cases h : rse = []
        · exact .inl (by rw [h]; rfl)
        · exact .inr (g3 h)
      clear hJ hqr hb hx hxm hxw mapB hl
      have hvb : (0 : Nat) = 0 := rfl
      try simp only [e6, e3, e4, e5, e0', lA, c1', c2', hwr, ic, Qt_ty, hq, hfx, hrm, hid, d1, gq1, Nat.zero_le, hHB, gq, gr, show ((0 : Nat) : Int) = 0 from rfl, Int.lt_irrefl, l2, l3, g1, go_sem, V.s.injEq, Value.bool.injEq, ↓reduceIte, Nat.reduceEqDiff, Nat.reduceBEq, Nat.reduceAdd, Nat.reduceSub, Nat.reduceLT, Nat.reduceLeDiff, Int.reduceLT, Int.reduceLE, Int.reduceEq, Int.reduceToNat, List.append_assoc, List.length_append, Vm.get_app, Vm.set_app, Vm.get_appL, Vm.get_appL0, Vm.set_appL, Vm.set_appL0, Nat.le_refl, Nat.le_add_right, okAt]
      repeat' (
        first | refine wpC_cases ?_ ?_ | refine wpU_casesT ?_ ?_ | refine wpU_casesF ?_ ?_
        all_goals intro hvc
        all_goals first | replace hvc := not_of_true hvc | replace hvc := not_of_false hvc | skip
        all_goals first | subst hvc | replace hvb := And.intro hvc hvb
        all_goals try simp only [hvb, e6, e3, e4, e5, e0', lA, c1', c2', hwr, ic, Qt_ty, hq, hfx, hrm, hid, d1, gq1, Nat.zero_le, hHB, gq, gr, show ((0 : Nat) : Int) = 0 from rfl, Int.lt_irrefl, l2, l3, g1, go_sem, V.s.injEq, Value.bool.injEq, ↓reduceIte, Nat.reduceEqDiff, Nat.reduceBEq, Nat.reduceAdd, Nat.reduceSub, Nat.reduceLT, Nat.reduceLeDiff, Int.reduceLT, Int.reduceLE, Int.reduceEq, Int.reduceToNat, List.append_assoc, List.length_append, Vm.get_app, Vm.set_app, Vm.get_appL, Vm.get_appL0, Vm.set_appL, Vm.set_appL0, Nat.le_refl, Nat.le_add_right, okAt])
      all_goals first
        | exact ⟨80 - (i + 1), by omega, i + 1, rfl, by omega, by omega, rfl, ls', F1, BL, BW, li, wr, mB, ok1, gLB, gWB, mL, mW, hJ', hF1'⟩
        | (exfalso; clear d1 hq hid ic hfx hrm l2 l3 mL mW hJ' gq gr gLB gWB gq1 gL1 gW1 gL gW f0 f1 fA m0 m1 mr mB d0; rcases g4 with g4 | g4 <;> simp_all <;> omega)
        | (exfalso; clear d1 hq hid ic hfx hrm l2 l3 mL mW hJ' gq gr gLB gWB gq1 gL1 gW1 gL gW f0 f1 fA m0 m1 mr mB d0; simp_all; done)
  · rintro e h -
    have hk := fun h => known23_ok 0 h
    have hvb : (0 : Nat) = 0 := rfl
    try simp only [B5R0, hk, go_sem, V.s.injEq, Value.bool.injEq, ↓reduceIte, Nat.reduceEqDiff, Nat.reduceBEq, Nat.reduceAdd, Nat.reduceSub, Nat.reduceLT, Nat.reduceLeDiff, Int.reduceLT, Int.reduceLE, Int.reduceEq, Int.reduceToNat, List.append_assoc, List.length_append, Vm.get_app, Vm.set_app, Vm.get_appL, Vm.get_appL0, Vm.set_appL, Vm.set_appL0, Nat.le_refl, Nat.le_add_right, okAt]
    repeat' (
      first | refine wpC_cases ?_ ?_ | refine wpU_casesT ?_ ?_ | refine wpU_casesF ?_ ?_
      all_goals intro hvc
      all_goals first | replace hvc := not_of_true hvc | replace hvc := not_of_false hvc | skip
      all_goals first | subst hvc | replace hvb := And.intro hvc hvb
      all_goals try simp only [hvb, B5R0, hk, go_sem, V.s.injEq, Value.bool.injEq, ↓reduceIte, Nat.reduceEqDiff, Nat.reduceBEq, Nat.reduceAdd, Nat.reduceSub, Nat.reduceLT, Nat.reduceLeDiff, Int.reduceLT, Int.reduceLE, Int.reduceEq, Int.reduceToNat, List.append_assoc, List.length_append, Vm.get_app, Vm.set_app, Vm.get_appL, Vm.get_appL0, Vm.set_appL, Vm.set_appL0, Nat.le_refl, Nat.le_add_right, okAt])
  all_goals first | rfl | skip
  · exact get_app0 _ _
  · exact get_app _ _ 1
  · intro id v hv; simp [getT, pos] at hv
  · intro j hj; have := hF0' j hj; omega
end Go.Proofs.Ytfhmclgnfabdfaa
