/- VaultGens: its run. Conditions: none. -/
import Derived.Test.YtfhmclgnfabdfaaCS11K
namespace Go.Proofs.Ytfhmclgnfabdfaa
open Go Go.Vm Go.Proofs Go.Cl
set_option linter.unusedSimpArgs false
set_option linter.unusedVariables false
set_option maxRecDepth 100000
theorem keepQ_right (x : Q) (hx : x.wf) (id : Bs) : rightQ { keepQ x with iD := id } = true := by
  obtain ⟨h1, h2, h3, h4, h5, h6, h7, h8, h9⟩ := keepQ_facts x hx
  have hop : (keepQ x).op = 1 ∨ (keepQ x).op = 2 ∨ (keepQ x).op = 3 ∨ (keepQ x).op = 4 := by omega
  have g4 := within_ge (n := x.limit) (lo := 1) (hi := 32) (by omega)
  have g5 := within_le (n := x.limit) (lo := 1) (hi := 32) (by omega)
  have hw : whoB (keepQ x).client (keepQ x).num = true := by simp [whoB, h4, h5, h6]
  have e1 : ∀ n, (keepQ x).op = n → (1 + (within x.op 0 1048576).tmod 4) = n := fun n h => h
  rcases hop with h | h | h | h
  · have := e1 _ h
    simp only [rightQ, hw, h]
    simp [keepQ, this, g4, g5]; omega
  · have := e1 _ h
    simp only [rightQ, hw, h]
    simp [keepQ, this]
  · have := e1 _ h
    simp only [rightQ, hw, h]
    simp [keepQ, this, g4, g5]; omega
  · have := e1 _ h
    simp only [rightQ, hw, h]
    simp [keepQ, this]
/-- A vault that is right, or none. -/
def okV (id : Bs) (v : Vault) : Prop := v = zeroV ∨ rightV v = true ∧ v.iD = id
theorem okV_gen {id : Bs} {v : Vault} (h : okV id v) : 0 ≤ v.gen ∧ v.gen ≤ 1099511627776 := by
  rcases h with rfl | ⟨h, _⟩
  · exact ⟨by decide, by decide⟩
  · simp [rightV] at h; omega
theorem okV_esc {id : Bs} {v : Vault} {q : Request} (hv : okV id v) (hq : rightQ q = true) (ho : q.op = 1 ∨ q.op = 3) (hi : q.iD = id) (hg : ¬ 1099511627776 ≤ v.gen) : okV id ⟨q.iD, v.gen + 1, q.pin, q.secret, q.limit, 0, q.owner, false, false⟩ := by
  have := okV_gen hv
  refine .inr ⟨?_, hi⟩
  simp only [rightQ, if_pos ho] at hq
  simp at hq
  simp [rightV]; omega
theorem okV_gone {id : Bs} {v : Vault} (hv : okV id v) (h0 : v.gen ≠ 0) (w : Bool) : okV id (goneV v w) := by
  rcases hv with rfl | ⟨h, hi⟩
  · exact absurd rfl h0
  · refine .inr ⟨?_, hi⟩
    simp [rightV] at h
    have := h.1
    simp [rightV, goneV, this.1, this.2]
theorem okV_used {id : Bs} {v : Vault} (hv : okV id v) (h0 : v.gen ≠ 0) (hg : v.gone = false) (hu : v.used + 1 ≠ v.limit) : okV id (usedV v) := by
  rcases hv with rfl | ⟨h, hi⟩
  · exact absurd rfl h0
  · refine .inr ⟨?_, hi⟩
    simp [rightV, hg] at h
    obtain ⟨⟨h1, h2⟩, ⟨⟨⟨⟨h3, h4⟩, h5⟩, h6⟩, h7⟩, h8⟩ := h
    simp [rightV, usedV, hg, h1, h2, h3, h4, h5, h8]; omega
theorem doG_facts {id : Bs} {v : Vault} {q : Request} (hv : okV id v) (hq : rightQ q = true) (hi : q.iD = id) :
    (doG v q).2.1.iD = q.iD ∧ (doG v q).2.1.num = q.num ∧ (doG v q).2.1.client = q.client ∧ (doG v q).2.1.gen = (doG v q).1.gen ∧ okV id (doG v q).1 ∧
    (doG v q).1.gen = if (doG v q).2.2 = true ∧ (doG v q).2.1.why = 0 ∧ (q.op = 1 ∨ q.op = 3) then v.gen + 1 else v.gen := by
  have hop : q.op = 1 ∨ q.op = 2 ∨ q.op = 3 ∨ q.op = 4 := by
    simp [rightQ] at hq
    have := hq.2
    repeat' split at this
    all_goals first | omega | simp at this
  have hm : missV v q = 0 → v.gen ≠ 0 ∧ v.gone = false := by
    intro h; unfold missV at h
    split at h; cases h
    split at h; cases h
    exact ⟨by assumption, by simpa using (by assumption : ¬ v.gone = true)⟩
  unfold doG
  split
  · rename_i ho
    split
    · simp_all
    · unfold escV
      split
      · simp_all
      · have := okV_esc hv hq (.inl ho) hi (by assumption)
        simp_all
  · split
    · simp_all
    · rename_i hm0
      obtain ⟨h1, h2⟩ := hm (by simpa using hm0)
      split
      · unfold recV
        split
        · simp_all
        · split
          · have := okV_gone hv h1 true
            simp_all [goneV]
          · have := okV_used hv h1 h2 (by assumption)
            simp_all [usedV]
      · split
        · unfold escV
          split
          · simp_all
          · have := okV_esc hv hq (.inr (by assumption)) hi (by assumption)
            simp_all
        · have := okV_gone hv h1 false
          simp_all [goneV]

theorem known11_ok (b : Nat) (h : Hp) : run fns pr b 9 [] h = some (.s (.bool true), h) := by
  refine Vm.runP (nt := 93) rfl fit9 (by simp) ?_
  let q1 : Request := ⟨1, [1, 0, 0, 0], [2, 0, 0, 0, 0, 0, 0, 0, 0, 0, 0, 0, 0, 0, 0, 0], [115], 1, zero16, zero16, 0, 0⟩
  let q2 : Request := ⟨2, [1, 0, 0, 0], [3, 0, 0, 0, 0, 0, 0, 0, 0, 0, 0, 0, 0, 0, 0, 0], [], 0, zero16, zero16, 0, 0⟩
  let q3 : Request := ⟨2, [1, 0, 0, 0], [2, 0, 0, 0, 0, 0, 0, 0, 0, 0, 0, 0, 0, 0, 0, 0], [], 0, zero16, zero16, 0, 0⟩
  let v1 : Vault := ⟨[1, 0, 0, 0], 1, [2, 0, 0, 0, 0, 0, 0, 0, 0, 0, 0, 0, 0, 0, 0, 0], [115], 1, 0, zero16, false, false⟩
  let v2 : Vault := ⟨[1, 0, 0, 0], 1, zero16, [], 0, 0, zero16, true, true⟩
  have e1 : doG zeroV q1 = (v1, ⟨0, [1, 0, 0, 0], 1, 1, [], 0, 0⟩, true) := by decide
  have e2 : doG v1 q2 = (v2, ⟨23, [1, 0, 0, 0], 1, 0, [], 0, 0⟩, true) := by decide
  have e3 : doG v2 q3 = (v2, ⟨24, [1, 0, 0, 0], 1, 0, [], 0, 0⟩, false) := by decide
  have f1 := fun b h f g => Do_good b h f g zeroV q1 (by decide) (by decide) (by decide)
  have f2 := fun b h f g => Do_good b h f g v1 q2 (by decide) (by decide) (by decide)
  have f3 := fun b h f g => Do_good b h f g v2 q3 (by decide) (by decide) (by decide)
  rw [e1] at f1
  rw [e2] at f2
  rw [e3] at f3
  simp only [q1, q2, q3, v1, v2, zeroV, zero4, zero16, Vault.encF, Request.encF, Vault.enc, Reply.enc, outV, List.map_cons, List.map_nil, byteV, show UInt8.toNat 0 = 0 from rfl, show UInt8.toNat 1 = 1 from rfl, show UInt8.toNat 2 = 2 from rfl, show UInt8.toNat 3 = 3 from rfl, show UInt8.toNat 115 = 115 from rfl, Int.cast_ofNat_Int] at f1 f2 f3
  have hvb : (0 : Nat) = 0 := rfl
  try simp only [B9, f1, f2, f3, z4, z16, ki, ku, kx, zero4, zero16, byteV, show UInt8.toNat 0 = 0 from rfl, Int.cast_ofNat_Int, show ((0 : Nat) : Int) = 0 from rfl, go_sem, V.s.injEq, Value.bool.injEq, ↓reduceIte, Nat.reduceEqDiff, Nat.reduceBEq, Nat.reduceAdd, Nat.reduceSub, Nat.reduceLT, Nat.reduceLeDiff, Int.reduceLT, Int.reduceLE, Int.reduceEq, Int.reduceToNat, List.append_assoc, List.length_append, Vm.get_app, Vm.set_app, Vm.get_appL, Vm.get_appL0, Vm.set_appL, Vm.set_appL0, Nat.le_refl, Nat.le_add_right, okAt]
  repeat' (
    first | refine wpC_cases ?_ ?_ | refine wpU_casesT ?_ ?_ | refine wpU_casesF ?_ ?_
    all_goals intro hvc
    all_goals first | replace hvc := not_of_true hvc | replace hvc := not_of_false hvc | skip
    all_goals first | subst hvc | replace hvb := And.intro hvc hvb
    all_goals try simp only [hvb, B9, f1, f2, f3, z4, z16, ki, ku, kx, zero4, zero16, byteV, show UInt8.toNat 0 = 0 from rfl, Int.cast_ofNat_Int, show ((0 : Nat) : Int) = 0 from rfl, go_sem, V.s.injEq, Value.bool.injEq, ↓reduceIte, Nat.reduceEqDiff, Nat.reduceBEq, Nat.reduceAdd, Nat.reduceSub, Nat.reduceLT, Nat.reduceLeDiff, Int.reduceLT, Int.reduceLE, Int.reduceEq, Int.reduceToNat, List.append_assoc, List.length_append, Vm.get_app, Vm.set_app, Vm.get_appL, Vm.get_appL0, Vm.set_appL, Vm.set_appL0, Nat.le_refl, Nat.le_add_right, okAt])
  all_goals decide
def id7 : Bs := [7, 0, 0, 0]
theorem Q_ty (x : Q) : x.enc.ty = some 35 := rfl
end Go.Proofs.Ytfhmclgnfabdfaa
