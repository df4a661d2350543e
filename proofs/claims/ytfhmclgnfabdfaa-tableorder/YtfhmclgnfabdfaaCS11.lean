/- Requests on one vault: what they come to. Conditions: none. -/
import Derived.Test.YtfhmclgnfabdfaaCS6
import Derived.Test.YtfhmclgnfabdfaaCVc
namespace Go.Proofs.Ytfhmclgnfabdfaa
open Go Go.Vm Go.Proofs Go.Cl
set_option linter.unusedSimpArgs false
set_option linter.unusedVariables false
set_option maxRecDepth 100000
/-- A vault, a request, a reply whose secret has, or has no, spare room. -/
def Vault.encF (f : Bool) (a : Vault) : V := .st 29 [.arr 23 (a.iD.map byteV), .s (.int .u64 a.gen), .arr 26 (a.pin.map byteV), .imm f none (a.secret.map byteV), .s (.int .i64 a.limit), .s (.int .i64 a.used), .arr 26 (a.owner.map byteV), .s (.bool a.gone), .s (.bool a.wiped)]
def Request.encF (f : Bool) (a : Request) : V := .st 32 [.s (.int .i64 a.op), .arr 23 (a.iD.map byteV), .arr 26 (a.pin.map byteV), .imm f none (a.secret.map byteV), .s (.int .i64 a.limit), .arr 26 (a.owner.map byteV), .arr 26 (a.key_.map byteV), .s (.int .i64 a.client), .s (.int .u64 a.num)]
def Reply.encF (f : Bool) (a : Reply) : V := .st 38 [.s (.int .i64 a.why), .arr 23 (a.iD.map byteV), .s (.int .u64 a.gen), .s (.int .i64 a.left), .imm f none (a.secret.map byteV), .s (.int .i64 a.client), .s (.int .u64 a.num)]
theorem Vault.enc_F (a : Vault) : a.enc = a.encF false := rfl
theorem Request.enc_F (a : Request) : a.enc = a.encF false := rfl
theorem Reply.enc_F (a : Reply) : a.enc = a.encF false := rfl

/-- No vault. -/
def zeroV : Vault := ⟨zero4, 0, zero16, [], 0, 0, zero16, false, false⟩
def zeroR : Reply := ⟨0, zero4, 0, 0, [], 0, 0⟩

theorem rSame_ok (b : Nat) (h : Hp) (f g : Bool) (v w : Vault) : run fns pr b 8 [v.encF f, w.encF g] h = some (.s (.bool (decide (v = w))), h) := by
  refine Vm.runP (nt := 68) rfl fit8 (by simp) ?_
  obtain ⟨a1, a2, a3, a4, a5, a6, a7, a8, a9⟩ := v
  obtain ⟨c1, c2, c3, c4, c5, c6, c7, c8, c9⟩ := w
  simp only [Vault.mk.injEq]
  have he := fun h0 base l f => (BR_imm h0 f l).o_b2s (cf := run fns pr h.length) (base := base)
  have hvb : (0 : Nat) = 0 := rfl
  try simp only [B8, Vault.encF, o_eqaB, he, go_sem, V.s.injEq, Value.bool.injEq, ↓reduceIte, Nat.reduceEqDiff, Nat.reduceBEq, Nat.reduceAdd, Nat.reduceSub, Nat.reduceLT, Nat.reduceLeDiff, Int.reduceLT, Int.reduceLE, Int.reduceEq, Int.reduceToNat, List.append_assoc, List.length_append, Vm.get_app, Vm.set_app, Vm.get_appL, Vm.get_appL0, Vm.set_appL, Vm.set_appL0, Nat.le_refl, Nat.le_add_right, okAt]
  repeat' (
    first | refine wpC_cases ?_ ?_ | refine wpU_casesT ?_ ?_ | refine wpU_casesF ?_ ?_
    all_goals intro hvc
    all_goals first | replace hvc := not_of_true hvc | replace hvc := not_of_false hvc | skip
    all_goals first | subst hvc | replace hvb := And.intro hvc hvb
    all_goals try simp only [hvb, B8, Vault.encF, o_eqaB, he, go_sem, V.s.injEq, Value.bool.injEq, ↓reduceIte, Nat.reduceEqDiff, Nat.reduceBEq, Nat.reduceAdd, Nat.reduceSub, Nat.reduceLT, Nat.reduceLeDiff, Int.reduceLT, Int.reduceLE, Int.reduceEq, Int.reduceToNat, List.append_assoc, List.length_append, Vm.get_app, Vm.set_app, Vm.get_appL, Vm.get_appL0, Vm.set_appL, Vm.set_appL0, Nat.le_refl, Nat.le_add_right, okAt])
  all_goals (clear he; simp_all [Bool.beq_eq_decide_eq])
theorem zero16_a (t : Nat) : V.arr t [V.s (.int .u8 0), .s (.int .u8 0), .s (.int .u8 0), .s (.int .u8 0), .s (.int .u8 0), .s (.int .u8 0), .s (.int .u8 0), .s (.int .u8 0), .s (.int .u8 0), .s (.int .u8 0), .s (.int .u8 0), .s (.int .u8 0), .s (.int .u8 0), .s (.int .u8 0), .s (.int .u8 0), .s (.int .u8 0)] = .arr t (zero16.map byteV) := rfl
theorem zero4_a (t : Nat) : V.arr t [V.s (.int .u8 0), .s (.int .u8 0), .s (.int .u8 0), .s (.int .u8 0)] = .arr t (zero4.map byteV) := rfl
theorem enc_tyV (v : Vault) : v.enc.ty = some 29 := rfl
theorem enc_soV (v : Vault) : v.enc.solid = true := rfl
theorem enc_frV (n : Nat) (h : Hp) (v : Vault) : frzV n h v.enc = some v.enc := by simp only [Vault.enc, go_sem]
/-- What is left of a vault. -/
def goneV (v : Vault) (w : Bool) : Vault := ⟨v.iD, v.gen, zero16, [], 0, 0, zero16, true, w⟩
def escV (v : Vault) (q : Request) (r : Reply) : Vault × Reply × Bool :=
  if 1099511627776 ≤ v.gen then (v, { r with why := 31 }, false)
  else (⟨q.iD, v.gen + 1, q.pin, q.secret, q.limit, 0, q.owner, false, false⟩, { r with gen := v.gen + 1, left := q.limit }, true)
def outV (o : Vault × Reply × Bool) : V := .tup [o.1.enc, o.2.1.enc, .s (.bool o.2.2)]
theorem RightVaultF_ok (b : Nat) (h : Hp) (f : Bool) (v : Vault) : run fns pr b 24 [v.encF f] h = some (.s (.bool (rightV v)), h) := by
  refine Vm.runP (nt := 72) rfl fit24 (by simp) ?_
  have hvb : (0 : Nat) = 0 := rfl
  try simp only [B24, Vault.encF, zero16_a, o_eqaB, go_sem, V.s.injEq, Value.bool.injEq, ↓reduceIte, Nat.reduceEqDiff, Nat.reduceBEq, Nat.reduceAdd, Nat.reduceSub, Nat.reduceLT, Nat.reduceLeDiff, Int.reduceLT, Int.reduceLE, Int.reduceEq, Int.reduceToNat, List.append_assoc, List.length_append, Vm.get_app, Vm.set_app, Vm.get_appL, Vm.get_appL0, Vm.set_appL, Vm.set_appL0, Nat.le_refl, Nat.le_add_right, okAt]
  repeat' (
    first | refine wpC_cases ?_ ?_ | refine wpU_casesT ?_ ?_ | refine wpU_casesF ?_ ?_
    all_goals intro hvc
    all_goals first | replace hvc := not_of_true hvc | replace hvc := not_of_false hvc | skip
    all_goals first | subst hvc | replace hvb := And.intro hvc hvb
    all_goals try simp only [hvb, B24, Vault.encF, zero16_a, o_eqaB, go_sem, V.s.injEq, Value.bool.injEq, ↓reduceIte, Nat.reduceEqDiff, Nat.reduceBEq, Nat.reduceAdd, Nat.reduceSub, Nat.reduceLT, Nat.reduceLeDiff, Int.reduceLT, Int.reduceLE, Int.reduceEq, Int.reduceToNat, List.append_assoc, List.length_append, Vm.get_app, Vm.set_app, Vm.get_appL, Vm.get_appL0, Vm.set_appL, Vm.set_appL0, Nat.le_refl, Nat.le_add_right, okAt])
  all_goals try simp only [decide_eq_true_eq, decide_eq_false_iff_not] at *
  all_goals first
    | (simp_all [rightV, -Int.not_le, -Int.not_lt, -Nat.not_le, -Nat.not_lt, Bool.beq_eq_decide_eq]; done)
    | (simp_all [rightV, -Int.not_le, -Int.not_lt, -Nat.not_le, -Nat.not_lt, Bool.beq_eq_decide_eq]; omega)
    | (simp_all [rightV, Bool.beq_eq_decide_eq]; done)
    | (simp_all [rightV, Bool.beq_eq_decide_eq]; omega)
    | skip
/-- Guesses that are left. -/
def leftV (v : Vault) : Int := if v.gone = true ∨ rightV v = false then 0 else v.limit - v.used
theorem right_used {v : Vault} (h : rightV v = true) (hg : v.gone = false) : 0 ≤ v.used ∧ v.used < v.limit ∧ v.limit ≤ 32 := by
  simp [rightV, hg] at h; omega
def missV (v : Vault) (q : Request) : Int := if v.gen = 0 then 22 else if v.gone = true then 24 else if q.op ≠ 2 ∧ q.owner ≠ v.owner then 25 else 0
/-- A vault of which one guess more is gone. -/
def usedV (v : Vault) : Vault := { v with used := v.used + 1 }
def recV (v : Vault) (q : Request) (r : Reply) : Vault × Reply × Bool :=
  if q.pin = v.pin then (v, { r with secret := v.secret, left := leftV v }, false)
  else if v.used + 1 = v.limit then (goneV v true, { r with why := 23 }, true)
  else (usedV v, { r with why := 23, left := leftV (usedV v) }, true)
/-- A request done on a vault. -/
def vdo (v : Vault) (q : Request) : Vault × Reply × Bool :=
  if rightQ q = false ∨ v ≠ zeroV ∧ (rightV v = false ∨ v.iD ≠ q.iD) then (zeroV, { zeroR with why := 12 }, false)
  else
    let r : Reply := ⟨0, q.iD, v.gen, 0, [], q.client, q.num⟩
    if q.op = 1 then (if v ≠ zeroV ∧ v.gone = false then (v, { r with why := 14 }, false) else escV v q r)
    else if missV v q ≠ 0 then (v, { r with why := missV v q }, false)
    else if q.op = 2 then recV v q { r with why := missV v q }
    else if q.op = 3 then escV v q { r with why := missV v q }
    else (goneV v false, { r with why := missV v q }, true)
theorem right_secretV {v : Vault} (h : rightV v = true) : v.secret.length ≤ 64 := by
  simp [rightV] at h
  have := h.2
  split at this <;> simp_all
theorem right_goneV {v : Vault} (h : rightV v = true) : 1 ≤ v.gen := by
  simp [rightV] at h; exact h.1.1
/-- A right request done on a vault that is right, or none. -/
def doG (v : Vault) (q : Request) : Vault × Reply × Bool :=
    if q.op = 1 then (if v ≠ zeroV ∧ v.gone = false then (v, ⟨14, q.iD, v.gen, 0, [], q.client, q.num⟩, false) else escV v q ⟨0, q.iD, v.gen, 0, [], q.client, q.num⟩)
    else if missV v q ≠ 0 then (v, ⟨missV v q, q.iD, v.gen, 0, [], q.client, q.num⟩, false)
    else if q.op = 2 then recV v q ⟨0, q.iD, v.gen, 0, [], q.client, q.num⟩
    else if q.op = 3 then escV v q ⟨0, q.iD, v.gen, 0, [], q.client, q.num⟩
    else (goneV v false, ⟨0, q.iD, v.gen, 0, [], q.client, q.num⟩, true)
end Go.Proofs.Ytfhmclgnfabdfaa
