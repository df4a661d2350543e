/- Requests as the statements draw them. Conditions: none. -/
import Derived.Test.YtfhmclgnfabdfaaCS11
namespace Go.Proofs.Ytfhmclgnfabdfaa
open Go Go.Vm Go.Proofs Go.Cl
set_option linter.unusedSimpArgs false
set_option linter.unusedVariables false
set_option maxRecDepth 100000
/-- A digest, a name made of a number. -/
def dOf (n : Int) : Bs := [bt n, bt (shrI .i64 n 8), 3, 0, 0, 0, 0, 0, 0, 0, 0, 0, 0, 0, 0, 0]
def idOf (n : Int) : Bs := [bt (within n 0 255), 7, 0, 0]
theorem dOf_v (x : Int) (t : Nat) : V.arr t [byteV (bt x), byteV (bt (shrI .i64 x 8)), .s (.int .u8 3), .s (.int .u8 0), .s (.int .u8 0), .s (.int .u8 0), .s (.int .u8 0), .s (.int .u8 0), .s (.int .u8 0), .s (.int .u8 0), .s (.int .u8 0), .s (.int .u8 0), .s (.int .u8 0), .s (.int .u8 0), .s (.int .u8 0), .s (.int .u8 0)] = .arr t ((dOf x).map byteV) := rfl
theorem idOf_v (x : Int) (t : Nat) : V.arr t [byteV (bt (within x 0 255)), .s (.int .u8 7), .s (.int .u8 0), .s (.int .u8 0)] = .arr t ((idOf x).map byteV) := rfl
theorem D_ok (b : Nat) (h : Hp) (n : Int) : run fns pr b 20 [.s (.int .i64 n)] h = some (.arr 26 ((dOf n).map byteV), h) := by
  refine Vm.runP (nt := 9) rfl fit20 (by simp) ?_
  have hs := fun cf base h => o_shr (cf := cf) (base := base) (h := h) .i64 .u64 n 8 (by decide)
  have hs' := fun cf base h => o_shr (cf := cf) (base := base) (h := h) .i64 .i64 n 8 (by decide)
  have hvb : (0 : Nat) = 0 := rfl
  try simp only [B20, hs, hs', bt_v, dOf_v, go_sem, V.s.injEq, Value.bool.injEq, ↓reduceIte, Nat.reduceEqDiff, Nat.reduceBEq, Nat.reduceAdd, Nat.reduceSub, Nat.reduceLT, Nat.reduceLeDiff, Int.reduceLT, Int.reduceLE, Int.reduceEq, Int.reduceToNat, List.append_assoc, List.length_append, Vm.get_app, Vm.set_app, Vm.get_appL, Vm.get_appL0, Vm.set_appL, Vm.set_appL0, Nat.le_refl, Nat.le_add_right, okAt]
  repeat' (
    first | refine wpC_cases ?_ ?_ | refine wpU_casesT ?_ ?_ | refine wpU_casesF ?_ ?_
    all_goals intro hvc
    all_goals first | replace hvc := not_of_true hvc | replace hvc := not_of_false hvc | skip
    all_goals first | subst hvc | replace hvb := And.intro hvc hvb
    all_goals try simp only [hvb, B20, hs, hs', bt_v, dOf_v, go_sem, V.s.injEq, Value.bool.injEq, ↓reduceIte, Nat.reduceEqDiff, Nat.reduceBEq, Nat.reduceAdd, Nat.reduceSub, Nat.reduceLT, Nat.reduceLeDiff, Int.reduceLT, Int.reduceLE, Int.reduceEq, Int.reduceToNat, List.append_assoc, List.length_append, Vm.get_app, Vm.set_app, Vm.get_appL, Vm.get_appL0, Vm.set_appL, Vm.set_appL0, Nat.le_refl, Nat.le_add_right, okAt])
theorem ID_ok (b : Nat) (h : Hp) (n : Int) (h0 : -9223372036854775808 ≤ n) (h1 : n ≤ 9223372036854775807) : run fns pr b 16 [.s (.int .i64 n)] h = some (.arr 23 ((idOf n).map byteV), h) := by
  refine Vm.runP (nt := 7) rfl fit16 (by simp) ?_
  have hw := fun h' => Within_ok h.length h' n 0 255 (by omega) (by omega) (by omega) h0 h1
  have hvb : (0 : Nat) = 0 := rfl
  try simp only [B16, hw, bt_v, idOf_v, go_sem, V.s.injEq, Value.bool.injEq, ↓reduceIte, Nat.reduceEqDiff, Nat.reduceBEq, Nat.reduceAdd, Nat.reduceSub, Nat.reduceLT, Nat.reduceLeDiff, Int.reduceLT, Int.reduceLE, Int.reduceEq, Int.reduceToNat, List.append_assoc, List.length_append, Vm.get_app, Vm.set_app, Vm.get_appL, Vm.get_appL0, Vm.set_appL, Vm.set_appL0, Nat.le_refl, Nat.le_add_right, okAt]
  repeat' (
    first | refine wpC_cases ?_ ?_ | refine wpU_casesT ?_ ?_ | refine wpU_casesF ?_ ?_
    all_goals intro hvc
    all_goals first | replace hvc := not_of_true hvc | replace hvc := not_of_false hvc | skip
    all_goals first | subst hvc | replace hvb := And.intro hvc hvb
    all_goals try simp only [hvb, B16, hw, bt_v, idOf_v, go_sem, V.s.injEq, Value.bool.injEq, ↓reduceIte, Nat.reduceEqDiff, Nat.reduceBEq, Nat.reduceAdd, Nat.reduceSub, Nat.reduceLT, Nat.reduceLeDiff, Int.reduceLT, Int.reduceLE, Int.reduceEq, Int.reduceToNat, List.append_assoc, List.length_append, Vm.get_app, Vm.set_app, Vm.get_appL, Vm.get_appL0, Vm.set_appL, Vm.set_appL0, Nat.le_refl, Nat.le_add_right, okAt])

def keepQ (x : Q) : Request :=
  let op := 1 + (within x.op 0 1048576).tmod 4
  { op := op, iD := idOf x.iD, pin := if op = 4 then zero16 else dOf ((within x.pin 0 1048576).tmod 3),
    secret := if op = 1 ∨ op = 3 then x.secret.take 64 else [], limit := if op = 1 ∨ op = 3 then within x.limit 1 32 else 0,
    owner := if op = 2 then zero16 else dOf ((within x.owner 0 1048576).tmod 2), key_ := dOf (IntKind.i64.wrap (x.client + 77)), client := within x.client 0 3, num := x.num.tmod 1099511627777 }
theorem Request_ok (b : Nat) (h : Hp) (x : Q) (hx : x.wf) : run fns pr b 6 [x.enc] h = some ((keepQ x).enc, h) := by
  refine Vm.runP (nt := 60) rfl fit6 (by simp) ?_
  obtain ⟨w0, w1, w2, w3, w4, w5, w6, w7⟩ := hx
  have e1 := fun h' => Within_ok h.length h' x.op 0 1048576 (by omega) (by omega) (by omega) w0.1 w0.2
  have e2 := fun h' => Within_ok h.length h' x.pin 0 1048576 (by omega) (by omega) (by omega) w2.1 w2.2
  have e3 := fun h' => Within_ok h.length h' x.owner 0 1048576 (by omega) (by omega) (by omega) w3.1 w3.2
  have e4 := fun h' => Within_ok h.length h' x.limit 1 32 (by omega) (by omega) (by omega) w4.1 w4.2
  have e5 := fun h' => Within_ok h.length h' x.client 0 3 (by omega) (by omega) (by omega) w5.1 w5.2
  have e6 := fun h' => ID_ok h.length h' x.iD w1.1 w1.2
  have e7 := fun h' n => D_ok h.length h' n
  have e8 := fun h' f => Cut_ok h.length h' f x.secret 64 (by omega)
  have r1 := fun cf base h x => o_rem (cf := cf) (base := base) (h := h) .i64 x 4 (by decide)
  have r2 := fun cf base h x => o_rem (cf := cf) (base := base) (h := h) .i64 x 3 (by decide)
  have r3 := fun cf base h x => o_rem (cf := cf) (base := base) (h := h) .i64 x 2 (by decide)
  have r4 := fun cf base h x => o_rem (cf := cf) (base := base) (h := h) .u64 x 1099511627777 (by decide)
  have g1 := within_ge (n := x.op) (lo := 0) (hi := 1048576) (by omega)
  have hop : IntKind.i64.wrap (1 + (within x.op 0 1048576).tmod 4) = 1 + (within x.op 0 1048576).tmod 4 := by
    have h1 := Int.tmod_nonneg 4 g1
    have h2 := Int.tmod_lt_of_pos (within x.op 0 1048576) (show (0 : Int) < 4 by decide)
    exact wrap_i64 (by omega) (by omega)
  simp only [show Int.toNat 64 = 64 from rfl] at e8
  have hlen : (x.secret.take 64).length ≤ 140737488355328 := by simp; omega
  have key : ∀ y : Request, keepQ x = y → some ((keepQ x).enc, h) = some (y.enc, h) := fun y e => by rw [e]
  generalize hs : x.secret.take 64 = l at e8 hlen
  by_cases hne : l = []
  · subst hne
    simp only [List.map_nil] at e8
    have hvb : (0 : Nat) = 0 := rfl
    try simp only [B6, Q.enc, e1, e2, e3, e4, e5, e6, e7, e8, r1, r2, r3, r4, hop, zero4_a, zero16_a, go_sem, V.s.injEq, Value.bool.injEq, ↓reduceIte, Nat.reduceEqDiff, Nat.reduceBEq, Nat.reduceAdd, Nat.reduceSub, Nat.reduceLT, Nat.reduceLeDiff, Int.reduceLT, Int.reduceLE, Int.reduceEq, Int.reduceToNat, List.append_assoc, List.length_append, Vm.get_app, Vm.set_app, Vm.get_appL, Vm.get_appL0, Vm.set_appL, Vm.set_appL0, Nat.le_refl, Nat.le_add_right, okAt]
    repeat' (
      first | refine wpC_cases ?_ ?_ | refine wpU_casesT ?_ ?_ | refine wpU_casesF ?_ ?_
      all_goals intro hvc
      all_goals first | replace hvc := not_of_true hvc | replace hvc := not_of_false hvc | skip
      all_goals first | subst hvc | replace hvb := And.intro hvc hvb
      all_goals try simp only [hvb, B6, Q.enc, e1, e2, e3, e4, e5, e6, e7, e8, r1, r2, r3, r4, hop, zero4_a, zero16_a, go_sem, V.s.injEq, Value.bool.injEq, ↓reduceIte, Nat.reduceEqDiff, Nat.reduceBEq, Nat.reduceAdd, Nat.reduceSub, Nat.reduceLT, Nat.reduceLeDiff, Int.reduceLT, Int.reduceLE, Int.reduceEq, Int.reduceToNat, List.append_assoc, List.length_append, Vm.get_app, Vm.set_app, Vm.get_appL, Vm.get_appL0, Vm.set_appL, Vm.set_appL0, Nat.le_refl, Nat.le_add_right, okAt])
    all_goals clear e1 e2 e3 e4 e5 e6 e7 e8 r1 r2 r3 r4
    all_goals try simp only [decide_eq_true_eq, decide_eq_false_iff_not] at *
    all_goals first
      | (simp_all [keepQ, Request.enc, -Int.not_le, -Int.not_lt, -Nat.not_le, -Nat.not_lt, Bool.beq_eq_decide_eq]; done)
      | (simp_all [keepQ, Request.enc, -Int.not_le, -Int.not_lt, -Nat.not_le, -Nat.not_lt, Bool.beq_eq_decide_eq]; omega)
      | (simp_all [keepQ, Request.enc, Bool.beq_eq_decide_eq]; done)
      | (simp_all [keepQ, Request.enc, Bool.beq_eq_decide_eq]; omega)
      | skip
  · have ha := fun cf base h f => app_bytes (cf := cf) (base := base) (h := h) (f := f) hne hlen
    have hvb : (0 : Nat) = 0 := rfl
    try simp only [B6, Q.enc, e1, e2, e3, e4, e5, e6, e7, e8, r1, r2, r3, r4, ha, hop, zero4_a, zero16_a, go_sem, V.s.injEq, Value.bool.injEq, ↓reduceIte, Nat.reduceEqDiff, Nat.reduceBEq, Nat.reduceAdd, Nat.reduceSub, Nat.reduceLT, Nat.reduceLeDiff, Int.reduceLT, Int.reduceLE, Int.reduceEq, Int.reduceToNat, List.append_assoc, List.length_append, Vm.get_app, Vm.set_app, Vm.get_appL, Vm.get_appL0, Vm.set_appL, Vm.set_appL0, Nat.le_refl, Nat.le_add_right, okAt]
    repeat' (
      first | refine wpC_cases ?_ ?_ | refine wpU_casesT ?_ ?_ | refine wpU_casesF ?_ ?_
      all_goals intro hvc
      all_goals first | replace hvc := not_of_true hvc | replace hvc := not_of_false hvc | skip
      all_goals first | subst hvc | replace hvb := And.intro hvc hvb
      all_goals try simp only [hvb, B6, Q.enc, e1, e2, e3, e4, e5, e6, e7, e8, r1, r2, r3, r4, ha, hop, zero4_a, zero16_a, go_sem, V.s.injEq, Value.bool.injEq, ↓reduceIte, Nat.reduceEqDiff, Nat.reduceBEq, Nat.reduceAdd, Nat.reduceSub, Nat.reduceLT, Nat.reduceLeDiff, Int.reduceLT, Int.reduceLE, Int.reduceEq, Int.reduceToNat, List.append_assoc, List.length_append, Vm.get_app, Vm.set_app, Vm.get_appL, Vm.get_appL0, Vm.set_appL, Vm.set_appL0, Nat.le_refl, Nat.le_add_right, okAt])
    all_goals clear e1 e2 e3 e4 e5 e6 e7 e8 r1 r2 r3 r4 ha
    all_goals try simp only [decide_eq_true_eq, decide_eq_false_iff_not] at *
    all_goals first
      | (simp_all [keepQ, Request.enc, -Int.not_le, -Int.not_lt, -Nat.not_le, -Nat.not_lt, Bool.beq_eq_decide_eq]; done)
      | (simp_all [keepQ, Request.enc, -Int.not_le, -Int.not_lt, -Nat.not_le, -Nat.not_lt, Bool.beq_eq_decide_eq]; omega)
      | (simp_all [keepQ, Request.enc, Bool.beq_eq_decide_eq]; done)
      | (simp_all [keepQ, Request.enc, Bool.beq_eq_decide_eq]; omega)
      | skip
theorem keepQ_facts (x : Q) (hx : x.wf) : 1 ≤ (keepQ x).op ∧ (keepQ x).op ≤ 4 ∧ 0 ≤ (keepQ x).num ∧ (keepQ x).num ≤ 1099511627776 ∧ 0 ≤ (keepQ x).client ∧ (keepQ x).client < 4 ∧ (keepQ x).secret.length ≤ 64 ∧ 0 ≤ (keepQ x).limit ∧ (keepQ x).limit ≤ 32 := by
  have g1 := within_ge (n := x.op) (lo := 0) (hi := 1048576) (by omega)
  have h1 := Int.tmod_nonneg 4 g1
  have h2 := Int.tmod_lt_of_pos (within x.op 0 1048576) (show (0 : Int) < 4 by decide)
  have h3 := Int.tmod_nonneg 1099511627777 hx.num.1
  have h4 := Int.tmod_lt_of_pos x.num (show (0 : Int) < 1099511627777 by decide)
  have g2 := within_ge (n := x.client) (lo := 0) (hi := 3) (by omega)
  have g3 := within_le (n := x.client) (lo := 0) (hi := 3) (by omega)
  have g4 := within_ge (n := x.limit) (lo := 1) (hi := 32) (by omega)
  have g5 := within_le (n := x.limit) (lo := 1) (hi := 32) (by omega)
  simp only [keepQ]
  refine ⟨by omega, by omega, h3, by omega, g2, by omega, ?_, ?_, ?_⟩
  · split
    · simp; omega
    · simp
  · split <;> omega
  · split <;> omega
end Go.Proofs.Ytfhmclgnfabdfaa
