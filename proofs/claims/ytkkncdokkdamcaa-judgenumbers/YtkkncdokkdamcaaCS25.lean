/- What is counted in replies. Conditions: none. -/
import Derived.Test.YtkkncdokkdamcaaCS23a
import Derived.Test.YtkkncdokkdamcaaCVc
namespace Go.Proofs.Ytkkncdokkdamcaa
open Go Go.Vm Go.Proofs Go.Cl
set_option linter.unusedSimpArgs false
set_option linter.unusedVariables false
set_option maxRecDepth 100000
def ofB (r : Reply) (id : Bs) (gen : Int) : Bool := decide (r.iD = id) && decide (r.gen = gen)
def tellsB (r : Reply) : Bool := decide (r.why = 0) && decide (0 < r.secret.length)
def wrongs (id : Bs) (gen : Int) (l : List Reply) : Nat := l.countP fun r => ofB r id gen && decide (r.why = 23)
def told (id : Bs) (gen : Int) (l : List Reply) : Nat := l.countP fun r => ofB r id gen && tellsB r
def afterB : List Reply → Bool
  | [] => false
  | r :: l => (decide (r.why = 23) && decide (r.left = 0) && decide (0 < told r.iD r.gen l)) || afterB l
theorem of_ok (b : Nat) (h : Hp) (f : Bool) (r : Reply) (id : Bs) (gen : Int) : run fns pr b 44 [r.encF f, .arr 26 (id.map byteV), .s (.int .u64 gen)] h = some (.s (.bool (ofB r id gen)), h) := by
  refine Vm.runP (nt := 17) rfl fit44 (by simp) ?_
  unfold ofB
  have hvb : (0 : Nat) = 0 := rfl
  try simp only [B44, Reply.encF, o_eqaB, go_sem, V.s.injEq, Value.bool.injEq, ↓reduceIte, Nat.reduceEqDiff, Nat.reduceBEq, Nat.reduceAdd, Nat.reduceSub, Nat.reduceLT, Nat.reduceLeDiff, Int.reduceLT, Int.reduceLE, Int.reduceEq, Int.reduceToNat, List.append_assoc, List.length_append, Vm.get_app, Vm.set_app, Vm.get_appL, Vm.get_appL0, Vm.set_appL, Vm.set_appL0, Nat.le_refl, Nat.le_add_right, okAt]
  repeat' (
    first | refine wpC_cases ?_ ?_ | refine wpU_casesT ?_ ?_ | refine wpU_casesF ?_ ?_
    all_goals intro hvc
    all_goals first | replace hvc := not_of_true hvc | replace hvc := not_of_false hvc | skip
    all_goals first | subst hvc | replace hvb := And.intro hvc hvb
    all_goals try simp only [hvb, B44, Reply.encF, o_eqaB, go_sem, V.s.injEq, Value.bool.injEq, ↓reduceIte, Nat.reduceEqDiff, Nat.reduceBEq, Nat.reduceAdd, Nat.reduceSub, Nat.reduceLT, Nat.reduceLeDiff, Int.reduceLT, Int.reduceLE, Int.reduceEq, Int.reduceToNat, List.append_assoc, List.length_append, Vm.get_app, Vm.set_app, Vm.get_appL, Vm.get_appL0, Vm.set_appL, Vm.set_appL0, Nat.le_refl, Nat.le_add_right, okAt])
  all_goals simp_all
theorem tells_ok (b : Nat) (h : Hp) (f : Bool) (r : Reply) : run fns pr b 45 [r.encF f] h = some (.s (.bool (tellsB r)), h) := by
  refine Vm.runP (nt := 12) rfl fit45 (by simp) ?_
  unfold tellsB
  have hz : ((0 : Int) < (r.secret.length : Int)) = (0 < r.secret.length) := propext (by omega)
  have hvb : (0 : Nat) = 0 := rfl
  try simp only [B45, Reply.encF, hz, go_sem, V.s.injEq, Value.bool.injEq, ↓reduceIte, Nat.reduceEqDiff, Nat.reduceBEq, Nat.reduceAdd, Nat.reduceSub, Nat.reduceLT, Nat.reduceLeDiff, Int.reduceLT, Int.reduceLE, Int.reduceEq, Int.reduceToNat, List.append_assoc, List.length_append, Vm.get_app, Vm.set_app, Vm.get_appL, Vm.get_appL0, Vm.set_appL, Vm.set_appL0, Nat.le_refl, Nat.le_add_right, okAt]
  repeat' (
    first | refine wpC_cases ?_ ?_ | refine wpU_casesT ?_ ?_ | refine wpU_casesF ?_ ?_
    all_goals intro hvc
    all_goals first | replace hvc := not_of_true hvc | replace hvc := not_of_false hvc | skip
    all_goals first | subst hvc | replace hvb := And.intro hvc hvb
    all_goals try simp only [hvb, B45, Reply.encF, hz, go_sem, V.s.injEq, Value.bool.injEq, ↓reduceIte, Nat.reduceEqDiff, Nat.reduceBEq, Nat.reduceAdd, Nat.reduceSub, Nat.reduceLT, Nat.reduceLeDiff, Int.reduceLT, Int.reduceLE, Int.reduceEq, Int.reduceToNat, List.append_assoc, List.length_append, Vm.get_app, Vm.set_app, Vm.get_appL, Vm.get_appL0, Vm.set_appL, Vm.set_appL0, Nat.le_refl, Nat.le_add_right, okAt])
  all_goals simp_all
def cntP {α : Type} (p : α → Bool) (l : List α) (i : Nat) : Nat := (l.take i).countP p
theorem cntP_succ {α : Type} (p : α → Bool) {l : List α} {i : Nat} {x : α} (h : l[i]? = some x) : cntP p l (i + 1) = cntP p l i + if p x = true then 1 else 0 := by
  unfold cntP
  rw [List.take_add_one, h]
  simp [List.countP_append, List.countP_cons]
theorem cntP_le {α : Type} (p : α → Bool) (l : List α) (i : Nat) : cntP p l i ≤ i := Nat.le_trans List.countP_le_length (by simp; omega)
theorem cntP_all {α : Type} (p : α → Bool) (l : List α) : cntP p l l.length = l.countP p := by simp [cntP]
def wrongP (id : Bs) (gen : Int) (r : Reply) : Bool := ofB r id gen && decide (r.why = 23)
def toldP (id : Bs) (gen : Int) (r : Reply) : Bool := ofB r id gen && tellsB r
theorem Wrongs_ok (b : Nat) (h : Hp) (x : V) (l : List Reply) (id : Bs) (gen : Int) (hx : SR h x (some 39) (l.map Reply.enc)) (hl : l.length ≤ 1000000) :
    run fns pr b 19 [.arr 26 (id.map byteV), .s (.int .u64 gen), x] h = some (.s (.int .i64 (wrongs id gen l : Nat)), h) := by
  refine Vm.runP (nt := 29) rfl fit19 (by simp) ?_
  have hlx := fun cf base h0 => hx.o_len (cf := cf) (base := base) (h := h0)
  simp only [List.length_map] at hlx
  have hvb : (0 : Nat) = 0 := rfl
  try simp only [B19, B19R0, B19L0, hlx, go_sem, V.s.injEq, Value.bool.injEq, ↓reduceIte, Nat.reduceEqDiff, Nat.reduceBEq, Nat.reduceAdd, Nat.reduceSub, Nat.reduceLT, Nat.reduceLeDiff, Int.reduceLT, Int.reduceLE, Int.reduceEq, Int.reduceToNat, List.append_assoc, List.length_append, Vm.get_app, Vm.set_app, Vm.get_appL, Vm.get_appL0, Vm.set_appL, Vm.set_appL0, Nat.le_refl, Nat.le_add_right, okAt]
  repeat' (
    first | refine wpC_cases ?_ ?_ | refine wpU_casesT ?_ ?_ | refine wpU_casesF ?_ ?_
    all_goals intro hvc
    all_goals first | replace hvc := not_of_true hvc | replace hvc := not_of_false hvc | skip
    all_goals first | subst hvc | replace hvb := And.intro hvc hvb
    all_goals try simp only [hvb, B19, B19R0, B19L0, hlx, go_sem, V.s.injEq, Value.bool.injEq, ↓reduceIte, Nat.reduceEqDiff, Nat.reduceBEq, Nat.reduceAdd, Nat.reduceSub, Nat.reduceLT, Nat.reduceLeDiff, Int.reduceLT, Int.reduceLE, Int.reduceEq, Int.reduceToNat, List.append_assoc, List.length_append, Vm.get_app, Vm.set_app, Vm.get_appL, Vm.get_appL0, Vm.set_appL, Vm.set_appL0, Nat.le_refl, Nat.le_add_right, okAt])
  refine wp_for (fun n e H => ∃ i, n = l.length - i ∧ i ≤ l.length ∧ e 12 = .s (.int .i64 (i : Nat)) ∧ e 11 = .s (.int .i64 (l.length : Nat)) ∧ e 10 = x ∧ e 3 = .ptr h.length [0] 1 ∧ e 1 = .s (.int .u64 gen) ∧ e 7 = .s (.int .i64 (cntP (wrongP id gen) l i : Nat)) ∧ H[h.length]? = some (.cells (some 26) [.arr 26 (id.map byteV)]) ∧ Fw [] h H)
    (fun e H => e 7 = .s (.int .i64 (cntP (wrongP id gen) l l.length : Nat)) ∧ Fw [] h H)
    l.length _ _ ⟨0, rfl, by omega, rfl, rfl, rfl, rfl, rfl, rfl, get_app0 _ _, Fw.app _ _ _⟩ ?_ ?_
  · rintro n e H ⟨i, rfl, hi, e12, e11, e10, e3, e1, e7, hg, fw⟩
    by_cases c : i < l.length
    · have c' : (i : Int) < l.length := by omega
      have hsx := hx.fw fw
      have hv : l[i]? = some l[i] := List.getElem?_eq_getElem c
      have hcp := cntP_succ (wrongP id gen) hv
      have hle := cntP_le (wrongP id gen) l i
      have hia := fun cf base => hsx.o_ias (cf := cf) (base := base) (k := .i64) (i := i) (by simpa using c)
      have hlo := fun cf base => hsx.o_ld (cf := cf) (base := base) (i := i) (v := (l[i]).enc) (by simp [c]) rfl
      have hof := fun h0 => of_ok h.length h0 false l[i] id gen
      have hte := fun h0 => tells_ok h.length h0 false l[i]
      have gr : ∀ k, decide (h.length ≤ H.length + k) = true := fun k => decide_eq_true (Nat.le_trans fw.len (Nat.le_add_right _ _))
      have gr0 := gr 0
      rw [Nat.add_zero] at gr0
      have hgt := fun t => get_old hg t
      have hwr : IntKind.i64.wrap ((i : Int) + 1) = ((i + 1 : Nat) : Int) := wrap_small (by omega)
      have hwn : IntKind.i64.wrap ((cntP (wrongP id gen) l i : Int) + 1) = ((cntP (wrongP id gen) l i + 1 : Nat) : Int) := wrap_small (by omega)
      simp only [wrongP] at hcp
      generalize l[i] = r at *
      simp only [Reply.encF] at hof hte
      have hfin : ∀ (M : Nat) (t : Hp), cntP (wrongP id gen) l (i + 1) = M → ∃ n, n < l.length - i ∧ ∃ i', n = l.length - i' ∧ i' ≤ l.length ∧ Value.int IntKind.i64 ((i + 1 : Nat) : Int) = Value.int IntKind.i64 (i' : Int) ∧ Value.int IntKind.i64 (M : Int) = Value.int IntKind.i64 ((cntP (wrongP id gen) l i' : Nat) : Int) ∧ Fw [] h (H ++ t) :=
        fun M t h1 => ⟨l.length - (i + 1), by omega, i + 1, rfl, by omega, rfl, by rw [h1], fw.trans (Fw.app _ _ _)⟩
      have h0 : (H ++ ([] : Hp)) = H := by simp
      by_cases p1 : ofB r id gen = true
      case neg =>
        have p1 : ofB r id gen = false := by simpa using p1
        simp only [p1, Bool.false_and, Bool.true_and, Bool.false_eq_true, if_false] at hcp
        have hvb : (0 : Nat) = 0 := rfl
        try simp only [e12, e11, e10, e3, e1, e7, c', hia, hlo, Reply.enc, hof, p1, hg, hgt, gr, gr0, hwr, hwn, go_sem, V.s.injEq, Value.bool.injEq, ↓reduceIte, Nat.reduceEqDiff, Nat.reduceBEq, Nat.reduceAdd, Nat.reduceSub, Nat.reduceLT, Nat.reduceLeDiff, Int.reduceLT, Int.reduceLE, Int.reduceEq, Int.reduceToNat, List.append_assoc, List.length_append, Vm.get_app, Vm.set_app, Vm.get_appL, Vm.get_appL0, Vm.set_appL, Vm.set_appL0, Nat.le_refl, Nat.le_add_right, okAt]
        repeat' (
          first | refine wpC_cases ?_ ?_ | refine wpU_casesT ?_ ?_ | refine wpU_casesF ?_ ?_
          all_goals intro hvc
          all_goals first | replace hvc := not_of_true hvc | replace hvc := not_of_false hvc | skip
          all_goals first | subst hvc | replace hvb := And.intro hvc hvb
          all_goals try simp only [hvb, e12, e11, e10, e3, e1, e7, c', hia, hlo, Reply.enc, hof, p1, hg, hgt, gr, gr0, hwr, hwn, go_sem, V.s.injEq, Value.bool.injEq, ↓reduceIte, Nat.reduceEqDiff, Nat.reduceBEq, Nat.reduceAdd, Nat.reduceSub, Nat.reduceLT, Nat.reduceLeDiff, Int.reduceLT, Int.reduceLE, Int.reduceEq, Int.reduceToNat, List.append_assoc, List.length_append, Vm.get_app, Vm.set_app, Vm.get_appL, Vm.get_appL0, Vm.set_appL, Vm.set_appL0, Nat.le_refl, Nat.le_add_right, okAt])
        all_goals exact hfin _ _ (by simpa using hcp)
      case pos =>
        simp only [p1, Bool.false_and, Bool.true_and, Bool.false_eq_true, if_false] at hcp
        by_cases p2 : r.why = 23
        · have p2' := p2
          simp only [p2, decide_true, Bool.and_self, if_true] at hcp
          try simp only [p2] at hof
          have hvb : (0 : Nat) = 0 := rfl
          try simp only [e12, e11, e10, e3, e1, e7, c', hia, hlo, Reply.enc, hof, hte, p1, p2, hg, hgt, gr, gr0, hwr, hwn, go_sem, V.s.injEq, Value.bool.injEq, ↓reduceIte, Nat.reduceEqDiff, Nat.reduceBEq, Nat.reduceAdd, Nat.reduceSub, Nat.reduceLT, Nat.reduceLeDiff, Int.reduceLT, Int.reduceLE, Int.reduceEq, Int.reduceToNat, List.append_assoc, List.length_append, Vm.get_app, Vm.set_app, Vm.get_appL, Vm.get_appL0, Vm.set_appL, Vm.set_appL0, Nat.le_refl, Nat.le_add_right, okAt]
          repeat' (
            first | refine wpC_cases ?_ ?_ | refine wpU_casesT ?_ ?_ | refine wpU_casesF ?_ ?_
            all_goals intro hvc
            all_goals first | replace hvc := not_of_true hvc | replace hvc := not_of_false hvc | skip
            all_goals first | subst hvc | replace hvb := And.intro hvc hvb
            all_goals try simp only [hvb, e12, e11, e10, e3, e1, e7, c', hia, hlo, Reply.enc, hof, hte, p1, p2, hg, hgt, gr, gr0, hwr, hwn, go_sem, V.s.injEq, Value.bool.injEq, ↓reduceIte, Nat.reduceEqDiff, Nat.reduceBEq, Nat.reduceAdd, Nat.reduceSub, Nat.reduceLT, Nat.reduceLeDiff, Int.reduceLT, Int.reduceLE, Int.reduceEq, Int.reduceToNat, List.append_assoc, List.length_append, Vm.get_app, Vm.set_app, Vm.get_appL, Vm.get_appL0, Vm.set_appL, Vm.set_appL0, Nat.le_refl, Nat.le_add_right, okAt])
          all_goals exact hfin _ _ (by simpa using hcp)
        · have p2d : decide (r.why = 23) = false := decide_eq_false p2
          simp only [p2, decide_false, Bool.and_false, if_false, Bool.false_eq_true] at hcp
          have hvb : (0 : Nat) = 0 := rfl
          try simp only [e12, e11, e10, e3, e1, e7, c', hia, hlo, Reply.enc, hof, hte, p1, p2d, hg, hgt, gr, gr0, hwr, hwn, go_sem, V.s.injEq, Value.bool.injEq, ↓reduceIte, Nat.reduceEqDiff, Nat.reduceBEq, Nat.reduceAdd, Nat.reduceSub, Nat.reduceLT, Nat.reduceLeDiff, Int.reduceLT, Int.reduceLE, Int.reduceEq, Int.reduceToNat, List.append_assoc, List.length_append, Vm.get_app, Vm.set_app, Vm.get_appL, Vm.get_appL0, Vm.set_appL, Vm.set_appL0, Nat.le_refl, Nat.le_add_right, okAt]
          repeat' (
            first | refine wpC_cases ?_ ?_ | refine wpU_casesT ?_ ?_ | refine wpU_casesF ?_ ?_
            all_goals intro hvc
            all_goals first | replace hvc := not_of_true hvc | replace hvc := not_of_false hvc | skip
            all_goals first | subst hvc | replace hvb := And.intro hvc hvb
            all_goals try simp only [hvb, e12, e11, e10, e3, e1, e7, c', hia, hlo, Reply.enc, hof, hte, p1, p2d, hg, hgt, gr, gr0, hwr, hwn, go_sem, V.s.injEq, Value.bool.injEq, ↓reduceIte, Nat.reduceEqDiff, Nat.reduceBEq, Nat.reduceAdd, Nat.reduceSub, Nat.reduceLT, Nat.reduceLeDiff, Int.reduceLT, Int.reduceLE, Int.reduceEq, Int.reduceToNat, List.append_assoc, List.length_append, Vm.get_app, Vm.set_app, Vm.get_appL, Vm.get_appL0, Vm.set_appL, Vm.set_appL0, Nat.le_refl, Nat.le_add_right, okAt])
          all_goals exact hfin _ _ (by simpa using hcp)
    · have c' : ¬ (i : Int) < l.length := by omega
      have : i = l.length := by omega
      subst this
      have hvb : (0 : Nat) = 0 := rfl
      try simp only [e12, e11, e10, e3, e1, e7, c', go_sem, V.s.injEq, Value.bool.injEq, ↓reduceIte, Nat.reduceEqDiff, Nat.reduceBEq, Nat.reduceAdd, Nat.reduceSub, Nat.reduceLT, Nat.reduceLeDiff, Int.reduceLT, Int.reduceLE, Int.reduceEq, Int.reduceToNat, List.append_assoc, List.length_append, Vm.get_app, Vm.set_app, Vm.get_appL, Vm.get_appL0, Vm.set_appL, Vm.set_appL0, Nat.le_refl, Nat.le_add_right, okAt]
      repeat' (
        first | refine wpC_cases ?_ ?_ | refine wpU_casesT ?_ ?_ | refine wpU_casesF ?_ ?_
        all_goals intro hvc
        all_goals first | replace hvc := not_of_true hvc | replace hvc := not_of_false hvc | skip
        all_goals first | subst hvc | replace hvb := And.intro hvc hvb
        all_goals try simp only [hvb, e12, e11, e10, e3, e1, e7, c', go_sem, V.s.injEq, Value.bool.injEq, ↓reduceIte, Nat.reduceEqDiff, Nat.reduceBEq, Nat.reduceAdd, Nat.reduceSub, Nat.reduceLT, Nat.reduceLeDiff, Int.reduceLT, Int.reduceLE, Int.reduceEq, Int.reduceToNat, List.append_assoc, List.length_append, Vm.get_app, Vm.set_app, Vm.get_appL, Vm.get_appL0, Vm.set_appL, Vm.set_appL0, Nat.le_refl, Nat.le_add_right, okAt])
      all_goals exact fw
  · rintro e H ⟨e7, fw⟩
    have ht := fw.take
    rw [cntP_all] at e7
    have hvb : (0 : Nat) = 0 := rfl
    try simp only [e7, ht, go_sem, V.s.injEq, Value.bool.injEq, ↓reduceIte, Nat.reduceEqDiff, Nat.reduceBEq, Nat.reduceAdd, Nat.reduceSub, Nat.reduceLT, Nat.reduceLeDiff, Int.reduceLT, Int.reduceLE, Int.reduceEq, Int.reduceToNat, List.append_assoc, List.length_append, Vm.get_app, Vm.set_app, Vm.get_appL, Vm.get_appL0, Vm.set_appL, Vm.set_appL0, Nat.le_refl, Nat.le_add_right, okAt]
    repeat' (
      first | refine wpC_cases ?_ ?_ | refine wpU_casesT ?_ ?_ | refine wpU_casesF ?_ ?_
      all_goals intro hvc
      all_goals first | replace hvc := not_of_true hvc | replace hvc := not_of_false hvc | skip
      all_goals first | subst hvc | replace hvb := And.intro hvc hvb
      all_goals try simp only [hvb, e7, ht, go_sem, V.s.injEq, Value.bool.injEq, ↓reduceIte, Nat.reduceEqDiff, Nat.reduceBEq, Nat.reduceAdd, Nat.reduceSub, Nat.reduceLT, Nat.reduceLeDiff, Int.reduceLT, Int.reduceLE, Int.reduceEq, Int.reduceToNat, List.append_assoc, List.length_append, Vm.get_app, Vm.set_app, Vm.get_appL, Vm.get_appL0, Vm.set_appL, Vm.set_appL0, Nat.le_refl, Nat.le_add_right, okAt])
    rfl
theorem Told_ok (b : Nat) (h : Hp) (x : V) (l : List Reply) (id : Bs) (gen : Int) (hx : SR h x (some 39) (l.map Reply.enc)) (hl : l.length ≤ 1000000) :
    run fns pr b 20 [.arr 26 (id.map byteV), .s (.int .u64 gen), x] h = some (.s (.int .i64 (told id gen l : Nat)), h) := by
  refine Vm.runP (nt := 28) rfl fit20 (by simp) ?_
  have hlx := fun cf base h0 => hx.o_len (cf := cf) (base := base) (h := h0)
  simp only [List.length_map] at hlx
  have hvb : (0 : Nat) = 0 := rfl
  try simp only [B20, B20R0, B20L0, hlx, go_sem, V.s.injEq, Value.bool.injEq, ↓reduceIte, Nat.reduceEqDiff, Nat.reduceBEq, Nat.reduceAdd, Nat.reduceSub, Nat.reduceLT, Nat.reduceLeDiff, Int.reduceLT, Int.reduceLE, Int.reduceEq, Int.reduceToNat, List.append_assoc, List.length_append, Vm.get_app, Vm.set_app, Vm.get_appL, Vm.get_appL0, Vm.set_appL, Vm.set_appL0, Nat.le_refl, Nat.le_add_right, okAt]
  repeat' (
    first | refine wpC_cases ?_ ?_ | refine wpU_casesT ?_ ?_ | refine wpU_casesF ?_ ?_
    all_goals intro hvc
    all_goals first | replace hvc := not_of_true hvc | replace hvc := not_of_false hvc | skip
    all_goals first | subst hvc | replace hvb := And.intro hvc hvb
    all_goals try simp only [hvb, B20, B20R0, B20L0, hlx, go_sem, V.s.injEq, Value.bool.injEq, ↓reduceIte, Nat.reduceEqDiff, Nat.reduceBEq, Nat.reduceAdd, Nat.reduceSub, Nat.reduceLT, Nat.reduceLeDiff, Int.reduceLT, Int.reduceLE, Int.reduceEq, Int.reduceToNat, List.append_assoc, List.length_append, Vm.get_app, Vm.set_app, Vm.get_appL, Vm.get_appL0, Vm.set_appL, Vm.set_appL0, Nat.le_refl, Nat.le_add_right, okAt])
  refine wp_for (fun n e H => ∃ i, n = l.length - i ∧ i ≤ l.length ∧ e 12 = .s (.int .i64 (i : Nat)) ∧ e 11 = .s (.int .i64 (l.length : Nat)) ∧ e 10 = x ∧ e 3 = .ptr h.length [0] 1 ∧ e 1 = .s (.int .u64 gen) ∧ e 7 = .s (.int .i64 (cntP (toldP id gen) l i : Nat)) ∧ H[h.length]? = some (.cells (some 26) [.arr 26 (id.map byteV)]) ∧ Fw [] h H)
    (fun e H => e 7 = .s (.int .i64 (cntP (toldP id gen) l l.length : Nat)) ∧ Fw [] h H)
    l.length _ _ ⟨0, rfl, by omega, rfl, rfl, rfl, rfl, rfl, rfl, get_app0 _ _, Fw.app _ _ _⟩ ?_ ?_
  · rintro n e H ⟨i, rfl, hi, e12, e11, e10, e3, e1, e7, hg, fw⟩
    by_cases c : i < l.length
    · have c' : (i : Int) < l.length := by omega
      have hsx := hx.fw fw
      have hv : l[i]? = some l[i] := List.getElem?_eq_getElem c
      have hcp := cntP_succ (toldP id gen) hv
      have hle := cntP_le (toldP id gen) l i
      have hia := fun cf base => hsx.o_ias (cf := cf) (base := base) (k := .i64) (i := i) (by simpa using c)
      have hlo := fun cf base => hsx.o_ld (cf := cf) (base := base) (i := i) (v := (l[i]).enc) (by simp [c]) rfl
      have hof := fun h0 => of_ok h.length h0 false l[i] id gen
      have hte := fun h0 => tells_ok h.length h0 false l[i]
      have gr : ∀ k, decide (h.length ≤ H.length + k) = true := fun k => decide_eq_true (Nat.le_trans fw.len (Nat.le_add_right _ _))
      have gr0 := gr 0
      rw [Nat.add_zero] at gr0
      have hgt := fun t => get_old hg t
      have hwr : IntKind.i64.wrap ((i : Int) + 1) = ((i + 1 : Nat) : Int) := wrap_small (by omega)
      have hwn : IntKind.i64.wrap ((cntP (toldP id gen) l i : Int) + 1) = ((cntP (toldP id gen) l i + 1 : Nat) : Int) := wrap_small (by omega)
      simp only [toldP] at hcp
      generalize l[i] = r at *
      simp only [Reply.encF] at hof hte
      have hfin : ∀ (M : Nat) (t : Hp), cntP (toldP id gen) l (i + 1) = M → ∃ n, n < l.length - i ∧ ∃ i', n = l.length - i' ∧ i' ≤ l.length ∧ Value.int IntKind.i64 ((i + 1 : Nat) : Int) = Value.int IntKind.i64 (i' : Int) ∧ Value.int IntKind.i64 (M : Int) = Value.int IntKind.i64 ((cntP (toldP id gen) l i' : Nat) : Int) ∧ Fw [] h (H ++ t) :=
        fun M t h1 => ⟨l.length - (i + 1), by omega, i + 1, rfl, by omega, rfl, by rw [h1], fw.trans (Fw.app _ _ _)⟩
      have h0 : (H ++ ([] : Hp)) = H := by simp
      by_cases p1 : ofB r id gen = true
      case neg =>
        have p1 : ofB r id gen = false := by simpa using p1
        simp only [p1, Bool.false_and, Bool.true_and, Bool.false_eq_true, if_false] at hcp
        have hvb : (0 : Nat) = 0 := rfl
        try simp only [e12, e11, e10, e3, e1, e7, c', hia, hlo, Reply.enc, hof, p1, hg, hgt, gr, gr0, hwr, hwn, go_sem, V.s.injEq, Value.bool.injEq, ↓reduceIte, Nat.reduceEqDiff, Nat.reduceBEq, Nat.reduceAdd, Nat.reduceSub, Nat.reduceLT, Nat.reduceLeDiff, Int.reduceLT, Int.reduceLE, Int.reduceEq, Int.reduceToNat, List.append_assoc, List.length_append, Vm.get_app, Vm.set_app, Vm.get_appL, Vm.get_appL0, Vm.set_appL, Vm.set_appL0, Nat.le_refl, Nat.le_add_right, okAt]
        repeat' (
          first | refine wpC_cases ?_ ?_ | refine wpU_casesT ?_ ?_ | refine wpU_casesF ?_ ?_
          all_goals intro hvc
          all_goals first | replace hvc := not_of_true hvc | replace hvc := not_of_false hvc | skip
          all_goals first | subst hvc | replace hvb := And.intro hvc hvb
          all_goals try simp only [hvb, e12, e11, e10, e3, e1, e7, c', hia, hlo, Reply.enc, hof, p1, hg, hgt, gr, gr0, hwr, hwn, go_sem, V.s.injEq, Value.bool.injEq, ↓reduceIte, Nat.reduceEqDiff, Nat.reduceBEq, Nat.reduceAdd, Nat.reduceSub, Nat.reduceLT, Nat.reduceLeDiff, Int.reduceLT, Int.reduceLE, Int.reduceEq, Int.reduceToNat, List.append_assoc, List.length_append, Vm.get_app, Vm.set_app, Vm.get_appL, Vm.get_appL0, Vm.set_appL, Vm.set_appL0, Nat.le_refl, Nat.le_add_right, okAt])
        all_goals exact hfin _ _ (by simpa using hcp)
      case pos =>
        simp only [p1, Bool.false_and, Bool.true_and, Bool.false_eq_true, if_false] at hcp
        by_cases p2 : tellsB r = true
        · have p2' := p2
          simp only [p2, decide_true, Bool.and_self, if_true] at hcp
          try simp only [p2] at hof
          have hvb : (0 : Nat) = 0 := rfl
          try simp only [e12, e11, e10, e3, e1, e7, c', hia, hlo, Reply.enc, hof, hte, p1, p2, hg, hgt, gr, gr0, hwr, hwn, go_sem, V.s.injEq, Value.bool.injEq, ↓reduceIte, Nat.reduceEqDiff, Nat.reduceBEq, Nat.reduceAdd, Nat.reduceSub, Nat.reduceLT, Nat.reduceLeDiff, Int.reduceLT, Int.reduceLE, Int.reduceEq, Int.reduceToNat, List.append_assoc, List.length_append, Vm.get_app, Vm.set_app, Vm.get_appL, Vm.get_appL0, Vm.set_appL, Vm.set_appL0, Nat.le_refl, Nat.le_add_right, okAt]
          repeat' (
            first | refine wpC_cases ?_ ?_ | refine wpU_casesT ?_ ?_ | refine wpU_casesF ?_ ?_
            all_goals intro hvc
            all_goals first | replace hvc := not_of_true hvc | replace hvc := not_of_false hvc | skip
            all_goals first | subst hvc | replace hvb := And.intro hvc hvb
            all_goals try simp only [hvb, e12, e11, e10, e3, e1, e7, c', hia, hlo, Reply.enc, hof, hte, p1, p2, hg, hgt, gr, gr0, hwr, hwn, go_sem, V.s.injEq, Value.bool.injEq, ↓reduceIte, Nat.reduceEqDiff, Nat.reduceBEq, Nat.reduceAdd, Nat.reduceSub, Nat.reduceLT, Nat.reduceLeDiff, Int.reduceLT, Int.reduceLE, Int.reduceEq, Int.reduceToNat, List.append_assoc, List.length_append, Vm.get_app, Vm.set_app, Vm.get_appL, Vm.get_appL0, Vm.set_appL, Vm.set_appL0, Nat.le_refl, Nat.le_add_right, okAt])
          all_goals exact hfin _ _ (by simpa using hcp)
        · have p2d : decide (tellsB r = true) = false := decide_eq_false p2
          simp only [p2, decide_false, Bool.and_false, if_false, Bool.false_eq_true] at hcp
          have hvb : (0 : Nat) = 0 := rfl
          try simp only [e12, e11, e10, e3, e1, e7, c', hia, hlo, Reply.enc, hof, hte, p1, (Bool.eq_false_iff.2 p2 : tellsB r = false), hg, hgt, gr, gr0, hwr, hwn, go_sem, V.s.injEq, Value.bool.injEq, ↓reduceIte, Nat.reduceEqDiff, Nat.reduceBEq, Nat.reduceAdd, Nat.reduceSub, Nat.reduceLT, Nat.reduceLeDiff, Int.reduceLT, Int.reduceLE, Int.reduceEq, Int.reduceToNat, List.append_assoc, List.length_append, Vm.get_app, Vm.set_app, Vm.get_appL, Vm.get_appL0, Vm.set_appL, Vm.set_appL0, Nat.le_refl, Nat.le_add_right, okAt]
          repeat' (
            first | refine wpC_cases ?_ ?_ | refine wpU_casesT ?_ ?_ | refine wpU_casesF ?_ ?_
            all_goals intro hvc
            all_goals first | replace hvc := not_of_true hvc | replace hvc := not_of_false hvc | skip
            all_goals first | subst hvc | replace hvb := And.intro hvc hvb
            all_goals try simp only [hvb, e12, e11, e10, e3, e1, e7, c', hia, hlo, Reply.enc, hof, hte, p1, (Bool.eq_false_iff.2 p2 : tellsB r = false), hg, hgt, gr, gr0, hwr, hwn, go_sem, V.s.injEq, Value.bool.injEq, ↓reduceIte, Nat.reduceEqDiff, Nat.reduceBEq, Nat.reduceAdd, Nat.reduceSub, Nat.reduceLT, Nat.reduceLeDiff, Int.reduceLT, Int.reduceLE, Int.reduceEq, Int.reduceToNat, List.append_assoc, List.length_append, Vm.get_app, Vm.set_app, Vm.get_appL, Vm.get_appL0, Vm.set_appL, Vm.set_appL0, Nat.le_refl, Nat.le_add_right, okAt])
          all_goals exact hfin _ _ (by simpa using hcp)
    · have c' : ¬ (i : Int) < l.length := by omega
      have : i = l.length := by omega
      subst this
      have hvb : (0 : Nat) = 0 := rfl
      try simp only [e12, e11, e10, e3, e1, e7, c', go_sem, V.s.injEq, Value.bool.injEq, ↓reduceIte, Nat.reduceEqDiff, Nat.reduceBEq, Nat.reduceAdd, Nat.reduceSub, Nat.reduceLT, Nat.reduceLeDiff, Int.reduceLT, Int.reduceLE, Int.reduceEq, Int.reduceToNat, List.append_assoc, List.length_append, Vm.get_app, Vm.set_app, Vm.get_appL, Vm.get_appL0, Vm.set_appL, Vm.set_appL0, Nat.le_refl, Nat.le_add_right, okAt]
      repeat' (
        first | refine wpC_cases ?_ ?_ | refine wpU_casesT ?_ ?_ | refine wpU_casesF ?_ ?_
        all_goals intro hvc
        all_goals first | replace hvc := not_of_true hvc | replace hvc := not_of_false hvc | skip
        all_goals first | subst hvc | replace hvb := And.intro hvc hvb
        all_goals try simp only [hvb, e12, e11, e10, e3, e1, e7, c', go_sem, V.s.injEq, Value.bool.injEq, ↓reduceIte, Nat.reduceEqDiff, Nat.reduceBEq, Nat.reduceAdd, Nat.reduceSub, Nat.reduceLT, Nat.reduceLeDiff, Int.reduceLT, Int.reduceLE, Int.reduceEq, Int.reduceToNat, List.append_assoc, List.length_append, Vm.get_app, Vm.set_app, Vm.get_appL, Vm.get_appL0, Vm.set_appL, Vm.set_appL0, Nat.le_refl, Nat.le_add_right, okAt])
      all_goals exact fw
  · rintro e H ⟨e7, fw⟩
    have ht := fw.take
    rw [cntP_all] at e7
    have hvb : (0 : Nat) = 0 := rfl
    try simp only [e7, ht, go_sem, V.s.injEq, Value.bool.injEq, ↓reduceIte, Nat.reduceEqDiff, Nat.reduceBEq, Nat.reduceAdd, Nat.reduceSub, Nat.reduceLT, Nat.reduceLeDiff, Int.reduceLT, Int.reduceLE, Int.reduceEq, Int.reduceToNat, List.append_assoc, List.length_append, Vm.get_app, Vm.set_app, Vm.get_appL, Vm.get_appL0, Vm.set_appL, Vm.set_appL0, Nat.le_refl, Nat.le_add_right, okAt]
    repeat' (
      first | refine wpC_cases ?_ ?_ | refine wpU_casesT ?_ ?_ | refine wpU_casesF ?_ ?_
      all_goals intro hvc
      all_goals first | replace hvc := not_of_true hvc | replace hvc := not_of_false hvc | skip
      all_goals first | subst hvc | replace hvb := And.intro hvc hvb
      all_goals try simp only [hvb, e7, ht, go_sem, V.s.injEq, Value.bool.injEq, ↓reduceIte, Nat.reduceEqDiff, Nat.reduceBEq, Nat.reduceAdd, Nat.reduceSub, Nat.reduceLT, Nat.reduceLeDiff, Int.reduceLT, Int.reduceLE, Int.reduceEq, Int.reduceToNat, List.append_assoc, List.length_append, Vm.get_app, Vm.set_app, Vm.get_appL, Vm.get_appL0, Vm.set_appL, Vm.set_appL0, Nat.le_refl, Nat.le_add_right, okAt])
    rfl
theorem After_ok (b : Nat) (h : Hp) (x : V) (l : List Reply) (hx : SR h x (some 39) (l.map Reply.enc)) (hl : l.length ≤ 1000000) :
    run fns pr b 21 [x] h = some (.s (.bool (afterB l)), h) := by
  refine Vm.runP (nt := 33) rfl fit21 (by simp) ?_
  have hlx := fun cf base h0 => hx.o_len (cf := cf) (base := base) (h := h0)
  simp only [List.length_map] at hlx
  have hvb : (0 : Nat) = 0 := rfl
  try simp only [B21, B21R0, B21L0, hlx, go_sem, V.s.injEq, Value.bool.injEq, ↓reduceIte, Nat.reduceEqDiff, Nat.reduceBEq, Nat.reduceAdd, Nat.reduceSub, Nat.reduceLT, Nat.reduceLeDiff, Int.reduceLT, Int.reduceLE, Int.reduceEq, Int.reduceToNat, List.append_assoc, List.length_append, Vm.get_app, Vm.set_app, Vm.get_appL, Vm.get_appL0, Vm.set_appL, Vm.set_appL0, Nat.le_refl, Nat.le_add_right, okAt]
  repeat' (
    first | refine wpC_cases ?_ ?_ | refine wpU_casesT ?_ ?_ | refine wpU_casesF ?_ ?_
    all_goals intro hvc
    all_goals first | replace hvc := not_of_true hvc | replace hvc := not_of_false hvc | skip
    all_goals first | subst hvc | replace hvb := And.intro hvc hvb
    all_goals try simp only [hvb, B21, B21R0, B21L0, hlx, go_sem, V.s.injEq, Value.bool.injEq, ↓reduceIte, Nat.reduceEqDiff, Nat.reduceBEq, Nat.reduceAdd, Nat.reduceSub, Nat.reduceLT, Nat.reduceLeDiff, Int.reduceLT, Int.reduceLE, Int.reduceEq, Int.reduceToNat, List.append_assoc, List.length_append, Vm.get_app, Vm.set_app, Vm.get_appL, Vm.get_appL0, Vm.set_appL, Vm.set_appL0, Nat.le_refl, Nat.le_add_right, okAt])
  refine wp_for (fun n e H => ∃ i, n = l.length - i ∧ i ≤ l.length ∧ e 7 = .s (.int .i64 (i : Nat)) ∧ e 6 = .s (.int .i64 (l.length : Nat)) ∧ e 5 = x ∧ e 0 = x ∧ afterB l = afterB (l.drop i) ∧ Fw [] h H)
    (fun e H => afterB l = false ∧ Fw [] h H)
    l.length _ _ ⟨0, rfl, by omega, rfl, rfl, rfl, rfl, rfl, Fw.refl _ _⟩ ?_ ?_
  · rintro n e H ⟨i, rfl, hi, e7, e6, e5, e0, haf, fw⟩
    by_cases c : i < l.length
    · have c' : (i : Int) < l.length := by omega
      have hsx := hx.fw fw
      have hv : l[i]? = some l[i] := List.getElem?_eq_getElem c
      have hia := fun cf base => hsx.o_ias (cf := cf) (base := base) (k := .i64) (i := i) (by simpa using c)
      have hlo := fun cf base => hsx.o_ld (cf := cf) (base := base) (i := i) (v := (l[i]).enc) (by simp [c]) rfl
      have hcl := fun cf base t => (hsx.app t).o_lo (cf := cf) (base := base) (k := .i64) (l := i + 1) (by simp; omega)
      simp only [List.length_map] at hcl
      have hclR := fun t => (hsx.app t).loR (l := i + 1) (by simp; omega)
      simp only [List.length_map, ← List.map_drop] at hclR
      have hto := fun t id gen => Told_ok h.length (H ++ t) _ (l.drop (i + 1)) id gen (hclR t) (by simp; omega)
      have gr : ∀ k, decide (h.length ≤ H.length + k) = true := fun k => decide_eq_true (Nat.le_trans fw.len (Nat.le_add_right _ _))
      have gr0 := gr 0
      rw [Nat.add_zero] at gr0
      have hwr : IntKind.i64.wrap ((i : Int) + 1) = ((i + 1 : Nat) : Int) := wrap_small (by omega)
      rw [List.drop_eq_getElem_cons c] at haf
      simp only [afterB] at haf
      generalize hL : l.drop (i + 1) = L at *
      have hle : told (l[i]).iD (l[i]).gen L ≤ 1000000 ∨ True := .inr trivial
      generalize hr : l[i] = r at *
      have htp : ∀ id gen, ((0 : Int) < ((told id gen L : Nat) : Int)) = (0 < told id gen L) := fun id gen => propext (by omega)
      by_cases p1 : r.why = 23
      · by_cases p2 : r.left = 0
        · by_cases p3 : 0 < told r.iD r.gen L
          · have hvb : (0 : Nat) = 0 := rfl
            try simp only [e7, e6, e5, e0, c', hia, hlo, Reply.enc, hcl, hto, p1, p2, p3, htp, gr, gr0, hwr, go_sem, V.s.injEq, Value.bool.injEq, ↓reduceIte, Nat.reduceEqDiff, Nat.reduceBEq, Nat.reduceAdd, Nat.reduceSub, Nat.reduceLT, Nat.reduceLeDiff, Int.reduceLT, Int.reduceLE, Int.reduceEq, Int.reduceToNat, List.append_assoc, List.length_append, Vm.get_app, Vm.set_app, Vm.get_appL, Vm.get_appL0, Vm.set_appL, Vm.set_appL0, Nat.le_refl, Nat.le_add_right, okAt]
            repeat' (
              first | refine wpC_cases ?_ ?_ | refine wpU_casesT ?_ ?_ | refine wpU_casesF ?_ ?_
              all_goals intro hvc
              all_goals first | replace hvc := not_of_true hvc | replace hvc := not_of_false hvc | skip
              all_goals first | subst hvc | replace hvb := And.intro hvc hvb
              all_goals try simp only [hvb, e7, e6, e5, e0, c', hia, hlo, Reply.enc, hcl, hto, p1, p2, p3, htp, gr, gr0, hwr, go_sem, V.s.injEq, Value.bool.injEq, ↓reduceIte, Nat.reduceEqDiff, Nat.reduceBEq, Nat.reduceAdd, Nat.reduceSub, Nat.reduceLT, Nat.reduceLeDiff, Int.reduceLT, Int.reduceLE, Int.reduceEq, Int.reduceToNat, List.append_assoc, List.length_append, Vm.get_app, Vm.set_app, Vm.get_appL, Vm.get_appL0, Vm.set_appL, Vm.set_appL0, Nat.le_refl, Nat.le_add_right, okAt])
            simp [haf, p1, p2, p3]
            exact (fw.trans (Fw.app _ _ _)).take.symm
          · have hvb : (0 : Nat) = 0 := rfl
            try simp only [e7, e6, e5, e0, c', hia, hlo, Reply.enc, hcl, hto, p1, p2, p3, htp, gr, gr0, hwr, go_sem, V.s.injEq, Value.bool.injEq, ↓reduceIte, Nat.reduceEqDiff, Nat.reduceBEq, Nat.reduceAdd, Nat.reduceSub, Nat.reduceLT, Nat.reduceLeDiff, Int.reduceLT, Int.reduceLE, Int.reduceEq, Int.reduceToNat, List.append_assoc, List.length_append, Vm.get_app, Vm.set_app, Vm.get_appL, Vm.get_appL0, Vm.set_appL, Vm.set_appL0, Nat.le_refl, Nat.le_add_right, okAt]
            repeat' (
              first | refine wpC_cases ?_ ?_ | refine wpU_casesT ?_ ?_ | refine wpU_casesF ?_ ?_
              all_goals intro hvc
              all_goals first | replace hvc := not_of_true hvc | replace hvc := not_of_false hvc | skip
              all_goals first | subst hvc | replace hvb := And.intro hvc hvb
              all_goals try simp only [hvb, e7, e6, e5, e0, c', hia, hlo, Reply.enc, hcl, hto, p1, p2, p3, htp, gr, gr0, hwr, go_sem, V.s.injEq, Value.bool.injEq, ↓reduceIte, Nat.reduceEqDiff, Nat.reduceBEq, Nat.reduceAdd, Nat.reduceSub, Nat.reduceLT, Nat.reduceLeDiff, Int.reduceLT, Int.reduceLE, Int.reduceEq, Int.reduceToNat, List.append_assoc, List.length_append, Vm.get_app, Vm.set_app, Vm.get_appL, Vm.get_appL0, Vm.set_appL, Vm.set_appL0, Nat.le_refl, Nat.le_add_right, okAt])
            all_goals exact ⟨l.length - (i + 1), by omega, i + 1, rfl, by omega, rfl, by simp [haf, p1, p2, p3, hL], fw.trans (Fw.app _ _ _)⟩
        · have hvb : (0 : Nat) = 0 := rfl
          try simp only [e7, e6, e5, e0, c', hia, hlo, Reply.enc, hcl, hto, p1, p2, htp, gr, gr0, hwr, go_sem, V.s.injEq, Value.bool.injEq, ↓reduceIte, Nat.reduceEqDiff, Nat.reduceBEq, Nat.reduceAdd, Nat.reduceSub, Nat.reduceLT, Nat.reduceLeDiff, Int.reduceLT, Int.reduceLE, Int.reduceEq, Int.reduceToNat, List.append_assoc, List.length_append, Vm.get_app, Vm.set_app, Vm.get_appL, Vm.get_appL0, Vm.set_appL, Vm.set_appL0, Nat.le_refl, Nat.le_add_right, okAt]
          repeat' (
            first | refine wpC_cases ?_ ?_ | refine wpU_casesT ?_ ?_ | refine wpU_casesF ?_ ?_
            all_goals intro hvc
            all_goals first | replace hvc := not_of_true hvc | replace hvc := not_of_false hvc | skip
            all_goals first | subst hvc | replace hvb := And.intro hvc hvb
            all_goals try simp only [hvb, e7, e6, e5, e0, c', hia, hlo, Reply.enc, hcl, hto, p1, p2, htp, gr, gr0, hwr, go_sem, V.s.injEq, Value.bool.injEq, ↓reduceIte, Nat.reduceEqDiff, Nat.reduceBEq, Nat.reduceAdd, Nat.reduceSub, Nat.reduceLT, Nat.reduceLeDiff, Int.reduceLT, Int.reduceLE, Int.reduceEq, Int.reduceToNat, List.append_assoc, List.length_append, Vm.get_app, Vm.set_app, Vm.get_appL, Vm.get_appL0, Vm.set_appL, Vm.set_appL0, Nat.le_refl, Nat.le_add_right, okAt])
          all_goals exact ⟨l.length - (i + 1), by omega, i + 1, rfl, by omega, rfl, by simp [haf, p1, p2, hL], fw.trans (Fw.app _ _ _)⟩
      · have hvb : (0 : Nat) = 0 := rfl
        try simp only [e7, e6, e5, e0, c', hia, hlo, Reply.enc, hcl, hto, p1, htp, gr, gr0, hwr, go_sem, V.s.injEq, Value.bool.injEq, ↓reduceIte, Nat.reduceEqDiff, Nat.reduceBEq, Nat.reduceAdd, Nat.reduceSub, Nat.reduceLT, Nat.reduceLeDiff, Int.reduceLT, Int.reduceLE, Int.reduceEq, Int.reduceToNat, List.append_assoc, List.length_append, Vm.get_app, Vm.set_app, Vm.get_appL, Vm.get_appL0, Vm.set_appL, Vm.set_appL0, Nat.le_refl, Nat.le_add_right, okAt]
        repeat' (
          first | refine wpC_cases ?_ ?_ | refine wpU_casesT ?_ ?_ | refine wpU_casesF ?_ ?_
          all_goals intro hvc
          all_goals first | replace hvc := not_of_true hvc | replace hvc := not_of_false hvc | skip
          all_goals first | subst hvc | replace hvb := And.intro hvc hvb
          all_goals try simp only [hvb, e7, e6, e5, e0, c', hia, hlo, Reply.enc, hcl, hto, p1, htp, gr, gr0, hwr, go_sem, V.s.injEq, Value.bool.injEq, ↓reduceIte, Nat.reduceEqDiff, Nat.reduceBEq, Nat.reduceAdd, Nat.reduceSub, Nat.reduceLT, Nat.reduceLeDiff, Int.reduceLT, Int.reduceLE, Int.reduceEq, Int.reduceToNat, List.append_assoc, List.length_append, Vm.get_app, Vm.set_app, Vm.get_appL, Vm.get_appL0, Vm.set_appL, Vm.set_appL0, Nat.le_refl, Nat.le_add_right, okAt])
        all_goals exact ⟨l.length - (i + 1), by omega, i + 1, rfl, by omega, rfl, by simp [haf, p1, hL], fw.trans (Fw.app _ _ _)⟩
    · have c' : ¬ (i : Int) < l.length := by omega
      have : i = l.length := by omega
      subst this
      rw [List.drop_length] at haf
      have hvb : (0 : Nat) = 0 := rfl
      try simp only [e7, e6, e5, e0, c', go_sem, V.s.injEq, Value.bool.injEq, ↓reduceIte, Nat.reduceEqDiff, Nat.reduceBEq, Nat.reduceAdd, Nat.reduceSub, Nat.reduceLT, Nat.reduceLeDiff, Int.reduceLT, Int.reduceLE, Int.reduceEq, Int.reduceToNat, List.append_assoc, List.length_append, Vm.get_app, Vm.set_app, Vm.get_appL, Vm.get_appL0, Vm.set_appL, Vm.set_appL0, Nat.le_refl, Nat.le_add_right, okAt]
      repeat' (
        first | refine wpC_cases ?_ ?_ | refine wpU_casesT ?_ ?_ | refine wpU_casesF ?_ ?_
        all_goals intro hvc
        all_goals first | replace hvc := not_of_true hvc | replace hvc := not_of_false hvc | skip
        all_goals first | subst hvc | replace hvb := And.intro hvc hvb
        all_goals try simp only [hvb, e7, e6, e5, e0, c', go_sem, V.s.injEq, Value.bool.injEq, ↓reduceIte, Nat.reduceEqDiff, Nat.reduceBEq, Nat.reduceAdd, Nat.reduceSub, Nat.reduceLT, Nat.reduceLeDiff, Int.reduceLT, Int.reduceLE, Int.reduceEq, Int.reduceToNat, List.append_assoc, List.length_append, Vm.get_app, Vm.set_app, Vm.get_appL, Vm.get_appL0, Vm.set_appL, Vm.set_appL0, Nat.le_refl, Nat.le_add_right, okAt])
      all_goals exact ⟨haf, fw⟩
  · rintro e H ⟨e7, fw⟩
    have ht := fw.take
    have hvb : (0 : Nat) = 0 := rfl
    try simp only [e7, ht, go_sem, V.s.injEq, Value.bool.injEq, ↓reduceIte, Nat.reduceEqDiff, Nat.reduceBEq, Nat.reduceAdd, Nat.reduceSub, Nat.reduceLT, Nat.reduceLeDiff, Int.reduceLT, Int.reduceLE, Int.reduceEq, Int.reduceToNat, List.append_assoc, List.length_append, Vm.get_app, Vm.set_app, Vm.get_appL, Vm.get_appL0, Vm.set_appL, Vm.set_appL0, Nat.le_refl, Nat.le_add_right, okAt]
    repeat' (
      first | refine wpC_cases ?_ ?_ | refine wpU_casesT ?_ ?_ | refine wpU_casesF ?_ ?_
      all_goals intro hvc
      all_goals first | replace hvc := not_of_true hvc | replace hvc := not_of_false hvc | skip
      all_goals first | subst hvc | replace hvb := And.intro hvc hvb
      all_goals try simp only [hvb, e7, ht, go_sem, V.s.injEq, Value.bool.injEq, ↓reduceIte, Nat.reduceEqDiff, Nat.reduceBEq, Nat.reduceAdd, Nat.reduceSub, Nat.reduceLT, Nat.reduceLeDiff, Int.reduceLT, Int.reduceLE, Int.reduceEq, Int.reduceToNat, List.append_assoc, List.length_append, Vm.get_app, Vm.set_app, Vm.get_appL, Vm.get_appL0, Vm.set_appL, Vm.set_appL0, Nat.le_refl, Nat.le_add_right, okAt])
theorem sameJ_ok (b : Nat) (h : Hp) (f g : Bool) (v w : Reply) : run fns pr b 66 [v.encF f, w.encF g] h = some (.s (.bool (decide (v = w))), h) := by
  refine Vm.runP (nt := 52) rfl fit66 (by simp) ?_
  obtain ⟨a1, a2, a3, a4, a5, a6, a7⟩ := v
  obtain ⟨c1, c2, c3, c4, c5, c6, c7⟩ := w
  simp only [Reply.mk.injEq]
  have he := fun h0 l m => Equal_ok h.length h0 _ _ l m (BR_imm h0 f l) (BR_imm h0 g m)
  have hvb : (0 : Nat) = 0 := rfl
  try simp only [B66, Reply.encF, o_eqaB, he, go_sem, V.s.injEq, Value.bool.injEq, ↓reduceIte, Nat.reduceEqDiff, Nat.reduceBEq, Nat.reduceAdd, Nat.reduceSub, Nat.reduceLT, Nat.reduceLeDiff, Int.reduceLT, Int.reduceLE, Int.reduceEq, Int.reduceToNat, List.append_assoc, List.length_append, Vm.get_app, Vm.set_app, Vm.get_appL, Vm.get_appL0, Vm.set_appL, Vm.set_appL0, Nat.le_refl, Nat.le_add_right, okAt]
  repeat' (
    first | refine wpC_cases ?_ ?_ | refine wpU_casesT ?_ ?_ | refine wpU_casesF ?_ ?_
    all_goals intro hvc
    all_goals first | replace hvc := not_of_true hvc | replace hvc := not_of_false hvc | skip
    all_goals first | subst hvc | replace hvb := And.intro hvc hvb
    all_goals try simp only [hvb, B66, Reply.encF, o_eqaB, he, go_sem, V.s.injEq, Value.bool.injEq, ↓reduceIte, Nat.reduceEqDiff, Nat.reduceBEq, Nat.reduceAdd, Nat.reduceSub, Nat.reduceLT, Nat.reduceLeDiff, Int.reduceLT, Int.reduceLE, Int.reduceEq, Int.reduceToNat, List.append_assoc, List.length_append, Vm.get_app, Vm.set_app, Vm.get_appL, Vm.get_appL0, Vm.set_appL, Vm.set_appL0, Nat.le_refl, Nat.le_add_right, okAt])
  all_goals (clear he; simp_all [Bool.beq_eq_decide_eq])
end Go.Proofs.Ytkkncdokkdamcaa
