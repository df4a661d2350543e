/- TableFills: its run. Conditions: none. -/
import Derived.Test.YtdhgcdkinehomaaCS12K
namespace Go.Proofs.Ytdhgcdkinehomaa
open Go Go.Vm Go.Proofs Go.Cl
set_option linter.unusedSimpArgs false
set_option linter.unusedVariables false
set_option maxRecDepth 100000
/-- Vaults as they are drawn, of names of one byte. -/
def nm (n : Nat) : Bs := [UInt8.ofNat n, 0, 0, 0]
def mkf (f : Nat → Nat) : List KV → Nat → List Vault
  | [], _ => []
  | x :: l, i => keepV x (nm (f i)) :: mkf f l (i + 1)
theorem mkf_len (f : Nat → Nat) : ∀ (l : List KV) (i : Nat), (mkf f l i).length = l.length
  | [], _ => rfl
  | x :: l, i => by simp [mkf, mkf_len f l (i + 1)]
theorem mkf_get (f : Nat → Nat) : ∀ (l : List KV) (i j : Nat), (mkf f l i)[j]? = (l[j]?).map fun x => keepV x (nm (f (i + j)))
  | [], _, _ => by simp [mkf]
  | x :: l, i, 0 => by simp [mkf]
  | x :: l, i, j + 1 => by
    simp only [mkf, List.getElem?_cons_succ]
    rw [mkf_get f l (i + 1) j, show i + 1 + j = i + (j + 1) by omega]
theorem mkf_snoc (f : Nat → Nat) (x : KV) : ∀ (l : List KV) (i : Nat), mkf f (l ++ [x]) i = mkf f l i ++ [keepV x (nm (f (i + l.length)))]
  | [], i => rfl
  | y :: l, i => by
    simp only [List.cons_append, mkf, mkf_snoc f x l (i + 1), List.length_cons]
    rw [show i + 1 + l.length = i + (l.length + 1) by omega]
theorem nm_lt {a b : Nat} (h : a < b) (hb : b < 256) : cmpB (nm a) (nm b) < 0 := by
  have h1 : (UInt8.ofNat a).toNat = a := by rw [UInt8.toNat_ofNat']; omega
  have h2 : (UInt8.ofNat b).toNat = b := by rw [UInt8.toNat_ofNat']; omega
  simp only [cmpB, nm, Lib.compareBytes, UInt8.lt_iff_toNat_lt, h1, h2, h, if_true]
  decide
theorem nm_inj {a b : Nat} (ha : a < 256) (hb : b < 256) (h : nm a = nm b) : a = b := by
  simp only [nm, List.cons.injEq, and_true] at h
  have h1 : (UInt8.ofNat a).toNat = a := by rw [UInt8.toNat_ofNat']; omega
  have h2 : (UInt8.ofNat b).toNat = b := by rw [UInt8.toNat_ofNat']; omega
  rw [← h1, ← h2, h]
theorem mkf_mem {f : Nat → Nat} {l : List KV} {v : Vault} (hv : v ∈ mkf f l 0) : ∃ j x, j < l.length ∧ x ∈ l ∧ v = keepV x (nm (f j)) := by
  obtain ⟨j, hj⟩ := List.mem_iff_getElem?.1 hv
  rw [mkf_get] at hj
  obtain ⟨x, hx, rfl⟩ := Option.map_eq_some_iff.1 hj
  exact ⟨j, x, (List.getElem?_eq_some_iff.1 hx).1, List.mem_of_getElem? hx, by rw [Nat.zero_add]⟩
theorem mkf_right {f : Nat → Nat} {l : List KV} (hb : ∀ x ∈ l, x.wf) : (mkf f l 0).all rightV = true := by
  rw [List.all_eq_true]
  intro v hv
  obtain ⟨j, x, _, hx, rfl⟩ := mkf_mem hv
  exact keepV_right x _ (hb x hx)
theorem mkf_rise {f : Nat → Nat} {l : List KV} (hf : ∀ i j, i < j → j < l.length → f i < f j ∧ f j < 256) : Rise (mkf f l 0) := by
  unfold Rise
  rw [List.pairwise_iff_getElem]
  intro i j hi hj hij
  have h1 := mkf_get f l 0 i
  have h2 := mkf_get f l 0 j
  rw [List.getElem?_eq_getElem hi] at h1
  rw [List.getElem?_eq_getElem hj] at h2
  obtain ⟨x, hx, e1⟩ := Option.map_eq_some_iff.1 h1.symm
  obtain ⟨y, hy, e2⟩ := Option.map_eq_some_iff.1 h2.symm
  rw [← e1, ← e2, keepV_id, keepV_id, Nat.zero_add, Nat.zero_add]
  obtain ⟨a, b⟩ := hf i j hij (by rwa [mkf_len] at hj)
  exact nm_lt a b
theorem mkf_rising {f : Nat → Nat} {l : List KV} (hb : ∀ x ∈ l, x.wf) (hl : l.length ≤ 4) (hf : ∀ i j, i < j → j < l.length → f i < f j ∧ f j < 256) : rising (mkf f l 0) = true := by
  have h1 := mkf_right (f := f) hb
  have h2 := mkf_rise hf
  simp only [rising, mkf_len, hl, h1, h2, decide_true, Bool.and_self]
theorem mkf_secret {f : Nat → Nat} {l : List KV} (hb : ∀ x ∈ l, x.wf) : ∀ v ∈ mkf f l 0, v.secret.length ≤ 64 := fun v hv =>
  right_secretV (List.all_eq_true.1 (mkf_right (f := f) hb) v hv)
theorem even_byte : ∀ i : Nat, i < 4 → V.s (.int .u8 (IntKind.u8.wrap (IntKind.i64.wrap (2 * (i : Int))))) = byteV (UInt8.ofNat (2 * i))
  | 0, _ => rfl
  | 1, _ => rfl
  | 2, _ => rfl
  | 3, _ => rfl
theorem odd_byte : ∀ i : Nat, i < 4 → V.s (.int .u8 (IntKind.u8.wrap (IntKind.i64.wrap (IntKind.i64.wrap (2 * (i : Int)) + 1)))) = byteV (UInt8.ofNat (2 * i + 1))
  | 0, _ => rfl
  | 1, _ => rfl
  | 2, _ => rfl
  | 3, _ => rfl
theorem KV_ty (x : KV) : x.enc.ty = some 52 := rfl
theorem LR.old' {h H : Hp} {g : Option Nat} {k : Nat} {x : V} {vs : List V} {S : List Nat} (hl : LR h g k x vs) (f : Fw S h H) (hk : k ∉ S) : LR H g k x vs := by
  rcases hl with h1 | ⟨es, h1, h2, h3⟩
  · exact .inl h1
  · exact .inr ⟨es, h1, f.old _ _ h2 hk, h3⟩
theorem getT_none {l : List Vault} {id : Bs} (h : ∀ v ∈ l, v.iD ≠ id) : getT l id = none := by
  unfold getT
  split
  · rename_i hc
    cases hp : l[pos l id]? with
    | none => rfl
    | some v => rw [hp] at hc; simp at hc; exact absurd hc (h v (List.mem_of_getElem? hp))
  · rfl
theorem fills_tail (A B : List Vault) (b : V) (kb : Nat) (hkb : kb ≠ 0) (hA : Rise A) (lA : A.length ≤ 4) (sA : ∀ v ∈ A, v.secret.length ≤ 64) (lB : B.length ≤ 4) (sB : ∀ v ∈ B, v.secret.length ≤ 64) (hB : rising B = true) (hAB : ∀ v ∈ A, ∀ w ∈ B, v.iD ≠ w.iD)
    (e : Env) (H : Hp) (k : Nat) (e5 : e 5 = .ptr 0 [0] 1) (e7 : e 7 = b) (e10 : e 10 = .s (.int .i64 0)) (tr : TR H 0 k A) (lr : LR H (some 29) kb b (B.map Vault.enc)) :
    wp (run fns pr 0) 0 B8L4 e H (blockK 4 (seqK (run fns pr 0) 0 B8R4 (retP [Rs.t 4] 0 (V.s (Value.bool true), [])))) := by
  have hlb := fun cf base h0 => o_len cf base h0 b _ lr.sr.len
  simp only [List.length_map] at hlb
  unfold B8L4
  refine wp_for (fun m e H => ∃ i : Nat, m = B.length - i ∧ i ≤ B.length ∧ e 10 = .s (.int .i64 i) ∧ e 5 = .ptr 0 [0] 1 ∧ e 7 = b ∧ TR H 0 k A ∧ LR H (some 29) kb b (B.map Vault.enc))
    (fun e H => e 5 = .ptr 0 [0] 1 ∧ e 7 = b ∧ TR H 0 k A ∧ LR H (some 29) kb b (B.map Vault.enc)) B.length _ _ ⟨0, by omega, by omega, e10, e5, e7, tr, lr⟩ ?_ ?_
  · clear e10 e5 e7 tr lr e H
    rintro m e H ⟨i, rfl, hi, e10, e5, e7, tr, lr⟩
    by_cases c : i < B.length
    · have c' : (i : Int) < B.length := by omega
      have hv : B[i]? = some B[i] := List.getElem?_eq_getElem c
      have hm : B[i] ∈ B := List.getElem_mem _
      generalize B[i] = v at hv hm
      have hve : (B.map Vault.enc)[i]? = some v.enc := by rw [List.getElem?_map, hv]; rfl
      have hib := fun cf base => lr.sr.o_ias (cf := cf) (base := base) (k := .i64) (i := i) (by simpa using c)
      have fa2 := fun cf base => lr.sr.o_fa (cf := cf) (base := base) (f := 0) hve (by simp [Vault.enc])
      have ld2 := fun cf base => lr.sr.o_ldf (cf := cf) (base := base) (f := 0) (g' := some 23) hve (by simp [Vault.enc]; rfl) rfl
      have eg := TGet_ok 0 H 0 k A v.iD tr hA (by omega) sA
      rw [getT_none (fun w hw => hAB w hw v hm)] at eg
      simp only [Option.getD_none, Option.isSome_none] at eg
      have hwr : IntKind.i64.wrap ((i : Int) + 1) = ((i + 1 : Nat) : Int) := wrap_small (by omega)
      have gr := enc_ground zeroV
      have hvb : (0 : Nat) = 0 := rfl
      try simp only [e10, e5, e7, hlb, c', hib, fa2, ld2, eg, hwr, enc_tyV, enc_soV, gr, go_sem, V.s.injEq, Value.bool.injEq, ↓reduceIte, Nat.reduceEqDiff, Nat.reduceBEq, Nat.reduceAdd, Nat.reduceSub, Nat.reduceLT, Nat.reduceLeDiff, Int.reduceLT, Int.reduceLE, Int.reduceEq, Int.reduceToNat, List.append_assoc, List.length_append, Vm.get_app, Vm.set_app, Vm.get_appL, Vm.get_appL0, Vm.set_appL, Vm.set_appL0, Nat.le_refl, Nat.le_add_right, okAt]
      repeat' (
        first | refine wpC_cases ?_ ?_ | refine wpU_casesT ?_ ?_ | refine wpU_casesF ?_ ?_
        all_goals intro hvc
        all_goals first | replace hvc := not_of_true hvc | replace hvc := not_of_false hvc | skip
        all_goals first | subst hvc | replace hvb := And.intro hvc hvb
        all_goals try simp only [hvb, e10, e5, e7, hlb, c', hib, fa2, ld2, eg, hwr, enc_tyV, enc_soV, gr, go_sem, V.s.injEq, Value.bool.injEq, ↓reduceIte, Nat.reduceEqDiff, Nat.reduceBEq, Nat.reduceAdd, Nat.reduceSub, Nat.reduceLT, Nat.reduceLeDiff, Int.reduceLT, Int.reduceLE, Int.reduceEq, Int.reduceToNat, List.append_assoc, List.length_append, Vm.get_app, Vm.set_app, Vm.get_appL, Vm.get_appL0, Vm.set_appL, Vm.set_appL0, Nat.le_refl, Nat.le_add_right, okAt])
      exact ⟨B.length - (i + 1), by omega, i + 1, rfl, by omega, rfl, tr.mono (Fw.app [] _ _) (by simp) (by simp), LR.old' lr (Fw.app [] _ _) (by simp)⟩
    · have c' : ¬ (i : Int) < B.length := by omega
      have hvb : (0 : Nat) = 0 := rfl
      try simp only [e10, e5, e7, hlb, c', go_sem, V.s.injEq, Value.bool.injEq, ↓reduceIte, Nat.reduceEqDiff, Nat.reduceBEq, Nat.reduceAdd, Nat.reduceSub, Nat.reduceLT, Nat.reduceLeDiff, Int.reduceLT, Int.reduceLE, Int.reduceEq, Int.reduceToNat, List.append_assoc, List.length_append, Vm.get_app, Vm.set_app, Vm.get_appL, Vm.get_appL0, Vm.set_appL, Vm.set_appL0, Nat.le_refl, Nat.le_add_right, okAt]
      repeat' (
        first | refine wpC_cases ?_ ?_ | refine wpU_casesT ?_ ?_ | refine wpU_casesF ?_ ?_
        all_goals intro hvc
        all_goals first | replace hvc := not_of_true hvc | replace hvc := not_of_false hvc | skip
        all_goals first | subst hvc | replace hvb := And.intro hvc hvb
        all_goals try simp only [hvb, e10, e5, e7, hlb, c', go_sem, V.s.injEq, Value.bool.injEq, ↓reduceIte, Nat.reduceEqDiff, Nat.reduceBEq, Nat.reduceAdd, Nat.reduceSub, Nat.reduceLT, Nat.reduceLeDiff, Int.reduceLT, Int.reduceLE, Int.reduceEq, Int.reduceToNat, List.append_assoc, List.length_append, Vm.get_app, Vm.set_app, Vm.get_appL, Vm.get_appL0, Vm.set_appL, Vm.set_appL0, Nat.le_refl, Nat.le_add_right, okAt])
      exact ⟨tr, lr⟩
  · clear e10 e5 e7 tr lr e H
    rintro e H ⟨e5, e7, tr, lr⟩
    obtain ⟨H1, k1, e1, t1, f1, hk1⟩ := TFill_ok 0 H 0 k A B b (Nat.le_refl _) tr lr.sr (by omega)
    rw [hB] at e1 t1
    simp only [if_true] at e1 t1
    have lr1 := LR.old' lr f1 (by simpa using hkb)
    have eall := TAll_ok 0 H1 0 k1 B t1 (by omega) sB
    have evs := Vaults_ok 0 H1 (.imm false (some 29) (B.map Vault.enc)) b B B (.inl ⟨_, rfl⟩) lr1.sr (by omega)
    simp only [decide_true] at evs
    obtain ⟨H2, k2, e2, t2, f2, hk2⟩ := TFill_ok 0 H1 0 k1 B [] (.imm true (some 29) []) (Nat.le_refl _) t1 (.inl ⟨_, rfl⟩) (by simp)
    rw [show rising [] = true by decide] at e2 t2
    simp only [if_true] at e2 t2
    have elen := TLen_ok 0 H2 0 k2 [] t2
    have hkn := fun h => known12_ok 0 h
    have h00 : decide (((0 : Nat) : Int) = 0) = true := rfl
    have hvb : (0 : Nat) = 0 := rfl
    try simp only [B8R4, h00, e5, e7, e1, eall, evs, e2, elen, hkn, List.length_nil, List.take_zero, go_sem, V.s.injEq, Value.bool.injEq, ↓reduceIte, Nat.reduceEqDiff, Nat.reduceBEq, Nat.reduceAdd, Nat.reduceSub, Nat.reduceLT, Nat.reduceLeDiff, Int.reduceLT, Int.reduceLE, Int.reduceEq, Int.reduceToNat, List.append_assoc, List.length_append, Vm.get_app, Vm.set_app, Vm.get_appL, Vm.get_appL0, Vm.set_appL, Vm.set_appL0, Nat.le_refl, Nat.le_add_right, okAt]
    repeat' (
      first | refine wpC_cases ?_ ?_ | refine wpU_casesT ?_ ?_ | refine wpU_casesF ?_ ?_
      all_goals intro hvc
      all_goals first | replace hvc := not_of_true hvc | replace hvc := not_of_false hvc | skip
      all_goals first | subst hvc | replace hvb := And.intro hvc hvb
      all_goals try simp only [hvb, B8R4, h00, e5, e7, e1, eall, evs, e2, elen, hkn, List.length_nil, List.take_zero, go_sem, V.s.injEq, Value.bool.injEq, ↓reduceIte, Nat.reduceEqDiff, Nat.reduceBEq, Nat.reduceAdd, Nat.reduceSub, Nat.reduceLT, Nat.reduceLeDiff, Int.reduceLT, Int.reduceLE, Int.reduceEq, Int.reduceToNat, List.append_assoc, List.length_append, Vm.get_app, Vm.set_app, Vm.get_appL, Vm.get_appL0, Vm.set_appL, Vm.set_appL0, Nat.le_refl, Nat.le_add_right, okAt])
    all_goals trace_state
theorem TableFills_run (l o : List KV) (hl : l.length ≤ 140737488351232) (hb : ∀ x ∈ l, x.wf) (ho : o.length ≤ 140737488351232) (hob : ∀ x ∈ o, x.wf) :
    run fns pr 0 8 [.imm false (some 52) (l.map KV.enc), .imm false (some 52) (o.map KV.enc)] [] = some (.s (.bool true), []) := by
  refine Vm.runP (nt := 146) rfl fit8 (by simp) ?_
  obtain ⟨v0, h0, en, rfl, t0, f0⟩ := TNew_ok 0 []
  have h0l : 0 < h0.length := t0.lt.1
  have hvb : (0 : Nat) = 0 := rfl
  try simp only [B8, B8L0, en, go_sem, V.s.injEq, Value.bool.injEq, ↓reduceIte, Nat.reduceEqDiff, Nat.reduceBEq, Nat.reduceAdd, Nat.reduceSub, Nat.reduceLT, Nat.reduceLeDiff, Int.reduceLT, Int.reduceLE, Int.reduceEq, Int.reduceToNat, List.append_assoc, List.length_append, Vm.get_app, Vm.set_app, Vm.get_appL, Vm.get_appL0, Vm.set_appL, Vm.set_appL0, Nat.le_refl, Nat.le_add_right, okAt]
  repeat' (
    first | refine wpC_cases ?_ ?_ | refine wpU_casesT ?_ ?_ | refine wpU_casesF ?_ ?_
    all_goals intro hvc
    all_goals first | replace hvc := not_of_true hvc | replace hvc := not_of_false hvc | skip
    all_goals first | subst hvc | replace hvb := And.intro hvc hvb
    all_goals try simp only [hvb, B8, B8L0, en, go_sem, V.s.injEq, Value.bool.injEq, ↓reduceIte, Nat.reduceEqDiff, Nat.reduceBEq, Nat.reduceAdd, Nat.reduceSub, Nat.reduceLT, Nat.reduceLeDiff, Int.reduceLT, Int.reduceLE, Int.reduceEq, Int.reduceToNat, List.append_assoc, List.length_append, Vm.get_app, Vm.set_app, Vm.get_appL, Vm.get_appL0, Vm.set_appL, Vm.set_appL0, Nat.le_refl, Nat.le_add_right, okAt])
  refine wp_for (fun m e H => ∃ i : Nat, m = 4 - i ∧ i ≤ 4 ∧ i ≤ l.length ∧ e 8 = .s (.int .i64 i) ∧ e 0 = .imm false (some 52) (l.map KV.enc) ∧ e 1 = .imm false (some 52) (o.map KV.enc) ∧ e 5 = .ptr 0 [0] 1 ∧ e 7 = .imm true (some 29) [] ∧ ∃ ka a, e 6 = a ∧ LR H (some 29) ka a ((mkf (2 * ·) (l.take i) 0).map Vault.enc) ∧ Fw [] h0 H ∧ h0.length ≤ ka)
    (fun e H => e 1 = .imm false (some 52) (o.map KV.enc) ∧ e 5 = .ptr 0 [0] 1 ∧ e 7 = .imm true (some 29) [] ∧ ∃ ka a, e 6 = a ∧ LR H (some 29) ka a ((mkf (2 * ·) (l.take 4) 0).map Vault.enc) ∧ Fw [] h0 H ∧ h0.length ≤ ka)
    4 _ _ ⟨0, rfl, by omega, by omega, ?_, ?_, ?_, ?_, ?_, h0.length, .imm true (some 29) [], ?_, .inl ⟨rfl, rfl⟩, Fw.refl _ _, Nat.le_refl _⟩ ?_ ?_
  rotate_right 2
  · rintro m e H ⟨i, rfl, hi, hil, e8, e0', e1', e5, e7, ka, a, e6, lr, fw, hka⟩
    by_cases c1 : i < l.length
    case neg =>
      have c1' : ¬ (i : Int) < l.length := by omega
      have : l.take 4 = l.take i := by rw [List.take_of_length_le (by omega), List.take_of_length_le (by omega)]
      rw [← this] at lr
      have hvb : (0 : Nat) = 0 := rfl
      try simp only [e8, e0', e1', e5, e7, e6, c1', go_sem, V.s.injEq, Value.bool.injEq, ↓reduceIte, Nat.reduceEqDiff, Nat.reduceBEq, Nat.reduceAdd, Nat.reduceSub, Nat.reduceLT, Nat.reduceLeDiff, Int.reduceLT, Int.reduceLE, Int.reduceEq, Int.reduceToNat, List.append_assoc, List.length_append, Vm.get_app, Vm.set_app, Vm.get_appL, Vm.get_appL0, Vm.set_appL, Vm.set_appL0, Nat.le_refl, Nat.le_add_right, okAt]
      repeat' (
        first | refine wpC_cases ?_ ?_ | refine wpU_casesT ?_ ?_ | refine wpU_casesF ?_ ?_
        all_goals intro hvc
        all_goals first | replace hvc := not_of_true hvc | replace hvc := not_of_false hvc | skip
        all_goals first | subst hvc | replace hvb := And.intro hvc hvb
        all_goals try simp only [hvb, e8, e0', e1', e5, e7, e6, c1', go_sem, V.s.injEq, Value.bool.injEq, ↓reduceIte, Nat.reduceEqDiff, Nat.reduceBEq, Nat.reduceAdd, Nat.reduceSub, Nat.reduceLT, Nat.reduceLeDiff, Int.reduceLT, Int.reduceLE, Int.reduceEq, Int.reduceToNat, List.append_assoc, List.length_append, Vm.get_app, Vm.set_app, Vm.get_appL, Vm.get_appL0, Vm.set_appL, Vm.set_appL0, Nat.le_refl, Nat.le_add_right, okAt])
      exact ⟨ka, a, rfl, lr, fw, hka⟩
    by_cases c2 : i < 4
    case neg =>
      have c1' : (i : Int) < l.length := by omega
      have c2' : ¬ (i : Int) < 4 := by omega
      obtain rfl : i = 4 := by omega
      have hvb : (0 : Nat) = 0 := rfl
      try simp only [e8, e0', e1', e5, e7, e6, c1', c2', go_sem, V.s.injEq, Value.bool.injEq, ↓reduceIte, Nat.reduceEqDiff, Nat.reduceBEq, Nat.reduceAdd, Nat.reduceSub, Nat.reduceLT, Nat.reduceLeDiff, Int.reduceLT, Int.reduceLE, Int.reduceEq, Int.reduceToNat, List.append_assoc, List.length_append, Vm.get_app, Vm.set_app, Vm.get_appL, Vm.get_appL0, Vm.set_appL, Vm.set_appL0, Nat.le_refl, Nat.le_add_right, okAt]
      repeat' (
        first | refine wpC_cases ?_ ?_ | refine wpU_casesT ?_ ?_ | refine wpU_casesF ?_ ?_
        all_goals intro hvc
        all_goals first | replace hvc := not_of_true hvc | replace hvc := not_of_false hvc | skip
        all_goals first | subst hvc | replace hvb := And.intro hvc hvb
        all_goals try simp only [hvb, e8, e0', e1', e5, e7, e6, c1', c2', go_sem, V.s.injEq, Value.bool.injEq, ↓reduceIte, Nat.reduceEqDiff, Nat.reduceBEq, Nat.reduceAdd, Nat.reduceSub, Nat.reduceLT, Nat.reduceLeDiff, Int.reduceLT, Int.reduceLE, Int.reduceEq, Int.reduceToNat, List.append_assoc, List.length_append, Vm.get_app, Vm.set_app, Vm.get_appL, Vm.get_appL0, Vm.set_appL, Vm.set_appL0, Nat.le_refl, Nat.le_add_right, okAt])
      exact ⟨ka, a, rfl, lr, fw, hka⟩
    have c1' : (i : Int) < l.length := by omega
    have c2' : (i : Int) < 4 := by omega
    have hi0 : (0 : Int) ≤ i := by omega
    have hwr : IntKind.i64.wrap ((i : Int) + 1) = ((i + 1 : Nat) : Int) := wrap_small (by omega)
    have hx : l[i]? = some l[i] := List.getElem?_eq_getElem c1
    have hxm : l[i] ∈ l := List.getElem_mem _
    have htk : l.take (i + 1) = l.take i ++ [l[i]] := by rw [List.take_add_one, hx]; rfl
    generalize l[i] = x at hx hxm htk
    have hby := even_byte i c2
    have ekv := fun h' => KVault_ok 0 h' x (nm (2 * i)) (hb x hxm)
    have hti : (l.take i).length = i := by rw [List.length_take]; omega
    obtain ⟨x', H', k', hap, lr', fw', hk'⟩ := lr.app1 (T := [.cells (some 29) [(keepV x (nm (2 * i))).enc]]) (idy := H.length) (z := (keepV x (nm (2 * i))).enc) (bytes := 96) hka fw (by rw [get_app0]; rfl) (enc_ground _) (by rw [List.length_map, mkf_len, hti]; omega)
    simp only [nm, List.map_cons, List.map_nil, show byteV 0 = V.s (.int .u8 0) from rfl] at ekv
    simp only [nm] at hap
    have hvb : (0 : Nat) = 0 := rfl
    try simp only [e8, e0', e1', e5, e7, e6, c1', c2', hi0, hx, Int.toNat_natCast, List.getElem?_map, Option.map_some, KV_ty, hby, byteV_ty, byteV_so, ekv, nm, enc_tyV, enc_soV, hwr, hap, go_sem, V.s.injEq, Value.bool.injEq, ↓reduceIte, Nat.reduceEqDiff, Nat.reduceBEq, Nat.reduceAdd, Nat.reduceSub, Nat.reduceLT, Nat.reduceLeDiff, Int.reduceLT, Int.reduceLE, Int.reduceEq, Int.reduceToNat, List.append_assoc, List.length_append, Vm.get_app, Vm.set_app, Vm.get_appL, Vm.get_appL0, Vm.set_appL, Vm.set_appL0, Nat.le_refl, Nat.le_add_right, okAt]
    repeat' (
      first | refine wpC_cases ?_ ?_ | refine wpU_casesT ?_ ?_ | refine wpU_casesF ?_ ?_
      all_goals intro hvc
      all_goals first | replace hvc := not_of_true hvc | replace hvc := not_of_false hvc | skip
      all_goals first | subst hvc | replace hvb := And.intro hvc hvb
      all_goals try simp only [hvb, e8, e0', e1', e5, e7, e6, c1', c2', hi0, hx, Int.toNat_natCast, List.getElem?_map, Option.map_some, KV_ty, hby, byteV_ty, byteV_so, ekv, nm, enc_tyV, enc_soV, hwr, hap, go_sem, V.s.injEq, Value.bool.injEq, ↓reduceIte, Nat.reduceEqDiff, Nat.reduceBEq, Nat.reduceAdd, Nat.reduceSub, Nat.reduceLT, Nat.reduceLeDiff, Int.reduceLT, Int.reduceLE, Int.reduceEq, Int.reduceToNat, List.append_assoc, List.length_append, Vm.get_app, Vm.set_app, Vm.get_appL, Vm.get_appL0, Vm.set_appL, Vm.set_appL0, Nat.le_refl, Nat.le_add_right, okAt])
    exact ⟨4 - (i + 1), by omega, i + 1, rfl, by omega, by omega, rfl, k', x', rfl, by rw [htk, mkf_snoc, List.map_append, hti, Nat.zero_add]; exact lr', fw', hk'⟩
  · rintro e H1 ⟨e1', e5, e7, ka, a, e6, lra, fw1, hka⟩
    have hfl1 := fw1.len
    have hka1 : ka < H1.length ∨ (a = .imm true (some 29) [] ∧ (mkf (2 * ·) (l.take 4) 0).map Vault.enc = []) := by
      rcases lra with ⟨h1, h2⟩ | ⟨es, _, h2, _⟩
      · exact .inr ⟨h1, h2⟩
      · exact .inl (lt_of_get h2)
    have t1 := t0.mono fw1 (by simp) (by simp)
    have hvb : (0 : Nat) = 0 := rfl
    try simp only [B8R0, B8L2, e1', e5, e7, e6, go_sem, V.s.injEq, Value.bool.injEq, ↓reduceIte, Nat.reduceEqDiff, Nat.reduceBEq, Nat.reduceAdd, Nat.reduceSub, Nat.reduceLT, Nat.reduceLeDiff, Int.reduceLT, Int.reduceLE, Int.reduceEq, Int.reduceToNat, List.append_assoc, List.length_append, Vm.get_app, Vm.set_app, Vm.get_appL, Vm.get_appL0, Vm.set_appL, Vm.set_appL0, Nat.le_refl, Nat.le_add_right, okAt]
    repeat' (
      first | refine wpC_cases ?_ ?_ | refine wpU_casesT ?_ ?_ | refine wpU_casesF ?_ ?_
      all_goals intro hvc
      all_goals first | replace hvc := not_of_true hvc | replace hvc := not_of_false hvc | skip
      all_goals first | subst hvc | replace hvb := And.intro hvc hvb
      all_goals try simp only [hvb, B8R0, B8L2, e1', e5, e7, e6, go_sem, V.s.injEq, Value.bool.injEq, ↓reduceIte, Nat.reduceEqDiff, Nat.reduceBEq, Nat.reduceAdd, Nat.reduceSub, Nat.reduceLT, Nat.reduceLeDiff, Int.reduceLT, Int.reduceLE, Int.reduceEq, Int.reduceToNat, List.append_assoc, List.length_append, Vm.get_app, Vm.set_app, Vm.get_appL, Vm.get_appL0, Vm.set_appL, Vm.set_appL0, Nat.le_refl, Nat.le_add_right, okAt])
    refine wp_for (fun m e H => ∃ i : Nat, m = 4 - i ∧ i ≤ 4 ∧ i ≤ o.length ∧ e 9 = .s (.int .i64 i) ∧ e 1 = .imm false (some 52) (o.map KV.enc) ∧ e 5 = .ptr 0 [0] 1 ∧ e 6 = a ∧ ∃ kb b, e 7 = b ∧ LR H (some 29) kb b ((mkf (fun i => 2 * i + 1) (o.take i) 0).map Vault.enc) ∧ Fw [] H1 H ∧ H1.length ≤ kb)
      (fun e H => e 5 = .ptr 0 [0] 1 ∧ e 6 = a ∧ ∃ kb b, e 7 = b ∧ LR H (some 29) kb b ((mkf (fun i => 2 * i + 1) (o.take 4) 0).map Vault.enc) ∧ Fw [] H1 H ∧ H1.length ≤ kb)
      4 _ _ ⟨0, rfl, by omega, by omega, ?_, ?_, ?_, ?_, H1.length, .imm true (some 29) [], ?_, .inl ⟨rfl, rfl⟩, Fw.refl _ _, Nat.le_refl _⟩ ?_ ?_
    rotate_right 2
    · clear e1' e5 e7 e6 e
      rintro m e H ⟨i, rfl, hi, hil, e9, e1', e5, e6, kb, b, e7, lr, fw, hka⟩
      by_cases c1 : i < o.length
      case neg =>
        have c1' : ¬ (i : Int) < o.length := by omega
        have : o.take 4 = o.take i := by rw [List.take_of_length_le (by omega), List.take_of_length_le (by omega)]
        rw [← this] at lr
        have hvb : (0 : Nat) = 0 := rfl
        try simp only [e9, e1', e5, e7, e6, c1', go_sem, V.s.injEq, Value.bool.injEq, ↓reduceIte, Nat.reduceEqDiff, Nat.reduceBEq, Nat.reduceAdd, Nat.reduceSub, Nat.reduceLT, Nat.reduceLeDiff, Int.reduceLT, Int.reduceLE, Int.reduceEq, Int.reduceToNat, List.append_assoc, List.length_append, Vm.get_app, Vm.set_app, Vm.get_appL, Vm.get_appL0, Vm.set_appL, Vm.set_appL0, Nat.le_refl, Nat.le_add_right, okAt]
        repeat' (
          first | refine wpC_cases ?_ ?_ | refine wpU_casesT ?_ ?_ | refine wpU_casesF ?_ ?_
          all_goals intro hvc
          all_goals first | replace hvc := not_of_true hvc | replace hvc := not_of_false hvc | skip
          all_goals first | subst hvc | replace hvb := And.intro hvc hvb
          all_goals try simp only [hvb, e9, e1', e5, e7, e6, c1', go_sem, V.s.injEq, Value.bool.injEq, ↓reduceIte, Nat.reduceEqDiff, Nat.reduceBEq, Nat.reduceAdd, Nat.reduceSub, Nat.reduceLT, Nat.reduceLeDiff, Int.reduceLT, Int.reduceLE, Int.reduceEq, Int.reduceToNat, List.append_assoc, List.length_append, Vm.get_app, Vm.set_app, Vm.get_appL, Vm.get_appL0, Vm.set_appL, Vm.set_appL0, Nat.le_refl, Nat.le_add_right, okAt])
        exact ⟨kb, b, rfl, lr, fw, hka⟩
      by_cases c2 : i < 4
      case neg =>
        have c1' : (i : Int) < o.length := by omega
        have c2' : ¬ (i : Int) < 4 := by omega
        obtain rfl : i = 4 := by omega
        have hvb : (0 : Nat) = 0 := rfl
        try simp only [e9, e1', e5, e7, e6, c1', c2', go_sem, V.s.injEq, Value.bool.injEq, ↓reduceIte, Nat.reduceEqDiff, Nat.reduceBEq, Nat.reduceAdd, Nat.reduceSub, Nat.reduceLT, Nat.reduceLeDiff, Int.reduceLT, Int.reduceLE, Int.reduceEq, Int.reduceToNat, List.append_assoc, List.length_append, Vm.get_app, Vm.set_app, Vm.get_appL, Vm.get_appL0, Vm.set_appL, Vm.set_appL0, Nat.le_refl, Nat.le_add_right, okAt]
        repeat' (
          first | refine wpC_cases ?_ ?_ | refine wpU_casesT ?_ ?_ | refine wpU_casesF ?_ ?_
          all_goals intro hvc
          all_goals first | replace hvc := not_of_true hvc | replace hvc := not_of_false hvc | skip
          all_goals first | subst hvc | replace hvb := And.intro hvc hvb
          all_goals try simp only [hvb, e9, e1', e5, e7, e6, c1', c2', go_sem, V.s.injEq, Value.bool.injEq, ↓reduceIte, Nat.reduceEqDiff, Nat.reduceBEq, Nat.reduceAdd, Nat.reduceSub, Nat.reduceLT, Nat.reduceLeDiff, Int.reduceLT, Int.reduceLE, Int.reduceEq, Int.reduceToNat, List.append_assoc, List.length_append, Vm.get_app, Vm.set_app, Vm.get_appL, Vm.get_appL0, Vm.set_appL, Vm.set_appL0, Nat.le_refl, Nat.le_add_right, okAt])
        exact ⟨kb, b, rfl, lr, fw, hka⟩
      have c1' : (i : Int) < o.length := by omega
      have c2' : (i : Int) < 4 := by omega
      have hi0 : (0 : Int) ≤ i := by omega
      have hwr : IntKind.i64.wrap ((i : Int) + 1) = ((i + 1 : Nat) : Int) := wrap_small (by omega)
      have hx : o[i]? = some o[i] := List.getElem?_eq_getElem c1
      have hxm : o[i] ∈ o := List.getElem_mem _
      have htk : o.take (i + 1) = o.take i ++ [o[i]] := by rw [List.take_add_one, hx]; rfl
      generalize o[i] = x at hx hxm htk
      have hby := odd_byte i c2
      have ekv := fun h' => KVault_ok 0 h' x (nm (2 * i + 1)) (hob x hxm)
      have hti : (o.take i).length = i := by rw [List.length_take]; omega
      obtain ⟨x', H', k', hap, lr', fw', hk'⟩ := lr.app1 (T := [.cells (some 29) [(keepV x (nm (2 * i + 1))).enc]]) (idy := H.length) (z := (keepV x (nm (2 * i + 1))).enc) (bytes := 96) hka fw (by rw [get_app0]; rfl) (enc_ground _) (by rw [List.length_map, mkf_len, hti]; omega)
      simp only [nm, List.map_cons, List.map_nil, show byteV 0 = V.s (.int .u8 0) from rfl] at ekv
      simp only [nm] at hap
      have hvb : (0 : Nat) = 0 := rfl
      try simp only [e9, e1', e5, e7, e6, c1', c2', hi0, hx, Int.toNat_natCast, List.getElem?_map, Option.map_some, KV_ty, hby, byteV_ty, byteV_so, ekv, nm, enc_tyV, enc_soV, hwr, hap, go_sem, V.s.injEq, Value.bool.injEq, ↓reduceIte, Nat.reduceEqDiff, Nat.reduceBEq, Nat.reduceAdd, Nat.reduceSub, Nat.reduceLT, Nat.reduceLeDiff, Int.reduceLT, Int.reduceLE, Int.reduceEq, Int.reduceToNat, List.append_assoc, List.length_append, Vm.get_app, Vm.set_app, Vm.get_appL, Vm.get_appL0, Vm.set_appL, Vm.set_appL0, Nat.le_refl, Nat.le_add_right, okAt]
      repeat' (
        first | refine wpC_cases ?_ ?_ | refine wpU_casesT ?_ ?_ | refine wpU_casesF ?_ ?_
        all_goals intro hvc
        all_goals first | replace hvc := not_of_true hvc | replace hvc := not_of_false hvc | skip
        all_goals first | subst hvc | replace hvb := And.intro hvc hvb
        all_goals try simp only [hvb, e9, e1', e5, e7, e6, c1', c2', hi0, hx, Int.toNat_natCast, List.getElem?_map, Option.map_some, KV_ty, hby, byteV_ty, byteV_so, ekv, nm, enc_tyV, enc_soV, hwr, hap, go_sem, V.s.injEq, Value.bool.injEq, ↓reduceIte, Nat.reduceEqDiff, Nat.reduceBEq, Nat.reduceAdd, Nat.reduceSub, Nat.reduceLT, Nat.reduceLeDiff, Int.reduceLT, Int.reduceLE, Int.reduceEq, Int.reduceToNat, List.append_assoc, List.length_append, Vm.get_app, Vm.set_app, Vm.get_appL, Vm.get_appL0, Vm.set_appL, Vm.set_appL0, Nat.le_refl, Nat.le_add_right, okAt])
      exact ⟨4 - (i + 1), by omega, i + 1, rfl, by omega, by omega, rfl, k', x', rfl, by rw [htk, mkf_snoc, List.map_append, hti, Nat.zero_add]; exact lr', fw', hk'⟩
    · clear e1' e5 e7 e6 e
      rintro e H2 ⟨e5, e6, kb, b, e7, lrb, fw2, hkb⟩
      have hA := mkf_rising (f := (2 * ·)) (l := l.take 4) (fun x hx => hb x (List.mem_of_mem_take hx)) (by simp; omega) (fun i j h1 h2 => by simp at h2; omega)
      have hB := mkf_rising (f := (fun i => 2 * i + 1)) (l := o.take 4) (fun x hx => hob x (List.mem_of_mem_take hx)) (by simp; omega) (fun i j h1 h2 => by simp at h2; omega)
      have sA := mkf_secret (f := (2 * ·)) (l := l.take 4) (fun x hx => hb x (List.mem_of_mem_take hx))
      have sB := mkf_secret (f := (fun i => 2 * i + 1)) (l := o.take 4) (fun x hx => hob x (List.mem_of_mem_take hx))
      have lA : (mkf (2 * ·) (l.take 4) 0).length ≤ 4 := by rw [mkf_len]; simp; omega
      have lB : (mkf (fun i => 2 * i + 1) (o.take 4) 0).length ≤ 4 := by rw [mkf_len]; simp; omega
      have hAB : ∀ v ∈ mkf (2 * ·) (l.take 4) 0, ∀ w ∈ mkf (fun i => 2 * i + 1) (o.take 4) 0, v.iD ≠ w.iD := by
        intro v hv w hw he
        obtain ⟨j, x, hj, _, rfl⟩ := mkf_mem hv
        obtain ⟨j', x', hj', _, rfl⟩ := mkf_mem hw
        rw [keepV_id, keepV_id] at he
        simp at hj hj'
        have := nm_inj (by omega) (by omega) he
        omega
      have hkbt : kb ≠ 0 := by omega
      have hAr : Rise (mkf (2 * ·) (l.take 4) 0) := by simp [rising] at hA; exact hA.2
      have hBr : Rise (mkf (fun i => 2 * i + 1) (o.take 4) 0) := by simp [rising] at hB; exact hB.2
      generalize mkf (2 * ·) (l.take 4) 0 = A at *
      generalize mkf (fun i => 2 * i + 1) (o.take 4) 0 = B at *
      have lra2 := LR.old' lra fw2 (by simp)
      have t2 := t1.mono fw2 (by simp) (by simp)
      have hfl2 := fw2.len
      obtain ⟨H3, k3, ef, t3, f3, hk3⟩ := TFill_ok 0 H2 0 0 [] A a (Nat.le_refl _) t2 lra2.sr (by omega)
      rw [hA] at ef t3
      simp only [if_true] at ef t3
      have lra3 := LR.old' lra2 f3 (by simp; omega)
      have lrb3 := LR.old' lrb f3 (by simp; omega)
      have eall := TAll_ok 0 H3 0 k3 A t3 (by omega) sA
      have evs := Vaults_ok 0 H3 (.imm false (some 29) (A.map Vault.enc)) a A A (.inl ⟨_, rfl⟩) lra3.sr (by omega)
      simp only [decide_true] at evs
      have hlb := fun cf base h0 => o_len cf base h0 b _ lrb3.sr.len
      simp only [List.length_map] at hlb
      by_cases hlen1 : 1 < B.length
      case neg =>
        have hc1 : ¬ (B.length : Int) > 1 := by omega
        have hvb : (0 : Nat) = 0 := rfl
        try simp only [B8R2, e5, e6, e7, ef, eall, evs, hlb, hc1, go_sem, V.s.injEq, Value.bool.injEq, ↓reduceIte, Nat.reduceEqDiff, Nat.reduceBEq, Nat.reduceAdd, Nat.reduceSub, Nat.reduceLT, Nat.reduceLeDiff, Int.reduceLT, Int.reduceLE, Int.reduceEq, Int.reduceToNat, List.append_assoc, List.length_append, Vm.get_app, Vm.set_app, Vm.get_appL, Vm.get_appL0, Vm.set_appL, Vm.set_appL0, Nat.le_refl, Nat.le_add_right, okAt]
        repeat' (
          first | refine wpC_cases ?_ ?_ | refine wpU_casesT ?_ ?_ | refine wpU_casesF ?_ ?_
          all_goals intro hvc
          all_goals first | replace hvc := not_of_true hvc | replace hvc := not_of_false hvc | skip
          all_goals first | subst hvc | replace hvb := And.intro hvc hvb
          all_goals try simp only [hvb, B8R2, e5, e6, e7, ef, eall, evs, hlb, hc1, go_sem, V.s.injEq, Value.bool.injEq, ↓reduceIte, Nat.reduceEqDiff, Nat.reduceBEq, Nat.reduceAdd, Nat.reduceSub, Nat.reduceLT, Nat.reduceLeDiff, Int.reduceLT, Int.reduceLE, Int.reduceEq, Int.reduceToNat, List.append_assoc, List.length_append, Vm.get_app, Vm.set_app, Vm.get_appL, Vm.get_appL0, Vm.set_appL, Vm.set_appL0, Nat.le_refl, Nat.le_add_right, okAt])
        exact fills_tail A B b kb hkbt hAr lA sA lB sB hB hAB _ H3 k3 (by simp only [go_sem, e5, Nat.reduceEqDiff, ↓reduceIte]) (by simp only [go_sem, e7, Nat.reduceEqDiff, ↓reduceIte]) (by simp only [go_sem, ↓reduceIte]) t3 lrb3
      case pos =>
        have hc1 : (B.length : Int) > 1 := by omega
        match hBB : B, hlen1 with
        | v0 :: v1 :: B', _ =>
          rcases lrb3 with ⟨_, hnil⟩ | ⟨es, rfl, hes, htk, hle⟩
          · cases hnil
          · match hes2 : es, htk with
            | w0 :: w1 :: fs, htk =>
              simp only [List.map_cons, List.length_cons, List.take_succ_cons, List.cons.injEq] at htk
              obtain ⟨rfl, rfl, htk⟩ := htk
              have g0 := enc_ground v0
              have g1 := enc_ground v1
              have q0 : (0 : Int) < ((B'.length + 1 + 1 : Nat) : Int) := by omega
              have q1 : (1 : Int) < ((B'.length + 1 + 1 : Nat) : Int) := by omega
              have q2 : 1 < fs.length + 1 + 1 := by omega
              have q3 : 0 < fs.length + 1 + 1 := by omega
              obtain ⟨H4, hH4⟩ : ∃ H4, H4 = H3.set kb (.cells (some 29) (v1.enc :: v0.enc :: fs)) := ⟨_, rfl⟩
              have f4 : Fw [kb] H3 H4 := by rw [hH4]; exact Fw.set (by simp) hes
              have hes4 : H4[kb]? = some (.cells (some 29) (v1.enc :: v0.enc :: fs)) := by rw [hH4]; exact set_get hes
              have hst1 : ∀ bb, H3.set kb bb = H3.set kb bb := fun _ => rfl
              have hes3 : ∀ b', (H3.set kb b')[kb]? = some b' := fun b' => set_get hes
              have hkb2 : kb < H2.length := by
                rcases lrb with ⟨h, _⟩ | ⟨_, _, h, _⟩
                · cases h
                · exact lt_of_get h
              have hk3' : k3 ≠ kb := by omega
              have t4 := t3.mono f4 (by simp; exact Ne.symm hkbt) (by simpa using hk3')
              have lra4 : LR H4 (some 29) ka a (A.map Vault.enc) := by
                rcases hka1 with h | h
                · exact LR.old' lra3 f4 (by simp; omega)
                · exact .inl h
              have lrs : LR H4 (some 29) kb (.ref kb [] (some 29) 0 (B'.length + 1 + 1) (fs.length + 1 + 1)) ((v1 :: v0 :: B').map Vault.enc) := .inr ⟨v1.enc :: v0.enc :: fs, by simp, hes4, by simpa using htk, by simpa using hle⟩
              have hbad : rising (v1 :: v0 :: B') = false := by
                have h01 := List.pairwise_cons.1 hBr
                have h02 : cmpB v0.iD v1.iD < 0 := h01.1 v1 (by simp)
                have h03 := cmp_anti v0.iD v1.iD
                simp only [rising, Bool.and_eq_false_iff, decide_eq_false_iff_not]
                exact .inr (Rise_bad (i := 0) (v := v1) (w := v0) rfl rfl (by omega))
              obtain ⟨H5, k5, ef5, t5, f5, hk5⟩ := TFill_ok 0 H4 0 k3 A (v1 :: v0 :: B') _ (Nat.le_refl _) t4 lrs.sr (by simp at lB ⊢; omega)
              rw [hbad] at ef5 t5
              simp only [Bool.false_eq_true, if_false] at ef5 t5
              have lra5 := LR.old' lra4 f5 (by simp; omega)
              have eall5 := TAll_ok 0 H5 0 k5 A t5 (by omega) sA
              have evs5 := Vaults_ok 0 H5 (.imm false (some 29) (A.map Vault.enc)) a A A (.inl ⟨_, rfl⟩) lra5.sr (by omega)
              simp only [decide_true] at evs5
              have hes5 : H5[kb]? = some (.cells (some 29) (v1.enc :: v0.enc :: fs)) := f5.old _ _ hes4 (by simpa using hkbt)
              have hes6 : ∀ b', (H5.set kb b')[kb]? = some b' := fun b' => set_get hes5
              have hH4' := hH4.symm
              have hvb : (0 : Nat) = 0 := rfl
              try simp only [B8R2, e5, e6, e7, ef, eall, evs, hlb, hc1, hes, hes3, hes4, hH4', List.length_cons, List.length_map, g0, g1, q0, q1, q2, q3, enc_tyV, enc_soV, List.set_set, ef5, eall5, evs5, hes5, hes6, go_sem, V.s.injEq, Value.bool.injEq, ↓reduceIte, Nat.reduceEqDiff, Nat.reduceBEq, Nat.reduceAdd, Nat.reduceSub, Nat.reduceLT, Nat.reduceLeDiff, Int.reduceLT, Int.reduceLE, Int.reduceEq, Int.reduceToNat, List.append_assoc, List.length_append, Vm.get_app, Vm.set_app, Vm.get_appL, Vm.get_appL0, Vm.set_appL, Vm.set_appL0, Nat.le_refl, Nat.le_add_right, okAt]
              repeat' (
                first | refine wpC_cases ?_ ?_ | refine wpU_casesT ?_ ?_ | refine wpU_casesF ?_ ?_
                all_goals intro hvc
                all_goals first | replace hvc := not_of_true hvc | replace hvc := not_of_false hvc | skip
                all_goals first | subst hvc | replace hvb := And.intro hvc hvb
                all_goals try simp only [hvb, B8R2, e5, e6, e7, ef, eall, evs, hlb, hc1, hes, hes3, hes4, hH4', List.length_cons, List.length_map, g0, g1, q0, q1, q2, q3, enc_tyV, enc_soV, List.set_set, ef5, eall5, evs5, hes5, hes6, go_sem, V.s.injEq, Value.bool.injEq, ↓reduceIte, Nat.reduceEqDiff, Nat.reduceBEq, Nat.reduceAdd, Nat.reduceSub, Nat.reduceLT, Nat.reduceLeDiff, Int.reduceLT, Int.reduceLE, Int.reduceEq, Int.reduceToNat, List.append_assoc, List.length_append, Vm.get_app, Vm.set_app, Vm.get_appL, Vm.get_appL0, Vm.set_appL, Vm.set_appL0, Nat.le_refl, Nat.le_add_right, okAt])
              have f6 : Fw [kb] H5 (H5.set kb (.cells (some 29) (v0.enc :: v1.enc :: fs))) := Fw.set (by simp) hes5
              have hkb4 := lt_of_get hes4
              have t6 := t5.mono f6 (by simp; exact Ne.symm hkbt) (by simp; omega)
              exact fills_tail A (v0 :: v1 :: B') (.ref kb [] (some 29) 0 (B'.length + 1 + 1) (fs.length + 1 + 1)) kb hkbt hAr lA sA lB sB hB hAB _ _ k5 (by simp only [go_sem, e5, Nat.reduceEqDiff, ↓reduceIte]) (by simp only [go_sem, e7, Nat.reduceEqDiff, ↓reduceIte]) (by simp only [go_sem, ↓reduceIte]) t6 (.inr ⟨v0.enc :: v1.enc :: fs, by simp, set_get hes5, by simpa using htk, by simpa using hle⟩)
    all_goals simp only [go_sem, e1', e5, e6, e7]
    all_goals rfl
  all_goals rfl
end Go.Proofs.Ytdhgcdkinehomaa
