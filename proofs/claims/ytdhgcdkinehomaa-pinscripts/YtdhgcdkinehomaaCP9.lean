/- PinScripts: what the law runs. Conditions: none. -/
import Derived.Test.YtdhgcdkinehomaaCP6
import Derived.Test.YtdhgcdkinehomaaCMPW
namespace Go.Cl
open Go
set_option linter.unusedVariables false
set_option linter.unusedSimpArgs false
theorem fix_valid {r : Int} (h0 : 0 ≤ r) (h1 : r < 55296 ∨ (57344 ≤ r ∧ r ≤ 1114111)) : fix r = r := by
  have : Utf8.valid r = true := by
    simp only [Utf8.valid, Bool.or_eq_true, Bool.and_eq_true, decide_eq_true_eq]; omega
  simp [fix, this]
def ddS (l : List Int) (i : Nat) : Int := l.getD i 0 % 10
def kkS (ks : List Int) (i : Nat) : Int := if i < ks.length then ks.getD i 0 % 8 else 0
def sepS (k : Int) : List Int := if k % 4 = 0 then [] else if k % 4 = 1 then [32] else if k % 4 = 2 then [45] else [160]
def zeroS (k : Int) : Int := if k / 2 = 0 then 48 else if k / 2 = 1 then 65296 else if k / 2 = 2 then 1632 else 1776
def plainS (l : List Int) : Nat → List Int
  | 0 => []
  | i + 1 => plainS l i ++ [48 + ddS l i]
def otherS (l ks : List Int) : Nat → List Int
  | 0 => []
  | i + 1 => otherS l ks i ++ (sepS (kkS ks i) ++ [zeroS (kkS ks i) + ddS l i])
def digS (l : List Int) : Nat → Bs
  | 0 => []
  | i + 1 => digS l i ++ [UInt8.ofNat (48 + ddS l i).toNat]
theorem dd_range (l : List Int) (i : Nat) : 0 ≤ ddS l i ∧ ddS l i ≤ 9 := by unfold ddS; omega
theorem digS_len (l : List Int) : ∀ i, (digS l i).length = i
  | 0 => rfl
  | i + 1 => by simp [digS, digS_len l i]
theorem nrm_one {z d : Int} (hz : z = 48 ∨ z = 65296 ∨ z = 1632 ∨ z = 1776) (hd : 0 ≤ d ∧ d ≤ 9) : nrmL [z + d] = some [UInt8.ofNat (48 + d).toNat] := by
  have hp : pass (z + d) = false := by
    simp only [pass, Bool.or_eq_false_iff, beq_eq_false_iff_ne]; omega
  have hn : digN (z + d) = some (48 + d) := by
    unfold digN
    rcases hz with rfl | rfl | rfl | rfl
    · rw [if_pos (by omega)]
    · rw [if_neg (by omega), if_pos (by omega)]; congr 1; omega
    · rw [if_neg (by omega), if_neg (by omega), if_pos (by omega)]; congr 1; omega
    · rw [if_neg (by omega), if_neg (by omega), if_neg (by omega), if_pos (by omega)]; congr 1; omega
  simp [nrmL, hp, hn]
theorem zeroS_cases (k : Int) : zeroS k = 48 ∨ zeroS k = 65296 ∨ zeroS k = 1632 ∨ zeroS k = 1776 := by
  unfold zeroS
  repeat' split
  all_goals simp
theorem sep_nrm (k : Int) : nrmL (sepS k) = some [] := by
  unfold sepS
  repeat' split
  all_goals rfl
theorem plain_nrm (l : List Int) : ∀ i, nrmL ((plainS l i).map fix) = some (digS l i)
  | 0 => rfl
  | i + 1 => by
    have hd := dd_range l i
    simp only [plainS, List.map_append, List.map_cons, List.map_nil, digS]
    rw [fix_valid (by omega) (by omega)]
    exact nrmL_append _ _ _ _ (plain_nrm l i) (nrm_one (.inl rfl) hd)
theorem sep_fix (k : Int) : (sepS k).map fix = sepS k := by
  unfold sepS
  repeat' split
  all_goals rfl
theorem other_nrm (l ks : List Int) : ∀ i, nrmL ((otherS l ks i).map fix) = some (digS l i)
  | 0 => rfl
  | i + 1 => by
    have hd := dd_range l i
    have hz := zeroS_cases (kkS ks i)
    simp only [otherS, List.map_append, List.map_cons, List.map_nil, digS, sep_fix]
    rw [fix_valid (by omega) (by omega)]
    have := nrmL_append _ _ _ _ (sep_nrm (kkS ks i)) (nrm_one hz hd)
    exact nrmL_append _ _ _ _ (other_nrm l ks i) this
theorem enc_ascii {r : Int} (h0 : 0 ≤ r) (h1 : r < 128) : enc1 r = [UInt8.ofNat r.toNat] := by
  have hv : Utf8.valid r = true := by
    simp only [Utf8.valid, Bool.or_eq_true, Bool.and_eq_true, decide_eq_true_eq]; omega
  have h2 : r.toNat < 128 := by omega
  simp [enc1, Utf8.encode, hv, h2]
theorem plain_enc (l : List Int) : ∀ i, encL (plainS l i) = digS l i
  | 0 => rfl
  | i + 1 => by
    have hd := dd_range l i
    simp only [plainS, digS, encL_append, encL_one]
    rw [plain_enc l i, enc_ascii (by omega) (by omega)]
theorem plain_len (l : List Int) : ∀ i, (plainS l i).length = i
  | 0 => rfl
  | i + 1 => by simp [plainS, plain_len l i]
theorem sep_len (k : Int) : (sepS k).length ≤ 1 := by
  unfold sepS
  repeat' split
  all_goals simp
theorem other_len (l ks : List Int) : ∀ i, (otherS l ks i).length ≤ 2 * i
  | 0 => by simp [otherS]
  | i + 1 => by
    have := other_len l ks i
    have := sep_len (kkS ks i)
    simp only [otherS, List.length_append, List.length_cons, List.length_nil]; omega
theorem normal_plain (l : List Int) (n : Nat) : normal (encL (plainS l n)) = if 4 ≤ n ∧ n ≤ 12 then some (digS l n) else none := by
  rw [normal, sg_enc, plain_nrm]
  simp only [Option.bind_some, digS_len]
theorem normal_other (l ks : List Int) (n : Nat) : normal (encL (otherS l ks n)) = if 4 ≤ n ∧ n ≤ 12 then some (digS l n) else none := by
  rw [normal, sg_enc, other_nrm]
  simp only [Option.bind_some, digS_len]
end Go.Cl
namespace Go.Proofs.Ytdhgcdkinehomaa
open Go Go.Vm Go.Proofs Go.Cl
set_option linter.unusedSimpArgs false
set_option linter.unusedVariables false
set_option maxRecDepth 100000
def intV (n : Int) : V := .s (.int .i64 n)
theorem remK (kk : IntKind) (n m : Int) (hm : 0 < m) : (∀ cf base h, opV cf base h (.bin .num .rem) [.s (.int kk n), .s (.int kk m)] = some (.s (.int kk (n.tmod m)), h)) ∧ (∀ cf base h, opV cf base h (.bin .num .rem) [.s (.int kk (n.tmod m + m)), .s (.int kk m)] = some (.s (.int kk (n % m)), h)) ∧ -m < n.tmod m ∧ n.tmod m < m ∧ 0 ≤ n % m ∧ n % m < m := by
  obtain ⟨h1, h2, h3⟩ := tm n m hm
  exact ⟨fun cf base h => o_rem cf base h kk n m (by omega), fun cf base h => by rw [o_rem cf base h kk _ m (by omega), h1], h2, h3, Int.emod_nonneg n (by omega), Int.emod_lt_of_pos n hm⟩
def sepVs : List V := [.s (.string ⟨#[]⟩), .s (.string ⟨#[32]⟩), .s (.string ⟨#[45]⟩), .s (.string ⟨#[194, 160]⟩)]
def zeroVs : List V := [.s (.int .i32 48), .s (.int .i32 65296), .s (.int .i32 1632), .s (.int .i32 1776)]
theorem kind_facts (k : Int) (h0 : 0 ≤ k) (h1 : k < 8) : (∀ cf base h, opV cf base h (.bin .num .rem) [.s (.int .i64 k), .s (.int .i64 4)] = some (.s (.int .i64 (k % 4)), h)) ∧ (∀ cf base h, opV cf base h (.bin .num .quo) [.s (.int .i64 k), .s (.int .i64 2)] = some (.s (.int .i64 (k / 2)), h)) ∧
    (∀ cf base h, opV cf base h (.ias none) [.imm true none sepVs, .s (.int .i64 (k % 4))] = some (.iptr (.s (.string ⟨(encL (sepS k)).toArray⟩)), h)) ∧
    (∀ cf base h, opV cf base h (.ias none) [.imm true none zeroVs, .s (.int .i64 (k / 2))] = some (.iptr (.s (.int .i32 (zeroS k))), h)) := by
  refine ⟨fun cf base h => by rw [o_rem cf base h .i64 k 4 (by omega), Int.tmod_eq_emod_of_nonneg h0], fun cf base h => by rw [o_quo cf base h .i64 k 2 (by omega), Int.tdiv_eq_ediv_of_nonneg h0, wrap_i64 (by omega) (by omega)], fun cf base h => ?_, fun cf base h => ?_⟩
  · have hk : k = 0 ∨ k = 1 ∨ k = 2 ∨ k = 3 ∨ k = 4 ∨ k = 5 ∨ k = 6 ∨ k = 7 := by omega
    rcases hk with rfl | rfl | rfl | rfl | rfl | rfl | rfl | rfl <;> rfl
  · have hk : k = 0 ∨ k = 1 ∨ k = 2 ∨ k = 3 ∨ k = 4 ∨ k = 5 ∨ k = 6 ∨ k = 7 := by omega
    rcases hk with rfl | rfl | rfl | rfl | rfl | rfl | rfl | rfl <;> rfl
theorem PinScripts_run (l ks : List Int) (hl : l.length ≤ 140737488351232) (hks : ks.length ≤ 140737488351232) : run fns pr 0 11 [.imm false none (l.map intV), .imm false none (ks.map intV)] [] = some (.s (.bool true), []) := by
  have hkn := fun b h => known_ok b h
  refine Vm.runP (nt := 108) rfl fit11 (by simp) ?_
  have hvb : (0 : Nat) = 0 := rfl
  try simp only [B11, B11R0, B11L0, go_sem, V.s.injEq, Value.bool.injEq, ↓reduceIte, Nat.reduceEqDiff, Nat.reduceBEq, Nat.reduceAdd, Nat.reduceSub, Nat.reduceLT, Nat.reduceLeDiff, Int.reduceLT, Int.reduceLE, Int.reduceEq, Int.reduceToNat, List.append_assoc, List.length_append, Vm.get_app, Vm.set_app, Vm.get_appL, Vm.get_appL0, Vm.set_appL, Vm.set_appL0, Nat.le_refl, Nat.le_add_right, okAt]
  repeat' (
    first | refine wpC_cases ?_ ?_ | refine wpU_casesT ?_ ?_ | refine wpU_casesF ?_ ?_
    all_goals intro hvc
    all_goals first | replace hvc := not_of_true hvc | replace hvc := not_of_false hvc | skip
    all_goals first | subst hvc | replace hvb := And.intro hvc hvb
    all_goals try simp only [hvb, B11, B11R0, B11L0, go_sem, V.s.injEq, Value.bool.injEq, ↓reduceIte, Nat.reduceEqDiff, Nat.reduceBEq, Nat.reduceAdd, Nat.reduceSub, Nat.reduceLT, Nat.reduceLeDiff, Int.reduceLT, Int.reduceLE, Int.reduceEq, Int.reduceToNat, List.append_assoc, List.length_append, Vm.get_app, Vm.set_app, Vm.get_appL, Vm.get_appL0, Vm.set_appL, Vm.set_appL0, Nat.le_refl, Nat.le_add_right, okAt])
  refine wp_for (fun m e H => ∃ i : Nat, m = 14 - i ∧ i ≤ 14 ∧ i ≤ l.length ∧ e 7 = .s (.int .i64 i) ∧ e 0 = .imm false none (l.map intV) ∧ e 1 = .imm false none (ks.map intV) ∧ e 5 = .s (.string ⟨(encL (plainS l i)).toArray⟩) ∧ e 6 = .s (.string ⟨(encL (otherS l ks i)).toArray⟩) ∧ H = [])
    (fun e H => e 0 = .imm false none (l.map intV) ∧ e 5 = .s (.string ⟨(encL (plainS l (min l.length 14))).toArray⟩) ∧ e 6 = .s (.string ⟨(encL (otherS l ks (min l.length 14))).toArray⟩) ∧ H = [])
    14 _ _ ⟨0, rfl, by omega, by omega, rfl, rfl, rfl, rfl, rfl, rfl⟩ ?_ ?_
  · rintro m e H ⟨i, rfl, hi, hil, e7, e0, e1, e5, e6, rfl⟩
    by_cases c : i < l.length ∧ i < 14
    · obtain ⟨c1, c2⟩ := c
      have c1' : (i : Int) < l.length := by omega
      have c2' : (i : Int) < 14 := by omega
      have hwr : IntKind.i64.wrap ((i : Int) + 1) = ((i + 1 : Nat) : Int) := wrap_small (by omega)
      have i0 : (0 : Int) ≤ i := by omega
      have hv : (l.map intV)[i]? = some (.s (.int .i64 (l.getD i 0))) := by rw [List.getElem?_map, List.getD, List.getElem?_eq_getElem c1]; rfl
      have hdd : l.getD i 0 % 10 = ddS l i := rfl
      obtain ⟨a1, a2, a3, a4, a5, a6⟩ := remK .i64 (l.getD i 0) 10 (by omega)
      have wd : IntKind.i64.wrap ((l.getD i 0).tmod 10 + 10) = (l.getD i 0).tmod 10 + 10 := wrap_i64 (by omega) (by omega)
      rw [hdd] at a2 a5 a6
      have w32 : IntKind.i32.wrap (ddS l i) = ddS l i := wrap_i32 (by omega) (by omega)
      have w48 : IntKind.i32.wrap (48 + ddS l i) = 48 + ddS l i := wrap_i32 (by omega) (by omega)
      obtain ⟨k0, k1⟩ : 0 ≤ kkS ks i ∧ kkS ks i < 8 := by unfold kkS; split <;> omega
      obtain ⟨q1, q2, q3, q4⟩ := kind_facts (kkS ks i) k0 k1
      have hzc := zeroS_cases (kkS ks i)
      have wz : IntKind.i32.wrap (zeroS (kkS ks i) + ddS l i) = zeroS (kkS ks i) + ddS l i := wrap_i32 (by omega) (by omega)
      have u1 := fun cf base h => o_r2s1 (cf := cf) (base := base) (h := h) (48 + ddS l i)
      have u2 := fun cf base h => o_r2s1 (cf := cf) (base := base) (h := h) (zeroS (kkS ks i) + ddS l i)
      have e1l := enc1_len (48 + ddS l i)
      have e2l := enc1_len (zeroS (kkS ks i) + ddS l i)
      have p1 := plain_len l i
      have p2 := encL_len (plainS l i)
      have p3 := other_len l ks i
      have p4 := encL_len (otherS l ks i)
      have p5 := sep_len (kkS ks i)
      have p6 := encL_len (sepS (kkS ks i))
      have ad1 := fun cf base h => o_saddT (cf := cf) (base := base) (h := h) (encL (plainS l i)) (enc1 (48 + ddS l i)) (by omega)
      have ad2 := fun cf base h => o_saddT (cf := cf) (base := base) (h := h) (encL (sepS (kkS ks i))) (enc1 (zeroS (kkS ks i) + ddS l i)) (by omega)
      have ad3 := fun cf base h => o_saddT (cf := cf) (base := base) (h := h) (encL (otherS l ks i)) (encL (sepS (kkS ks i)) ++ enc1 (zeroS (kkS ks i) + ddS l i)) (by rw [List.length_append]; omega)
      have fp : encL (plainS l i) ++ enc1 (48 + ddS l i) = encL (plainS l (i + 1)) := by simp only [plainS, encL_append, encL_one]
      have fo : encL (otherS l ks i) ++ (encL (sepS (kkS ks i)) ++ enc1 (zeroS (kkS ks i) + ddS l i)) = encL (otherS l ks (i + 1)) := by simp only [otherS, encL_append, encL_one]
      rw [fp] at ad1
      rw [fo] at ad3
      clear fp fo
      generalize encL (sepS (kkS ks i)) ++ enc1 (zeroS (kkS ks i) + ddS l i) = t2 at ad2 ad3
      generalize zeroS (kkS ks i) = z at q4 wz u2 ad2
      simp only [sepVs, zeroVs] at q3 q4
      have fin : ∃ m, m < 14 - i ∧ ∃ j : Nat, m = 14 - j ∧ j ≤ 14 ∧ j ≤ l.length ∧ Value.int .i64 ((i + 1 : Nat) : Int) = Value.int .i64 j ∧ Value.string ⟨(encL (plainS l (i + 1))).toArray⟩ = Value.string ⟨(encL (plainS l j)).toArray⟩ ∧ Value.string ⟨(encL (otherS l ks (i + 1))).toArray⟩ = Value.string ⟨(encL (otherS l ks j)).toArray⟩ :=
        ⟨14 - (i + 1), by omega, i + 1, rfl, by omega, by omega, rfl, rfl, rfl⟩
      by_cases j : i < ks.length
      · have j' : (i : Int) < ks.length := by omega
        have hkv : (ks.map intV)[i]? = some (.s (.int .i64 (ks.getD i 0))) := by rw [List.getElem?_map, List.getD, List.getElem?_eq_getElem j]; rfl
        have hkk : ks.getD i 0 % 8 = kkS ks i := by simp [kkS, j]
        obtain ⟨b1, b2, b3, b4, b5, b6⟩ := remK .i64 (ks.getD i 0) 8 (by omega)
        have wk : IntKind.i64.wrap ((ks.getD i 0).tmod 8 + 8) = (ks.getD i 0).tmod 8 + 8 := wrap_i64 (by omega) (by omega)
        rw [hkk] at b2
        have hvb : (0 : Nat) = 0 := rfl
        try simp only [e7, e0, e1, e5, e6, c1', c2', i0, hv, a1, a2, wd, w32, w48, u1, u2, ad1, ad2, ad3, j', hkv, b1, b2, wk, q1, q2, q3, q4, wz, hwr, List.length_map, Int.toNat_natCast, go_sem, V.s.injEq, Value.bool.injEq, ↓reduceIte, Nat.reduceEqDiff, Nat.reduceBEq, Nat.reduceAdd, Nat.reduceSub, Nat.reduceLT, Nat.reduceLeDiff, Int.reduceLT, Int.reduceLE, Int.reduceEq, Int.reduceToNat, List.append_assoc, List.length_append, Vm.get_app, Vm.set_app, Vm.get_appL, Vm.get_appL0, Vm.set_appL, Vm.set_appL0, Nat.le_refl, Nat.le_add_right, okAt]
        repeat' (
          first | refine wpC_cases ?_ ?_ | refine wpU_casesT ?_ ?_ | refine wpU_casesF ?_ ?_
          all_goals intro hvc
          all_goals first | replace hvc := not_of_true hvc | replace hvc := not_of_false hvc | skip
          all_goals first | subst hvc | replace hvb := And.intro hvc hvb
          all_goals try simp only [hvb, e7, e0, e1, e5, e6, c1', c2', i0, hv, a1, a2, wd, w32, w48, u1, u2, ad1, ad2, ad3, j', hkv, b1, b2, wk, q1, q2, q3, q4, wz, hwr, List.length_map, Int.toNat_natCast, go_sem, V.s.injEq, Value.bool.injEq, ↓reduceIte, Nat.reduceEqDiff, Nat.reduceBEq, Nat.reduceAdd, Nat.reduceSub, Nat.reduceLT, Nat.reduceLeDiff, Int.reduceLT, Int.reduceLE, Int.reduceEq, Int.reduceToNat, List.append_assoc, List.length_append, Vm.get_app, Vm.set_app, Vm.get_appL, Vm.get_appL0, Vm.set_appL, Vm.set_appL0, Nat.le_refl, Nat.le_add_right, okAt])
        all_goals exact fin
      · have j' : ¬ (i : Int) < ks.length := by omega
        have hkk : kkS ks i = 0 := by simp [kkS, j]
        rw [hkk] at q1 q2 q3 q4 ad2
        have hvb : (0 : Nat) = 0 := rfl
        try simp only [e7, e0, e1, e5, e6, c1', c2', i0, hv, a1, a2, wd, w32, w48, u1, u2, ad1, ad2, ad3, j', q1, q2, q3, q4, wz, hwr, List.length_map, Int.toNat_natCast, go_sem, V.s.injEq, Value.bool.injEq, ↓reduceIte, Nat.reduceEqDiff, Nat.reduceBEq, Nat.reduceAdd, Nat.reduceSub, Nat.reduceLT, Nat.reduceLeDiff, Int.reduceLT, Int.reduceLE, Int.reduceEq, Int.reduceToNat, List.append_assoc, List.length_append, Vm.get_app, Vm.set_app, Vm.get_appL, Vm.get_appL0, Vm.set_appL, Vm.set_appL0, Nat.le_refl, Nat.le_add_right, okAt]
        repeat' (
          first | refine wpC_cases ?_ ?_ | refine wpU_casesT ?_ ?_ | refine wpU_casesF ?_ ?_
          all_goals intro hvc
          all_goals first | replace hvc := not_of_true hvc | replace hvc := not_of_false hvc | skip
          all_goals first | subst hvc | replace hvb := And.intro hvc hvb
          all_goals try simp only [hvb, e7, e0, e1, e5, e6, c1', c2', i0, hv, a1, a2, wd, w32, w48, u1, u2, ad1, ad2, ad3, j', q1, q2, q3, q4, wz, hwr, List.length_map, Int.toNat_natCast, go_sem, V.s.injEq, Value.bool.injEq, ↓reduceIte, Nat.reduceEqDiff, Nat.reduceBEq, Nat.reduceAdd, Nat.reduceSub, Nat.reduceLT, Nat.reduceLeDiff, Int.reduceLT, Int.reduceLE, Int.reduceEq, Int.reduceToNat, List.append_assoc, List.length_append, Vm.get_app, Vm.set_app, Vm.get_appL, Vm.get_appL0, Vm.set_appL, Vm.set_appL0, Nat.le_refl, Nat.le_add_right, okAt])
        all_goals exact fin
    · have : i = min l.length 14 := by omega
      by_cases c1 : (i : Int) < l.length
      · have c2 : ¬ (i : Int) < 14 := by omega
        have hvb : (0 : Nat) = 0 := rfl
        try simp only [e7, e0, e1, e5, e6, c1, c2, go_sem, V.s.injEq, Value.bool.injEq, ↓reduceIte, Nat.reduceEqDiff, Nat.reduceBEq, Nat.reduceAdd, Nat.reduceSub, Nat.reduceLT, Nat.reduceLeDiff, Int.reduceLT, Int.reduceLE, Int.reduceEq, Int.reduceToNat, List.append_assoc, List.length_append, Vm.get_app, Vm.set_app, Vm.get_appL, Vm.get_appL0, Vm.set_appL, Vm.set_appL0, Nat.le_refl, Nat.le_add_right, okAt]
        repeat' (
          first | refine wpC_cases ?_ ?_ | refine wpU_casesT ?_ ?_ | refine wpU_casesF ?_ ?_
          all_goals intro hvc
          all_goals first | replace hvc := not_of_true hvc | replace hvc := not_of_false hvc | skip
          all_goals first | subst hvc | replace hvb := And.intro hvc hvb
          all_goals try simp only [hvb, e7, e0, e1, e5, e6, c1, c2, go_sem, V.s.injEq, Value.bool.injEq, ↓reduceIte, Nat.reduceEqDiff, Nat.reduceBEq, Nat.reduceAdd, Nat.reduceSub, Nat.reduceLT, Nat.reduceLeDiff, Int.reduceLT, Int.reduceLE, Int.reduceEq, Int.reduceToNat, List.append_assoc, List.length_append, Vm.get_app, Vm.set_app, Vm.get_appL, Vm.get_appL0, Vm.set_appL, Vm.set_appL0, Nat.le_refl, Nat.le_add_right, okAt])
        all_goals (rw [← this]; exact ⟨rfl, rfl⟩)
      · have hvb : (0 : Nat) = 0 := rfl
        try simp only [e7, e0, e1, e5, e6, c1, go_sem, V.s.injEq, Value.bool.injEq, ↓reduceIte, Nat.reduceEqDiff, Nat.reduceBEq, Nat.reduceAdd, Nat.reduceSub, Nat.reduceLT, Nat.reduceLeDiff, Int.reduceLT, Int.reduceLE, Int.reduceEq, Int.reduceToNat, List.append_assoc, List.length_append, Vm.get_app, Vm.set_app, Vm.get_appL, Vm.get_appL0, Vm.set_appL, Vm.set_appL0, Nat.le_refl, Nat.le_add_right, okAt]
        repeat' (
          first | refine wpC_cases ?_ ?_ | refine wpU_casesT ?_ ?_ | refine wpU_casesF ?_ ?_
          all_goals intro hvc
          all_goals first | replace hvc := not_of_true hvc | replace hvc := not_of_false hvc | skip
          all_goals first | subst hvc | replace hvb := And.intro hvc hvb
          all_goals try simp only [hvb, e7, e0, e1, e5, e6, c1, go_sem, V.s.injEq, Value.bool.injEq, ↓reduceIte, Nat.reduceEqDiff, Nat.reduceBEq, Nat.reduceAdd, Nat.reduceSub, Nat.reduceLT, Nat.reduceLeDiff, Int.reduceLT, Int.reduceLE, Int.reduceEq, Int.reduceToNat, List.append_assoc, List.length_append, Vm.get_app, Vm.set_app, Vm.get_appL, Vm.get_appL0, Vm.set_appL, Vm.set_appL0, Nat.le_refl, Nat.le_add_right, okAt])
        all_goals (rw [← this]; exact ⟨rfl, rfl⟩)
  · rintro e H ⟨e0, e5, e6, rfl⟩
    have p1 := plain_len l (min l.length 14)
    have p2 := encL_len (plainS l (min l.length 14))
    have p3 := other_len l ks (min l.length 14)
    have p4 := encL_len (otherS l ks (min l.length 14))
    have h1 := fun b h => Normal_ok b h (encL (plainS l (min l.length 14))) (by omega)
    have h2 := fun b h => Normal_ok b h (encL (otherS l ks (min l.length 14))) (by omega)
    rw [normal_plain] at h1
    rw [normal_other] at h2
    have hmin : min (l.length : Int) 14 = ((min l.length 14 : Nat) : Int) := by omega
    have hpe := plain_enc l (min l.length 14)
    generalize min l.length 14 = n at *
    simp only [txt] at h1 h2
    by_cases c : 4 ≤ n ∧ n ≤ 12
    · rw [if_pos c] at h1 h2
      simp only [Option.getD_some, Option.isSome_some, ← hpe] at h1 h2
      have c1 : (4 : Int) ≤ n := by omega
      have c2 : (n : Int) ≤ 12 := by omega
      have hvb : (0 : Nat) = 0 := rfl
      try simp only [e0, e5, e6, h1, h2, hmin, c1, c2, hkn, List.length_map, go_sem, V.s.injEq, Value.bool.injEq, ↓reduceIte, Nat.reduceEqDiff, Nat.reduceBEq, Nat.reduceAdd, Nat.reduceSub, Nat.reduceLT, Nat.reduceLeDiff, Int.reduceLT, Int.reduceLE, Int.reduceEq, Int.reduceToNat, List.append_assoc, List.length_append, Vm.get_app, Vm.set_app, Vm.get_appL, Vm.get_appL0, Vm.set_appL, Vm.set_appL0, Nat.le_refl, Nat.le_add_right, okAt]
      repeat' (
        first | refine wpC_cases ?_ ?_ | refine wpU_casesT ?_ ?_ | refine wpU_casesF ?_ ?_
        all_goals intro hvc
        all_goals first | replace hvc := not_of_true hvc | replace hvc := not_of_false hvc | skip
        all_goals first | subst hvc | replace hvb := And.intro hvc hvb
        all_goals try simp only [hvb, e0, e5, e6, h1, h2, hmin, c1, c2, hkn, List.length_map, go_sem, V.s.injEq, Value.bool.injEq, ↓reduceIte, Nat.reduceEqDiff, Nat.reduceBEq, Nat.reduceAdd, Nat.reduceSub, Nat.reduceLT, Nat.reduceLeDiff, Int.reduceLT, Int.reduceLE, Int.reduceEq, Int.reduceToNat, List.append_assoc, List.length_append, Vm.get_app, Vm.set_app, Vm.get_appL, Vm.get_appL0, Vm.set_appL, Vm.set_appL0, Nat.le_refl, Nat.le_add_right, okAt])
    · rw [if_neg c] at h1 h2
      simp only [Option.getD_none, Option.isSome_none] at h1 h2
      by_cases c1 : (4 : Int) ≤ n
      · have c2 : ¬ (n : Int) ≤ 12 := by omega
        have hvb : (0 : Nat) = 0 := rfl
        try simp only [e0, e5, e6, h1, h2, hmin, c1, c2, hkn, List.length_map, go_sem, V.s.injEq, Value.bool.injEq, ↓reduceIte, Nat.reduceEqDiff, Nat.reduceBEq, Nat.reduceAdd, Nat.reduceSub, Nat.reduceLT, Nat.reduceLeDiff, Int.reduceLT, Int.reduceLE, Int.reduceEq, Int.reduceToNat, List.append_assoc, List.length_append, Vm.get_app, Vm.set_app, Vm.get_appL, Vm.get_appL0, Vm.set_appL, Vm.set_appL0, Nat.le_refl, Nat.le_add_right, okAt]
        repeat' (
          first | refine wpC_cases ?_ ?_ | refine wpU_casesT ?_ ?_ | refine wpU_casesF ?_ ?_
          all_goals intro hvc
          all_goals first | replace hvc := not_of_true hvc | replace hvc := not_of_false hvc | skip
          all_goals first | subst hvc | replace hvb := And.intro hvc hvb
          all_goals try simp only [hvb, e0, e5, e6, h1, h2, hmin, c1, c2, hkn, List.length_map, go_sem, V.s.injEq, Value.bool.injEq, ↓reduceIte, Nat.reduceEqDiff, Nat.reduceBEq, Nat.reduceAdd, Nat.reduceSub, Nat.reduceLT, Nat.reduceLeDiff, Int.reduceLT, Int.reduceLE, Int.reduceEq, Int.reduceToNat, List.append_assoc, List.length_append, Vm.get_app, Vm.set_app, Vm.get_appL, Vm.get_appL0, Vm.set_appL, Vm.set_appL0, Nat.le_refl, Nat.le_add_right, okAt])
      · have hvb : (0 : Nat) = 0 := rfl
        try simp only [e0, e5, e6, h1, h2, hmin, c1, hkn, List.length_map, go_sem, V.s.injEq, Value.bool.injEq, ↓reduceIte, Nat.reduceEqDiff, Nat.reduceBEq, Nat.reduceAdd, Nat.reduceSub, Nat.reduceLT, Nat.reduceLeDiff, Int.reduceLT, Int.reduceLE, Int.reduceEq, Int.reduceToNat, List.append_assoc, List.length_append, Vm.get_app, Vm.set_app, Vm.get_appL, Vm.get_appL0, Vm.set_appL, Vm.set_appL0, Nat.le_refl, Nat.le_add_right, okAt]
        repeat' (
          first | refine wpC_cases ?_ ?_ | refine wpU_casesT ?_ ?_ | refine wpU_casesF ?_ ?_
          all_goals intro hvc
          all_goals first | replace hvc := not_of_true hvc | replace hvc := not_of_false hvc | skip
          all_goals first | subst hvc | replace hvb := And.intro hvc hvb
          all_goals try simp only [hvb, e0, e5, e6, h1, h2, hmin, c1, hkn, List.length_map, go_sem, V.s.injEq, Value.bool.injEq, ↓reduceIte, Nat.reduceEqDiff, Nat.reduceBEq, Nat.reduceAdd, Nat.reduceSub, Nat.reduceLT, Nat.reduceLeDiff, Int.reduceLT, Int.reduceLE, Int.reduceEq, Int.reduceToNat, List.append_assoc, List.length_append, Vm.get_app, Vm.set_app, Vm.get_appL, Vm.get_appL0, Vm.set_appL, Vm.set_appL0, Nat.le_refl, Nat.le_add_right, okAt])
end Go.Proofs.Ytdhgcdkinehomaa
