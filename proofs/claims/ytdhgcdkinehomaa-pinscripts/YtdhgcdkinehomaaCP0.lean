/- What is known otherwise; rows of signs. Conditions: none. -/
import Derived.Test.YtdhgcdkinehomaaCT
import Derived.Test.YtdhgcdkinehomaaCMP
namespace Go.Vm
set_option linter.unusedSimpArgs false
theorem XR.set {h : Hp} {g : Option Nat} {k j : Nat} {x : V} {vs : List V} (hl : XR h g k x vs) (hj : j ≠ k) (b : Blk) : XR (h.set j b) g k x vs := by
  rcases hl with h1 | ⟨h1, h2⟩
  · exact .inl h1
  · exact .inr ⟨h1, by rw [List.getElem?_set_ne hj]; exact h2⟩
/-- A step of a loop over a text's signs that appends. -/
theorem XR.put {h H : Hp} {k : Nat} {x : V} {vs : List V} {bytes : Nat} {z : V} {b : Blk} (xr : XR H none k x vs) (hk : h.length < k) (fw : Fw [] h H) (hz : z.ground = true) (hb : (vs.length + 1) * bytes ≤ 140737488355328) (hl : h.length < H.length) :
    ∃ x' H' k', (∀ cf base, opV cf base (H.set h.length b ++ [.cells none [z]]) (.app none bytes) [x, .ref H.length [] none 0 1 1] = some (x', H')) ∧ XR H' none k' x' (vs ++ [z]) ∧ Fw [] h H' ∧ h.length < k' ∧ H'[h.length]? = some b := by
  have hi : (H.set h.length b)[h.length]? = some b := by simp [hl]
  obtain ⟨x', H', k', h1, h2, h3, h4, h5⟩ := (xr.set (j := h.length) (by omega) b).app1 (h := h) (T := [.cells none [z]]) (idy := H.length) (z := z) (bytes := bytes) (by omega) (fw.set_new (Nat.le_refl _) _) (by rw [List.getElem?_append_right (by simp)]; simp) hz hb
  refine ⟨x', H', k', h1, h2, h3, ?_, h5 _ _ (by omega) (get_old hi _)⟩
  rw [List.length_set] at h4
  omega
theorem XR.frz {H : Hp} {g : Option Nat} {k n : Nat} {x : V} {vs : List V} (hl : XR H g k x vs) (hk : n ≤ k) (hp : V.plain.all vs = true) : frzV n H x = some (.imm false g vs) := by
  rcases hl with ⟨rfl, rfl⟩ | ⟨rfl, h1⟩
  · rfl
  · have h4 : rowOf H k vs.length = some (g, vs) := by simp [rowOf, h1]
    have h5 : ¬ k < n := by omega
    simp only [frz_refE, h5, if_false, h4, frzW, List.drop_zero, List.take_length, Nat.zero_add, Nat.le_refl, low_plains n hp, and_self, if_true]
theorem XR.els {h : Hp} {g : Option Nat} {k : Nat} {x : V} {vs : List V} (hl : XR h g k x vs) : elems h x = some (g, vs) := by
  rcases hl with ⟨rfl, rfl⟩ | ⟨rfl, h1⟩
  · rfl
  · simp only [elems_refR, Vm.rowAt, rowOf, h1, and_self, if_true, elR_some, List.drop_zero, List.take_length, beq_self_eq_true]
    try simp [elR]
theorem XR.SR {h : Hp} {g : Option Nat} {k : Nat} {x : V} {vs : List V} (hl : XR h g k x vs) : SR h x g vs := by
  rcases hl with ⟨rfl, rfl⟩ | ⟨rfl, h1⟩
  · exact .inl ⟨_, rfl⟩
  · exact .inr ⟨k, 0, vs.length, vs, rfl, h1, rfl, by simp, by simp⟩
end Go.Vm
namespace Go.Proofs.Ytdhgcdkinehomaa
open Go Go.Vm Go.Proofs Go.Cl
set_option linter.unusedSimpArgs false
set_option linter.unusedVariables false
/-- strings.Repeat. -/
def repV : List V → Hp → Option (V × Hp)
  | [.s (.string s), .s (.int .i64 c)], h => if 0 ≤ c ∧ c ≤ 9223372036854775807 ∧ s.size * c.toNat ≤ 140737488355328 then some (.s (.string ⟨(Lib.repeatL s.data.toList c.toNat).toArray⟩), h) else none
  | _, _ => none
/-- What is known otherwise. -/
def pr : CF := fun f vs h => match f with
  | 63 => repV vs h
  | _ => none
/-- A text. -/
def txt (l : Bs) : V := .s (.string ⟨l.toArray⟩)
def runeV (n : Int) : V := .s (.int .i32 n)
theorem txt_size (l : Bs) : (ByteArray.mk l.toArray).size = l.length := rfl
theorem txt_inj (a b : Bs) : (decide ((ByteArray.mk a.toArray) = (ByteArray.mk b.toArray))) = decide (a = b) := by
  rw [decide_eq_decide]; simp
theorem txt_add (a b : Bs) : (ByteArray.mk a.toArray) ++ (ByteArray.mk b.toArray) = ByteArray.mk (a ++ b).toArray := by
  apply ByteArray.ext; simp
theorem txt_cut (l : Bs) (a b : Nat) : (ByteArray.mk l.toArray).extract a b = ByteArray.mk ((l.take b).drop a).toArray := by
  apply ByteArray.ext
  simp [ByteArray.data_extract, List.drop_take]
theorem o_saddT {cf : CF} {base : Nat} {h : Hp} (a b : Bs) (hl : a.length + b.length ≤ 1000000000) : opV cf base h (.bin .num .add) [.s (.string ⟨a.toArray⟩), .s (.string ⟨b.toArray⟩)] = some (.s (.string ⟨(a ++ b).toArray⟩), h) := by
  rw [o_sadd, txt_add]
  show a.length + b.length ≤ _
  omega
theorem rep_ok (b : Nat) (h : Hp) (l : Bs) (c : Int) (h0 : 0 ≤ c) (h1 : c ≤ 1000000000) (h2 : l.length ≤ 1000) : run fns pr b 63 [.s (.string ⟨l.toArray⟩), .s (.int .i64 c)] h = some (.s (.string ⟨(Lib.repeatL l c.toNat).toArray⟩), h) := by
  rw [run_pr fns pr rfl]
  have h3 : c ≤ 9223372036854775807 := by omega
  have h4 : l.length * c.toNat ≤ 140737488355328 := by
    have h5 : c.toNat ≤ 1000000000 := by omega
    calc l.length * c.toNat ≤ 1000 * 1000000000 := Nat.mul_le_mul h2 h5
      _ ≤ _ := by omega
  have h6 : (ByteArray.mk l.toArray).size * c.toNat ≤ 140737488355328 := h4
  have : repV [.s (.string ⟨l.toArray⟩), .s (.int .i64 c)] h = some (.s (.string ⟨(Lib.repeatL l c.toNat).toArray⟩), h) := by
    simp only [repV, h0, h3, h6, and_self, if_true]
  exact this
theorem signsOf_map : ∀ l : List Int, signsOf (l.map runeV) = some l
  | [] => rfl
  | r :: l => by
    have ih := signsOf_map l
    rw [List.map_cons]
    show (signsOf (l.map runeV)).map (r :: ·) = _
    rw [ih]; rfl
theorem o_r2sE {cf : CF} {base : Nat} {h : Hp} {x : V} {g : Option Nat} {l : List Int} (hx : elems h x = some (g, l.map runeV)) : opV cf base h (.r2s false) [x] = some (.s (.string ⟨(encL l).toArray⟩), h) := by
  simp only [opV, opR2s, hx, Option.bind_some, signsOf_map, okI, runesBytes_eq, Bool.false_eq_true, if_false]
theorem o_r2s1 {cf : CF} {base : Nat} {h : Hp} (n : Int) : opV cf base h (.r2s true) [.s (.int .i32 n)] = some (.s (.string ⟨(enc1 n).toArray⟩), h) := by
  simp only [opV, opR2s, okI, if_true, encode_eq]
theorem runes_plain (l : List Int) : V.plain.all (l.map runeV) = true := by
  induction l with
  | nil => rfl
  | cons a l ih => simp only [List.map_cons, V.plain.all, ih]; rfl
theorem bytes_plain (l : Bs) : V.plain.all (l.map byteV) = true := by
  induction l with
  | nil => rfl
  | cons a l ih => simp only [List.map_cons, V.plain.all, ih]; rfl
theorem wrap_small {n : Nat} (h : n < 4611686018427387904) : IntKind.i64.wrap ((n : Int) + 1) = ((n + 1 : Nat) : Int) := by
  rw [wrap_i64 (by omega) (by omega)]; omega

/-- Which digit a sign is. -/
theorem digit_ok (b : Nat) (h : Hp) (r : Int) (h0 : -2147483648 ≤ r) (h1 : r ≤ 2147483647) : run fns pr b 61 [.s (.int .i32 r)] h = some (.tup [.s (.int .u8 ((digN r).getD 0)), .s (.bool (digN r).isSome)], h) := by
  refine Vm.runP (nt := 27) rfl fit61 (by simp) ?_
  have hvb : (0 : Nat) = 0 := rfl
  try simp only [B61, B61R0, B61L0, go_sem, V.s.injEq, Value.bool.injEq, ↓reduceIte, Nat.reduceEqDiff, Nat.reduceBEq, Nat.reduceAdd, Nat.reduceSub, Nat.reduceLT, Nat.reduceLeDiff, Int.reduceLT, Int.reduceLE, Int.reduceEq, Int.reduceToNat, List.append_assoc, List.length_append, Vm.get_app, Vm.set_app, Vm.get_appL, Vm.get_appL0, Vm.set_appL, Vm.set_appL0, Nat.le_refl, Nat.le_add_right, okAt]
  repeat' (
    first | refine wpC_cases ?_ ?_ | refine wpU_casesT ?_ ?_ | refine wpU_casesF ?_ ?_
    all_goals intro hvc
    all_goals first | replace hvc := not_of_true hvc | replace hvc := not_of_false hvc | skip
    all_goals first | subst hvc | replace hvb := And.intro hvc hvb
    all_goals try simp only [hvb, B61, B61R0, B61L0, go_sem, V.s.injEq, Value.bool.injEq, ↓reduceIte, Nat.reduceEqDiff, Nat.reduceBEq, Nat.reduceAdd, Nat.reduceSub, Nat.reduceLT, Nat.reduceLeDiff, Int.reduceLT, Int.reduceLE, Int.reduceEq, Int.reduceToNat, List.append_assoc, List.length_append, Vm.get_app, Vm.set_app, Vm.get_appL, Vm.get_appL0, Vm.set_appL, Vm.set_appL0, Nat.le_refl, Nat.le_add_right, okAt])
  have hs : ∀ z : Int, z = 48 ∨ z = 65296 ∨ z = 1632 ∨ z = 1776 → z ≤ r → r ≤ z + 9 → IntKind.i32.wrap (48 + r) = 48 + r ∧ IntKind.i32.wrap (48 + r - z) = 48 + r - z ∧ IntKind.u8.wrap (48 + r - z) = 48 + r - z ∧ digN r = some (48 + r - z) := by
    intro z hz h2 h3
    refine ⟨wrap_i32 (by omega) (by omega), wrap_i32 (by omega) (by omega), wrap_u8 (by omega) (by omega), ?_⟩
    unfold digN
    rcases hz with rfl | rfl | rfl | rfl
    · rw [if_pos (by omega)]; congr 1; omega
    · rw [if_neg (by omega), if_pos (by omega)]; congr 1; omega
    · rw [if_neg (by omega), if_neg (by omega), if_pos (by omega)]; congr 1; omega
    · rw [if_neg (by omega), if_neg (by omega), if_neg (by omega), if_pos (by omega)]; congr 1; omega
  have hw : ∀ z : Int, z = 48 ∨ z = 65296 ∨ z = 1632 ∨ z = 1776 → IntKind.i32.wrap (z + 9) = z + 9 := fun z hz => wrap_i32 (by omega) (by omega)
  refine wp_for (fun m e H => ∃ i : Nat, m = 4 - i ∧ i ≤ 4 ∧ e 8 = .s (.int .i64 i) ∧ e 0 = .s (.int .i32 r) ∧ e 6 = .ref h.length [] none 0 4 4 ∧ e 7 = .s (.int .i64 4) ∧ H = h ++ [.cells none [.s (.int .i32 48), .s (.int .i32 65296), .s (.int .i32 1632), .s (.int .i32 1776)]] ∧
      (∀ j, j < i → ¬ (([48, 65296, 1632, 1776] : List Int).getD j 0 ≤ r ∧ r ≤ ([48, 65296, 1632, 1776] : List Int).getD j 0 + 9)))
    (fun e H => H = h ++ [.cells none [.s (.int .i32 48), .s (.int .i32 65296), .s (.int .i32 1632), .s (.int .i32 1776)]] ∧ digN r = none)
    4 _ _ ⟨0, by omega, by omega, rfl, rfl, rfl, rfl, rfl, fun j hj => absurd hj (by omega)⟩ ?_ ?_
  · rintro m e H ⟨i, rfl, hi, e8, e0, e6, e7, rfl, hn⟩
    have step : ∀ (z : Int), z = 48 ∨ z = 65296 ∨ z = 1632 ∨ z = 1776 → i < 4 → ([48, 65296, 1632, 1776] : List Int).getD i 0 = z → ¬ (z ≤ r ∧ r ≤ z + 9) → (4 - (i + 1) < 4 - i ∧ ∀ j, j < i + 1 → ¬ (([48, 65296, 1632, 1776] : List Int).getD j 0 ≤ r ∧ r ≤ ([48, 65296, 1632, 1776] : List Int).getD j 0 + 9)) := by
      intro z _ hi4 hz hb
      refine ⟨by omega, fun j hj => ?_⟩
      by_cases hji : j = i
      · subst hji; rw [hz]; exact hb
      · exact hn j (by omega)
    have hcase : i = 4 ∨ ∃ z : Int, (z = 48 ∨ z = 65296 ∨ z = 1632 ∨ z = 1776) ∧ i < 4 ∧ ([48, 65296, 1632, 1776] : List Int).getD i 0 = z ∧ ([.s (.int .i32 48), .s (.int .i32 65296), .s (.int .i32 1632), .s (.int .i32 1776)] : List V)[i]? = some (.s (.int .i32 z)) := by
      rcases Nat.lt_or_ge i 4 with hi4 | hi4
      · right
        match i, hi4 with
        | 0, _ => exact ⟨48, by simp, by omega, rfl, rfl⟩
        | 1, _ => exact ⟨65296, by simp, by omega, rfl, rfl⟩
        | 2, _ => exact ⟨1632, by simp, by omega, rfl, rfl⟩
        | 3, _ => exact ⟨1776, by simp, by omega, rfl, rfl⟩
      · left; omega
    rcases hcase with rfl | ⟨z, hz, hi4, hg, hv⟩
    · have e8 : e 8 = .s (.int .i64 4) := e8
      have hvb : (0 : Nat) = 0 := rfl
      try simp only [e8, e0, e6, e7, go_sem, V.s.injEq, Value.bool.injEq, ↓reduceIte, Nat.reduceEqDiff, Nat.reduceBEq, Nat.reduceAdd, Nat.reduceSub, Nat.reduceLT, Nat.reduceLeDiff, Int.reduceLT, Int.reduceLE, Int.reduceEq, Int.reduceToNat, List.append_assoc, List.length_append, Vm.get_app, Vm.set_app, Vm.get_appL, Vm.get_appL0, Vm.set_appL, Vm.set_appL0, Nat.le_refl, Nat.le_add_right, okAt]
      repeat' (
        first | refine wpC_cases ?_ ?_ | refine wpU_casesT ?_ ?_ | refine wpU_casesF ?_ ?_
        all_goals intro hvc
        all_goals first | replace hvc := not_of_true hvc | replace hvc := not_of_false hvc | skip
        all_goals first | subst hvc | replace hvb := And.intro hvc hvb
        all_goals try simp only [hvb, e8, e0, e6, e7, go_sem, V.s.injEq, Value.bool.injEq, ↓reduceIte, Nat.reduceEqDiff, Nat.reduceBEq, Nat.reduceAdd, Nat.reduceSub, Nat.reduceLT, Nat.reduceLeDiff, Int.reduceLT, Int.reduceLE, Int.reduceEq, Int.reduceToNat, List.append_assoc, List.length_append, Vm.get_app, Vm.set_app, Vm.get_appL, Vm.get_appL0, Vm.set_appL, Vm.set_appL0, Nat.le_refl, Nat.le_add_right, okAt])
      have n0 := hn 0 (by omega); have n1 := hn 1 (by omega); have n2 := hn 2 (by omega); have n3 := hn 3 (by omega)
      simp only [List.getD_cons_zero, List.getD_cons_succ] at n0 n1 n2 n3
      unfold digN
      rw [if_neg (by omega), if_neg (by omega), if_neg (by omega), if_neg (by omega)]
    · have c' : (i : Int) < 4 := by omega
      have c'' : (i : Int) < ((4 : Nat) : Int) := by omega
      have i0 : (0 : Int) ≤ i := by omega
      have hwz := hw z hz
      have hwr : IntKind.i64.wrap ((i : Int) + 1) = ((i + 1 : Nat) : Int) := Go.Proofs.Ytdhgcdkinehomaa.wrap_small (by omega)
      by_cases c : z ≤ r ∧ r ≤ z + 9
      · obtain ⟨w1, w2, w3, hd⟩ := hs z hz c.1 c.2
        have c1 := c.1; have c2 := c.2
        have hvb : (0 : Nat) = 0 := rfl
        try simp only [e8, e0, e6, e7, c', c'', hi4, i0, hv, hwz, c1, c2, w1, w2, w3, hd, Int.toNat_natCast, go_sem, V.s.injEq, Value.bool.injEq, ↓reduceIte, Nat.reduceEqDiff, Nat.reduceBEq, Nat.reduceAdd, Nat.reduceSub, Nat.reduceLT, Nat.reduceLeDiff, Int.reduceLT, Int.reduceLE, Int.reduceEq, Int.reduceToNat, List.append_assoc, List.length_append, Vm.get_app, Vm.set_app, Vm.get_appL, Vm.get_appL0, Vm.set_appL, Vm.set_appL0, Nat.le_refl, Nat.le_add_right, okAt]
        repeat' (
          first | refine wpC_cases ?_ ?_ | refine wpU_casesT ?_ ?_ | refine wpU_casesF ?_ ?_
          all_goals intro hvc
          all_goals first | replace hvc := not_of_true hvc | replace hvc := not_of_false hvc | skip
          all_goals first | subst hvc | replace hvb := And.intro hvc hvb
          all_goals try simp only [hvb, e8, e0, e6, e7, c', c'', hi4, i0, hv, hwz, c1, c2, w1, w2, w3, hd, Int.toNat_natCast, go_sem, V.s.injEq, Value.bool.injEq, ↓reduceIte, Nat.reduceEqDiff, Nat.reduceBEq, Nat.reduceAdd, Nat.reduceSub, Nat.reduceLT, Nat.reduceLeDiff, Int.reduceLT, Int.reduceLE, Int.reduceEq, Int.reduceToNat, List.append_assoc, List.length_append, Vm.get_app, Vm.set_app, Vm.get_appL, Vm.get_appL0, Vm.set_appL, Vm.set_appL0, Nat.le_refl, Nat.le_add_right, okAt])
        all_goals simp only [hd, Option.getD_some, Option.isSome_some, w1, w2, w3, and_self]
      · have hst := step z hz hi4 hg c
        have hvb : (0 : Nat) = 0 := rfl
        try simp only [e8, e0, e6, e7, c', c'', hi4, i0, hv, hwz, hwr, Int.toNat_natCast, go_sem, V.s.injEq, Value.bool.injEq, ↓reduceIte, Nat.reduceEqDiff, Nat.reduceBEq, Nat.reduceAdd, Nat.reduceSub, Nat.reduceLT, Nat.reduceLeDiff, Int.reduceLT, Int.reduceLE, Int.reduceEq, Int.reduceToNat, List.append_assoc, List.length_append, Vm.get_app, Vm.set_app, Vm.get_appL, Vm.get_appL0, Vm.set_appL, Vm.set_appL0, Nat.le_refl, Nat.le_add_right, okAt]
        repeat' (
          first | refine wpC_cases ?_ ?_ | refine wpU_casesT ?_ ?_ | refine wpU_casesF ?_ ?_
          all_goals intro hvc
          all_goals first | replace hvc := not_of_true hvc | replace hvc := not_of_false hvc | skip
          all_goals first | subst hvc | replace hvb := And.intro hvc hvb
          all_goals try simp only [hvb, e8, e0, e6, e7, c', c'', hi4, i0, hv, hwz, hwr, Int.toNat_natCast, go_sem, V.s.injEq, Value.bool.injEq, ↓reduceIte, Nat.reduceEqDiff, Nat.reduceBEq, Nat.reduceAdd, Nat.reduceSub, Nat.reduceLT, Nat.reduceLeDiff, Int.reduceLT, Int.reduceLE, Int.reduceEq, Int.reduceToNat, List.append_assoc, List.length_append, Vm.get_app, Vm.set_app, Vm.get_appL, Vm.get_appL0, Vm.set_appL, Vm.set_appL0, Nat.le_refl, Nat.le_add_right, okAt])
        all_goals first | exact ⟨4 - (i + 1), hst.1, i + 1, rfl, by omega, rfl, hst.2⟩ | (exfalso; simp only [decide_eq_true_eq] at hvb; omega)
  · rintro e H ⟨rfl, hd⟩
    have hvb : (0 : Nat) = 0 := rfl
    try simp only [hd, go_sem, V.s.injEq, Value.bool.injEq, ↓reduceIte, Nat.reduceEqDiff, Nat.reduceBEq, Nat.reduceAdd, Nat.reduceSub, Nat.reduceLT, Nat.reduceLeDiff, Int.reduceLT, Int.reduceLE, Int.reduceEq, Int.reduceToNat, List.append_assoc, List.length_append, Vm.get_app, Vm.set_app, Vm.get_appL, Vm.get_appL0, Vm.set_appL, Vm.set_appL0, Nat.le_refl, Nat.le_add_right, okAt]
    repeat' (
      first | refine wpC_cases ?_ ?_ | refine wpU_casesT ?_ ?_ | refine wpU_casesF ?_ ?_
      all_goals intro hvc
      all_goals first | replace hvc := not_of_true hvc | replace hvc := not_of_false hvc | skip
      all_goals first | subst hvc | replace hvb := And.intro hvc hvb
      all_goals try simp only [hvb, hd, go_sem, V.s.injEq, Value.bool.injEq, ↓reduceIte, Nat.reduceEqDiff, Nat.reduceBEq, Nat.reduceAdd, Nat.reduceSub, Nat.reduceLT, Nat.reduceLeDiff, Int.reduceLT, Int.reduceLE, Int.reduceEq, Int.reduceToNat, List.append_assoc, List.length_append, Vm.get_app, Vm.set_app, Vm.get_appL, Vm.get_appL0, Vm.set_appL, Vm.set_appL0, Nat.le_refl, Nat.le_add_right, okAt])
    all_goals simp only [hd, Option.getD_none, Option.isSome_none, and_self]
end Go.Proofs.Ytdhgcdkinehomaa
