/- TableOrder: its run. Conditions: none. -/
import Derived.Test.YtfhmclgnfabdfaaCS12K
import Derived.Test.YtfhmclgnfabdfaaCM23
import Derived.Test.YtfhmclgnfabdfaaCS12F
import Derived.Test.YtfhmclgnfabdfaaCVc
namespace Go.Proofs.Ytfhmclgnfabdfaa
open Go Go.Vm Go.Proofs Go.Cl
set_option linter.unusedSimpArgs false
set_option linter.unusedVariables false
set_option maxRecDepth 100000
theorem and3 (x : Int) : ∃ j : Nat, j < 4 ∧ IntKind.u8.wrap (andI .i64 x 3) = (j : Nat) := by
  have h : (BitVec.ofInt 64 x &&& BitVec.ofInt 64 3).toNat ≤ 3 := by
    rw [BitVec.toNat_and]; exact Nat.and_le_right
  refine ⟨_, Nat.lt_succ_of_le h, ?_⟩
  show IntKind.u8.wrap (IntKind.i64.wrap ((BitVec.ofInt 64 x &&& BitVec.ofInt 64 3).toNat : Nat)) = _
  rw [wrap_i64 (by omega) (by omega), wrap_u8 (by omega) (by omega)]
def idj (j : Nat) : Bs := [UInt8.ofNat j, 0, 0, 0]
theorem idj_v (t : Nat) {j : Nat} (h : j < 4) : V.arr t [.s (.int .u8 (j : Nat)), .s (.int .u8 0), .s (.int .u8 0), .s (.int .u8 0)] = .arr t ((idj j).map byteV) := by
  have : (UInt8.ofNat j).toNat = j := by rw [UInt8.toNat_ofNat']; omega
  simp only [idj, List.map_cons, List.map_nil, byteV, this]; rfl
abbrev mkI : Bs → V := fun id => .arr 23 (id.map byteV)
theorem mkI_ok : KeyR (some (23, .u8)) mkI := KeyR.bytes _
/-- A map of vaults that has just a table's. -/
def MV (B : Blk) (L : List Vault) : Prop := ∃ l cl, B = .map (entV mkI l) cl ∧ bornL l cl ∧ l.length = L.length ∧ ∀ id, getL l id = (getT L id).map Vault.enc
theorem MV.nil : MV (.map [] 0) [] := ⟨[], 0, rfl, ⟨by simp, fun e he => by cases he⟩, rfl, fun id => rfl⟩
theorem MV.at {B : Blk} {L : List Vault} (hm : MV B L) {h : Hp} {m : Nat} (hh : h[m]? = some B) : MapIs (some (23, .u8)) mkI h m fun id => (getT L id).map Vault.enc := by
  obtain ⟨l, cl, rfl, h1, h2, h3⟩ := hm
  exact ⟨mkI_ok, l, cl, hh, h1, fun a => (h3 a).symm⟩
theorem setL_len (a : Bs) (v : V) (n : Nat) : ∀ l : Ent Bs, (setL a v l n).length = if getL l a = none then l.length + 1 else l.length
  | [] => rfl
  | e :: l => by
    have ih := setL_len a v n l
    simp only [setL, getL]
    by_cases c : a = e.1
    · simp [c]
    · simp only [c, if_false, List.length_cons, ih]
      split <;> rfl
theorem MV.put {B : Blk} {L L' : List Vault} {v : Vault} (hm : MV B L) (hg : ∀ id, getT L' id = if id = v.iD then some v else getT L id) (hl : L'.length = if getT L v.iD = none then L.length + 1 else L.length) :
    ∃ B', MV B' L' ∧ ∀ (cf : CF) (base : Nat) (h : Hp) (m : Nat), h[m]? = some B → opV cf base h (.mup (some (23, .u8)) (some 29)) [.mp m, mkI v.iD, v.enc] = some (.tup [], h.set m B') := by
  obtain ⟨l, cl, rfl, h1, h2, h3⟩ := hm
  have hb := h1.set v.iD v.enc
  have hs := set_L (mk := mkI) v.iD v.enc cl l 0
  have hmp : ∀ base m, mayPut base m v.enc = true := fun base m => by simp [mayPut, enc_ground]
  have hlen : (setL v.iD v.enc l cl).length = L'.length := by
    rw [setL_len, hl, h3, h2]
    cases getT L v.iD <;> rfl
  refine ⟨.map (entV mkI (setL v.iD v.enc l cl)) (match idxL v.iD l 0 with | some _ => cl | none => cl + 1), ⟨_, _, rfl, hb, hlen, fun id => ?_⟩, fun cf base h m hh => ?_⟩
  · rw [getL_set, hg, h3]
    split <;> rfl
  · rw [o_mup]
    have e1 : v.enc.solid = true := rfl
    have e2 : decide (v.enc.ty = some 29) = true := rfl
    simp only [opMup, hmp, mkI_ok.gr, e1, e2, Bool.and_self, if_true, hh, findK_L mkI_ok, Option.map_some]
    cases hx : idxL v.iD l 0 with
    | none => rw [hx] at hs; simp only at hs ⊢; rw [hs]
    | some q =>
      obtain ⟨j, u, b⟩ := q
      rw [hx] at hs; simp only [Nat.sub_zero] at hs ⊢; rw [hs.2]
theorem o_mln (cf : CF) (base : Nat) (h : Hp) (x : V) : opV cf base h .mln [x] = opMln h x := rfl
theorem MV.len {B : Blk} {L : List Vault} (hm : MV B L) (cf : CF) (base : Nat) {h : Hp} {m : Nat} (hh : h[m]? = some B) : opV cf base h .mln [.mp m] = some (.s (.int .i64 (L.length : Nat)), h) := by
  obtain ⟨l, cl, rfl, h1, h2, h3⟩ := hm
  rw [o_mln]
  simp only [opMln, hh, entV, List.length_map, h2]
structure OkL (L : List Vault) : Prop where
  rise : Rise L
  all : ∀ w ∈ L, rightV w = true ∧ ∃ j, j < 4 ∧ w.iD = idj j
theorem idj_mem {j : Nat} (h : j < 4) : idj j ∈ [idj 0, idj 1, idj 2, idj 3] := by
  have : j = 0 ∨ j = 1 ∨ j = 2 ∨ j = 3 := by omega
  rcases this with rfl | rfl | rfl | rfl <;> simp
theorem OkL.len {L : List Vault} (h : OkL L) : L.length ≤ 4 := by
  have := len_le (m := [idj 0, idj 1, idj 2, idj 3]) (Rise_nodup h.rise) fun x hx => by
    obtain ⟨w, hw, rfl⟩ := List.mem_map.1 hx
    obtain ⟨j, hj, he⟩ := (h.all w hw).2
    rw [he]; exact idj_mem hj
  simpa using this
theorem OkL.put {L : List Vault} {v : Vault} (h : OkL L) (hv : rightV v = true) {j : Nat} (hj : j < 4) (hi : v.iD = idj j) :
    (putT L v).1 = 0 ∧ OkL (putT L v).2 ∧ (∀ id, getT (putT L v).2 id = if id = v.iD then some v else getT L id) ∧ (putT L v).2.length = if getT L v.iD = none then L.length + 1 else L.length := by
  have hroom : getT L v.iD = none → L.length < 4 := fun hn => by
    have h1 := (getT_none_iff h.rise v.iD).1 hn
    have := len_le (l := v.iD :: L.map Vault.iD) (m := [idj 0, idj 1, idj 2, idj 3]) (List.nodup_cons.2 ⟨fun hm => by obtain ⟨w, hw, he⟩ := List.mem_map.1 hm; exact h1 w hw he, Rise_nodup h.rise⟩) fun x hx => by
      rcases List.mem_cons.1 hx with rfl | hx
      · rw [hi]; exact idj_mem hj
      · obtain ⟨w, hw, rfl⟩ := List.mem_map.1 hx
        obtain ⟨j, hj, he⟩ := (h.all w hw).2
        rw [he]; exact idj_mem hj
    simp at this; omega
  have hp := putT_right h.rise hv hroom
  have hr : Rise (putT L v).2 := by rw [hp]; exact place_rise h.rise v
  refine ⟨?_, ⟨hr, ?_⟩, fun id => ?_, ?_⟩
  · unfold putT
    rw [if_neg (by simp [hv])]
    split
    · rfl
    · rename_i hc
      have : getT L v.iD = none := by unfold getT; rw [if_neg hc]
      rw [if_neg (by have := hroom this; omega)]
  · intro w hw
    rw [hp] at hw
    rcases (placed_mem v w).1 hw with rfl | ⟨hw, _⟩
    · exact ⟨hv, j, hj, hi⟩
    · exact h.all w hw
  · by_cases he : id = v.iD
    · rw [if_pos he, he]
      exact getT_mem hr (by rw [hp]; exact (placed_mem v v).2 (.inl rfl))
    · rw [if_neg he]
      cases hg : getT L id with
      | none =>
        rw [getT_none_iff hr]
        intro w hw hwi
        rw [hp] at hw
        rcases (placed_mem v w).1 hw with rfl | ⟨hw, _⟩
        · exact he hwi.symm
        · exact (getT_none_iff h.rise id).1 hg w hw hwi
      | some w =>
        obtain ⟨h1, h2⟩ := getT_id hg
        subst h1
        exact getT_mem hr (by rw [hp]; exact (placed_mem v w).2 (.inr ⟨h2, he⟩))
  · unfold putT
    rw [if_neg (by simp [hv])]
    unfold getT at hroom ⊢
    by_cases hc : (L[pos L v.iD]?).map Vault.iD = some v.iD
    · rw [if_pos hc, if_pos hc]
      cases hx : L[pos L v.iD]? with
      | none => rw [hx] at hc; cases hc
      | some w => simp
    · rw [if_neg hc] at hroom
      have := hroom rfl
      rw [if_neg hc, if_neg hc, if_neg (by omega)]
      have : (L.take (pos L v.iD) ++ L.drop (pos L v.iD)).length = L.length := by rw [List.take_append_drop]
      simp at this ⊢; omega
theorem TR.setM {h : Hp} {t k : Nat} {l : List Vault} (ho : TR h t k l) {m : Nat} (B : Blk) (h1 : m ≠ t) (h2 : m ≠ k) : TR (h.set m B) t k l := by
  obtain ⟨x, a, c⟩ := ho
  refine ⟨x, by rw [List.getElem?_set_ne h1]; exact a, ?_⟩
  rcases c with c | ⟨c1, c2, c3⟩
  · exact .inl c
  · exact .inr ⟨c1, c2, by rw [List.getElem?_set_ne h2]; exact c3⟩
theorem KV_ty (x : KV) : x.enc.ty = some 51 := rfl
theorem o_sgeq_cmp (a b : Bs) (cf : CF) (base : Nat) (h : Hp) : opV cf base h (.bin .num .geq) [.s (.string ⟨a.toArray⟩), .s (.string ⟨b.toArray⟩)] = some (.s (.bool (!decide (cmpB a b < 0))), h) := by
  have : opV cf base h (.bin .num .geq) [.s (.string ⟨a.toArray⟩), .s (.string ⟨b.toArray⟩)] = some (.s (.bool !(Op.bytesLess (ByteArray.mk a.toArray).toList (ByteArray.mk b.toArray).toList)), h) := rfl
  rw [this, toList_mk, toList_mk, less_cmp]
theorem TableOrder_run (ids : List Int) (l : List KV) (hi : ids.length ≤ 140737488351232) (hl : l.length ≤ 140737488351232) (hb : ∀ x ∈ l, x.wf) :
    run fns pr 0 4 [.imm false none (ids.map fun z => V.s (.int .i64 z)), .imm false (some 51) (l.map KV.enc)] [] = some (.s (.bool true), []) := by
  refine Vm.runP (nt := 109) rfl fit4 (by simp) ?_
  have en := TNew_eq 0 []
  simp only [List.length_nil, List.nil_append] at en
  obtain ⟨A, hA⟩ : ∃ A, V.imm false none (ids.map fun z => V.s (.int .i64 z)) = A := ⟨_, rfl⟩
  obtain ⟨C, hC⟩ : ∃ C, V.imm false (some 51) (l.map KV.enc) = C := ⟨_, rfl⟩
  rw [hA, hC]
  have lA : ∀ cf base H, opV cf base H .len [A] = some (.s (.int .i64 (ids.length : Nat)), H) := fun cf base H => by rw [← hA, o_lenI, List.length_map]
  have lC : ∀ cf base H, opV cf base H .len [C] = some (.s (.int .i64 (l.length : Nat)), H) := fun cf base H => by rw [← hC, o_lenI, List.length_map]
  have hvb : (0 : Nat) = 0 := rfl
  try simp only [B4, B4R0, B4L0, en, o_mkm, go_sem, V.s.injEq, Value.bool.injEq, ↓reduceIte, Nat.reduceEqDiff, Nat.reduceBEq, Nat.reduceAdd, Nat.reduceSub, Nat.reduceLT, Nat.reduceLeDiff, Int.reduceLT, Int.reduceLE, Int.reduceEq, Int.reduceToNat, List.append_assoc, List.length_append, Vm.get_app, Vm.set_app, Vm.get_appL, Vm.get_appL0, Vm.set_appL, Vm.set_appL0, Nat.le_refl, Nat.le_add_right, okAt]
  repeat' (
    first | refine wpC_cases ?_ ?_ | refine wpU_casesT ?_ ?_ | refine wpU_casesF ?_ ?_
    all_goals intro hvc
    all_goals first | replace hvc := not_of_true hvc | replace hvc := not_of_false hvc | skip
    all_goals first | subst hvc | replace hvb := And.intro hvc hvb
    all_goals try simp only [hvb, B4, B4R0, B4L0, en, o_mkm, go_sem, V.s.injEq, Value.bool.injEq, ↓reduceIte, Nat.reduceEqDiff, Nat.reduceBEq, Nat.reduceAdd, Nat.reduceSub, Nat.reduceLT, Nat.reduceLeDiff, Int.reduceLT, Int.reduceLE, Int.reduceEq, Int.reduceToNat, List.append_assoc, List.length_append, Vm.get_app, Vm.set_app, Vm.get_appL, Vm.get_appL0, Vm.set_appL, Vm.set_appL0, Nat.le_refl, Nat.le_add_right, okAt])
  refine wp_for (fun m e H => ∃ i : Nat, m = 30 - i ∧ i ≤ 30 ∧ i ≤ l.length ∧ i ≤ ids.length ∧ e 7 = .s (.int .i64 i) ∧ e 5 = .ptr 0 [0] 1 ∧ e 6 = .mp 1 ∧ e 0 = A ∧ e 1 = C ∧
      ∃ L k B, TR H 0 k L ∧ OkL L ∧ H[1]? = some B ∧ MV B L ∧ k ≠ 1 ∧ 2 ≤ H.length)
    (fun e H => e 5 = .ptr 0 [0] 1 ∧ e 6 = .mp 1 ∧ ∃ L k B, TR H 0 k L ∧ OkL L ∧ H[1]? = some B ∧ MV B L) 30 _ _ ⟨0, rfl, by omega, by omega, by omega, ?_, ?_, ?_, ?_, ?_, [], 0, .map [] 0, ?_, ⟨List.Pairwise.nil, fun w hw => by cases hw⟩, ?_, MV.nil, by omega, ?_⟩ ?_ ?_
  rotate_right 2
  · rintro m e H ⟨i, rfl, hi30, hil, hii, e7, e5, e6, e0', e1, L, k, B, tr, ok, hB, mv, hk, h2⟩
    by_cases c1 : i < ids.length
    case neg =>
      have c1' : ¬ (i : Int) < ids.length := by omega
      have hvb : (0 : Nat) = 0 := rfl
      try simp only [e7, e5, e6, e0', e1, lA, lC, c1', go_sem, V.s.injEq, Value.bool.injEq, ↓reduceIte, Nat.reduceEqDiff, Nat.reduceBEq, Nat.reduceAdd, Nat.reduceSub, Nat.reduceLT, Nat.reduceLeDiff, Int.reduceLT, Int.reduceLE, Int.reduceEq, Int.reduceToNat, List.append_assoc, List.length_append, Vm.get_app, Vm.set_app, Vm.get_appL, Vm.get_appL0, Vm.set_appL, Vm.set_appL0, Nat.le_refl, Nat.le_add_right, okAt]
      repeat' (
        first | refine wpC_cases ?_ ?_ | refine wpU_casesT ?_ ?_ | refine wpU_casesF ?_ ?_
        all_goals intro hvc
        all_goals first | replace hvc := not_of_true hvc | replace hvc := not_of_false hvc | skip
        all_goals first | subst hvc | replace hvb := And.intro hvc hvb
        all_goals try simp only [hvb, e7, e5, e6, e0', e1, lA, lC, c1', go_sem, V.s.injEq, Value.bool.injEq, ↓reduceIte, Nat.reduceEqDiff, Nat.reduceBEq, Nat.reduceAdd, Nat.reduceSub, Nat.reduceLT, Nat.reduceLeDiff, Int.reduceLT, Int.reduceLE, Int.reduceEq, Int.reduceToNat, List.append_assoc, List.length_append, Vm.get_app, Vm.set_app, Vm.get_appL, Vm.get_appL0, Vm.set_appL, Vm.set_appL0, Nat.le_refl, Nat.le_add_right, okAt])
      all_goals exact ⟨L, k, B, tr, ok, hB, mv⟩
    have c1' : (i : Int) < ids.length := by omega
    by_cases c2 : i < l.length
    case neg =>
      have c2' : ¬ (i : Int) < l.length := by omega
      have hvb : (0 : Nat) = 0 := rfl
      try simp only [e7, e5, e6, e0', e1, lA, lC, c1', c2', go_sem, V.s.injEq, Value.bool.injEq, ↓reduceIte, Nat.reduceEqDiff, Nat.reduceBEq, Nat.reduceAdd, Nat.reduceSub, Nat.reduceLT, Nat.reduceLeDiff, Int.reduceLT, Int.reduceLE, Int.reduceEq, Int.reduceToNat, List.append_assoc, List.length_append, Vm.get_app, Vm.set_app, Vm.get_appL, Vm.get_appL0, Vm.set_appL, Vm.set_appL0, Nat.le_refl, Nat.le_add_right, okAt]
      repeat' (
        first | refine wpC_cases ?_ ?_ | refine wpU_casesT ?_ ?_ | refine wpU_casesF ?_ ?_
        all_goals intro hvc
        all_goals first | replace hvc := not_of_true hvc | replace hvc := not_of_false hvc | skip
        all_goals first | subst hvc | replace hvb := And.intro hvc hvb
        all_goals try simp only [hvb, e7, e5, e6, e0', e1, lA, lC, c1', c2', go_sem, V.s.injEq, Value.bool.injEq, ↓reduceIte, Nat.reduceEqDiff, Nat.reduceBEq, Nat.reduceAdd, Nat.reduceSub, Nat.reduceLT, Nat.reduceLeDiff, Int.reduceLT, Int.reduceLE, Int.reduceEq, Int.reduceToNat, List.append_assoc, List.length_append, Vm.get_app, Vm.set_app, Vm.get_appL, Vm.get_appL0, Vm.set_appL, Vm.set_appL0, Nat.le_refl, Nat.le_add_right, okAt])
      all_goals exact ⟨L, k, B, tr, ok, hB, mv⟩
    have c2' : (i : Int) < l.length := by omega
    by_cases c3 : i < 30
    case neg =>
      have c3' : ¬ (i : Int) < 30 := by omega
      have hvb : (0 : Nat) = 0 := rfl
      try simp only [e7, e5, e6, e0', e1, lA, lC, c1', c2', c3', go_sem, V.s.injEq, Value.bool.injEq, ↓reduceIte, Nat.reduceEqDiff, Nat.reduceBEq, Nat.reduceAdd, Nat.reduceSub, Nat.reduceLT, Nat.reduceLeDiff, Int.reduceLT, Int.reduceLE, Int.reduceEq, Int.reduceToNat, List.append_assoc, List.length_append, Vm.get_app, Vm.set_app, Vm.get_appL, Vm.get_appL0, Vm.set_appL, Vm.set_appL0, Nat.le_refl, Nat.le_add_right, okAt]
      repeat' (
        first | refine wpC_cases ?_ ?_ | refine wpU_casesT ?_ ?_ | refine wpU_casesF ?_ ?_
        all_goals intro hvc
        all_goals first | replace hvc := not_of_true hvc | replace hvc := not_of_false hvc | skip
        all_goals first | subst hvc | replace hvb := And.intro hvc hvb
        all_goals try simp only [hvb, e7, e5, e6, e0', e1, lA, lC, c1', c2', c3', go_sem, V.s.injEq, Value.bool.injEq, ↓reduceIte, Nat.reduceEqDiff, Nat.reduceBEq, Nat.reduceAdd, Nat.reduceSub, Nat.reduceLT, Nat.reduceLeDiff, Int.reduceLT, Int.reduceLE, Int.reduceEq, Int.reduceToNat, List.append_assoc, List.length_append, Vm.get_app, Vm.set_app, Vm.get_appL, Vm.get_appL0, Vm.set_appL, Vm.set_appL0, Nat.le_refl, Nat.le_add_right, okAt])
      all_goals exact ⟨L, k, B, tr, ok, hB, mv⟩
    have c3' : (i : Int) < 30 := by omega
    have hi0 : (0 : Int) ≤ i := by omega
    have hwr : IntKind.i64.wrap ((i : Int) + 1) = ((i + 1 : Nat) : Int) := wrap_small (by omega)
    have hx : l[i]? = some l[i] := List.getElem?_eq_getElem c2
    have hxm : l[i] ∈ l := List.getElem_mem _
    have hn : ids[i]? = some ids[i] := List.getElem?_eq_getElem c1
    generalize l[i] = x at hx hxm
    generalize ids[i] = n at hn
    obtain ⟨j, hj, hjw⟩ := and3 n
    have hv := fun h' => KVault_ok 0 h' x (idj j) (hb x hxm)
    have hvr := keepV_right x (idj j) (hb x hxm)
    have hvi := keepV_id x (idj j)
    generalize keepV x (idj j) = v at hv hvr hvi
    obtain ⟨p1, p2, p3, p4⟩ := ok.put hvr hj hvi
    have fA : Fw [] H (H ++ [Blk.cells (some 23) [.arr 23 ((idj j).map byteV)], Blk.cells (some 29) [v.enc]]) := Fw.app _ _ _
    obtain ⟨H', k', d1, tr', f', hk'⟩ := TPut_ok 0 _ 0 k L v (Nat.le_refl _) (tr.mono fA (by simp) (by simp)) ok.rise ok.len
    have htl := tr.lt
    have hB' : H'[1]? = some B := f'.old _ _ (fA.old _ _ hB (by simp)) (by simp only [List.mem_cons, List.not_mem_nil, or_false, not_or]; omega)
    have g0 : H'[H.length]? = some (Blk.cells (some 23) [.arr 23 ((idj j).map byteV)]) := f'.old _ _ (get_app0 _ _) (by simp only [List.mem_cons, List.not_mem_nil, or_false, not_or]; omega)
    have g1 : H'[H.length + 1]? = some (Blk.cells (some 29) [v.enc]) := f'.old _ _ (get_app _ _ 1) (by simp only [List.mem_cons, List.not_mem_nil, or_false, not_or]; omega)
    obtain ⟨B', mv', u⟩ := mv.put p3 p4
    rw [p1] at d1
    have hl' := f'.len
    simp only [List.length_append, List.length_cons, List.length_nil] at hl'
    have hk1 : k' ≠ 1 := by
      simp only [List.length_append] at hk'
      omega
    have q1 : TR (H'.set 1 B') 0 k' (putT L v).2 := tr'.setM _ (by omega) (Ne.symm hk1)
    have ia : ∀ cf base H, opV cf base H (.ias none) [A, .s (.int .i64 (i : Nat))] = some (.iptr (.s (.int .i64 n)), H) := fun cf base H => by
      rw [← hA, o_iasI, if_pos hi0, Int.toNat_natCast, List.getElem?_map, hn]; rfl
    have ic : ∀ cf base H, opV cf base H (.ias (some 51)) [C, .s (.int .i64 (i : Nat))] = some (.iptr x.enc, H) := fun cf base H => by
      rw [← hC, o_iasI, if_pos hi0, Int.toNat_natCast, List.getElem?_map, hx]; rfl
    rw [hvi] at u
    have hvb : (0 : Nat) = 0 := rfl
    try simp only [e7, e5, e6, e0', e1, lA, lC, c1', c2', c3', hwr, ia, ic, KV_ty, hjw, idj_v _ hj, hv, enc_tyV, enc_soV, eff_callp, d1, g0, g1, u, hB', o_and, o_callp, callR_same, Nat.zero_le, go_sem, V.s.injEq, Value.bool.injEq, ↓reduceIte, Nat.reduceEqDiff, Nat.reduceBEq, Nat.reduceAdd, Nat.reduceSub, Nat.reduceLT, Nat.reduceLeDiff, Int.reduceLT, Int.reduceLE, Int.reduceEq, Int.reduceToNat, List.append_assoc, List.length_append, Vm.get_app, Vm.set_app, Vm.get_appL, Vm.get_appL0, Vm.set_appL, Vm.set_appL0, Nat.le_refl, Nat.le_add_right, okAt]
    repeat' (
      first | refine wpC_cases ?_ ?_ | refine wpU_casesT ?_ ?_ | refine wpU_casesF ?_ ?_
      all_goals intro hvc
      all_goals first | replace hvc := not_of_true hvc | replace hvc := not_of_false hvc | skip
      all_goals first | subst hvc | replace hvb := And.intro hvc hvb
      all_goals try simp only [hvb, e7, e5, e6, e0', e1, lA, lC, c1', c2', c3', hwr, ia, ic, KV_ty, hjw, idj_v _ hj, hv, enc_tyV, enc_soV, eff_callp, d1, g0, g1, u, hB', o_and, o_callp, callR_same, Nat.zero_le, go_sem, V.s.injEq, Value.bool.injEq, ↓reduceIte, Nat.reduceEqDiff, Nat.reduceBEq, Nat.reduceAdd, Nat.reduceSub, Nat.reduceLT, Nat.reduceLeDiff, Int.reduceLT, Int.reduceLE, Int.reduceEq, Int.reduceToNat, List.append_assoc, List.length_append, Vm.get_app, Vm.set_app, Vm.get_appL, Vm.get_appL0, Vm.set_appL, Vm.set_appL0, Nat.le_refl, Nat.le_add_right, okAt])
    exact ⟨30 - (i + 1), by omega, i + 1, rfl, by omega, by omega, by omega, rfl, (putT L v).2, k', B', q1, p2, set_getB hB', mv', hk1, by omega⟩
  · rintro e H ⟨e5, e6, L, k, B, tr, ok, hB, mv⟩
    have hs : ∀ v ∈ L, v.secret.length ≤ 64 := fun v hv => right_secretV (ok.all v hv).1
    have ha := TAll_ok 0 H 0 k L tr (by have := ok.len; omega) hs
    have hml := fun cf base => mv.len cf base hB
    have hx : SR H (.imm false (some 29) (L.map Vault.enc)) (some 29) (L.map Vault.enc) := .inl ⟨_, rfl⟩
    obtain ⟨X, hX⟩ : ∃ X, V.imm false (some 29) (L.map Vault.enc) = X := ⟨_, rfl⟩
    have lX : ∀ cf base H, opV cf base H .len [X] = some (.s (.int .i64 (L.length : Nat)), H) := fun cf base H => by rw [← hX, o_lenI, List.length_map]
    rw [hX] at ha
    have hL := ok.len
    have hvb : (0 : Nat) = 0 := rfl
    try simp only [e5, e6, ha, hml, lX, B4R0, B4L2, go_sem, V.s.injEq, Value.bool.injEq, ↓reduceIte, Nat.reduceEqDiff, Nat.reduceBEq, Nat.reduceAdd, Nat.reduceSub, Nat.reduceLT, Nat.reduceLeDiff, Int.reduceLT, Int.reduceLE, Int.reduceEq, Int.reduceToNat, List.append_assoc, List.length_append, Vm.get_app, Vm.set_app, Vm.get_appL, Vm.get_appL0, Vm.set_appL, Vm.set_appL0, Nat.le_refl, Nat.le_add_right, okAt]
    repeat' (
      first | refine wpC_cases ?_ ?_ | refine wpU_casesT ?_ ?_ | refine wpU_casesF ?_ ?_
      all_goals intro hvc
      all_goals first | replace hvc := not_of_true hvc | replace hvc := not_of_false hvc | skip
      all_goals first | subst hvc | replace hvb := And.intro hvc hvb
      all_goals try simp only [hvb, e5, e6, ha, hml, lX, B4R0, B4L2, go_sem, V.s.injEq, Value.bool.injEq, ↓reduceIte, Nat.reduceEqDiff, Nat.reduceBEq, Nat.reduceAdd, Nat.reduceSub, Nat.reduceLT, Nat.reduceLeDiff, Int.reduceLT, Int.reduceLE, Int.reduceEq, Int.reduceToNat, List.append_assoc, List.length_append, Vm.get_app, Vm.set_app, Vm.get_appL, Vm.get_appL0, Vm.set_appL, Vm.set_appL0, Nat.le_refl, Nat.le_add_right, okAt])
    refine wp_for (fun m e H' => ∃ i : Nat, m = L.length - i ∧ i ≤ L.length ∧ e 11 = .s (.int .i64 i) ∧ e 6 = .mp 1 ∧ e 10 = X ∧ H'[1]? = some B)
      (fun e H => True) L.length _ _ ⟨0, rfl, by omega, ?_, ?_, ?_, hB⟩ ?_ ?_
    rotate_right 2
    · rintro m e H' ⟨i, rfl, hi, e11, e6, e10, hB'⟩
      by_cases c1 : i < L.length
      case neg =>
        have c1' : ¬ (i : Int) < L.length := by omega
        have hvb : (0 : Nat) = 0 := rfl
        try simp only [e11, e6, e10, lX, c1', go_sem, V.s.injEq, Value.bool.injEq, ↓reduceIte, Nat.reduceEqDiff, Nat.reduceBEq, Nat.reduceAdd, Nat.reduceSub, Nat.reduceLT, Nat.reduceLeDiff, Int.reduceLT, Int.reduceLE, Int.reduceEq, Int.reduceToNat, List.append_assoc, List.length_append, Vm.get_app, Vm.set_app, Vm.get_appL, Vm.get_appL0, Vm.set_appL, Vm.set_appL0, Nat.le_refl, Nat.le_add_right, okAt]
        repeat' (
          first | refine wpC_cases ?_ ?_ | refine wpU_casesT ?_ ?_ | refine wpU_casesF ?_ ?_
          all_goals intro hvc
          all_goals first | replace hvc := not_of_true hvc | replace hvc := not_of_false hvc | skip
          all_goals first | subst hvc | replace hvb := And.intro hvc hvb
          all_goals try simp only [hvb, e11, e6, e10, lX, c1', go_sem, V.s.injEq, Value.bool.injEq, ↓reduceIte, Nat.reduceEqDiff, Nat.reduceBEq, Nat.reduceAdd, Nat.reduceSub, Nat.reduceLT, Nat.reduceLeDiff, Int.reduceLT, Int.reduceLE, Int.reduceEq, Int.reduceToNat, List.append_assoc, List.length_append, Vm.get_app, Vm.set_app, Vm.get_appL, Vm.get_appL0, Vm.set_appL, Vm.set_appL0, Nat.le_refl, Nat.le_add_right, okAt])
      have c1' : (i : Int) < L.length := by omega
      have hi0 : (0 : Int) ≤ i := by omega
      have hwr : IntKind.i64.wrap ((i : Int) + 1) = ((i + 1 : Nat) : Int) := wrap_small (by omega)
      have hv : L[i]? = some L[i] := List.getElem?_eq_getElem c1
      have hvm : L[i] ∈ L := List.getElem_mem _
      have hprev : 0 < i → ∃ w, L[i - 1]? = some w ∧ cmpB w.iD L[i].iD < 0 := fun h0 => by
        refine ⟨L[i - 1], List.getElem?_eq_getElem (by omega), ?_⟩
        exact List.pairwise_iff_getElem.1 ok.rise (i - 1) i (by omega) c1 (by omega)
      generalize L[i] = v at hv hvm hprev
      have ic : ∀ cf base H, opV cf base H (.ias (some 29)) [X, .s (.int .i64 (i : Nat))] = some (.iptr v.enc, H) := fun cf base H => by
        rw [← hX, o_iasI, if_pos hi0, Int.toNat_natCast, List.getElem?_map, hv]; rfl
      have hlk := fun cf base => (mv.at hB').lkuOk (.st 29 [z4 23, ku, z16 26, kx, ki, ki, z16 26, .s (.bool false), .s (.bool false)]) v.iD cf base
      rw [getT_mem ok.rise hvm] at hlk
      simp only [Option.map_some, Option.getD_some, Option.isSome_some] at hlk
      have hsa := fun h' => rSame_ok 0 h' false false v v
      simp only [← Vault.enc_F, decide_true] at hsa
      have fiv : ∀ cf base H, opV cf base H (.fa 29 0) [.iptr v.enc] = some (.iptr (.arr 23 (v.iD.map byteV)), H) := fun cf base H => rfl
      have hb2 : ∀ (cf : CF) base H (f : Bool) (l : Bs), opV cf base H .b2s [.imm f none (l.map byteV)] = some (.s (.string ⟨l.toArray⟩), H) := fun cf base H f l => (BR_imm H f l).o_b2s
      by_cases c0 : 0 < i
      · obtain ⟨w, hw, hc⟩ := hprev c0
        have c0' : (0 : Int) < i := by omega
        have hw1 : IntKind.i64.wrap ((i : Int) - 1) = ((i - 1 : Nat) : Int) := by rw [wrap_i64 (by omega) (by omega)]; omega
        have ip : ∀ cf base H, opV cf base H (.ias (some 29)) [X, .s (.int .i64 ((i - 1 : Nat) : Int))] = some (.iptr w.enc, H) := fun cf base H => by
          rw [← hX, o_iasI, if_pos (by omega), Int.toNat_natCast, List.getElem?_map, hw]; rfl
        have fiw : ∀ cf base H, opV cf base H (.fa 29 0) [.iptr w.enc] = some (.iptr (.arr 23 (w.iD.map byteV)), H) := fun cf base H => rfl
        have hcd : decide (cmpB w.iD v.iD < 0) = true := decide_eq_true hc
        have hvb : (0 : Nat) = 0 := rfl
        try simp only [e11, e6, e10, lX, c1', hwr, ic, hlk, enc_tyV, enc_soV, hsa, fiv, fiw, c0', hw1, ip, o_slaI, hb2, o_sgeq_cmp, hcd, Nat.zero_le, hB', go_sem, V.s.injEq, Value.bool.injEq, ↓reduceIte, Nat.reduceEqDiff, Nat.reduceBEq, Nat.reduceAdd, Nat.reduceSub, Nat.reduceLT, Nat.reduceLeDiff, Int.reduceLT, Int.reduceLE, Int.reduceEq, Int.reduceToNat, List.append_assoc, List.length_append, Vm.get_app, Vm.set_app, Vm.get_appL, Vm.get_appL0, Vm.set_appL, Vm.set_appL0, Nat.le_refl, Nat.le_add_right, okAt]
        repeat' (
          first | refine wpC_cases ?_ ?_ | refine wpU_casesT ?_ ?_ | refine wpU_casesF ?_ ?_
          all_goals intro hvc
          all_goals first | replace hvc := not_of_true hvc | replace hvc := not_of_false hvc | skip
          all_goals first | subst hvc | replace hvb := And.intro hvc hvb
          all_goals try simp only [hvb, e11, e6, e10, lX, c1', hwr, ic, hlk, enc_tyV, enc_soV, hsa, fiv, fiw, c0', hw1, ip, o_slaI, hb2, o_sgeq_cmp, hcd, Nat.zero_le, hB', go_sem, V.s.injEq, Value.bool.injEq, ↓reduceIte, Nat.reduceEqDiff, Nat.reduceBEq, Nat.reduceAdd, Nat.reduceSub, Nat.reduceLT, Nat.reduceLeDiff, Int.reduceLT, Int.reduceLE, Int.reduceEq, Int.reduceToNat, List.append_assoc, List.length_append, Vm.get_app, Vm.set_app, Vm.get_appL, Vm.get_appL0, Vm.set_appL, Vm.set_appL0, Nat.le_refl, Nat.le_add_right, okAt])
        exact ⟨L.length - (i + 1), by omega, i + 1, rfl, by omega, rfl, get_old hB' _⟩
      · have c0' : ¬ (0 : Int) < i := by omega
        have hvb : (0 : Nat) = 0 := rfl
        try simp only [e11, e6, e10, lX, c1', hwr, ic, hlk, enc_tyV, enc_soV, hsa, fiv, c0', Nat.zero_le, hB', go_sem, V.s.injEq, Value.bool.injEq, ↓reduceIte, Nat.reduceEqDiff, Nat.reduceBEq, Nat.reduceAdd, Nat.reduceSub, Nat.reduceLT, Nat.reduceLeDiff, Int.reduceLT, Int.reduceLE, Int.reduceEq, Int.reduceToNat, List.append_assoc, List.length_append, Vm.get_app, Vm.set_app, Vm.get_appL, Vm.get_appL0, Vm.set_appL, Vm.set_appL0, Nat.le_refl, Nat.le_add_right, okAt]
        repeat' (
          first | refine wpC_cases ?_ ?_ | refine wpU_casesT ?_ ?_ | refine wpU_casesF ?_ ?_
          all_goals intro hvc
          all_goals first | replace hvc := not_of_true hvc | replace hvc := not_of_false hvc | skip
          all_goals first | subst hvc | replace hvb := And.intro hvc hvb
          all_goals try simp only [hvb, e11, e6, e10, lX, c1', hwr, ic, hlk, enc_tyV, enc_soV, hsa, fiv, c0', Nat.zero_le, hB', go_sem, V.s.injEq, Value.bool.injEq, ↓reduceIte, Nat.reduceEqDiff, Nat.reduceBEq, Nat.reduceAdd, Nat.reduceSub, Nat.reduceLT, Nat.reduceLeDiff, Int.reduceLT, Int.reduceLE, Int.reduceEq, Int.reduceToNat, List.append_assoc, List.length_append, Vm.get_app, Vm.set_app, Vm.get_appL, Vm.get_appL0, Vm.set_appL, Vm.set_appL0, Nat.le_refl, Nat.le_add_right, okAt])
        exact ⟨L.length - (i + 1), by omega, i + 1, rfl, by omega, rfl, get_old hB' _⟩
    · rintro e h -
      have hk := fun h => known12_ok 0 h
      have hvb : (0 : Nat) = 0 := rfl
      try simp only [B4R2, hk, go_sem, V.s.injEq, Value.bool.injEq, ↓reduceIte, Nat.reduceEqDiff, Nat.reduceBEq, Nat.reduceAdd, Nat.reduceSub, Nat.reduceLT, Nat.reduceLeDiff, Int.reduceLT, Int.reduceLE, Int.reduceEq, Int.reduceToNat, List.append_assoc, List.length_append, Vm.get_app, Vm.set_app, Vm.get_appL, Vm.get_appL0, Vm.set_appL, Vm.set_appL0, Nat.le_refl, Nat.le_add_right, okAt]
      repeat' (
        first | refine wpC_cases ?_ ?_ | refine wpU_casesT ?_ ?_ | refine wpU_casesF ?_ ?_
        all_goals intro hvc
        all_goals first | replace hvc := not_of_true hvc | replace hvc := not_of_false hvc | skip
        all_goals first | subst hvc | replace hvb := And.intro hvc hvb
        all_goals try simp only [hvb, B4R2, hk, go_sem, V.s.injEq, Value.bool.injEq, ↓reduceIte, Nat.reduceEqDiff, Nat.reduceBEq, Nat.reduceAdd, Nat.reduceSub, Nat.reduceLT, Nat.reduceLeDiff, Int.reduceLT, Int.reduceLE, Int.reduceEq, Int.reduceToNat, List.append_assoc, List.length_append, Vm.get_app, Vm.set_app, Vm.get_appL, Vm.get_appL0, Vm.set_appL, Vm.set_appL0, Nat.le_refl, Nat.le_add_right, okAt])
    all_goals first | rfl | exact e6
  all_goals first | rfl | exact ⟨_, rfl, .inl ⟨rfl, rfl, rfl⟩⟩ | simp
end Go.Proofs.Ytfhmclgnfabdfaa
