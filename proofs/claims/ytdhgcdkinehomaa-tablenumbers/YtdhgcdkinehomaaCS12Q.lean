/- Tables against a plain list: the play. Conditions: none. -/
import Derived.Test.YtdhgcdkinehomaaCS12P
namespace Go.Proofs.Ytdhgcdkinehomaa
open Go Go.Vm Go.Proofs Go.Cl
set_option linter.unusedSimpArgs false
set_option linter.unusedVariables false
set_option maxRecDepth 100000
def Ask12.encF (f : V) (a : Ask12) : V := .st 60 [.s (.int .i64 a.kind), KV.enc a.v, f, Vault.enc a.raw]
theorem Ask12_ty (f : V) (a : Ask12) : (a.encF f).ty = some 60 := rfl
/-- A row that stands beside a table. -/
def MR (H : Hp) (n0 k : Nat) (y : V) (L : List Vault) : Prop := (∃ f, y = .imm f (some 29) (L.map Vault.enc)) ∨ (∃ km es, y = .ref km [] (some 29) 0 L.length es.length ∧ H[km]? = some (.cells (some 29) es) ∧ es.take L.length = L.map Vault.enc ∧ L.length ≤ es.length ∧ km ≠ n0 ∧ km ≠ k)
theorem MR.sr {H : Hp} {n0 k : Nat} {y : V} {L : List Vault} (h : MR H n0 k y L) : SR H y (some 29) (L.map Vault.enc) := by
  rcases h with ⟨f, rfl⟩ | ⟨km, es, rfl, h1, h2, h3, _, _⟩
  · exact .inl ⟨f, rfl⟩
  · exact .inr ⟨km, 0, es.length, es, by simp, h1, rfl, by simpa using h3, by simpa using h2⟩
theorem MR.mono {H H' : Hp} {n0 k k' : Nat} {y : V} {L : List Vault} (h : MR H n0 k y L) (f : Fw [n0, k] H H') (hk : k' = k ∨ k' = n0 ∨ H.length ≤ k') : MR H' n0 k' y L := by
  rcases h with h | ⟨km, es, rfl, h1, h2, h3, h4, h5⟩
  · exact .inl h
  · have := lt_of_get h1
    exact .inr ⟨km, es, rfl, f.old _ _ h1 (by simp; exact ⟨h4, h5⟩), h2, h3, h4, by omega⟩
theorem MR.of_LR {H : Hp} {n0 k km : Nat} {y : V} {L : List Vault} (h : LR H (some 29) km y (L.map Vault.enc)) (h1 : km ≠ n0) (h2 : km ≠ k) : MR H n0 k y L := by
  rcases h with ⟨rfl, h⟩ | ⟨es, rfl, h3, h4, h5⟩
  · exact .inl ⟨true, by rw [h]⟩
  · exact .inr ⟨km, es, by simp, h3, by simpa using h4, by simpa using h5, h1, h2⟩
/-- What the play keeps. -/
def PI (h : Hp) (x : V) (ys : List V) (e : Env) (H : Hp) (i : Nat) (L : List Vault) (k : Nat) (y : V) : Prop :=
  e 5 = .s (.int .i64 i) ∧ e 0 = x ∧ e 3 = .ptr h.length [0] 1 ∧ e 4 = y ∧ TR H h.length k L ∧ MR H h.length k y L ∧ Fw [] h H ∧ h.length ≤ k ∧ Rise L ∧ L.length ≤ 4 ∧ ∀ v ∈ L, v.secret.length ≤ 64
theorem getT_found {L : List Vault} (hr : Rise L) {j : Nat} {w : Vault} {id : Bs} (h : L[j]? = some w) (hw : w.iD = id) : getT L id = some w := by
  have := pos_eq hr h hw
  unfold getT
  rw [this, h]
  simp [hw]
theorem play_end (h : Hp) (n : Nat) (x : V) (i : Nat) (K1 : Post)
    (hK1 : ∀ (e : Env) (H' : Hp) (L' : List Vault) (k' : Nat) (y' : V), e 5 = .s (.int .i64 i) → e 0 = x → e 3 = .ptr h.length [0] 1 → e 4 = y' → TR H' h.length k' L' → MR H' h.length k' y' L' → Fw [] h H' → h.length ≤ k' → Rise L' → L'.length ≤ 4 → (∀ v ∈ L', v.secret.length ≤ 64) → K1 .normal e H')
    (L : List Vault) (k : Nat) (y : V) (H1 : Hp) (a : Ask12) (fl : V) (hsr : SR h fl (some 52) (a.l.map KV.enc)) (vv : Vault) (na nv : Nat) (hnn : nv ≠ h.length ∧ nv ≠ k) (haw : a.wf)
    (ha : H1[na]? = some (.cells (some 60) [a.encF fl])) (hv : H1[nv]? = some (.cells (some 29) [vv.enc]))
    (tr : TR H1 h.length k L) (mr : MR H1 h.length k y L) (fw : Fw [] h H1) (hk : h.length ≤ k) (hr : Rise L) (hL : L.length ≤ 4) (hs : ∀ v ∈ L, v.secret.length ≤ 64)
    (e : Env) (e5 : e 5 = .s (.int .i64 i)) (e0' : e 0 = x) (e3 : e 3 = .ptr h.length [0] 1) (e4 : e 4 = y) (e6 : e 6 = .ptr na [0] 1) (e7 : e 7 = .ptr nv [0] 1)
    (kk : Int) (e8 : e 8 = .s (.int .i64 kk)) (hkk : (kk = -1 ∧ getT L vv.iD = none) ∨ ∃ p w, kk = (p : Nat) ∧ L[p]? = some w ∧ w.iD = vv.iD) :
    wp (run fns pr h.length) h.length B25R2 e H1 K1 := by
  have hly := fun cf base h0 => mr.sr.o_len (cf := cf) (base := base) (h := h0)
  simp only [List.length_map] at hly
  have hfl := fw.len
  have hag := fun T => get_old ha T
  have hvg := fun T => get_old hv T
  have ha' := ha
  simp only [Ask12.encF] at ha'
  have hve : vv.enc = .st 29 [.arr 23 (vv.iD.map byteV), .s (.int .u64 vv.gen), .arr 26 (vv.pin.map byteV), .imm false none (vv.secret.map byteV), .s (.int .i64 vv.limit), .s (.int .i64 vv.used), .arr 26 (vv.owner.map byteV), .s (.bool vv.gone), .s (.bool vv.wiped)] := rfl
  have hv' := hv
  rw [hve] at hv'
  have hsz : ∀ h0, run fns pr h.length 16 [zeroV.enc, .st 29 [.arr 23 (zero4.map byteV), .s (.int .u64 0), .arr 26 (zero16.map byteV), .imm false none [], .s (.int .i64 0), .s (.int .i64 0), .arr 26 (zero16.map byteV), .s (.bool false), .s (.bool false)]] h0 = some (.s (.bool true), h0) := fun h0 => by
    have := rSame_ok h.length h0 false false zeroV zeroV
    simp only [decide_true] at this
    exact this
  by_cases k4 : a.kind = 4
  · have eg := TGet_ok h.length H1 h.length k L vv.iD tr hr (by omega) hs
    rcases hkk with ⟨rfl, q⟩ | ⟨p, w, rfl, hw, hwi⟩
    · rw [q] at eg
      simp only [Option.getD_none, Option.isSome_none] at eg
      have gr := enc_ground zeroV
      have t2 : TR (H1 ++ [.cells (some 29) [zeroV.enc]]) h.length k L := tr.mono (Fw.app [] _ _) (by simp) (by simp)
      have m2 : MR (H1 ++ [.cells (some 29) [zeroV.enc]]) h.length k y L := mr.mono (Fw.app _ _ _) (.inl rfl)
      have elen := TLen_ok h.length _ h.length k L t2
      have eall := TAll_ok h.length _ h.length k L t2 (by omega) hs
      have ev := Vaults_ok h.length _ (.imm false (some 29) (L.map Vault.enc)) y L L (.inl ⟨_, rfl⟩) m2.sr (by omega)
      simp only [decide_true] at ev
      have hvb : (0 : Nat) = 0 := rfl
      try simp only [B25R2, e5, e0', e3, e4, e6, e7, e8, ha', k4, hv', eg, enc_tyV, enc_soV, gr, hfl, hsz, zero4_a, zero16_a, elen, eall, ev, hly, List.length_map, decide_true, go_sem, V.s.injEq, Value.bool.injEq, ↓reduceIte, Nat.reduceEqDiff, Nat.reduceBEq, Nat.reduceAdd, Nat.reduceSub, Nat.reduceLT, Nat.reduceLeDiff, Int.reduceLT, Int.reduceLE, Int.reduceEq, Int.reduceToNat, List.append_assoc, List.length_append, Vm.get_app, Vm.set_app, Vm.get_appL, Vm.get_appL0, Vm.set_appL, Vm.set_appL0, Nat.le_refl, Nat.le_add_right, okAt]
      repeat' (
        first | refine wpC_cases ?_ ?_ | refine wpU_casesT ?_ ?_ | refine wpU_casesF ?_ ?_
        all_goals intro hvc
        all_goals first | replace hvc := not_of_true hvc | replace hvc := not_of_false hvc | skip
        all_goals first | subst hvc | replace hvb := And.intro hvc hvb
        all_goals try simp only [hvb, B25R2, e5, e0', e3, e4, e6, e7, e8, ha', k4, hv', eg, enc_tyV, enc_soV, gr, hfl, hsz, zero4_a, zero16_a, elen, eall, ev, hly, List.length_map, decide_true, go_sem, V.s.injEq, Value.bool.injEq, ↓reduceIte, Nat.reduceEqDiff, Nat.reduceBEq, Nat.reduceAdd, Nat.reduceSub, Nat.reduceLT, Nat.reduceLeDiff, Int.reduceLT, Int.reduceLE, Int.reduceEq, Int.reduceToNat, List.append_assoc, List.length_append, Vm.get_app, Vm.set_app, Vm.get_appL, Vm.get_appL0, Vm.set_appL, Vm.set_appL0, Nat.le_refl, Nat.le_add_right, okAt])
      all_goals exact hK1 _ _ L k y (by simp only [go_sem, e5, Nat.reduceEqDiff, ↓reduceIte]) (by simp only [go_sem, e0', Nat.reduceEqDiff, ↓reduceIte]) (by simp only [go_sem, e3, Nat.reduceEqDiff, ↓reduceIte]) (by simp only [go_sem, e4, Nat.reduceEqDiff, ↓reduceIte]) t2 m2 (fw.trans (Fw.app _ _ _)) hk hr hL hs
    · rw [getT_found hr hw hwi] at eg
      simp only [Option.getD_some, Option.isSome_some] at eg
      have gr := enc_ground w
      have hp := (List.getElem?_eq_some_iff.1 hw).1
      have t2 : TR (H1 ++ [.cells (some 29) [w.enc]]) h.length k L := tr.mono (Fw.app [] _ _) (by simp) (by simp)
      have m2 : MR (H1 ++ [.cells (some 29) [w.enc]]) h.length k y L := mr.mono (Fw.app _ _ _) (.inl rfl)
      have elen := TLen_ok h.length _ h.length k L t2
      have eall := TAll_ok h.length _ h.length k L t2 (by omega) hs
      have ev := Vaults_ok h.length _ (.imm false (some 29) (L.map Vault.enc)) y L L (.inl ⟨_, rfl⟩) m2.sr (by omega)
      simp only [decide_true] at ev
      have hp0 : (0 : Int) ≤ p := by omega
      have hib := fun cf base => m2.sr.o_ias (cf := cf) (base := base) (k := .i64) (i := p) (by simpa using hp)
      have hlo := fun cf base => m2.sr.o_ld (cf := cf) (base := base) (i := p) (v := w.enc) (by rw [List.getElem?_map, hw]; rfl) rfl
      have hsm := fun h0 => rSame_ok h.length h0 false false w w
      simp only [← Vault.enc_F, decide_true] at hsm
      have hvb : (0 : Nat) = 0 := rfl
      try simp only [B25R2, e5, e0', e3, e4, e6, e7, e8, ha', k4, hv', eg, enc_tyV, enc_soV, gr, hfl, hp0, hib, hlo, hsm, elen, eall, ev, hly, List.length_map, decide_true, go_sem, V.s.injEq, Value.bool.injEq, ↓reduceIte, Nat.reduceEqDiff, Nat.reduceBEq, Nat.reduceAdd, Nat.reduceSub, Nat.reduceLT, Nat.reduceLeDiff, Int.reduceLT, Int.reduceLE, Int.reduceEq, Int.reduceToNat, List.append_assoc, List.length_append, Vm.get_app, Vm.set_app, Vm.get_appL, Vm.get_appL0, Vm.set_appL, Vm.set_appL0, Nat.le_refl, Nat.le_add_right, okAt]
      repeat' (
        first | refine wpC_cases ?_ ?_ | refine wpU_casesT ?_ ?_ | refine wpU_casesF ?_ ?_
        all_goals intro hvc
        all_goals first | replace hvc := not_of_true hvc | replace hvc := not_of_false hvc | skip
        all_goals first | subst hvc | replace hvb := And.intro hvc hvb
        all_goals try simp only [hvb, B25R2, e5, e0', e3, e4, e6, e7, e8, ha', k4, hv', eg, enc_tyV, enc_soV, gr, hfl, hp0, hib, hlo, hsm, elen, eall, ev, hly, List.length_map, decide_true, go_sem, V.s.injEq, Value.bool.injEq, ↓reduceIte, Nat.reduceEqDiff, Nat.reduceBEq, Nat.reduceAdd, Nat.reduceSub, Nat.reduceLT, Nat.reduceLeDiff, Int.reduceLT, Int.reduceLE, Int.reduceEq, Int.reduceToNat, List.append_assoc, List.length_append, Vm.get_app, Vm.set_app, Vm.get_appL, Vm.get_appL0, Vm.set_appL, Vm.set_appL0, Nat.le_refl, Nat.le_add_right, okAt])
      all_goals exact hK1 _ _ L k y (by simp only [go_sem, e5, Nat.reduceEqDiff, ↓reduceIte]) (by simp only [go_sem, e0', Nat.reduceEqDiff, ↓reduceIte]) (by simp only [go_sem, e3, Nat.reduceEqDiff, ↓reduceIte]) (by simp only [go_sem, e4, Nat.reduceEqDiff, ↓reduceIte]) t2 m2 (fw.trans (Fw.app _ _ _)) hk hr hL hs
  by_cases k5 : a.kind = 5
  · have hvb : (0 : Nat) = 0 := rfl
    try simp only [B25R2, B25L5, e5, e0', e3, e4, e6, e7, e8, ha', k4, k5, go_sem, V.s.injEq, Value.bool.injEq, ↓reduceIte, Nat.reduceEqDiff, Nat.reduceBEq, Nat.reduceAdd, Nat.reduceSub, Nat.reduceLT, Nat.reduceLeDiff, Int.reduceLT, Int.reduceLE, Int.reduceEq, Int.reduceToNat, List.append_assoc, List.length_append, Vm.get_app, Vm.set_app, Vm.get_appL, Vm.get_appL0, Vm.set_appL, Vm.set_appL0, Nat.le_refl, Nat.le_add_right, okAt]
    repeat' (
      first | refine wpC_cases ?_ ?_ | refine wpU_casesT ?_ ?_ | refine wpU_casesF ?_ ?_
      all_goals intro hvc
      all_goals first | replace hvc := not_of_true hvc | replace hvc := not_of_false hvc | skip
      all_goals first | subst hvc | replace hvb := And.intro hvc hvb
      all_goals try simp only [hvb, B25R2, B25L5, e5, e0', e3, e4, e6, e7, e8, ha', k4, k5, go_sem, V.s.injEq, Value.bool.injEq, ↓reduceIte, Nat.reduceEqDiff, Nat.reduceBEq, Nat.reduceAdd, Nat.reduceSub, Nat.reduceLT, Nat.reduceLeDiff, Int.reduceLT, Int.reduceLE, Int.reduceEq, Int.reduceToNat, List.append_assoc, List.length_append, Vm.get_app, Vm.set_app, Vm.get_appL, Vm.get_appL0, Vm.set_appL, Vm.set_appL0, Nat.le_refl, Nat.le_add_right, okAt])
    refine wp_for (fun m e H => ∃ j : Nat, m = 6 - j ∧ j ≤ 6 ∧ j ≤ a.l.length ∧ e 13 = .s (.int .i64 j) ∧ e 5 = .s (.int .i64 i) ∧ e 0 = x ∧ e 3 = .ptr h.length [0] 1 ∧ e 4 = y ∧ e 6 = .ptr na [0] 1 ∧ ∃ (F : List Vault) (kf : Nat) (f : V), e 12 = f ∧ F.length = j ∧ LR H (some 29) kf f (F.map Vault.enc) ∧ Fw [] H1 H ∧ H1.length ≤ kf ∧ ∀ v ∈ F, v.secret.length ≤ 64)
      (fun e H => e 5 = .s (.int .i64 i) ∧ e 0 = x ∧ e 3 = .ptr h.length [0] 1 ∧ e 4 = y ∧ ∃ (F : List Vault) (kf : Nat) (f : V), e 12 = f ∧ F.length ≤ 6 ∧ LR H (some 29) kf f (F.map Vault.enc) ∧ Fw [] H1 H ∧ H1.length ≤ kf ∧ ∀ v ∈ F, v.secret.length ≤ 64)
      6 _ _ ⟨0, rfl, by omega, by omega, by simp only [go_sem, Nat.reduceEqDiff, ↓reduceIte]; rfl, by simp only [go_sem, e5, Nat.reduceEqDiff, ↓reduceIte], by simp only [go_sem, e0', Nat.reduceEqDiff, ↓reduceIte], by simp only [go_sem, e3, Nat.reduceEqDiff, ↓reduceIte], by simp only [go_sem, e4, Nat.reduceEqDiff, ↓reduceIte], by simp only [go_sem, e6, Nat.reduceEqDiff, ↓reduceIte], [], H1.length, .imm true (some 29) [], by simp only [go_sem, Nat.reduceEqDiff, ↓reduceIte], rfl, .inl ⟨rfl, rfl⟩, Fw.refl _ _, Nat.le_refl _, by simp⟩ ?_ ?_
    · clear e5 e0' e3 e4 e6 e7 e8 e
      have hf1 := hsr.fw fw
      rintro m e H ⟨j, rfl, hj, hjl, e13, e5, e0', e3, e4, e6, F, kf, f, e12, hFl, lr, fw', hkf, hFs⟩
      have haH := fw'.old _ _ ha' (by simp)
      have hf2 := hf1.fw fw'
      have hll := fun cf base h0 => hf2.o_len (cf := cf) (base := base) (h := h0)
      have hfty := hf2.ty
      simp only [List.length_map] at hll
      by_cases c1 : j < a.l.length
      case neg =>
        have c1' : ¬ (j : Int) < a.l.length := by omega
        have hvb : (0 : Nat) = 0 := rfl
        try simp only [e13, e5, e0', e3, e4, e6, e12, haH, hll, hfty, c1', List.length_map, go_sem, V.s.injEq, Value.bool.injEq, ↓reduceIte, Nat.reduceEqDiff, Nat.reduceBEq, Nat.reduceAdd, Nat.reduceSub, Nat.reduceLT, Nat.reduceLeDiff, Int.reduceLT, Int.reduceLE, Int.reduceEq, Int.reduceToNat, List.append_assoc, List.length_append, Vm.get_app, Vm.set_app, Vm.get_appL, Vm.get_appL0, Vm.set_appL, Vm.set_appL0, Nat.le_refl, Nat.le_add_right, okAt]
        repeat' (
          first | refine wpC_cases ?_ ?_ | refine wpU_casesT ?_ ?_ | refine wpU_casesF ?_ ?_
          all_goals intro hvc
          all_goals first | replace hvc := not_of_true hvc | replace hvc := not_of_false hvc | skip
          all_goals first | subst hvc | replace hvb := And.intro hvc hvb
          all_goals try simp only [hvb, e13, e5, e0', e3, e4, e6, e12, haH, hll, hfty, c1', List.length_map, go_sem, V.s.injEq, Value.bool.injEq, ↓reduceIte, Nat.reduceEqDiff, Nat.reduceBEq, Nat.reduceAdd, Nat.reduceSub, Nat.reduceLT, Nat.reduceLeDiff, Int.reduceLT, Int.reduceLE, Int.reduceEq, Int.reduceToNat, List.append_assoc, List.length_append, Vm.get_app, Vm.set_app, Vm.get_appL, Vm.get_appL0, Vm.set_appL, Vm.set_appL0, Nat.le_refl, Nat.le_add_right, okAt])
        exact ⟨F, kf, f, rfl, by omega, lr, fw', hkf, hFs⟩
      by_cases c2 : j < 6
      case neg =>
        have c1' : (j : Int) < a.l.length := by omega
        have c2' : ¬ (j : Int) < 6 := by omega
        have hvb : (0 : Nat) = 0 := rfl
        try simp only [e13, e5, e0', e3, e4, e6, e12, haH, hll, hfty, c1', c2', List.length_map, go_sem, V.s.injEq, Value.bool.injEq, ↓reduceIte, Nat.reduceEqDiff, Nat.reduceBEq, Nat.reduceAdd, Nat.reduceSub, Nat.reduceLT, Nat.reduceLeDiff, Int.reduceLT, Int.reduceLE, Int.reduceEq, Int.reduceToNat, List.append_assoc, List.length_append, Vm.get_app, Vm.set_app, Vm.get_appL, Vm.get_appL0, Vm.set_appL, Vm.set_appL0, Nat.le_refl, Nat.le_add_right, okAt]
        repeat' (
          first | refine wpC_cases ?_ ?_ | refine wpU_casesT ?_ ?_ | refine wpU_casesF ?_ ?_
          all_goals intro hvc
          all_goals first | replace hvc := not_of_true hvc | replace hvc := not_of_false hvc | skip
          all_goals first | subst hvc | replace hvb := And.intro hvc hvb
          all_goals try simp only [hvb, e13, e5, e0', e3, e4, e6, e12, haH, hll, hfty, c1', c2', List.length_map, go_sem, V.s.injEq, Value.bool.injEq, ↓reduceIte, Nat.reduceEqDiff, Nat.reduceBEq, Nat.reduceAdd, Nat.reduceSub, Nat.reduceLT, Nat.reduceLeDiff, Int.reduceLT, Int.reduceLE, Int.reduceEq, Int.reduceToNat, List.append_assoc, List.length_append, Vm.get_app, Vm.set_app, Vm.get_appL, Vm.get_appL0, Vm.set_appL, Vm.set_appL0, Nat.le_refl, Nat.le_add_right, okAt])
        exact ⟨F, kf, f, rfl, by omega, lr, fw', hkf, hFs⟩
      have c1' : (j : Int) < a.l.length := by omega
      have c2' : (j : Int) < 6 := by omega
      have hj0 : (0 : Int) ≤ j := by omega
      have hwr : IntKind.i64.wrap ((j : Int) + 1) = ((j + 1 : Nat) : Int) := wrap_small (by omega)
      have hx : a.l[j]? = some a.l[j] := List.getElem?_eq_getElem c1
      have hxm : a.l[j] ∈ a.l := List.getElem_mem _
      generalize a.l[j] = z at hx hxm
      have hzw := haw.l.2 z hxm
      have hze' : (a.l.map KV.enc)[j]? = some z.enc := by rw [List.getElem?_map, hx]; rfl
      have hib := fun cf base => hf2.o_ias (cf := cf) (base := base) (k := .i64) (i := j) (by simpa using c1)
      have hlz := fun cf base => hf2.o_ld (cf := cf) (base := base) (i := j) (v := z.enc) hze' rfl
      have fa2 := fun cf base => hf2.o_fa (cf := cf) (base := base) (f := 0) hze' (by simp [KV.enc])
      have ld2 := fun cf base => hf2.o_ldf (cf := cf) (base := base) (f := 0) (g' := none) hze' (by simp [KV.enc]; rfl) rfl
      obtain ⟨id, hid⟩ : ∃ id : Bs, id = [bt (IntKind.i64.wrap ((j : Int) + andI .i64 z.iD 1)), 0, 0, 0] := ⟨_, rfl⟩
      have ekv := fun h' => KVault_ok h.length h' z id hzw
      rw [hid] at ekv
      simp only [List.map_cons, List.map_nil, show byteV 0 = V.s (.int .u8 0) from rfl] at ekv
      rw [← hid] at ekv
      have hze : KV.enc z = .st 52 [.s (.int .i64 z.iD), .s (.int .i64 z.pin), .s (.int .i64 z.owner), .s (.int .i64 z.limit), .s (.int .i64 z.used), .s (.int .i64 z.how), .s (.int .u64 z.gen), .imm false none (z.secret.map byteV)] := rfl
      obtain ⟨x', H', k', hap, lr', fw2, hk'⟩ := lr.app1 (T := [.cells (some 29) [(keepV z id).enc]]) (idy := H.length) (z := (keepV z id).enc) (bytes := 96) hkf fw' (by rw [get_app0]; rfl) (enc_ground _) (by rw [List.length_map]; omega)
      have hvb : (0 : Nat) = 0 := rfl
      try simp only [e13, e5, e0', e3, e4, e6, e12, haH, hll, hfty, hib, hlz, fa2, ld2, c1', c2', bt_v, ekv, enc_tyV, enc_soV, hwr, hap, go_sem, V.s.injEq, Value.bool.injEq, ↓reduceIte, Nat.reduceEqDiff, Nat.reduceBEq, Nat.reduceAdd, Nat.reduceSub, Nat.reduceLT, Nat.reduceLeDiff, Int.reduceLT, Int.reduceLE, Int.reduceEq, Int.reduceToNat, List.append_assoc, List.length_append, Vm.get_app, Vm.set_app, Vm.get_appL, Vm.get_appL0, Vm.set_appL, Vm.set_appL0, Nat.le_refl, Nat.le_add_right, okAt]
      repeat' (
        first | refine wpC_cases ?_ ?_ | refine wpU_casesT ?_ ?_ | refine wpU_casesF ?_ ?_
        all_goals intro hvc
        all_goals first | replace hvc := not_of_true hvc | replace hvc := not_of_false hvc | skip
        all_goals first | subst hvc | replace hvb := And.intro hvc hvb
        all_goals try simp only [hvb, e13, e5, e0', e3, e4, e6, e12, haH, hll, hfty, hib, hlz, fa2, ld2, c1', c2', bt_v, ekv, enc_tyV, enc_soV, hwr, hap, go_sem, V.s.injEq, Value.bool.injEq, ↓reduceIte, Nat.reduceEqDiff, Nat.reduceBEq, Nat.reduceAdd, Nat.reduceSub, Nat.reduceLT, Nat.reduceLeDiff, Int.reduceLT, Int.reduceLE, Int.reduceEq, Int.reduceToNat, List.append_assoc, List.length_append, Vm.get_app, Vm.set_app, Vm.get_appL, Vm.get_appL0, Vm.set_appL, Vm.set_appL0, Nat.le_refl, Nat.le_add_right, okAt])
      exact ⟨6 - (j + 1), by omega, j + 1, rfl, by omega, by omega, rfl, F ++ [keepV z id], k', x', rfl, by simp [hFl], by rw [List.map_append]; exact lr', fw2, hk', by
        intro v hv
        rcases List.mem_append.1 hv with hv | hv
        · exact hFs v hv
        · simp at hv; rw [hv]; exact right_secretV (keepV_right z id hzw)⟩
    · clear e5 e0' e3 e4 e6 e7 e8 e
      rintro e H2 ⟨e5, e0', e3, e4, F, kf, f, e12, hFl, lr, fw', hkf, hFs⟩
      have hkl := tr.lt
      have t2 := tr.mono fw' (by simp) (by simp)
      have m2 := mr.mono (fw'.mono (by simp)) (.inl rfl)
      have hfl2 := fw'.len
      have eri := fun h0 (q : SR h0 f (some 29) (F.map Vault.enc)) => Rising_ok h.length h0 f F q (by omega)
      have eri2 := eri H2 lr.sr
      obtain ⟨H3, k3, ef, t3, f3, hk3⟩ := TFill_ok h.length H2 h.length k L F f (Nat.le_refl _) t2 lr.sr (by omega)
      have fw3 : Fw [] h H3 := (fw.trans fw').new f3 (by intro j hj; simp at hj; left; omega)
      have mF : MR H3 h.length k3 f F := by
        rcases lr with ⟨rfl, q⟩ | ⟨es, rfl, q1, q2, q3⟩
        · exact .inl ⟨true, by rw [q]⟩
        · have := lt_of_get q1
          exact .inr ⟨kf, es, by simp, f3.old _ _ q1 (by simp; omega), by simpa using q2, by simpa using q3, by omega, by omega⟩
      have mL : MR H3 h.length k3 y L := m2.mono (f3.mono (by simp)) (by omega)
      have hk3' : h.length ≤ k3 := by omega
      have hlF := fun cf base h0 => mF.sr.o_len (cf := cf) (base := base) (h := h0)
      simp only [List.length_map] at hlF
      cases hF : rising F with
      | true =>
        rw [hF] at ef t3 eri2
        simp only [if_true] at ef t3
        have hF4 : F.length ≤ 4 ∧ Rise F := by simp [rising] at hF; exact ⟨hF.1.1, hF.2⟩
        have elen := TLen_ok h.length _ h.length k3 F t3
        have eall := TAll_ok h.length _ h.length k3 F t3 (by omega) hFs
        have ev := Vaults_ok h.length _ (.imm false (some 29) (F.map Vault.enc)) f F F (.inl ⟨_, rfl⟩) mF.sr (by omega)
        simp only [decide_true] at ev
        have hvb : (0 : Nat) = 0 := rfl
        try simp only [B25R5, e5, e0', e3, e4, e12, eri2, ef, hlF, elen, eall, ev, List.length_map, decide_true, go_sem, V.s.injEq, Value.bool.injEq, ↓reduceIte, Nat.reduceEqDiff, Nat.reduceBEq, Nat.reduceAdd, Nat.reduceSub, Nat.reduceLT, Nat.reduceLeDiff, Int.reduceLT, Int.reduceLE, Int.reduceEq, Int.reduceToNat, List.append_assoc, List.length_append, Vm.get_app, Vm.set_app, Vm.get_appL, Vm.get_appL0, Vm.set_appL, Vm.set_appL0, Nat.le_refl, Nat.le_add_right, okAt]
        repeat' (
          first | refine wpC_cases ?_ ?_ | refine wpU_casesT ?_ ?_ | refine wpU_casesF ?_ ?_
          all_goals intro hvc
          all_goals first | replace hvc := not_of_true hvc | replace hvc := not_of_false hvc | skip
          all_goals first | subst hvc | replace hvb := And.intro hvc hvb
          all_goals try simp only [hvb, B25R5, e5, e0', e3, e4, e12, eri2, ef, hlF, elen, eall, ev, List.length_map, decide_true, go_sem, V.s.injEq, Value.bool.injEq, ↓reduceIte, Nat.reduceEqDiff, Nat.reduceBEq, Nat.reduceAdd, Nat.reduceSub, Nat.reduceLT, Nat.reduceLeDiff, Int.reduceLT, Int.reduceLE, Int.reduceEq, Int.reduceToNat, List.append_assoc, List.length_append, Vm.get_app, Vm.set_app, Vm.get_appL, Vm.get_appL0, Vm.set_appL, Vm.set_appL0, Nat.le_refl, Nat.le_add_right, okAt])
        all_goals exact hK1 _ _ F k3 f (by simp only [go_sem, e5, Nat.reduceEqDiff, ↓reduceIte]) (by simp only [go_sem, e0', Nat.reduceEqDiff, ↓reduceIte]) (by simp only [go_sem, e3, Nat.reduceEqDiff, ↓reduceIte]) (by simp only [go_sem, Nat.reduceEqDiff, ↓reduceIte]) t3 mF fw3 hk3' hF4.2 hF4.1 hFs
      | false =>
        rw [hF] at ef t3 eri2
        simp only [Bool.false_eq_true, if_false] at ef t3
        have elen := TLen_ok h.length _ h.length k3 L t3
        have eall := TAll_ok h.length _ h.length k3 L t3 (by omega) hs
        have ev := Vaults_ok h.length _ (.imm false (some 29) (L.map Vault.enc)) y L L (.inl ⟨_, rfl⟩) mL.sr (by omega)
        simp only [decide_true] at ev
        have hvb : (0 : Nat) = 0 := rfl
        try simp only [B25R5, e5, e0', e3, e4, e12, eri2, ef, hly, elen, eall, ev, List.length_map, decide_true, go_sem, V.s.injEq, Value.bool.injEq, ↓reduceIte, Nat.reduceEqDiff, Nat.reduceBEq, Nat.reduceAdd, Nat.reduceSub, Nat.reduceLT, Nat.reduceLeDiff, Int.reduceLT, Int.reduceLE, Int.reduceEq, Int.reduceToNat, List.append_assoc, List.length_append, Vm.get_app, Vm.set_app, Vm.get_appL, Vm.get_appL0, Vm.set_appL, Vm.set_appL0, Nat.le_refl, Nat.le_add_right, okAt]
        repeat' (
          first | refine wpC_cases ?_ ?_ | refine wpU_casesT ?_ ?_ | refine wpU_casesF ?_ ?_
          all_goals intro hvc
          all_goals first | replace hvc := not_of_true hvc | replace hvc := not_of_false hvc | skip
          all_goals first | subst hvc | replace hvb := And.intro hvc hvb
          all_goals try simp only [hvb, B25R5, e5, e0', e3, e4, e12, eri2, ef, hly, elen, eall, ev, List.length_map, decide_true, go_sem, V.s.injEq, Value.bool.injEq, ↓reduceIte, Nat.reduceEqDiff, Nat.reduceBEq, Nat.reduceAdd, Nat.reduceSub, Nat.reduceLT, Nat.reduceLeDiff, Int.reduceLT, Int.reduceLE, Int.reduceEq, Int.reduceToNat, List.append_assoc, List.length_append, Vm.get_app, Vm.set_app, Vm.get_appL, Vm.get_appL0, Vm.set_appL, Vm.set_appL0, Nat.le_refl, Nat.le_add_right, okAt])
        all_goals exact hK1 _ _ L k3 y (by simp only [go_sem, e5, Nat.reduceEqDiff, ↓reduceIte]) (by simp only [go_sem, e0', Nat.reduceEqDiff, ↓reduceIte]) (by simp only [go_sem, e3, Nat.reduceEqDiff, ↓reduceIte]) (by simp only [go_sem, e4, Nat.reduceEqDiff, ↓reduceIte]) t3 mL fw3 hk3' hr hL hs
  · have hrv := fun h0 => rRightVault_ok h.length h0 vv
    obtain ⟨H2, k2, ep, t2, f2, hk2⟩ := TPut_ok h.length H1 h.length k L vv (Nat.le_refl _) tr hr hL
    have m2 := mr.mono f2 (by omega : k2 = k ∨ k2 = h.length ∨ H1.length ≤ k2)
    have fw2 : Fw [] h H2 := fw.new f2 (by intro j hj; simp at hj; rcases hj with rfl | rfl <;> left <;> omega)
    have hv2 := f2.old _ _ hv (by simp; exact hnn)
    have hk2' : h.length ≤ k2 := by omega
    have hpl := placed_ok h.length H2 y L vv m2.sr (by omega)
    have hcl : (putT L vv).1 = 1 ∧ rightV vv = false ∧ (putT L vv).2 = L ∨ (rightV vv = true ∧ ((putT L vv).1 = 0 ∧ (putT L vv).2.length ≤ 4 ∧ (0 ≤ kk ∨ L.length < 4) ∨ (putT L vv).1 = 13 ∧ (putT L vv).2 = L ∧ kk < 0 ∧ 4 ≤ L.length)) := by
      cases hv2 : rightV vv with
      | false => left; simp [putT, hv2]
      | true =>
        refine .inr ⟨rfl, ?_⟩
        rcases hkk with ⟨rfl, q⟩ | ⟨p, w, rfl, hw, hwi⟩
        · have hno : ¬ (L[pos L vv.iD]?).map Vault.iD = some vv.iD := by
            intro h
            unfold getT at q
            rw [if_pos h] at q
            rw [q] at h; cases h
          by_cases h4 : 4 ≤ L.length
          · right; simp [putT, hv2, hno, h4]
          · left
            have hle := pos_le L vv.iD
            simp [putT, hv2, hno, h4]; omega
        · have hpp := pos_eq hr hw hwi
          have hyes : (L[pos L vv.iD]?).map Vault.iD = some vv.iD := by rw [hpp, hw]; simp [hwi]
          left; simp [putT, hv2, hyes, hL]
    have hsec : rightV vv = true → ∀ v ∈ (placedT L vv), v.secret.length ≤ 64 := by
      intro hv2 v hvm
      unfold placedT at hvm
      rcases List.mem_append.1 hvm with hvm | hvm
      · rcases List.mem_append.1 hvm with hvm | hvm
        · exact hs v (List.mem_filter.1 hvm).1
        · simp at hvm; rw [hvm]; exact right_secretV hv2
      · exact hs v (List.mem_filter.1 hvm).1
    rcases hcl with ⟨q1, q2, q3⟩ | ⟨q2, ⟨q1, q3, q4⟩ | ⟨q1, q3, q4, q5⟩⟩
    · rw [q1] at ep
      rw [q3] at t2
      have elen := TLen_ok h.length _ h.length k2 L t2
      have eall := TAll_ok h.length _ h.length k2 L t2 (by omega) hs
      have ev := Vaults_ok h.length _ (.imm false (some 29) (L.map Vault.enc)) y L L (.inl ⟨_, rfl⟩) m2.sr (by omega)
      simp only [decide_true] at ev
      have hvb : (0 : Nat) = 0 := rfl
      try simp only [B25R2, B25J0, e5, e0', e3, e4, e6, e7, e8, ha', k4, k5, hv, enc_tyV, hrv, q2, ep, hly, elen, eall, ev, List.length_map, decide_true, go_sem, V.s.injEq, Value.bool.injEq, ↓reduceIte, Nat.reduceEqDiff, Nat.reduceBEq, Nat.reduceAdd, Nat.reduceSub, Nat.reduceLT, Nat.reduceLeDiff, Int.reduceLT, Int.reduceLE, Int.reduceEq, Int.reduceToNat, List.append_assoc, List.length_append, Vm.get_app, Vm.set_app, Vm.get_appL, Vm.get_appL0, Vm.set_appL, Vm.set_appL0, Nat.le_refl, Nat.le_add_right, okAt]
      repeat' (
        first | refine wpC_cases ?_ ?_ | refine wpU_casesT ?_ ?_ | refine wpU_casesF ?_ ?_
        all_goals intro hvc
        all_goals first | replace hvc := not_of_true hvc | replace hvc := not_of_false hvc | skip
        all_goals first | subst hvc | replace hvb := And.intro hvc hvb
        all_goals try simp only [hvb, B25R2, B25J0, e5, e0', e3, e4, e6, e7, e8, ha', k4, k5, hv, enc_tyV, hrv, q2, ep, hly, elen, eall, ev, List.length_map, decide_true, go_sem, V.s.injEq, Value.bool.injEq, ↓reduceIte, Nat.reduceEqDiff, Nat.reduceBEq, Nat.reduceAdd, Nat.reduceSub, Nat.reduceLT, Nat.reduceLeDiff, Int.reduceLT, Int.reduceLE, Int.reduceEq, Int.reduceToNat, List.append_assoc, List.length_append, Vm.get_app, Vm.set_app, Vm.get_appL, Vm.get_appL0, Vm.set_appL, Vm.set_appL0, Nat.le_refl, Nat.le_add_right, okAt])
      all_goals exact hK1 _ _ L k2 y (by simp only [go_sem, e5, Nat.reduceEqDiff, ↓reduceIte]) (by simp only [go_sem, e0', Nat.reduceEqDiff, ↓reduceIte]) (by simp only [go_sem, e3, Nat.reduceEqDiff, ↓reduceIte]) (by simp only [go_sem, e4, Nat.reduceEqDiff, ↓reduceIte]) t2 m2 fw2 hk2' hr hL hs
    · have q5 := putT_placed hr q1
      rw [q1] at ep
      rw [q5] at t2 q3
      have r2 := place_rise hr vv
      have s2 := hsec q2
      have elen := TLen_ok h.length _ h.length k2 _ t2
      have eall := TAll_ok h.length _ h.length k2 _ t2 (by omega) s2
      have ev := Vaults_ok h.length H2 (.imm false (some 29) ((placedT L vv).map Vault.enc)) (.imm false (some 29) ((placedT L vv).map Vault.enc)) _ _ (.inl ⟨_, rfl⟩) (.inl ⟨_, rfl⟩) (by omega)
      simp only [decide_true] at ev
      rcases q4 with q4 | q4
      · have q6 : ¬ kk < 0 := by omega
        have hvb : (0 : Nat) = 0 := rfl
        try simp only [B25R2, B25J0, e5, e0', e3, e4, e6, e7, e8, ha', k4, k5, hv, hv2, enc_tyV, hrv, q2, q6, ep, hpl, hly, elen, eall, ev, List.length_map, decide_true, go_sem, V.s.injEq, Value.bool.injEq, ↓reduceIte, Nat.reduceEqDiff, Nat.reduceBEq, Nat.reduceAdd, Nat.reduceSub, Nat.reduceLT, Nat.reduceLeDiff, Int.reduceLT, Int.reduceLE, Int.reduceEq, Int.reduceToNat, List.append_assoc, List.length_append, Vm.get_app, Vm.set_app, Vm.get_appL, Vm.get_appL0, Vm.set_appL, Vm.set_appL0, Nat.le_refl, Nat.le_add_right, okAt]
        repeat' (
          first | refine wpC_cases ?_ ?_ | refine wpU_casesT ?_ ?_ | refine wpU_casesF ?_ ?_
          all_goals intro hvc
          all_goals first | replace hvc := not_of_true hvc | replace hvc := not_of_false hvc | skip
          all_goals first | subst hvc | replace hvb := And.intro hvc hvb
          all_goals try simp only [hvb, B25R2, B25J0, e5, e0', e3, e4, e6, e7, e8, ha', k4, k5, hv, hv2, enc_tyV, hrv, q2, q6, ep, hpl, hly, elen, eall, ev, List.length_map, decide_true, go_sem, V.s.injEq, Value.bool.injEq, ↓reduceIte, Nat.reduceEqDiff, Nat.reduceBEq, Nat.reduceAdd, Nat.reduceSub, Nat.reduceLT, Nat.reduceLeDiff, Int.reduceLT, Int.reduceLE, Int.reduceEq, Int.reduceToNat, List.append_assoc, List.length_append, Vm.get_app, Vm.set_app, Vm.get_appL, Vm.get_appL0, Vm.set_appL, Vm.set_appL0, Nat.le_refl, Nat.le_add_right, okAt])
        all_goals exact hK1 _ _ (placedT L vv) k2 (.imm false (some 29) ((placedT L vv).map Vault.enc)) (by simp only [go_sem, e5, Nat.reduceEqDiff, ↓reduceIte]) (by simp only [go_sem, e0', Nat.reduceEqDiff, ↓reduceIte]) (by simp only [go_sem, e3, Nat.reduceEqDiff, ↓reduceIte]) (by simp only [go_sem, Nat.reduceEqDiff, ↓reduceIte]) t2 (.inl ⟨false, rfl⟩) fw2 hk2' r2 q3 s2
      · have q6 : ¬ (4 : Int) ≤ L.length := by omega
        have hvb : (0 : Nat) = 0 := rfl
        try simp only [B25R2, B25J0, e5, e0', e3, e4, e6, e7, e8, ha', k4, k5, hv, hv2, enc_tyV, hrv, q2, q6, ep, hpl, hly, elen, eall, ev, List.length_map, decide_true, go_sem, V.s.injEq, Value.bool.injEq, ↓reduceIte, Nat.reduceEqDiff, Nat.reduceBEq, Nat.reduceAdd, Nat.reduceSub, Nat.reduceLT, Nat.reduceLeDiff, Int.reduceLT, Int.reduceLE, Int.reduceEq, Int.reduceToNat, List.append_assoc, List.length_append, Vm.get_app, Vm.set_app, Vm.get_appL, Vm.get_appL0, Vm.set_appL, Vm.set_appL0, Nat.le_refl, Nat.le_add_right, okAt]
        repeat' (
          first | refine wpC_cases ?_ ?_ | refine wpU_casesT ?_ ?_ | refine wpU_casesF ?_ ?_
          all_goals intro hvc
          all_goals first | replace hvc := not_of_true hvc | replace hvc := not_of_false hvc | skip
          all_goals first | subst hvc | replace hvb := And.intro hvc hvb
          all_goals try simp only [hvb, B25R2, B25J0, e5, e0', e3, e4, e6, e7, e8, ha', k4, k5, hv, hv2, enc_tyV, hrv, q2, q6, ep, hpl, hly, elen, eall, ev, List.length_map, decide_true, go_sem, V.s.injEq, Value.bool.injEq, ↓reduceIte, Nat.reduceEqDiff, Nat.reduceBEq, Nat.reduceAdd, Nat.reduceSub, Nat.reduceLT, Nat.reduceLeDiff, Int.reduceLT, Int.reduceLE, Int.reduceEq, Int.reduceToNat, List.append_assoc, List.length_append, Vm.get_app, Vm.set_app, Vm.get_appL, Vm.get_appL0, Vm.set_appL, Vm.set_appL0, Nat.le_refl, Nat.le_add_right, okAt])
        all_goals exact hK1 _ _ (placedT L vv) k2 (.imm false (some 29) ((placedT L vv).map Vault.enc)) (by simp only [go_sem, e5, Nat.reduceEqDiff, ↓reduceIte]) (by simp only [go_sem, e0', Nat.reduceEqDiff, ↓reduceIte]) (by simp only [go_sem, e3, Nat.reduceEqDiff, ↓reduceIte]) (by simp only [go_sem, Nat.reduceEqDiff, ↓reduceIte]) t2 (.inl ⟨false, rfl⟩) fw2 hk2' r2 q3 s2
    · rw [q1] at ep
      rw [q3] at t2
      have q6 : (4 : Int) ≤ L.length := by omega
      have elen := TLen_ok h.length _ h.length k2 L t2
      have eall := TAll_ok h.length _ h.length k2 L t2 (by omega) hs
      have ev := Vaults_ok h.length _ (.imm false (some 29) (L.map Vault.enc)) y L L (.inl ⟨_, rfl⟩) m2.sr (by omega)
      simp only [decide_true] at ev
      have hvb : (0 : Nat) = 0 := rfl
      try simp only [B25R2, B25J0, e5, e0', e3, e4, e6, e7, e8, ha', k4, k5, hv, enc_tyV, hrv, q2, q4, q6, ep, hly, elen, eall, ev, List.length_map, decide_true, go_sem, V.s.injEq, Value.bool.injEq, ↓reduceIte, Nat.reduceEqDiff, Nat.reduceBEq, Nat.reduceAdd, Nat.reduceSub, Nat.reduceLT, Nat.reduceLeDiff, Int.reduceLT, Int.reduceLE, Int.reduceEq, Int.reduceToNat, List.append_assoc, List.length_append, Vm.get_app, Vm.set_app, Vm.get_appL, Vm.get_appL0, Vm.set_appL, Vm.set_appL0, Nat.le_refl, Nat.le_add_right, okAt]
      repeat' (
        first | refine wpC_cases ?_ ?_ | refine wpU_casesT ?_ ?_ | refine wpU_casesF ?_ ?_
        all_goals intro hvc
        all_goals first | replace hvc := not_of_true hvc | replace hvc := not_of_false hvc | skip
        all_goals first | subst hvc | replace hvb := And.intro hvc hvb
        all_goals try simp only [hvb, B25R2, B25J0, e5, e0', e3, e4, e6, e7, e8, ha', k4, k5, hv, enc_tyV, hrv, q2, q4, q6, ep, hly, elen, eall, ev, List.length_map, decide_true, go_sem, V.s.injEq, Value.bool.injEq, ↓reduceIte, Nat.reduceEqDiff, Nat.reduceBEq, Nat.reduceAdd, Nat.reduceSub, Nat.reduceLT, Nat.reduceLeDiff, Int.reduceLT, Int.reduceLE, Int.reduceEq, Int.reduceToNat, List.append_assoc, List.length_append, Vm.get_app, Vm.set_app, Vm.get_appL, Vm.get_appL0, Vm.set_appL, Vm.set_appL0, Nat.le_refl, Nat.le_add_right, okAt])
      all_goals exact hK1 _ _ L k2 y (by simp only [go_sem, e5, Nat.reduceEqDiff, ↓reduceIte]) (by simp only [go_sem, e0', Nat.reduceEqDiff, ↓reduceIte]) (by simp only [go_sem, e3, Nat.reduceEqDiff, ↓reduceIte]) (by simp only [go_sem, e4, Nat.reduceEqDiff, ↓reduceIte]) t2 m2 fw2 hk2' hr hL hs
theorem play_mid (h : Hp) (x : V) (i : Nat) (K1 : Post)
    (hK1 : ∀ (e : Env) (H' : Hp) (L' : List Vault) (k' : Nat) (y' : V), e 5 = .s (.int .i64 i) → e 0 = x → e 3 = .ptr h.length [0] 1 → e 4 = y' → TR H' h.length k' L' → MR H' h.length k' y' L' → Fw [] h H' → h.length ≤ k' → Rise L' → L'.length ≤ 4 → (∀ v ∈ L', v.secret.length ≤ 64) → K1 .normal e H')
    (L : List Vault) (k : Nat) (y : V) (H1 : Hp) (a : Ask12) (fl : V) (hsr : SR h fl (some 52) (a.l.map KV.enc)) (vv : Vault) (na nv : Nat) (hnn : nv ≠ h.length ∧ nv ≠ k) (haw : a.wf)
    (ha : H1[na]? = some (.cells (some 60) [a.encF fl])) (hv : H1[nv]? = some (.cells (some 29) [vv.enc]))
    (tr : TR H1 h.length k L) (mr : MR H1 h.length k y L) (fw : Fw [] h H1) (hk : h.length ≤ k) (hr : Rise L) (hL : L.length ≤ 4) (hs : ∀ v ∈ L, v.secret.length ≤ 64)
    (e : Env) (e5 : e 5 = .s (.int .i64 i)) (e0' : e 0 = x) (e3 : e 3 = .ptr h.length [0] 1) (e4 : e 4 = y) (e6 : e 6 = .ptr na [0] 1) (e7 : e 7 = .ptr nv [0] 1)
    (e8 : e 8 = .s (.int .i64 (-1))) (e9 : e 9 = .s (.int .i64 0)) :
    wp (run fns pr h.length) h.length B25L2 e H1 (blockK 2 (seqK (run fns pr h.length) h.length B25R2 K1)) := by
  have hly := fun cf base h0 => mr.sr.o_len (cf := cf) (base := base) (h := h0)
  simp only [List.length_map] at hly
  have hve : vv.enc = .st 29 [.arr 23 (vv.iD.map byteV), .s (.int .u64 vv.gen), .arr 26 (vv.pin.map byteV), .imm false none (vv.secret.map byteV), .s (.int .i64 vv.limit), .s (.int .i64 vv.used), .arr 26 (vv.owner.map byteV), .s (.bool vv.gone), .s (.bool vv.wiped)] := rfl
  have hv' := hv
  rw [hve] at hv'
  unfold B25L2
  refine wp_for (fun m e H => ∃ j : Nat, m = L.length - j ∧ j ≤ L.length ∧ e 9 = .s (.int .i64 j) ∧ e 5 = .s (.int .i64 i) ∧ e 0 = x ∧ e 3 = .ptr h.length [0] 1 ∧ e 4 = y ∧ e 6 = .ptr na [0] 1 ∧ e 7 = .ptr nv [0] 1 ∧ H = H1 ∧ ∃ kk : Int, e 8 = .s (.int .i64 kk) ∧ ((kk = -1 ∧ ∀ w ∈ L.take j, w.iD ≠ vv.iD) ∨ ∃ p w, kk = (p : Nat) ∧ L[p]? = some w ∧ w.iD = vv.iD))
    (fun e H => e 5 = .s (.int .i64 i) ∧ e 0 = x ∧ e 3 = .ptr h.length [0] 1 ∧ e 4 = y ∧ e 6 = .ptr na [0] 1 ∧ e 7 = .ptr nv [0] 1 ∧ H = H1 ∧ ∃ kk : Int, e 8 = .s (.int .i64 kk) ∧ ((kk = -1 ∧ ∀ w ∈ L, w.iD ≠ vv.iD) ∨ ∃ p w, kk = (p : Nat) ∧ L[p]? = some w ∧ w.iD = vv.iD))
    L.length _ _ ⟨0, by omega, by omega, e9, e5, e0', e3, e4, e6, e7, rfl, -1, e8, .inl ⟨rfl, by simp⟩⟩ ?_ ?_
  · clear e9 e5 e0' e3 e4 e6 e7 e8 e
    rintro m e H ⟨j, rfl, hj, e9, e5, e0', e3, e4, e6, e7, rfl, kk, e8, hkk⟩
    by_cases c : j < L.length
    · have c' : (j : Int) < L.length := by omega
      have hw : L[j]? = some L[j] := List.getElem?_eq_getElem c
      have htk : L.take (j + 1) = L.take j ++ [L[j]] := by rw [List.take_add_one, hw]; rfl
      generalize L[j] = w at hw htk
      have hwe : (L.map Vault.enc)[j]? = some w.enc := by rw [List.getElem?_map, hw]; rfl
      have hib := fun cf base => mr.sr.o_ias (cf := cf) (base := base) (k := .i64) (i := j) (by simpa using c)
      have fa2 := fun cf base => mr.sr.o_fa (cf := cf) (base := base) (f := 0) hwe (by simp [Vault.enc])
      have ld2 := fun cf base => mr.sr.o_ldf (cf := cf) (base := base) (f := 0) (g' := some 23) hwe (by simp [Vault.enc]; rfl) rfl
      have hwr : IntKind.i64.wrap ((j : Int) + 1) = ((j + 1 : Nat) : Int) := wrap_small (by omega)
      by_cases hi : w.iD = vv.iD
      · have hvb : (0 : Nat) = 0 := rfl
        try simp only [e9, e5, e0', e3, e4, e6, e7, e8, hly, c', hib, fa2, ld2, hv', o_eqaB, hi, hwr, go_sem, V.s.injEq, Value.bool.injEq, ↓reduceIte, Nat.reduceEqDiff, Nat.reduceBEq, Nat.reduceAdd, Nat.reduceSub, Nat.reduceLT, Nat.reduceLeDiff, Int.reduceLT, Int.reduceLE, Int.reduceEq, Int.reduceToNat, List.append_assoc, List.length_append, Vm.get_app, Vm.set_app, Vm.get_appL, Vm.get_appL0, Vm.set_appL, Vm.set_appL0, Nat.le_refl, Nat.le_add_right, okAt]
        repeat' (
          first | refine wpC_cases ?_ ?_ | refine wpU_casesT ?_ ?_ | refine wpU_casesF ?_ ?_
          all_goals intro hvc
          all_goals first | replace hvc := not_of_true hvc | replace hvc := not_of_false hvc | skip
          all_goals first | subst hvc | replace hvb := And.intro hvc hvb
          all_goals try simp only [hvb, e9, e5, e0', e3, e4, e6, e7, e8, hly, c', hib, fa2, ld2, hv', o_eqaB, hi, hwr, go_sem, V.s.injEq, Value.bool.injEq, ↓reduceIte, Nat.reduceEqDiff, Nat.reduceBEq, Nat.reduceAdd, Nat.reduceSub, Nat.reduceLT, Nat.reduceLeDiff, Int.reduceLT, Int.reduceLE, Int.reduceEq, Int.reduceToNat, List.append_assoc, List.length_append, Vm.get_app, Vm.set_app, Vm.get_appL, Vm.get_appL0, Vm.set_appL, Vm.set_appL0, Nat.le_refl, Nat.le_add_right, okAt])
        exact ⟨L.length - (j + 1), by omega, j + 1, rfl, by omega, rfl, j, rfl, .inr ⟨j, w, rfl, hw, hi⟩⟩
      · have hvb : (0 : Nat) = 0 := rfl
        try simp only [e9, e5, e0', e3, e4, e6, e7, e8, hly, c', hib, fa2, ld2, hv', o_eqaB, hi, hwr, go_sem, V.s.injEq, Value.bool.injEq, ↓reduceIte, Nat.reduceEqDiff, Nat.reduceBEq, Nat.reduceAdd, Nat.reduceSub, Nat.reduceLT, Nat.reduceLeDiff, Int.reduceLT, Int.reduceLE, Int.reduceEq, Int.reduceToNat, List.append_assoc, List.length_append, Vm.get_app, Vm.set_app, Vm.get_appL, Vm.get_appL0, Vm.set_appL, Vm.set_appL0, Nat.le_refl, Nat.le_add_right, okAt]
        repeat' (
          first | refine wpC_cases ?_ ?_ | refine wpU_casesT ?_ ?_ | refine wpU_casesF ?_ ?_
          all_goals intro hvc
          all_goals first | replace hvc := not_of_true hvc | replace hvc := not_of_false hvc | skip
          all_goals first | subst hvc | replace hvb := And.intro hvc hvb
          all_goals try simp only [hvb, e9, e5, e0', e3, e4, e6, e7, e8, hly, c', hib, fa2, ld2, hv', o_eqaB, hi, hwr, go_sem, V.s.injEq, Value.bool.injEq, ↓reduceIte, Nat.reduceEqDiff, Nat.reduceBEq, Nat.reduceAdd, Nat.reduceSub, Nat.reduceLT, Nat.reduceLeDiff, Int.reduceLT, Int.reduceLE, Int.reduceEq, Int.reduceToNat, List.append_assoc, List.length_append, Vm.get_app, Vm.set_app, Vm.get_appL, Vm.get_appL0, Vm.set_appL, Vm.set_appL0, Nat.le_refl, Nat.le_add_right, okAt])
        refine ⟨L.length - (j + 1), by omega, j + 1, rfl, by omega, rfl, kk, rfl, ?_⟩
        rcases hkk with ⟨q1, q2⟩ | q
        · refine .inl ⟨q1, fun z hz => ?_⟩
          rw [htk] at hz
          rcases List.mem_append.1 hz with hz | hz
          · exact q2 z hz
          · simp at hz; rw [hz]; exact hi
        · exact .inr q
    · have c' : ¬ (j : Int) < L.length := by omega
      rw [List.take_of_length_le (by omega)] at hkk
      have hvb : (0 : Nat) = 0 := rfl
      try simp only [e9, e5, e0', e3, e4, e6, e7, e8, hly, c', go_sem, V.s.injEq, Value.bool.injEq, ↓reduceIte, Nat.reduceEqDiff, Nat.reduceBEq, Nat.reduceAdd, Nat.reduceSub, Nat.reduceLT, Nat.reduceLeDiff, Int.reduceLT, Int.reduceLE, Int.reduceEq, Int.reduceToNat, List.append_assoc, List.length_append, Vm.get_app, Vm.set_app, Vm.get_appL, Vm.get_appL0, Vm.set_appL, Vm.set_appL0, Nat.le_refl, Nat.le_add_right, okAt]
      repeat' (
        first | refine wpC_cases ?_ ?_ | refine wpU_casesT ?_ ?_ | refine wpU_casesF ?_ ?_
        all_goals intro hvc
        all_goals first | replace hvc := not_of_true hvc | replace hvc := not_of_false hvc | skip
        all_goals first | subst hvc | replace hvb := And.intro hvc hvb
        all_goals try simp only [hvb, e9, e5, e0', e3, e4, e6, e7, e8, hly, c', go_sem, V.s.injEq, Value.bool.injEq, ↓reduceIte, Nat.reduceEqDiff, Nat.reduceBEq, Nat.reduceAdd, Nat.reduceSub, Nat.reduceLT, Nat.reduceLeDiff, Int.reduceLT, Int.reduceLE, Int.reduceEq, Int.reduceToNat, List.append_assoc, List.length_append, Vm.get_app, Vm.set_app, Vm.get_appL, Vm.get_appL0, Vm.set_appL, Vm.set_appL0, Nat.le_refl, Nat.le_add_right, okAt])
      exact ⟨kk, rfl, hkk⟩
  · clear e9 e5 e0' e3 e4 e6 e7 e8 e
    rintro e H ⟨e5, e0', e3, e4, e6, e7, rfl, kk, e8, hkk⟩
    rw [seqK_normal]
    refine play_end h 0 x i K1 hK1 L k y H a fl hsr vv na nv hnn haw ha hv tr mr fw hk hr hL hs e e5 e0' e3 e4 e6 e7 kk e8 ?_
    rcases hkk with ⟨q1, q2⟩ | q
    · exact .inl ⟨q1, getT_none q2⟩
    · exact .inr q
theorem play_ok (b : Nat) (h : Hp) (x : V) (ys : List V) (hx : SR h x (some 60) ys) (hys : ∀ y ∈ ys, ∃ (a : Ask12) (f : V), y = a.encF f ∧ SR h f (some 52) (a.l.map KV.enc) ∧ a.wf) (hl : ys.length ≤ 140737488351232) :
    run fns pr b 25 [x] h = some (.s (.bool true), h) := by
  refine Vm.runP (nt := 179) rfl fit25 (by simp) ?_
  obtain ⟨v0, h0, en, rfl, t0, f0⟩ := TNew_ok h.length h
  have hlx := fun cf base h0 => hx.o_len (cf := cf) (base := base) (h := h0)
  have hvb : (0 : Nat) = 0 := rfl
  try simp only [B25, B25L0, en, go_sem, V.s.injEq, Value.bool.injEq, ↓reduceIte, Nat.reduceEqDiff, Nat.reduceBEq, Nat.reduceAdd, Nat.reduceSub, Nat.reduceLT, Nat.reduceLeDiff, Int.reduceLT, Int.reduceLE, Int.reduceEq, Int.reduceToNat, List.append_assoc, List.length_append, Vm.get_app, Vm.set_app, Vm.get_appL, Vm.get_appL0, Vm.set_appL, Vm.set_appL0, Nat.le_refl, Nat.le_add_right, okAt]
  repeat' (
    first | refine wpC_cases ?_ ?_ | refine wpU_casesT ?_ ?_ | refine wpU_casesF ?_ ?_
    all_goals intro hvc
    all_goals first | replace hvc := not_of_true hvc | replace hvc := not_of_false hvc | skip
    all_goals first | subst hvc | replace hvb := And.intro hvc hvb
    all_goals try simp only [hvb, B25, B25L0, en, go_sem, V.s.injEq, Value.bool.injEq, ↓reduceIte, Nat.reduceEqDiff, Nat.reduceBEq, Nat.reduceAdd, Nat.reduceSub, Nat.reduceLT, Nat.reduceLeDiff, Int.reduceLT, Int.reduceLE, Int.reduceEq, Int.reduceToNat, List.append_assoc, List.length_append, Vm.get_app, Vm.set_app, Vm.get_appL, Vm.get_appL0, Vm.set_appL, Vm.set_appL0, Nat.le_refl, Nat.le_add_right, okAt])
  refine wp_for (fun m e H => ∃ i : Nat, m = 50 - i ∧ i ≤ 50 ∧ i ≤ ys.length ∧ ∃ L k y, PI h x ys e H i L k y)
    (fun e H => e 3 = .ptr h.length [0] 1 ∧ Fw [] h H) 50 _ _ ⟨0, rfl, by omega, by omega, [], h.length, .imm true (some 29) [], ?_, ?_, ?_, ?_, t0, .inl ⟨true, rfl⟩, f0, Nat.le_refl _, List.Pairwise.nil, by simp, by simp⟩ ?_ ?_
  rotate_right 2
  · rintro m e H ⟨i, rfl, hi, hil, L, k, y, e5, e0', e3, e4, tr, mr, fw, hk, hr, hL, hs⟩
    by_cases c1 : i < ys.length
    case neg =>
      have c1' : ¬ (i : Int) < ys.length := by omega
      have hvb : (0 : Nat) = 0 := rfl
      try simp only [e5, e0', e3, e4, hlx, c1', go_sem, V.s.injEq, Value.bool.injEq, ↓reduceIte, Nat.reduceEqDiff, Nat.reduceBEq, Nat.reduceAdd, Nat.reduceSub, Nat.reduceLT, Nat.reduceLeDiff, Int.reduceLT, Int.reduceLE, Int.reduceEq, Int.reduceToNat, List.append_assoc, List.length_append, Vm.get_app, Vm.set_app, Vm.get_appL, Vm.get_appL0, Vm.set_appL, Vm.set_appL0, Nat.le_refl, Nat.le_add_right, okAt]
      repeat' (
        first | refine wpC_cases ?_ ?_ | refine wpU_casesT ?_ ?_ | refine wpU_casesF ?_ ?_
        all_goals intro hvc
        all_goals first | replace hvc := not_of_true hvc | replace hvc := not_of_false hvc | skip
        all_goals first | subst hvc | replace hvb := And.intro hvc hvb
        all_goals try simp only [hvb, e5, e0', e3, e4, hlx, c1', go_sem, V.s.injEq, Value.bool.injEq, ↓reduceIte, Nat.reduceEqDiff, Nat.reduceBEq, Nat.reduceAdd, Nat.reduceSub, Nat.reduceLT, Nat.reduceLeDiff, Int.reduceLT, Int.reduceLE, Int.reduceEq, Int.reduceToNat, List.append_assoc, List.length_append, Vm.get_app, Vm.set_app, Vm.get_appL, Vm.get_appL0, Vm.set_appL, Vm.set_appL0, Nat.le_refl, Nat.le_add_right, okAt])
      exact fw
    by_cases c2 : i < 50
    case neg =>
      have c1' : (i : Int) < ys.length := by omega
      have c2' : ¬ (i : Int) < 50 := by omega
      have hvb : (0 : Nat) = 0 := rfl
      try simp only [e5, e0', e3, e4, hlx, c1', c2', go_sem, V.s.injEq, Value.bool.injEq, ↓reduceIte, Nat.reduceEqDiff, Nat.reduceBEq, Nat.reduceAdd, Nat.reduceSub, Nat.reduceLT, Nat.reduceLeDiff, Int.reduceLT, Int.reduceLE, Int.reduceEq, Int.reduceToNat, List.append_assoc, List.length_append, Vm.get_app, Vm.set_app, Vm.get_appL, Vm.get_appL0, Vm.set_appL, Vm.set_appL0, Nat.le_refl, Nat.le_add_right, okAt]
      repeat' (
        first | refine wpC_cases ?_ ?_ | refine wpU_casesT ?_ ?_ | refine wpU_casesF ?_ ?_
        all_goals intro hvc
        all_goals first | replace hvc := not_of_true hvc | replace hvc := not_of_false hvc | skip
        all_goals first | subst hvc | replace hvb := And.intro hvc hvb
        all_goals try simp only [hvb, e5, e0', e3, e4, hlx, c1', c2', go_sem, V.s.injEq, Value.bool.injEq, ↓reduceIte, Nat.reduceEqDiff, Nat.reduceBEq, Nat.reduceAdd, Nat.reduceSub, Nat.reduceLT, Nat.reduceLeDiff, Int.reduceLT, Int.reduceLE, Int.reduceEq, Int.reduceToNat, List.append_assoc, List.length_append, Vm.get_app, Vm.set_app, Vm.get_appL, Vm.get_appL0, Vm.set_appL, Vm.set_appL0, Nat.le_refl, Nat.le_add_right, okAt])
      exact fw
    have c1' : (i : Int) < ys.length := by omega
    have c2' : (i : Int) < 50 := by omega
    have hwr : IntKind.i64.wrap ((i : Int) + 1) = ((i + 1 : Nat) : Int) := wrap_small (by omega)
    have hy : ys[i]? = some ys[i] := List.getElem?_eq_getElem c1
    obtain ⟨a, fl, hya, hfl0, haw⟩ := hys _ (List.getElem_mem c1)
    rw [hya] at hy
    have hxH := hx.fw fw
    have hia := fun cf base => hxH.o_ias (cf := cf) (base := base) (k := .i64) (i := i) c1
    have hlo := fun cf base => hxH.o_ld (cf := cf) (base := base) (i := i) hy rfl
    obtain ⟨id, hid⟩ : ∃ id : Bs, id = [bt (andI .i64 a.v.iD 7), 0, 0, 0] := ⟨_, rfl⟩
    have ekv := fun h' => KVault_ok h.length h' a.v id haw.v
    rw [hid] at ekv
    simp only [List.map_cons, List.map_nil, show byteV 0 = V.s (.int .u8 0) from rfl] at ekv
    rw [← hid] at ekv
    have hrm := fun cf base h => o_rem (cf := cf) (base := base) (h := h) .i64 a.v.iD 7 (by decide)
    obtain ⟨vv, hvv⟩ : ∃ vv, vv = if a.v.iD.tmod 7 = 6 then a.raw else keepV a.v id := ⟨_, rfl⟩
    have hfl := fw.len
    have gr := enc_ground (keepV a.v id)
    have grr := enc_ground a.raw
    have hke : KV.enc a.v = .st 52 [.s (.int .i64 a.v.iD), .s (.int .i64 a.v.pin), .s (.int .i64 a.v.owner), .s (.int .i64 a.v.limit), .s (.int .i64 a.v.used), .s (.int .i64 a.v.how), .s (.int .u64 a.v.gen), .imm false none (a.v.secret.map byteV)] := rfl
    have hH1 : ∀ T, TR (H ++ T) h.length k L := fun T => tr.mono (Fw.app [] H T) (by simp) (by simp)
    rw [hke] at ekv
    have hfin : ∀ (e : Env) (H' : Hp) (L' : List Vault) (k' : Nat) (y' : V), e 5 = .s (.int .i64 i) → e 0 = x → e 3 = .ptr h.length [0] 1 → e 4 = y' → TR H' h.length k' L' → MR H' h.length k' y' L' → Fw [] h H' → h.length ≤ k' → Rise L' → L'.length ≤ 4 → (∀ v ∈ L', v.secret.length ≤ 64) →
        blockK 1 (seqK (run fns pr h.length) h.length (C.reg [⟨some 25, .mv, [.t 5], none⟩, ⟨some 26, .bin .num .add, [.t 25, .c (.s (.int .i64 1))], none⟩, ⟨some 5, .mv, [.t 26], none⟩])
          (stepK (fun m e H => ∃ i, m = 50 - i ∧ i ≤ 50 ∧ i ≤ ys.length ∧ ∃ L k y, PI h x ys e H i L k y) (50 - i) (blockK 0 (midK (fun e H => e 3 = V.ptr (List.length h) [0] 1 ∧ Fw [] h H) (seqK (run fns pr h.length) h.length B25R0 (retP [Rs.t 2] h.length (V.s (Value.bool true), h))))))) .normal e H' := by
      intro e H' L' k' y' e5 e0' e3 e4 q1 q2 q3 q4 q5 q6 q7
      have hvb : (0 : Nat) = 0 := rfl
      try simp only [e5, e0', e3, e4, hwr, go_sem, V.s.injEq, Value.bool.injEq, ↓reduceIte, Nat.reduceEqDiff, Nat.reduceBEq, Nat.reduceAdd, Nat.reduceSub, Nat.reduceLT, Nat.reduceLeDiff, Int.reduceLT, Int.reduceLE, Int.reduceEq, Int.reduceToNat, List.append_assoc, List.length_append, Vm.get_app, Vm.set_app, Vm.get_appL, Vm.get_appL0, Vm.set_appL, Vm.set_appL0, Nat.le_refl, Nat.le_add_right, okAt]
      repeat' (
        first | refine wpC_cases ?_ ?_ | refine wpU_casesT ?_ ?_ | refine wpU_casesF ?_ ?_
        all_goals intro hvc
        all_goals first | replace hvc := not_of_true hvc | replace hvc := not_of_false hvc | skip
        all_goals first | subst hvc | replace hvb := And.intro hvc hvb
        all_goals try simp only [hvb, e5, e0', e3, e4, hwr, go_sem, V.s.injEq, Value.bool.injEq, ↓reduceIte, Nat.reduceEqDiff, Nat.reduceBEq, Nat.reduceAdd, Nat.reduceSub, Nat.reduceLT, Nat.reduceLeDiff, Int.reduceLT, Int.reduceLE, Int.reduceEq, Int.reduceToNat, List.append_assoc, List.length_append, Vm.get_app, Vm.set_app, Vm.get_appL, Vm.get_appL0, Vm.set_appL, Vm.set_appL0, Nat.le_refl, Nat.le_add_right, okAt])
      exact ⟨50 - (i + 1), by omega, i + 1, rfl, by omega, by omega, L', k', y', by simp only [go_sem, Nat.reduceEqDiff, ↓reduceIte], by simp only [go_sem, e0', Nat.reduceEqDiff, ↓reduceIte], by simp only [go_sem, e3, Nat.reduceEqDiff, ↓reduceIte], by simp only [go_sem, e4, Nat.reduceEqDiff, ↓reduceIte], q1, q2, q3, q4, q5, q6, q7⟩
    have hmid := fun (vv : Vault) => play_mid h x i _ hfin L k y (H ++ [.cells (some 60) [a.encF fl], .cells (some 29) [vv.enc]]) a fl hfl0 vv H.length (H.length + 1) ⟨by omega, by have := tr.lt; omega⟩ haw (by rw [get_app0]; rfl) (by rw [get_app]; rfl) (hH1 _) (mr.mono (Fw.app _ _ _) (.inl rfl)) (fw.trans (Fw.app _ _ _)) hk hr hL hs
    by_cases c6 : a.v.iD.tmod 7 = 6
    · have hvb : (0 : Nat) = 0 := rfl
      try simp only [e5, e0', e3, e4, hlx, c1', c2', hia, hlo, hwr, Ask12.encF, hke, ekv, bt_v, hrm, c6, enc_tyV, enc_soV, gr, grr, hfl, go_sem, V.s.injEq, Value.bool.injEq, ↓reduceIte, Nat.reduceEqDiff, Nat.reduceBEq, Nat.reduceAdd, Nat.reduceSub, Nat.reduceLT, Nat.reduceLeDiff, Int.reduceLT, Int.reduceLE, Int.reduceEq, Int.reduceToNat, List.append_assoc, List.length_append, Vm.get_app, Vm.set_app, Vm.get_appL, Vm.get_appL0, Vm.set_appL, Vm.set_appL0, Nat.le_refl, Nat.le_add_right, okAt]
      repeat' (
        first | refine wpC_cases ?_ ?_ | refine wpU_casesT ?_ ?_ | refine wpU_casesF ?_ ?_
        all_goals intro hvc
        all_goals first | replace hvc := not_of_true hvc | replace hvc := not_of_false hvc | skip
        all_goals first | subst hvc | replace hvb := And.intro hvc hvb
        all_goals try simp only [hvb, e5, e0', e3, e4, hlx, c1', c2', hia, hlo, hwr, Ask12.encF, hke, ekv, bt_v, hrm, c6, enc_tyV, enc_soV, gr, grr, hfl, go_sem, V.s.injEq, Value.bool.injEq, ↓reduceIte, Nat.reduceEqDiff, Nat.reduceBEq, Nat.reduceAdd, Nat.reduceSub, Nat.reduceLT, Nat.reduceLeDiff, Int.reduceLT, Int.reduceLE, Int.reduceEq, Int.reduceToNat, List.append_assoc, List.length_append, Vm.get_app, Vm.set_app, Vm.get_appL, Vm.get_appL0, Vm.set_appL, Vm.set_appL0, Nat.le_refl, Nat.le_add_right, okAt])
      exact hmid a.raw _ (by simp only [go_sem, e5, Nat.reduceEqDiff, ↓reduceIte]) (by simp only [go_sem, e0', Nat.reduceEqDiff, ↓reduceIte]) (by simp only [go_sem, e3, Nat.reduceEqDiff, ↓reduceIte]) (by simp only [go_sem, e4, Nat.reduceEqDiff, ↓reduceIte]) (by simp only [go_sem, Nat.reduceEqDiff, ↓reduceIte]) (by simp only [go_sem, Nat.reduceEqDiff, ↓reduceIte]) (by simp only [go_sem, Nat.reduceEqDiff, ↓reduceIte]) (by simp only [go_sem, Nat.reduceEqDiff, ↓reduceIte])
    · have hvb : (0 : Nat) = 0 := rfl
      try simp only [e5, e0', e3, e4, hlx, c1', c2', hia, hlo, hwr, Ask12.encF, hke, ekv, bt_v, hrm, c6, enc_tyV, enc_soV, gr, grr, hfl, go_sem, V.s.injEq, Value.bool.injEq, ↓reduceIte, Nat.reduceEqDiff, Nat.reduceBEq, Nat.reduceAdd, Nat.reduceSub, Nat.reduceLT, Nat.reduceLeDiff, Int.reduceLT, Int.reduceLE, Int.reduceEq, Int.reduceToNat, List.append_assoc, List.length_append, Vm.get_app, Vm.set_app, Vm.get_appL, Vm.get_appL0, Vm.set_appL, Vm.set_appL0, Nat.le_refl, Nat.le_add_right, okAt]
      repeat' (
        first | refine wpC_cases ?_ ?_ | refine wpU_casesT ?_ ?_ | refine wpU_casesF ?_ ?_
        all_goals intro hvc
        all_goals first | replace hvc := not_of_true hvc | replace hvc := not_of_false hvc | skip
        all_goals first | subst hvc | replace hvb := And.intro hvc hvb
        all_goals try simp only [hvb, e5, e0', e3, e4, hlx, c1', c2', hia, hlo, hwr, Ask12.encF, hke, ekv, bt_v, hrm, c6, enc_tyV, enc_soV, gr, grr, hfl, go_sem, V.s.injEq, Value.bool.injEq, ↓reduceIte, Nat.reduceEqDiff, Nat.reduceBEq, Nat.reduceAdd, Nat.reduceSub, Nat.reduceLT, Nat.reduceLeDiff, Int.reduceLT, Int.reduceLE, Int.reduceEq, Int.reduceToNat, List.append_assoc, List.length_append, Vm.get_app, Vm.set_app, Vm.get_appL, Vm.get_appL0, Vm.set_appL, Vm.set_appL0, Nat.le_refl, Nat.le_add_right, okAt])
      exact hmid (keepV a.v id) _ (by simp only [go_sem, e5, Nat.reduceEqDiff, ↓reduceIte]) (by simp only [go_sem, e0', Nat.reduceEqDiff, ↓reduceIte]) (by simp only [go_sem, e3, Nat.reduceEqDiff, ↓reduceIte]) (by simp only [go_sem, e4, Nat.reduceEqDiff, ↓reduceIte]) (by simp only [go_sem, Nat.reduceEqDiff, ↓reduceIte]) (by simp only [go_sem, Nat.reduceEqDiff, ↓reduceIte]) (by simp only [go_sem, Nat.reduceEqDiff, ↓reduceIte]) (by simp only [go_sem, Nat.reduceEqDiff, ↓reduceIte])
  · rintro e H ⟨e3, fw⟩
    have htk := fw.take
    have hvb : (0 : Nat) = 0 := rfl
    try simp only [B25R0, e3, htk, go_sem, V.s.injEq, Value.bool.injEq, ↓reduceIte, Nat.reduceEqDiff, Nat.reduceBEq, Nat.reduceAdd, Nat.reduceSub, Nat.reduceLT, Nat.reduceLeDiff, Int.reduceLT, Int.reduceLE, Int.reduceEq, Int.reduceToNat, List.append_assoc, List.length_append, Vm.get_app, Vm.set_app, Vm.get_appL, Vm.get_appL0, Vm.set_appL, Vm.set_appL0, Nat.le_refl, Nat.le_add_right, okAt]
    repeat' (
      first | refine wpC_cases ?_ ?_ | refine wpU_casesT ?_ ?_ | refine wpU_casesF ?_ ?_
      all_goals intro hvc
      all_goals first | replace hvc := not_of_true hvc | replace hvc := not_of_false hvc | skip
      all_goals first | subst hvc | replace hvb := And.intro hvc hvb
      all_goals try simp only [hvb, B25R0, e3, htk, go_sem, V.s.injEq, Value.bool.injEq, ↓reduceIte, Nat.reduceEqDiff, Nat.reduceBEq, Nat.reduceAdd, Nat.reduceSub, Nat.reduceLT, Nat.reduceLeDiff, Int.reduceLT, Int.reduceLE, Int.reduceEq, Int.reduceToNat, List.append_assoc, List.length_append, Vm.get_app, Vm.set_app, Vm.get_appL, Vm.get_appL0, Vm.set_appL, Vm.set_appL0, Nat.le_refl, Nat.le_add_right, okAt])
  all_goals rfl
end Go.Proofs.Ytdhgcdkinehomaa
