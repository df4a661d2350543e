/- Post: letters whose bytes stand anywhere. Conditions: none. -/
import Derived.Test.YthhkalljgjmhdaaCS21S
namespace Go.Proofs.Ythhkalljgjmhdaa
open Go Go.Vm Go.Proofs Go.Cl
set_option linter.unusedSimpArgs false
set_option linter.unusedVariables false
set_option maxRecDepth 100000
/-- A letter whose bytes are this slice's. -/
def LV (l : Letter) (bv : V) : V := .st 25 [.s (.int .i64 l.kind), .s (.int .i64 l.from_), .s (.int .i64 l.to_), bv]
theorem ownB_ok (b : Nat) (h : Hp) (l : Letter) (bv : V) (hbv : BR h bv l.bytes) (hl : l.ok) : run fns pr b 17 [LV l bv] h = some (l.enc, h) := by
  refine Vm.runP (nt := 8) rfl fit17 (by simp) ?_
  have hcl := fun T => clone_ok (b := h.length) (h := h ++ T) (hbv.mono (Fw.app [] h T)) (by simp [Letter.ok] at hl; omega)
  have hbt := hbv.ty
  have hbs := hbv.solid
  simp only [B17, LV, Letter.enc, hcl, hbt, hbs, go_sem, V.s.injEq, Value.bool.injEq, simprocAttr, List.append_assoc, List.length_append, Vm.get_app, Vm.set_app, Vm.get_appL, Vm.get_appL0, Vm.set_appL, Vm.set_appL0, Nat.le_refl, Nat.le_add_right, okAt]
theorem CutB_ok (b : Nat) (h : Hp) (x : V) (l : Bs) (hx : BR h x l) : ∃ w, run fns pr b 15 [x, .s (.int .i64 30)] h = some (w, h) ∧ BR h w (l.take 30) := by
  have hlen := fun cf base h0 => hx.o_len (cf := cf) (base := base) (h := h0)
  have hlo : ∀ id off len tot, h[id]? ≠ none → frzV h.length h (.ref id [] none off len tot) = some (.ref id [] none off len tot) := fun id off len tot hn => by
    have : id < h.length := by
      cases e : h[id]? with
      | none => exact absurd e hn
      | some _ => exact lt_of_get e
    simp [frzV, V.low, this]
  by_cases c : 30 < l.length
  · have c' : (30 : Int) < (l.length : Nat) := by omega
    have hi := fun cf base => hx.sr.o_hi (cf := cf) (base := base) (k := .i64) (r := 30) (by simp; omega)
    have h2 := (hx.sr.cutP (l := 0) (r := 30) (by omega) (by simp; omega)).2
    rw [List.drop_zero, Nat.sub_zero, ← List.map_take] at h2
    simp only [Int.cast_ofNat_Int] at hi
    rcases hx with ⟨f, rfl⟩ | ⟨id, off, bl, rfl, g1, g2, g3⟩
    · refine ⟨.imm false none ((l.take 30).map byteV), ?_, BR_imm _ _ _⟩
      refine Vm.runP (nt := 13) rfl fit15 (by simp) ?_
      obtain ⟨f', e⟩ : ∃ f', cutP (.imm f none (l.map byteV)) none 0 30 = .imm f' none ((l.take 30).map byteV) := by simp [cutP, List.map_take]
      rw [e] at hi
      have hf := frz_imm h.length h f' none ((l.take 30).map byteV) (plain_bytes _)
      simp only [B15, hlen, c', hi, hf, go_sem, V.s.injEq, Value.bool.injEq, simprocAttr, List.append_assoc, List.length_append, Vm.get_app, Vm.set_app, Vm.get_appL, Vm.get_appL0, Vm.set_appL, Vm.set_appL0, Nat.le_refl, Nat.le_add_right, okAt]
    · refine ⟨cutP (.ref id [] none off l.length bl.length) none 0 30, ?_, ?_⟩
      · refine Vm.runP (nt := 13) rfl fit15 (by simp) ?_
        have hf := hlo id off 30 bl.length (by rw [g1]; simp)
        have e : cutP (.ref id [] none off l.length bl.length) none 0 30 = .ref id [] none off 30 bl.length := by simp [cutP]
        rw [e] at hi ⊢
        simp only [B15, hlen, c', hi, hf, go_sem, V.s.injEq, Value.bool.injEq, simprocAttr, List.append_assoc, List.length_append, Vm.get_app, Vm.set_app, Vm.get_appL, Vm.get_appL0, Vm.set_appL, Vm.set_appL0, Nat.le_refl, Nat.le_add_right, okAt]
      · refine .inr ⟨id, off, bl, by simp [cutP]; omega, g1, by simp; omega, ?_⟩
        conv => rhs; rw [← g3, List.take_take]
        rw [List.length_take]
  · have c' : ¬ (30 : Int) < (l.length : Nat) := by omega
    rw [List.take_of_length_le (by omega)]
    rcases hx with ⟨f, rfl⟩ | ⟨id, off, bl, rfl, g1, g2, g3⟩
    · refine ⟨.imm false none (l.map byteV), ?_, BR_imm _ _ _⟩
      refine Vm.runP (nt := 13) rfl fit15 (by simp) ?_
      have hf := frz_imm h.length h f none (l.map byteV) (plain_bytes _)
      simp only [B15, hlen, c', hf, go_sem, V.s.injEq, Value.bool.injEq, simprocAttr, List.append_assoc, List.length_append, Vm.get_app, Vm.set_app, Vm.get_appL, Vm.get_appL0, Vm.set_appL, Vm.set_appL0, Nat.le_refl, Nat.le_add_right, okAt]
    · refine ⟨.ref id [] none off l.length bl.length, ?_, .inr ⟨id, off, bl, rfl, g1, g2, g3⟩⟩
      refine Vm.runP (nt := 13) rfl fit15 (by simp) ?_
      have hf := hlo id off l.length bl.length (by rw [g1]; simp)
      simp only [B15, hlen, c', hf, go_sem, V.s.injEq, Value.bool.injEq, simprocAttr, List.append_assoc, List.length_append, Vm.get_app, Vm.set_app, Vm.get_appL, Vm.get_appL0, Vm.set_appL, Vm.set_appL0, Nat.le_refl, Nat.le_add_right, okAt]
theorem lettB_ok (b : Nat) (h : Hp) (l m : Letter) (v w : V) (hv : BR h v l.bytes) (hw : BR h w m.bytes) : run fns pr b 11 [LV l v, LV m w] h = some (.s (.bool (decide (l = m))), h) := by
  refine Vm.runP (nt := 33) rfl fit11 (by simp) ?_
  obtain ⟨a1, a2, a3, a4⟩ := l
  obtain ⟨c1, c2, c3, c4⟩ := m
  have hs := fun cf base T => BR.o_b2s (cf := cf) (base := base) (hv.mono (Fw.app [] h T))
  have hs' := fun cf base T => BR.o_b2s (cf := cf) (base := base) (hw.mono (Fw.app [] h T))
  have t1 := hv.ty
  have t2 := hw.ty
  have u1 := hv.solid
  have u2 := hw.solid
  have he : (decide ((⟨a4.toArray⟩ : ByteArray) = ⟨c4.toArray⟩)) = decide (a4 = c4) := by
    rw [decide_eq_decide]; simp
  simp only [Letter.mk.injEq]
  by_cases h1 : a1 = c1
  case neg => simp only [B11, go_sem, simprocAttr, List.append_assoc, List.length_append, Vm.get_app, Vm.set_app, Vm.get_appL, Vm.get_appL0, Vm.set_appL, Vm.set_appL0, Nat.le_refl, Nat.le_add_right, LV, hs, hs', t1, t2, u1, u2, he, Bool.beq_eq_decide_eq, h1, false_and, and_false, true_and, decide_false, decide_true]
  by_cases h2 : a2 = c2
  case neg => simp only [B11, go_sem, simprocAttr, List.append_assoc, List.length_append, Vm.get_app, Vm.set_app, Vm.get_appL, Vm.get_appL0, Vm.set_appL, Vm.set_appL0, Nat.le_refl, Nat.le_add_right, LV, hs, hs', t1, t2, u1, u2, he, Bool.beq_eq_decide_eq, h1, h2, false_and, and_false, true_and, decide_false, decide_true]
  by_cases h3 : a3 = c3
  case neg => simp only [B11, go_sem, simprocAttr, List.append_assoc, List.length_append, Vm.get_app, Vm.set_app, Vm.get_appL, Vm.get_appL0, Vm.set_appL, Vm.set_appL0, Nat.le_refl, Nat.le_add_right, LV, hs, hs', t1, t2, u1, u2, he, Bool.beq_eq_decide_eq, h1, h2, h3, false_and, and_false, true_and, decide_false, decide_true]
  simp only [B11, LV, hs, hs', t1, t2, u1, u2, he, Bool.beq_eq_decide_eq, h1, h2, h3, true_and, decide_true, go_sem, V.s.injEq, Value.bool.injEq, simprocAttr, List.append_assoc, List.length_append, Vm.get_app, Vm.set_app, Vm.get_appL, Vm.get_appL0, Vm.set_appL, Vm.set_appL0, Nat.le_refl, Nat.le_add_right, okAt]
theorem PPutB_ok (b : Nat) (h : Hp) (id k : Nat) (O : List It) (l : Letter) (bv : V) (hbv : BR h bv l.bytes) (hb : b ≤ id) (hbk : b ≤ k) (ho : OR h id k O) (hl : l.ok) :
    ∃ v h', run fns pr b 7 [.ptr id [0] 1, LV l bv] h = some (v, h') ∧ v = .s (.bool (puts O l)) ∧ ∃ k', (k' = k ∨ h.length ≤ k') ∧ OR h' id k' (if puts O l = true then O ++ [(l, false)] else O) ∧ Fw [id, k] h h' := by
  refine Vm.runQ (nt := 29) rfl fit7 (by simp) ?_
  let Z : Blk := .cells (some 25) [LV l bv]
  let Y : Blk := .cells none [item (l, false)]
  have ho' := ho.mono (Fw.app [] h [Z]) (by simp) (by simp)
  have hown := ownB_ok b (h ++ [Z]) l bv (hbv.mono (Fw.app [] h [Z])) hl
  have hlb := fun cf base h0 => hbv.o_len (cf := cf) (base := base) (h := h0)
  have hbt := hbv.ty
  have hbs := hbv.solid
  have hbl : b ≤ h.length := by have := ho.lt; omega
  have e1 := Letter.enc_ty l
  have e2 := Letter.enc_solid l
  have e3 := Letter.enc_plain l
  obtain ⟨x, hg, hok, hcase⟩ := ho
  have hid := lt_of_get hg
  have hxl : x.ty = none ∧ lenV x = some O.length := by
    rcases hcase with ⟨rfl, rfl, rfl⟩ | ⟨es, rfl, _⟩ <;> exact ⟨rfl, rfl⟩
  obtain ⟨hx, hlx⟩ := hxl
  have hlen := fun cf base h0 => o_len cf base h0 x _ hlx
  have g1 := get_old hg [Z]
  have g2 := get_old hg [Z, Y]
  by_cases c1 : O.length < 64
  · have c1' : ¬ (64 : Int) ≤ O.length := by omega
    by_cases c2 : l.bytes.length ≤ 8192
    · have c2' : ¬ (8192 : Int) < l.bytes.length := by omega
      have hput : puts O l = true := by simp [puts, c1, c2]
      rw [hput, if_pos rfl]
      have hsrc : source (h ++ [Z, Y]) (.ref (h.length + 1) [] none 0 1 1) = some (none, [item (l, false)]) := by
        have hgY : (h ++ [Z, Y])[h.length + 1]? = some (.cells none [item (l, false)]) := by rw [get_app]; rfl
        exact (SR_ref hgY rfl).src
      have hLR : LR (h ++ [Z, Y]) none k x (O.map item) := by
        rcases hcase with ⟨rfl, rfl, rfl⟩ | ⟨es, rfl, a1, a2, a3, a4, a5⟩
        · exact .inl ⟨rfl, rfl⟩
        · exact .inr ⟨es, by simp, get_old a2 _, by simpa using a3, by simpa using a4⟩
      have hmay : mayPut b k (item (l, false)) = true := by simp [mayPut, hbk]
      have hp := hLR.push (bytes := 16) hsrc hmay (by simp; omega)
      have hi1 : item (l, false) = .iface 26 l.enc := rfl
      simp only [List.length_map] at hp
      have g3 := get_old hg [Z, Y, Y]
      rcases hp with ⟨ha, hO, rfl⟩ | ⟨es, es', hk, ha, ht, hle, fs, hfs⟩
      · simp only [Z, Y, hi1, LV, Letter.enc] at hown g1 g2 g3 ha
        simp only [B7, LV, Letter.enc, go_sem, simprocAttr, List.append_assoc, List.length_append, Vm.get_app, Vm.set_app, Vm.get_appL, Vm.get_appL0, Vm.set_appL, Vm.set_appL0, Nat.le_refl, Nat.le_add_right, hlen, hlb, hbt, hbs, hbl, c1', c2', hown, g1, g2, g3, hid, hx, okAt, hb, ha]
        have hO' : O = [] := by simpa using hO
        subst hO'
        refine ⟨h.length + 2, .inr (by omega), ⟨_, get_old (set_get hg) _, by simpa using hl, .inr ⟨[item (l, false)], rfl, by omega, ?_, rfl, by simp, fun l' => item_ne _ l' [] []⟩⟩, (Fw.set (by simp) hg).trans (Fw.app _ _ _)⟩
        rw [List.getElem?_append_right (by simp)]; simp [hi1, Letter.enc]
      · have hkid : k ≠ id := by
          rcases hcase with ⟨rfl, rfl, rfl⟩ | ⟨es, _, hk, _⟩
          · rw [g2] at hk; cases hk
          · exact hk
        have hidk : id ≠ k := fun h => hkid h.symm
        simp only [Z, Y, hi1, LV, Letter.enc] at hown g1 g2 ha
        simp only [B7, LV, Letter.enc, go_sem, simprocAttr, List.append_assoc, List.length_append, Vm.get_app, Vm.set_app, Vm.get_appL, Vm.get_appL0, Vm.set_appL, Vm.set_appL0, Nat.le_refl, Nat.le_add_right, hlen, hlb, hbt, hbs, hbl, c1', c2', hown, g1, g2, hx, okAt, hb, ha, hkid, hidk, hid]
        have hnb : ∀ l' : Bs, es ≠ l'.map byteV := by
          rcases hcase with ⟨rfl, rfl, rfl⟩ | ⟨es0, _, _, a2, _, _, a5⟩
          · exact absurd rfl hkid
          · have := get_old a2 [Z, Y]
            simp only [Z, Y, hi1, LV, Letter.enc] at this
            simp only [Z, Y, hi1, LV, Letter.enc] at hk
            rw [this] at hk; cases hk; exact a5
        simp only [Z, Y, hi1, LV, Letter.enc] at hk
        refine ⟨k, .inl rfl, ⟨_, set_get (b' := .cells (some 36) [.st 36 [x]]) (by rw [List.getElem?_set_ne hkid]; exact g2), ?_, .inr ⟨es', by simp, hkid, by rw [List.getElem?_set_ne hidk]; exact set_get hk, ?_, by simpa using hle, fun l' => ?_⟩⟩, ?_⟩
        · intro i hi
          rcases List.mem_append.1 hi with hi | hi
          · exact hok i hi
          · simp at hi; subst hi; exact hl
        · simpa using ht
        · rw [hfs]; exact item_ne _ l' _ _
        · exact ((Fw.app _ h _).trans (Fw.setN (by simp) hk hnb)).trans (Fw.set (es := [.st 36 [x]]) (by simp) (by rw [List.getElem?_set_ne hkid]; exact g2))
    · have c2' : (8192 : Int) < l.bytes.length := by omega
      have hput : puts O l = false := by simp [puts, c2]
      rw [hput, if_neg (by simp)]
      simp only [Z, LV, Letter.enc] at g1
      simp only [B7, LV, Letter.enc, go_sem, simprocAttr, List.append_assoc, List.length_append, Vm.get_app, Vm.set_app, Vm.get_appL, Vm.get_appL0, Vm.set_appL, Vm.set_appL0, Nat.le_refl, Nat.le_add_right, hlen, hlb, hbt, hbs, hbl, c1', c2', g1, hx]
      exact ⟨k, .inl rfl, ho', Fw.app _ _ _⟩
  · have c1' : (64 : Int) ≤ O.length := by omega
    have hput : puts O l = false := by simp [puts, c1]
    rw [hput, if_neg (by simp)]
    simp only [Z, LV, Letter.enc] at g1
    simp only [B7, LV, Letter.enc, go_sem, simprocAttr, List.append_assoc, List.length_append, Vm.get_app, Vm.set_app, Vm.get_appL, Vm.get_appL0, Vm.set_appL, Vm.set_appL0, Nat.le_refl, Nat.le_add_right, hlen, hlb, hbt, hbs, hbl, c1', g1, hx]
    exact ⟨k, .inl rfl, ho', Fw.app _ _ _⟩

end Go.Proofs.Ythhkalljgjmhdaa
