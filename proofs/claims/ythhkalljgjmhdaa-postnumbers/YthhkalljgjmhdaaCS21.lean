/- Post: what the program's functions compute. Conditions: none. -/
import Derived.Test.YthhkalljgjmhdaaCS0
import Derived.Test.YthhkalljgjmhdaaCT
namespace Go.Proofs.Ythhkalljgjmhdaa
open Go Go.Vm Go.Proofs Go.Cl
set_option linter.unusedSimpArgs false
set_option linter.unusedVariables false

theorem Letter.enc_plain (l : Letter) : l.enc.plain = true := by simp [Letter.enc, V.plain, V.plain.all, plain_bytes]
theorem Letter.enc_ty (l : Letter) : l.enc.ty = some 25 := rfl
theorem Letter.enc_solid (l : Letter) : l.enc.solid = true := rfl
abbrev Letter.ok (l : Letter) : Prop := l.bytes.length ≤ 140737488351232

theorem own_ok (b : Nat) (h : Hp) (l : Letter) (hl : l.ok) : run fns pr b 17 [l.enc] h = some (l.enc, h) := by
  refine Vm.runP (nt := 8) rfl fit17 (by simp) ?_
  obtain ⟨k, f, t, bs⟩ := l
  have hcl := fun h0 => clone_ok (b := h.length) (h := h0) (BR_imm h0 false bs) (by simp [Letter.ok] at hl; omega)
  simp only [B17, Letter.enc, go_sem, simprocAttr, List.append_assoc, List.length_append, Vm.get_app, Vm.set_app, Vm.get_appL, Vm.get_appL0, Vm.set_appL, Vm.set_appL0, Nat.le_refl, Nat.le_add_right, hcl]

/-- A place of an office: a letter; is it held? -/
abbrev It := Letter × Bool
def item (x : It) : V := if x.2 = true then .iface 52 (.st 51 [x.1.enc]) else .iface 26 x.1.enc
theorem item_plain (x : It) : (item x).plain = true := by
  unfold item; split <;> simp [V.plain, V.plain.all, Letter.enc_plain]
theorem item_ty (x : It) : (item x).ty = none := by unfold item; split <;> rfl
theorem item_solid (x : It) : (item x).solid = true := by unfold item; split <;> rfl

theorem letter_ok (b : Nat) (h : Hp) (x : It) (hx : x.1.ok) : run fns pr b 23 [item x] h = some (x.1.enc, h) := by
  refine Vm.runP (nt := 17) rfl fit23 (by simp) ?_
  obtain ⟨l, held⟩ := x
  have ho := fun h0 => own_ok h.length h0 l hx
  have h1 := Letter.enc_ty l
  have h2 := Letter.enc_solid l
  have h3 := Letter.enc_plain l
  have h4 := fun n h => frz_plain n h _ h3
  cases held with
  | true => simp only [B23, item, go_sem, simprocAttr, List.append_assoc, List.length_append, Vm.get_app, Vm.set_app, Vm.get_appL, Vm.get_appL0, Vm.set_appL, Vm.set_appL0, Nat.le_refl, Nat.le_add_right, h1, h2, h3, h4, ho]
  | false => simp only [B23, item, go_sem, simprocAttr, List.append_assoc, List.length_append, Vm.get_app, Vm.set_app, Vm.get_appL, Vm.get_appL0, Vm.set_appL, Vm.set_appL0, Nat.le_refl, Nat.le_add_right, h1, h2, h3, h4, ho]

/-- Where an office lies: its own block, its letters'. -/
def OR (h : Hp) (id k : Nat) (O : List It) : Prop :=
  ∃ x, h[id]? = some (.cells (some 36) [.st 36 [x]]) ∧ (∀ i ∈ O, i.1.ok) ∧
    ((x = .imm true none [] ∧ O = [] ∧ k = id) ∨ ∃ es, x = .ref k [] none 0 O.length es.length ∧ k ≠ id ∧ h[k]? = some (.cells none es) ∧ es.take O.length = O.map item ∧ O.length ≤ es.length ∧ ∀ l : Bs, es ≠ l.map byteV)
theorem OR.mono {S : List Nat} {h h' : Hp} {id k : Nat} {O : List It} (ho : OR h id k O) (f : Fw S h h') (hi : id ∉ S) (hk : k ∉ S) : OR h' id k O := by
  obtain ⟨x, h1, h2, h3⟩ := ho
  refine ⟨x, f.old _ _ h1 hi, h2, ?_⟩
  rcases h3 with h3 | ⟨es, a, b, c, d⟩
  · exact .inl h3
  · exact .inr ⟨es, a, b, f.old _ _ c hk, d⟩
theorem OR.lt {h : Hp} {id k : Nat} {O : List It} (ho : OR h id k O) : id < h.length := by
  obtain ⟨x, h1, _⟩ := ho; exact lt_of_get h1
/-- Its letters, as a slice. -/
theorem OR.sr {h : Hp} {id k : Nat} {O : List It} (ho : OR h id k O) : ∃ x, h[id]? = some (.cells (some 36) [.st 36 [x]]) ∧ x.ty = none ∧ lenV x = some O.length ∧ SR h x none (O.map item) ∧
    ∀ (i : Nat) (y : It), O[i]? = some y → ∀ cf base, ∃ p, opV cf base h (.ias none) [x, .s (.int .i64 i)] = some (p, h) ∧ opV cf base h (.ld none) [p] = some (item y, h) := by
  obtain ⟨x, h1, h2, h3⟩ := ho
  rcases h3 with ⟨rfl, rfl, rfl⟩ | ⟨es, rfl, hk, hg, ht, hl, hn⟩
  · exact ⟨_, h1, rfl, rfl, .inl ⟨true, rfl⟩, fun i y hy => by simp at hy⟩
  · refine ⟨_, h1, rfl, rfl, .inr ⟨k, 0, es.length, es, by simp, hg, rfl, by simpa using hl, by simpa using ht⟩, fun i y hy cf base => ?_⟩
    have hi := (List.getElem?_eq_some_iff.1 hy).1
    have he : es[i]? = some (item y) := by
      have : (es.take O.length)[i]? = (O.map item)[i]? := by rw [ht]
      rw [List.getElem?_take, if_pos hi] at this
      rw [this]; simp [hy]
    have hi0 : (0 : Int) ≤ i := by omega
    have hi1 : (i : Int) < O.length := by omega
    have hi2 : i < es.length := by omega
    refine ⟨.ptr k [i] es.length, ?_, ?_⟩
    · simp only [go_sem, simprocAttr, hg, hi0, hi1, hi2]
    · simp only [go_sem, simprocAttr, hg, he, item_ty]

theorem there_ok (b : Nat) (h : Hp) (id k : Nat) (O : List It) (i : Int) (ho : OR h id k O) : run fns pr b 21 [.ptr id [0] 1, .s (.int .i64 i)] h = some (.s (.bool (decide (0 ≤ i) && decide (i < O.length))), h) := by
  refine Vm.runP (nt := 16) rfl fit21 (by simp) ?_
  obtain ⟨x, hg, hx, hl, _, _⟩ := ho.sr
  have hlen := fun cf base h0 => o_len cf base h0 x _ hl
  by_cases h0 : 0 ≤ i
  · simp only [B21, go_sem, simprocAttr, h0, hg, hx, hlen]
  · simp only [B21, go_sem, simprocAttr, h0, hg, hx, hlen]

def heldAt (O : List It) (i : Int) : Bool := decide (0 ≤ i) && ((O[i.toNat]?).map (·.2)).getD false
theorem Held_ok (b : Nat) (h : Hp) (id k : Nat) (O : List It) (i : Int) (ho : OR h id k O) : run fns pr b 22 [.ptr id [0] 1, .s (.int .i64 i)] h = some (.s (.bool (heldAt O i)), h) := by
  refine Vm.runP (nt := 23) rfl fit22 (by simp) ?_
  have hth := there_ok h.length h id k O i ho
  obtain ⟨x, hg, hx, hl, _, hget⟩ := ho.sr
  by_cases h0 : 0 ≤ i
  · by_cases h1 : i < O.length
    · obtain ⟨m, rfl⟩ : ∃ m : Nat, i = m := ⟨i.toNat, by omega⟩
      have hm : O[m]? = some O[m] := List.getElem?_eq_getElem (by omega)
      generalize O[m] = y at hm
      obtain ⟨p, hp1, hp2⟩ := hget m y hm (run fns pr h.length) h.length
      have hh : heldAt O m = y.2 := by simp [heldAt, hm]
      rw [hh]
      obtain ⟨l, held⟩ := y
      have e1 := Letter.enc_ty l
      have e2 := Letter.enc_solid l
      cases held with
      | true => 
        simp only [item, if_true] at hp2
        simp only [B22, go_sem, simprocAttr, List.append_assoc, List.length_append, Vm.get_app, Vm.set_app, Vm.get_appL, Vm.get_appL0, Vm.set_appL, Vm.set_appL0, Nat.le_refl, Nat.le_add_right, hth, h0, h1, hg, hx, hp1, hp2]
      | false =>
        simp only [item, Bool.false_eq_true, if_false] at hp2
        simp only [B22, go_sem, simprocAttr, List.append_assoc, List.length_append, Vm.get_app, Vm.set_app, Vm.get_appL, Vm.get_appL0, Vm.set_appL, Vm.set_appL0, Nat.le_refl, Nat.le_add_right, hth, h0, h1, hg, hx, hp1, hp2]
    · have hh : heldAt O i = false := by
        have : O[i.toNat]? = none := List.getElem?_eq_none (by omega)
        simp [heldAt, this]
      rw [hh]
      simp only [B22, go_sem, simprocAttr, hth, h0, h1]
  · have hh : heldAt O i = false := by simp [heldAt, h0]
    rw [hh]
    simp only [B22, go_sem, simprocAttr, hth, h0]

theorem free1_ok (b : Nat) (h : Hp) (x : It) : run fns pr b 28 [item x] h = some (.s (.bool (!x.2)), h) := by
  refine Vm.runP (nt := 11) rfl fit28 (by simp) ?_
  obtain ⟨l, held⟩ := x
  have e1 := Letter.enc_ty l
  have e2 := Letter.enc_solid l
  cases held with
  | true => simp only [B28, item, go_sem, simprocAttr, List.append_assoc, List.length_append, Vm.get_app, Vm.set_app, Vm.get_appL, Vm.get_appL0, Vm.set_appL, Vm.set_appL0, Nat.le_refl, Nat.le_add_right, e1, e2]
  | false => simp only [B28, item, go_sem, simprocAttr, List.append_assoc, List.length_append, Vm.get_app, Vm.set_app, Vm.get_appL, Vm.get_appL0, Vm.set_appL, Vm.set_appL0, Nat.le_refl, Nat.le_add_right, e1, e2]

theorem Len_ok (b : Nat) (h : Hp) (id k : Nat) (O : List It) (ho : OR h id k O) : run fns pr b 20 [.ptr id [0] 1] h = some (.s (.int .i64 O.length), h) := by
  refine Vm.runP (nt := 8) rfl fit20 (by simp) ?_
  obtain ⟨x, hg, hx, hl, _, _⟩ := ho.sr
  have hlen := fun cf base h0 => o_len cf base h0 x _ hl
  simp only [B20, go_sem, simprocAttr, hg, hx, hlen]

theorem At_ok (b : Nat) (h : Hp) (id k : Nat) (O : List It) (i : Int) (ho : OR h id k O) : run fns pr b 18 [.ptr id [0] 1, .s (.int .i64 i)] h =
    some (.tup [(if 0 ≤ i then ((O[i.toNat]?).map (·.1)).getD ⟨0, 0, 0, []⟩ else ⟨0, 0, 0, []⟩ : Letter).enc, .s (.bool (decide (0 ≤ i) && decide (i < O.length)))], h) := by
  refine Vm.runP (nt := 19) rfl fit18 (by simp) ?_
  let Z : Blk := .cells (some 25) [.st 25 [.s (.int .i64 0), .s (.int .i64 0), .s (.int .i64 0), .imm false none []]]
  have ho' := ho.mono (Fw.app [] h [Z]) (by simp) (by simp)
  have hth := there_ok h.length (h ++ [Z]) id k O i ho'
  obtain ⟨x, hg, hx, hl, _, hget⟩ := ho'.sr
  have hok : ∀ i ∈ O, i.1.ok := by obtain ⟨_, _, h, _⟩ := ho; exact h
  simp only [Z] at hth hg hget
  by_cases h0 : 0 ≤ i
  · by_cases h1 : i < O.length
    · obtain ⟨m, rfl⟩ : ∃ m : Nat, i = m := ⟨i.toNat, by omega⟩
      have hm : O[m]? = some O[m] := List.getElem?_eq_getElem (by omega)
      generalize O[m] = y at hm
      obtain ⟨p, hp1, hp2⟩ := hget m y hm (run fns pr h.length) h.length
      have hle := letter_ok h.length (h ++ [Z]) y (hok y (List.mem_of_getElem? hm))
      simp only [Z] at hle
      have e1 := Letter.enc_ty y.1
      have e2 := Letter.enc_solid y.1
      have e3 := Letter.enc_plain y.1
      have e4 := fun n h => frz_plain n h _ e3
      simp only [B18, go_sem, simprocAttr, List.append_assoc, List.length_append, Vm.get_app, Vm.set_app, Vm.get_appL, Vm.get_appL0, Vm.set_appL, Vm.set_appL0, Nat.le_refl, Nat.le_add_right, hth, h0, h1, hg, hx, hp1, hp2, hle, e1, e2, e4, hm]
    · have hn : O[i.toNat]? = none := List.getElem?_eq_none (by omega)
      simp only [B18, go_sem, simprocAttr, List.append_assoc, List.length_append, Vm.get_app, Vm.set_app, Vm.get_appL, Vm.get_appL0, Vm.set_appL, Vm.set_appL0, Nat.le_refl, Nat.le_add_right, hth, h0, h1, hn]
      rfl
  · simp only [B18, go_sem, simprocAttr, List.append_assoc, List.length_append, Vm.get_app, Vm.set_app, Vm.get_appL, Vm.get_appL0, Vm.set_appL, Vm.set_appL0, Nat.le_refl, Nat.le_add_right, hth, h0]
    rfl

/-- Where the first that is not held stands. -/
def firstFree : List It → Nat → Int
  | [], _ => -1
  | x :: O, i => if x.2 = true then firstFree O (i + 1) else i
theorem Index_ok (b : Nat) (h : Hp) (x : V) (O : List It) (hl : lenV x = some O.length) (hmax : O.length ≤ 4611686018427387904)
    (hget : ∀ (i : Nat) (y : It), O[i]? = some y → ∀ cf base, ∃ p, opV cf base h (.ias none) [x, .s (.int .i64 i)] = some (p, h) ∧ opV cf base h (.ld none) [p] = some (item y, h)) :
    run fns pr b 27 [x, .fn 28 []] h = some (.s (.int .i64 (firstFree O 0)), h) := by
  refine Vm.runP (nt := 19) rfl fit27 (by simp) ?_
  have hlen := fun cf base h0 => o_len cf base h0 x _ hl
  simp only [B27, B27R0, B27L0, go_sem, simprocAttr, hlen]
  refine wp_while (fun n e h' => ∃ i : Nat, n = O.length - i ∧ i ≤ O.length ∧ h' = h ∧ e 8 = .s (.int .i64 i) ∧ e 7 = .s (.int .i64 O.length) ∧ e 0 = x ∧ e 1 = .fn 28 [] ∧ firstFree O 0 = firstFree (O.drop i) i) ?_ O.length _ _ ⟨0, by omega, by omega, rfl, ?_, ?_, ?_, ?_, rfl⟩
  · rintro n e h' ⟨i, rfl, hi, rfl, e8, e7, e0', e1', hf⟩
    by_cases c1 : i < O.length
    · have c1' : (i : Int) < O.length := by omega
      have hw : IntKind.i64.wrap ((i : Int) + 1) = ((i + 1 : Nat) : Int) := wrap_small (by omega)
      have hm : O[i]? = some O[i] := List.getElem?_eq_getElem c1
      have hdrop : O.drop i = O[i] :: O.drop (i + 1) := List.drop_eq_getElem_cons c1
      generalize O[i] = y at hm hdrop
      obtain ⟨p, hp1, hp2⟩ := hget i y hm (run fns pr h'.length) h'.length
      have hfr := free1_ok h'.length h' y
      rw [hdrop] at hf
      by_cases c2 : y.2 = true
      · rw [c2] at hfr
        simp only [go_sem, simprocAttr, e8, e7, e0', e1', c1', hp1, hp2, hfr, hw]
        exact ⟨O.length - (i + 1), by omega, i + 1, rfl, by omega, rfl, by rw [hf]; simp [firstFree, c2]⟩
      · have c2' : y.2 = false := by simpa using c2
        rw [c2'] at hfr
        simp only [go_sem, simprocAttr, e8, e7, e0', e1', c1', hp1, hp2, hfr]
        rw [hf]; simp [firstFree, c2]
    · have c1' : ¬ (i : Int) < O.length := by omega
      simp only [go_sem, simprocAttr, e8, e7, e0', e1', c1']
      rw [hf, List.drop_eq_nil_of_le (by omega)]; rfl
  all_goals simp only [go_sem, ↓reduceIte, Nat.reduceEqDiff, Nat.reduceBEq, Nat.reduceAdd, Nat.reduceSub, Nat.reduceLT, Nat.reduceLeDiff, Int.reduceLT, Int.reduceLE, Int.reduceEq, Int.reduceToNat]
  rfl

theorem First_ok (b : Nat) (h : Hp) (id k : Nat) (O : List It) (ho : OR h id k O) (hmax : O.length ≤ 4611686018427387904) : run fns pr b 19 [.ptr id [0] 1] h = some (.s (.int .i64 (firstFree O 0)), h) := by
  refine Vm.runP (nt := 8) rfl fit19 (by simp) ?_
  obtain ⟨x, hg, hx, hl, _, hget⟩ := ho.sr
  have hi := Index_ok h.length h x O hl hmax hget
  simp only [B19, go_sem, simprocAttr, hg, hx, hi]

theorem PNew_ok (b : Nat) (h : Hp) : ∃ v h', run fns pr b 5 [] h = some (v, h') ∧ v = .ptr h.length [0] 1 ∧ OR h' h.length h.length [] ∧ Fw [] h h' := by
  refine Vm.runQ (nt := 3) rfl fit5 (by simp) ?_
  simp only [B5, go_sem, simprocAttr]
  exact ⟨⟨_, get_app0 _ _, by simp, .inl ⟨rfl, rfl, rfl⟩⟩, Fw.app _ _ _⟩

/-- What an office takes. -/
def puts (O : List It) (l : Letter) : Bool := decide (O.length < 64) && decide (l.bytes.length ≤ 8192)
theorem item_ne (x : It) (l : Bs) (es fs : List V) : es ++ item x :: fs ≠ l.map byteV := by
  intro h
  have : item x ∈ l.map byteV := by rw [← h]; simp
  obtain ⟨b, _, hb⟩ := List.mem_map.1 this
  unfold item byteV at hb
  split at hb <;> cases hb

theorem PPut_ok (b : Nat) (h : Hp) (id k : Nat) (O : List It) (l : Letter) (hb : b ≤ id) (hbk : b ≤ k) (ho : OR h id k O) (hl : l.ok) :
    ∃ v h', run fns pr b 7 [.ptr id [0] 1, l.enc] h = some (v, h') ∧ v = .s (.bool (puts O l)) ∧ ∃ k', (k' = k ∨ h.length ≤ k') ∧ OR h' id k' (if puts O l = true then O ++ [(l, false)] else O) ∧ Fw [id, k] h h' := by
  refine Vm.runQ (nt := 29) rfl fit7 (by simp) ?_
  let Z : Blk := .cells (some 25) [l.enc]
  let Y : Blk := .cells none [item (l, false)]
  have ho' := ho.mono (Fw.app [] h [Z]) (by simp) (by simp)
  have hown := own_ok b (h ++ [Z]) l hl
  have e1 := Letter.enc_ty l
  have e2 := Letter.enc_solid l
  have e3 := Letter.enc_plain l
  have hbb : l.enc = .st 25 [.s (.int .i64 l.kind), .s (.int .i64 l.from_), .s (.int .i64 l.to_), .imm false none (l.bytes.map byteV)] := rfl
  obtain ⟨x, hg, hok, hcase⟩ := ho
  have hid := lt_of_get hg
  have hxl : x.ty = none ∧ lenV x = some O.length := by
    rcases hcase with ⟨rfl, rfl, rfl⟩ | ⟨es, rfl, _⟩ <;> exact ⟨rfl, rfl⟩
  obtain ⟨hx, hlx⟩ := hxl
  have hlen := fun cf base h0 => o_len cf base h0 x _ hlx
  have g1 := get_old hg [Z]
  have g2 := get_old hg [Z, Y]
  by_cases c1 : O.length < 64
  · have c1' : ¬ (64 : Int) ≤ O.length := by omega
    by_cases c2 : l.bytes.length ≤ 8192
    · have c2' : ¬ (8192 : Int) < l.bytes.length := by omega
      have hput : puts O l = true := by simp [puts, c1, c2]
      rw [hput, if_pos rfl]
      have hsrc : source (h ++ [Z, Y]) (.ref (h.length + 1) [] none 0 1 1) = some (none, [item (l, false)]) := by
        have hgY : (h ++ [Z, Y])[h.length + 1]? = some (.cells none [item (l, false)]) := by rw [get_app]; rfl
        exact (SR_ref hgY rfl).src
      have hLR : LR (h ++ [Z, Y]) none k x (O.map item) := by
        rcases hcase with ⟨rfl, rfl, rfl⟩ | ⟨es, rfl, a1, a2, a3, a4, a5⟩
        · exact .inl ⟨rfl, rfl⟩
        · exact .inr ⟨es, by simp, get_old a2 _, by simpa using a3, by simpa using a4⟩
      have hmay : mayPut b k (item (l, false)) = true := by simp [mayPut, hbk]
      have hp := hLR.push (bytes := 16) hsrc hmay (by simp; omega)
      have hi1 : item (l, false) = .iface 26 l.enc := rfl
      simp only [List.length_map] at hp
      have g3 := get_old hg [Z, Y, Y]
      rcases hp with ⟨ha, hO, rfl⟩ | ⟨es, es', hk, ha, ht, hle, fs, hfs⟩
      · simp only [Z, Y, hi1, Letter.enc] at hown g1 g2 g3 ha
        simp only [B7, Letter.enc, go_sem, simprocAttr, List.append_assoc, List.length_append, Vm.get_app, Vm.set_app, Vm.get_appL, Vm.get_appL0, Vm.set_appL, Vm.set_appL0, Nat.le_refl, Nat.le_add_right, hlen, c1', c2', hown, g1, g2, g3, hid, hx, okAt, hb, ha]
        have hO' : O = [] := by simpa using hO
        subst hO'
        refine ⟨h.length + 2, .inr (by omega), ⟨_, get_old (set_get hg) _, by simpa using hl, .inr ⟨[item (l, false)], rfl, by omega, ?_, rfl, by simp, fun l' => item_ne _ l' [] []⟩⟩, (Fw.set (by simp) hg).trans (Fw.app _ _ _)⟩
        rw [List.getElem?_append_right (by simp)]; simp [hi1, Letter.enc]
      · have hkid : k ≠ id := by
          rcases hcase with ⟨rfl, rfl, rfl⟩ | ⟨es, _, hk, _⟩
          · rw [g2] at hk; cases hk
          · exact hk
        have hidk : id ≠ k := fun h => hkid h.symm
        simp only [Z, Y, hi1, Letter.enc] at hown g1 g2 ha
        simp only [B7, Letter.enc, go_sem, simprocAttr, List.append_assoc, List.length_append, Vm.get_app, Vm.set_app, Vm.get_appL, Vm.get_appL0, Vm.set_appL, Vm.set_appL0, Nat.le_refl, Nat.le_add_right, hlen, c1', c2', hown, g1, g2, hx, okAt, hb, ha, hkid, hidk, hid]
        have hnb : ∀ l' : Bs, es ≠ l'.map byteV := by
          rcases hcase with ⟨rfl, rfl, rfl⟩ | ⟨es0, _, _, a2, _, _, a5⟩
          · exact absurd rfl hkid
          · have := get_old a2 [Z, Y]
            simp only [Z, Y, hi1, Letter.enc] at this
            simp only [Z, Y, hi1, Letter.enc] at hk
            rw [this] at hk; cases hk; exact a5
        simp only [Z, Y, hi1, Letter.enc] at hk
        refine ⟨k, .inl rfl, ⟨_, set_get (b' := .cells (some 36) [.st 36 [x]]) (by rw [List.getElem?_set_ne hkid]; exact g2), ?_, .inr ⟨es', by simp, hkid, by rw [List.getElem?_set_ne hidk]; exact set_get hk, ?_, by simpa using hle, fun l' => ?_⟩⟩, ?_⟩
        · intro i hi
          rcases List.mem_append.1 hi with hi | hi
          · exact hok i hi
          · simp at hi; subst hi; exact hl
        · simpa using ht
        · rw [hfs]; exact item_ne _ l' _ _
        · exact ((Fw.app _ h _).trans (Fw.setN (by simp) hk hnb)).trans (Fw.set (es := [.st 36 [x]]) (by simp) (by rw [List.getElem?_set_ne hkid]; exact g2))
    · have c2' : (8192 : Int) < l.bytes.length := by omega
      have hput : puts O l = false := by simp [puts, c2]
      rw [hput, if_neg (by simp)]
      simp only [Z, Letter.enc] at g1
      simp only [B7, Letter.enc, go_sem, simprocAttr, List.append_assoc, List.length_append, Vm.get_app, Vm.set_app, Vm.get_appL, Vm.get_appL0, Vm.set_appL, Vm.set_appL0, Nat.le_refl, Nat.le_add_right, hlen, c1', c2', g1, hx]
      exact ⟨k, .inl rfl, ho', Fw.app _ _ _⟩
  · have c1' : (64 : Int) ≤ O.length := by omega
    have hput : puts O l = false := by simp [puts, c1]
    rw [hput, if_neg (by simp)]
    simp only [Z, Letter.enc] at g1
    simp only [B7, Letter.enc, go_sem, simprocAttr, List.append_assoc, List.length_append, Vm.get_app, Vm.set_app, Vm.get_appL, Vm.get_appL0, Vm.set_appL, Vm.set_appL0, Nat.le_refl, Nat.le_add_right, hlen, c1', g1, hx]
    exact ⟨k, .inl rfl, ho', Fw.app _ _ _⟩

theorem Delete_ok (b : Nat) (h : Hp) (k n i : Nat) (es : List V) (hb : b ≤ k) (hg : h[k]? = some (.cells none es)) (hi : i < n) (hn : n ≤ es.length) (hmax : n ≤ 4611686018427387904) (hgr : ∀ y ∈ es.take n, y.ground = true) :
    ∃ v h', run fns pr b 24 [.ref k [] none 0 n es.length, .s (.int .i64 i), .s (.int .i64 ((i + 1 : Nat) : Int))] h = some (v, h') ∧ v = .ref k [] none 0 (n - 1) es.length ∧ h' = h.set k (.cells none (es.take i ++ (es.take n).drop (i + 1) ++ .s .nilIface :: es.drop n)) := by
  refine Vm.runQ (nt := 33) rfl fit24 (by simp) ?_
  have hlt := lt_of_get hg
  have hrow : Vm.rowAt h k [] es.length = some es := by simp [Vm.rowAt, Vm.rowOf, hg]
  have h3 : ∀ cf base, opV cf base h (.slc none true true true) [.ref k [] none 0 n es.length, .s (.int .i64 i), .s (.int .i64 ((i + 1 : Nat) : Int)), .s (.int .i64 n)] = some (.top, h) := by
    intro cf base
    simp only [opV, opSlc, lenV, natOf, slice3V, hrow]
    have a1 : (0 : Int) ≤ ((i + 1 : Nat) : Int) := by omega
    have a0 : (0 : Int) ≤ (i : Int) := by omega
    have a4 : (0 : Int) ≤ (n : Int) := by omega
    have a2 : ¬ i = n := by omega
    have a3 : i + 1 ≤ n := by omega
    simp only [a0, a1, a4, Int.toNat_natCast, if_true, a3, Nat.le_add_right, and_self, Nat.le_refl, true_or, a2, if_false, Option.map_some]
  have hne : ((i : Int) = ((i + 1 : Nat) : Int)) = False := eq_false (by omega)
  have h4 : ∀ cf base, opV cf base h (.slc none false true false) [.ref k [] none 0 n es.length, .s (.int .i64 i)] = some (.ref k [] none 0 i es.length, h) := by
    intro cf base
    simp [opV, opSlc, lenV, splitBounds, natOf, sliceV, hrow]
    omega
  -- behind the cut
  have key : ∃ y, (∀ cf base, opV cf base h (.slc none true false false) [.ref k [] none 0 n es.length, .s (.int .i64 ((i + 1 : Nat) : Int))] = some (y, h)) ∧
      ∃ es1, (∀ cf, opV cf b h (.app none 16) [.ref k [] none 0 i es.length, y] = some (.ref k [] none 0 (n - 1) es.length, h.set k (.cells none es1))) ∧ es1.length = es.length ∧ es1.take (n - 1) = es.take i ++ (es.take n).drop (i + 1) ∧ es1.drop n = es.drop n := by
    by_cases hc : i + 1 < n
    · refine ⟨.ref k [] none (i + 1) (n - (i + 1)) es.length, fun cf base => ?_, es.take i ++ (es.take n).drop (i + 1) ++ es.drop (n - 1), fun cf => ?_, ?_, ?_, ?_⟩
      · have a1 : i + 1 ≤ n := by omega
        have a2 : (0 : Int) ≤ ((i + 1 : Nat) : Int) := by omega
        simp only [opV, opSlc, lenV, splitBounds, natOf, sliceV, hrow, a1, a2, hc, Int.toNat_natCast, if_true, Nat.le_refl, true_or, or_true, and_self, Option.map_some, Nat.zero_add]
      · have hs : source h (.ref k [] none (i + 1) (n - (i + 1)) es.length) = some (none, (es.take n).drop (i + 1)) := by
          have : (es.drop (i + 1)).take (n - (i + 1)) = (es.take n).drop (i + 1) := by rw [List.drop_take]
          simp only [source, elems, hrow, Option.map_some, this]
        have hl : ((es.take n).drop (i + 1)).length = n - (i + 1) := by simp; omega
        have := o_app_in (cf := cf) (base := b) (bytes := 16) (off := 0) (len := i) hg hs (by intro h0; rw [h0] at hl; simp at hl; omega) (fun y hy => by
          have := hgr y (List.mem_of_mem_drop hy); simp [mayPut, this]) (by rw [hl]; omega)
        rw [this, hl]
        rw [show i + (n - (i + 1)) = n - 1 by omega]
        simp only [Nat.zero_add]
        rw [show i + (n - (i + 1)) = n - 1 by omega]
      · simp; omega
      · rw [List.take_left' (by simp; omega)]
      · rw [List.drop_append, List.drop_eq_nil_of_le (by simp; omega)]
        simp only [List.length_append, List.length_take, List.length_drop, List.nil_append, List.drop_drop]
        congr 1; omega
    · have hin : i + 1 = n := by omega
      refine ⟨.imm false none [], fun cf base => ?_, es, fun cf => ?_, rfl, ?_, rfl⟩
      · simp [opV, opSlc, lenV, splitBounds, natOf, sliceV, hrow, hin]
        omega
      · rw [o_app_none (gy := none) (n := i) rfl rfl]
        have : n - 1 = i := by omega
        rw [this]
        have : h.set k (.cells none es) = h := by
          apply List.ext_getElem?
          intro j
          rw [List.getElem?_set]
          split
          · rename_i hj; subst hj; exact hg.symm
          · rfl
        rw [this]
      · have : n - 1 = i := by omega
        rw [this, List.drop_eq_nil_of_le (by simp; omega)]; simp
  obtain ⟨y, hy, es1, hap, hl1, ht1, hd1⟩ := key
  have hg1 : (h.set k (.cells none es1))[k]? = some (.cells none es1) := set_get hg
  have hrow1 : Vm.rowAt (h.set k (.cells none es1)) k [] es.length = some es1 := by simp only [Vm.rowAt, Vm.rowOf, hg1, hl1, if_true]; rfl
  have hn1 : ((n - 1 : Nat) : Int) ≤ n := by omega
  have h5 : ∀ cf base, opV cf base (h.set k (.cells none es1)) (.slc none true true false) [.ref k [] none 0 (n - 1) es.length, .s (.int .i64 ((n - 1 : Nat) : Int)), .s (.int .i64 n)] = some (.ref k [] none (n - 1) 1 es.length, h.set k (.cells none es1)) := by
    intro cf base
    have a1 : n - (n - 1) = 1 := by omega
    have a2 : n - 1 < n := by omega
    simp [opV, opSlc, lenV, splitBounds, natOf, sliceV, hrow1, a1, a2, hl1, hn]
  have h6 : ∀ cf, opV cf b (h.set k (.cells none es1)) (.clr none (.s .nilIface)) [.ref k [] none (n - 1) 1 es.length] = some (.tup [], h.set k (.cells none (es1.take (n - 1) ++ .s .nilIface :: es1.drop n))) := by
    intro cf
    have a1 : n - 1 + 1 = n := by omega
    have a2 : Vm.rowOf (h.set k (.cells none es1)) k es.length = some (none, es1) := by simp only [Vm.rowOf, hg1, hl1, if_true]
    simp [opV, opClr, lenV, copyV, a1, a2, mayPut, hb, hn]
  rw [ht1, hd1] at h6
  simp only [B24, go_sem, simprocAttr, h3, hne, h4, hy, hap, h5, h6]

/-- A slot of an office turned. -/
theorem OR.turn {h : Hp} {id k : Nat} {O : List It} (ho : OR h id k O) {m : Nat} {y z : It} (hm : O[m]? = some y) (hz : z.1.ok) (b : Nat) (hb : b ≤ k) :
    ∃ x tot, h[id]? = some (.cells (some 36) [.st 36 [x]]) ∧ x.ty = none ∧ (∀ cf base, opV cf base h (.ias none) [x, .s (.int .i64 m)] = some (.ptr k [m] tot, h)) ∧
      (∀ cf base, opV cf base h (.ld none) [.ptr k [m] tot] = some (item y, h)) ∧
      ∃ h', (∀ cf, opV cf b h (.sto none) [.ptr k [m] tot, item z] = some (.tup [], h')) ∧ OR h' id k (O.set m z) ∧ Fw [id, k] h h' := by
  obtain ⟨x, h1, h2, h3⟩ := ho
  rcases h3 with ⟨rfl, rfl, rfl⟩ | ⟨es, rfl, hk, hg, ht, hl, hn⟩
  · simp at hm
  · have hi := (List.getElem?_eq_some_iff.1 hm).1
    have he : es[m]? = some (item y) := by
      have : (es.take O.length)[m]? = (O.map item)[m]? := by rw [ht]
      rw [List.getElem?_take, if_pos hi] at this
      rw [this]; simp [hm]
    have hi0 : (0 : Int) ≤ m := by omega
    have hi1 : (m : Int) < O.length := by omega
    have hi2 : m < es.length := by omega
    refine ⟨_, es.length, h1, rfl, fun cf base => ?_, fun cf base => ?_, h.set k (.cells none (es.set m (item z))), fun cf => ?_, ⟨.ref k [] none 0 O.length es.length, ?_, ?_, .inr ⟨es.set m (item z), by simp, hk, set_get hg, ?_, by simpa using hl, ?_⟩⟩, ?_⟩
    · simp only [go_sem, simprocAttr, hg, hi0, hi1, hi2]
    · simp only [go_sem, simprocAttr, hg, he, item_ty]
    · simp only [go_sem, simprocAttr, hg, he, item_ty, item_solid, hb]
    · rw [List.getElem?_set_ne hk]; exact h1
    · intro i hi'
      rcases List.mem_or_eq_of_mem_set hi' with h | h
      · exact h2 i h
      · rw [h]; exact hz
    · rw [List.length_set, List.take_set, ht, List.map_set]
    · intro l hl'
      have : item z ∈ l.map byteV := by rw [← hl']; exact List.mem_set hi2 _
      obtain ⟨c, _, hc⟩ := List.mem_map.1 this
      unfold item byteV at hc
      split at hc <;> cases hc
    · exact Fw.setN (by simp) hg hn

theorem Hold_ok (b : Nat) (h : Hp) (id k : Nat) (O : List It) (i : Int) (hbk : b ≤ k) (ho : OR h id k O) :
    ∃ v h', run fns pr b 13 [.ptr id [0] 1, .s (.int .i64 i)] h = some (v, h') ∧
      v = .s (.bool (decide (0 ≤ i) && decide (i < O.length) && !heldAt O i)) ∧ OR h' id k (if 0 ≤ i ∧ i < O.length ∧ heldAt O i = false then O.set i.toNat ((O.getD i.toNat default).1, true) else O) ∧ Fw [id, k] h h' := by
  refine Vm.runQ (nt := 30) rfl fit13 (by simp) ?_
  have hth := there_ok b h id k O i ho
  have hhe := Held_ok b h id k O i ho
  by_cases h0 : 0 ≤ i
  · by_cases h1 : i < O.length
    · cases hh : heldAt O i with
      | false =>
        rw [hh] at hhe
        obtain ⟨m, rfl⟩ : ∃ m : Nat, i = m := ⟨i.toNat, by omega⟩
        have hm : O[m]? = some O[m] := List.getElem?_eq_getElem (by omega)
        have hgd : O.getD m default = O[m] := by rw [List.getD_eq_getElem?_getD, hm]; rfl
        have hym : O[m] ∈ O := List.mem_of_getElem? hm
        generalize O[m] = y at hm hgd hym
        have hok : y.1.ok := by obtain ⟨_, _, h, _⟩ := ho; exact h y hym
        obtain ⟨x, tot, hg, hx, p1, p2, h2, p3, p4, p5⟩ := ho.turn hm (z := (y.1, true)) hok b hbk
        have hle := letter_ok b h y hok
        have e1 := Letter.enc_ty y.1
        have e2 := Letter.enc_solid y.1
        have hit : item (y.1, true) = .iface 52 (.st 51 [y.1.enc]) := rfl
        rw [hit] at p3
        have h1' : (m : Int) < O.length := h1
        simp only [B13, go_sem, simprocAttr, hth, hhe, h0, h1', hg, hx, p1, p2, hle, e1, e2, p3, okAt]
        rw [hgd]
        exact ⟨p4, p5⟩
      | true =>
        rw [hh] at hhe
        simp only [B13, go_sem, simprocAttr, hth, hhe, h0, h1]
        exact ⟨ho, Fw.refl _ _⟩
    · simp only [B13, go_sem, simprocAttr, hth, h0, h1]
      exact ⟨ho, Fw.refl _ _⟩
  · simp only [B13, go_sem, simprocAttr, hth, h0]
    exact ⟨ho, Fw.refl _ _⟩

theorem heldAt_in {O : List It} {i : Int} (h : heldAt O i = true) : 0 ≤ i ∧ i < O.length ∧ (O.getD i.toNat default).2 = true := by
  simp only [heldAt, Bool.and_eq_true, decide_eq_true_eq] at h
  obtain ⟨h0, h1⟩ := h
  cases hm : O[i.toNat]? with
  | none => rw [hm] at h1; simp at h1
  | some y =>
    rw [hm] at h1
    have := (List.getElem?_eq_some_iff.1 hm).1
    exact ⟨h0, by omega, by rw [List.getD_eq_getElem?_getD, hm]; exact h1⟩

theorem Free_ok (b : Nat) (h : Hp) (id k : Nat) (O : List It) (i : Int) (hbk : b ≤ k) (ho : OR h id k O) :
    ∃ v h', run fns pr b 14 [.ptr id [0] 1, .s (.int .i64 i)] h = some (v, h') ∧ v = .s (.bool (heldAt O i)) ∧ OR h' id k (if heldAt O i = true then O.set i.toNat ((O.getD i.toNat default).1, false) else O) ∧ Fw [id, k] h h' := by
  refine Vm.runQ (nt := 24) rfl fit14 (by simp) ?_
  have hhe := Held_ok b h id k O i ho
  cases hh : heldAt O i with
  | true =>
    rw [hh] at hhe
    obtain ⟨h0, h1, _⟩ := heldAt_in hh
    obtain ⟨m, rfl⟩ : ∃ m : Nat, i = m := ⟨i.toNat, by omega⟩
    have hm : O[m]? = some O[m] := List.getElem?_eq_getElem (by omega)
    have hgd : O.getD m default = O[m] := by rw [List.getD_eq_getElem?_getD, hm]; rfl
    have hym : O[m] ∈ O := List.mem_of_getElem? hm
    generalize O[m] = y at hm hgd hym
    have hok : y.1.ok := by obtain ⟨_, _, h, _⟩ := ho; exact h y hym
    obtain ⟨x, tot, hg, hx, p1, p2, h2, p3, p4, p5⟩ := ho.turn hm (z := (y.1, false)) hok b hbk
    have hle := letter_ok b h y hok
    have e1 := Letter.enc_ty y.1
    have e2 := Letter.enc_solid y.1
    have hit : item (y.1, false) = .iface 26 y.1.enc := rfl
    rw [hit] at p3
    simp only [B14, go_sem, simprocAttr, hhe, hg, hx, p1, p2, hle, e1, e2, p3, okAt]
    rw [hgd]
    exact ⟨p4, p5⟩
  | false =>
    rw [hh] at hhe
    simp only [B14, go_sem, simprocAttr, hhe]
    exact ⟨ho, Fw.refl _ _⟩

def takes (O : List It) (i : Int) : Bool := decide (0 ≤ i) && decide (i < O.length) && !heldAt O i
theorem Take_ok (b : Nat) (h : Hp) (id k : Nat) (O : List It) (i : Int) (hb : b ≤ id) (hbk : b ≤ k) (ho : OR h id k O) (hmax : O.length ≤ 4611686018427387904) :
    ∃ v h', run fns pr b 10 [.ptr id [0] 1, .s (.int .i64 i)] h = some (v, h') ∧
      v = .tup [(if takes O i = true then (O.getD i.toNat default).1 else ⟨0, 0, 0, []⟩ : Letter).enc, .s (.bool (takes O i))] ∧ OR h' id k (if takes O i = true then O.eraseIdx i.toNat else O) ∧ Fw [id, k] h h' := by
  refine Vm.runQ (nt := 37) rfl fit10 (by simp) ?_
  let Z : Blk := .cells (some 25) [.st 25 [.s (.int .i64 0), .s (.int .i64 0), .s (.int .i64 0), .imm false none []]]
  have hid := ho.lt
  have hbl : b ≤ h.length := by omega
  have hbl1 : b ≤ h.length + 1 := by omega
  have ho' := ho.mono (Fw.app [] h [Z]) (by simp) (by simp)
  have hth := there_ok b (h ++ [Z]) id k O i ho'
  have hhe := Held_ok b (h ++ [Z]) id k O i ho'
  simp only [Z] at hth hhe
  by_cases h0 : 0 ≤ i
  · by_cases h1 : i < O.length
    · cases hh : heldAt O i with
      | false =>
        have ht : takes O i = true := by simp [takes, h0, h1, hh]
        rw [hh] at hhe
        simp only [ht, if_true]
        obtain ⟨m, rfl⟩ : ∃ m : Nat, i = m := ⟨i.toNat, by omega⟩
        have hmO : m < O.length := by omega
        have hm : O[m]? = some O[m] := List.getElem?_eq_getElem hmO
        have hgd : O.getD m default = O[m] := by rw [List.getD_eq_getElem?_getD, hm]; rfl
        have hym : O[m] ∈ O := List.mem_of_getElem? hm
        generalize O[m] = y at hm hgd hym
        obtain ⟨x, hg, hok, hcase⟩ := ho
        have hyok := hok y hym
        rcases hcase with ⟨rfl, rfl, rfl⟩ | ⟨es, rfl, hk, hgk, htk, hl, hnb⟩
        · simp at hm
        · have hik : id ≠ k := fun h => hk h.symm
          have he : es[m]? = some (item y) := by
            have : (es.take O.length)[m]? = (O.map item)[m]? := by rw [htk]
            rw [List.getElem?_take, if_pos hmO] at this
            rw [this]; simp [hm]
          have hgr : ∀ z ∈ es.take O.length, z.ground = true := by
            rw [htk]; intro z hz
            obtain ⟨w, _, rfl⟩ := List.mem_map.1 hz
            exact ground_plain _ (item_plain w)
          let Y : Blk := .cells (some 25) [y.1.enc]
          have g1 := get_old hg [Z]
          have g2 := get_old hg [Z, Y]
          have k1 := get_old hgk [Z]
          have k2 := get_old hgk [Z, Y]
          have hle := letter_ok b (h ++ [Z]) y hyok
          obtain ⟨v3, h3, e3, rfl, hh3⟩ := Delete_ok b (h ++ [Z, Y]) k O.length m es hbk k2 hmO hl hmax hgr
          have hw : IntKind.i64.wrap ((m : Int) + 1) = ((m + 1 : Nat) : Int) := wrap_small (by omega)
          have q1 := Letter.enc_ty y.1
          have q2 := Letter.enc_solid y.1
          have hm1 : (m : Int) < O.length := h1
          have hmes : m < es.length := by omega
          have hkl := lt_of_get hgk
          simp only [Z, Y] at g1 g2 k1 k2 hle e3 hh3
          rw [hh3] at e3
          simp only [B10, go_sem, simprocAttr, List.append_assoc, List.length_append, Vm.get_app, Vm.set_app, Vm.get_appL, Vm.get_appL0, Vm.set_appL, Vm.set_appL0, Nat.le_refl, Nat.le_add_right, hth, hhe, h0, hm1, g1, g2, k1, k2, hmes, he, item_ty, hle, q1, q2, hw, e3, hk, hik, hid, hkl, hb, hbl, hbl1, hg, hgk]
          have hlen : (es.take m ++ ((es.take O.length).drop (m + 1) ++ V.s Value.nilIface :: es.drop O.length)).length = es.length := by simp; omega
          have hel : (O.eraseIdx m).length = O.length - 1 := by rw [List.length_eraseIdx, if_pos hmO]
          refine ⟨by rw [hgd], ⟨.ref k [] none 0 (O.length - 1) es.length, get_old (set_get (b' := .cells (some 36) [.st 36 [.ref k [] none 0 O.length es.length]]) (by rw [List.getElem?_set_ne hk]; exact hg)) _, fun i hi => hok i (List.mem_of_mem_eraseIdx hi), .inr ⟨_, by rw [hlen, hel], hk, get_old (by rw [List.getElem?_set_ne hik]; exact set_get hgk) _, ?_, by rw [hlen, hel]; omega, fun l' hl' => ?_⟩⟩, ?_⟩
          · rw [hel, ← List.append_assoc, List.take_left' (by simp; omega), List.eraseIdx_eq_take_drop_succ, List.map_append, List.map_take, List.map_drop, ← htk, List.take_take, Nat.min_eq_left (by omega)]
          · have : V.s Value.nilIface ∈ l'.map byteV := by rw [← hl']; simp
            obtain ⟨c, _, hc⟩ := List.mem_map.1 this
            cases hc
          · exact ((Fw.setN (by simp) hgk hnb).trans (Fw.set (es := [.st 36 [.ref k [] none 0 O.length es.length]]) (by simp) (by rw [List.getElem?_set_ne hk]; exact hg))).trans (Fw.app _ _ _)
      | true =>
        have ht : takes O i = false := by simp [takes, hh]
        rw [hh] at hhe
        simp only [ht, Bool.false_eq_true, if_false]
        simp only [B10, go_sem, simprocAttr, List.append_assoc, List.length_append, Vm.get_app, Vm.set_app, Vm.get_appL, Vm.get_appL0, Vm.set_appL, Vm.set_appL0, Nat.le_refl, Nat.le_add_right, hth, hhe, h0, h1, hbl]
        exact ⟨rfl, ho', Fw.app _ _ _⟩
    · have ht : takes O i = false := by simp [takes, h1]
      simp only [ht, Bool.false_eq_true, if_false]
      simp only [B10, go_sem, simprocAttr, List.append_assoc, List.length_append, Vm.get_app, Vm.set_app, Vm.get_appL, Vm.get_appL0, Vm.set_appL, Vm.set_appL0, Nat.le_refl, Nat.le_add_right, hth, h0, h1, hbl]
      exact ⟨rfl, ho', Fw.app _ _ _⟩
  · have ht : takes O i = false := by simp [takes, h0]
    simp only [ht, Bool.false_eq_true, if_false]
    simp only [B10, go_sem, simprocAttr, List.append_assoc, List.length_append, Vm.get_app, Vm.set_app, Vm.get_appL, Vm.get_appL0, Vm.set_appL, Vm.set_appL0, Nat.le_refl, Nat.le_add_right, hth, h0, hbl]
    exact ⟨rfl, ho', Fw.app _ _ _⟩

theorem Double_ok (b : Nat) (h : Hp) (id k : Nat) (O : List It) (i : Int) (hb : b ≤ id) (hbk : b ≤ k) (ho : OR h id k O) :
    ∃ v h', run fns pr b 12 [.ptr id [0] 1, .s (.int .i64 i)] h = some (v, h') ∧ v = .s (.bool (decide (0 ≤ i) && decide (i < O.length) && puts O (O.getD i.toNat default).1)) ∧
      ∃ k', (k' = k ∨ h.length ≤ k') ∧ OR h' id k' (if (decide (0 ≤ i) && decide (i < O.length) && puts O (O.getD i.toNat default).1) = true then O ++ [((O.getD i.toNat default).1, false)] else O) ∧ Fw [id, k] h h' := by
  refine Vm.runQ (nt := 19) rfl fit12 (by simp) ?_
  have hat := At_ok b h id k O i ho
  have hid := ho.lt
  have hbl : b ≤ h.length := by omega
  have z1 : (⟨0, 0, 0, []⟩ : Letter).enc.ty = some 25 := rfl
  have z2 : (⟨0, 0, 0, []⟩ : Letter).enc.solid = true := rfl
  by_cases h0 : 0 ≤ i
  · by_cases h1 : i < O.length
    · obtain ⟨m, rfl⟩ : ∃ m : Nat, i = m := ⟨i.toNat, by omega⟩
      have hm : O[m]? = some O[m] := List.getElem?_eq_getElem (by omega)
      have hgd : O.getD m default = O[m] := by rw [List.getD_eq_getElem?_getD, hm]; rfl
      have hym : O[m] ∈ O := List.mem_of_getElem? hm
      generalize O[m] = y at hm hgd hym
      have hok : y.1.ok := by obtain ⟨_, _, h, _⟩ := ho; exact h y hym
      let Y : Blk := .cells (some 25) [y.1.enc]
      obtain ⟨v2, h2, e2, rfl, k', hk', ho2, f2⟩ := PPut_ok b (h ++ [Y]) id k O y.1 hb hbk (ho.mono (Fw.app [] _ _) (by simp) (by simp)) hok
      have q1 := Letter.enc_ty y.1
      have q2 := Letter.enc_solid y.1
      have hm1 : (m : Int) < O.length := h1
      simp only [Y] at e2
      simp only [h0, hm1, Int.toNat_natCast, hm, Option.map_some, Option.getD_some, if_true, decide_true, Bool.and_self] at hat
      simp only [B12, go_sem, simprocAttr, List.append_assoc, List.length_append, Vm.get_app, Vm.set_app, Vm.get_appL, Vm.get_appL0, Vm.set_appL, Vm.set_appL0, Nat.le_refl, Nat.le_add_right, hat, q1, q2, e2, hbl]
      rw [hgd]
      refine ⟨by simp [h0, hm1], k', ?_, by simpa [h0, hm1] using ho2, (Fw.app [id, k] h [Y]).trans f2⟩
      rcases hk' with h | h
      · exact .inl h
      · refine .inr ?_; simp at h; omega
    · simp only [h0, h1, if_true, decide_true, decide_false, Bool.and_false, List.getElem?_eq_none (show O.length ≤ i.toNat by omega), Option.map_none, Option.getD_none] at hat
      simp only [B12, go_sem, simprocAttr, List.append_assoc, List.length_append, Vm.get_app, Vm.set_app, Vm.get_appL, Vm.get_appL0, Vm.set_appL, Vm.set_appL0, Nat.le_refl, Nat.le_add_right, hat, z1, z2, hbl, h1]
      exact ⟨k, .inl rfl, ho.mono (Fw.app [] _ _) (by simp) (by simp), Fw.app _ _ _⟩
  · simp only [h0, if_false, decide_false, Bool.false_and] at hat
    simp only [B12, go_sem, simprocAttr, List.append_assoc, List.length_append, Vm.get_app, Vm.set_app, Vm.get_appL, Vm.get_appL0, Vm.set_appL, Vm.set_appL0, Nat.le_refl, Nat.le_add_right, hat, z1, z2, hbl, h0]
    exact ⟨k, .inl rfl, ho.mono (Fw.app [] _ _) (by simp) (by simp), Fw.app _ _ _⟩
end Go.Proofs.Ythhkalljgjmhdaa
