/- Post: the statements' own functions. Conditions: none. -/
import Derived.Test.YthhkalljgjmhdaaCS21
namespace Go.Proofs.Ythhkalljgjmhdaa
open Go Go.Vm Go.Proofs Go.Cl
set_option linter.unusedSimpArgs false
set_option linter.unusedVariables false

theorem OR.ltk {h : Hp} {id k : Nat} {O : List It} (ho : OR h id k O) : k < h.length := by
  obtain ⟨x, h1, _, h3⟩ := ho
  rcases h3 with ⟨_, _, rfl⟩ | ⟨es, _, _, h4, _⟩
  · exact lt_of_get h1
  · exact lt_of_get h4
theorem PPut_yes (b : Nat) (h : Hp) (id k : Nat) (O : List It) (l : Letter) (hb : b ≤ id) (hbk : b ≤ k) (ho : OR h id k O) (hl : l.bytes.length ≤ 8192) (hO : O.length < 64) :
    ∃ h' k', run fns pr b 7 [.ptr id [0] 1, l.enc] h = some (.s (.bool true), h') ∧ (k' = k ∨ h.length ≤ k') ∧ b ≤ k' ∧ OR h' id k' (O ++ [(l, false)]) ∧ Fw [id, k] h h' := by
  obtain ⟨v, h', e, rfl, k', hk, o, f⟩ := PPut_ok b h id k O l hb hbk ho (by simp [Letter.ok]; omega)
  have hp : puts O l = true := by simp [puts, hl, hO]
  rw [hp] at e; rw [if_pos hp] at o
  have := ho.lt
  exact ⟨h', k', e, hk, by rcases hk with h | h <;> omega, o, f⟩
theorem _root_.Go.Vm.Fw.two {S : List Nat} {a b c : Hp} {i k : Nat} (h : Fw S a b) (f : Fw [i, k] b c) (hi : a.length ≤ i) (hk : a.length ≤ k) : Fw S a c :=
  h.new f (by simp; omega)

theorem known21_ok (b : Nat) (h : Hp) : run fns pr b 8 [] h = some (.s (.bool true), h) := by
  refine Vm.runP (nt := 85) rfl fit8 (by simp) ?_
  have hb := Nat.le_refl h.length
  let L : Letter := ⟨1, 0, 5, [120]⟩
  let Z : Blk := .cells (some 25) [.st 25 [.s (.int .i64 0), .s (.int .i64 0), .s (.int .i64 0), .imm false none []]]
  let Y : Blk := .cells (some 25) [L.enc]
  obtain ⟨v1, h1, e1, rfl, o1, f1⟩ := PNew_ok h.length h
  obtain ⟨h2, k, e2, hk, hbk, o2, f2⟩ := PPut_yes h.length (h1 ++ [.dead]) h.length h.length [] L hb hb (o1.mono (Fw.app [] _ _) (by simp) (by simp)) (by simp [L]) (by simp)
  obtain ⟨v3, h3, e3, rfl, o3, f3⟩ := Hold_ok h.length h2 h.length k _ 0 hbk o2
  replace o3 : OR h3 h.length k [(L, true)] := o3
  obtain ⟨v4, h4, e4, rfl, o4, f4⟩ := Hold_ok h.length h3 h.length k _ 0 hbk o3
  replace o4 : OR h4 h.length k [(L, true)] := o4
  obtain ⟨v5, h5, e5, rfl, o5, f5⟩ := Take_ok h.length h4 h.length k _ 0 hb hbk o4 (by decide)
  replace o5 : OR h5 h.length k [(L, true)] := o5
  have o5' := o5.mono (Fw.app [] h5 [Z]) (by simp) (by simp)
  have e6 := At_ok h.length (h5 ++ [Z]) h.length k _ 0 o5'
  have o6 := o5.mono (Fw.app [] h5 [Z, Y]) (by simp) (by simp)
  have e7 := First_ok h.length (h5 ++ [Z, Y]) h.length k _ o6 (by decide)
  obtain ⟨v8, h8, e8, rfl, o8, f8⟩ := Free_ok h.length (h5 ++ [Z, Y]) h.length k _ 0 hbk o6
  replace o8 : OR h8 h.length k [(L, false)] := o8
  obtain ⟨v9, h9, e9, rfl, o9, f9⟩ := Take_ok h.length h8 h.length k _ 0 hb hbk o8 (by decide)
  replace o9 : OR h9 h.length k [] := o9
  have e10 := Len_ok h.length (h9 ++ [Y]) h.length k _ (o9.mono (Fw.app [] h9 [Y]) (by simp) (by simp))
  have F : Fw [] h h9 := (((((((f1.trans (Fw.app [] h1 [.dead])).two f2 hb hb).two f3 hb hbk).two f4 hb hbk).two f5 hb hbk).trans (Fw.app [] h5 [Z, Y])).two f8 hb hbk).two f9 hb hbk
  have T := (F.trans (Fw.app [] h9 [Y])).take
  have hk2 := o2.ltk
  have hi1 := o1.lt
  have l2 := f2.len; have l3 := f3.len; have l4 := f4.len; have l5 := f5.len; have l1 := f1.len; have l8 := f8.len; have l9 := f9.len
  have lb5 : h.length ≤ h5.length := by simp at l2; omega
  have lb6 : h.length ≤ h5.length + 1 := by omega
  have lb9 : h.length ≤ h9.length := by simp at l2 l8; omega
  have g8 : h9[h5.length + 1]? = some Y := f9.old _ _ (f8.old _ _ (by rw [get_app]; rfl) (by simp; simp at l2; omega)) (by simp; simp at l2; omega)
  have g9 := get_old g8 [Y]
  have g10 := get_old g8 [Z]
  have q := fun cf base h0 => o_b2s cf base h0 _ none [120] (elems_imm h0 false none _)
  replace e3 : run fns pr h.length 13 [.ptr h.length [0] 1, .s (.int .i64 0)] h2 = some (.s (.bool true), h3) := e3
  replace e4 : run fns pr h.length 13 [.ptr h.length [0] 1, .s (.int .i64 0)] h3 = some (.s (.bool false), h4) := e4
  replace e5 : run fns pr h.length 10 [.ptr h.length [0] 1, .s (.int .i64 0)] h4 = some (.tup [(⟨0, 0, 0, []⟩ : Letter).enc, .s (.bool false)], h5) := e5
  replace e6 : run fns pr h.length 18 [.ptr h.length [0] 1, .s (.int .i64 0)] (h5 ++ [Z]) = some (.tup [L.enc, .s (.bool true)], h5 ++ [Z]) := e6
  replace e7 : run fns pr h.length 19 [.ptr h.length [0] 1] (h5 ++ [Z, Y]) = some (.s (.int .i64 (-1)), h5 ++ [Z, Y]) := e7
  replace e8 : run fns pr h.length 14 [.ptr h.length [0] 1, .s (.int .i64 0)] (h5 ++ [Z, Y]) = some (.s (.bool true), h8) := e8
  replace e9 : run fns pr h.length 10 [.ptr h.length [0] 1, .s (.int .i64 0)] h8 = some (.tup [L.enc, .s (.bool true)], h9) := e9
  replace e10 : run fns pr h.length 20 [.ptr h.length [0] 1] (h9 ++ [Y]) = some (.s (.int .i64 0), h9 ++ [Y]) := e10
  replace e2 : run fns pr h.length 7 [.ptr h.length [0] 1, .st 25 [.s (.int .i64 1), .s (.int .i64 0), .s (.int .i64 5), .imm false none [.s (.int .u8 120)]]] (h1 ++ [.dead]) = some (.s (.bool true), h2) := e2
  simp only [Z, Y, L, Letter.enc, go_sem, simprocAttr, byteV] at e2 e5 e6 e7 e8 e9 e10 T g9 g10 q
  simp only [B8, go_sem, simprocAttr, List.append_assoc, List.length_append, Vm.get_app, Vm.set_app, Vm.get_appL, Vm.get_appL0, Vm.set_appL, Vm.set_appL0, Nat.le_refl, Nat.le_add_right, e1, e2, e3, e4, e5, e6, e7, e8, e9, e10, T, g9, g10, q, lb5, lb6, lb9]
end Go.Proofs.Ythhkalljgjmhdaa
