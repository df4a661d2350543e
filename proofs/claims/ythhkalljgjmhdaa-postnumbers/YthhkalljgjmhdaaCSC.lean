/- A copy of bytes: Go's own is what is said of it. Conditions: none. -/
import Derived.Test.YthhkalljgjmhdaaCT
import Derived.Test.YthhkalljgjmhdaaCMK0
import Derived.ProofKit
import Derived.WalkKit
import Derived.WalkSpells
import Derived.Lib.Hide
namespace Go.Proofs.Ythhkalljgjmhdaa
open Go Go.Vm Go.Proofs Go.Cl
set_option maxRecDepth 100000
set_option linter.unusedVariables false
set_option linter.unusedSimpArgs false
theorem qnil (w : World) (a : Option Addr) (n c : Nat) : (binOp .eql 24 (.slice a n c) (.slice none 0 0)).run Try.prog w = .ok (.bool a.isNone) w := by
  simp [binOp, Op.equal, Op.maxDepth, Lib.run_equalIn_slice_nil w 9999 24 5 a n c 0 0 Try.underlying24]

def cloneC : Go.Vm.C := (.seq (.reg [⟨some 5, .bsl none [] [], [], none⟩, ⟨some 6, .mv, [.t 0], none⟩, ⟨some 7, .app none 1, [.t 5, .t 6], none⟩, ⟨some 2, .mv, [.t 7], none⟩]) .ret)

theorem clone_tail (x : V) (h : Hp) (v : V) (h' : Hp) (hc : cloneV [x] h = some (v, h')) : ∃ fr', exec (fun _ _ _ => none) 0 cloneC [x, .tup [], .imm true none [], x, .s (.bool false), .tup [], .tup [], .tup []] h = some (.ret, fr', h') ∧ resVs fr' h' [.t 2] = some [v] := by
  simp only [cloneV] at hc
  split at hc
  case h_2 => cases hc
  rename_i es he
  have hso : source h x = some (none, es) := by
    cases x with
    | s y => simp [elems] at he
    | _ => exact he
  have happ : opV (fun _ _ _ => none) 0 h (.app none 1) [.imm true none [], x] = some (v, h') := by
    simp only [opV, opApp, hso, Option.bind_some, appendV]
    split at hc
    · rename_i h0; cases hc; simp [h0, lenV]
    · rename_i h0
      split at hc
      · rename_i h1; cases hc; simp [h0, h1]
      · cases hc
  refine ⟨[x, .tup [], v, x, .s (.bool false), .imm true none [], x, v], ?_, rfl⟩
  have h1 : ∀ fr h, opV (fun _ _ _ => none) 0 h (.bsl none [] []) (List.map (X.ev fr) []) = some (.imm true none [], h) := fun _ _ => rfl
  have h2 : runG (fun _ _ _ => none) 0 [⟨some 5, .bsl none [] [], [], none⟩, ⟨some 6, .mv, [.t 0], none⟩, ⟨some 7, .app none 1, [.t 5, .t 6], none⟩, ⟨some 2, .mv, [.t 7], none⟩] [x, .tup [], .imm true none [], x, .s (.bool false), .tup [], .tup [], .tup []] h =
      match opV (fun _ _ _ => none) 0 h (.app none 1) [.imm true none [], x] with
      | some (v, h') => some ([x, .tup [], v, x, .s (.bool false), .imm true none [], x, v], h')
      | none => none := by
    show (match opV (fun _ _ _ => none) 0 h (.app none 1) [.imm true none [], x] with
      | some (v, h') => _
      | none => none) = _
    cases opV (fun _ _ _ => none) 0 h (.app none 1) [.imm true none [], x] <;> rfl
  simp only [cloneC, exec, h2, happ, Option.map_some]

theorem clone_calls (hL : (layOf Try.prog).OK) {c : Ctx} {w : World} {x : V} {u : Value} {h : Hp} {v : V} {h' : Hp} (hc : cloneV [x] h = some (v, h')) (hx : RV (layOf Try.prog) c x u) (hs : Sim (layOf Try.prog) c h w) : CallRes Try.prog (layOf Try.prog) c w 26 [u] v h' := by
  have hsl : ∃ a n k, u = .slice a n k ∧ (a = none → n = 0 ∧ v = .imm true none [] ∧ h' = h) := by
    simp only [cloneV] at hc
    split at hc
    case h_2 => cases hc
    rename_i es he
    cases x with
    | imm f g es' =>
      obtain ⟨a, k, h1, h2, h3, h4, h5⟩ := RV_imm.1 hx
      refine ⟨a, _, k, h1, fun ha => ?_⟩
      rcases h5 with h5 | ⟨b, off, cs, ty, fz, ha', _⟩
      · simp only [elems, Option.some.injEq, Prod.mk.injEq] at he
        obtain ⟨rfl, rfl⟩ := he
        rw [if_pos h5] at hc
        cases hc
        exact ⟨by simp [h5], rfl, rfl⟩
      · rw [ha] at ha'; cases ha'
    | ref id path g off len tot =>
      obtain ⟨a, k, h1, _⟩ := RV_ref.1 hx
      exact ⟨some a, len, k, h1, fun h => by cases h⟩
    | _ => simp [elems] at he
  obtain ⟨a, n, k, rfl, hnil⟩ := hsl
  cases a with
  | none =>
    obtain ⟨rfl, rfl, rfl⟩ := hnil rfl
    have q := fun w => qnil w none 0 k
    simp only [Option.isNone_none] at q
    unfold CallRes
    go_enter Try.func26, Try.ntmps26
    go_wp2
    refine bodyPost_ret (v := .slice none 0 0) (by simp [results, Try.results26, go_sem]) rfl ?_
    exact ⟨_, rfl, c, RV_imm_nil (fun _ => rfl), hs, Ctx.le_refl _, St.refl _⟩
  | some a =>
    have q := fun w => qnil w (some a) n k
    simp only [Option.isNone_some] at q
    unfold CallRes
    go_enter Try.func26, Try.ntmps26
    refine Go.wp_seq_k fun K1 h1 => ?_
    have h1' := Lib.hid h1; clear h1
    go_wp2
    refine h1'.out _ _ ?_
    refine Go.wp_seq_k fun K2 h2 => ?_
    have h2' := Lib.hid h2; clear h2
    go_wp2
    refine h2'.out _ _ ?_
    obtain ⟨fr', hx1, hx2⟩ := clone_tail x h v h' hc
    refine code_sound (obj := ob) (k := cloneC) (base := 0) (fr := [x, .tup [], .imm true none [], x, .s (.bool false), .tup [], .tup [], .tup []]) hL (cf := fun _ _ _ => none) (fun f vs h v h' hr => by cases hr) (by kernel_rfl) ?_ hs hx1 ?_
    · exact ⟨hx, RV_tup.2 ⟨[], rfl, trivial⟩, RV_imm_nil (fun _ => rfl), hx, RV_s.2 ⟨rfl, rfl⟩, RV_tup.2 ⟨[], rfl, trivial⟩, RV_tup.2 ⟨[], rfl, trivial⟩, RV_tup.2 ⟨[], rfl, trivial⟩, trivial⟩
    · intro a1 c1 w1 p1 p2 p3 p4 p5
      obtain ⟨u, hu1, hu2⟩ := results_run hL p1 p2 (fn := Try.f26) (rs := [.t 2]) (by kernel_rfl) hx2
      exact ⟨p5, u, hu1, u, c1, rfl, hu2, p2, p3, p4⟩

theorem cloneV_keeps {vs : List V} {h : Hp} {v : V} {h' : Hp} (hc : cloneV vs h = some (v, h')) : ∃ x, vs = [x] := by
  unfold cloneV at hc
  split at hc
  · exact ⟨_, rfl⟩
  · cases hc

theorem cloneV_kp {vs : List V} {h : Hp} {v : V} {h' : Hp} (hr : cloneV vs h = some (v, h')) (base : Nat) : Kp base h h' := by
  unfold cloneV at hr
  split at hr
  · split at hr
    · split at hr
      · cases hr; exact Kp.refl _ _
      · split at hr
        · cases hr; exact Kp.append _ _ _
        · cases hr
    · cases hr
  · cases hr

end Go.Proofs.Ythhkalljgjmhdaa
