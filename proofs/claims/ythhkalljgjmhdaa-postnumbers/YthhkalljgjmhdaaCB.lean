/- The functions, by number; each is the program's. Conditions: none. -/
import Derived.Test.YthhkalljgjmhdaaCA1
namespace Go.Proofs.Ythhkalljgjmhdaa
open Go Go.Vm Go.Proofs
set_option linter.unusedVariables false
theorem lay_ok : (layOf Try.prog).OK := layOf_OK (by kernel_rfl)
def fns : Nat → Option Go.Vm.Fn := fun
  | 3 => some F3
  | 4 => some F4
  | 5 => some F5
  | 6 => some F6
  | 7 => some F7
  | 8 => some F8
  | 9 => some F9
  | 10 => some F10
  | 11 => some F11
  | 12 => some F12
  | 13 => some F13
  | 14 => some F14
  | 15 => some F15
  | 16 => some F16
  | 17 => some F17
  | 18 => some F18
  | 19 => some F19
  | 20 => some F20
  | 21 => some F21
  | 22 => some F22
  | 23 => some F23
  | 24 => some F24
  | 25 => some F25
  | 27 => some F27
  | 28 => some F28
  | _ => none
theorem fns_ok : FnsOK Try.prog fns := by
  intro f F hf
  unfold fns at hf
  split at hf
  · cases hf; exact ⟨_, _, Try.func3, okF3⟩
  · cases hf; exact ⟨_, _, Try.func4, okF4⟩
  · cases hf; exact ⟨_, _, Try.func5, okF5⟩
  · cases hf; exact ⟨_, _, Try.func6, okF6⟩
  · cases hf; exact ⟨_, _, Try.func7, okF7⟩
  · cases hf; exact ⟨_, _, Try.func8, okF8⟩
  · cases hf; exact ⟨_, _, Try.func9, okF9⟩
  · cases hf; exact ⟨_, _, Try.func10, okF10⟩
  · cases hf; exact ⟨_, _, Try.func11, okF11⟩
  · cases hf; exact ⟨_, _, Try.func12, okF12⟩
  · cases hf; exact ⟨_, _, Try.func13, okF13⟩
  · cases hf; exact ⟨_, _, Try.func14, okF14⟩
  · cases hf; exact ⟨_, _, Try.func15, okF15⟩
  · cases hf; exact ⟨_, _, Try.func16, okF16⟩
  · cases hf; exact ⟨_, _, Try.func17, okF17⟩
  · cases hf; exact ⟨_, _, Try.func18, okF18⟩
  · cases hf; exact ⟨_, _, Try.func19, okF19⟩
  · cases hf; exact ⟨_, _, Try.func20, okF20⟩
  · cases hf; exact ⟨_, _, Try.func21, okF21⟩
  · cases hf; exact ⟨_, _, Try.func22, okF22⟩
  · cases hf; exact ⟨_, _, Try.func23, okF23⟩
  · cases hf; exact ⟨_, _, Try.func24, okF24⟩
  · cases hf; exact ⟨_, _, Try.func25, okF25⟩
  · cases hf; exact ⟨_, _, Try.func27, okF27⟩
  · cases hf; exact ⟨_, _, Try.func28, okF28⟩
  · cases hf
end Go.Proofs.Ythhkalljgjmhdaa
