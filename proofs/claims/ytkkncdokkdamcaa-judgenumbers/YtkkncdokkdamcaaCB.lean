/- The functions, by number; each is the program's. Conditions: none. -/
import Derived.Test.YtkkncdokkdamcaaCA2
namespace Go.Proofs.Ytkkncdokkdamcaa
open Go Go.Vm Go.Proofs
set_option linter.unusedVariables false
theorem lay_ok : (layOf Try.prog).OK := layOf_OK (by kernel_rfl)
def fns : Nat → Option Go.Vm.Fn := fun
  | 4 => some F4
  | 5 => some F5
  | 6 => some F6
  | 7 => some F7
  | 8 => some F8
  | 9 => some F9
  | 10 => some F10
  | 11 => some F11
  | 12 => some F12
  | 13 => some F13
  | 14 => some F14
  | 15 => some F15
  | 16 => some F16
  | 17 => some F17
  | 18 => some F18
  | 19 => some F19
  | 20 => some F20
  | 21 => some F21
  | 22 => some F22
  | 23 => some F23
  | 24 => some F24
  | 25 => some F25
  | 26 => some F26
  | 27 => some F27
  | 28 => some F28
  | 29 => some F29
  | 30 => some F30
  | 31 => some F31
  | 32 => some F32
  | 33 => some F33
  | 34 => some F34
  | 35 => some F35
  | 36 => some F36
  | 37 => some F37
  | 38 => some F38
  | 39 => some F39
  | 40 => some F40
  | 41 => some F41
  | 42 => some F42
  | 43 => some F43
  | 44 => some F44
  | 45 => some F45
  | 46 => some F46
  | 47 => some F47
  | 48 => some F48
  | 49 => some F49
  | 51 => some F51
  | 52 => some F52
  | 53 => some F53
  | 54 => some F54
  | 55 => some F55
  | 56 => some F56
  | 57 => some F57
  | 58 => some F58
  | 59 => some F59
  | 62 => some F62
  | 63 => some F63
  | 64 => some F64
  | 65 => some F65
  | 66 => some F66
  | 68 => some F68
  | 69 => some F69
  | 70 => some F70
  | 71 => some F71
  | 72 => some F72
  | 73 => some F73
  | 75 => some F75
  | 77 => some F77
  | 78 => some F78
  | 79 => some F79
  | 80 => some F80
  | 81 => some F81
  | 82 => some F82
  | 83 => some F83
  | 84 => some F84
  | 85 => some F85
  | 86 => some F86
  | 87 => some F87
  | 88 => some F88
  | 89 => some F89
  | _ => none
theorem fns_ok : FnsOK Try.prog fns := by
  intro f F hf
  unfold fns at hf
  split at hf
  · cases hf; exact ⟨_, _, Try.func4, okF4⟩
  · cases hf; exact ⟨_, _, Try.func5, okF5⟩
  · cases hf; exact ⟨_, _, Try.func6, okF6⟩
  · cases hf; exact ⟨_, _, Try.func7, okF7⟩
  · cases hf; exact ⟨_, _, Try.func8, okF8⟩
  · cases hf; exact ⟨_, _, Try.func9, okF9⟩
  · cases hf; exact ⟨_, _, Try.func10, okF10⟩
  · cases hf; exact ⟨_, _, Try.func11, okF11⟩
  · cases hf; exact ⟨_, _, Try.func12, okF12⟩
  · cases hf; exact ⟨_, _, Try.func13, okF13⟩
  · cases hf; exact ⟨_, _, Try.func14, okF14⟩
  · cases hf; exact ⟨_, _, Try.func15, okF15⟩
  · cases hf; exact ⟨_, _, Try.func16, okF16⟩
  · cases hf; exact ⟨_, _, Try.func17, okF17⟩
  · cases hf; exact ⟨_, _, Try.func18, okF18⟩
  · cases hf; exact ⟨_, _, Try.func19, okF19⟩
  · cases hf; exact ⟨_, _, Try.func20, okF20⟩
  · cases hf; exact ⟨_, _, Try.func21, okF21⟩
  · cases hf; exact ⟨_, _, Try.func22, okF22⟩
  · cases hf; exact ⟨_, _, Try.func23, okF23⟩
  · cases hf; exact ⟨_, _, Try.func24, okF24⟩
  · cases hf; exact ⟨_, _, Try.func25, okF25⟩
  · cases hf; exact ⟨_, _, Try.func26, okF26⟩
  · cases hf; exact ⟨_, _, Try.func27, okF27⟩
  · cases hf; exact ⟨_, _, Try.func28, okF28⟩
  · cases hf; exact ⟨_, _, Try.func29, okF29⟩
  · cases hf; exact ⟨_, _, Try.func30, okF30⟩
  · cases hf; exact ⟨_, _, Try.func31, okF31⟩
  · cases hf; exact ⟨_, _, Try.func32, okF32⟩
  · cases hf; exact ⟨_, _, Try.func33, okF33⟩
  · cases hf; exact ⟨_, _, Try.func34, okF34⟩
  · cases hf; exact ⟨_, _, Try.func35, okF35⟩
  · cases hf; exact ⟨_, _, Try.func36, okF36⟩
  · cases hf; exact ⟨_, _, Try.func37, okF37⟩
  · cases hf; exact ⟨_, _, Try.func38, okF38⟩
  · cases hf; exact ⟨_, _, Try.func39, okF39⟩
  · cases hf; exact ⟨_, _, Try.func40, okF40⟩
  · cases hf; exact ⟨_, _, Try.func41, okF41⟩
  · cases hf; exact ⟨_, _, Try.func42, okF42⟩
  · cases hf; exact ⟨_, _, Try.func43, okF43⟩
  · cases hf; exact ⟨_, _, Try.func44, okF44⟩
  · cases hf; exact ⟨_, _, Try.func45, okF45⟩
  · cases hf; exact ⟨_, _, Try.func46, okF46⟩
  · cases hf; exact ⟨_, _, Try.func47, okF47⟩
  · cases hf; exact ⟨_, _, Try.func48, okF48⟩
  · cases hf; exact ⟨_, _, Try.func49, okF49⟩
  · cases hf; exact ⟨_, _, Try.func51, okF51⟩
  · cases hf; exact ⟨_, _, Try.func52, okF52⟩
  · cases hf; exact ⟨_, _, Try.func53, okF53⟩
  · cases hf; exact ⟨_, _, Try.func54, okF54⟩
  · cases hf; exact ⟨_, _, Try.func55, okF55⟩
  · cases hf; exact ⟨_, _, Try.func56, okF56⟩
  · cases hf; exact ⟨_, _, Try.func57, okF57⟩
  · cases hf; exact ⟨_, _, Try.func58, okF58⟩
  · cases hf; exact ⟨_, _, Try.func59, okF59⟩
  · cases hf; exact ⟨_, _, Try.func62, okF62⟩
  · cases hf; exact ⟨_, _, Try.func63, okF63⟩
  · cases hf; exact ⟨_, _, Try.func64, okF64⟩
  · cases hf; exact ⟨_, _, Try.func65, okF65⟩
  · cases hf; exact ⟨_, _, Try.func66, okF66⟩
  · cases hf; exact ⟨_, _, Try.func68, okF68⟩
  · cases hf; exact ⟨_, _, Try.func69, okF69⟩
  · cases hf; exact ⟨_, _, Try.func70, okF70⟩
  · cases hf; exact ⟨_, _, Try.func71, okF71⟩
  · cases hf; exact ⟨_, _, Try.func72, okF72⟩
  · cases hf; exact ⟨_, _, Try.func73, okF73⟩
  · cases hf; exact ⟨_, _, Try.func75, okF75⟩
  · cases hf; exact ⟨_, _, Try.func77, okF77⟩
  · cases hf; exact ⟨_, _, Try.func78, okF78⟩
  · cases hf; exact ⟨_, _, Try.func79, okF79⟩
  · cases hf; exact ⟨_, _, Try.func80, okF80⟩
  · cases hf; exact ⟨_, _, Try.func81, okF81⟩
  · cases hf; exact ⟨_, _, Try.func82, okF82⟩
  · cases hf; exact ⟨_, _, Try.func83, okF83⟩
  · cases hf; exact ⟨_, _, Try.func84, okF84⟩
  · cases hf; exact ⟨_, _, Try.func85, okF85⟩
  · cases hf; exact ⟨_, _, Try.func86, okF86⟩
  · cases hf; exact ⟨_, _, Try.func87, okF87⟩
  · cases hf; exact ⟨_, _, Try.func88, okF88⟩
  · cases hf; exact ⟨_, _, Try.func89, okF89⟩
  · cases hf
def fns2 : Nat → Option Go.Vm.Fn := fun
  | 4 => some F4
  | 5 => some F5
  | 6 => some F6
  | 7 => some F7
  | 8 => some F8
  | 9 => some F9
  | 10 => some F10
  | 11 => some F11
  | 12 => some F12
  | 13 => some F13
  | 14 => some F14
  | 15 => some F15
  | 16 => some F16
  | 17 => some F17
  | 18 => some F18
  | 19 => some F19
  | 20 => some F20
  | 21 => some F21
  | 22 => some F22
  | 23 => some F23
  | 24 => some F24
  | 25 => some F25
  | 26 => some F26
  | 27 => some F27
  | 28 => some F28
  | 29 => some F29
  | 30 => some F30
  | 31 => some F31
  | 32 => some F32
  | 33 => some F33
  | 34 => some F34
  | 35 => some F35
  | 36 => some F36
  | 37 => some F37
  | 38 => some F38
  | 39 => some F39
  | 40 => some F40
  | 41 => some F41
  | 42 => some F42
  | 43 => some F43
  | 44 => some F44
  | 45 => some F45
  | 46 => some F46
  | 47 => some F47
  | 48 => some F48
  | 49 => some F49
  | 50 => some F50
  | 51 => some F51
  | 52 => some F52
  | 53 => some F53
  | 54 => some F54
  | 55 => some F55
  | 56 => some F56
  | 57 => some F57
  | 58 => some F58
  | 59 => some F59
  | 62 => some F62
  | 63 => some F63
  | 64 => some F64
  | 65 => some F65
  | 66 => some F66
  | 68 => some F68
  | 69 => some F69
  | 70 => some F70
  | 71 => some F71
  | 72 => some F72
  | 73 => some F73
  | 75 => some F75
  | 77 => some F77
  | 78 => some F78
  | 79 => some F79
  | 80 => some F80
  | 81 => some F81
  | 82 => some F82
  | 83 => some F83
  | 84 => some F84
  | 85 => some F85
  | 86 => some F86
  | 87 => some F87
  | 88 => some F88
  | 89 => some F89
  | _ => none
theorem fns2_ok : FnsOK Try.prog fns2 := by
  intro f F hf
  unfold fns2 at hf
  split at hf
  · cases hf; exact ⟨_, _, Try.func4, okF4⟩
  · cases hf; exact ⟨_, _, Try.func5, okF5⟩
  · cases hf; exact ⟨_, _, Try.func6, okF6⟩
  · cases hf; exact ⟨_, _, Try.func7, okF7⟩
  · cases hf; exact ⟨_, _, Try.func8, okF8⟩
  · cases hf; exact ⟨_, _, Try.func9, okF9⟩
  · cases hf; exact ⟨_, _, Try.func10, okF10⟩
  · cases hf; exact ⟨_, _, Try.func11, okF11⟩
  · cases hf; exact ⟨_, _, Try.func12, okF12⟩
  · cases hf; exact ⟨_, _, Try.func13, okF13⟩
  · cases hf; exact ⟨_, _, Try.func14, okF14⟩
  · cases hf; exact ⟨_, _, Try.func15, okF15⟩
  · cases hf; exact ⟨_, _, Try.func16, okF16⟩
  · cases hf; exact ⟨_, _, Try.func17, okF17⟩
  · cases hf; exact ⟨_, _, Try.func18, okF18⟩
  · cases hf; exact ⟨_, _, Try.func19, okF19⟩
  · cases hf; exact ⟨_, _, Try.func20, okF20⟩
  · cases hf; exact ⟨_, _, Try.func21, okF21⟩
  · cases hf; exact ⟨_, _, Try.func22, okF22⟩
  · cases hf; exact ⟨_, _, Try.func23, okF23⟩
  · cases hf; exact ⟨_, _, Try.func24, okF24⟩
  · cases hf; exact ⟨_, _, Try.func25, okF25⟩
  · cases hf; exact ⟨_, _, Try.func26, okF26⟩
  · cases hf; exact ⟨_, _, Try.func27, okF27⟩
  · cases hf; exact ⟨_, _, Try.func28, okF28⟩
  · cases hf; exact ⟨_, _, Try.func29, okF29⟩
  · cases hf; exact ⟨_, _, Try.func30, okF30⟩
  · cases hf; exact ⟨_, _, Try.func31, okF31⟩
  · cases hf; exact ⟨_, _, Try.func32, okF32⟩
  · cases hf; exact ⟨_, _, Try.func33, okF33⟩
  · cases hf; exact ⟨_, _, Try.func34, okF34⟩
  · cases hf; exact ⟨_, _, Try.func35, okF35⟩
  · cases hf; exact ⟨_, _, Try.func36, okF36⟩
  · cases hf; exact ⟨_, _, Try.func37, okF37⟩
  · cases hf; exact ⟨_, _, Try.func38, okF38⟩
  · cases hf; exact ⟨_, _, Try.func39, okF39⟩
  · cases hf; exact ⟨_, _, Try.func40, okF40⟩
  · cases hf; exact ⟨_, _, Try.func41, okF41⟩
  · cases hf; exact ⟨_, _, Try.func42, okF42⟩
  · cases hf; exact ⟨_, _, Try.func43, okF43⟩
  · cases hf; exact ⟨_, _, Try.func44, okF44⟩
  · cases hf; exact ⟨_, _, Try.func45, okF45⟩
  · cases hf; exact ⟨_, _, Try.func46, okF46⟩
  · cases hf; exact ⟨_, _, Try.func47, okF47⟩
  · cases hf; exact ⟨_, _, Try.func48, okF48⟩
  · cases hf; exact ⟨_, _, Try.func49, okF49⟩
  · cases hf; exact ⟨_, _, Try.func50, okF50⟩
  · cases hf; exact ⟨_, _, Try.func51, okF51⟩
  · cases hf; exact ⟨_, _, Try.func52, okF52⟩
  · cases hf; exact ⟨_, _, Try.func53, okF53⟩
  · cases hf; exact ⟨_, _, Try.func54, okF54⟩
  · cases hf; exact ⟨_, _, Try.func55, okF55⟩
  · cases hf; exact ⟨_, _, Try.func56, okF56⟩
  · cases hf; exact ⟨_, _, Try.func57, okF57⟩
  · cases hf; exact ⟨_, _, Try.func58, okF58⟩
  · cases hf; exact ⟨_, _, Try.func59, okF59⟩
  · cases hf; exact ⟨_, _, Try.func62, okF62⟩
  · cases hf; exact ⟨_, _, Try.func63, okF63⟩
  · cases hf; exact ⟨_, _, Try.func64, okF64⟩
  · cases hf; exact ⟨_, _, Try.func65, okF65⟩
  · cases hf; exact ⟨_, _, Try.func66, okF66⟩
  · cases hf; exact ⟨_, _, Try.func68, okF68⟩
  · cases hf; exact ⟨_, _, Try.func69, okF69⟩
  · cases hf; exact ⟨_, _, Try.func70, okF70⟩
  · cases hf; exact ⟨_, _, Try.func71, okF71⟩
  · cases hf; exact ⟨_, _, Try.func72, okF72⟩
  · cases hf; exact ⟨_, _, Try.func73, okF73⟩
  · cases hf; exact ⟨_, _, Try.func75, okF75⟩
  · cases hf; exact ⟨_, _, Try.func77, okF77⟩
  · cases hf; exact ⟨_, _, Try.func78, okF78⟩
  · cases hf; exact ⟨_, _, Try.func79, okF79⟩
  · cases hf; exact ⟨_, _, Try.func80, okF80⟩
  · cases hf; exact ⟨_, _, Try.func81, okF81⟩
  · cases hf; exact ⟨_, _, Try.func82, okF82⟩
  · cases hf; exact ⟨_, _, Try.func83, okF83⟩
  · cases hf; exact ⟨_, _, Try.func84, okF84⟩
  · cases hf; exact ⟨_, _, Try.func85, okF85⟩
  · cases hf; exact ⟨_, _, Try.func86, okF86⟩
  · cases hf; exact ⟨_, _, Try.func87, okF87⟩
  · cases hf; exact ⟨_, _, Try.func88, okF88⟩
  · cases hf; exact ⟨_, _, Try.func89, okF89⟩
  · cases hf
end Go.Proofs.Ytkkncdokkdamcaa
