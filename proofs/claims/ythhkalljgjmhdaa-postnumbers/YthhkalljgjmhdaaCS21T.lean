/- Post: any calls: the walk. Conditions: none. -/
import Derived.Test.YthhkalljgjmhdaaCS21S
namespace Go.Proofs.Ythhkalljgjmhdaa
open Go Go.Vm Go.Proofs Go.Cl
set_option linter.unusedSimpArgs false
set_option linter.unusedVariables false
set_option maxRecDepth 100000
theorem Ask21.enc_ty (x : Ask21) : x.enc.ty = some 27 := rfl
/-- Behind each call. -/
def plM (h : Hp) (h0 : Hp) (x : V) (n i : Nat) (most : Int) (e : Env) (H : Hp) : Prop := e 0 = x ∧ e 1 = .s (.int .i64 most) ∧ e 8 = .s (.int .i64 (i : Nat)) ∧ ∃ id k O, e 5 = .ptr id [0] 1 ∧ Pl n H id k (e 6) (e 7) O ∧ Fw [] h H
end Go.Proofs.Ythhkalljgjmhdaa
