/- What is left of bytes, as the machine's. Conditions: none. -/
import Derived.Test.YtfhmclgnfabdfaaCT
import Derived.Test.YtfhmclgnfabdfaaCMB
namespace Go.Proofs.Ytfhmclgnfabdfaa
open Go Go.Vm Go.Proofs Go.Cl
/-- Bytes that are read, whatever is done besides. -/
def Rd (h : Hp) (x : V) (l : Bs) : Prop := (∀ h', Fw [] h h' → elems h' x = some (none, l.map byteV)) ∧ lenV x = some l.length
theorem rowOf_mono {h h' : Hp} (f : Fw [] h h') {id n : Nat} {r : Option Nat × List V} (hr : rowOf h id n = some r) : rowOf h' id n = some r := by
  unfold rowOf at hr ⊢
  split at hr
  · rename_i hg
    rw [f.old _ _ hg (by simp)]; exact hr
  · cases hr
theorem rowAt_mono {h h' : Hp} (f : Fw [] h h') {id n : Nat} {p : List Nat} {r : List V} (hr : Vm.rowAt h id p n = some r) : Vm.rowAt h' id p n = some r := by
  unfold Vm.rowAt at hr ⊢
  split at hr
  · obtain ⟨q, h1, h2⟩ := Option.map_eq_some_iff.1 hr
    rw [rowOf_mono f h1]; exact Option.map_eq_some_iff.2 ⟨q, rfl, h2⟩
  · split at hr
    · rename_i t es hn
      have : node h' id p n = some (.arr t es) := by
        unfold node at hn ⊢
        cases hq : rowOf h id n with
        | none => rw [hq] at hn; simp at hn
        | some q => rw [rowOf_mono f hq]; rw [hq] at hn; exact hn
      rw [this]; exact hr
    · cases hr
theorem Rd.mk' {h : Hp} {x : V} {l : Bs} (he : elems h x = some (none, l.map byteV)) (hl : lenV x = some l.length) : Rd h x l := by
  refine ⟨fun h' f => ?_, hl⟩
  cases x with
  | imm fl g es => exact he
  | ref id path g off len tot =>
    simp only [elems] at he ⊢
    obtain ⟨q, h1, h2⟩ := Option.map_eq_some_iff.1 he
    rw [rowAt_mono f h1]; exact Option.map_eq_some_iff.2 ⟨q, rfl, h2⟩
  | _ => simp [elems] at he
theorem Rd.fw {h h' : Hp} {x : V} {l : Bs} (hr : Rd h x l) (f : Fw [] h h') : Rd h' x l := ⟨fun h2 f2 => hr.1 h2 (f.trans f2), hr.2⟩
open Classical in
/-- What is left of bytes. -/
noncomputable def sumF (vs : List V) (h : Hp) : Option (V × Hp) :=
  match vs with
  | [x] => match elems h x with
    | some (none, es) => match bytesOf es with
      | some l => if es = l.map byteV ∧ lenV x = some l.length ∧ l.length ≤ 1000000 then some (.arr 26 ((sumB l).map byteV), h) else none
      | none => none
    | _ => none
  | _ => none
theorem sumF_same {vs : List V} {h : Hp} {v : V} {h' : Hp} (hr : sumF vs h = some (v, h')) : h' = h := by
  unfold sumF at hr
  split at hr
  · split at hr
    · split at hr
      · split at hr
        · cases hr; rfl
        · cases hr
      · cases hr
    · cases hr
  · cases hr
theorem sumF_eq {h : Hp} {x : V} {l : Bs} (hr : Rd h x l) (hl : l.length ≤ 1000000) : sumF [x] h = some (.arr 26 ((sumB l).map byteV), h) := by
  have he := hr.1 h (Fw.refl _ _)
  simp only [sumF, he, bytesOf_map, hr.2, hl, and_self, if_true]
end Go.Proofs.Ytfhmclgnfabdfaa
