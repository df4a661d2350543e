/- What is left of bytes, as plain data. Conditions: none. -/
import Derived.Test.YtfhmclgnfabdfaaCMK0
namespace Go.Cl
open Go Go.Vm
set_option linter.unusedVariables false
set_option linter.unusedSimpArgs false
/-- A word turned round. -/
def rot (k x : Nat) : Nat := x * 2 ^ k % 4294967296 + x / 2 ^ (32 - k)
/-- Four words. -/
structure W where
  a : Nat
  b : Nat
  c : Nat
  d : Nat
def xr (a b : Nat) : Nat := (a ^^^ b) % 4294967296
def ad (a b : Nat) : Nat := (a + b) % 4294967296
def half (k1 k2 : Nat) (x : W) : W :=
  let a := ad x.a x.b
  let d := rot k1 (xr x.d a)
  let c := ad x.c d
  let b := rot k2 (xr x.b c)
  ⟨a, b, c, d⟩
def stirW (x : W) : W := half 8 7 (half 16 12 x)
def W.vs (x : W) : List V := [.s (.int .u32 x.a), .s (.int .u32 x.b), .s (.int .u32 x.c), .s (.int .u32 x.d)]
def W.ok (x : W) : Prop := x.a < 4294967296 ∧ x.b < 4294967296 ∧ x.c < 4294967296 ∧ x.d < 4294967296

theorem ad_i (a b : Nat) : IntKind.u32.wrap ((a : Int) + (b : Int)) = ((ad a b : Nat) : Int) := by
  have : IntKind.u32.wrap ((a : Int) + (b : Int)) = ((a : Int) + b) % 4294967296 := by
    simp only [IntKind.wrap, IntKind.bits, IntKind.signed]; rfl
  rw [this, ad]; omega
theorem ofInt_nat (n a : Nat) : BitVec.ofInt n (a : Int) = BitVec.ofNat n a := by
  apply BitVec.eq_of_toNat_eq
  rw [BitVec.toNat_ofInt, BitVec.toNat_ofNat]; omega
theorem wrap32_nat {x : Nat} (h : x < 4294967296) : IntKind.u32.wrap (x : Int) = (x : Int) := wrap_u32 (by omega) (by omega)
theorem xr_i (a b : Nat) : xorI .u32 (a : Int) (b : Int) = ((xr a b : Nat) : Int) := by
  have h : xorI .u32 (a : Int) (b : Int) = IntKind.u32.wrap (((BitVec.ofInt 32 (a : Int) ^^^ BitVec.ofInt 32 (b : Int)).toNat : Nat) : Int) := rfl
  rw [h, ofInt_nat, ofInt_nat, BitVec.toNat_xor, BitVec.toNat_ofNat, BitVec.toNat_ofNat, ← Nat.xor_mod_two_pow]
  have hlt : (a ^^^ b) % 2 ^ 32 < 4294967296 := Nat.mod_lt _ (by decide)
  rw [wrap32_nat hlt]
  rfl
theorem or_i {a b : Nat} (ha : a < 4294967296) (hb : b < 4294967296) : orI .u32 (a : Int) (b : Int) = ((a ||| b : Nat) : Int) := by
  have h : orI .u32 (a : Int) (b : Int) = IntKind.u32.wrap (((BitVec.ofInt 32 (a : Int) ||| BitVec.ofInt 32 (b : Int)).toNat : Nat) : Int) := rfl
  rw [h, ofInt_nat, ofInt_nat, BitVec.toNat_or, BitVec.toNat_ofNat, BitVec.toNat_ofNat, Nat.mod_eq_of_lt (show a < 2 ^ 32 from ha), Nat.mod_eq_of_lt (show b < 2 ^ 32 from hb)]
  exact wrap32_nat (Nat.or_lt_two_pow (n := 32) ha hb)
theorem shl_i {a k : Nat} (hk : k ≤ 32) : shlI .u32 (a : Int) (k : Int) = ((a * 2 ^ k % 4294967296 : Nat) : Int) := by
  have h : shlI .u32 (a : Int) (k : Int) = IntKind.u32.wrap ((a : Int) * 2 ^ (min ((k : Int).toNat) 32)) := rfl
  rw [h, Int.toNat_natCast, Nat.min_eq_left hk]
  have h2 : ((a : Int) * 2 ^ k) = ((a * 2 ^ k : Nat) : Int) := by simp
  rw [h2]
  have : IntKind.u32.wrap ((a * 2 ^ k : Nat) : Int) = ((a * 2 ^ k : Nat) : Int) % 4294967296 := by
    simp only [IntKind.wrap, IntKind.bits, IntKind.signed]; rfl
  rw [this]; omega
theorem shr_i {a k : Nat} (hk : k ≤ 32) : shrI .u32 (a : Int) (k : Int) = ((a / 2 ^ k : Nat) : Int) := by
  have h : shrI .u32 (a : Int) (k : Int) = (a : Int).fdiv (2 ^ (min ((k : Int).toNat) 32)) := rfl
  rw [h, Int.toNat_natCast, Nat.min_eq_left hk, Int.fdiv_eq_ediv_of_nonneg _ (by exact Int.le_of_lt (Int.pow_pos (by decide)))]
  simp
theorem or_add {x y k : Nat} (h : y < 2 ^ k) : x * 2 ^ k ||| y = x * 2 ^ k + y := by
  have := Nat.shiftLeft_add_eq_or_of_lt h x
  rw [Nat.shiftLeft_eq] at this
  exact this.symm
theorem rot_or {x k : Nat} (hx : x < 4294967296) (hk : k ≤ 32) : (x * 2 ^ k % 4294967296) ||| (x / 2 ^ (32 - k)) = rot k x := by
  have hp : 2 ^ (32 - k) * 2 ^ k = 4294967296 := by rw [← Nat.pow_add]; rw [show 32 - k + k = 32 by omega]
  have h1 : x * 2 ^ k % 4294967296 = (x % 2 ^ (32 - k)) * 2 ^ k := by
    rw [← hp, Nat.mul_mod_mul_right]
  have h2 : x / 2 ^ (32 - k) < 2 ^ k := by
    rw [Nat.div_lt_iff_lt_mul (Nat.two_pow_pos _), Nat.mul_comm, hp]; exact hx
  rw [rot, h1, or_add h2]
theorem rot_lt {x k : Nat} (hx : x < 4294967296) (hk : k ≤ 32) : rot k x < 4294967296 := by
  rw [← rot_or hx hk]
  have h2 : x / 2 ^ (32 - k) < 4294967296 := Nat.lt_of_le_of_lt (Nat.div_le_self _ _) hx
  exact Nat.or_lt_two_pow (n := 32) (Nat.mod_lt _ (by decide)) h2
theorem xr_lt (a b : Nat) : xr a b < 4294967296 := Nat.mod_lt _ (by decide)
theorem ad_lt (a b : Nat) : ad a b < 4294967296 := Nat.mod_lt _ (by decide)
theorem half_ok (k1 k2 : Nat) (h1 : k1 ≤ 32) (h2 : k2 ≤ 32) (x : W) : (half k1 k2 x).ok := ⟨ad_lt _ _, rot_lt (xr_lt _ _) h2, ad_lt _ _, rot_lt (xr_lt _ _) h1⟩
theorem stirW_ok (x : W) : (stirW x).ok := half_ok _ _ (by omega) (by omega) _
/-- Four bytes, the lowest first. -/
def le4 (l : Bs) : Nat := (l.getD 0 0).toNat + 256 * (l.getD 1 0).toNat + 65536 * (l.getD 2 0).toNat + 16777216 * (l.getD 3 0).toNat
theorem le4_lt (l : Bs) : le4 l < 4294967296 := by
  have h0 := (l.getD 0 0).toNat_lt
  have h1 := (l.getD 1 0).toNat_lt
  have h2 := (l.getD 2 0).toNat_lt
  have h3 := (l.getD 3 0).toNat_lt
  unfold le4; omega
theorem le4_step (l : Bs) (j : Nat) (hj : j < 4) : le4 l / 256 ^ (j + 1) * 256 + (l.getD j 0).toNat = le4 l / 256 ^ j := by
  have h0 := (l.getD 0 0).toNat_lt
  have h1 := (l.getD 1 0).toNat_lt
  have h2 := (l.getD 2 0).toNat_lt
  have h3 := (l.getD 3 0).toNat_lt
  unfold le4
  have : j = 0 ∨ j = 1 ∨ j = 2 ∨ j = 3 := by omega
  rcases this with rfl | rfl | rfl | rfl <;> (simp only [Nat.reducePow, Nat.reduceAdd, Nat.div_one]; omega)
theorem le4_top (l : Bs) : le4 l / 256 ^ 4 = 0 := Nat.div_eq_of_lt (le4_lt l)
theorem le4_small (l : Bs) (j : Nat) : le4 l / 256 ^ (j + 1) < 16777216 := by
  have h := le4_lt l
  rw [Nat.pow_succ, Nat.mul_comm, ← Nat.div_div_eq_div_mul]
  exact Nat.lt_of_le_of_lt (Nat.div_le_self _ _) (by omega)
def pads (n : Nat) : Nat := (8 - (n + 1) % 8) % 8
/-- A number's eight bytes, the lowest first. -/
def len8 (n : Nat) : Nat → Bs
  | 0 => []
  | i + 1 => len8 n i ++ [UInt8.ofNat (n / 2 ^ (8 * i) % 256)]
def padded (l : Bs) : Bs := l ++ [128] ++ List.replicate (pads l.length) 0 ++ len8 l.length 8
def w0 : W := ⟨1668047222, 1768383858, 1801807216, 1935763045⟩
def abs1 (x : W) (t : Bs) : W := stirW (stirW (stirW ⟨xr x.a (le4 t), x.b, x.c, xr x.d (le4 (t.drop 4))⟩))
def absN (t : Bs) : Nat → W
  | 0 => w0
  | i + 1 => abs1 (absN t i) (t.drop (8 * i))
def stirN (x : W) : Nat → W
  | 0 => x
  | i + 1 => stirW (stirN x i)
def W.at (x : W) (i : Nat) : Nat := if i = 0 then x.a else if i = 1 then x.b else if i = 2 then x.c else x.d
def outN (x : W) : Nat → Bs
  | 0 => []
  | i + 1 => outN x i ++ [UInt8.ofNat (x.at (i / 4) / 2 ^ (8 * (i % 4)) % 256)]
/-- What is left of bytes. -/
def sumB (l : Bs) : Bs := outN (stirN (absN (padded l) ((padded l).length / 8)) 8) 16
theorem absN_ok (t : Bs) : ∀ i, (absN t i).ok
  | 0 => (⟨by decide, by decide, by decide, by decide⟩ : w0.ok)
  | i + 1 => stirW_ok _
theorem stirN_ok {x : W} (hx : x.ok) : ∀ i, (stirN x i).ok
  | 0 => hx
  | i + 1 => stirW_ok _
theorem len8_len (n : Nat) : ∀ i, (len8 n i).length = i
  | 0 => rfl
  | i + 1 => by simp [len8, len8_len n i]
theorem outN_len (x : W) : ∀ i, (outN x i).length = i
  | 0 => rfl
  | i + 1 => by simp [outN, outN_len x i]
theorem padded_len (l : Bs) : (padded l).length = l.length + 1 + pads l.length + 8 := by simp [padded, len8_len]; omega
theorem padded_mod (l : Bs) : (padded l).length % 8 = 0 := by rw [padded_len, pads]; omega
theorem sumB_len (l : Bs) : (sumB l).length = 16 := outN_len _ _
end Go.Cl
