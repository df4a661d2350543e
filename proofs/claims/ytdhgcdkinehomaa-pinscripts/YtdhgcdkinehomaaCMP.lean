/- What a person types, as plain data. Conditions: none. -/
import Derived.Test.YtdhgcdkinehomaaCVc
import Derived.Lib.RepeatB
import Derived.Lib.TrimUEq
import Derived.Lib.TrimAscii
namespace Go.Cl
open Go
set_option linter.unusedVariables false
set_option linter.unusedSimpArgs false
/-- Bytes. -/
abbrev Bs := List UInt8

/-- Signs. -/
def sgF : Nat → Bs → List Int
  | 0, _ => []
  | _ + 1, [] => []
  | n + 1, b :: t => ((Lib.decodeL (b :: t)).1 : Int) :: sgF n ((b :: t).drop (Lib.decodeL (b :: t)).2)
def sg (l : Bs) : List Int := sgF l.length l

theorem sgF_more : ∀ (n m : Nat) (l : Bs), l.length ≤ n → l.length ≤ m → sgF n l = sgF m l
  | 0, 0, _, _, _ => rfl
  | 0, m + 1, l, h, _ => by
    have : l = [] := List.eq_nil_of_length_eq_zero (by omega)
    subst this; rfl
  | n + 1, 0, l, _, h => by
    have : l = [] := List.eq_nil_of_length_eq_zero (by omega)
    subst this; rfl
  | n + 1, m + 1, [], _, _ => rfl
  | n + 1, m + 1, b :: t, h1, h2 => by
    have hw := Lib.decodeL_width (b :: t)
    simp only [sgF]
    rw [sgF_more n m] <;> (simp only [List.length_drop, List.length_cons] at *; omega)
theorem sg_nil : sg [] = [] := rfl
theorem sg_cons {l : Bs} (h : l ≠ []) : sg l = ((Lib.decodeL l).1 : Int) :: sg (l.drop (Lib.decodeL l).2) := by
  cases l with
  | nil => exact absurd rfl h
  | cons b t =>
    have hw := Lib.decodeL_width (b :: t)
    simp only [sg, List.length_cons, sgF]
    rw [sgF_more t.length]
    all_goals (simp only [List.length_drop, List.length_cons] at *; omega)

/-- One sign's bytes. -/
def enc1 (r : Int) : Bs := (Utf8.encode r).data.toList
def encL (l : List Int) : Bs := l.flatMap enc1
/-- What is read of a sign that was written. -/
def fix (r : Int) : Int := if Utf8.valid r = true then r else 65533

theorem runesBytes_fold : ∀ (l : List Int) (s : ByteArray), l.foldl (fun r n => r ++ Utf8.encode n) s = ⟨(s.data.toList ++ encL l).toArray⟩
  | [], s => by simp [encL]
  | r :: l, s => by
    rw [List.foldl_cons, runesBytes_fold l]
    congr 1
    simp [encL, enc1]
theorem runesBytes_eq (l : List Int) : runesBytes l = ⟨(encL l).toArray⟩ := by
  rw [runesBytes, runesBytes_fold]; rfl
theorem encode_eq (r : Int) : Utf8.encode r = ⟨(enc1 r).toArray⟩ := by simp [enc1]
theorem encL_append (a b : List Int) : encL (a ++ b) = encL a ++ encL b := by simp [encL]
theorem encL_nil : encL [] = [] := rfl
theorem encL_cons (a : Int) (b : List Int) : encL (a :: b) = enc1 a ++ encL b := by simp [encL]
theorem encL_one (a : Int) : encL [a] = enc1 a := by simp [encL]

theorem enc1_len (r : Int) : 1 ≤ (enc1 r).length ∧ (enc1 r).length ≤ 4 := by
  unfold enc1 Utf8.encode
  simp only
  repeat' split
  all_goals simp
theorem encL_len : ∀ l : List Int, (encL l).length ≤ 4 * l.length
  | [] => by simp [encL]
  | r :: l => by
    have := encL_len l
    have := enc1_len r
    simp only [encL_cons, List.length_append, List.length_cons]; omega

theorem u8n (n : Nat) (h : n < 256) : (UInt8.ofNat n).toNat = n := by
  rw [UInt8.toNat_ofNat']; omega

/-- What was written is read. -/
theorem dec_enc (r : Int) (t : Bs) : Lib.decodeL (enc1 r ++ t) = ((fix r).toNat, (enc1 r).length) ∧ 0 ≤ fix r := by
  have hv : Utf8.valid r = true → 0 ≤ r ∧ r ≤ 1114111 ∧ (r < 55296 ∨ 57344 ≤ r) := by
    simp only [Utf8.valid, Bool.or_eq_true, Bool.and_eq_true, decide_eq_true_eq]; omega
  obtain ⟨c, hc, hc1, hc2⟩ : ∃ c : Nat, (if Utf8.valid r = true then r.toNat else Utf8.runeError) = c ∧ fix r = c ∧ c ≤ 1114111 ∧ (c < 55296 ∨ 57344 ≤ c) := by
    by_cases h : Utf8.valid r = true
    · have := hv h
      exact ⟨r.toNat, by simp [h], by simp [fix, h]; omega, by omega, by omega⟩
    · exact ⟨65533, by simp [h, Utf8.runeError], by simp [fix, h], by omega, by omega⟩
  rw [hc1]
  refine ⟨?_, by omega⟩
  rw [Int.toNat_natCast]
  simp only [enc1, Utf8.encode, hc]
  rw [Lib.decodeL_N]
  by_cases h1 : c < 128
  · simp only [h1, if_true, List.cons_append, List.nil_append, List.getD_cons_zero, List.length_cons, List.length_nil]
    rw [u8n _ (by omega), Lib.decodeN_ascii _ _ _ _ _ h1]
  · by_cases h2 : c < 2048
    · simp only [h1, h2, if_true, if_false, List.cons_append, List.nil_append, List.getD_cons_zero, List.getD_cons_succ, List.length_cons, List.length_nil]
      rw [u8n _ (by omega), u8n _ (by omega)]
      unfold Lib.decodeN
      rw [if_neg (by omega), if_pos ⟨by omega, by omega, by omega⟩, if_pos (by omega)]
      congr 1; omega
    · by_cases h3 : c < 65536
      · simp only [h1, h2, h3, if_true, if_false, List.cons_append, List.nil_append, List.getD_cons_zero, List.getD_cons_succ, List.length_cons, List.length_nil]
        rw [u8n _ (by omega), u8n _ (by omega), u8n _ (by omega)]
        unfold Lib.decodeN
        rw [if_neg (by omega), if_neg (by omega), if_pos ⟨by omega, ⟨by omega, by omega⟩, by omega, by omega⟩, if_pos ⟨by omega, by omega⟩]
        congr 1; omega
      · simp only [h1, h2, h3, if_true, if_false, List.cons_append, List.nil_append, List.getD_cons_zero, List.getD_cons_succ, List.length_cons, List.length_nil]
        rw [u8n _ (by omega), u8n _ (by omega), u8n _ (by omega), u8n _ (by omega)]
        unfold Lib.decodeN
        rw [if_neg (by omega), if_neg (by omega), if_neg (by omega), if_pos ⟨by omega, ⟨by omega, by omega⟩, ⟨by omega, by omega⟩, by omega, by omega⟩, if_pos ⟨by omega, by omega⟩]
        congr 1; omega

theorem sg_enc1 (r : Int) (t : Bs) : sg (enc1 r ++ t) = fix r :: sg t := by
  have h := enc1_len r
  obtain ⟨h1, h2⟩ := dec_enc r t
  rw [sg_cons (by intro e; have := congrArg List.length e; rw [List.length_append, List.length_nil] at this; omega), h1]
  simp only [List.drop_left]
  rw [Int.toNat_of_nonneg h2]
theorem sg_encL : ∀ (l : List Int) (t : Bs), sg (encL l ++ t) = l.map fix ++ sg t
  | [], t => by simp [encL]
  | r :: l, t => by rw [encL_cons, List.append_assoc, sg_enc1, sg_encL l t]; rfl
theorem sg_enc (l : List Int) : sg (encL l) = l.map fix := by
  have := sg_encL l []
  simpa [sg_nil] using this
theorem sg_ascii : ∀ l : Bs, (∀ b ∈ l, b.toNat < 128) → sg l = l.map fun b => (b.toNat : Int)
  | [], _ => rfl
  | b :: l, h => by
    have hb := h b (by simp)
    rw [sg_cons (by simp), Lib.decodeL_ascii _ _ hb]
    simp only [List.drop_succ_cons, List.drop_zero, List.map_cons]
    rw [sg_ascii l fun c hc => h c (by simp [hc])]
theorem fix_ok {r : Int} (h0 : 0 ≤ r) (h1 : r < 55296) : fix r = r := by
  have : Utf8.valid r = true := by simp [Utf8.valid, h0, h1]
  simp [fix, this]
theorem fix_fix (r : Int) : fix (fix r) = fix r := by
  by_cases h : Utf8.valid r = true
  · simp [fix, h]
  · simp only [fix, h, if_false]; rfl
theorem sg_fix (n : Nat) : ∀ l : Bs, l.length ≤ n → ∀ r ∈ sg l, 0 ≤ r ∧ r ≤ 1114111 := by
  induction n with
  | zero =>
    intro l h r hr
    have : l = [] := List.eq_nil_of_length_eq_zero (by omega)
    subst this; simp [sg_nil] at hr
  | succ n ih =>
    intro l h r hr
    by_cases hl : l = []
    · subst hl; simp [sg_nil] at hr
    · rw [sg_cons hl] at hr
      have hp := List.length_pos_iff.2 hl
      rcases List.mem_cons.1 hr with rfl | hr
      · have := Lib.decodeL_rune l; omega
      · have hw := Lib.decodeL_width l
        exact ih _ (by simp; omega) r hr
theorem sg_range (l : Bs) : ∀ r ∈ sg l, 0 ≤ r ∧ r ≤ 1114111 := sg_fix l.length l (Nat.le_refl _)
theorem sg_len (n : Nat) : ∀ l : Bs, l.length ≤ n → (sg l).length ≤ l.length := by
  induction n with
  | zero =>
    intro l h
    have : l = [] := List.eq_nil_of_length_eq_zero (by omega)
    subst this; simp [sg_nil]
  | succ n ih =>
    intro l h
    by_cases hl : l = []
    · subst hl; simp [sg_nil]
    · rw [sg_cons hl]
      have hp := List.length_pos_iff.2 hl
      have hw := Lib.decodeL_width l
      have := ih (l.drop (Lib.decodeL l).2) (by simp; omega)
      simp only [List.length_cons, List.length_drop] at this ⊢; omega
theorem sg_le (l : Bs) : (sg l).length ≤ l.length := sg_len l.length l (Nat.le_refl _)

/-- The next sign of a text, from a place on. -/
theorem sg_at {l : Bs} {p : Nat} (h : p < l.length) : sg (l.drop p) = ((Utf8.decode ⟨l.toArray⟩ p).1 : Int) :: sg (l.drop (p + (Utf8.decode ⟨l.toArray⟩ p).2)) ∧ 1 ≤ (Utf8.decode ⟨l.toArray⟩ p).2 ∧ (Utf8.decode ⟨l.toArray⟩ p).1 ≤ 1114111 := by
  have hd := Lib.decodeL_drop ⟨l.toArray⟩ p
  simp only at hd
  rw [sg_cons (by intro e; have := congrArg List.length e; simp at this; omega), hd, List.drop_drop]
  exact ⟨rfl, by rw [← hd]; exact Lib.decodeL_width _, by rw [← hd]; exact Lib.decodeL_rune _⟩

/-- Which digit's byte a sign is. -/
def digN (r : Int) : Option Int :=
  if 48 ≤ r ∧ r ≤ 57 then some r else if 65296 ≤ r ∧ r ≤ 65305 then some (r - 65296 + 48) else if 1632 ≤ r ∧ r ≤ 1641 then some (r - 1632 + 48) else if 1776 ≤ r ∧ r ≤ 1785 then some (r - 1776 + 48) else none
def pass (r : Int) : Bool := r == 32 || r == 45 || r == 160
def nrmL : List Int → Option Bs
  | [] => some []
  | r :: l => if pass r = true then nrmL l else match digN r with
    | none => none
    | some d => (nrmL l).map (UInt8.ofNat d.toNat :: ·)
def normal (l : Bs) : Option Bs := (nrmL (sg l)).bind fun d => if 4 ≤ d.length ∧ d.length ≤ 12 then some d else none

theorem digN_range {r d : Int} (h : digN r = some d) : 48 ≤ d ∧ d ≤ 57 := by
  unfold digN at h
  repeat' split at h
  all_goals (simp only [Option.some.injEq, reduceCtorEq] at h; try omega)
theorem digN_pass {r : Int} (h : pass r = true) : digN r = none := by
  simp only [pass, Bool.or_eq_true, beq_iff_eq] at h
  unfold digN
  rw [if_neg (by omega), if_neg (by omega), if_neg (by omega), if_neg (by omega)]
theorem nrmL_len : ∀ (l : List Int) (d : Bs), nrmL l = some d → d.length ≤ l.length ∧ ∀ b ∈ d, 48 ≤ b.toNat ∧ b.toNat ≤ 57
  | [], d, h => by cases h; simp
  | r :: l, d, h => by
    unfold nrmL at h
    split at h
    · obtain ⟨h1, h2⟩ := nrmL_len l d h
      exact ⟨by simp; omega, h2⟩
    · split at h
      · cases h
      · rename_i x hx
        obtain ⟨d', h1, rfl⟩ := Option.map_eq_some_iff.1 h
        obtain ⟨h2, h3⟩ := nrmL_len l d' h1
        refine ⟨by simp; omega, fun b hb => ?_⟩
        rcases List.mem_cons.1 hb with rfl | hb
        · have := digN_range hx
          rw [u8n _ (by omega)]; omega
        · exact h3 b hb
theorem nrmL_digits : ∀ d : Bs, (∀ b ∈ d, 48 ≤ b.toNat ∧ b.toNat ≤ 57) → nrmL (d.map fun b => (b.toNat : Int)) = some d
  | [], _ => rfl
  | b :: d, h => by
    have hb := h b (by simp)
    have hp : pass (b.toNat : Int) = false := by
      simp only [pass, Bool.or_eq_false_iff, beq_eq_false_iff_ne]; omega
    have hd : digN (b.toNat : Int) = some (b.toNat : Int) := by
      unfold digN; rw [if_pos (by omega)]
    simp only [List.map_cons, nrmL, hp, hd, Bool.false_eq_true, if_false]
    rw [nrmL_digits d fun c hc => h c (by simp [hc])]
    simp
theorem normal_digits {l d : Bs} (h : normal l = some d) : normal d = some d ∧ sg d = d.map (fun b => (b.toNat : Int)) ∧ 4 ≤ d.length ∧ d.length ≤ 12 := by
  unfold normal at h
  obtain ⟨e, h1, h2⟩ := Option.bind_eq_some_iff.1 h
  split at h2
  · rename_i hl
    simp only [Option.some.injEq] at h2
    subst h2
    have hd := (nrmL_len _ _ h1).2
    have hs : sg e = e.map fun b => (b.toNat : Int) := sg_ascii e fun b hb => by have := hd b hb; omega
    refine ⟨?_, hs, hl.1, hl.2⟩
    unfold normal
    rw [hs, nrmL_digits e hd]
    simp [hl]
  · cases h2

/-- Each so much more than the one ahead. -/
def goesN (d : Bs) (by_ : Int) (n : Nat) : Bool := (List.range n).all fun i => i == 0 || ((d.getD i 0).toNat : Int) - ((d.getD (i - 1) 0).toNat : Int) == by_
def digsN (d : Bs) (n : Nat) : Bool := (List.range n).all fun i => decide (48 ≤ (d.getD i 0).toNat) && decide ((d.getD i 0).toNat ≤ 57)
def weak (d : Bs) : Bool := decide (4 ≤ d.length) && decide (d.length ≤ 12) && digsN d d.length && (goesN d 0 d.length || goesN d 1 d.length || goesN d (-1) d.length)
theorem goesN_succ (d : Bs) (b : Int) (n : Nat) : goesN d b (n + 1) = (goesN d b n && (n == 0 || ((d.getD n 0).toNat : Int) - ((d.getD (n - 1) 0).toNat : Int) == b)) := by
  simp [goesN, List.range_succ, List.all_append]
theorem digsN_succ (d : Bs) (n : Nat) : digsN d (n + 1) = (digsN d n && (decide (48 ≤ (d.getD n 0).toNat) && decide ((d.getD n 0).toNat ≤ 57))) := by
  simp [digsN, List.range_succ, List.all_append]
theorem all_mono {f : Nat → Bool} {n m : Nat} (h : n ≤ m) (hf : (List.range n).all f = false) : (List.range m).all f = false := by
  rw [List.all_eq_false] at hf ⊢
  obtain ⟨i, h1, h2⟩ := hf
  exact ⟨i, by rw [List.mem_range] at h1 ⊢; omega, h2⟩
theorem goesN_false {d : Bs} {b : Int} {n m : Nat} (h : n ≤ m) (hf : goesN d b n = false) : goesN d b m = false := all_mono h hf
theorem digsN_false {d : Bs} {n m : Nat} (h : n ≤ m) (hf : digsN d n = false) : digsN d m = false := all_mono h hf

def masked (l : Bs) : Bs := encL (List.replicate ((sg l).length - 2) 8226 ++ (sg l).drop ((sg l).length - 2))
theorem repeat_dot : ∀ n : Nat, Lib.repeatL [226, 128, 162] n = encL (List.replicate n 8226)
  | 0 => rfl
  | n + 1 => by rw [List.replicate_succ, encL_cons, ← repeat_dot n]; rfl

theorem nrmL_append : ∀ (a b : List Int) (c d : Bs), nrmL a = some c → nrmL b = some d → nrmL (a ++ b) = some (c ++ d)
  | [], b, c, d, h1, h2 => by cases h1; simpa using h2
  | r :: a, b, c, d, h1, h2 => by
    unfold nrmL at h1
    simp only [List.cons_append, nrmL]
    split at h1
    · rename_i hp
      rw [if_pos hp]; exact nrmL_append a b c d h1 h2
    · rename_i hp
      rw [if_neg hp]
      split at h1
      · cases h1
      · rename_i x hx
        obtain ⟨c', h3, rfl⟩ := Option.map_eq_some_iff.1 h1
        rw [nrmL_append a b c' d h3 h2]; rfl
end Go.Cl
