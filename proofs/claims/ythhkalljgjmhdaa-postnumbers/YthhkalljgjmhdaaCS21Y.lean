/- PostNumbers: its run. Conditions: none. -/
import Derived.Test.YthhkalljgjmhdaaCS21X
namespace Go.Proofs.Ythhkalljgjmhdaa
open Go Go.Vm Go.Proofs Go.Cl
set_option linter.unusedSimpArgs false
set_option linter.unusedVariables false
set_option maxRecDepth 100000
def kinds21 : List Int := [0, 1, 6, 7, 2, 4, 8, 3, 6, 5]
def ask1 (i : Nat) : Ask21 := ⟨kinds21.getD (i % 10) 0, ((i * 7 % 20 : Nat) : Int), ⟨((i % 5 : Nat) : Int), (i : Nat), -(i : Nat), List.replicate (i % 9) 0⟩⟩
def ask2 (i : Nat) : List Ask21 := [⟨0, 0, ⟨0, 0, (i : Nat), []⟩⟩, ⟨6, (i : Nat), ⟨0, 0, 0, []⟩⟩]
theorem mks_ok (H : Hp) (n : Nat) (hn : n ≤ 16777216) : ∃ bv H', (∀ cf base, opV cf base H (.mks none (.s (.int .u8 0))) [.s (.int .i64 (n : Nat)), .s (.int .i64 (n : Nat))] = some (bv, H')) ∧ BR H' bv (List.replicate n 0) ∧ Fw [] H H' ∧ (H' = H ∨ ∃ B, H' = H ++ [B]) := by
  by_cases c : n = 0
  · subst c
    exact ⟨.imm true none [], H, fun cf base => by rw [o_mks]; simp, BR_nil _ _, Fw.refl _ _, .inl rfl⟩
  · refine ⟨.ref H.length [] none 0 n n, H ++ [.cells none (List.replicate n (.s (.int .u8 0)))], fun cf base => ?_, BR_ref (by rw [get_app0]; simp [byteV]) (by simp), Fw.app _ _ _, .inr ⟨_, rfl⟩⟩
    have h0 : ¬ (n : Int) = 0 := by omega
    rw [o_mks, if_pos (by omega), if_neg h0]; simp
theorem ARs.fw {S : List Nat} {H H' : Hp} {vs : List V} {l : List Ask21} (a : ARs H vs l) (f : Fw S H H') : ARs H' vs l := ⟨a.1, fun i y h => by obtain ⟨bv, h1, h2⟩ := a.2 i y h; exact ⟨bv, h1, h2.mono f⟩⟩
theorem ARs.snoc {H : Hp} {vs : List V} {l : List Ask21} (a : ARs H vs l) (x : Ask21) (bv : V) (hb : BR H bv x.l.bytes) : ARs H (vs ++ [AV x bv]) (l ++ [x]) := by
  refine ⟨by simp [a.1], fun i y h => ?_⟩
  by_cases c : i < l.length
  · rw [List.getElem?_append_left c] at h; rw [List.getElem?_append_left (by rw [a.1]; exact c)]; exact a.2 i y h
  · rw [List.getElem?_append_right (by omega)] at h
    have hi : i - l.length = 0 := by
      have := (List.getElem?_eq_some_iff.1 h).1; simp at this; omega
    rw [hi] at h; simp at h; subst h
    rw [List.getElem?_append_right (by rw [a.1]; omega), a.1, hi]
    exact ⟨bv, rfl, hb⟩
theorem ask1_wf (i : Nat) (hi : i < 200) : (ask1 i).wf := by
  refine ⟨?_, ?_, ?_⟩
  · have h10 : i % 10 < 10 := Nat.mod_lt _ (by decide)
    simp only [ask1]
    generalize i % 10 = j at h10
    match j, h10 with
    | 0, _ | 1, _ | 2, _ | 3, _ | 4, _ | 5, _ | 6, _ | 7, _ | 8, _ | 9, _ => decide
  · simp only [ask1]; omega
  · refine ⟨?_, ?_, ?_, ?_⟩ <;> simp only [ask1, List.length_replicate] <;> omega
theorem ask2_wf (i : Nat) (hi : i < 80) : ∀ x ∈ ask2 i, x.wf := by
  intro x hx
  simp only [ask2, List.mem_cons, List.not_mem_nil, or_false] at hx
  rcases hx with rfl | rfl <;> refine ⟨?_, ?_, ?_, ?_, ?_, ?_⟩ <;> simp <;> omega
theorem push_ok {h H : Hp} {q : Nat} {x y : V} {vs ys : List V} (fw : Fw [] h H) (xr : XR H (some 27) q x vs) (hn : h.length ≤ q) (hs : SR H y (some 27) ys) (hb : (vs.length + ys.length) * 64 ≤ 140737488355328) :
    ∃ x' H' q', (∀ cf, opV cf h.length H (.app (some 27) 64) [x, y] = some (x', H')) ∧ XR H' (some 27) q' x' (vs ++ ys) ∧ h.length ≤ q' ∧ Fw [] h H' ∧ ∀ (vs : List V) (l : List Ask21), ARs H vs l → ARs H' vs l := by
  have l1 := fw.len
  obtain ⟨q1, xr1, hq1, hn1⟩ : ∃ q1, XR H (some 27) q1 x vs ∧ h.length ≤ q1 ∧ ∀ l : Bs, H[q1]? ≠ some (.cells none (l.map byteV)) := by
    rcases xr with xr | ⟨x1, x2⟩
    · exact ⟨H.length, .inl xr, l1, fun l e => by rw [List.getElem?_eq_none (Nat.le_refl _)] at e; cases e⟩
    · exact ⟨q, .inr ⟨x1, x2⟩, hn, fun l e => by rw [x2] at e; cases e⟩
  obtain ⟨x2, H2, q2, a1, a2, a3, a4, a5, a6, a7⟩ := xr1.appB (n := h.length) (bytes := 64) hq1 l1 hs.src hb
  have f2 : Fw [q1] H H2 := ⟨a6, fun j b hb hj => a7 j b (by simpa using hj) hb, fun j l hb => a7 j _ (fun e => by subst e; exact hn1 l hb) hb⟩
  exact ⟨x2, H2, q2, a1, a2, a3, fw.new f2 (by simp; omega), fun vs l a => a.fw f2⟩
set_option maxHeartbeats 4000000 in
theorem PostNumbers_run (b : Nat) (h : Hp) : run fns pr b 3 [] h = some (.s (.bool true), h) := by
  refine Vm.runP (nt := 65) rfl fit3 (by simp) ?_
  simp only [B3, B3R0, B3R2, B3L2, B3L0, go_sem, V.s.injEq, Value.bool.injEq, simprocAttr, List.append_assoc, List.length_append, Vm.get_app, Vm.set_app, Vm.get_appL, Vm.get_appL0, Vm.set_appL, Vm.set_appL0, Nat.le_refl, Nat.le_add_right, okAt]
  refine wp_for (fun n e H => ∃ (i q : Nat) (vs : List V), n = 200 - i ∧ i ≤ 200 ∧ e 2 = .s (.int .i64 (i : Nat)) ∧ XR H (some 27) q (e 1) vs ∧ h.length ≤ q ∧ ARs H vs ((List.range i).map ask1) ∧ Fw [] h H)
    (fun e H => ∃ (q : Nat) (vs : List V), XR H (some 27) q (e 1) vs ∧ h.length ≤ q ∧ ARs H vs ((List.range 200).map ask1) ∧ Fw [] h H) 200 _ _ ⟨0, h.length, [], rfl, by omega, rfl, .inl ⟨rfl, rfl⟩, Nat.le_refl _, ⟨rfl, fun i y h => by simp at h⟩, Fw.refl _ _⟩ ?_ ?_
  · rintro n e H ⟨i, q, vs, rfl, hi, e2, xr, hq, ar, fw⟩
    by_cases c : i < 200
    · have c' : (i : Int) < 200 := by omega
      have hw1 : IntKind.i64.wrap ((i : Int) + 1) = ((i + 1 : Nat) : Int) := wrap_small (by omega)
      have rem_ok : ∀ (a m : Nat) cf base h0, 0 < m → opV cf base h0 (.bin .num .rem) [.s (.int .i64 (a : Nat)), .s (.int .i64 (m : Nat))] = some (.s (.int .i64 ((a % m : Nat) : Int)), h0) := fun a m cf base h0 hm => by
        rw [o_rem _ _ _ _ _ _ (by omega), Int.tmod_eq_emod_of_nonneg (by omega)]; rfl
      have r10 : ∀ cf base h0, opV cf base h0 (.bin .num .rem) [.s (.int .i64 (i : Nat)), .s (.int .i64 10)] = some (.s (.int .i64 ((i % 10 : Nat) : Int)), h0) := fun cf base h0 => rem_ok i 10 cf base h0 (by decide)
      have r20 : ∀ cf base h0, opV cf base h0 (.bin .num .rem) [.s (.int .i64 ((i * 7 : Nat) : Int)), .s (.int .i64 20)] = some (.s (.int .i64 ((i * 7 % 20 : Nat) : Int)), h0) := fun cf base h0 => rem_ok _ 20 cf base h0 (by decide)
      have r5 : ∀ cf base h0, opV cf base h0 (.bin .num .rem) [.s (.int .i64 (i : Nat)), .s (.int .i64 5)] = some (.s (.int .i64 ((i % 5 : Nat) : Int)), h0) := fun cf base h0 => rem_ok i 5 cf base h0 (by decide)
      have r9 : ∀ cf base h0, opV cf base h0 (.bin .num .rem) [.s (.int .i64 (i : Nat)), .s (.int .i64 9)] = some (.s (.int .i64 ((i % 9 : Nat) : Int)), h0) := fun cf base h0 => rem_ok i 9 cf base h0 (by decide)
      have hwm : IntKind.i64.wrap ((i : Int) * 7) = ((i * 7 : Nat) : Int) := by rw [wrap_i64 (by omega) (by omega)]; omega
      have hwn : IntKind.i64.wrap (0 - (i : Int)) = -(i : Nat) := by rw [wrap_i64 (by omega) (by omega)]; omega
      have h10 : i % 10 < 10 := Nat.mod_lt _ (by decide)
      have hkl : ([.s (.int .i64 0), .s (.int .i64 1), .s (.int .i64 6), .s (.int .i64 7), .s (.int .i64 2), .s (.int .i64 4), .s (.int .i64 8), .s (.int .i64 3), .s (.int .i64 6), .s (.int .i64 5)] : List V)[i % 10]? = some (.s (.int .i64 (kinds21.getD (i % 10) 0))) := by
        generalize i % 10 = j at h10
        match j, h10 with
        | 0, _ | 1, _ | 2, _ | 3, _ | 4, _ | 5, _ | 6, _ | 7, _ | 8, _ | 9, _ => rfl
      have ki := fun cf base h0 => SR.o_ias (cf := cf) (base := base) (h := h0) (x := .imm true none [.s (.int .i64 0), .s (.int .i64 1), .s (.int .i64 6), .s (.int .i64 7), .s (.int .i64 2), .s (.int .i64 4), .s (.int .i64 8), .s (.int .i64 3), .s (.int .i64 6), .s (.int .i64 5)]) (g := none) (.inl ⟨_, rfl⟩) (k := .i64) (i := i % 10) h10
      have kl := fun cf base h0 => SR.o_ld (cf := cf) (base := base) (h := h0) (x := .imm true none [.s (.int .i64 0), .s (.int .i64 1), .s (.int .i64 6), .s (.int .i64 7), .s (.int .i64 2), .s (.int .i64 4), .s (.int .i64 8), .s (.int .i64 3), .s (.int .i64 6), .s (.int .i64 5)]) (g := none) (.inl ⟨_, rfl⟩) (i := i % 10) hkl rfl
      obtain ⟨bv, H1, mk, hbv, f1, _⟩ := mks_ok H (i % 9) (by omega)
      have nn := fw.len
      have n1 := f1.len
      obtain ⟨x2, H2, q2, a1, a2, a3, fwn, arn⟩ := push_ok (fw.trans f1) (xr.mono (H := H1) fun b hb => f1.old _ _ hb (by simp)) hq (show SR H1 (.imm true (some 27) [AV (ask1 i) bv]) (some 27) [AV (ask1 i) bv] from .inl ⟨_, rfl⟩) (by have := ar.1; simp at this; simp; omega)
      have ar2 := (ar.fw f1).snoc (ask1 i) bv hbv
      have hrs : (List.range i).map ask1 ++ [ask1 i] = (List.range (i + 1)).map ask1 := by rw [List.range_succ, List.map_append]; rfl
      rw [hrs] at ar2
      have hbt := hbv.ty
      have hbs := hbv.solid
      simp only [AV, LV, ask1] at a1
      simp only [e2, c', hw1, r10, r20, r5, r9, hwm, hwn, ki, kl, mk, hbt, hbs, a1, or_true, Vm.o_neg, go_sem, V.s.injEq, Value.bool.injEq, simprocAttr, List.append_assoc, List.length_append, Vm.get_app, Vm.set_app, Vm.get_appL, Vm.get_appL0, Vm.set_appL, Vm.set_appL0, Nat.le_refl, Nat.le_add_right, okAt]
      exact ⟨_, by omega, i + 1, q2, _, rfl, by omega, rfl, a2, a3, arn _ _ ar2, fwn⟩
    · have c' : ¬ (i : Int) < 200 := by omega
      have : i = 200 := by omega
      subst this
      simp only [e2, c', go_sem, V.s.injEq, Value.bool.injEq, simprocAttr, List.append_assoc, List.length_append, Vm.get_app, Vm.set_app, Vm.get_appL, Vm.get_appL0, Vm.set_appL, Vm.set_appL0, Nat.le_refl, Nat.le_add_right, okAt]
      exact ⟨q, vs, xr, hq, ar, fw⟩
  rintro e H ⟨q, vs, xr, hq, ar, fw⟩
  have hA1 : ∀ a ∈ (List.range 200).map ask1, a.wf := fun a ha => by
    obtain ⟨i, hi, rfl⟩ := List.mem_map.1 ha; exact ask1_wf i (by simpa using hi)
  have hA2 : ((List.range 200).map ask1).length = 200 := by rw [List.length_map, List.length_range]
  generalize (List.range 200).map ask1 = A0 at ar hA1 hA2
  simp only [go_sem, simprocAttr, List.append_assoc, List.length_append, Vm.get_app, Vm.set_app, Vm.get_appL, Vm.get_appL0, Vm.set_appL, Vm.set_appL0, Nat.le_refl, Nat.le_add_right]
  refine wp_for (fun n e H => ∃ (i q : Nat) (vs : List V), n = 80 - i ∧ i ≤ 80 ∧ e 3 = .s (.int .i64 (i : Nat)) ∧ XR H (some 27) q (e 1) vs ∧ h.length ≤ q ∧ ARs H vs (A0 ++ (List.range i).flatMap ask2) ∧ Fw [] h H)
    (fun e H => ∃ (q : Nat) (vs : List V), XR H (some 27) q (e 1) vs ∧ h.length ≤ q ∧ ARs H vs (A0 ++ (List.range 80).flatMap ask2) ∧ Fw [] h H) 80 _ _ ⟨0, q, vs, rfl, by omega, rfl, xr, hq, by simpa using ar, fw⟩ ?_ ?_
  · rintro n e H ⟨i, q, vs, rfl, hi, e3, xr, hq, ar, fw⟩
    by_cases c : i < 80
    · have c' : (i : Int) < 80 := by omega
      have hw1 : IntKind.i64.wrap ((i : Int) + 1) = ((i + 1 : Nat) : Int) := wrap_small (by omega)
      have fL := fun A => Fw.app [] H [Blk.cells (some 27) A]
      obtain ⟨L, hL⟩ : ∃ L : List V, L = [AV ⟨0, 0, ⟨0, 0, (i : Nat), []⟩⟩ kx, AV ⟨6, (i : Nat), ⟨0, 0, 0, []⟩⟩ kx] := ⟨_, rfl⟩
      have har := ((ar.fw (fL L)).snoc ⟨0, 0, ⟨0, 0, (i : Nat), []⟩⟩ kx (BR_nil _ _)).snoc ⟨6, (i : Nat), ⟨0, 0, 0, []⟩⟩ kx (BR_nil _ _)
      have hvs : vs.length = 200 + (List.flatMap ask2 (List.range i)).length := by rw [ar.1]; simp [hA2]
      have hfl : (List.flatMap ask2 (List.range i)).length ≤ 160 := by
        have : ∀ i, (List.flatMap ask2 (List.range i)).length = 2 * i := fun i => by
          induction i with
          | zero => rfl
          | succ i ih => rw [List.range_succ, List.flatMap_append, List.length_append, ih]; simp [ask2]; omega
        rw [this]; omega
      obtain ⟨x2, H2, q2, a1, a2, a3, fwn, arn⟩ := push_ok (y := .ref H.length [] (some 27) 0 2 2) (ys := L) (fw.trans (fL L)) (xr.mono fun b hb => get_old hb _) hq (SR_ref (get_app0 _ _) (by rw [hL]; rfl)) (by rw [hL]; simp; omega)
      have hrs : (A0 ++ (List.range i).flatMap ask2) ++ [⟨0, 0, ⟨0, 0, (i : Nat), []⟩⟩] ++ [⟨6, (i : Nat), ⟨0, 0, 0, []⟩⟩] = A0 ++ (List.range (i + 1)).flatMap ask2 := by
        rw [List.range_succ, List.flatMap_append]; simp [ask2]
      rw [hrs, List.append_assoc] at har
      have hvv : vs ++ ([AV ⟨0, 0, ⟨0, 0, (i : Nat), []⟩⟩ kx] ++ [AV ⟨6, (i : Nat), ⟨0, 0, 0, []⟩⟩ kx]) = vs ++ L := by rw [hL]; rfl
      rw [hvv] at har
      have har' := arn _ _ har
      subst hL
      simp only [AV, LV] at a1
      simp only [e3, c', hw1, a1, go_sem, V.s.injEq, Value.bool.injEq, simprocAttr, List.append_assoc, List.length_append, Vm.get_app, Vm.set_app, Vm.get_appL, Vm.get_appL0, Vm.set_appL, Vm.set_appL0, Nat.le_refl, Nat.le_add_right, okAt]
      exact ⟨_, by omega, i + 1, q2, _, rfl, by omega, rfl, a2, a3, har', fwn⟩
    · have c' : ¬ (i : Int) < 80 := by omega
      have : i = 80 := by omega
      subst this
      simp only [e3, c', go_sem, V.s.injEq, Value.bool.injEq, simprocAttr, List.append_assoc, List.length_append, Vm.get_app, Vm.set_app, Vm.get_appL, Vm.get_appL0, Vm.set_appL, Vm.set_appL0, Nat.le_refl, Nat.le_add_right, okAt]
      exact ⟨q, vs, xr, hq, ar, fw⟩
  rintro e H ⟨q, vs, xr, hq, ar, fw⟩
  have hall : ∀ a ∈ A0 ++ (List.range 80).flatMap ask2, a.wf := by
    intro a ha
    rcases List.mem_append.1 ha with ha | ha
    · exact hA1 a ha
    · obtain ⟨i, hi, ha⟩ := List.mem_flatMap.1 ha; exact ask2_wf i (by simpa using hi) a ha
  have hlen : (A0 ++ (List.range 80).flatMap ask2).length ≤ 1000 := by
    have : ∀ i, (List.flatMap ask2 (List.range i)).length = 2 * i := fun i => by
      induction i with
      | zero => rfl
      | succ i ih => rw [List.range_succ, List.flatMap_append, List.length_append, ih]; simp [ask2]; omega
    rw [List.length_append, this, hA2]; omega
  generalize A0 ++ (List.range 80).flatMap ask2 = l at ar hall hlen
  obtain ⟨v1, H1, e1, rfl, o1, f1⟩ := PNew_ok h.length H
  have n0 := fw.len
  have n1 := f1.len
  have hpl := playB_ok h.length H1 (e 1) l 400 vs ((xr.mono fun b hb => f1.old _ _ hb (by simp)).SR) (ar.fw f1) hall (by omega)
  obtain ⟨bv, H2, mk, hbv, f2, _⟩ := mks_ok H1 8192 (by omega)
  have n2 := f2.len
  have o2 := o1.mono f2 (by simp) (by simp)
  have l8 : (List.replicate 8192 (0 : UInt8)).length = 8192 := List.length_replicate
  have l9 : (List.replicate 8193 (0 : UInt8)).length = 8193 := List.length_replicate
  generalize List.replicate 8192 (0 : UInt8) = z8 at hbv l8
  obtain ⟨v3, H3, e3, rfl, k3, hk3, o3, f3⟩ := PPutB_ok h.length H2 H.length H.length [] ⟨0, 0, 0, z8⟩ bv hbv n0 n0 o2 (by simp [Letter.ok]; omega)
  have p3 : puts [] ⟨0, 0, 0, z8⟩ = true := by simp [puts, l8]
  rw [p3] at e3; rw [if_pos p3] at o3
  obtain ⟨bw, H4, mk4, hbw, f4, _⟩ := mks_ok H3 8193 (by omega)
  generalize List.replicate 8193 (0 : UInt8) = z9 at hbw l9
  have o4 := o3.mono f4 (by simp) (by simp)
  have hk3' : h.length ≤ k3 := by omega
  obtain ⟨v5, H5, e5, rfl, k5, hk5, o5, f5⟩ := PPutB_ok h.length H4 H.length k3 _ ⟨0, 0, 0, z9⟩ bw hbw n0 hk3' o4 (by simp [Letter.ok]; omega)
  have p5 : ∀ O, puts O ⟨0, 0, 0, z9⟩ = false := fun O => by simp [puts, l9]
  rw [p5] at e5
  have hkn := known21_ok h.length H5
  have ft : H5.take h.length = h := Fw.take (((((fw.trans f1).trans f2).new f3 (by simp; omega)).trans f4).new f5 (by simp; omega))
  have t1 := hbv.ty; have t2 := hbv.solid; have t3 := hbw.ty; have t4 := hbw.solid
  simp only [LV] at e3 e5
  have mk' : ∀ cf base, opV cf base H1 (.mks none (.s (.int .u8 0))) [.s (.int .i64 8192), .s (.int .i64 8192)] = some (bv, H2) := mk
  have mk4' : ∀ cf base, opV cf base H3 (.mks none (.s (.int .u8 0))) [.s (.int .i64 8193), .s (.int .i64 8193)] = some (bw, H4) := mk4
  simp only [e1, hpl, mk', e3, mk4', e5, hkn, ft, t1, t2, t3, t4, go_sem, V.s.injEq, Value.bool.injEq, simprocAttr, List.append_assoc, List.length_append, Vm.get_app, Vm.set_app, Vm.get_appL, Vm.get_appL0, Vm.set_appL, Vm.set_appL0, Nat.le_refl, Nat.le_add_right, okAt]
end Go.Proofs.Ythhkalljgjmhdaa
