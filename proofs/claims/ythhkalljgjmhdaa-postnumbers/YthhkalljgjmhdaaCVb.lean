/- An abstract machine for loaded programs, part 2: what it computes is what Go computes. Conditions: none. -/
import Derived.Test.YthhkalljgjmhdaaCVa
import Derived.ChangeKeysEq
import Derived.Carry
import Derived.MapKept
import Derived.WideKeyRuns
import Derived.DeepKeys
import Derived.Laws.StructEq
import Derived.Orders
/- The abstract machine's operations are Go's: arrays held against each other; clear. -/
namespace Go.Vm
set_option linter.unusedVariables false
set_option linter.unusedSimpArgs false
variable {P : Program} {L : Lay} {c : Ctx} {h : Hp} {w : World}

theorem ints_cells {k : IntKind} : ∀ {es : List V} {a : List Int} {us : List Value}, ints k es = some a → RCs L c es us → us = a.map (Value.int k) ∧ a.length = es.length
  | [], a, us, hi, hr => by
    simp only [ints, Option.some.injEq] at hi
    simp only [RCs] at hr
    subst hi; subst hr
    exact ⟨rfl, rfl⟩
  | e :: es, a, us, hi, hr => by
    simp only [RCs] at hr
    obtain ⟨u1, u2, rfl, h1, h2⟩ := hr
    unfold ints at hi
    split at hi
    · rename_i heq; cases heq
    · rename_i k' n vs heq
      simp only [List.cons.injEq] at heq
      obtain ⟨rfl, rfl⟩ := heq
      split at hi
      · rename_i hk
        subst hk
        obtain ⟨a', ha', rfl⟩ := Option.map_eq_some_iff.1 hi
        obtain ⟨rfl, h3⟩ := ints_cells ha' h2
        simp only [RC] at h1
        rw [h1.1]
        exact ⟨by simp, by simp [h3]⟩
      · cases hi
    · cases hi

theorem run_eqItems_ints {el : TypeId} {k : IntKind} (hel : P.underlying el = some (.int k)) (d : Nat) (a b : List Int) : ∀ (m s : Nat), s + m = a.length → s + m = b.length →
    (Op.eqItems (d + 1) el 1 (a.map (Value.int k)).toArray (b.map (Value.int k)).toArray (List.range' s m)).run P w = .ok (a.drop s == b.drop s) w
  | 0, s, ha, hb => by
    simp only [List.range'_zero, Op.eqItems, Sem.run_pure]
    rw [List.drop_of_length_le (by omega), List.drop_of_length_le (by omega)]; rfl
  | m + 1, s, ha, hb => by
    have px : (part el (a.map (Value.int k)).toArray (s * 1)).run P w = .ok (.int k (a[s]'(by omega))) w := by
      simp [part, isAgg, run_underlying hel, show s < a.length by omega]
    have py : (part el (b.map (Value.int k)).toArray (s * 1)).run P w = .ok (.int k (b[s]'(by omega))) w := by
      simp [part, isAgg, run_underlying hel, show s < b.length by omega]
    simp only [List.range'_succ, Op.eqItems, Sem.run_bind, px, py, Result.andThen_ok, run_equalIn_int w d el k k _ _ hel]
    rw [List.drop_eq_getElem_cons (show s < a.length by omega), List.drop_eq_getElem_cons (show s < b.length by omega), List.cons_beq_cons]
    cases hq : (a[s]'(by omega) == b[s]'(by omega))
    · simp
    · simp only [Bool.not_true, Bool.false_eq_true, if_false, Bool.true_and]
      exact run_eqItems_ints hel d a b m (s + 1) (by omega) (by omega)

/-- Arrays of numbers, held against each other. -/
theorem do_eqa (hL : L.OK) (hs : Sim L c h w) {T t n : Nat} {el : TypeId} {k : IntKind} {g : Option Nat} (hu : P.underlying T = some (.array n el)) (hel : P.underlying el = some (.int k)) (htg : TG P L el g) (hg : L.csz g = 1) (ha : L.arr t = some (n, g)) (hgd : P.eqGuardType P.depth T = false)
    {op : BinOp} {neg : Bool} (hop' : (op = .eql ∧ neg = false) ∨ (op = .neq ∧ neg = true)) {X Y : Operand} {x y : V} {ux uy : Value} (hx : RV L c x ux) (hy : RV L c y uy) {v : V} {h' : Hp} (hop : opEqa h t k neg x y = some (v, h')) :
    Does L c w ((do eqGuard op T X Y ux uy; binOp op T ux uy : Sem Value).run P w) v h' := by
  unfold opEqa at hop
  split at hop
  case h_2 => cases hop
  rename_i t1 es t2 fs
  split at hop
  case isFalse => cases hop
  rename_i hc
  obtain ⟨rfl, rfl⟩ := hc
  split at hop
  case h_2 => cases hop
  rename_i a b hia hib
  obtain ⟨rfl, rfl⟩ := okI_eq hop
  obtain ⟨us, rfl, hr1⟩ := (RV_agg rfl).1 hx
  obtain ⟨ws, rfl, hr2⟩ := (RV_agg rfl).1 hy
  simp only [RC] at hr1 hr2
  obtain ⟨hr1, e1, ha1, _⟩ := hr1
  obtain ⟨hr2, e2, ha2, _⟩ := hr2
  rw [ha] at ha1 ha2
  simp only [Option.some.injEq, Prod.mk.injEq] at ha1 ha2
  obtain ⟨rfl, hal⟩ := ints_cells hia hr1
  obtain ⟨rfl, hbl⟩ := ints_cells hib hr2
  obtain ⟨i, hi, hisz⟩ := htg.info
  have hcells : P.cellsOf el = 1 := by simp [Program.cellsOf, hi, hisz, hg]
  have heq : ∀ d, (Op.equalIn (d + 2) T (.agg (a.map (Value.int k)).toArray) (.agg (b.map (Value.int k)).toArray)).run P w = .ok (a == b) w := fun d => by
    rw [run_equalIn_array w (d + 1) _ _ hu hi, hcells, List.range_eq_range']
    have := run_eqItems_ints (P := P) (w := w) hel d a b n 0 (by omega) (by omega)
    simpa using this
  have hguard := run_eqGuard_agg (P := P) w op T X Y (a.map (Value.int k)).toArray (b.map (Value.int k)).toArray hgd
  rcases hop' with ⟨rfl, rfl⟩ | ⟨rfl, rfl⟩
  · refine Does.same (u := .bool (a == b)) ?_ (RV_s.2 ⟨rfl, rfl⟩) hs
    simp only [Sem.run_bind, hguard, Result.andThen_ok, run_eql_struct, heq 9998]
  · refine Does.same (u := .bool !(a == b)) ?_ (RV_s.2 ⟨rfl, rfl⟩) hs
    simp only [Sem.run_bind, hguard, Result.andThen_ok, run_neq_struct, heq 9998]

/-- clear. -/
theorem do_clr (hL : L.OK) (hs : Sim L c h w) {T el : TypeId} {g : Option Nat} {zv : V} (ht : P.underlying T = some (.slice el)) (hel : TG P L el g) (hz : ZeroOK P L el zv) (hzg : zv.ty = g) (hzs : zv.solid = true)
    {ty : TypeId} {x : V} {ux : Value} (hx : RV L c x ux) {base : Nat} {v : V} {h' : Hp} (hop : opClr base h g zv x = some (v, h')) :
    Does L c w ((Builtin.clear_ #[T] ty #[ux]).run P w) v h' := by
  unfold opClr at hop
  split at hop
  · rename_i hlen
    simp only [Option.some.injEq, Prod.mk.injEq] at hop
    obtain ⟨rfl, rfl⟩ := hop
    obtain ⟨a, k, rfl, _⟩ := lenV_RV hlen hx
    refine Does.same (u := .tuple #[]) ?_ (RV_tup.2 ⟨[], rfl, trivial⟩) hs
    cases a <;> simp [Builtin.clear_, run_underlying ht]
  · rename_i n hn0 hlen
    obtain ⟨⟨v', h2⟩, hcp, he⟩ := Option.map_eq_some_iff.1 hop
    simp only [Prod.mk.injEq] at he
    obtain ⟨rfl, rfl⟩ := he
    have hn0' : n ≠ 0 := fun h0 => by subst h0; exact hn0 rfl
    unfold copyV at hcp
    split at hcp
    case h_2 => cases hcp
    rename_i id g' off len tot
    simp only [lenV, Option.some.injEq] at hlen
    subst hlen
    split at hcp
    case h_2 => cases hcp
    rename_i g'' es hrow
    split at hcp
    case isFalse => cases hcp
    rename_i hc
    simp only [Option.some.injEq, Prod.mk.injEq] at hcp
    obtain ⟨rfl, rfl⟩ := hcp
    obtain ⟨_, rfl, rfl, hfit, hput⟩ := hc
    obtain ⟨i, z, hi, hzz, hzr⟩ := hz
    have hzc := ((hzr c).cells hzs).1
    have hzl := (hzr c).solid_cells_length hL hzs
    rw [hzg] at hzl
    obtain ⟨l, hl, htot, htag, hz0, hb1, hb2, hb3, hes, us0, ty0, fz0, hg, hsz, hfz, hrc⟩ := hs.row hrow
    have hesl := (rowOf_some hrow).2
    obtain ⟨he, k, rfl, hlk, hm⟩ := ref_live hx hl htot (path := []) (o := 0) (e := l.tag) (m := none) rfl
    simp only [Nat.zero_add] at hlk hm ⊢
    have hmin : min (List.replicate len zv).length len = len := by simp
    rw [hmin]
    have hall : RCs L c (List.replicate len zv) ((List.replicate len z.cells.toList).flatten) := RCs_replicate hzc len
    have hallel : ∀ q ∈ List.replicate len zv, q.ty = g'' ∧ q.solid = true := fun q hq => by rw [List.eq_of_mem_replicate hq]; exact ⟨hzg, hzs⟩
    have hfl := RCs_length_uniform hL hall (fun q hq => (hallel q hq).1)
    simp only [List.length_replicate] at hfl
    have hcapmul : ∀ n, n ≤ l.cap → n * L.csz g'' ≤ us0.size := fun n hn => by rw [hsz]; exact Nat.mul_le_mul_right _ hn
    have hfit2 : off * L.csz g'' + ((List.replicate len z.cells.toList).flatten).length ≤ us0.size := by rw [hfl, ← Nat.add_mul]; exact hcapmul _ (by omega)
    have hone : ∀ q ∈ (List.replicate len z.cells.toList).flatten, q.oneCell' = true := RCs_oneCells (fun v _ => RC_oneCells v) (fun v hv => (hallel v hv).2) _ hall
    have hzcells : (Builtin.zeroCells z.cells len).toList = (List.replicate len z.cells.toList).flatten := range_mod z.cells len
    have hstore : (storeCells (⟨l.blk, off * L.csz g'', none⟩ : Addr) ((Builtin.zeroCells z.cells len).toList)).run P w = .ok () (w.setCells l.blk (off * L.csz g'') ((List.replicate len z.cells.toList).flatten)) := by
      rw [hzcells]
      have := run_storeCells_cells (P := P) l.blk (off * L.csz g'') ((List.replicate len z.cells.toList).flatten) 0 w (fun j hj => by rw [cell_of_heap hg]; simp; omega) (fun j hj => frozen_of_heap hg hfz.1 (by omega)) hone
      simpa using this
    have hrun : (Builtin.clear_ #[T] ty #[.slice (some ⟨l.blk, off * L.csz g'', none⟩) len k]).run P w = .ok (.tuple #[]) (w.setCells l.blk (off * L.csz g'') ((List.replicate len z.cells.toList).flatten)) := by
      obtain ⟨m, rfl⟩ : ∃ m, len = m + 1 := ⟨len - 1, by omega⟩
      simp [Builtin.clear_, run_underlying ht, zeroValue, typeInfo, hi, hzz, hstore]
    have hover := RCs_over hL hrc hall (fun q hq => (hes q hq).1) (fun q hq => (hallel q hq).1) (n := off) (by simp; omega)
    simp only [List.length_replicate] at hover
    have htk : (List.replicate len zv).take len = List.replicate len zv := List.take_of_length_le (by simp)
    rw [htk]
    have hl3 : (es.take off ++ List.replicate len zv ++ es.drop (off + len)).length = es.length := by simp only [List.length_append, List.length_take, List.length_drop, List.length_replicate]; omega
    have hlay : lay (us0.toList.take (es.length * L.csz g'')) (off * L.csz g'') ((List.replicate len z.cells.toList).flatten) = (lay us0.toList (off * L.csz g'') ((List.replicate len z.cells.toList).flatten)).take (es.length * L.csz g'') :=
      (lay_take _ _ _ _ (by rw [hfl, ← Nat.add_mul]; exact Nat.mul_le_mul_right _ (by omega)) (by have := hcapmul _ hb3; simpa using this)).symm
    rw [hlay] at hover
    obtain ⟨l', hl', hs', hle, hloc⟩ := row_write hL hs hl htag hz0 hg hfz hsz (es' := es.take off ++ List.replicate len zv ++ es.drop (off + len)) (fun q hq => by
      rcases List.mem_append.1 hq with hq | hq
      · rcases List.mem_append.1 hq with hq | hq
        · exact hes q (List.mem_of_mem_take hq)
        · exact hallel q hq
      · exact hes q (List.mem_of_mem_drop hq)) (by omega) (by omega) hfit2 (by rw [hl3]; exact hover)
    exact ⟨_, _, _, hrun, RV_tup.2 ⟨[], rfl, trivial⟩, hs', hle, St.setCells _ _ _ _⟩
  · cases hop
end Go.Vm
/- Maps: what the machine does is what Go does. -/
namespace Go.Vm
set_option linter.unusedVariables false
set_option linter.unusedSimpArgs false
variable {P : Program} {L : Lay} {c : Ctx} {h : Hp} {w : World}
theorem RV_mp {id : Nat} {u : Value} : RV L c (.mp id) u ↔ ∃ b, u = .map (some b) ∧ id < c.n ∧ ∀ l, c.loc id = some l → l.tot = 0 → b = l.blk := by
  rw [RV_leaf rfl]
  simp only [RC, List.cons.injEq, and_true]
/-- A map that is there. -/
theorem map_live (hs : Sim L c h w) {id cl : Nat} {es : List (V × V × Nat)} {u : Value} (hx : RV L c (.mp id) u) (hg : h[id]? = some (.map es cl)) :
    ∃ l ms, c.loc id = some l ∧ u = .map (some l.blk) ∧ c.z l.blk = none ∧ l.tag = none ∧ l.tot = 0 ∧ w.heap[l.blk]? = some (.map ms cl) ∧ RVm L c es ms.toList := by
  rcases hs.live id _ hg with ⟨l, hl⟩ | hd
  case inr => cases hd
  obtain ⟨k, hk, hz, hb⟩ := hs.loc id l hl
  rw [hg] at hk; cases hk
  obtain ⟨h1, h2, ms, h3, h4⟩ := hb
  obtain ⟨b, rfl, _, hb⟩ := RV_mp.1 hx
  rw [hb l hl h2]
  exact ⟨l, ms, hl, rfl, hz, h1, h2, h3, h4⟩
theorem RVm.length : ∀ {es : List (V × V × Nat)} {ms : List MapEntry}, RVm L c es ms → es.length = ms.length
  | [], [], _ => rfl
  | e :: es, m :: ms, h => by simp [RVm.length h.2]
  | [], _ :: _, h => h.elim
  | _ :: _, [], h => h.elim
theorem RVm.nth : ∀ {es : List (V × V × Nat)} {ms : List MapEntry} {i : Nat} {e : V × V × Nat}, RVm L c es ms → es[i]? = some e → ∃ m, ms[i]? = some m ∧ RV L c e.1 m.key ∧ RV L c e.2.1 m.val ∧ e.2.2 = m.born
  | e :: es, m :: ms, 0, x, h, hx => by cases hx; exact ⟨m, rfl, h.1⟩
  | e :: es, m :: ms, i + 1, x, h, hx => by
    obtain ⟨m2, h1, h2⟩ := RVm.nth (es := es) (ms := ms) (i := i) h.2 hx
    exact ⟨m2, h1, h2⟩
  | [], [], i, x, _, hx => by simp at hx
  | [], _ :: _, _, _, h, _ => h.elim
  | _ :: _, [], _, _, h, _ => h.elim
theorem RVm.snoc {k v : V} {b : Nat} {m : MapEntry} (hm : RV L c k m.key ∧ RV L c v m.val ∧ b = m.born) : ∀ {es : List (V × V × Nat)} {ms : List MapEntry}, RVm L c es ms → RVm L c (es ++ [(k, v, b)]) (ms ++ [m])
  | [], [], _ => ⟨hm, trivial⟩
  | e :: es, m' :: ms, h => ⟨h.1, RVm.snoc hm h.2⟩
  | [], _ :: _, h => h.elim
  | _ :: _, [], h => h.elim
theorem RVm.set {k v : V} {b : Nat} {m : MapEntry} (hm : RV L c k m.key ∧ RV L c v m.val ∧ b = m.born) : ∀ {es : List (V × V × Nat)} {ms : List MapEntry} (i : Nat), RVm L c es ms → RVm L c (es.set i (k, v, b)) (ms.set i m)
  | [], [], _, _ => trivial
  | e :: es, m' :: ms, 0, h => ⟨hm, h.2⟩
  | e :: es, m' :: ms, i + 1, h => ⟨h.1, RVm.set hm i h.2⟩
  | [], _ :: _, _, h => h.elim
  | _ :: _, [], _, h => h.elim
theorem do_mkm (hs : Sim L c h w) (t : TypeId) : Does L c w ((Instr.makeMap t none).run P w) (.mp h.length) (h ++ [.map [] 0]) := by
  have hs' := hs.push (.map #[] 0) (.map [] 0) ⟨w.heap.size, 0, none, 0⟩ rfl ⟨rfl, rfl, #[], heap_new, trivial⟩
  have hl : (c.push ⟨w.heap.size, 0, none, 0⟩).loc h.length = some ⟨w.heap.size, 0, none, 0⟩ := by simp [Ctx.push, hs.n]
  exact ⟨_, _, _, Go.RowKit.run_makeMap t w, RV_mp.2 ⟨_, rfl, by simp [Ctx.push, hs.n], fun l hl' _ => by rw [hl] at hl'; cases hl'; rfl⟩, hs', c.le_push _, St.alloc _ _⟩
/-- A map's block is written anew. -/
theorem map_move (hs : Sim L c h w) {id cl cl' : Nat} {l : Loc} {ms ms' : Array MapEntry} {es' : List (V × V × Nat)} (hl : c.loc id = some l) (hz : c.z l.blk = none) (htag : l.tag = none) (htot : l.tot = 0)
    (hg : w.heap[l.blk]? = some (.map ms cl)) (hr : RVm L c es' ms'.toList) : Sim L c (h.set id (.map es' cl')) { w with heap := w.heap.setIfInBounds l.blk (.map ms' cl') } := by
  have hmv : c.move id l = c := by
    cases c with
    | mk z loc n =>
      simp only [Ctx.move]
      congr
      funext j
      by_cases hj : j = id
      · subst hj; simp only [if_true]; exact hl.symm
      · simp [hj]
  have hs' := hs.move (l' := l) hl (w' := { w with heap := w.heap.setIfInBounds l.blk (.map ms' cl') }) (.map es' cl') (by rw [hmv]; exact Ctx.le_refl c) hz (Or.inl rfl)
    (fun b hb hbl => by simp [Array.getElem?_setIfInBounds, Ne.symm hbl]) (fun o' ho' => by rw [hz] at ho'; cases ho')
    ⟨htag, htot, ms', by simp [Array.getElem?_setIfInBounds, lt_of_heap hg], by rw [hmv]; exact hr⟩
  rwa [hmv] at hs'
/-- Keys that are arrays of numbers can be hashed. -/
theorem run_checkKey_ints {T n : Nat} {el : TypeId} {k : IntKind} (hu : P.underlying T = some (.array n el)) (hel : P.underlying el = some (.int k)) {i : TypeInfo} (hi : P.info? el = some i) (hsz : P.cellsOf el = 1)
    (a : List Int) (ha : a.length = n) (em : Bool) (d : Nat) : (Instr.checkKey em (d + 2) T (.agg (a.map (Value.int k)).toArray)).run P w = .ok () w := by
  rw [Instr.checkKey]
  simp only [Sem.run_bind, run_underlying hu, Result.andThen_ok]
  simp only [Std.Legacy.Range.forIn_eq_forIn_range', Std.Legacy.Range.size, Nat.sub_zero, Nat.add_one_sub_one, Nat.div_one]
  have hj : ∀ j ∈ List.range' 0 n, j < a.length := fun j hj => by rw [List.mem_range'_1] at hj; omega
  generalize List.range' 0 n = is at hj
  induction is with
  | nil => simp
  | cons j is ih =>
    have h1 := hj j (by simp)
    have p1 := run_part_plain (P := P) w (e := el) (by simp [Program.plainKey, hel]) (xs := (a.map (Value.int k)).toArray) (off := j) (v := .int k a[j]) (by simp [h1])
    have p2 : (Instr.checkKey em (d + 1) el (.int k a[j])).run P w = .ok () w := by simp [Instr.checkKey, run_underlying hel]
    simp only [List.forIn_cons, Sem.run_bind, run_sizeOf w hi, Result.andThen_ok, hsz, Nat.mul_one, p1, p2, Sem.run_pure]
    exact ih (fun y hy => hj y (by simp [hy]))
theorem run_equal_ints {T n : Nat} {el : TypeId} {k : IntKind} (hu : P.underlying T = some (.array n el)) (hel : P.underlying el = some (.int k)) (hsz : P.cellsOf el = 1)
    (a b : List Int) (ha : a.length = n) (hb : b.length = n) : (Op.equal T (.agg (a.map (Value.int k)).toArray) (.agg (b.map (Value.int k)).toArray)).run P w = .ok (a == b) w := by
  obtain ⟨i, hi⟩ := info_of_underlying hel
  have heq : ∀ d, (Op.equalIn (d + 2) T (.agg (a.map (Value.int k)).toArray) (.agg (b.map (Value.int k)).toArray)).run P w = .ok (a == b) w := fun d => by
    rw [run_equalIn_array w (d + 1) _ _ hu hi, hsz, List.range_eq_range']
    have := run_eqItems_ints (P := P) (w := w) hel d a b n 0 (by omega) (by omega)
    simpa using this
  exact heq _
/-- Types of keys: numbers, arrays of numbers. -/
def KeyTy (P : Program) (L : Lay) (kt : TypeId) : Option (Nat × IntKind) → Prop
  | none => ∃ k, P.underlying kt = some (.int k)
  | some (t, k) => ∃ n el, P.underlying kt = some (.array n el) ∧ P.underlying el = some (.int k) ∧ P.cellsOf el = 1 ∧ L.arr t = some (n, none)
theorem findM_mem9 {kc : Option (Nat × IntKind)} {x : V} : ∀ {es : List (V × V × Nat)} {n : Nat} {q : Nat × V × Nat}, findM kc x es n = some (some q) → n ≤ q.1 ∧ ∃ e, es[q.1 - n]? = some e ∧ e.2 = q.2 ∧ keyEq kc x e.1 = some true
  | [], n, q, h => by simp [findM] at h
  | e :: es, n, q, h => by
    simp only [findM] at h
    split at h
    · rename_i hk
      simp only [Option.some.injEq] at h
      subst h
      exact ⟨Nat.le_refl _, e, by simp, rfl, hk⟩
    · obtain ⟨h1, e', h2, h3⟩ := findM_mem9 h
      refine ⟨by omega, e', ?_, h3⟩
      have : q.1 - n = (q.1 - (n + 1)) + 1 := by omega
      rw [this]; exact h2
    · cases h
/-- What is found, as Go gives it. -/
def resM (ms : List MapEntry) (n : Nat) (r : Option (Nat × V × Nat)) : Option (Nat × Value) := r.bind fun q => (ms[q.1 - n]?).map fun m => (q.1, m.val)
theorem key_int {k0 : IntKind} {x y : V} {ux uy : Value} {b : Bool} (hx : RV L c x ux) (hy : RV L c y uy) (he : keyEq none x y = some b) : Instr.sameNow (.int k0) ux uy = some b ∧ ∃ k a, ux = .int k a := by
  unfold keyEq at he
  split at he
  · rename_i k a k' a' _
    obtain ⟨rfl, _⟩ := RV_s.1 hx
    obtain ⟨rfl, _⟩ := RV_s.1 hy
    split at he
    · rename_i hk; subst hk
      simp only [Option.some.injEq] at he
      subst he
      exact ⟨by simp [Instr.sameNow], k, a, rfl⟩
    · cases he
  · rename_i h1; cases h1
  · cases he
theorem find_int {k0 : IntKind} {x : V} {ux : Value} (hx : RV L c x ux) : ∀ {es : List (V × V × Nat)} {ms : List MapEntry} {n : Nat} {r : Option (Nat × V × Nat)}, RVm L c es ms → findM none x es n = some r → Instr.findNow (.int k0) ux ms n = some (resM ms n r)
  | [], [], n, r, _, h => by simp only [findM, Option.some.injEq] at h; subst h; rfl
  | e :: es, m :: ms, n, r, hr, h => by
    simp only [findM] at h
    split at h
    · rename_i hk
      simp only [Option.some.injEq] at h; subst h
      simp [Instr.findNow, (key_int (k0 := k0) hx hr.1.1 hk).1, resM]
    · rename_i hk
      have ih := find_int (k0 := k0) hx hr.2 h
      simp only [Instr.findNow, (key_int (k0 := k0) hx hr.1.1 hk).1, ih, Option.some.injEq]
      cases r with
      | none => rfl
      | some q =>
        have hle := (findM_mem9 h).1
        have : q.1 - n = (q.1 - (n + 1)) + 1 := by omega
        simp [resM, this]
    · cases h
  | [], _ :: _, _, _, h, _ => h.elim
  | _ :: _, [], _, _, h, _ => h.elim
theorem key_arr {t n : Nat} {el : TypeId} {k : IntKind} {kt : TypeId} (hu : P.underlying kt = some (.array n el)) (hel : P.underlying el = some (.int k)) (hsz : P.cellsOf el = 1) (ha : L.arr t = some (n, none))
    {x y : V} {ux uy : Value} {b : Bool} (hx : RV L c x ux) (hy : RV L c y uy) (he : keyEq (some (t, k)) x y = some b) :
    (Op.equal kt ux uy).run P w = .ok b w ∧ ∃ a : List Int, a.length = n ∧ ux = .agg (a.map (Value.int k)).toArray ∧ ∃ a' : List Int, a'.length = n ∧ uy = .agg (a'.map (Value.int k)).toArray ∧ b = (a == a') := by
  unfold keyEq at he
  split at he
  · rename_i heq; cases heq
  · rename_i t' k' t1 es t2 fs h1
    cases h1
    split at he
    case isFalse => cases he
    rename_i hc
    obtain ⟨rfl, rfl⟩ := hc
    split at he
    case h_2 => cases he
    rename_i a a' hia hib
    simp only [Option.some.injEq] at he
    subst he
    obtain ⟨us, rfl, hr1⟩ := (RV_agg rfl).1 hx
    obtain ⟨ws, rfl, hr2⟩ := (RV_agg rfl).1 hy
    simp only [RC] at hr1 hr2
    obtain ⟨hr1, e1, ha1, _⟩ := hr1
    obtain ⟨hr2, e2, ha2, _⟩ := hr2
    rw [ha] at ha1 ha2
    simp only [Option.some.injEq, Prod.mk.injEq] at ha1 ha2
    obtain ⟨rfl, hal⟩ := ints_cells hia hr1
    obtain ⟨rfl, hbl⟩ := ints_cells hib hr2
    exact ⟨run_equal_ints hu hel hsz a a' (by omega) (by omega), a, by omega, rfl, a', by omega, rfl, rfl⟩
  · cases he
theorem find_arr {t n : Nat} {el : TypeId} {k : IntKind} {kt : TypeId} (hu : P.underlying kt = some (.array n el)) (hel : P.underlying el = some (.int k)) (hsz : P.cellsOf el = 1) (ha : L.arr t = some (n, none))
    {x : V} {ux : Value} (hx : RV L c x ux) : ∀ {es : List (V × V × Nat)} {ms : List MapEntry} {m : Nat} {r : Option (Nat × V × Nat)}, RVm L c es ms → findM (some (t, k)) x es m = some r → (Instr.findAsking kt ux ms m).run P w = .ok (resM ms m r) w
  | [], [], m, r, _, h => by simp only [findM, Option.some.injEq] at h; subst h; simp [Instr.findAsking, resM]
  | e :: es, m' :: ms, m, r, hr, h => by
    simp only [findM] at h
    split at h
    · rename_i hk
      simp only [Option.some.injEq] at h; subst h
      simp [Instr.findAsking, (key_arr (w := w) hu hel hsz ha hx hr.1.1 hk).1, resM]
    · rename_i hk
      have ih := find_arr hu hel hsz ha hx hr.2 h
      simp only [Instr.findAsking, Sem.run_bind, (key_arr (w := w) hu hel hsz ha hx hr.1.1 hk).1, Result.andThen_ok, Bool.false_eq_true, if_false, ih]
      congr 1
      cases r with
      | none => rfl
      | some q =>
        have hle := (findM_mem9 h).1
        have : q.1 - m = (q.1 - (m + 1)) + 1 := by omega
        simp [resM, this]
    · cases h
  | [], _ :: _, _, _, h, _ => h.elim
  | _ :: _, [], _, _, h, _ => h.elim
theorem chk_int {kt : TypeId} {k0 k : IntKind} {a : Int} (hu : P.underlying kt = some (.int k0)) (em : Bool) (n : Nat) : (Instr.checkKey em (n + 1) kt (.int k a)).run P w = .ok () w := by simp [Instr.checkKey, run_underlying hu]
/-- A key is looked for, as Go does. -/
theorem find_run {kt : TypeId} {kc : Option (Nat × IntKind)} (hk : KeyTy P L kt kc) {x : V} {ux : Value} (hx : RV L c x ux) {es : List (V × V × Nat)} {ms : List MapEntry} {r : Option (Nat × V × Nat)} (hr : RVm L c es ms) (hf : findK kc x es = some r) :
    (∀ em, (Instr.checkKey em 10000 kt ux).run P w = .ok () w) ∧ (Instr.findKey kt ux ms).run P w = .ok (resM ms 0 r) w := by
  unfold findK at hf
  split at hf
  case isFalse => cases hf
  rename_i hs
  cases kc with
  | none =>
    obtain ⟨k0, hu⟩ := hk
    obtain ⟨_, k, a, rfl⟩ := key_int (k0 := k0) hx hx hs
    exact ⟨fun em => chk_int hu em 9999, MapKept.run_findKey hu (find_int hx hr hf)⟩
  | some q =>
    obtain ⟨t, k⟩ := q
    obtain ⟨n, el, hu, hel, hsz, ha⟩ := hk
    obtain ⟨_, a, hal, rfl, _⟩ := key_arr (w := w) hu hel hsz ha hx hx hs
    obtain ⟨i, hi⟩ := info_of_underlying hel
    exact ⟨fun em => run_checkKey_ints hu hel hi hsz a hal em 9998, by rw [run_findKey_eq w (by rw [hu])]; exact find_arr hu hel hsz ha hx hr hf⟩
theorem resM_some {es : List (V × V × Nat)} {ms : List MapEntry} {kc : Option (Nat × IntKind)} {x : V} {q : Nat × V × Nat} (hr : RVm L c es ms) (h : findM kc x es 0 = some (some q)) :
    ∃ m, ms[q.1]? = some m ∧ RV L c q.2.1 m.val ∧ q.2.2 = m.born ∧ resM ms 0 (some q) = some (q.1, m.val) := by
  obtain ⟨_, e, h1, h2, _⟩ := findM_mem9 h
  rw [Nat.sub_zero] at h1
  obtain ⟨m, h3, _, h4, h5⟩ := RVm.nth hr h1
  exact ⟨m, h3, by rw [← h2]; exact h4, by rw [← h2]; exact h5, by simp [resM, h3]⟩
theorem findK_find {kc : Option (Nat × IntKind)} {x : V} {es : List (V × V × Nat)} {r : Option (Nat × V × Nat)} (h : findK kc x es = some r) : findM kc x es 0 = some r := by
  unfold findK at h
  split at h
  · exact h
  · cases h
theorem do_lku (hs : Sim L c h w) {T kt et : TypeId} {kc : Option (Nat × IntKind)} (hm : P.underlying T = some (.map kt et)) (hk : KeyTy P L kt kc) {ok : Bool} {zv : V} (hz : ZeroOK P L et zv) {x y : V} {ux uy : Value} (hx : RV L c x ux) (hy : RV L c y uy)
    {v : V} {h' : Hp} (hop : opLku h kc ok zv x y = some (v, h')) : Does L c w ((Instr.lookup T ux uy ok).run P w) v h' := by
  unfold opLku at hop
  split at hop
  case h_2 => cases hop
  rename_i id
  split at hop
  case h_2 => cases hop
  rename_i es cl hg
  obtain ⟨r, hf, he⟩ := Option.map_eq_some_iff.1 hop
  simp only [Prod.mk.injEq] at he
  obtain ⟨rfl, rfl⟩ := he
  obtain ⟨l, ms, hl, rfl, hz', htag, htot, h3, hr⟩ := map_live hs hx hg
  obtain ⟨hck, hfk⟩ := find_run (w := w) hk hy hr hf
  obtain ⟨i, z, hi, hzz, hzr⟩ := hz
  have hzv : (zeroValue et).run P w = .ok z w := by simp [zeroValue, typeInfo, hi, hzz]
  have hget := MapKept.run_getObj_map (P := P) h3
  cases r with
  | none =>
    have hf0 : resM ms.toList 0 none = none := rfl
    rw [hf0] at hfk
    refine Does.same (u := if ok then .tuple #[z, .bool false] else z) ?_ ?_ hs
    · simp only [Instr.lookup, Sem.run_bind, run_underlying hm, Result.andThen_ok, hget, Sem.run_pure, hck, hfk, hzv]
    · cases ok
      · exact hzr c
      · exact RV_tup.2 ⟨[z, .bool false], rfl, hzr c, RV_s.2 ⟨rfl, rfl⟩, trivial⟩
  | some q =>
    obtain ⟨m, hm1, hm2, hm3, hm4⟩ := resM_some hr (findK_find hf)
    rw [hm4] at hfk
    refine Does.same (u := if ok then .tuple #[m.val, .bool true] else m.val) ?_ ?_ hs
    · simp only [Instr.lookup, Sem.run_bind, run_underlying hm, Result.andThen_ok, hget, Sem.run_pure, hck, hfk]
    · cases ok
      · exact hm2
      · exact RV_tup.2 ⟨[m.val, .bool true], rfl, hm2, RV_s.2 ⟨rfl, rfl⟩, trivial⟩
theorem same_ints (k : IntKind) : ∀ (d : Nat) (a : List Int), ((a.map (Value.int k)).zip (a.map (Value.int k))).all (fun p => Instr.sameBits d p.1 p.2) = true
  | d, [] => rfl
  | d, x :: a => by
    simp only [List.map_cons, List.zip_cons_cons, List.all_cons, same_ints k d a, Bool.and_true]
    cases d <;> simp [Instr.sameBits]
theorem key_same {kt : TypeId} {kc : Option (Nat × IntKind)} (hk : KeyTy P L kt kc) {x y : V} {ux uy : Value} (hx : RV L c x ux) (hy : RV L c y uy) (he : keyEq kc x y = some true) : uy = ux ∧ (Instr.keyThatStays uy ux).run P w = .ok ux w := by
  have key : ∀ u : Value, Instr.sameBits 10000 u u = true → (Instr.keyThatStays u u).run P w = .ok u w := fun u hu => by
    simp only [Instr.keyThatStays, hu, if_true, Sem.run_pure]
  cases kc with
  | none =>
    obtain ⟨k0, hu⟩ := hk
    unfold keyEq at he
    split at he
    · rename_i k a k' a' _
      obtain ⟨rfl, _⟩ := RV_s.1 hx
      obtain ⟨rfl, _⟩ := RV_s.1 hy
      split at he
      · rename_i hkk; subst hkk
        have : a = a' := by simpa using he
        subst this
        exact ⟨rfl, key _ (by show Instr.sameBits (9999 + 1) _ _ = true; simp [Instr.sameBits])⟩
      · cases he
    · rename_i h1; cases h1
    · cases he
  | some q =>
    obtain ⟨t, k⟩ := q
    obtain ⟨n, el, hu, hel, hsz, ha⟩ := hk
    obtain ⟨_, a, hal, rfl, a', hal', rfl, hb⟩ := key_arr (w := w) hu hel hsz ha hx hy he
    have : a = a' := by simpa using hb.symm
    subst this
    refine ⟨rfl, key _ ?_⟩
    show Instr.sameBits (9999 + 1) _ _ = true
    simp only [Instr.sameBits, beq_self_eq_true, Bool.true_and]
    exact same_ints k 9999 a
theorem modify_set {ms : Array MapEntry} {i : Nat} {m : MapEntry} {f : MapEntry → MapEntry} (h : ms.toList[i]? = some m) : (ms.modify i f).toList = ms.toList.set i (f m) := by
  rw [Array.toList_modify]
  apply List.ext_getElem?
  intro j
  have hlt := (List.getElem?_eq_some_iff.1 h).1
  rw [List.getElem?_modify, List.getElem?_set]
  by_cases c : i = j
  · subst c; rw [if_pos rfl, if_pos hlt, h]; simp
  · rw [if_neg c]; simp [c]
theorem St.heap (w : World) (i : Nat) (o : Obj) : St w { w with heap := w.heap.setIfInBounds i o } := ⟨rfl, rfl, rfl, by simp⟩
theorem do_mup (hs : Sim L c h w) {T kt et : TypeId} {kc : Option (Nat × IntKind)} (hm : P.underlying T = some (.map kt et)) (hk : KeyTy P L kt kc) {g : Option Nat} {x y z : V} {ux uy uz : Value} (hx : RV L c x ux) (hy : RV L c y uy) (hz : RV L c z uz)
    {base : Nat} {v : V} {h' : Hp} (hop : opMup base h kc g x y z = some (v, h')) : ∃ w', (Instr.mapUpdate T ux uy uz).run P w = .ok () w' ∧ v = .tup [] ∧ Sim L c h' w' ∧ St w w' := by
  unfold opMup at hop
  split at hop
  case h_2 => cases hop
  rename_i id
  split at hop
  case isFalse => cases hop
  split at hop
  case h_2 => cases hop
  rename_i es cl hg
  obtain ⟨r, hf, he⟩ := Option.map_eq_some_iff.1 hop
  obtain ⟨l, ms, hl, rfl, hz', htag, htot, h3, hr⟩ := map_live hs hx hg
  obtain ⟨hck, hfk⟩ := find_run (w := w) hk hy hr hf
  have hget := MapKept.run_getObj_map (P := P) h3
  have hset := fun o => MapKept.run_setObj_map (P := P) o h3
  cases r with
  | none =>
    cases he
    have hf0 : resM ms.toList 0 none = none := rfl
    rw [hf0] at hfk
    refine ⟨_, ?_, rfl, map_move hs hl hz' htag htot h3 (ms' := ms.push ⟨uy, uz, cl⟩) (by rw [Array.toList_push]; exact RVm.snoc (m := ⟨uy, uz, cl⟩) ⟨hy, hz, rfl⟩ hr), St.heap _ _ _⟩
    simp only [Instr.mapUpdate, Sem.run_bind, run_underlying hm, Result.andThen_ok, hget, hck, hfk, hset]
  | some q =>
    obtain ⟨i, v0, b⟩ := q
    cases he
    obtain ⟨m, hm1, hm2, hm3, hm4⟩ := resM_some hr (findK_find hf)
    rw [hm4] at hfk
    simp only at hm1 hm3 hfk
    obtain ⟨_, e, q1, q2, q3⟩ := findM_mem9 (findK_find hf)
    simp only [Nat.sub_zero] at q1
    obtain ⟨m', hm1', hkey, _, _⟩ := RVm.nth hr q1
    rw [hm1] at hm1'; cases hm1'
    obtain ⟨hke, hst⟩ := key_same (w := w) hk hy hkey q3
    have hmi : ms[i]? = some m := by rw [← Array.getElem?_toList]; exact hm1
    refine ⟨_, ?_, rfl, map_move hs hl hz' htag htot h3 (ms' := ms.modify i fun e => { e with key := uy, val := uz }) (by rw [modify_set hm1]; exact RVm.set (m := { m with key := uy, val := uz }) ⟨hy, hz, hm3⟩ i hr), St.heap _ _ _⟩
    simp only [Instr.mapUpdate, Sem.run_bind, run_underlying hm, Result.andThen_ok, hget, hck, hfk, hmi, Option.map_some, Option.getD_some, hst, hset]
theorem do_mpe (hs : Sim L c h w) {T kt et : TypeId} {kc : Option (Nat × IntKind)} (hm : P.underlying T = some (.map kt et)) (hk : KeyTy P L kt kc) {zv : V} (hz : ZeroOK P L et zv) {x y : V} {ux uy : Value} (hx : RV L c x ux) (hy : RV L c y uy)
    {base : Nat} {v : V} {h' : Hp} (hop : opMpe base h kc zv x y = some (v, h')) : Does L c w ((Instr.mapEntry T ux uy).run P w) v h' := by
  unfold opMpe at hop
  split at hop
  case h_2 => cases hop
  rename_i id
  split at hop
  case isFalse => cases hop
  split at hop
  case h_2 => cases hop
  rename_i es cl hg
  obtain ⟨r, hf, he⟩ := Option.map_eq_some_iff.1 hop
  obtain ⟨l, ms, hl, rfl, hz', htag, htot, h3, hr⟩ := map_live hs hx hg
  obtain ⟨hck, hfk⟩ := find_run (w := w) hk hy hr hf
  have hget := MapKept.run_getObj_map (P := P) h3
  have hset := fun o => MapKept.run_setObj_map (P := P) o h3
  obtain ⟨i0, z, hi, hzz, hzr⟩ := hz
  have hzv : (zeroValue et).run P w = .ok z w := by simp [zeroValue, typeInfo, hi, hzz]
  cases r with
  | none =>
    cases he
    have hf0 : resM ms.toList 0 none = none := rfl
    rw [hf0] at hfk
    refine ⟨.tuple #[z, goInt cl], c, _, ?_, RV_tup.2 ⟨[z, goInt cl], rfl, hzr c, RV_s.2 ⟨rfl, rfl⟩, trivial⟩, map_move hs hl hz' htag htot h3 (ms' := ms.push ⟨uy, z, cl⟩) (by rw [Array.toList_push]; exact RVm.snoc (m := ⟨uy, z, cl⟩) ⟨hy, hzr c, rfl⟩ hr), Ctx.le_refl c, St.heap _ _ _⟩
    simp only [Instr.mapEntry, Sem.run_bind, run_underlying hm, Result.andThen_ok, hget, hck, hfk, hzv, hset, Sem.run_pure]
  | some q =>
    obtain ⟨i, v0, b⟩ := q
    cases he
    obtain ⟨m, hm1, hm2, hm3, hm4⟩ := resM_some hr (findK_find hf)
    rw [hm4] at hfk
    simp only at hm1 hm2 hm3 hfk
    obtain ⟨_, e, q1, q2, q3⟩ := findM_mem9 (findK_find hf)
    simp only [Nat.sub_zero] at q1
    obtain ⟨m', hm1', hkey, _, _⟩ := RVm.nth hr q1
    rw [hm1] at hm1'; cases hm1'
    obtain ⟨hke, hst⟩ := key_same (w := w) hk hy hkey q3
    have hmi : ms[i]? = some m := by rw [← Array.getElem?_toList]; exact hm1
    refine ⟨.tuple #[m.val, goInt m.born], c, _, ?_, RV_tup.2 ⟨[m.val, goInt m.born], rfl, hm2, RV_s.2 ⟨by rw [hm3]; rfl, rfl⟩, trivial⟩, map_move hs hl hz' htag htot h3 (ms' := ms.modify i fun e => { e with key := uy }) (by rw [modify_set hm1]; exact RVm.set (m := { m with key := uy }) ⟨hy, hm2, hm3⟩ i hr), Ctx.le_refl c, St.heap _ _ _⟩
    simp only [Instr.mapEntry, Sem.run_bind, run_underlying hm, Result.andThen_ok, hget, hck, hfk, hmi, Option.map_some, Option.getD_some, hst, hset, Sem.run_pure]
theorem do_mln (hs : Sim L c h w) {T kt et : TypeId} (hm : P.underlying T = some (.map kt et)) {ty : TypeId} {x : V} {ux : Value} (hx : RV L c x ux) {v : V} {h' : Hp} (hop : opMln h x = some (v, h')) : Does L c w ((Builtin.len_ #[T] ty #[ux]).run P w) v h' := by
  unfold opMln at hop
  split at hop
  case h_2 => cases hop
  rename_i id
  split at hop
  case h_2 => cases hop
  rename_i es cl hg
  simp only [Option.some.injEq, Prod.mk.injEq] at hop
  obtain ⟨rfl, rfl⟩ := hop
  obtain ⟨l, ms, hl, rfl, hz', htag, htot, h3, hr⟩ := map_live hs hx hg
  have hget := MapKept.run_getObj_map (P := P) h3
  have hlen : es.length = ms.size := by rw [RVm.length hr]; simp
  refine Does.same (u := goInt es.length) ?_ (RV_s.2 ⟨rfl, rfl⟩) hs
  simp [Builtin.len_, underlying, hm, goInt, hget, hlen]
theorem putM_find {n : Int} {v : V} {u : Value} (hv : RV L c v u) : ∀ {es es' : List (V × V × Nat)} {ms : List MapEntry}, RVm L c es ms → putM n v es = some es' → ∃ i m, ms.findIdx? (fun e => (e.born : Int) == n) = some i ∧ ms[i]? = some m ∧ RVm L c es' (ms.set i { m with val := u })
  | [], es', [], _, h => by simp [putM] at h
  | e :: es, es', m :: ms, hr, h => by
    simp only [putM] at h
    split at h
    · rename_i hn
      cases h
      refine ⟨0, m, ?_, rfl, ⟨hr.1.1, hv, hr.1.2.2⟩, hr.2⟩
      rw [List.findIdx?_cons, if_pos]
      rw [← hr.1.2.2]; simpa using hn
    · rename_i hn
      obtain ⟨q, hq, rfl⟩ := Option.map_eq_some_iff.1 h
      obtain ⟨i, m', h1, h2, h3⟩ := putM_find hv hr.2 hq
      refine ⟨i + 1, m', ?_, h2, hr.1, h3⟩
      rw [List.findIdx?_cons, if_neg, h1]
      · rfl
      · rw [← hr.1.2.2]; simpa using hn
  | [], _, _ :: _, h, _ => h.elim
  | _ :: _, _, [], h, _ => h.elim
theorem do_ens (hs : Sim L c h w) {T : TypeId} {g : Option Nat} {x y z : V} {ux uy uz : Value} (hx : RV L c x ux) (hy : RV L c y uy) (hz : RV L c z uz)
    {base : Nat} {v : V} {h' : Hp} (hop : opEns base h g x y z = some (v, h')) : ∃ w', (Instr.entryStore T ux uy uz).run P w = .ok () w' ∧ v = .tup [] ∧ Sim L c h' w' ∧ St w w' := by
  unfold opEns at hop
  split at hop
  case h_2 => cases hop
  rename_i id k n
  split at hop
  case isFalse => cases hop
  split at hop
  case h_2 => cases hop
  rename_i es cl hg
  obtain ⟨es', hf, he⟩ := Option.map_eq_some_iff.1 hop
  cases he
  obtain ⟨l, ms, hl, rfl, hz', htag, htot, h3, hr⟩ := map_live hs hx hg
  obtain ⟨rfl, _⟩ := RV_s.1 hy
  have hget := MapKept.run_getObj_map (P := P) h3
  have hset := fun o => MapKept.run_setObj_map (P := P) o h3
  obtain ⟨i, m, h1, h2, h4⟩ := putM_find hz hr hf
  have h1' : ms.findIdx? (fun e => (e.born : Int) == n) = some i := by have := h1; cases ms; simpa using this
  refine ⟨_, ?_, rfl, map_move hs hl hz' htag htot h3 (ms' := ms.modify i fun e => { e with val := uz }) (by rw [modify_set h2]; exact h4), St.heap _ _ _⟩
  simp only [Instr.entryStore, Sem.run_bind, hget, Result.andThen_ok, asInt, asIntOf, Sem.run_pure, h1', hset]
end Go.Vm
/- Structs of plain parts held against each other: what the machine does is what Go does. -/
namespace Go.Vm
set_option linter.unusedVariables false
set_option linter.unusedSimpArgs false
variable {P : Program} {L : Lay} {c : Ctx} {h : Hp} {w : World}
def LK.lit : LK → Value → Option Lit
  | .i k, .int q n => if q = k ∧ (Lit.int k n).wf = true then some (.int k n) else none
  | .b, .bool c => some (.bool c)
  | .s, .string x => if x.size ≤ maxLen then some (.string x.data.toList) else none
  | _, _ => none
def litsOf : List LK → List Value → Option (List Lit)
  | [], [] => some []
  | k :: ks, v :: vs => match k.lit v, litsOf ks vs with | some a, some b => some (a :: b) | _, _ => none
  | _, _ => none
theorem litOk_lit {k : LK} {v : Value} (h : litOk k v = true) : ∃ a, k.lit v = some a := by
  unfold litOk at h
  split at h
  · rename_i k q n
    obtain ⟨h1, h2, h3⟩ := of_decide_eq_true h
    exact ⟨_, by simp only [LK.lit]; exact if_pos ⟨h1, by simp [Lit.wf, h2, h3]⟩⟩
  · exact ⟨_, rfl⟩
  · rename_i s
    have := of_decide_eq_true h
    have hm : 140737488351232 ≤ maxLen := by decide
    exact ⟨_, by simp only [LK.lit]; exact if_pos (Nat.le_trans this hm)⟩
  · cases h
theorem litsOk_lits : ∀ {ks : List LK} {vs : List Value}, litsOk ks vs = true → ∃ as, litsOf ks vs = some as
  | [], [], _ => ⟨[], rfl⟩
  | k :: ks, v :: vs, h => by
    simp only [litsOk, Bool.and_eq_true] at h
    obtain ⟨a, ha⟩ := litOk_lit h.1
    obtain ⟨as, has⟩ := litsOk_lits h.2
    exact ⟨a :: as, by simp only [litsOf, ha, has]⟩
  | [], _ :: _, h => by cases h
  | _ :: _, [], h => by cases h
theorem leafEq_lit {k : LK} {u v : Value} {a b : Lit} (ha : k.lit u = some a) (hb : k.lit v = some b) : leafEq u v = true ↔ a = b := by
  cases k with
  | i k =>
    cases u <;> simp only [LK.lit] at ha <;> first | (cases ha; done) | skip
    cases v <;> simp only [LK.lit] at hb <;> first | (cases hb; done) | skip
    split at ha <;> first | (cases ha; done) | skip
    split at hb <;> first | (cases hb; done) | skip
    cases ha; cases hb
    simp [leafEq]
  | b =>
    cases u <;> simp only [LK.lit] at ha <;> first | (cases ha; done) | skip
    cases v <;> simp only [LK.lit] at hb <;> first | (cases hb; done) | skip
    cases ha; cases hb
    simp [leafEq]
  | s =>
    cases u <;> simp only [LK.lit] at ha <;> first | (cases ha; done) | skip
    cases v <;> simp only [LK.lit] at hb <;> first | (cases hb; done) | skip
    split at ha <;> first | (cases ha; done) | skip
    split at hb <;> first | (cases hb; done) | skip
    cases ha; cases hb
    simp [leafEq]
theorem leavesEq_lits : ∀ {ks : List LK} {us vs : List Value} {as bs : List Lit}, litsOf ks us = some as → litsOf ks vs = some bs → (leavesEq us vs = true ↔ as = bs)
  | [], [], [], as, bs, ha, hb => by cases ha; cases hb; simp [leavesEq]
  | k :: ks, u :: us, v :: vs, as, bs, ha, hb => by
    simp only [litsOf] at ha hb
    split at ha
    case h_2 => cases ha
    rename_i a as' h1 h2
    split at hb
    case h_2 => cases hb
    rename_i b bs' h3 h4
    cases ha; cases hb
    simp only [leavesEq, Bool.and_eq_true, List.cons.injEq, leafEq_lit h1 h3, leavesEq_lits h2 h4]
  | [], [], _ :: _, _, _, _, hb => by cases hb
  | [], _ :: _, _, _, _, ha, _ => by cases ha
  | _ :: _, [], _, _, _, ha, _ => by cases ha
  | _ :: _, _ :: _, [], _, _, _, hb => by cases hb
theorem litsOf_append : ∀ {a b : List LK} {us : List Value} {l : List Lit}, litsOf (a ++ b) us = some l → ∃ l1 l2, l = l1 ++ l2 ∧ litsOf a (us.take a.length) = some l1 ∧ litsOf b (us.drop a.length) = some l2
  | [], b, us, l, h => ⟨[], l, rfl, by simp [litsOf], by simpa using h⟩
  | k :: a, b, [], l, h => by cases h
  | k :: a, b, u :: us, l, h => by
    simp only [List.cons_append, litsOf] at h
    split at h
    case h_2 => cases h
    rename_i x xs h1 h2
    cases h
    obtain ⟨l1, l2, rfl, h3, h4⟩ := litsOf_append h2
    exact ⟨x :: l1, l2, rfl, by simp only [List.length_cons, List.take_succ_cons, litsOf, h1, h3], by simpa using h4⟩
theorem litsOf_len : ∀ {ks : List LK} {us : List Value} {l : List Lit}, litsOf ks us = some l → us.length = ks.length
  | [], [], _, _ => rfl
  | k :: ks, u :: us, l, h => by
    simp only [litsOf] at h
    split at h
    case h_2 => cases h
    rename_i h1 h2
    simp [litsOf_len h2]
  | [], _ :: _, _, h => by cases h
  | _ :: _, [], _, h => by cases h
/-- The plain parts of a type. -/
def fieldsK (f : TypeId → Option (List LK)) (P : Program) : List Field → Nat → Option (List LK)
  | [], _ => some []
  | x :: xs, off => match f x.type, fieldsK f P xs (off + P.cellsOf x.type) with
    | some a, some b => if x.offset = off ∧ a.length = P.cellsOf x.type ∧ x.name ≠ "_" then some (a ++ b) else none
    | _, _ => none
def kindsOf (P : Program) : Nat → TypeId → Option (List LK)
  | 0, _ => none
  | d + 1, t => match P.underlying t with
    | some .bool => some [.b]
    | some (.int k) => some [.i k]
    | some .string => some [.s]
    | some (.array n e) => match kindsOf P d e with
      | some a => if a.length = P.cellsOf e ∧ n * a.length = P.cellsOf t then some (List.replicate n a).flatten else none
      | none => none
    | some (.struct fs) => match fieldsK (kindsOf P d) P fs.toList 0 with
      | some a => if a.length = P.cellsOf t then some a else none
      | none => none
    | _ => none
theorem array_lits {d e sz : Nat} {a : List LK} {us : List Value} (ih : ∀ us l, litsOf a us = some l → P.keyLits d e us = some l) (hsz : a.length = sz) : ∀ (n s : Nat) (l : List Lit), litsOf (List.replicate n a).flatten (us.drop (s * sz)) = some l →
    ∃ ls, (List.range' s n).mapM (fun i => P.keyLits d e ((us.drop (i * sz)).take sz)) = some ls ∧ ls.flatten = l
  | 0, s, l, h => by
    refine ⟨[], by simp, ?_⟩
    simp only [List.replicate_zero, List.flatten_nil] at h
    cases hu : us.drop (s * sz) with
    | nil => rw [hu] at h; cases h; rfl
    | cons x xs => rw [hu] at h; cases h
  | n + 1, s, l, h => by
    rw [List.replicate_succ, List.flatten_cons] at h
    obtain ⟨l1, l2, rfl, h1, h2⟩ := litsOf_append h
    rw [hsz] at h1 h2
    rw [List.drop_drop] at h2
    obtain ⟨ls, h3, h4⟩ := array_lits ih hsz n (s + 1) l2 (by rw [Nat.add_mul, Nat.one_mul]; exact h2)
    refine ⟨l1 :: ls, ?_, by rw [List.flatten_cons, h4]⟩
    rw [List.range'_succ, List.mapM_cons, ih _ _ h1]
    simp only [Option.bind_eq_bind, Option.bind_some, h3]
    rfl
theorem fields_lits {d : Nat} {us : List Value} (ih : ∀ t ks us l, kindsOf P d t = some ks → litsOf ks us = some l → P.keyLits d t us = some l) : ∀ (fs : List Field) (off : Nat) (ks : List LK) (l : List Lit), fieldsK (kindsOf P d) P fs off = some ks → litsOf ks (us.drop off) = some l →
    (fs.all fun f => f.name != "_") = true ∧ ∃ ls, fs.mapM (fun f => P.keyLits d f.type ((us.drop f.offset).take (P.cellsOf f.type))) = some ls ∧ ls.flatten = l
  | [], off, ks, l, h1, h2 => by
    cases h1
    refine ⟨rfl, [], by simp, ?_⟩
    cases hu : us.drop off with
    | nil => rw [hu] at h2; cases h2; rfl
    | cons x xs => rw [hu] at h2; cases h2
  | f :: fs, off, ks, l, h1, h2 => by
    simp only [fieldsK] at h1
    split at h1
    case h_2 => cases h1
    rename_i a b h3 h4
    split at h1
    case isFalse => cases h1
    rename_i hc
    obtain ⟨rfl, hl, hn⟩ := hc
    cases h1
    obtain ⟨l1, l2, rfl, h5, h6⟩ := litsOf_append h2
    rw [hl] at h5 h6
    rw [List.drop_drop] at h6
    obtain ⟨h7, ls, h8, h9⟩ := fields_lits ih fs _ b l2 h4 h6
    refine ⟨by simp [hn]; simpa using h7, l1 :: ls, ?_, by rw [List.flatten_cons, h9]⟩
    rw [List.mapM_cons, ih _ _ _ _ h3 h5]
    simp only [Option.bind_eq_bind, Option.bind_some, h8]
    rfl
theorem kinds_lits : ∀ (d : Nat) (t : TypeId) (ks : List LK) (us : List Value) (l : List Lit), kindsOf P d t = some ks → litsOf ks us = some l → P.keyLits d t us = some l
  | 0, t, ks, us, l, h, _ => by cases h
  | d + 1, t, ks, us, l, h, hl => by
    have one : ∀ k : LK, litsOf [k] us = some l → ∃ u a, us = [u] ∧ k.lit u = some a ∧ l = [a] := by
      intro k hk
      cases us with
      | nil => cases hk
      | cons u us =>
        simp only [litsOf] at hk
        split at hk
        case h_2 => cases hk
        rename_i a b h1 h2
        cases us with
        | nil => cases h2; cases hk; exact ⟨u, a, rfl, h1, rfl⟩
        | cons _ _ => cases h2
    simp only [kindsOf] at h
    split at h
    · rename_i hu; cases h
      obtain ⟨u, a, rfl, h1, rfl⟩ := one _ hl
      cases u <;> simp only [LK.lit] at h1 <;> first | (cases h1; done) | skip
      cases h1
      simp [Program.keyLits, hu]
    · rename_i k hu; cases h
      obtain ⟨u, a, rfl, h1, rfl⟩ := one _ hl
      cases u <;> simp only [LK.lit] at h1 <;> first | (cases h1; done) | skip
      split at h1 <;> first | (cases h1; done) | skip
      rename_i hc
      obtain ⟨rfl, hc⟩ := hc
      cases h1
      simp [Program.keyLits, hu, hc]
    · rename_i hu; cases h
      obtain ⟨u, a, rfl, h1, rfl⟩ := one _ hl
      cases u <;> simp only [LK.lit] at h1 <;> first | (cases h1; done) | skip
      split at h1 <;> first | (cases h1; done) | skip
      rename_i hc
      cases h1
      simp [Program.keyLits, hu, hc]
    · rename_i n e hu
      split at h
      case h_2 => cases h
      rename_i a ha
      split at h
      case isFalse => cases h
      rename_i hc
      cases h
      obtain ⟨ls, h1, h2⟩ := array_lits (P := P) (d := d) (e := e) (us := us) (fun us l hl => kinds_lits d e a us l ha hl) hc.1 n 0 l (by simpa using hl)
      have hlen : us.length = P.cellsOf t := by
        rw [litsOf_len hl, ← hc.2]; simp [List.length_flatten]
      simp only [Program.keyLits, hu, hlen, if_true, List.range_eq_range', h1, Option.map_some, h2]
    · rename_i fs hu
      split at h
      case h_2 => cases h
      rename_i a ha
      split at h
      case isFalse => cases h
      rename_i hc
      cases h
      obtain ⟨h0, ls, h1, h2⟩ := fields_lits (P := P) (d := d) (us := us) (fun t ks us l => kinds_lits d t ks us l) fs.toList 0 ks l ha (by simpa using hl)
      have hlen : us.length = P.cellsOf t := by rw [litsOf_len hl, hc]
      have h0' : fs.all (fun f => f.name != "_") = true := by rw [← Array.all_toList]; exact h0
      simp only [Program.keyLits, hu, hlen, h0', and_self, if_true, h1, Option.map_some, h2]
    · cases h
theorem flat_cells : ∀ (v : V) (xs us : List Value), v.flat = some xs → RC L c v us → us = xs := by
  intro v
  induction v using V.rec (motive_2 := fun vs => ∀ xs us, V.flat.all vs = some xs → RCs L c vs us → us = xs) with
  | s x => intro xs us h hr; simp only [V.flat] at h; cases h; simp only [RC] at hr; exact hr.1
  | st t fs ih => intro xs us h hr; simp only [V.flat] at h; simp only [RC] at hr; exact ih _ _ h hr.1
  | arr t fs ih => intro xs us h hr; simp only [V.flat] at h; simp only [RC] at hr; exact ih _ _ h hr.1
  | nil => rename_i xs us h hr; simp only [V.flat.all] at h; cases h; simpa only [RCs] using hr
  | cons v vs ih ihs =>
    rename_i xs us h hr
    simp only [V.flat.all] at h
    split at h
    case h_2 => cases h
    rename_i a b h1 h2
    cases h
    simp only [RCs] at hr
    obtain ⟨u1, u2, rfl, h3, h4⟩ := hr
    rw [ih _ _ h1 h3, ihs _ _ h2 h4]
  | _ => intro xs us h hr; simp [V.flat] at h
theorem do_eqs (hs : Sim L c h w) {T t m : Nat} {fs : Array Field} {ks : List LK} (hm : m ≤ 10000) (hu : P.underlying T = some (.struct fs)) (hk : P.keyTypeAt m T = true) (hks : kindsOf P m T = some ks) (hgd : P.eqGuardType P.depth T = false)
    {op : BinOp} {neg : Bool} (hop' : (op = .eql ∧ neg = false) ∨ (op = .neq ∧ neg = true)) {X Y : Operand} {x y : V} {ux uy : Value} (hx : RV L c x ux) (hy : RV L c y uy) {v : V} {h' : Hp} (hop : opEqs h t ks neg x y = some (v, h')) :
    Does L c w ((do eqGuard op T X Y ux uy; binOp op T ux uy : Sem Value).run P w) v h' := by
  unfold opEqs at hop
  split at hop
  case h_2 => cases hop
  rename_i t1 es t2 gs
  split at hop
  case isFalse => cases hop
  rename_i hc
  obtain ⟨rfl, rfl⟩ := hc
  split at hop
  case h_2 => cases hop
  rename_i as bs hia hib
  split at hop
  case isFalse => cases hop
  rename_i hl
  obtain ⟨rfl, rfl⟩ := okI_eq hop
  obtain ⟨us, rfl, hr1⟩ := (RV_agg rfl).1 hx
  obtain ⟨ws, rfl, hr2⟩ := (RV_agg rfl).1 hy
  obtain rfl := flat_cells (.st t2 es) _ _ (by simpa only [V.flat] using hia) hr1
  obtain rfl := flat_cells (.st t2 gs) _ _ (by simpa only [V.flat] using hib) hr2
  obtain ⟨la, hla⟩ := litsOk_lits hl.1
  obtain ⟨lb, hlb⟩ := litsOk_lits hl.2
  have ka := kinds_lits m T ks _ _ hks hla
  have kb := kinds_lits m T ks _ _ hks hlb
  have hlen : ks.length = P.cellsOf T := by
    cases m with
    | zero => cases hks
    | succ m =>
      simp only [kindsOf, hu] at hks
      split at hks
      case h_2 => cases hks
      split at hks
      case isFalse => cases hks
      rename_i hc
      cases hks; exact hc
  have fa : ∀ us : List Value, litsOf ks us ≠ none → (Value.agg us.toArray).formed P T = true := fun us h => by
    cases hq : litsOf ks us with
    | none => exact absurd hq h
    | some l => simp [Value.formed, hu, litsOf_len hq, hlen]
  obtain ⟨r, hr, hiff⟩ := run_equalIn_deep (P := P) (10000 - m) m T hk w m m (.agg us.toArray) (.agg ws.toArray) la lb (fa us (by rw [hla]; simp)) (fa ws (by rw [hlb]; simp)) (by simpa [Value.cells] using ka) (by simpa [Value.cells] using kb)
  rw [show 10000 - m + m = 10000 by omega] at hr
  have hre : r = leavesEq us ws := by
    rw [Bool.eq_iff_iff, hiff, leavesEq_lits hla hlb]
  subst hre
  have hguard := run_eqGuard_agg (P := P) w op T X Y us.toArray ws.toArray hgd
  rcases hop' with ⟨rfl, rfl⟩ | ⟨rfl, rfl⟩
  · refine Does.same (u := .bool (leavesEq us ws)) ?_ (RV_s.2 ⟨rfl, rfl⟩) hs
    simp only [Sem.run_bind, hguard, Result.andThen_ok, run_eql_struct, hr]
  · refine Does.same (u := .bool !(leavesEq us ws)) ?_ (RV_s.2 ⟨rfl, rfl⟩) hs
    simp only [Sem.run_bind, hguard, Result.andThen_ok, run_neq_struct, hr]
theorem do_s2a (hL : L.OK) (hs : Sim L c h w) {T el : TypeId} {n t : Nat} {g : Option Nat} (hu : P.underlying T = some (.array n el)) (ha : L.arr t = some (n, g)) {x : V} {ux : Value} (hx : RV L c x ux) {v : V} {h' : Hp} (hop : opS2a h t g n x = some (v, h')) :
    Does L c w ((Instr.arrayAt T ux).run P w) v h' := by
  unfold opS2a at hop
  obtain ⟨⟨v1, h1⟩, hk, hq⟩ := Option.bind_eq_some_iff.1 hop
  clear hop
  simp only at hq
  split at hq
  case h_2 => cases hq
  rename_i full g' es
  split at hq
  case isFalse => cases hq
  rename_i hc
  obtain ⟨rfl, hn0, hn⟩ := hc
  cases hq
  obtain ⟨u, c1, w1, hr, hv, hs1, hle, hst⟩ := does_kil hL (Does.same (r := .ok ux w) rfl hx hs) hk
  cases hr
  obtain ⟨a, k, rfl, h2, h3, h4, h5⟩ := RV_imm.1 hv
  have hne : es ≠ [] := by intro e; subst e; simp at hn; omega
  rcases h5 with h5 | ⟨b, off, cs, ty, fz, rfl, hz, hrc⟩
  · exact absurd h5 hne
  refine ⟨.pointer (some ⟨b, off, none⟩), c1, _, ?_, RV_iptr.2 ⟨b, off, cs, ty, fz, rfl, hz, ?_⟩, hs1, hle, hst⟩
  · have : ¬ es.length < n := by omega
    simp [Instr.arrayAt, run_underlying hu, this]
  · have hsz : L.csz (V.arr t (es.take n)).ty = n * L.csz g' := by
      simp only [V.ty, Lay.csz]; exact hL.ar _ _ _ ha
    rw [hsz]
    simp only [RC]
    have hlen : (es.take n).length = n := by simp; omega
    refine ⟨?_, g', by rw [hlen]; exact ha, fun e he => h4 e (List.mem_of_mem_take he)⟩
    have h6 := (RCs_take hL hrc (fun e he => (h4 e he).1) n hn).1
    have : (seg cs off (es.length * L.csz g')).take (n * L.csz g') = seg cs off (n * L.csz g') := by
      unfold seg
      rw [List.take_take, Nat.min_eq_left (Nat.mul_le_mul_right _ hn)]
    rw [this] at h6; exact h6
end Go.Vm
/- From a loaded program's operations to the abstract machine's: the table, and that each is Go's. -/
namespace Go.Vm
set_option linter.unusedVariables false
set_option linter.unusedSimpArgs false

/-- A field of a struct type, as the layout has it. -/
def fieldOK (P : Program) (fields : Array Field) (gs : List (Option Nat)) (i : Nat) : Bool :=
  match fields[i]?, gs[i]? with
  | some f, some g => decide (g = tagOf P f.type) && tgB P f.type && f.offset == ((gs.take i).map (layOf P).csz).sum
  | _, _ => false

theorem fieldOK_of {P : Program} {fields : Array Field} {gs : List (Option Nat)} {i : Nat} (h : fieldOK P fields gs i = true) :
    ∃ f g, fields[i]? = some f ∧ gs[i]? = some g ∧ TG P (layOf P) f.type g ∧ f.offset = ((gs.take i).map (layOf P).csz).sum := by
  unfold fieldOK at h
  split at h
  · rename_i f g h1 h2
    simp only [Bool.and_eq_true, decide_eq_true_eq, beq_iff_eq] at h
    obtain ⟨⟨rfl, h3⟩, h4⟩ := h
    exact ⟨f, _, h1, h2, tgB_TG h3, h4⟩
  · cases h

/-- A zero value for a type, held against the type's own. -/
def zeroOf (P : Program) (obj : Nat → Bool) (t : TypeId) : Option V :=
  match zv P (match tagOf P t with | some n => obj n | none => false) 20 t with
  | some z => if zeroB P t z && decide (z.ty = tagOf P t) && z.solid then some z else none
  | none => none

theorem zeroOf_OK {P : Program} {obj : Nat → Bool} {t : TypeId} {z : V} (h : zeroOf P obj t = some z) : ZeroOK P (layOf P) t z ∧ z.ty = tagOf P t ∧ z.solid = true := by
  unfold zeroOf at h
  split at h
  case h_2 => cases h
  split at h
  · rename_i hc
    simp only [Option.some.injEq] at h
    subst h
    simp only [Bool.and_eq_true, decide_eq_true_eq] at hc
    exact ⟨zeroB_OK hc.1.1, hc.1.2, hc.2⟩
  · cases h

def clOf : TypeDesc → Option Cl
  | .int _ => some .num
  | .string => some .num
  | .bool => some .tru
  | .pointer _ => some .ptr
  | _ => none

/-- Bytes. -/
def isU8 (P : Program) (t : TypeId) : Bool := match P.underlying t with | some (.int .u8) => true | _ => false
def isI32 (P : Program) (t : TypeId) : Bool := match P.underlying t with | some (.int .i32) => true | _ => false

def intTy : TypeDesc → Bool
  | .int _ => true
  | _ => false
def noIface : TypeDesc → Bool
  | .interface _ => false
  | _ => true
def partTy (fields : Array Field) (i : Nat) : TypeId := match fields[i]? with | some f => f.type | none => 0

def bslO (b : Bool) (g : Option Nat) (z : List V) (p : List Nat) : O := bif b then .bsx g z p else .bsl g z p
def appO (b : Bool) (g : Option Nat) (n : Nat) : O := bif b then .apx g n else .app g n
theorem bslO_bsl {b : Bool} {g g' : Option Nat} {z z' : List V} {p p' : List Nat} (h : bslO b g z p = .bsl g' z' p') : g = g' ∧ z = z' ∧ p = p' := by
  cases b <;> cases h
  exact ⟨rfl, rfl, rfl⟩
theorem appO_bsl (b : Bool) (g g' : Option Nat) (n : Nat) (z : List V) (p : List Nat) : (appO b g n = .bsl g' z p) = False := by cases b <;> simp [appO]
theorem opV_bslO {cf : Nat → List V → Hp → Option (V × Hp)} {base : Nat} {h : Hp} {b : Bool} {g : Option Nat} {z : List V} {p : List Nat} {xs : List V} {r : V × Hp} (hr : opV cf base h (bslO b g z p) xs = some r) : opBsx h g z p xs = some r ∨ opBsl h g z p xs = some r := by
  cases b
  · exact .inr hr
  · exact .inl hr
theorem opV_appO {cf : Nat → List V → Hp → Option (V × Hp)} {base : Nat} {h : Hp} {b : Bool} {g : Option Nat} {n : Nat} {x y : V} {r : V × Hp} (hr : opV cf base h (appO b g n) [x, y] = some r) : opApx base h g n x y = some r ∨ opApp base h g n x y = some r := by
  cases b
  · exact .inr hr
  · exact .inl hr
/-- The class of a map's keys. -/
def keyC (P : Program) (kt : TypeId) : Option (Option (Nat × IntKind)) :=
  match P.underlying kt with
  | some (.int _) => some none
  | some (.array n el) => match P.underlying el, tagOf P kt with
    | some (.int k), some t => if P.cellsOf el = 1 ∧ (layOf P).arr t = some (n, none) then some (some (t, k)) else none
    | _, _ => none
  | _ => none
theorem keyC_ty {P : Program} {kt : TypeId} {kc : Option (Nat × IntKind)} (h : keyC P kt = some kc) : KeyTy P (layOf P) kt kc := by
  unfold keyC at h
  split at h
  · rename_i k hu; cases h; exact ⟨k, hu⟩
  · rename_i n el hu
    split at h
    · rename_i k t hel ht
      split at h
      · rename_i hc; cases h; exact ⟨n, el, hu, hel, hc.1, hc.2⟩
      · cases h
    · cases h
  · cases h
/-- The machine's operation for one of Go's, with its operands. -/
def cop (P : Program) (obj : Nat → Bool) (ty : TypeId) : Op → Option (O × List X)
  | .move x => (copX P ty x).map fun x => (.mv, [x])
  | .assign x => (copX P ty x).map fun x => (.mv, [x])
  | .pick c a b => (copXs P [(ty, c), (ty, a), (ty, b)]).map fun xs => (.pick, xs)
  | .alloc e => (zeroOf P obj e).map fun z => (.alc (tagOf P e) z, [])
  | .box e x => (copX P e x).map fun x => (.box (tagOf P e), [x])
  | .build t parts => match P.underlying t, tagOf P t, zeroOf P obj t with
    | some (.struct fields), some tag, some (.st tag' zero) => match (layOf P).fields tag with
      | some gs => if tag' = tag ∧ fields.size = gs.length ∧ (List.range fields.size).all (fieldOK P fields gs) = true then
          (copXs P (parts.toList.map fun p => (partTy fields p.1, p.2))).map fun xs => (.blds tag zero (parts.toList.map (·.1)), xs)
        else none
      | none => none
    | some (.array n el), some tag, some (.arr tag' zero) =>
      if tag' = tag ∧ tgB P el = true ∧ (layOf P).arr tag = some (n, tagOf P el) then
        (copXs P (parts.toList.map fun p => (el, p.2))).map fun xs => (.blda tag zero (parts.toList.map (·.1)), xs)
      else none
    | _, _, _ => none
  | .buildSlice t n parts => match P.underlying t with
    | some (.slice el) => match zeroOf P obj el with
      | some z => if tgB P el = true ∧ 0 < (layOf P).csz (tagOf P el) ∧ n * (layOf P).csz (tagOf P el) ≤ 16777216 then
          (copXs P (parts.toList.map fun p => (el, p.2))).map fun xs => (bslO (obj (5000000 + t)) (tagOf P el) (List.replicate n z) (parts.toList.map (·.1)), xs)
        else none
      | none => none
    | _ => none
  | .load t x => if tgB P t = true then (copX P t x).map fun x => (.ld (tagOf P t), [x]) else none
  | .store t x y => if tgB P t = true then (copXs P [(t, x), (t, y)]).map fun xs => (.sto (tagOf P t), xs) else none
  | .nilCheck x => (copX P ty x).map fun x => (.nck, [x])
  | .binOp op T x y T' => match P.underlying T with
    | some (.array n el) => match P.underlying el, tagOf P T, op with
      | some (.int k), some tag, .eql => if tgB P el = true ∧ (layOf P).arr tag = some (n, tagOf P el) ∧ P.eqGuardType P.depth T = false then (copXs P [(T, x), (T', y)]).map fun xs => (.eqa tag k false, xs) else none
      | some (.int k), some tag, .neq => if tgB P el = true ∧ (layOf P).arr tag = some (n, tagOf P el) ∧ P.eqGuardType P.depth T = false then (copXs P [(T, x), (T', y)]).map fun xs => (.eqa tag k true, xs) else none
      | _, _, _ => none
    | some (.struct fs) => match kindsOf P 8 T, tagOf P T, op with
      | some ks, some tag, .eql => if P.keyTypeAt 8 T = true ∧ P.eqGuardType P.depth T = false then (copXs P [(T, x), (T', y)]).map fun xs => (.eqs tag ks false, xs) else none
      | some ks, some tag, .neq => if P.keyTypeAt 8 T = true ∧ P.eqGuardType P.depth T = false then (copXs P [(T, x), (T', y)]).map fun xs => (.eqs tag ks true, xs) else none
      | _, _, _ => none
    | some d => match clOf d with
      | some cl => (copXs P [(T, x), (T', y)]).map fun xs => (.bin cl op, xs)
      | none => none
    | none => none
  | .unOp op T x => (copX P T x).map fun x => (.un op, [x])
  | .convert S T x => match P.underlying S, P.underlying T with
    | some (.int _), some (.int k) => (copX P S x).map fun x => (.i2i k, [x])
    | some (.slice el), some .string => if isU8 P el = true then (copX P S x).map fun x => (.b2s, [x]) else if isI32 P el = true then (copX P S x).map fun x => (.r2s false, [x]) else none
    | some (.int .i32), some .string => (copX P S x).map fun x => (.r2s true, [x])
    | some .string, some (.slice el) => if isU8 P el = true then (copX P S x).map fun x => (.s2b true, [x]) else none
    | some (.slice el), some (.slice _) => if S = T ∧ isU8 P el = true then (copX P S x).map fun x => (.frz, [x]) else none
    | _, _ => none
  | .makeInterface T x => if P.concrete T = true then (copX P T x).map fun x => (.mki T, [x]) else none
  | .makeFunc (.func f) first captured => if first.isEmpty then (copXs P (captured.toList.map fun x => (ty, x))).map fun xs => (.mkf f, xs) else none
  | .makeSlice t l n => match P.underlying t with
    | some (.slice el) => match zeroOf P obj el with
      | some z => if tgB P el = true ∧ P.bytesOf el ≤ 4096 then (copXs P [(ty, l), (ty, n)]).map fun xs => (.mks (tagOf P el) z, xs) else none
      | none => none
    | _ => none
  | .slice t x lo hi mx => match P.underlying t with
    | some (.slice el) => if tgB P el = true then (copXs P ((t, x) :: (lo.toList ++ hi.toList ++ mx.toList).map fun y => (ty, y))).map fun xs => (.slc (tagOf P el) lo.isSome hi.isSome mx.isSome, xs) else none
    | some .string => if mx.isNone then (copXs P ((t, x) :: (lo.toList ++ hi.toList).map fun y => (ty, y))).map fun xs => (.sls lo.isSome hi.isSome, xs) else none
    | some (.array n el) => match tagOf P t with
      | some tag => if tgB P el = true ∧ (layOf P).arr tag = some (n, tagOf P el) ∧ mx.isNone = true then (copXs P ((t, x) :: (lo.toList ++ hi.toList).map fun y => (ty, y))).map fun xs => (.sla tag (tagOf P el) lo.isSome hi.isSome, xs) else none
      | none => none
    | _ => none
  | .fieldAddr T x i => match P.underlying T, tagOf P T with
    | some (.struct fields), some tag => match (layOf P).fields tag with
      | some gs => if fieldOK P fields gs i = true ∧ P.cellsOf (partTy fields i) ≠ 0 then (copX P T x).map fun x => (.fa tag i, [x]) else none
      | none => none
    | _, _ => none
  | .field T x i => match P.underlying T, tagOf P T with
    | some (.struct fields), some tag => match (layOf P).fields tag with
      | some gs => if fieldOK P fields gs i = true then (copX P T x).map fun x => (.fld tag i, [x]) else none
      | none => none
    | _, _ => none
  | .indexAddr T x i => match P.underlying T with
    | some (.array n el) => match tagOf P T with
      | some tag => if tgB P el = true ∧ (layOf P).arr tag = some (n, tagOf P el) then (copXs P [(T, x), (ty, i)]).map fun xs => (.iaa tag, xs) else none
      | none => none
    | some (.slice el) => if tgB P el = true then (copXs P [(T, x), (ty, i)]).map fun xs => (.ias (tagOf P el), xs) else none
    | _ => none
  | .index T x i => match P.underlying T with
    | some (.array n el) => match tagOf P T with
      | some tag => if tgB P el = true ∧ (layOf P).arr tag = some (n, tagOf P el) then (copXs P [(T, x), (ty, i)]).map fun xs => (.idx tag, xs) else none
      | none => none
    | some .string => (copXs P [(T, x), (ty, i)]).map fun xs => (.sidx, xs)
    | _ => none
  | .range T x => match P.underlying T with
    | some .string => (copX P T x).map fun x => (.rng, [x])
    | _ => none
  | .next x true => (copX P ty x).map fun x => (.nxt, [x])
  | .typeAssert x T A ok => match P.underlying A, zeroOf P obj A with
    | some d, some z => if noIface d = true then (copX P T x).map fun x => (.tas A ok z, [x]) else none
    | _, _ => none
  | .panic _ => some (.bad, [])
  | .makeMap t none => match P.underlying t with
    | some (.map _ _) => some (.mkm, [])
    | _ => none
  | .lookup T x ix ok => match P.underlying T with
    | some (.map kt et) => match keyC P kt, zeroOf P obj et with
      | some kc, some z => (copXs P [(T, x), (kt, ix)]).map fun xs => (.lku kc ok z, xs)
      | _, _ => none
    | _ => none
  | .mapUpdate T m k x => match P.underlying T with
    | some (.map kt et) => match keyC P kt with
      | some kc => (copXs P [(T, m), (kt, k), (et, x)]).map fun xs => (.mup kc (tagOf P et), xs)
      | none => none
    | _ => none
  | .insert T m k x => match P.underlying T with
    | some (.map kt et) => match keyC P kt with
      | some kc => (copXs P [(T, m), (kt, k), (et, x)]).map fun xs => (.mup kc (tagOf P et), xs)
      | none => none
    | _ => none
  | .mapEntry T m k => match P.underlying T with
    | some (.map kt et) => match keyC P kt, zeroOf P obj et with
      | some kc, some z => (copXs P [(T, m), (kt, k)]).map fun xs => (.mpe kc z, xs)
      | _, _ => none
    | _ => none
  | .entryStore T m k x => match P.underlying T with
    | some (.map kt et) => (copXs P [(T, m), (ty, k), (et, x)]).map fun xs => (.ens (tagOf P et), xs)
    | _ => none
  | .sliceToArrayPointer T x => match P.underlying T, tagOf P T with
    | some (.array n el), some tag => if (layOf P).arr tag = some (n, tagOf P el) then (copX P ty x).map fun x => (.s2a tag (tagOf P el) n, [x]) else none
    | _, _ => none
  | .extract x i => (copX P ty x).map fun x => (.ext i, [x])
  | .call c => match c.callee with
    | .value (.func f) => (copXs P (c.argTypes.toList.zip c.args.toList)).bind fun xs => if c.argTypes.size = c.args.size then some (.call f, xs) else none
    | .value (.tmp n) => (copXs P (c.argTypes.toList.zip c.args.toList)).bind fun xs => if c.argTypes.size = c.args.size then some (.callv, .t n :: xs) else none
    | .builtin b => match b, c.argTypes.toList, c.args.toList with
      | .len, [T], [x] => match P.underlying T with
        | some (.slice _) => (copX P T x).map fun x => (.len, [x])
        | some (.map _ _) => (copX P T x).map fun x => (.mln, [x])
        | some .string => (copX P T x).map fun x => (.slen, [x])
        | _ => none
      | .append, [T, T'], [x, y] => match P.underlying T with
        | some (.slice el) => match zeroOf P obj el, P.underlying T' with
          | some z, some (.slice _) => if tgB P el = true ∧ 0 < P.bytesOf el then (copXs P [(T, x), (T', y)]).map fun xs => (appO (obj (4000000 + T)) (tagOf P el) (P.bytesOf el), xs) else none
          | some z, some (.int _) => if tgB P el = true ∧ 0 < P.bytesOf el then (copXs P [(T, x), (T', y)]).map fun xs => (.apz (tagOf P el) (P.bytesOf el) z, xs) else none
          | some z, some .string => if tgB P el = true ∧ 0 < P.bytesOf el then (copXs P [(T, x), (T', y)]).map fun xs => (appO (obj (4000000 + T)) (tagOf P el) (P.bytesOf el), xs) else none
          | _, _ => none
        | _ => none
      | .cap, [T], [x] => match P.underlying T with
        | some (.slice _) => (copX P T x).map fun x => (.cap, [x])
        | _ => none
      | .copy, [T, T'], [x, y] => match P.underlying T with
        | some (.slice el) => if tgB P el = true then (copXs P [(T, x), (T', y)]).map fun xs => (.cpy (tagOf P el), xs) else none
        | _ => none
      | .clear, [T], [x] => match P.underlying T with
        | some (.slice el) => match zeroOf P obj el with
          | some z => if tgB P el = true then (copX P T x).map fun x => (.clr (tagOf P el) z, [x]) else none
          | none => none
        | _ => none
      | .min, [T, T'], [x, y] => (copXs P [(T, x), (T', y)]).map fun xs => (.min, xs)
      | .max, [T, T'], [x, y] => (copXs P [(T, x), (T', y)]).map fun xs => (.max, xs)
      | _, _, _ => none
    | _ => none
  | _ => none
end Go.Vm
/- Each operation that the table gives is Go's. -/
namespace Go.Vm
set_option linter.unusedVariables false
set_option linter.unusedSimpArgs false

/-- What a call comes to. -/
def CallRes (P : Program) (L : Lay) (c : Ctx) (w : World) (f : Nat) (us : List Value) (v : V) (h' : Hp) : Prop :=
  Calls P f us.toArray w fun e w' => ∃ u c', e = .returned u ∧ RV L c' v u ∧ Sim L c' h' w' ∧ c.le c' ∧ St w w'

/-- What an operation comes to: a value, a call. -/
def OpRes (P : Program) (L : Lay) (c : Ctx) (w : World) (r : Result Next) (v : V) (h' : Hp) : Prop :=
  (∃ u c' w', (r = .ok (.value u) w' ∨ (r = .ok .skip w' ∧ u = undef)) ∧ RV L c' v u ∧ Sim L c' h' w' ∧ c.le c' ∧ St w w') ∨
  (∃ f us, r = .ok (.enter f us.toArray) w ∧ CallRes P L c w f us v h')

/-- The functions that are called are Go's, and have bodies. -/
def CalleesOK (P : Program) (L : Lay) (cf : Nat → List V → Hp → Option (V × Hp)) : Prop :=
  ∀ (f : Nat) (vs : List V) (h : Hp) (v : V) (h' : Hp), cf f vs h = some (v, h') → (∃ fn, P.funcs[f]? = some fn ∧ fn.body.isSome = true ∧ (fn.name == "runtime.NumGoroutine") = false) ∧
    ∀ (c : Ctx) (w : World) (us : List Value), RVl L c vs us → Sim L c h w → CallRes P L c w f us v h'

variable {P : Program} {obj : Nat → Bool} {c : Ctx} {h : Hp} {w : World}

theorem does_res {L : Lay} {r : Result Value} {v : V} {h' : Hp} (hd : Does L c w r v h') : OpRes P L c w (r.andThen fun a w' => .ok (Next.value a) w') v h' := by
  obtain ⟨u, c', w', rfl, h1, h2, h3, h4⟩ := hd
  exact Or.inl ⟨u, c', w', Or.inl rfl, h1, h2, h3, h4⟩

theorem RVl_two {L : Lay} {vs : List V} {u u' : Value} (h : RVl L c vs [u, u']) : ∃ v v', vs = [v, v'] ∧ RV L c v u ∧ RV L c v' u' := by
  match vs, h with
  | [v], h => exact h.2.elim
  | [v, v'], h => exact ⟨v, v', rfl, h.1, h.2.1⟩
  | _ :: _ :: _ :: _, h => exact h.2.2.elim
theorem RVl_three {L : Lay} {vs : List V} {u u' u'' : Value} (h : RVl L c vs [u, u', u'']) : ∃ v v' v'', vs = [v, v', v''] ∧ RV L c v u ∧ RV L c v' u' ∧ RV L c v'' u'' := by
  match vs, h with
  | [v], h => exact h.2.elim
  | [v, v'], h => exact h.2.2.elim
  | [v, v', v''], h => exact ⟨v, v', v'', rfl, h.1, h.2.1, h.2.2.1⟩
  | _ :: _ :: _ :: _ :: _, h => exact h.2.2.2.elim
theorem RVl_cons {L : Lay} {vs : List V} {u : Value} {us : List Value} (h : RVl L c vs (u :: us)) : ∃ v vs', vs = v :: vs' ∧ RV L c v u ∧ RVl L c vs' us := by
  match vs, h with
  | v :: vs, h => exact ⟨v, vs, rfl, h.1, h.2⟩

theorem zip_map {α β γ : Type} (l : List (α × β)) (f : β → γ) : (l.map (·.1)).zip (l.map fun p => f p.2) = l.map fun p => (p.1, f p.2) := by
  induction l with
  | nil => rfl
  | cons x l ih => simp [ih]

/-- An operation that is no call. -/
def O.calls : O → Bool
  | .call _ => true
  | .callv => true
  | _ => false

section
variable (hL : (layOf P).OK) {cf : Nat → List V → Hp → Option (V × Hp)} {base : Nat} {fr : Fr} {a : Act} (hf : RF (layOf P) c fr a) (hs : Sim (layOf P) c h w) {o : Oper} {g : O} {xs : List X} {v : V} {h' : Hp}
include hL hf hs

theorem sound1 (hc : cop P obj o.type o.op = some (g, xs)) (hop : opV cf base h g (xs.map (X.ev fr)) = some (v, h')) (hk : match o.op with | .move _ | .assign _ | .pick .. | .alloc _ | .box .. | .load .. | .store .. | .nilCheck _ | .unOp .. | .makeInterface .. | .extract .. | .range .. | .next .. | .typeAssert .. | .makeFunc .. => True | _ => False) :
    OpRes P (layOf P) c w ((execOp a.eval o).run P w) v h' := by
  obtain ⟨dst, op, ty, pos, after, guard⟩ := o
  simp only at hc hk ⊢
  cases op <;> simp only at hk <;> simp only [cop] at hc
  case move x =>
    obtain ⟨y, hy, he⟩ := Option.map_eq_some_iff.1 hc
    simp only [Prod.mk.injEq] at he
    obtain ⟨rfl, rfl⟩ := he
    simp only [List.map_cons, List.map_nil, opV, Option.some.injEq, Prod.mk.injEq] at hop
    obtain ⟨rfl, rfl⟩ := hop
    exact Or.inl ⟨a.eval x, c, w, Or.inl rfl, copX_RV hf hy, hs, Ctx.le_refl c, St.refl w⟩
  case assign x =>
    obtain ⟨y, hy, he⟩ := Option.map_eq_some_iff.1 hc
    simp only [Prod.mk.injEq] at he
    obtain ⟨rfl, rfl⟩ := he
    simp only [List.map_cons, List.map_nil, opV, Option.some.injEq, Prod.mk.injEq] at hop
    obtain ⟨rfl, rfl⟩ := hop
    exact Or.inl ⟨a.eval x, c, w, Or.inl rfl, copX_RV hf hy, hs, Ctx.le_refl c, St.refl w⟩
  case pick x y z =>
    obtain ⟨ys, hy, he⟩ := Option.map_eq_some_iff.1 hc
    simp only [Prod.mk.injEq] at he
    obtain ⟨rfl, rfl⟩ := he
    have hv := copXs_RV hf hy
    obtain ⟨v1, v2, v3, e, h1, h2, h3⟩ := RVl_three hv
    rw [e] at hop
    simp only [opV] at hop
    unfold opPick at hop
    split at hop
    case h_2 => cases hop
    rename_i b
    simp only [Option.some.injEq, Prod.mk.injEq] at hop
    obtain ⟨rfl, rfl⟩ := hop
    obtain ⟨hb, _⟩ := RV_s.1 h1
    refine Or.inl ⟨if b then a.eval y else a.eval z, c, w, Or.inl ?_, ?_, hs, Ctx.le_refl c, St.refl w⟩
    · simp only at hb
      simp [execOp, hb, asBool]
    · cases b
      · exact h3
      · exact h2
  case alloc e =>
    obtain ⟨z, hz, he⟩ := Option.map_eq_some_iff.1 hc
    simp only [Prod.mk.injEq] at he
    obtain ⟨rfl, rfl⟩ := he
    simp only [List.map_nil, opV] at hop
    have := does_res (P := P) (do_alc (P := P) (T := e) hL hs (zeroOf_OK hz).1 hop)
    simpa only [execOp, Sem.run_bind, Sem.run_pure] using this
  case box e x =>
    obtain ⟨y, hy, he⟩ := Option.map_eq_some_iff.1 hc
    simp only [Prod.mk.injEq] at he
    obtain ⟨rfl, rfl⟩ := he
    simp only [List.map_cons, List.map_nil, opV] at hop
    have := does_res (P := P) (do_box (P := P) (T := e) hL hs (copX_RV hf hy) hop)
    simpa only [execOp, Sem.run_bind, Sem.run_pure] using this
  case load t x =>
    split at hc
    case isFalse => cases hc
    rename_i ht
    obtain ⟨y, hy, he⟩ := Option.map_eq_some_iff.1 hc
    simp only [Prod.mk.injEq] at he
    obtain ⟨rfl, rfl⟩ := he
    simp only [List.map_cons, List.map_nil, opV] at hop
    have := does_res (P := P) (do_ld (P := P) hL hs (tgB_TG ht) (copX_RV hf hy) hop)
    simpa only [execOp, Sem.run_bind, Sem.run_pure] using this
  case store t x y =>
    split at hc
    case isFalse => cases hc
    rename_i ht
    obtain ⟨ys, hy, he⟩ := Option.map_eq_some_iff.1 hc
    simp only [Prod.mk.injEq] at he
    obtain ⟨rfl, rfl⟩ := he
    obtain ⟨v1, v2, e, h1, h2⟩ := RVl_two (copXs_RV hf hy)
    rw [e] at hop
    simp only [opV] at hop
    obtain ⟨w', h3, rfl, h4, h5⟩ := do_sto (P := P) hL hs (tgB_TG ht) h1 h2 hop
    refine Or.inl ⟨undef, c, w', Or.inr ⟨?_, rfl⟩, RV_tup.2 ⟨[], rfl, trivial⟩, h4, Ctx.le_refl c, h5⟩
    simp only at h3
    simp [execOp, h3]
  case nilCheck x =>
    obtain ⟨y, hy, he⟩ := Option.map_eq_some_iff.1 hc
    simp only [Prod.mk.injEq] at he
    obtain ⟨rfl, rfl⟩ := he
    simp only [List.map_cons, List.map_nil, opV] at hop
    have hv := copX_RV hf hy
    unfold opNck at hop
    split at hop
    · rename_i id path tot heq
      simp only [Option.some.injEq, Prod.mk.injEq] at hop
      obtain ⟨rfl, rfl⟩ := hop
      rw [heq] at hv ⊢
      obtain ⟨p, hp, _⟩ := RV_ptr.1 hv
      refine Or.inl ⟨a.eval x, c, w, Or.inl ?_, hv, hs, Ctx.le_refl c, St.refl w⟩
      simp [execOp, hp]
    · rename_i y' heq
      simp only [Option.some.injEq, Prod.mk.injEq] at hop
      obtain ⟨rfl, rfl⟩ := hop
      rw [heq] at hv ⊢
      obtain ⟨_, _, _, _, _, hp, _⟩ := RV_iptr.1 hv
      refine Or.inl ⟨a.eval x, c, w, Or.inl ?_, hv, hs, Ctx.le_refl c, St.refl w⟩
      simp [execOp, hp]
    · rename_i f cap heq
      simp only [Option.some.injEq, Prod.mk.injEq] at hop
      obtain ⟨rfl, rfl⟩ := hop
      rw [heq] at hv ⊢
      obtain ⟨ws, hp, _⟩ := RV_fn.1 hv
      refine Or.inl ⟨a.eval x, c, w, Or.inl ?_, hv, hs, Ctx.le_refl c, St.refl w⟩
      simp [execOp, hp]
    · cases hop
  case unOp op T x =>
    obtain ⟨y, hy, he⟩ := Option.map_eq_some_iff.1 hc
    simp only [Prod.mk.injEq] at he
    obtain ⟨rfl, rfl⟩ := he
    simp only [List.map_cons, List.map_nil, opV] at hop
    have := does_res (P := P) (do_un (P := P) hs (copX_RV hf hy) hop)
    simpa only [execOp, Sem.run_bind, Sem.run_pure] using this
  case makeInterface T x =>
    split at hc
    case isFalse => cases hc
    rename_i ht
    obtain ⟨y, hy, he⟩ := Option.map_eq_some_iff.1 hc
    simp only [Prod.mk.injEq] at he
    obtain ⟨rfl, rfl⟩ := he
    simp only [List.map_cons, List.map_nil, opV, Option.some.injEq, Prod.mk.injEq] at hop
    obtain ⟨rfl, rfl⟩ := hop
    have := does_res (P := P) (do_mki (P := P) hs ht (copX_RV hf hy))
    simpa only [execOp, Sem.run_bind, Sem.run_pure] using this
  case extract x i =>
    obtain ⟨y, hy, he⟩ := Option.map_eq_some_iff.1 hc
    simp only [Prod.mk.injEq] at he
    obtain ⟨rfl, rfl⟩ := he
    simp only [List.map_cons, List.map_nil, opV] at hop
    have := does_res (P := P) (do_ext (P := P) hs (copX_RV hf hy) hop)
    simpa only [execOp, Sem.run_bind, Sem.run_pure] using this
  case range T x =>
    split at hc
    case h_2 => cases hc
    rename_i hT
    obtain ⟨y, hy, he⟩ := Option.map_eq_some_iff.1 hc
    simp only [Prod.mk.injEq] at he
    obtain ⟨rfl, rfl⟩ := he
    simp only [List.map_cons, List.map_nil, opV] at hop
    have := does_res (P := P) (do_rng (P := P) hs hT (copX_RV hf hy) hop)
    simpa only [execOp, Sem.run_bind, Sem.run_pure] using this
  case next x b =>
    cases b with
    | false => simp at hc
    | true =>
    simp only at hc
    obtain ⟨y, hy, he⟩ := Option.map_eq_some_iff.1 hc
    simp only [Prod.mk.injEq] at he
    obtain ⟨rfl, rfl⟩ := he
    simp only [List.map_cons, List.map_nil, opV] at hop
    have := does_res (P := P) (do_nxt (P := P) hs (ty := ty) (copX_RV hf hy) hop)
    simpa only [execOp, Sem.run_bind, Sem.run_pure] using this
  case typeAssert x T A ok =>
    split at hc
    case h_2 => cases hc
    rename_i d z hd hz
    split at hc
    case isFalse => cases hc
    rename_i hni
    obtain ⟨y, hy, he⟩ := Option.map_eq_some_iff.1 hc
    simp only [Prod.mk.injEq] at he
    obtain ⟨rfl, rfl⟩ := he
    simp only [List.map_cons, List.map_nil, opV] at hop
    have := does_res (P := P) (do_tas (P := P) hs (XT := T) (fun _ => (zeroOf_OK hz).1) ⟨d, hd, by cases d <;> simp_all [noIface]⟩ (copX_RV hf hy) hop)
    simpa only [execOp, Sem.run_bind, Sem.run_pure] using this
  case makeFunc fn first captured =>
    cases fn <;> simp only at hc <;> try (cases hc; done)
    rename_i f
    split at hc
    case isFalse => cases hc
    rename_i hfirst
    obtain ⟨ys, hy, he⟩ := Option.map_eq_some_iff.1 hc
    simp only [Prod.mk.injEq] at he
    obtain ⟨rfl, rfl⟩ := he
    simp only [opV, Option.some.injEq, Prod.mk.injEq] at hop
    obtain ⟨rfl, rfl⟩ := hop
    have hv := copXs_RV hf hy
    have hfe : first = #[] := by simpa using hfirst
    subst hfe
    refine Or.inl ⟨.func (.func f) #[] (captured.map a.eval), c, w, Or.inl ?_, RV_fn.2 ⟨captured.toList.map a.eval, ?_, ?_⟩, hs, Ctx.le_refl c, St.refl w⟩
    · simp [execOp, Instr.makeFunc]
    · congr 1
      apply Array.ext'; simp
    · simpa [List.map_map, Function.comp_def] using hv
end
end Go.Vm
/- Each operation that the table gives is Go's: literals, comparisons, conversions, addresses, cuts. -/
namespace Go.Vm
set_option linter.unusedVariables false
set_option linter.unusedSimpArgs false
set_option linter.unusedSectionVars false
variable {P : Program} {obj : Nat → Bool} {c : Ctx} {h : Hp} {w : World}

theorem parts_eq (parts : Array (Nat × Operand)) (ρ : Operand → Value) : parts.map (fun p => (p.1, ρ p.2)) = ((parts.toList.map (·.1)).zip (parts.toList.map fun p => ρ p.2)).toArray := by
  apply Array.ext'
  rw [zip_map]
  simp

theorem u8_of {P : Program} {el : TypeId} (h : isU8 P el = true) : P.underlying el = some (.int .u8) := by
  unfold isU8 at h
  split at h
  · assumption
  · cases h
theorem i32_of {P : Program} {el : TypeId} (h : isI32 P el = true) : P.underlying el = some (.int .i32) := by
  unfold isI32 at h
  split at h
  · assumption
  · cases h

section
variable (hL : (layOf P).OK) {cf : Nat → List V → Hp → Option (V × Hp)} {base : Nat} {fr : Fr} {a : Act} (hf : RF (layOf P) c fr a) (hs : Sim (layOf P) c h w) {o : Oper} {g : O} {xs : List X} {v : V} {h' : Hp}
include hL hf hs

theorem sound2 (hc : cop P obj o.type o.op = some (g, xs)) (hop : opV cf base h g (xs.map (X.ev fr)) = some (v, h')) (hk : match o.op with | .build .. | .buildSlice .. | .binOp .. | .convert .. | .makeSlice .. => True | _ => False) :
    OpRes P (layOf P) c w ((execOp a.eval o).run P w) v h' := by
  obtain ⟨dst, op, ty, pos, after, guard⟩ := o
  simp only at hc hk ⊢
  cases op <;> simp only at hk <;> simp only [cop] at hc
  case build t parts =>
    split at hc
    · rename_i fields tag tag' zero hu ht hz
      split at hc
      case h_2 => cases hc
      rename_i gs hgs
      split at hc
      case isFalse => cases hc
      rename_i hcond
      obtain ⟨rfl, hsz, hall⟩ := hcond
      obtain ⟨ys, hy, he⟩ := Option.map_eq_some_iff.1 hc
      simp only [Prod.mk.injEq] at he
      obtain ⟨rfl, rfl⟩ := he
      have hv := copXs_RV hf hy
      rw [List.map_map] at hv
      simp only [opV] at hop
      have hz0 := (zeroOf_OK hz).1
      have := does_res (P := P) (do_blds (P := P) (T := t) hL hs hu hgs (fun i f hi => by
        have hlt : i < fields.size := (Array.getElem?_eq_some_iff.1 hi).1
        obtain ⟨f', g, h1, h2, h3, h4⟩ := fieldOK_of (List.all_eq_true.1 hall i (List.mem_range.2 hlt))
        rw [hi] at h1; cases h1
        exact ⟨g, h2, h3, h4⟩) hsz hz0 (us := parts.toList.map fun p => a.eval p.2) (by simpa using hv.length) hv.get hop)
      rw [← parts_eq] at this
      simpa only [execOp, Sem.run_bind, Sem.run_pure] using this
    · rename_i n el tag tag' zero hu ht hz
      split at hc
      case isFalse => cases hc
      rename_i hcond
      obtain ⟨rfl, htg, harr⟩ := hcond
      obtain ⟨ys, hy, he⟩ := Option.map_eq_some_iff.1 hc
      simp only [Prod.mk.injEq] at he
      obtain ⟨rfl, rfl⟩ := he
      have hv := copXs_RV hf hy
      rw [List.map_map] at hv
      simp only [opV] at hop
      have := does_res (P := P) (do_blda (P := P) (T := t) hL hs hu (tgB_TG htg) harr (zeroOf_OK hz).1 (us := parts.toList.map fun p => a.eval p.2) (by simpa using hv.length) hv.get hop)
      rw [← parts_eq] at this
      simpa only [execOp, Sem.run_bind, Sem.run_pure] using this
    · cases hc
  case buildSlice t n parts =>
    split at hc
    case h_2 => cases hc
    rename_i el hu
    split at hc
    case h_2 => cases hc
    rename_i z hz
    split at hc
    case isFalse => cases hc
    rename_i hcond
    obtain ⟨htg, hpos, hn⟩ := hcond
    obtain ⟨ys, hy, he⟩ := Option.map_eq_some_iff.1 hc
    simp only [Prod.mk.injEq] at he
    obtain ⟨rfl, rfl⟩ := he
    have hv := copXs_RV hf hy
    rw [List.map_map] at hv
    obtain ⟨hz0, hzg, hzs⟩ := zeroOf_OK hz
    rcases opV_bslO hop with hop | hop
    · have := does_res (P := P) (do_bsx (P := P) (T := t) hL hs hu (tgB_TG htg) hpos hz0 hzg hzs hn (us := parts.toList.map fun p => a.eval p.2) (by simpa using hv.length) hv.get hop)
      rw [← parts_eq] at this
      simpa only [execOp, Sem.run_bind, Sem.run_pure] using this
    · have := does_res (P := P) (do_bsl (P := P) (T := t) hL hs hu (tgB_TG htg) hpos hz0 hzg hzs hn (us := parts.toList.map fun p => a.eval p.2) (by simpa using hv.length) hv.get hop)
      rw [← parts_eq] at this
      simpa only [execOp, Sem.run_bind, Sem.run_pure] using this
  case binOp op T x y T' =>
    split at hc
    · rename_i n el hu
      split at hc
      · rename_i k tag hel ht
        split at hc
        case isFalse => cases hc
        rename_i hcond
        obtain ⟨htg, harr, hgd⟩ := hcond
        obtain ⟨ys, hy, he⟩ := Option.map_eq_some_iff.1 hc
        simp only [Prod.mk.injEq] at he
        obtain ⟨rfl, rfl⟩ := he
        obtain ⟨v1, v2, e, h1, h2⟩ := RVl_two (copXs_RV hf hy)
        rw [e] at hop
        simp only [opV] at hop
        have hg1 : (layOf P).csz (tagOf P el) = 1 := by simp [tagOf, hel, Lay.csz]
        have := does_res (P := P) (do_eqa (P := P) hL hs hu hel (tgB_TG htg) hg1 harr hgd (Or.inl ⟨rfl, rfl⟩) (X := x) (Y := y) h1 h2 hop)
        simpa only [execOp, Sem.run_bind, Sem.run_pure] using this
      · rename_i k tag hel ht
        split at hc
        case isFalse => cases hc
        rename_i hcond
        obtain ⟨htg, harr, hgd⟩ := hcond
        obtain ⟨ys, hy, he⟩ := Option.map_eq_some_iff.1 hc
        simp only [Prod.mk.injEq] at he
        obtain ⟨rfl, rfl⟩ := he
        obtain ⟨v1, v2, e, h1, h2⟩ := RVl_two (copXs_RV hf hy)
        rw [e] at hop
        simp only [opV] at hop
        have hg1 : (layOf P).csz (tagOf P el) = 1 := by simp [tagOf, hel, Lay.csz]
        have := does_res (P := P) (do_eqa (P := P) hL hs hu hel (tgB_TG htg) hg1 harr hgd (Or.inr ⟨rfl, rfl⟩) (X := x) (Y := y) h1 h2 hop)
        simpa only [execOp, Sem.run_bind, Sem.run_pure] using this
      · cases hc
    · rename_i fs hu
      split at hc
      · rename_i ks tag hks ht
        split at hc
        case isFalse => cases hc
        rename_i hcond
        obtain ⟨ys, hy, he⟩ := Option.map_eq_some_iff.1 hc
        simp only [Prod.mk.injEq] at he
        obtain ⟨rfl, rfl⟩ := he
        obtain ⟨v1, v2, e, h1, h2⟩ := RVl_two (copXs_RV hf hy)
        rw [e] at hop
        simp only [opV] at hop
        have := does_res (P := P) (do_eqs (P := P) hs (by omega) hu hcond.1 hks hcond.2 (Or.inl ⟨rfl, rfl⟩) (X := x) (Y := y) h1 h2 hop)
        simpa only [execOp, Sem.run_bind, Sem.run_pure] using this
      · rename_i ks tag hks ht
        split at hc
        case isFalse => cases hc
        rename_i hcond
        obtain ⟨ys, hy, he⟩ := Option.map_eq_some_iff.1 hc
        simp only [Prod.mk.injEq] at he
        obtain ⟨rfl, rfl⟩ := he
        obtain ⟨v1, v2, e, h1, h2⟩ := RVl_two (copXs_RV hf hy)
        rw [e] at hop
        simp only [opV] at hop
        have := does_res (P := P) (do_eqs (P := P) hs (by omega) hu hcond.1 hks hcond.2 (Or.inr ⟨rfl, rfl⟩) (X := x) (Y := y) h1 h2 hop)
        simpa only [execOp, Sem.run_bind, Sem.run_pure] using this
      · cases hc
    · rename_i d hd hd2 hu
      split at hc
      case h_2 => cases hc
      rename_i cl hcl
      obtain ⟨ys, hy, he⟩ := Option.map_eq_some_iff.1 hc
      simp only [Prod.mk.injEq] at he
      obtain ⟨rfl, rfl⟩ := he
      obtain ⟨v1, v2, e, h1, h2⟩ := RVl_two (copXs_RV hf hy)
      rw [e] at hop
      simp only [opV] at hop
      have := does_res (P := P) (do_bin (P := P) hs (T := T) (cl := cl) (X := x) (Y := y) h1 h2 (by
        unfold clOf at hcl
        split at hcl <;> first
          | (simp only [Option.some.injEq] at hcl; subst hcl; first | trivial | exact hu | exact ⟨_, hu⟩)
          | cases hcl) hop)
      simpa only [execOp, Sem.run_bind, Sem.run_pure] using this
    · cases hc
  case convert S T x =>
    split at hc
    · rename_i k' k hS hT
      obtain ⟨y, hy, he⟩ := Option.map_eq_some_iff.1 hc
      simp only [Prod.mk.injEq] at he
      obtain ⟨rfl, rfl⟩ := he
      simp only [List.map_cons, List.map_nil, opV] at hop
      have := does_res (P := P) (do_i2i (P := P) hs hT ⟨_, hS⟩ (copX_RV hf hy) hop)
      simpa only [execOp, Sem.run_bind, Sem.run_pure] using this
    · rename_i el hS hT
      split at hc
      · rename_i hu8
        obtain ⟨y, hy, he⟩ := Option.map_eq_some_iff.1 hc
        simp only [Prod.mk.injEq] at he
        obtain ⟨rfl, rfl⟩ := he
        simp only [List.map_cons, List.map_nil, opV] at hop
        have := does_res (P := P) (do_b2s (P := P) hL hs hS (u8_of hu8) hT (copX_RV hf hy) hop)
        simpa only [execOp, Sem.run_bind, Sem.run_pure] using this
      · split at hc
        case isFalse => cases hc
        rename_i hu8
        obtain ⟨y, hy, he⟩ := Option.map_eq_some_iff.1 hc
        simp only [Prod.mk.injEq] at he
        obtain ⟨rfl, rfl⟩ := he
        simp only [List.map_cons, List.map_nil, opV] at hop
        have := does_res (P := P) (do_r2s (P := P) hL hs hS (i32_of hu8) hT (copX_RV hf hy) hop)
        simpa only [execOp, Sem.run_bind, Sem.run_pure] using this
    · rename_i hS hT
      obtain ⟨y, hy, he⟩ := Option.map_eq_some_iff.1 hc
      simp only [Prod.mk.injEq] at he
      obtain ⟨rfl, rfl⟩ := he
      simp only [List.map_cons, List.map_nil, opV] at hop
      have := does_res (P := P) (do_i2s (P := P) hs hS hT (copX_RV hf hy) hop)
      simpa only [execOp, Sem.run_bind, Sem.run_pure] using this
    · rename_i el hS hT
      split at hc
      case isFalse => cases hc
      rename_i hu8
      obtain ⟨y, hy, he⟩ := Option.map_eq_some_iff.1 hc
      simp only [Prod.mk.injEq] at he
      obtain ⟨rfl, rfl⟩ := he
      simp only [List.map_cons, List.map_nil, opV] at hop
      have := does_res (P := P) (do_s2b (P := P) hL hs hS hT (u8_of hu8) (copX_RV hf hy) hop)
      simpa only [execOp, Sem.run_bind, Sem.run_pure] using this
    · rename_i el el' hS hT
      split at hc
      case isFalse => cases hc
      rename_i hcond
      obtain ⟨rfl, hu8⟩ := hcond
      obtain ⟨y, hy, he⟩ := Option.map_eq_some_iff.1 hc
      simp only [Prod.mk.injEq] at he
      obtain ⟨rfl, rfl⟩ := he
      simp only [List.map_cons, List.map_nil, opV] at hop
      have := does_res (P := P) (do_frz (P := P) hL hs hS (u8_of hu8) (copX_RV hf hy) hop)
      simpa only [execOp, Sem.run_bind, Sem.run_pure] using this
    · cases hc
  case makeSlice t l n =>
    split at hc
    case h_2 => cases hc
    rename_i el hu
    split at hc
    case h_2 => cases hc
    rename_i z hz
    split at hc
    case isFalse => cases hc
    rename_i hcond
    obtain ⟨htg, hby⟩ := hcond
    obtain ⟨ys, hy, he⟩ := Option.map_eq_some_iff.1 hc
    simp only [Prod.mk.injEq] at he
    obtain ⟨rfl, rfl⟩ := he
    obtain ⟨v1, v2, e, h1, h2⟩ := RVl_two (copXs_RV hf hy)
    rw [e] at hop
    simp only [opV] at hop
    obtain ⟨hz0, hzg, hzs⟩ := zeroOf_OK hz
    have := does_res (P := P) (do_mks (P := P) hL hs hu (tgB_TG htg) hby hz0 hzg hzs h1 h2 hop)
    simpa only [execOp, Sem.run_bind, Sem.run_pure] using this

theorem sound3 (hc : cop P obj o.type o.op = some (g, xs)) (hop : opV cf base h g (xs.map (X.ev fr)) = some (v, h')) (hk : match o.op with | .slice .. | .fieldAddr .. | .field .. | .indexAddr .. | .index .. => True | _ => False) :
    OpRes P (layOf P) c w ((execOp a.eval o).run P w) v h' := by
  obtain ⟨dst, op, ty, pos, after, guard⟩ := o
  simp only at hc hk ⊢
  have optl : ∀ (q : Option Operand), (q.toList.map a.eval) = (q.map a.eval).toList := fun q => by cases q <;> rfl
  have opts : ∀ (q : Option Operand), q.isSome = (q.map a.eval).isSome := fun q => by cases q <;> rfl
  cases op <;> simp only at hk <;> simp only [cop] at hc
  case slice t x lo hi mx =>
    split at hc
    · rename_i el hu
      split at hc
      case isFalse => cases hc
      rename_i htg
      obtain ⟨ys, hy, he⟩ := Option.map_eq_some_iff.1 hc
      simp only [Prod.mk.injEq] at he
      obtain ⟨rfl, rfl⟩ := he
      have hv := copXs_RV hf hy
      simp only [List.map_cons, List.map_map] at hv
      obtain ⟨v1, vs, e, h1, h2⟩ := RVl_cons hv
      rw [e] at hop
      simp only [opV] at hop
      rw [opts lo, opts hi, opts mx] at hop
      have h2' : RVl (layOf P) c vs ((lo.map a.eval).toList ++ (hi.map a.eval).toList ++ (mx.map a.eval).toList) := by
        have : (List.map ((fun p => a.eval p.2) ∘ fun y => ((ty, y) : TypeId × Operand)) (lo.toList ++ hi.toList ++ mx.toList)) = (lo.map a.eval).toList ++ (hi.map a.eval).toList ++ (mx.map a.eval).toList := by
          rw [← optl, ← optl, ← optl, ← List.map_append, ← List.map_append]; rfl
        rw [← this]; exact h2
      have := does_res (P := P) (do_slc (P := P) hL hs hu (tgB_TG htg) h1 h2' hop)
      simpa only [execOp, Sem.run_bind, Sem.run_pure] using this
    · rename_i hu
      split at hc
      case isFalse => cases hc
      rename_i hmx
      obtain rfl : mx = none := by simpa using hmx
      obtain ⟨ys, hy, he⟩ := Option.map_eq_some_iff.1 hc
      simp only [Prod.mk.injEq] at he
      obtain ⟨rfl, rfl⟩ := he
      have hv := copXs_RV hf hy
      simp only [List.map_cons, List.map_map] at hv
      obtain ⟨v1, vs, e, h1, h2⟩ := RVl_cons hv
      rw [e] at hop
      simp only [opV] at hop
      rw [opts lo, opts hi] at hop
      have h2' : RVl (layOf P) c vs ((lo.map a.eval).toList ++ (hi.map a.eval).toList) := by
        have : (List.map ((fun p => a.eval p.2) ∘ fun y => ((ty, y) : TypeId × Operand)) (lo.toList ++ hi.toList)) = (lo.map a.eval).toList ++ (hi.map a.eval).toList := by
          rw [← optl, ← optl, ← List.map_append]; rfl
        rw [← this]; exact h2
      have := does_res (P := P) (do_sls (P := P) hs hu h1 h2' hop)
      simpa only [execOp, Sem.run_bind, Sem.run_pure, Option.map_none] using this
    · rename_i n el hu
      split at hc
      case h_2 => cases hc
      rename_i tag ht
      split at hc
      case isFalse => cases hc
      rename_i hcond
      obtain ⟨htg, harr, hmx⟩ := hcond
      obtain rfl : mx = none := by simpa using hmx
      obtain ⟨ys, hy, he⟩ := Option.map_eq_some_iff.1 hc
      simp only [Prod.mk.injEq] at he
      obtain ⟨rfl, rfl⟩ := he
      have hv := copXs_RV hf hy
      simp only [List.map_cons, List.map_map] at hv
      obtain ⟨v1, vs, e, h1, h2⟩ := RVl_cons hv
      rw [e] at hop
      simp only [opV] at hop
      rw [opts lo, opts hi] at hop
      have h2' : RVl (layOf P) c vs ((lo.map a.eval).toList ++ (hi.map a.eval).toList) := by
        have : (List.map ((fun p => a.eval p.2) ∘ fun y => ((ty, y) : TypeId × Operand)) (lo.toList ++ hi.toList)) = (lo.map a.eval).toList ++ (hi.map a.eval).toList := by
          rw [← optl, ← optl, ← List.map_append]; rfl
        rw [← this]; exact h2
      have := does_res (P := P) (do_sla (P := P) hL hs hu (tgB_TG htg) harr h1 h2' hop)
      simpa only [execOp, Sem.run_bind, Sem.run_pure, Option.map_none] using this
    · cases hc
  case fieldAddr T x i =>
    split at hc
    case h_2 => cases hc
    rename_i fields tag hu ht
    split at hc
    case h_2 => cases hc
    rename_i gs hgs
    split at hc
    case isFalse => cases hc
    rename_i hcond
    obtain ⟨hfo, hne⟩ := hcond
    obtain ⟨y, hy, he⟩ := Option.map_eq_some_iff.1 hc
    simp only [Prod.mk.injEq] at he
    obtain ⟨rfl, rfl⟩ := he
    simp only [List.map_cons, List.map_nil, opV] at hop
    obtain ⟨f, g, h1, h2, h3, h4⟩ := fieldOK_of hfo
    have := does_res (P := P) (do_fa (P := P) hL hs hu h1 (by simpa [partTy, h1] using hne) hgs h4 (copX_RV hf hy) hop)
    simpa only [execOp, Sem.run_bind, Sem.run_pure] using this
  case field T x i =>
    split at hc
    case h_2 => cases hc
    rename_i fields tag hu ht
    split at hc
    case h_2 => cases hc
    rename_i gs hgs
    split at hc
    case isFalse => cases hc
    rename_i hfo
    obtain ⟨y, hy, he⟩ := Option.map_eq_some_iff.1 hc
    simp only [Prod.mk.injEq] at he
    obtain ⟨rfl, rfl⟩ := he
    simp only [List.map_cons, List.map_nil, opV] at hop
    obtain ⟨f, g, h1, h2, h3, h4⟩ := fieldOK_of hfo
    have := does_res (P := P) (do_fld (P := P) hL hs hu h1 hgs h2 h3 h4 (copX_RV hf hy) hop)
    simpa only [execOp, Sem.run_bind, Sem.run_pure] using this
  case indexAddr T x i =>
    split at hc
    · rename_i n el hu
      split at hc
      case h_2 => cases hc
      rename_i tag ht
      split at hc
      case isFalse => cases hc
      rename_i hcond
      obtain ⟨htg, harr⟩ := hcond
      obtain ⟨ys, hy, he⟩ := Option.map_eq_some_iff.1 hc
      simp only [Prod.mk.injEq] at he
      obtain ⟨rfl, rfl⟩ := he
      obtain ⟨v1, v2, e, h1, h2⟩ := RVl_two (copXs_RV hf hy)
      rw [e] at hop
      simp only [opV] at hop
      have := does_res (P := P) (do_iaa (P := P) hL hs hu (tgB_TG htg) harr h1 h2 hop)
      simpa only [execOp, Sem.run_bind, Sem.run_pure] using this
    · rename_i el hu
      split at hc
      case isFalse => cases hc
      rename_i htg
      obtain ⟨ys, hy, he⟩ := Option.map_eq_some_iff.1 hc
      simp only [Prod.mk.injEq] at he
      obtain ⟨rfl, rfl⟩ := he
      obtain ⟨v1, v2, e, h1, h2⟩ := RVl_two (copXs_RV hf hy)
      rw [e] at hop
      simp only [opV] at hop
      have := does_res (P := P) (do_ias (P := P) hL hs hu (tgB_TG htg) h1 h2 hop)
      simpa only [execOp, Sem.run_bind, Sem.run_pure] using this
    · cases hc
  case index T x i =>
    split at hc
    · rename_i n el hu
      split at hc
      case h_2 => cases hc
      rename_i tag ht
      split at hc
      case isFalse => cases hc
      rename_i hcond
      obtain ⟨htg, harr⟩ := hcond
      obtain ⟨ys, hy, he⟩ := Option.map_eq_some_iff.1 hc
      simp only [Prod.mk.injEq] at he
      obtain ⟨rfl, rfl⟩ := he
      obtain ⟨v1, v2, e, h1, h2⟩ := RVl_two (copXs_RV hf hy)
      rw [e] at hop
      simp only [opV] at hop
      have := does_res (P := P) (do_idx (P := P) hL hs hu (tgB_TG htg) harr h1 h2 hop)
      simpa only [execOp, Sem.run_bind, Sem.run_pure] using this
    · rename_i hu
      obtain ⟨ys, hy, he⟩ := Option.map_eq_some_iff.1 hc
      simp only [Prod.mk.injEq] at he
      obtain ⟨rfl, rfl⟩ := he
      obtain ⟨v1, v2, e, h1, h2⟩ := RVl_two (copXs_RV hf hy)
      rw [e] at hop
      simp only [opV] at hop
      have := does_res (P := P) (do_sidx (P := P) hs hu h1 h2 hop)
      simpa only [execOp, Sem.run_bind, Sem.run_pure] using this
    · cases hc
end
end Go.Vm
/- Each operation that the table gives is Go's: calls, the language's own functions. Then all of them. -/
namespace Go.Vm
set_option linter.unusedVariables false
set_option linter.unusedSimpArgs false
set_option linter.unusedSectionVars false
variable {P : Program} {obj : Nat → Bool} {c : Ctx} {h : Hp} {w : World}

theorem enter_run {f : Nat} {args : Array Value} {fn : Func} (h1 : P.funcs[f]? = some fn) (h2 : fn.body.isSome = true) (h3 : (fn.name == "runtime.NumGoroutine") = false) (w : World) :
    (callFunc f args).run P w = .ok (.enter f args) w := by
  have h4 : fn.body ≠ none := fun e => by rw [e] at h2; cases h2
  have h5 : fn.name ≠ "runtime.NumGoroutine" := fun e => by rw [e] at h3; simp at h3
  simp [callFunc, h1, h4, h5]

theorem zip_snd {α β : Type} : ∀ (l : List α) (m : List β), l.length = m.length → (l.zip m).map (·.2) = m
  | [], [], _ => rfl
  | [], _ :: _, h => by simp at h
  | _ :: _, [], h => by simp at h
  | a :: l, b :: m, h => by simp only [List.zip_cons_cons, List.map_cons]; rw [zip_snd l m (by simpa using h)]

theorem RVl_append {L : Lay} : ∀ {vs vs' : List V} {us us' : List Value}, RVl L c vs us → RVl L c vs' us' → RVl L c (vs ++ vs') (us ++ us')
  | [], _, [], _, _, h => h
  | v :: vs, _, u :: us, _, h, h' => ⟨h.1, RVl_append h.2 h'⟩
  | [], _, _ :: _, _, h, _ => h.elim
  | _ :: _, _, [], _, h, _ => h.elim

theorem size_two {α : Type} {a : Array α} {x y : α} (h : a.toList = [x, y]) : a = #[x, y] := by
  apply Array.ext'; simpa using h
theorem size_one {α : Type} {a : Array α} {x : α} (h : a.toList = [x]) : a = #[x] := by
  apply Array.ext'; simpa using h

section
variable (hL : (layOf P).OK) {cf : Nat → List V → Hp → Option (V × Hp)} {base : Nat} (hcf : CalleesOK P (layOf P) cf) {fr : Fr} {a : Act} (hf : RF (layOf P) c fr a) (hs : Sim (layOf P) c h w) {o : Oper} {g : O} {xs : List X} {v : V} {h' : Hp}
include hL hcf hf hs

theorem sound4 {cl : Call} {ty : TypeId} (hc : cop P obj ty (.call cl) = some (g, xs)) (hop : opV cf base h g (xs.map (X.ev fr)) = some (v, h')) :
    OpRes P (layOf P) c w ((resolve a.eval cl ty >>= fun d => invoke d.target d.args).run P w) v h' := by
  obtain ⟨callee, args, argTypes⟩ := cl
  simp only [cop] at hc
  split at hc
  · rename_i f
    obtain ⟨xs', hxs, hc⟩ := Option.bind_eq_some_iff.1 hc
    split at hc
    case isFalse => cases hc
    rename_i hsz
    simp only [Option.some.injEq, Prod.mk.injEq] at hc
    obtain ⟨rfl, rfl⟩ := hc
    simp only [opV] at hop
    have hv := copXs_RV hf hxs
    obtain ⟨⟨fn, h1, h2, h3⟩, hcall⟩ := hcf _ _ _ _ _ hop
    refine Or.inr ⟨f, (args.map a.eval).toList, ?_, hcall c w _ ?_ hs⟩
    · have e : ((args.map a.eval).toList).toArray = args.map a.eval := Array.toArray_toList
      rw [e]
      simp [resolve, Deferred.ofValue, Act.eval, invoke, enter_run h1 h2 h3]
    · have : (List.map (fun p => a.eval p.2) (argTypes.toList.zip args.toList)) = (args.map a.eval).toList := by
        rw [Array.toList_map, ← zip_snd argTypes.toList args.toList (by simpa using hsz), List.map_map, zip_snd _ _ (by simpa using hsz)]; rfl
      rw [← this]; exact hv
  · rename_i n
    obtain ⟨xs', hxs, hc⟩ := Option.bind_eq_some_iff.1 hc
    split at hc
    case isFalse => cases hc
    rename_i hsz
    simp only [Option.some.injEq, Prod.mk.injEq] at hc
    obtain ⟨rfl, rfl⟩ := hc
    have hv := copXs_RV hf hxs
    have hfv := copX_RV (P := P) (t := ty) hf (o := .tmp n) (x := .t n) rfl
    simp only [List.map_cons] at hop
    generalize hfx : X.ev fr (.t n) = fx at hop hfv
    cases fx <;> simp only [opV] at hop <;> try (cases hop; done)
    rename_i f cap
    obtain ⟨ws, hfu, hws⟩ := RV_fn.1 hfv
    obtain ⟨⟨fn, h1, h2, h3⟩, hcall⟩ := hcf _ _ _ _ _ hop
    have hv' : RVl (layOf P) c (xs'.map (X.ev fr)) (args.map a.eval).toList := by
      have : (List.map (fun p => a.eval p.2) (argTypes.toList.zip args.toList)) = (args.map a.eval).toList := by
        rw [Array.toList_map, ← zip_snd argTypes.toList args.toList (by simpa using hsz), List.map_map, zip_snd _ _ (by simpa using hsz)]; rfl
      rw [← this]; exact hv
    refine Or.inr ⟨f, (args.map a.eval).toList ++ ws, ?_, hcall c w _ (RVl_append hv' hws) hs⟩
    have e : ((args.map a.eval).toList ++ ws).toArray = args.map a.eval ++ ws.toArray := by apply Array.ext'; simp
    rw [e]
    simp [resolve, hfu, Deferred.ofValue, invoke, enter_run h1 h2 h3]
  · rename_i b
    split at hc
    · rename_i T x hT hx
      obtain rfl := size_one hT
      obtain rfl := size_one hx
      split at hc
      · rename_i el hu
        obtain ⟨y, hy, he⟩ := Option.map_eq_some_iff.1 hc
        simp only [Prod.mk.injEq] at he
        obtain ⟨rfl, rfl⟩ := he
        simp only [List.map_cons, List.map_nil, opV] at hop
        have := does_res (P := P) (do_len (P := P) hs hu (ty := ty) (copX_RV hf hy) hop)
        simpa [resolve, invoke, builtin] using this
      · rename_i hu
        obtain ⟨y, hy, he⟩ := Option.map_eq_some_iff.1 hc
        simp only [Prod.mk.injEq] at he
        obtain ⟨rfl, rfl⟩ := he
        simp only [List.map_cons, List.map_nil, opV] at hop
        have := does_res (P := P) (do_mln (P := P) hs hu (ty := ty) (copX_RV hf hy) hop)
        simpa [resolve, invoke, builtin] using this
      · rename_i hu
        obtain ⟨y, hy, he⟩ := Option.map_eq_some_iff.1 hc
        simp only [Prod.mk.injEq] at he
        obtain ⟨rfl, rfl⟩ := he
        simp only [List.map_cons, List.map_nil, opV] at hop
        have := does_res (P := P) (do_slen (P := P) hs hu (ty := ty) (copX_RV hf hy) hop)
        simpa [resolve, invoke, builtin] using this
      · cases hc
    · rename_i T T' x y hT hx
      obtain rfl := size_two hT
      obtain rfl := size_two hx
      split at hc
      case h_2 => cases hc
      rename_i el hu
      have key : ∀ z : V, zeroOf P obj el = some z → tgB P el = true → 0 < P.bytesOf el → ((∃ e2, P.underlying T' = some (.slice e2)) ∨ P.underlying T' = some .string) → (copXs P [(T, x), (T', y)]).map (fun xs => (appO (obj (4000000 + T)) (tagOf P el) (P.bytesOf el), xs)) = some (g, xs) →
          OpRes P (layOf P) c w ((resolve a.eval { callee := .builtin .append, args := #[x, y], argTypes := #[T, T'] } ty >>= fun d => invoke d.target d.args).run P w) v h' := by
        intro z hz htg hpos h2 hc
        obtain ⟨ys, hy, he⟩ := Option.map_eq_some_iff.1 hc
        simp only [Prod.mk.injEq] at he
        obtain ⟨rfl, rfl⟩ := he
        obtain ⟨v1, v2, e, r1, r2⟩ := RVl_two (copXs_RV hf hy)
        rw [e] at hop
        obtain ⟨hz0, hzg, hzs⟩ := zeroOf_OK hz
        obtain ⟨i, hi, _⟩ := (tgB_TG htg).info
        have hb : P.bytesOf el = i.bytes := by simp [Program.bytesOf, hi]
        rw [hb] at hop hpos
        rcases opV_appO hop with hop | hop
        · obtain ⟨⟨v', h''⟩, h1, h3⟩ := Option.bind_eq_some_iff.1 hop
          have := does_res (P := P) (does_kil hL (do_app (P := P) hL hs hu (tgB_TG htg) hi hz0 hzg hzs h2 (ty := ty) hpos r1 r2 h1) h3)
          simpa [resolve, invoke, builtin] using this
        · have := does_res (P := P) (do_app (P := P) hL hs hu (tgB_TG htg) hi hz0 hzg hzs h2 (ty := ty) hpos r1 r2 hop)
          simpa [resolve, invoke, builtin] using this
      split at hc
      · rename_i z e2 hz hu2
        split at hc
        case isFalse => cases hc
        rename_i hcond
        exact key z hz hcond.1 hcond.2 (Or.inl ⟨_, hu2⟩) hc
      · rename_i z kd hz hu2
        split at hc
        case isFalse => cases hc
        rename_i hcond
        obtain ⟨htg, hpos⟩ := hcond
        obtain ⟨ys, hy, he⟩ := Option.map_eq_some_iff.1 hc
        simp only [Prod.mk.injEq] at he
        obtain ⟨rfl, rfl⟩ := he
        obtain ⟨v1, v2, e, r1, r2⟩ := RVl_two (copXs_RV hf hy)
        rw [e] at hop
        obtain ⟨hz0, hzg, hzs⟩ := zeroOf_OK hz
        obtain ⟨i, hi, _⟩ := (tgB_TG htg).info
        have hb : P.bytesOf el = i.bytes := by simp [Program.bytesOf, hi]
        rw [hb] at hop hpos
        simp only [opV] at hop
        have := does_res (P := P) (do_apz (P := P) hL hs hu (tgB_TG htg) hi hz0 hzg hzs hu2 (ty := ty) hpos r1 r2 hop)
        simpa [resolve, invoke, builtin] using this
      · rename_i z hz hu2
        split at hc
        case isFalse => cases hc
        rename_i hcond
        exact key z hz hcond.1 hcond.2 (Or.inr hu2) hc
      · cases hc
    · rename_i T x hT hx
      obtain rfl := size_one hT
      obtain rfl := size_one hx
      split at hc
      case h_2 => cases hc
      rename_i el hu
      obtain ⟨y, hy, he⟩ := Option.map_eq_some_iff.1 hc
      simp only [Prod.mk.injEq] at he
      obtain ⟨rfl, rfl⟩ := he
      simp only [List.map_cons, List.map_nil, opV] at hop
      have := does_res (P := P) (do_cap (P := P) hs hu (ty := ty) (copX_RV hf hy) hop)
      simpa [resolve, invoke, builtin] using this
    · rename_i T T' x y hT hx
      obtain rfl := size_two hT
      obtain rfl := size_two hx
      split at hc
      case h_2 => cases hc
      rename_i el hu
      split at hc
      case isFalse => cases hc
      rename_i htg
      obtain ⟨ys, hy, he⟩ := Option.map_eq_some_iff.1 hc
      simp only [Prod.mk.injEq] at he
      obtain ⟨rfl, rfl⟩ := he
      obtain ⟨v1, v2, e, r1, r2⟩ := RVl_two (copXs_RV hf hy)
      rw [e] at hop
      simp only [opV] at hop
      have := does_res (P := P) (do_cpy (P := P) (T2 := T') hL hs hu (tgB_TG htg) (ty := ty) r1 r2 hop)
      simpa [resolve, invoke, builtin] using this
    · rename_i T x hT hx
      obtain rfl := size_one hT
      obtain rfl := size_one hx
      split at hc
      case h_2 => cases hc
      rename_i el hu
      split at hc
      case h_2 => cases hc
      rename_i z hz
      split at hc
      case isFalse => cases hc
      rename_i htg
      obtain ⟨y, hy, he⟩ := Option.map_eq_some_iff.1 hc
      simp only [Prod.mk.injEq] at he
      obtain ⟨rfl, rfl⟩ := he
      simp only [List.map_cons, List.map_nil, opV] at hop
      obtain ⟨hz0, hzg, hzs⟩ := zeroOf_OK hz
      have := does_res (P := P) (do_clr (P := P) hL hs hu (tgB_TG htg) hz0 hzg hzs (ty := ty) (copX_RV hf hy) hop)
      simpa [resolve, invoke, builtin] using this
    · rename_i T T' x y hT hx
      obtain rfl := size_two hT
      obtain rfl := size_two hx
      obtain ⟨ys, hy, he⟩ := Option.map_eq_some_iff.1 hc
      simp only [Prod.mk.injEq] at he
      obtain ⟨rfl, rfl⟩ := he
      obtain ⟨v1, v2, e, r1, r2⟩ := RVl_two (copXs_RV hf hy)
      rw [e] at hop
      simp only [opV] at hop
      have := does_res (P := P) (do_min (P := P) (Ts := #[T, T']) hs (ty := ty) r1 r2 hop)
      simpa [resolve, invoke, builtin] using this
    · rename_i T T' x y hT hx
      obtain rfl := size_two hT
      obtain rfl := size_two hx
      obtain ⟨ys, hy, he⟩ := Option.map_eq_some_iff.1 hc
      simp only [Prod.mk.injEq] at he
      obtain ⟨rfl, rfl⟩ := he
      obtain ⟨v1, v2, e, r1, r2⟩ := RVl_two (copXs_RV hf hy)
      rw [e] at hop
      simp only [opV] at hop
      have := does_res (P := P) (do_max (P := P) (Ts := #[T, T']) hs (ty := ty) r1 r2 hop)
      simpa [resolve, invoke, builtin] using this
    · cases hc
  · cases hc

theorem sound5 (hc : cop P obj o.type o.op = some (g, xs)) (hop : opV cf base h g (xs.map (X.ev fr)) = some (v, h')) (hk : match o.op with | .makeMap .. | .lookup .. | .mapUpdate .. | .insert .. | .mapEntry .. | .entryStore .. | .sliceToArrayPointer .. => True | _ => False) :
    OpRes P (layOf P) c w ((execOp a.eval o).run P w) v h' := by
  obtain ⟨dst, op, ty, pos, after, guard⟩ := o
  simp only at hc hk ⊢
  cases op <;> simp only at hk
  case sliceToArrayPointer T x =>
    simp only [cop] at hc
    split at hc
    case h_2 => cases hc
    rename_i n el tag hu ht
    split at hc
    case isFalse => cases hc
    rename_i ha
    obtain ⟨y, hy, he⟩ := Option.map_eq_some_iff.1 hc
    simp only [Prod.mk.injEq] at he
    obtain ⟨rfl, rfl⟩ := he
    simp only [List.map_cons, List.map_nil, opV] at hop
    have := does_res (P := P) (do_s2a (P := P) hL hs hu ha (copX_RV hf hy) hop)
    simpa only [execOp, Sem.run_bind, Sem.run_pure] using this
  case makeMap t r =>
    cases r with
    | some r => simp [cop] at hc
    | none =>
      simp only [cop] at hc
      split at hc
      case h_2 => cases hc
      cases hc
      have e : opV cf base h .mkm [] = some (.mp h.length, h ++ [.map [] 0]) := rfl
      rw [List.map_nil, e] at hop
      cases hop
      have := does_res (P := P) (do_mkm (P := P) hs t)
      simpa only [execOp, Sem.run_bind, Sem.run_pure, Option.map_none] using this
  case lookup T x ix ok =>
    simp only [cop] at hc
    split at hc
    case h_2 => cases hc
    rename_i kt et hu
    split at hc
    case h_2 => cases hc
    rename_i kc z hkc hz
    obtain ⟨ys, hy, he⟩ := Option.map_eq_some_iff.1 hc
    simp only [Prod.mk.injEq] at he
    obtain ⟨rfl, rfl⟩ := he
    obtain ⟨v1, v2, e, r1, r2⟩ := RVl_two (copXs_RV hf hy)
    rw [e] at hop
    simp only [opV] at hop
    have := does_res (P := P) (do_lku (P := P) hs hu (keyC_ty hkc) (zeroOf_OK hz).1 r1 r2 hop)
    simpa only [execOp, Sem.run_bind, Sem.run_pure] using this
  case mapEntry T x ix =>
    simp only [cop] at hc
    split at hc
    case h_2 => cases hc
    rename_i kt et hu
    split at hc
    case h_2 => cases hc
    rename_i kc z hkc hz
    obtain ⟨ys, hy, he⟩ := Option.map_eq_some_iff.1 hc
    simp only [Prod.mk.injEq] at he
    obtain ⟨rfl, rfl⟩ := he
    obtain ⟨v1, v2, e, r1, r2⟩ := RVl_two (copXs_RV hf hy)
    rw [e] at hop
    simp only [opV] at hop
    have := does_res (P := P) (do_mpe (P := P) hs hu (keyC_ty hkc) (zeroOf_OK hz).1 r1 r2 hop)
    simpa only [execOp, Sem.run_bind, Sem.run_pure] using this
  case entryStore T x ix y =>
    simp only [cop] at hc
    split at hc
    case h_2 => cases hc
    rename_i kt et hu
    obtain ⟨ys, hy, he⟩ := Option.map_eq_some_iff.1 hc
    simp only [Prod.mk.injEq] at he
    obtain ⟨rfl, rfl⟩ := he
    obtain ⟨v1, v2, v3, e, r1, r2, r3⟩ := RVl_three (copXs_RV hf hy)
    rw [e] at hop
    simp only [opV] at hop
    obtain ⟨w', h3, rfl, h4, h5⟩ := do_ens (P := P) (T := T) hs r1 r2 r3 hop
    refine Or.inl ⟨undef, c, w', Or.inr ⟨?_, rfl⟩, RV_tup.2 ⟨[], rfl, trivial⟩, h4, Ctx.le_refl c, h5⟩
    simp only at h3
    simp [execOp, h3]
  case mapUpdate T x ix y =>
    simp only [cop] at hc
    split at hc
    case h_2 => cases hc
    rename_i kt et hu
    split at hc
    case h_2 => cases hc
    rename_i kc hkc
    obtain ⟨ys, hy, he⟩ := Option.map_eq_some_iff.1 hc
    simp only [Prod.mk.injEq] at he
    obtain ⟨rfl, rfl⟩ := he
    obtain ⟨v1, v2, v3, e, r1, r2, r3⟩ := RVl_three (copXs_RV hf hy)
    rw [e] at hop
    simp only [opV] at hop
    obtain ⟨w', h3, rfl, h4, h5⟩ := do_mup (P := P) hs hu (keyC_ty hkc) r1 r2 r3 hop
    refine Or.inl ⟨undef, c, w', Or.inr ⟨?_, rfl⟩, RV_tup.2 ⟨[], rfl, trivial⟩, h4, Ctx.le_refl c, h5⟩
    simp only at h3
    simp [execOp, h3]
  case insert T x ix y =>
    simp only [cop] at hc
    split at hc
    case h_2 => cases hc
    rename_i kt et hu
    split at hc
    case h_2 => cases hc
    rename_i kc hkc
    obtain ⟨ys, hy, he⟩ := Option.map_eq_some_iff.1 hc
    simp only [Prod.mk.injEq] at he
    obtain ⟨rfl, rfl⟩ := he
    obtain ⟨v1, v2, v3, e, r1, r2, r3⟩ := RVl_three (copXs_RV hf hy)
    rw [e] at hop
    simp only [opV] at hop
    obtain ⟨w', h3, rfl, h4, h5⟩ := do_mup (P := P) hs hu (keyC_ty hkc) r1 r2 r3 hop
    refine Or.inl ⟨undef, c, w', Or.inr ⟨?_, rfl⟩, RV_tup.2 ⟨[], rfl, trivial⟩, h4, Ctx.le_refl c, h5⟩
    simp only at h3
    simp [execOp, h3]

theorem sound (hc : cop P obj o.type o.op = some (g, xs)) (hop : opV cf base h g (xs.map (X.ev fr)) = some (v, h')) :
    OpRes P (layOf P) c w ((execOp a.eval o).run P w) v h' := by
  have hc0 := hc
  obtain ⟨dst, op, ty, pos, after, guard⟩ := o
  cases op
  case call cl => exact sound4 hL hcf hf hs hc hop
  case panic x =>
    simp only [cop, Option.some.injEq, Prod.mk.injEq] at hc
    obtain ⟨rfl, rfl⟩ := hc
    simp [opV] at hop
  all_goals first
    | exact sound1 hL hf hs hc hop trivial
    | exact sound2 hL hf hs hc hop trivial
    | exact sound3 hL hf hs hc hop trivial
    | exact sound5 hL hcf hf hs hc hop trivial
    | (simp only [cop] at hc; cases hc; done)
end
end Go.Vm
/- Regions: an operation at its place; all in the order of the text. -/
namespace Go.Vm
set_option linter.unusedVariables false
set_option linter.unusedSimpArgs false
set_option linter.unusedSectionVars false
variable {P : Program} {obj : Nat → Bool} {c : Ctx} {h : Hp} {w : World}

theorem RVl.mono {L : Lay} {c' : Ctx} (hle : c.le c') : ∀ {vs : List V} {us : List Value}, RVl L c vs us → RVl L c' vs us
  | [], [], _ => trivial
  | _ :: _, _ :: _, h => ⟨h.1.mono hle, RVl.mono hle h.2⟩
  | [], _ :: _, h => h.elim
  | _ :: _, [], h => h.elim

theorem RVl.set {L : Lay} {v : V} {u : Value} (hv : RV L c v u) : ∀ {vs : List V} {us : List Value} (t : Nat), RVl L c vs us → RVl L c (vs.set t v) (us.set t u)
  | [], [], _, _ => trivial
  | _ :: _, _ :: _, 0, h => ⟨hv, h.2⟩
  | _ :: _, _ :: _, t + 1, h => ⟨h.1, RVl.set hv t h.2⟩
  | [], _ :: _, _, h => h.elim
  | _ :: _, [], _, h => h.elim

theorem RF.mono {L : Lay} {c' : Ctx} {fr : Fr} {a : Act} (hle : c.le c') (h : RF L c fr a) : RF L c' fr a := RVl.mono hle h

theorem RF.put {L : Lay} {fr : Fr} {a : Act} {v : V} {u : Value} (h : RF L c fr a) (hv : RV L c v u) (d : Option Nat) : RF L c (putD fr d v) (a.put d u) := by
  cases d with
  | none => exact h
  | some t =>
    simp only [RF, putD, Act.put, Array.toList_setIfInBounds]
    exact RVl.set hv t h

/-- An operation with its place and its guard. -/
def cog (P : Program) (obj : Nat → Bool) (ops : List Oper) (o : Oper) : Option G :=
  match cop P obj o.type o.op, o.guard with
  | some (op, xs), none => some ⟨o.dst, op, xs, none⟩
  | some (op, xs), some (j, b) => match (ops[j]?).bind (·.dst) with
    | some d => some ⟨o.dst, op, xs, some (d, b)⟩
    | none => none
  | none, _ => none

/-- What is so of an operation and its table row. -/
theorem cog_some {ops : List Oper} {o : Oper} {g : G} (h : cog P obj ops o = some g) : cop P obj o.type o.op = some (g.op, g.xs) ∧ g.dst = o.dst ∧
    ((o.guard = none ∧ g.guard = none) ∨ ∃ j b d, o.guard = some (j, b) ∧ (ops[j]?).bind (·.dst) = some d ∧ g.guard = some (d, b)) := by
  unfold cog at h
  split at h
  · rename_i op xs h1 h2
    simp only [Option.some.injEq] at h
    subst h
    exact ⟨h1, rfl, Or.inl ⟨h2, rfl⟩⟩
  · rename_i op xs j b h1 h2
    split at h
    · rename_i d hd
      simp only [Option.some.injEq] at h
      subst h
      exact ⟨h1, rfl, Or.inr ⟨j, b, d, h2, hd, rfl⟩⟩
    · cases h
  · cases h

theorem want_wanted {L : Lay} {ops : List Oper} {o : Oper} {g : G} (hg : cog P obj ops o = some g) {fr : Fr} {a : Act} (hf : RF L c fr a) {b : Bool} (hw : want fr g = some b) :
    Region.wanted o (yielded ops.toArray a.tmps) = b := by
  obtain ⟨_, _, h⟩ := cog_some hg
  rcases h with ⟨h1, h2⟩ | ⟨j, b', d, h1, h2, h3⟩
  · simp only [want, h2, Option.some.injEq] at hw
    simp [Region.wanted, h1, ← hw]
  · simp only [want, h3] at hw
    simp only [Region.wanted, h1, yielded, List.getElem?_toArray, h2, Option.bind_some]
    have hlen := RVl.length hf
    by_cases hd : d < fr.length
    · have hd' : d < a.tmps.toList.length := by rw [hlen]; exact hd
      have hrv := hf.get d fr[d] a.tmps.toList[d] (List.getElem?_eq_getElem hd) (List.getElem?_eq_getElem hd')
      have e1 : fr.getD d .top = fr[d] := by simp [List.getD, List.getElem?_eq_getElem hd]
      have e2 : a.tmps[d]? = some a.tmps.toList[d] := by rw [← Array.getElem?_toList, List.getElem?_eq_getElem hd']
      rw [e1] at hw
      rw [e2]
      generalize fr[d] = x at hw hrv
      generalize a.tmps.toList[d] = y at hrv
      split at hw
      · obtain ⟨rfl, _⟩ := RV_s.1 hrv
        simp only [Option.some.injEq] at hw
        subst hw
        rfl
      · obtain ⟨ws, rfl, hws⟩ := RV_tup.1 hrv
        simp only [Option.some.injEq] at hw
        subst hw
        rfl
      · cases hw
    · have e1 : fr.getD d .top = .top := by simp [List.getD, List.getElem?_eq_none (Nat.le_of_not_lt hd)]
      rw [e1] at hw
      cases hw

theorem put_defers' (a : Act) (d : Option Nat) (v : Value) : (a.put d v).defers = a.defers := by cases d <;> rfl

section
variable (hL : (layOf P).OK) {cf : Nat → List V → Hp → Option (V × Hp)} {base : Nat} (hcf : CalleesOK P (layOf P) cf)
include hL hcf

/-- One operation. -/
theorem step_sound {ops : List Oper} {o : Oper} {g : G} (hg : cog P obj ops o = some g) {fr : Fr} {a : Act} (hf : RF (layOf P) c fr a) (hs : Sim (layOf P) c h w) {v : V} {h' : Hp} (hst : Vm.stepG cf base fr h g = some (v, h'))
    {K : Act → World → Prop} {Q : Exit → Act → World → Prop}
    (hK : ∀ u c' w', RV (layOf P) c' v u → Sim (layOf P) c' h' w' → c.le c' → St w w' → K (a.put o.dst u) w') :
    if Region.wanted o (yielded ops.toArray a.tmps) then o.wp P a w K Q ∨ (o.asks P a w ∧ LetsOut Q) else K (a.put o.dst undef) w := by
  unfold Vm.stepG at hst
  split at hst
  · rename_i hw
    rw [want_wanted hg hf hw, if_pos rfl]
    obtain ⟨hc, hd, _⟩ := cog_some hg
    left
    unfold Oper.wp
    rcases sound hL hcf hf hs hc hst with ⟨u, c', w', hr, hv, hs', hle, hst'⟩ | ⟨f, us, hr, hcall⟩
    · rcases hr with hr | ⟨hr, rfl⟩
      · rw [hr]; exact hK u c' w' hv hs' hle hst'
      · rw [hr]; exact hK undef c' w' hv hs' hle hst'
    · rw [hr]
      refine Calls.mono hcall fun e w' he => ?_
      obtain ⟨u, c', rfl, hv, hs', hle, hst'⟩ := he
      exact hK u c' w' hv hs' hle hst'
  · rename_i hw
    simp only [Option.some.injEq, Prod.mk.injEq] at hst
    obtain ⟨rfl, rfl⟩ := hst
    rw [want_wanted hg hf hw]
    exact hK undef c w (RV_tup.2 ⟨[], rfl, trivial⟩) hs (Ctx.le_refl c) (St.refl w)
  · cases hst

/-- What stands behind a piece of code: frame, heap, streams. -/
def Ends (P : Program) (c : Ctx) (w : World) (a : Act) (fr' : Fr) (h' : Hp) (K : Act → World → Prop) : Prop :=
  ∀ a' c' w', RF (layOf P) c' fr' a' → Sim (layOf P) c' h' w' → c.le c' → St w w' → a'.defers = a.defers → K a' w'

def cogs (P : Program) (obj : Nat → Bool) (all : List Oper) : List Oper → Option (List G)
  | [] => some []
  | o :: os => match cog P obj all o, cogs P obj all os with
    | some g, some gs => some (g :: gs)
    | _, _ => none

theorem text_sound {all : List Oper} {Q : Exit → Act → World → Prop} {base : Nat} : ∀ {os : List Oper} {gs : List G} {pre : List Oper}, all = pre ++ os → cogs P obj all os = some gs → ∀ {fr : Fr} {a : Act} {c : Ctx} {h : Hp} {w : World}, RF (layOf P) c fr a → Sim (layOf P) c h w →
    ∀ {fr' : Fr} {h' : Hp}, runG cf base gs fr h = some (fr', h') → Ends P c w a fr' h' (Q .normal) →
    wpOps P all.toArray Q (List.range' pre.length os.length) a w
  | [], gs, pre, hall, hc, fr, a, c, h, w, hf, hs, fr', h', hr, hE => by
    simp only [cogs, Option.some.injEq] at hc
    subst hc
    simp only [runG, Option.some.injEq, Prod.mk.injEq] at hr
    obtain ⟨rfl, rfl⟩ := hr
    exact hE a c w hf hs (Ctx.le_refl c) (St.refl w) rfl
  | o :: os, gs, pre, hall, hc, fr, a, c, h, w, hf, hs, fr', h', hr, hE => by
    simp only [cogs] at hc
    split at hc
    case h_2 => cases hc
    rename_i g gs' hg hgs
    simp only [Option.some.injEq] at hc
    subst hc
    simp only [runG] at hr
    split at hr
    case h_2 => cases hr
    rename_i v h1 hst
    have ho : all.toArray[pre.length]? = some o := by simp [hall]
    simp only [List.length_cons, List.range'_succ, wpOps, ho]
    refine step_sound (Q := Q) hL hcf hg hf hs hst fun u c' w' hv hs' hle hst' => ?_
    have hlen : pre.length + 1 = (pre ++ [o]).length := by simp
    rw [hlen]
    refine text_sound (base := base) (fr' := fr') (h' := h') (pre := pre ++ [o]) (by simp [hall]) hgs (RF.put (hf.mono hle) hv o.dst) hs' (by rw [← (cog_some hg).2.1]; exact hr) ?_
    intro a2 c2 w2 h1 h2 h3 h4 h5
    exact hE a2 c2 w2 h1 h2 (hle.trans h3) (hst'.trans h4) (by rw [h5, put_defers'])

theorem region_sound {id : Nat} {all : List Oper} {gs : List G} (hc : cogs P obj all all = some gs) {fr : Fr} {a : Act} (hf : RF (layOf P) c fr a) (hs : Sim (layOf P) c h w) {fr' : Fr} {h' : Hp} (hr : runG cf base gs fr h = some (fr', h')) {Q : Exit → Act → World → Prop}
    (hE : Ends P c w a fr' h' (Q .normal)) : (Code.region id all.toArray false).wp P Q a w := by
  refine wp_region ?_
  have := text_sound (base := base) hL hcf (Q := Q) (pre := []) (all := all) (os := all) rfl hc hf hs hr hE
  simpa [List.range_eq_range'] using this
end
end Go.Vm
/- Regions whose order is open: what was seen in the order of the text is so in each. The plain part. -/
namespace Go.Vm
set_option linter.unusedVariables false
set_option linter.unusedSimpArgs false
set_option linter.unusedSectionVars false

def GD.eff (d : GD) : Bool := d.g.op.eff
def cnt (ds : List GD) (j : Nat) : Nat := (ds.take j).countP GD.eff

theorem cnt_zero (ds : List GD) : cnt ds 0 = 0 := by simp [cnt]
theorem cnt_cons (d : GD) (ds : List GD) (j : Nat) : cnt (d :: ds) (j + 1) = (if d.eff then 1 else 0) + cnt ds j := by
  simp only [cnt, List.take_succ_cons, List.countP_cons]; omega

theorem cnt_succ {ds : List GD} {j : Nat} {d : GD} (h : ds[j]? = some d) : cnt ds (j + 1) = cnt ds j + (if d.eff then 1 else 0) := by
  simp only [cnt, List.take_add_one, h, Option.toList, List.countP_append, List.countP_cons, List.countP_nil]; omega

theorem cnt_mono (ds : List GD) {i j : Nat} (h : i ≤ j) : cnt ds i ≤ cnt ds j := by
  induction j with
  | zero => have : i = 0 := by omega
            subst this; exact Nat.le_refl _
  | succ j ih =>
    rcases Nat.eq_or_lt_of_le h with rfl | h'
    · exact Nat.le_refl _
    · refine Nat.le_trans (ih (by omega)) ?_
      cases hd : ds[j]? with
      | some d => rw [cnt_succ hd]; omega
      | none =>
        have : ds.length ≤ j := List.getElem?_eq_none_iff.1 hd
        simp [cnt, List.take_of_length_le this, List.take_of_length_le (Nat.le_succ_of_le this)]

/-- Between: one that is the m-th. -/
theorem cnt_hit (ds : List GD) {j m : Nat} (h : m < cnt ds j) : ∃ k d, k < j ∧ ds[k]? = some d ∧ d.eff = true ∧ cnt ds k = m := by
  induction j with
  | zero => simp [cnt] at h
  | succ j ih =>
    by_cases hm : m < cnt ds j
    · obtain ⟨k, d, h1, h2⟩ := ih hm
      exact ⟨k, d, by omega, h2⟩
    · cases hd : ds[j]? with
      | none =>
        have : ds.length ≤ j := List.getElem?_eq_none_iff.1 hd
        have e : cnt ds (j + 1) = cnt ds j := by simp [cnt, List.take_of_length_le this, List.take_of_length_le (Nat.le_succ_of_le this)]
        omega
      | some d =>
        rw [cnt_succ hd] at h
        by_cases he : d.eff = true
        · simp only [he, if_true] at h
          exact ⟨j, d, by omega, hd, he, by omega⟩
        · simp only [he] at h
          simp at h
          omega

theorem cnt_lt {ds : List GD} {k j : Nat} {d : GD} (hk : ds[k]? = some d) (he : d.eff = true) (h : k < j) : cnt ds k < cnt ds j := by
  have := cnt_mono ds (i := k + 1) (j := j) h
  rw [cnt_succ hk] at this
  simp [he] at this
  omega

section
variable (cf : Nat → List V → Hp → Option (V × Hp)) (base : Nat)

/-- What a run in the order of the text has seen. -/
structure Tr (ds : List GD) (fr : Fr) (h : Hp) (fr' : Fr) (h' : Hp) (vals : Nat → V) (frs : Nat → Fr) (hs : List Hp) : Prop where
  fst : frs 0 = fr
  lst : frs ds.length = fr'
  next : ∀ (j : Nat) (d : GD), ds[j]? = some d → frs (j + 1) = putD (frs j) d.g.dst (vals j)
  len : hs.length = cnt ds ds.length + 1
  hfst : hs[0]? = some h
  hlst : hs[cnt ds ds.length]? = some h'
  eff : ∀ (j : Nat) (d : GD), ds[j]? = some d → d.eff = true → ∃ hp hq, hs[cnt ds j]? = some hp ∧ hs[cnt ds j + 1]? = some hq ∧ stepG cf base (frs j) hp d.g = some (vals j, hq)

theorem runD_Tr : ∀ (ds : List GD) (fr : Fr) (h : Hp) (hs0 : List Hp) (xs0 : List Seen) (fr' : Fr) (h' : Hp) (hs' : List Hp) (xs' : List Seen), runD cf base ds fr h hs0 xs0 = some (fr', h', hs', xs') →
    ∃ vals frs hs ys, Tr cf base ds fr h fr' h' vals frs hs ∧ hs' = hs0 ++ hs ∧ xs' = xs0 ++ ys ∧ (∀ (j : Nat) (d : GD), ds[j]? = some d → d.eff = false → ⟨d, frs j, vals j⟩ ∈ ys) := by
  intro ds
  induction ds with
  | nil =>
    intro fr h hs0 xs0 fr' h' hs' xs' hr
    simp only [runD, Option.some.injEq, Prod.mk.injEq] at hr
    obtain ⟨rfl, rfl, rfl, rfl⟩ := hr
    exact ⟨fun _ => .top, fun _ => fr, [h], [], ⟨rfl, rfl, fun j d hd => by simp at hd, by simp [cnt], rfl, by simp [cnt], fun j d hd => by simp at hd⟩, rfl, by simp, fun j d hd => by simp at hd⟩
  | cons d ds ih =>
    intro fr h hs0 xs0 fr' h' hs' xs' hr
    simp only [runD] at hr
    split at hr
    case h_2 => cases hr
    rename_i v h1 hst
    have common : ∀ (h2 : Hp) (vals : Nat → V) (frs : Nat → Fr) (hs : List Hp), Tr cf base ds (putD fr d.g.dst v) h2 fr' h' vals frs hs →
        (d.eff = true → h2 = h1) → (d.eff = false → h2 = h) →
        Tr cf base (d :: ds) fr h fr' h' (fun j => match j with | 0 => v | j + 1 => vals j) (fun j => match j with | 0 => fr | j + 1 => frs j) (if d.eff then h :: hs else hs) := by
      intro h2 vals frs hs t he hn
      constructor
      · rfl
      · exact t.lst
      · intro j d' hd
        cases j with
        | zero =>
          simp only [List.getElem?_cons_zero, Option.some.injEq] at hd
          subst hd
          exact t.fst
        | succ j => exact t.next j d' (by simpa using hd)
      · rw [List.length_cons, cnt_cons]
        have := t.len
        split <;> simp <;> omega
      · split
        · rfl
        · rename_i hc
          rw [t.hfst, hn (by simpa using hc)]
      · rw [List.length_cons, cnt_cons]
        split
        · rw [Nat.add_comm]; simpa using t.hlst
        · simpa using t.hlst
      · intro j d' hd hd'
        cases j with
        | zero =>
          simp only [List.getElem?_cons_zero, Option.some.injEq] at hd
          subst hd
          refine ⟨h, h1, ?_, ?_, hst⟩
          · simp [cnt_zero, hd']
          · simp only [cnt_zero, hd', if_true]
            simpa [he hd'] using t.hfst
        | succ j =>
          obtain ⟨hp, hq, a1, a2, a3⟩ := t.eff j d' (by simpa using hd) hd'
          refine ⟨hp, hq, ?_, ?_, a3⟩
          · rw [cnt_cons]; split
            · rw [Nat.add_comm]; simpa using a1
            · simpa using a1
          · rw [cnt_cons]; split
            · rw [Nat.add_comm 1]; simpa using a2
            · simpa using a2
    split at hr
    · rename_i he
      obtain ⟨vals, frs, hs, ys, t, e1, e2, e3⟩ := ih _ _ _ _ _ _ _ _ hr
      refine ⟨_, _, _, ys, common h1 vals frs hs t (fun _ => rfl) (fun hf => by simp [GD.eff, he] at hf), ?_, e2, ?_⟩
      · simp [GD.eff, he, e1]
      · intro j d' hd hd'
        cases j with
        | zero =>
          simp only [List.getElem?_cons_zero, Option.some.injEq] at hd
          subst hd
          simp [GD.eff, he] at hd'
        | succ j => exact e3 j d' (by simpa using hd) hd'
    · rename_i he
      obtain ⟨vals, frs, hs, ys, t, e1, e2, e3⟩ := ih _ _ _ _ _ _ _ _ hr
      refine ⟨_, _, _, ⟨d, fr, v⟩ :: ys, common h vals frs hs t (fun hf => by simp [GD.eff, he] at hf) (fun _ => rfl), ?_, by simpa using e2, ?_⟩
      · simp [GD.eff, he, e1]
      · intro j d' hd hd'
        cases j with
        | zero =>
          simp only [List.getElem?_cons_zero, Option.some.injEq] at hd
          subst hd
          exact List.mem_cons_self
        | succ j => exact List.mem_cons_of_mem _ (e3 j d' (by simpa using hd) hd')

theorem sameIn_mem {fr : Fr} {g : G} {v : V} : ∀ {hs : List Hp}, sameIn cf base fr g v hs → ∀ h ∈ hs, stepG cf base fr h g = some (v, h)
  | [], _, h, hm => by cases hm
  | x :: hs, hh, h, hm => by
    cases hm with
    | head => exact hh.1
    | tail _ hm => exact sameIn_mem hh.2 h hm

theorem allSame_mem {hs : List Hp} : ∀ {xs : List Seen}, allSame cf base hs xs → ∀ x ∈ xs, sameIn cf base x.fr x.d.g x.v ((hs.drop x.d.lo).take (x.d.hi + 1 - x.d.lo))
  | [], _, x, hm => by cases hm
  | y :: xs, hh, x, hm => by
    cases hm with
    | head => exact hh.1
    | tail _ hm => exact allSame_mem hh.2 x hm

/-- All that is known of a run of a region whose order is open. -/
theorem regD_inB {ds : List GD} {fr fr' : Fr} {h h' : Hp} (hr : regD cf base ds fr h = some (fr', h')) : inB fr.length ds := by
  unfold regD at hr
  split at hr
  case h_2 => cases hr
  split at hr
  case isFalse => cases hr
  rename_i h
  exact h.1

theorem regD_Tr {ds : List GD} {fr fr' : Fr} {h h' : Hp} (hr : regD cf base ds fr h = some (fr', h')) : ∃ vals frs hs, Tr cf base ds fr h fr' h' vals frs hs ∧
    ∀ (j : Nat) (d : GD), ds[j]? = some d → d.eff = false → ∀ (m : Nat) (hp : Hp), d.lo ≤ m → m ≤ d.hi → hs[m]? = some hp → stepG cf base (frs j) hp d.g = some (vals j, hp) := by
  unfold regD at hr
  split at hr
  case h_2 => cases hr
  rename_i fr1 h1 hs xs hrun
  split at hr
  case isFalse => cases hr
  rename_i hall
  replace hall := hall.2
  simp only [Option.some.injEq, Prod.mk.injEq] at hr
  obtain ⟨rfl, rfl⟩ := hr
  obtain ⟨vals, frs, hs1, ys, t, e1, e2, e3⟩ := runD_Tr cf base _ _ _ _ _ _ _ _ _ hrun
  simp only [List.nil_append] at e1 e2
  subst e1 e2
  refine ⟨vals, frs, _, t, fun j d hd he m hp hlo hhi hm => ?_⟩
  refine sameIn_mem cf base (allSame_mem cf base hall _ (e3 j d hd he)) hp ?_
  refine List.mem_of_getElem? (i := m - d.lo) ?_
  rw [List.getElem?_take_of_lt (show m - d.lo < d.hi + 1 - d.lo by omega), List.getElem?_drop, Nat.add_sub_cancel' hlo]
  exact hm
end

/-- A frame, when these have been. -/
structure Cur (ds : List GD) (fr0 : Fr) (vals : Nat → V) (S : Nat → Prop) (fr : Fr) : Prop where
  len : fr.length = fr0.length
  put : ∀ (j : Nat) (d : GD) (t : Nat), ds[j]? = some d → S j → d.g.dst = some t → t < fr0.length → fr[t]? = some (vals j)
  old : ∀ t : Nat, (∀ (j : Nat) (d : GD), ds[j]? = some d → S j → d.g.dst ≠ some t) → fr[t]? = fr0[t]?

/-- No two have the same slot. -/
def Uniq (ds : List GD) : Prop := ∀ (j k : Nat) (d e : GD) (t : Nat), ds[j]? = some d → ds[k]? = some e → d.g.dst = some t → e.g.dst = some t → j = k

theorem putD_length (fr : Fr) (d : Option Nat) (v : V) : (putD fr d v).length = fr.length := by cases d <;> simp [putD]

theorem Cur.step {ds : List GD} {fr0 : Fr} {vals : Nat → V} {S S' : Nat → Prop} {fr : Fr} (hc : Cur ds fr0 vals S fr) (hu : Uniq ds) {j : Nat} {d : GD} (hd : ds[j]? = some d) (hS : ∀ k, S' k ↔ S k ∨ k = j) :
    Cur ds fr0 vals S' (putD fr d.g.dst (vals j)) where
  len := by rw [putD_length]; exact hc.len
  put k e t he hk ht hlt := by
    cases hdst : d.g.dst with
    | none =>
      simp only [putD]
      rcases (hS k).1 hk with hk | rfl
      · exact hc.put k e t he hk ht hlt
      · rw [hd] at he; cases he; rw [hdst] at ht; cases ht
    | some t' =>
      simp only [putD]
      by_cases htt : t = t'
      · subst htt
        have := hu k j e d t he hd ht hdst
        subst this
        rw [List.getElem?_set_self (by rw [hc.len]; exact hlt)]
      · rw [List.getElem?_set_ne (fun e => htt e.symm)]
        rcases (hS k).1 hk with hk | rfl
        · exact hc.put k e t he hk ht hlt
        · rw [hd] at he; cases he; rw [hdst] at ht; cases ht; exact absurd rfl htt
  old t ht := by
    have h1 : d.g.dst ≠ some t := ht j d hd ((hS j).2 (Or.inr rfl))
    have h2 := hc.old t fun k e he hk => ht k e he ((hS k).2 (Or.inl hk))
    cases hdst : d.g.dst with
    | none => exact h2
    | some t' =>
      simp only [putD]
      rw [List.getElem?_set_ne (fun e => h1 (by rw [hdst, e]))]
      exact h2

theorem Cur.same {ds : List GD} {fr0 : Fr} {vals : Nat → V} {S S' : Nat → Prop} {fr fr' : Fr} (hc : Cur ds fr0 vals S fr) (hc' : Cur ds fr0 vals S' fr') (t : Nat)
    (h : ∀ (k : Nat) (d : GD), ds[k]? = some d → d.g.dst = some t → (S k ↔ S' k)) : fr[t]? = fr'[t]? := by
  by_cases hlt : t < fr0.length
  · by_cases hw : ∃ k d, ds[k]? = some d ∧ S k ∧ d.g.dst = some t
    · obtain ⟨k, d, h1, h2, h3⟩ := hw
      rw [hc.put k d t h1 h2 h3 hlt, hc'.put k d t h1 ((h k d h1 h3).1 h2) h3 hlt]
    · rw [hc.old t (fun k d h1 h2 h3 => hw ⟨k, d, h1, h2, h3⟩), hc'.old t (fun k d h1 h2 h3 => hw ⟨k, d, h1, (h k d h1 h3).2 h2, h3⟩)]
  · rw [List.getElem?_eq_none (by rw [hc.len]; omega), List.getElem?_eq_none (by rw [hc'.len]; omega)]

theorem Cur.start (ds : List GD) (fr0 : Fr) (vals : Nat → V) {S : Nat → Prop} (hS : ∀ k, ¬ S k) : Cur ds fr0 vals S fr0 where
  len := rfl
  put j d t hd hj := (hS j hj).elim
  old t _ := rfl

theorem Tr.cur {cf : Nat → List V → Hp → Option (V × Hp)} {base : Nat} {ds : List GD} {fr fr' : Fr} {h h' : Hp} {vals : Nat → V} {frs : Nat → Fr} {hs : List Hp} (t : Tr cf base ds fr h fr' h' vals frs hs) (hu : Uniq ds) :
    ∀ j, j ≤ ds.length → Cur ds fr vals (· < j) (frs j)
  | 0, _ => by rw [t.fst]; exact Cur.start ds fr vals (fun k => Nat.not_lt_zero k)
  | j + 1, hj => by
    have hd : ds[j]? = some ds[j] := List.getElem?_eq_getElem (by omega)
    rw [t.next j _ hd]
    exact (t.cur hu j (by omega)).step hu hd fun k => by omega

/-- The slots that an operation looks at. -/
def X.slots : X → List Nat
  | .t n => [n]
  | .c _ => []
def G.reads (g : G) : List Nat := (match g.guard with | some (t, _) => [t] | none => []) ++ g.xs.flatMap X.slots

theorem X.ev_congr {fr fr' : Fr} {x : X} (h : ∀ t ∈ x.slots, fr[t]? = fr'[t]?) : x.ev fr = x.ev fr' := by
  cases x with
  | t n => simp only [X.ev, List.getD, h n (by simp [X.slots])]
  | c v => rfl

theorem stepG_congr {cf : Nat → List V → Hp → Option (V × Hp)} {base : Nat} {fr fr' : Fr} {h : Hp} {g : G} (hr : ∀ t ∈ g.reads, fr[t]? = fr'[t]?) : stepG cf base fr h g = stepG cf base fr' h g := by
  have h1 : want fr g = want fr' g := by
    unfold want
    split
    · rfl
    · rename_i t b hg
      have := hr t (by simp [G.reads, hg])
      simp only [List.getD, this]
  have h2 : g.xs.map (X.ev fr) = g.xs.map (X.ev fr') := List.map_congr_left fun x hx => X.ev_congr fun t ht => hr t (by
    simp only [G.reads, List.mem_append, List.mem_flatMap]
    exact Or.inr ⟨x, hx, ht⟩)
  unfold stepG
  rw [h1, h2]
end Go.Vm
/- Regions whose order is open: the check, and that it is enough. -/
namespace Go.Vm
set_option linter.unusedVariables false
set_option linter.unusedSimpArgs false
set_option linter.unusedSectionVars false

/-- What has to come ahead of an operation, as bits. -/
def preO (acc : List Nat) : List Edge → Nat
  | [] => 0
  | e :: es => if Region.binds .any e then (2 ^ e.on ||| acc.getD e.on 0) ||| preO acc es else preO acc es
def pres (acc : List Nat) : List Oper → List Nat
  | [] => acc
  | o :: os => pres (acc ++ [preO acc o.after.toList]) os

structure Row where
  k : Nat
  d : GD
  p : Nat
  c : Nat
  deriving Inhabited

def rowsD (k c : Nat) : List GD → List Nat → List Row
  | d :: ds, p :: ps => ⟨k, d, p, c⟩ :: rowsD (k + 1) (if d.eff then c + 1 else c) ds ps
  | _, _ => []

/-- Two operations of a region. -/
def okPair (j k : Row) : Bool :=
  j.k == k.k ||
  ((match k.d.g.dst with
    | some t => j.d.g.dst != some t && (!j.d.g.reads.contains t || (if k.k < j.k then j.p.testBit k.k else k.p.testBit j.k))
    | none => true) &&
   (!k.d.eff || (if j.d.eff then !(decide (k.k < j.k)) || j.p.testBit k.k else (!(decide (k.c < j.d.lo)) || j.p.testBit k.k) && (!(decide (j.d.hi ≤ k.c)) || k.p.testBit j.k))))

def backB (os : List Oper) : Bool := (List.range os.length).all fun j => match os[j]? with | some o => o.after.toList.all fun e => !Region.binds .any e || decide (e.on < j) | none => true

def okRows (os : List Oper) (ds : List GD) : Bool :=
  let rs := rowsD 0 0 ds (pres [] os)
  ds.length == os.length && backB os && (ds.all fun d => decide (d.lo ≤ cnt ds ds.length)) && rs.all fun j => rs.all fun k => okPair j k

theorem pres_length : ∀ (os : List Oper) (acc : List Nat), (pres acc os).length = acc.length + os.length
  | [], acc => rfl
  | o :: os, acc => by simp only [pres, pres_length os, List.length_append, List.length_cons, List.length_nil]; omega

theorem pres_acc : ∀ (os : List Oper) (acc : List Nat) (i : Nat), i < acc.length → (pres acc os)[i]? = acc[i]?
  | [], acc, i, h => rfl
  | o :: os, acc, i, h => by
    simp only [pres]
    rw [pres_acc os _ i (by simp; omega), List.getElem?_append_left h]

theorem pres_at : ∀ (os : List Oper) (acc : List Nat) (j : Nat) (o : Oper), os[j]? = some o → (pres acc os)[acc.length + j]? = some (preO ((pres acc os).take (acc.length + j)) o.after.toList)
  | [], acc, j, o, h => by simp at h
  | o' :: os, acc, 0, o, h => by
    simp only [List.getElem?_cons_zero, Option.some.injEq] at h
    subst h
    simp only [pres, Nat.add_zero]
    rw [pres_acc _ _ _ (by simp)]
    have : (pres (acc ++ [preO acc o'.after.toList]) os).take acc.length = acc := by
      apply List.ext_getElem?
      intro i
      by_cases hi : i < acc.length
      · rw [List.getElem?_take_of_lt hi, pres_acc _ _ _ (by simp; omega), List.getElem?_append_left hi]
      · rw [List.getElem?_eq_none (by rw [List.length_take]; omega), List.getElem?_eq_none (by omega)]
    rw [this]
    simp
  | o' :: os, acc, j + 1, o, h => by
    simp only [pres]
    have := pres_at os (acc ++ [preO acc o'.after.toList]) j o (by simpa using h)
    simp only [List.length_append, List.length_cons, List.length_nil] at this
    rw [show acc.length + (j + 1) = acc.length + (0 + 1) + j by omega]
    exact this

theorem rowsD_at : ∀ (ds : List GD) (ps : List Nat) (k c j : Nat) (d : GD) (p : Nat), ds[j]? = some d → ps[j]? = some p → (rowsD k c ds ps)[j]? = some ⟨k + j, d, p, c + cnt ds j⟩
  | [], ps, k, c, j, d, p, h, _ => by simp at h
  | _ :: _, [], k, c, j, d, p, _, h => by simp at h
  | d' :: ds, p' :: ps, k, c, 0, d, p, h1, h2 => by
    simp only [List.getElem?_cons_zero, Option.some.injEq] at h1 h2
    subst h1 h2
    simp [rowsD, cnt_zero]
  | d' :: ds, p' :: ps, k, c, j + 1, d, p, h1, h2 => by
    simp only [rowsD, List.getElem?_cons_succ]
    rw [rowsD_at ds ps (k + 1) _ j d p (by simpa using h1) (by simpa using h2), cnt_cons]
    congr 2
    · omega
    · split <;> omega

/-- Listed ones have their forerunners listed. -/
def Clo (os : List Oper) (S : Nat → Prop) : Prop := ∀ (j : Nat) (o : Oper), os[j]? = some o → S j → ∀ e ∈ o.after, Region.binds .any e = true → S e.on

theorem preO_bit {S : Nat → Prop} {acc : List Nat} {es : List Edge} (h1 : ∀ e ∈ es, Region.binds .any e = true → S e.on) (h2 : ∀ e ∈ es, Region.binds .any e = true → ∀ k, (acc.getD e.on 0).testBit k = true → S k) :
    ∀ k, (preO acc es).testBit k = true → S k := by
  induction es with
  | nil => intro k h; simp [preO] at h
  | cons e es ih =>
    intro k h
    simp only [preO] at h
    have ih' := ih (fun e he => h1 e (List.mem_cons_of_mem _ he)) (fun e he => h2 e (List.mem_cons_of_mem _ he))
    split at h
    · rename_i hb
      rw [Nat.testBit_or, Nat.testBit_or, Nat.testBit_two_pow] at h
      simp only [Bool.or_eq_true, decide_eq_true_eq] at h
      rcases h with (rfl | h) | h
      · exact h1 e List.mem_cons_self hb
      · exact h2 e List.mem_cons_self hb k h
      · exact ih' k h
    · exact ih' k h

theorem pres_sound {os : List Oper} {S : Nat → Prop} (hc : Clo os S) : ∀ (j : Nat) (o : Oper), os[j]? = some o → (∀ e ∈ o.after, Region.binds .any e = true → S e.on) → ∀ p, (pres [] os)[j]? = some p → ∀ k, p.testBit k = true → S k := by
  intro j
  induction j using Nat.strongRecOn with
  | _ j ih =>
    intro o ho hS p hp k hk
    have h1 := pres_at os [] j o ho
    simp only [List.length_nil, Nat.zero_add] at h1
    rw [h1] at hp
    simp only [Option.some.injEq] at hp
    subst hp
    refine preO_bit (S := S) (fun e he hb => hS e (by simpa using he) hb) (fun e he hb k hk => ?_) k hk
    have hSe := hS e (by simpa using he) hb
    by_cases hlt : e.on < j
    · have hjl : j < os.length := (List.getElem?_eq_some_iff.1 ho).1
      have hlen := pres_length os []
      simp only [List.length_nil, Nat.zero_add] at hlen
      have h2 : (pres [] os)[e.on]? = some (pres [] os)[e.on] := List.getElem?_eq_getElem (by omega)
      have h3 : ((pres [] os).take j).getD e.on 0 = (pres [] os)[e.on] := by
        simp only [List.getD, List.getElem?_take_of_lt hlt, h2, Option.getD_some]
      rw [h3] at hk
      have h4 : os[e.on]? = some os[e.on] := List.getElem?_eq_getElem (by omega)
      exact ih e.on hlt _ h4 (hc e.on _ h4 hSe) _ h2 k hk
    · have h3 : ((pres [] os).take j).getD e.on 0 = 0 := by
        simp only [List.getD, List.getElem?_eq_none (show ((pres [] os).take j).length ≤ e.on by rw [List.length_take]; omega), Option.getD_none]
      rw [h3] at hk
      simp at hk

/-- What the check says of two. -/
theorem okRows_pair {os : List Oper} {ds : List GD} (h : okRows os ds = true) {j k : Nat} {d e : GD} (hj : ds[j]? = some d) (hk : ds[k]? = some e) :
    ∃ p q, (pres [] os)[j]? = some p ∧ (pres [] os)[k]? = some q ∧ okPair ⟨j, d, p, cnt ds j⟩ ⟨k, e, q, cnt ds k⟩ = true := by
  simp only [okRows, Bool.and_eq_true, beq_iff_eq] at h
  obtain ⟨⟨⟨hlen, _⟩, _⟩, hall⟩ := h
  have hpl := pres_length os []
  simp only [List.length_nil, Nat.zero_add] at hpl
  have hjl : j < ds.length := (List.getElem?_eq_some_iff.1 hj).1
  have hkl : k < ds.length := (List.getElem?_eq_some_iff.1 hk).1
  have h1 : (pres [] os)[j]? = some (pres [] os)[j] := List.getElem?_eq_getElem (by omega)
  have h2 : (pres [] os)[k]? = some (pres [] os)[k] := List.getElem?_eq_getElem (by omega)
  refine ⟨_, _, h1, h2, ?_⟩
  have r1 := rowsD_at ds (pres [] os) 0 0 j d _ hj h1
  have r2 := rowsD_at ds (pres [] os) 0 0 k e _ hk h2
  simp only [Nat.zero_add] at r1 r2
  exact List.all_eq_true.1 (List.all_eq_true.1 hall _ (List.mem_of_getElem? r1)) _ (List.mem_of_getElem? r2)

theorem okRows_uniq {os : List Oper} {ds : List GD} (h : okRows os ds = true) : Uniq ds := by
  intro j k d e t hj hk hd he
  obtain ⟨p, q, _, _, hp⟩ := okRows_pair h hj hk
  simp only [okPair, Bool.or_eq_true, beq_iff_eq, Bool.and_eq_true, he, bne_iff_ne, ne_eq] at hp
  rcases hp with hp | hp
  · exact hp
  · exact absurd hd hp.1.1

theorem okRows_reads {os : List Oper} {ds : List GD} (h : okRows os ds = true) {j k : Nat} {d e : GD} {t : Nat} (hj : ds[j]? = some d) (hk : ds[k]? = some e) (hne : j ≠ k) (he : e.g.dst = some t) (ht : t ∈ d.g.reads) :
    ∃ p q, (pres [] os)[j]? = some p ∧ (pres [] os)[k]? = some q ∧ if k < j then p.testBit k = true else q.testBit j = true := by
  obtain ⟨p, q, h1, h2, hp⟩ := okRows_pair h hj hk
  refine ⟨p, q, h1, h2, ?_⟩
  simp only [okPair, Bool.or_eq_true, beq_iff_eq, Bool.and_eq_true, he, bne_iff_ne, ne_eq] at hp
  rcases hp with hp | ⟨⟨_, hp⟩, _⟩
  · exact absurd hp hne
  · have : d.g.reads.contains t = true := by simpa using ht
    rw [this] at hp
    simp only [Bool.not_true, Bool.false_eq_true, false_or] at hp
    split at hp <;> rename_i hc <;> simp only [hc, if_true, if_false] <;> exact hp

theorem okRows_effs {os : List Oper} {ds : List GD} (h : okRows os ds = true) {j k : Nat} {d e : GD} (hj : ds[j]? = some d) (hk : ds[k]? = some e) (hd : d.eff = true) (he : e.eff = true) (hlt : k < j) :
    ∃ p, (pres [] os)[j]? = some p ∧ p.testBit k = true := by
  obtain ⟨p, q, h1, h2, hp⟩ := okRows_pair h hj hk
  refine ⟨p, h1, ?_⟩
  simp only [okPair, Bool.or_eq_true, beq_iff_eq, Bool.and_eq_true, he, hd, if_true, Bool.not_true, Bool.false_eq_true, false_or, hlt, decide_true] at hp
  rcases hp with hp | ⟨_, hp⟩
  · omega
  · exact hp

theorem okRows_lo {os : List Oper} {ds : List GD} (h : okRows os ds = true) {j k : Nat} {d e : GD} (hj : ds[j]? = some d) (hk : ds[k]? = some e) (hd : d.eff = false) (he : e.eff = true) :
    ∃ p q, (pres [] os)[j]? = some p ∧ (pres [] os)[k]? = some q ∧ (cnt ds k < d.lo → p.testBit k = true) ∧ (d.hi ≤ cnt ds k → q.testBit j = true) := by
  obtain ⟨p, q, h1, h2, hp⟩ := okRows_pair h hj hk
  refine ⟨p, q, h1, h2, ?_⟩
  simp only [okPair, Bool.or_eq_true, beq_iff_eq, Bool.and_eq_true, he, hd, if_false, Bool.not_true, Bool.false_eq_true, false_or, Bool.not_eq_true', decide_eq_false_iff_not] at hp
  rcases hp with hp | ⟨_, hp⟩
  · subst hp
    rw [hj] at hk; cases hk
    rw [hd] at he; cases he
  · exact ⟨fun hc => hp.1.resolve_left (fun hn => hn hc), fun hc => hp.2.resolve_left (fun hn => hn hc)⟩

theorem okRows_total {os : List Oper} {ds : List GD} (h : okRows os ds = true) : ds.length = os.length ∧ (∀ d ∈ ds, d.lo ≤ cnt ds ds.length) ∧ ∀ (j : Nat) (o : Oper), os[j]? = some o → ∀ e ∈ o.after, Region.binds .any e = true → e.on < j := by
  simp only [okRows, Bool.and_eq_true, beq_iff_eq, List.all_eq_true, decide_eq_true_eq] at h
  obtain ⟨⟨⟨hlen, hb⟩, hlo⟩, _⟩ := h
  refine ⟨hlen, hlo, fun j o ho e he hbe => ?_⟩
  have := List.all_eq_true.1 hb j (List.mem_range.2 (List.getElem?_eq_some_iff.1 ho).1)
  simp only [ho, List.all_eq_true, Bool.or_eq_true, Bool.not_eq_true', decide_eq_true_eq] at this
  rcases this e (by simpa using he) with h' | h'
  · rw [hbe] at h'; cases h'
  · exact h'
end Go.Vm
/- Regions whose order is open: each order ends as the text's does. -/
namespace Go.Vm
set_option linter.unusedVariables false
set_option linter.unusedSimpArgs false
set_option linter.unusedSectionVars false
variable {P : Program} {obj : Nat → Bool}

theorem cogs_at {all : List Oper} : ∀ {os : List Oper} {gs : List G}, cogs P obj all os = some gs → gs.length = os.length ∧ ∀ (j : Nat) (o : Oper) (g : G), os[j]? = some o → gs[j]? = some g → cog P obj all o = some g
  | [], gs, h => by
    simp only [cogs, Option.some.injEq] at h
    subst h
    exact ⟨rfl, fun j o g ho => by simp at ho⟩
  | o :: os, gs, h => by
    simp only [cogs] at h
    split at h
    case h_2 => cases h
    rename_i g gs' hg hgs
    simp only [Option.some.injEq] at h
    subst h
    obtain ⟨h1, h2⟩ := cogs_at hgs
    refine ⟨by simp [h1], fun j o' g' ho hg' => ?_⟩
    cases j with
    | zero =>
      simp only [List.getElem?_cons_zero, Option.some.injEq] at ho hg'
      subst ho hg'
      exact hg
    | succ j => exact h2 j o' g' (by simpa using ho) (by simpa using hg')

def listedS (l : Array Bool) : Nat → Prop := fun j => l.getD j false = true

theorem listedS_set {l : Array Bool} {i : Nat} (hi : i < l.size) (k : Nat) : listedS (l.setIfInBounds i true) k ↔ listedS l k ∨ k = i := by
  unfold listedS
  by_cases hk : i = k
  · subst hk
    simp [hi, Array.getD_eq_getD_getElem?]
  · rw [getD_set_ne false hk]
    constructor
    · exact Or.inl
    · rintro (h | h)
      · exact h
      · exact absurd h.symm hk

section
variable (hL : (layOf P).OK) {cf : Nat → List V → Hp → Option (V × Hp)} {base : Nat} (hcf : CalleesOK P (layOf P) cf)
include hL hcf

theorem any_sound {all : List Oper} {ds : List GD} (hc : cogs P obj all all = some (ds.map (·.g))) (hok : okRows all ds = true) {fr0 fr' : Fr} {h0 h' : Hp} {vals : Nat → V} {frs : Nat → Fr} {hs : List Hp}
    (tr : Tr cf base ds fr0 h0 fr' h' vals frs hs)
    (hquiet : ∀ (j : Nat) (d : GD), ds[j]? = some d → d.eff = false → ∀ (m : Nat) (hp : Hp), d.lo ≤ m → m ≤ d.hi → hs[m]? = some hp → stepG cf base (frs j) hp d.g = some (vals j, hp))
    {c0 : Ctx} {a0 : Act} {w0 : World} {Q : Exit → Act → World → Prop} (hE : Ends P c0 w0 a0 fr' h' (Q .normal)) :
    ∀ (fuel : Nat) (listed : Array Bool) (a : Act) (w : World) (c : Ctx) (m : Nat) (frc : Fr) (hp : Hp), listed.size = all.length → listed.toList.count true + fuel = all.length → Clo all (listedS listed) → Cur ds fr0 vals (listedS listed) frc →
      RF (layOf P) c frc a → hs[m]? = some hp → Sim (layOf P) c hp w → (∀ (k : Nat) (d : GD), ds[k]? = some d → d.eff = true → (listedS listed k ↔ cnt ds k < m)) → c0.le c → St w0 w → a.defers = a0.defers →
      wpAny P .any all.toArray Q fuel listed a w := by
  have hu := okRows_uniq hok
  obtain ⟨hlen, hlo, hback⟩ := okRows_total hok
  obtain ⟨hglen, hcog⟩ := cogs_at hc
  -- when all are listed, this is the end
  have fin : ∀ (listed : Array Bool) (a : Act) (w : World) (c : Ctx) (m : Nat) (frc : Fr) (hp : Hp), (∀ j, j < all.length → listedS listed j) → Cur ds fr0 vals (listedS listed) frc →
      RF (layOf P) c frc a → hs[m]? = some hp → Sim (layOf P) c hp w → (∀ (k : Nat) (d : GD), ds[k]? = some d → d.eff = true → (listedS listed k ↔ cnt ds k < m)) → c0.le c → St w0 w → a.defers = a0.defers → Q .normal a w := by
    intro listed a w c m frc hp hall hcur hf hm hsim heff hle hst hdef
    have e1 : frc = fr' := by
      have h1 := tr.cur hu ds.length (Nat.le_refl _)
      rw [tr.lst] at h1
      apply List.ext_getElem?
      intro t
      refine hcur.same h1 t fun k d hd _ => ?_
      have hk : k < ds.length := (List.getElem?_eq_some_iff.1 hd).1
      exact ⟨fun _ => hk, fun _ => hall k (by omega)⟩
    have e2 : m = cnt ds ds.length := by
      have h1 : m < hs.length := (List.getElem?_eq_some_iff.1 hm).1
      rw [tr.len] at h1
      rcases Nat.lt_or_ge m (cnt ds ds.length) with h2 | h2
      · obtain ⟨k, d, h3, h4, h5, h6⟩ := cnt_hit ds h2
        have := (heff k d h4 h5).1 (hall k (by omega))
        omega
      · omega
    have e3 : hp = h' := by
      rw [e2, tr.hlst] at hm
      exact (Option.some.inj hm).symm
    subst e1 e3
    exact hE a c w hf hsim hle hst hdef
  -- one that is ready
  have stp : ∀ (fuel : Nat), (∀ (listed : Array Bool) (a : Act) (w : World) (c : Ctx) (m : Nat) (frc : Fr) (hp : Hp), listed.size = all.length → listed.toList.count true + fuel = all.length → Clo all (listedS listed) → Cur ds fr0 vals (listedS listed) frc →
      RF (layOf P) c frc a → hs[m]? = some hp → Sim (layOf P) c hp w → (∀ (k : Nat) (d : GD), ds[k]? = some d → d.eff = true → (listedS listed k ↔ cnt ds k < m)) → c0.le c → St w0 w → a.defers = a0.defers →
      wpAny P .any all.toArray Q fuel listed a w) →
    ∀ (listed : Array Bool) (a : Act) (w : World) (c : Ctx) (m : Nat) (frc : Fr) (hp : Hp), listed.size = all.length → listed.toList.count true + (fuel + 1) = all.length → Clo all (listedS listed) → Cur ds fr0 vals (listedS listed) frc →
      RF (layOf P) c frc a → hs[m]? = some hp → Sim (layOf P) c hp w → (∀ (k : Nat) (d : GD), ds[k]? = some d → d.eff = true → (listedS listed k ↔ cnt ds k < m)) → c0.le c → St w0 w → a.defers = a0.defers →
      ∀ i ∈ Region.ready .any all.toArray listed, wpOp P all.toArray Q i (wpAny P .any all.toArray Q fuel (listed.setIfInBounds i true)) a w := by
    intro fuel ih listed a w c m frc hp hsz hcount hclo hcur hf hm hsim heff hle hst hdef i hi
    obtain ⟨hnl, o, ho, hafter⟩ := mem_ready.1 hi
    rw [List.getElem?_toArray] at ho
    have hil : i < all.length := (List.getElem?_eq_some_iff.1 ho).1
    have hni : ¬ listedS listed i := by
      unfold listedS
      have : i < listed.size := by omega
      simp only [Array.getD_eq_getD_getElem?, Array.getElem?_eq_getElem this, Option.getD_some] at hnl ⊢
      simp [hnl]
    have hd : ds[i]? = some ds[i] := List.getElem?_eq_getElem (by omega)
    have hg : cog P obj all o = some (ds[i]'(by omega)).g := hcog i o _ ho (by rw [List.getElem?_map, hd]; rfl)
    generalize ds[i]'(by omega) = d at hd hg
    have hpre : ∀ p, (pres [] all)[i]? = some p → ∀ k, p.testBit k = true → listedS listed k := pres_sound hclo i o ho (fun e he hb => hafter e he hb)
    have hpost : ∀ k q, (pres [] all)[k]? = some q → q.testBit i = true → ¬ listedS listed k := fun k q hq hb hk => by
      have hkl : k < all.length := by
        have := (List.getElem?_eq_some_iff.1 hq).1
        rw [pres_length] at this; simpa using this
      have hok' : all[k]? = some all[k] := List.getElem?_eq_getElem hkl
      exact hni (pres_sound hclo k _ hok' (fun e he hb => hclo k _ hok' hk e he hb) q hq i hb)
    -- it looks at what it looked at
    have hread : ∀ t ∈ d.g.reads, frc[t]? = (frs i)[t]? := fun t ht => by
      refine hcur.same (tr.cur hu i (by omega)) t fun k e he het => ?_
      by_cases hki : k = i
      · subst hki
        exact ⟨fun h => absurd h hni, fun h => absurd h (Nat.lt_irrefl _)⟩
      · obtain ⟨p, q, h1, h2, h3⟩ := okRows_reads hok hd he (fun h => hki h.symm) het ht
        split at h3
        · rename_i hlt
          exact ⟨fun _ => hlt, fun _ => hpre p h1 k h3⟩
        · rename_i hlt
          exact ⟨fun h => absurd h (hpost k q h2 h3), fun h => absurd h hlt⟩
    -- what it gives
    have hgive : ∃ hq m', stepG cf base frc hp d.g = some (vals i, hq) ∧ hs[m']? = some hq ∧ (∀ (k : Nat) (e : GD), ds[k]? = some e → e.eff = true → (listedS (listed.setIfInBounds i true) k ↔ cnt ds k < m')) := by
      by_cases he : d.eff = true
      · obtain ⟨hp1, hq, h1, h2, h3⟩ := tr.eff i d hd he
        have hmi : cnt ds i = m := by
          have h4 : ¬ cnt ds i < m := fun h => hni ((heff i d hd he).2 h)
          rcases Nat.lt_or_ge m (cnt ds i) with h5 | h5
          · obtain ⟨k, e, h6, h7, h8, h9⟩ := cnt_hit ds h5
            obtain ⟨p, h10, h11⟩ := okRows_effs hok hd h7 he h8 h6
            have := (heff k e h7 h8).1 (hpre p h10 k h11)
            omega
          · omega
        rw [hmi, hm] at h1
        cases h1
        refine ⟨hq, m + 1, ?_, hmi ▸ h2, fun k e hke hee => ?_⟩
        · rw [stepG_congr hread]; exact h3
        · rw [listedS_set (by omega), heff k e hke hee]
          constructor
          · rintro (h | rfl)
            · omega
            · omega
          · intro h
            rcases Nat.lt_or_ge (cnt ds k) m with h5 | h5
            · exact Or.inl h5
            · right
              rcases Nat.lt_trichotomy k i with h6 | h6 | h6
              · have := cnt_lt hke hee h6; omega
              · exact h6
              · have := cnt_lt hd he h6; omega
      · have he' : d.eff = false := by simpa using he
        have hmlt : m < cnt ds ds.length + 1 := by
          have := (List.getElem?_eq_some_iff.1 hm).1
          rw [tr.len] at this; exact this
        have hlom : d.lo ≤ m := by
          rcases Nat.lt_or_ge m d.lo with h5 | h5
          · have h6 := hlo d (List.mem_of_getElem? hd)
            obtain ⟨k, e, h7, h8, h9, h10⟩ := cnt_hit ds (show m < cnt ds ds.length by omega)
            obtain ⟨p, q, h11, h12, h13, h14⟩ := okRows_lo hok hd h8 he' h9
            have := (heff k e h8 h9).1 (hpre p h11 k (h13 (by omega)))
            omega
          · exact h5
        have hhim : m ≤ d.hi := by
          rcases Nat.lt_or_ge d.hi m with h5 | h5
          · obtain ⟨k, e, h7, h8, h9, h10⟩ := cnt_hit ds (show d.hi < cnt ds ds.length by omega)
            obtain ⟨p, q, h11, h12, h13, h14⟩ := okRows_lo hok hd h8 he' h9
            exact absurd ((heff k e h8 h9).2 (by omega)) (hpost k q h12 (h14 (by omega)))
          · exact h5
        refine ⟨hp, m, ?_, hm, fun k e hke hee => ?_⟩
        · rw [stepG_congr hread]; exact hquiet i d hd he' m hp hlom hhim hm
        · rw [listedS_set (by omega), heff k e hke hee]
          constructor
          · rintro (h | rfl)
            · exact h
            · rw [hd] at hke; cases hke; rw [he'] at hee; cases hee
          · exact Or.inl
    obtain ⟨hq, m', h1, h2, h3⟩ := hgive
    unfold wpOp
    rw [List.getElem?_toArray, ho]
    simp only
    refine step_sound (Q := Q) hL hcf hg hf hsim h1 fun u c' w' hv hs' hle' hst' => ?_
    refine ih _ _ w' c' m' (putD frc d.g.dst (vals i)) hq (by simpa using hsz) ?_ ?_ ?_ ?_ h2 hs' h3 (hle.trans hle') (hst.trans hst') (by rw [put_defers', hdef])
    · have hget : listed.toList[i]? = some false := by
        have : i < listed.size := by omega
        rw [Array.getElem?_toList, Array.getElem?_eq_getElem this]
        simp only [listedS, Array.getD_eq_getD_getElem?, Array.getElem?_eq_getElem this, Option.getD_some, Bool.not_eq_true] at hni
        rw [hni]
      have hlt : i < listed.toList.length := (List.getElem?_eq_some_iff.1 hget).1
      have hge : listed.toList[i] = false := by simpa [List.getElem?_eq_getElem hlt] using hget
      rw [Array.toList_setIfInBounds, List.count_set hlt, hge]
      show List.count true listed.toList - 0 + 1 + fuel = all.length
      omega
    · intro j o' ho' hj e he hb
      rw [listedS_set (by omega)]
      rcases (listedS_set (by omega) j).1 hj with hj | rfl
      · exact Or.inl (hclo j o' ho' hj e he hb)
      · rw [ho] at ho'; cases ho'
        exact Or.inl (hafter e he hb)
    · exact hcur.step hu hd fun k => listedS_set (by omega) k
    · rw [(cog_some hg).2.1]
      exact RF.put (hf.mono hle') hv o.dst
  intro fuel
  induction fuel with
  | zero =>
    intro listed a w c m frc hp hsz hcount hclo hcur hf hm hsim heff hle hst hdef
    have hall : ∀ j, j < all.length → listedS listed j := fun j hj => by
      have h1 : listed.toList.count true = listed.toList.length := by simp at hcount ⊢; omega
      have h2 := List.count_eq_length.1 h1
      have h3 : j < listed.size := by omega
      have := h2 listed.toList[j] (List.getElem_mem _)
      simp only [listedS, Array.getD_eq_getD_getElem?, Array.getElem?_eq_getElem h3, Option.getD_some]
      simpa using this.symm
    refine ⟨?_, fin listed a w c m frc hp hall hcur hf hm hsim heff hle hst hdef⟩
    apply List.eq_nil_iff_forall_not_mem.2
    intro i hi
    obtain ⟨h1, o, ho, _⟩ := mem_ready.1 hi
    rw [List.getElem?_toArray] at ho
    have hil : i < all.length := (List.getElem?_eq_some_iff.1 ho).1
    have := hall i hil
    have h3 : i < listed.size := by omega
    simp only [listedS, Array.getD_eq_getD_getElem?, Array.getElem?_eq_getElem h3, Option.getD_some] at this h1
    rw [this] at h1; cases h1
  | succ fuel ih =>
    intro listed a w c m frc hp hsz hcount hclo hcur hf hm hsim heff hle hst hdef
    refine ⟨fun hnil => ?_, stp fuel ih listed a w c m frc hp hsz hcount hclo hcur hf hm hsim heff hle hst hdef⟩
    have hall : ∀ j, j < all.length → listedS listed j := by
      intro j
      induction j using Nat.strongRecOn with
      | _ j ihj =>
        intro hj
        by_cases hn : listedS listed j
        · exact hn
        · exfalso
          have ho : all[j]? = some all[j] := List.getElem?_eq_getElem hj
          have : j ∈ Region.ready .any all.toArray listed := by
            refine mem_ready.2 ⟨?_, all[j], by rw [List.getElem?_toArray, ho], fun e he hb => ?_⟩
            · have h3 : j < listed.size := by omega
              simp only [listedS, Array.getD_eq_getD_getElem?, Array.getElem?_eq_getElem h3, Option.getD_some, Bool.not_eq_true] at hn ⊢
              exact hn
            · have := hback j _ ho e he hb
              exact ihj e.on this (by omega)
          rw [hnil] at this
          cases this
    exact fin listed a w c m frc hp hall hcur hf hm hsim heff hle hst hdef

theorem draw_sound {id : Nat} {all : List Oper} {ds : List GD} (hmix : P.follows .mixedOrders = true) (hc : cogs P obj all all = some (ds.map (·.g))) (hok : okRows all ds = true) {c : Ctx} {h : Hp} {w : World} {fr : Fr} {a : Act}
    (hf : RF (layOf P) c fr a) (hs : Sim (layOf P) c h w) {fr' : Fr} {h' : Hp} (hr : regD cf base ds fr h = some (fr', h')) {Q : Exit → Act → World → Prop} (hE : Ends P c w a fr' h' (Q .normal)) :
    (Code.region id all.toArray true).wp P Q a w := by
  obtain ⟨vals, frs, hps, tr, hq⟩ := regD_Tr cf base hr
  refine wp_region_any hmix ?_
  refine any_sound hL hcf hc hok tr hq (c0 := c) (a0 := a) (w0 := w) hE _ _ a _ c 0 fr h (by simp) ?_ ?_ ?_ hf tr.hfst hs.drew ?_ (Ctx.le_refl c) (St.drew w) rfl
  · simp [List.count_replicate]
  · intro j o ho hj
    simp only [listedS, Array.getD_eq_getD_getElem?, Array.getElem?_replicate] at hj
    split at hj <;> simp at hj
  · refine Cur.start ds fr vals fun k hk => ?_
    simp only [listedS, Array.getD_eq_getD_getElem?, Array.getElem?_replicate] at hk
    split at hk <;> simp at hk
  · intro k d hd he
    constructor
    · intro hk
      simp only [listedS, Array.getD_eq_getD_getElem?, Array.getElem?_replicate] at hk
      split at hk <;> simp at hk
    · intro hk; omega
end
end Go.Vm
/- Operations that leave the heap alone; those that do not look at it. -/
namespace Go.Vm
set_option linter.unusedVariables false
set_option linter.unusedSimpArgs false
set_option linter.unusedSectionVars false

/-- It gives the same whatever the heap is. -/
def O.indep : O → Bool
  | .mv | .pick | .bin _ _ | .eqa _ _ _ | .eqs _ _ _ | .un _ | .nck | .fld _ _ | .idx _ | .sidx | .blds _ _ _ | .blda _ _ _ | .sls _ _ | .len | .slen | .cap | .i2i _ | .mki _ | .tas _ _ _ | .ext _ | .min | .max | .mkf _ | .nop | .fzp _ | .bsi _ _ _ => true
  | .s2b lit => lit
  | _ => false

def bare (h : Hp) (o : Option (V × Hp)) : Option (V × Hp) := o.map fun r => (r.1, h)

theorem q_pick (h : Hp) (c a b : V) : opPick h c a b = bare h (opPick [] c a b) := by unfold opPick; split <;> rfl
theorem q_bin (h : Hp) (cl : Cl) (op : BinOp) (x y : V) : opBin h cl op x y = bare h (opBin [] cl op x y) := by unfold opBin; cases binV cl op x y <;> rfl
theorem q_un (h : Hp) (op : UnOp) (x : V) : (unV op x).bind (okI · h) = bare h ((unV op x).bind (okI · [])) := by cases unV op x <;> rfl
theorem q_eqa (h : Hp) (t : Nat) (k : IntKind) (n : Bool) (x y : V) : opEqa h t k n x y = bare h (opEqa [] t k n x y) := by
  unfold opEqa; split
  · split
    · split <;> rfl
    · rfl
  · rfl
theorem q_eqs (h : Hp) (t : Nat) (k : List LK) (n : Bool) (x y : V) : opEqs h t k n x y = bare h (opEqs [] t k n x y) := by
  unfold opEqs; split
  · split
    · split
      · split <;> rfl
      · rfl
    · rfl
  · rfl
theorem q_nck (h : Hp) (x : V) : opNck h x = bare h (opNck [] x) := by unfold opNck; split <;> rfl
theorem q_fld (h : Hp) (t i : Nat) (x : V) : opFld h t i x = bare h (opFld [] t i x) := by
  unfold opFld; split
  · split
    · rename_i fs _; cases fs[i]? <;> rfl
    · rfl
  · rfl
theorem q_idx (h : Hp) (t : Nat) (x y : V) : opIdx h t x y = bare h (opIdx [] t x y) := by
  unfold opIdx; split
  · split
    · rename_i es i _ _; cases es[i.toNat]? <;> rfl
    · rfl
  · rfl
theorem q_sidx (h : Hp) (x y : V) : opSidx h x y = bare h (opSidx [] x y) := by
  unfold opSidx; split
  · split
    · split <;> rfl
    · rfl
  · rfl
theorem q_blds (h : Hp) (t : Nat) (z : List V) (p : List Nat) (xs : List V) : opBlds h t z p xs = bare h (opBlds [] t z p xs) := by
  unfold opBlds; split
  · cases putParts z (p.zip xs) <;> rfl
  · rfl
theorem q_blda (h : Hp) (t : Nat) (z : List V) (p : List Nat) (xs : List V) : opBlda h t z p xs = bare h (opBlda [] t z p xs) := by
  unfold opBlda; split
  · cases putParts z (p.zip xs) <;> rfl
  · rfl
theorem q_sls (h : Hp) (lo hi : Bool) (x : V) (bs : List V) : opSls h lo hi x bs = bare h (opSls [] lo hi x bs) := by
  unfold opSls; split
  · split
    · split <;> rfl
    · rfl
  · rfl
theorem q_bsi (h : Hp) (t : Option Nat) (z : List V) (p : List Nat) (xs : List V) : opBsi h t z p xs = bare h (opBsi [] t z p xs) := by
  unfold opBsi; split
  · cases putParts z (p.zip xs) <;> rfl
  · rfl
theorem q_fzp (h : Hp) (g : Option Nat) (x : V) : opFzp h g x = bare h (opFzp [] g x) := by unfold opFzp; split <;> rfl
theorem q_len (h : Hp) (x : V) : opLen h x = bare h (opLen [] x) := by unfold opLen; cases lenV x <;> rfl
theorem q_cap (h : Hp) (x : V) : opCap h x = bare h (opCap [] x) := by unfold opCap; split <;> rfl
theorem q_slen (h : Hp) (x : V) : opSlen h x = bare h (opSlen [] x) := by unfold opSlen; split <;> rfl
theorem q_i2i (h : Hp) (k : IntKind) (x : V) : opI2i h k x = bare h (opI2i [] k x) := by unfold opI2i; cases numOf x <;> rfl
theorem q_tas (h : Hp) (t : Nat) (ok : Bool) (z x : V) : opTas h t ok z x = bare h (opTas [] t ok z x) := by
  unfold opTas; split
  · split
    · rfl
    · split <;> rfl
  · rfl
theorem q_ext (h : Hp) (i : Nat) (x : V) : opExt h i x = bare h (opExt [] i x) := by
  unfold opExt; split
  · rename_i vs; cases vs[i]? <;> rfl
  · rfl
theorem q_mm (h : Hp) (mx : Bool) (x y : V) : opMm h mx x y = bare h (opMm [] mx x y) := by unfold opMm; split <;> rfl
theorem q_s2b (h : Hp) (x : V) : opS2b h true x = bare h (opS2b [] true x) := by unfold opS2b; split <;> rfl

theorem opV_bare (cf : Nat → List V → Hp → Option (V × Hp)) (base : Nat) {o : O} (hi : o.indep = true) (xs : List V) (h : Hp) : opV cf base h o xs = bare h (opV cf base [] o xs) := by
  cases o <;> simp only [O.indep] at hi <;> try (cases hi; done)
  case blds t z p => exact q_blds h t z p xs
  case blda t z p => exact q_blda h t z p xs
  case mkf f => rfl
  case bsi t z p => exact q_bsi h t z p xs
  case s2b lit =>
    subst hi
    match xs with
    | [] => rfl
    | [x] => exact q_s2b h x
    | _ :: _ :: _ => rfl
  all_goals
    match xs with
    | [] => first | rfl | done
    | [x] => first | rfl | exact q_un h _ x | exact q_fzp h _ x | exact q_nck h x | exact q_fld h _ _ x | exact q_len h x | exact q_cap h x | exact q_slen h x | exact q_i2i h _ x | exact q_tas h _ _ _ x | exact q_ext h _ x | exact q_sls h _ _ x []
    | [x, y] => first | rfl | exact q_bin h _ _ x y | exact q_eqa h _ _ _ x y | exact q_eqs h _ _ _ x y | exact q_idx h _ x y | exact q_sidx h x y | exact q_mm h _ x y | exact q_sls h _ _ x [y]
    | [x, y, z] => first | rfl | exact q_pick h x y z | exact q_sls h _ _ x [y, z]
    | x :: y :: z :: t :: r => first | rfl | exact q_sls h _ _ x (y :: z :: t :: r)

theorem opV_indep {cf : Nat → List V → Hp → Option (V × Hp)} {base : Nat} {o : O} (hi : o.indep = true) {xs : List V} {h h' : Hp} {v : V} (hr : opV cf base h o xs = some (v, h')) (h2 : Hp) : opV cf base h2 o xs = some (v, h2) := by
  rw [opV_bare cf base hi] at hr ⊢
  cases ho : opV cf base [] o xs with
  | none => rw [ho] at hr; cases hr
  | some r =>
    rw [ho] at hr
    simp only [bare, Option.map_some, Option.some.injEq, Prod.mk.injEq] at hr ⊢
    exact ⟨hr.1, trivial⟩

theorem map_pair {α : Type} {o : Option α} {f : α → V} {h h' : Hp} {v : V} (hr : (o.map fun a => (f a, h)) = some (v, h')) : h' = h := by
  cases o with
  | none => cases hr
  | some a => simp only [Option.map_some, Option.some.injEq, Prod.mk.injEq] at hr; exact hr.2.symm

theorem k_fa {h h' : Hp} {t i : Nat} {x v : V} (hr : opFa h t i x = some (v, h')) : h' = h := by
  unfold opFa at hr
  split at hr
  · split at hr
    · split at hr
      · cases hr; rfl
      · cases hr
    · cases hr
  · split at hr
    · exact map_pair (f := fun v => .iptr v) hr
    · cases hr
  · cases hr
theorem k_iaa {h h' : Hp} {t : Nat} {x y v : V} (hr : opIaa h t x y = some (v, h')) : h' = h := by
  unfold opIaa at hr
  split at hr
  · split at hr
    · split at hr
      · split at hr
        · cases hr; rfl
        · cases hr
      · cases hr
    · split at hr
      · exact map_pair (f := fun v => .iptr v) hr
      · cases hr
    · cases hr
  · cases hr
theorem k_ias {h h' : Hp} {g : Option Nat} {x y v : V} (hr : opIas h g x y = some (v, h')) : h' = h := by
  unfold opIas at hr
  split at hr
  · split at hr
    · split at hr
      · split at hr
        · cases hr; rfl
        · cases hr
      · cases hr
    · split at hr
      · exact map_pair (f := fun v => .iptr v) hr
      · cases hr
    · cases hr
  · cases hr
theorem k_ld {h h' : Hp} {g : Option Nat} {x v : V} (hr : opLd h g x = some (v, h')) : h' = h := by
  unfold opLd at hr
  split at hr
  · split at hr
    · split at hr
      · cases hr; rfl
      · cases hr
    · cases hr
  · split at hr
    · cases hr; rfl
    · cases hr
  · cases hr
theorem k_slc {h h' : Hp} {g : Option Nat} {lo hi mx : Bool} {x v : V} {bs : List V} (hr : opSlc h g lo hi mx x bs = some (v, h')) : h' = h := by
  unfold opSlc at hr
  split at hr
  case h_2 => cases hr
  split at hr
  · split at hr
    case h_2 => cases hr
    split at hr
    · exact map_pair (f := id) hr
    · cases hr
  · split at hr
    · exact map_pair (f := id) hr
    · cases hr
  · split at hr
    · exact map_pair (f := id) hr
    · cases hr
  · cases hr
theorem k_sla {h h' : Hp} {t : Nat} {g : Option Nat} {lo hi : Bool} {x v : V} {bs : List V} (hr : opSla h t g lo hi x bs = some (v, h')) : h' = h := by
  unfold opSla at hr
  split at hr
  case h_2 => cases hr
  split at hr
  · split at hr
    · split at hr
      · split at hr
        · split at hr
          · split at hr <;> (cases hr; rfl)
          · cases hr
        · cases hr
      · cases hr
    · cases hr
  · split at hr
    · split at hr
      · split at hr
        · cases hr; rfl
        · cases hr
      · cases hr
    · cases hr
  · cases hr
theorem k_b2s {h h' : Hp} {x v : V} (hr : opB2s h x = some (v, h')) : h' = h := by
  unfold opB2s at hr
  obtain ⟨r, _, hr⟩ := Option.bind_eq_some_iff.1 hr
  obtain ⟨l, _, hr⟩ := Option.bind_eq_some_iff.1 hr
  cases hr; rfl
theorem k_r2s {one : Bool} {h h' : Hp} {x v : V} (hr : opR2s h one x = some (v, h')) : h' = h := by
  unfold opR2s at hr
  split at hr
  · split at hr
    · cases hr; rfl
    · cases hr
  · obtain ⟨r, _, hr⟩ := Option.bind_eq_some_iff.1 hr
    obtain ⟨l, _, hr⟩ := Option.bind_eq_some_iff.1 hr
    cases hr; rfl

theorem putParts_length : ∀ {ps : List (Nat × V)} {es es' : List V}, putParts es ps = some es' → es'.length = es.length
  | [], es, es', h => by simp only [putParts, Option.some.injEq] at h; subst h; rfl
  | (i, y) :: ps, es, es', h => by
    simp only [putParts] at h
    split at h
    · split at h
      · rw [putParts_length h, List.length_set]
      · cases h
    · cases h
theorem k_bsl {h h' : Hp} {g : Option Nat} {p : List Nat} {xs : List V} {v : V} (hr : opBsl h g [] p xs = some (v, h')) : h' = h := by
  unfold opBsl at hr
  split at hr
  · split at hr
    · rename_i es he
      have := putParts_length he
      have : es = [] := by simpa using this
      subst this
      simp only [List.isEmpty_nil, if_true, Option.some.injEq, Prod.mk.injEq] at hr
      exact hr.2.symm
    · cases hr
  · cases hr

/-- What is no effect leaves the heap alone. -/
theorem k_lku {h h' : Hp} {kc : Option (Nat × IntKind)} {ok : Bool} {z x y v : V} (hr : opLku h kc ok z x y = some (v, h')) : h' = h := by
  unfold opLku at hr
  split at hr
  · split at hr
    · exact map_pair (f := lkuV ok z) hr
    · cases hr
  · cases hr
theorem k_mln {h h' : Hp} {x v : V} (hr : opMln h x = some (v, h')) : h' = h := by
  unfold opMln at hr
  split at hr
  · split at hr
    · cases hr; rfl
    · cases hr
  · cases hr
theorem opV_quiet {cf : Nat → List V → Hp → Option (V × Hp)} {base : Nat} {o : O} (he : o.eff = false) {xs : List V} {h h' : Hp} {v : V} (hr : opV cf base h o xs = some (v, h')) : h' = h := by
  by_cases hi : o.indep = true
  · have := opV_indep hi hr h
    rw [hr] at this
    cases this; rfl
  cases o <;> simp only [O.indep, not_true_eq_false, Bool.not_eq_true, Bool.false_eq_true, not_false_eq_true] at hi <;> simp only [O.eff] at he <;> try (cases he; done)
  case s2b lit => subst hi; simp at he
  case callp f =>
    simp only [opV, callR] at hr
    split at hr
    · split at hr
      · cases hr; rfl
      · cases hr
    · cases hr
  case bad => simp [opV] at hr
  case bsl g z p =>
    have : z = [] := by simpa using he
    subst this
    exact k_bsl hr
  case fa t i => match xs, hr with
    | [x], hr => exact k_fa hr
    | [], hr => cases hr
    | _ :: _ :: _, hr => cases hr
  case iaa t => match xs, hr with
    | [x, y], hr => exact k_iaa hr
    | [], hr => cases hr
    | [_], hr => cases hr
    | _ :: _ :: _ :: _, hr => cases hr
  case ias t => match xs, hr with
    | [x, y], hr => exact k_ias hr
    | [], hr => cases hr
    | [_], hr => cases hr
    | _ :: _ :: _ :: _, hr => cases hr
  case ld g => match xs, hr with
    | [x], hr => exact k_ld hr
    | [], hr => cases hr
    | _ :: _ :: _, hr => cases hr
  case slc g a b c => match xs, hr with
    | x :: bs, hr => exact k_slc hr
    | [], hr => cases hr
  case sla t g a b => match xs, hr with
    | x :: bs, hr => exact k_sla hr
    | [], hr => cases hr
  case lku kc ok z => match xs, hr with
    | [x, y], hr => exact k_lku hr
    | [], hr => cases hr
    | [_], hr => cases hr
    | _ :: _ :: _ :: _, hr => cases hr
  case mln => match xs, hr with
    | [x], hr => exact k_mln hr
    | [], hr => cases hr
    | _ :: _ :: _, hr => cases hr
  case b2s => match xs, hr with
    | [x], hr => exact k_b2s hr
    | [], hr => cases hr
    | _ :: _ :: _, hr => cases hr
  case r2s => match xs, hr with
    | [x], hr => exact k_r2s hr
    | [], hr => cases hr
    | _ :: _ :: _, hr => cases hr

theorem stepG_quiet {cf : Nat → List V → Hp → Option (V × Hp)} {base : Nat} {g : G} (he : g.op.eff = false) {fr : Fr} {h h' : Hp} {v : V} (hr : stepG cf base fr h g = some (v, h')) : h' = h := by
  unfold stepG at hr
  split at hr
  · exact opV_quiet he hr
  · cases hr; rfl
  · cases hr

theorem stepG_indep {cf : Nat → List V → Hp → Option (V × Hp)} {base : Nat} {g : G} (hi : g.op.indep = true) {fr : Fr} {h h' : Hp} {v : V} (hr : stepG cf base fr h g = some (v, h')) (h2 : Hp) : stepG cf base fr h2 g = some (v, h2) := by
  unfold stepG at hr ⊢
  split at hr
  · exact opV_indep hi hr h2
  · cases hr; rfl
  · cases hr
end Go.Vm
/- Regions whose order is open, in which variables are laid out early and filled late: each order ends as the text's does. -/
namespace Go.Vm
set_option linter.unusedVariables false
set_option linter.unusedSimpArgs false
set_option linter.unusedSectionVars false
variable {P : Program} {obj : Nat → Bool}

/-- A variable that one operation of a region lays out and another fills: the two, the slot, the type. -/
structure Pair where
  i : Nat
  j : Nat
  t : Nat
  T : Nat
  deriving DecidableEq

/-- What an operation is where the order is open. -/
def softO (obj : Nat → Bool) : O → O
  | .call f => if obj (1000000 + f) then .call f else .callp f
  | .bsl g z p => if obj 2000000 then .bsl g z p else .bsi g z p
  | o => o
def softG (obj : Nat → Bool) (g : G) : G := ⟨g.dst, softO obj g.op, g.xs, g.guard⟩

def cog2 (P : Program) (obj : Nat → Bool) (all : List Oper) (prs : List Pair) (n : Nat) (o : Oper) : Option G :=
  if prs.any (fun p => p.i == n) then some ⟨none, .nop, [], none⟩
  else match prs.find? (fun p => p.j == n), o.op with
    | some p, .store T _ x => (copX P T x).map fun X => ⟨some p.t, .fzp (tagOf P T), [X], none⟩
    | some _, _ => none
    | none, _ => (cog P obj all o).map (softG obj)
def cogs2 (P : Program) (obj : Nat → Bool) (all : List Oper) (prs : List Pair) : Nat → List Oper → Option (List G)
  | _, [] => some []
  | n, o :: os => match cog2 P obj all prs n o, cogs2 P obj all prs (n + 1) os with
    | some g, some gs => some (g :: gs)
    | _, _ => none

theorem cogs2_at {all : List Oper} {prs : List Pair} : ∀ {os : List Oper} {gs : List G} {n : Nat}, cogs2 P obj all prs n os = some gs → gs.length = os.length ∧ ∀ (j : Nat) (o : Oper) (g : G), os[j]? = some o → gs[j]? = some g → cog2 P obj all prs (n + j) o = some g
  | [], gs, n, h => by
    simp only [cogs2, Option.some.injEq] at h
    subst h
    exact ⟨rfl, fun j o g ho => by simp at ho⟩
  | o :: os, gs, n, h => by
    simp only [cogs2] at h
    split at h
    case h_2 => cases h
    rename_i g gs' hg hgs
    simp only [Option.some.injEq] at h
    subst h
    obtain ⟨h1, h2⟩ := cogs2_at hgs
    refine ⟨by simp [h1], fun j o' g' ho hg' => ?_⟩
    cases j with
    | zero =>
      simp only [List.getElem?_cons_zero, Option.some.injEq] at ho hg'
      subst ho hg'
      exact hg
    | succ j =>
      have := h2 j o' g' (by simpa using ho) (by simpa using hg')
      rw [← this]; congr 1; omega

/-- A pair is one: it is laid out, then filled; whoever looks at it comes behind. -/
def pairB (P : Program) (obj : Nat → Bool) (all : List Oper) (gs : List G) (prs : List Pair) (p : Pair) : Bool :=
  (match all[p.i]? with
    | some o => (match o.op with | .alloc T => T == p.T | _ => false) && o.guard.isNone && o.dst == some p.t && (zeroOf P obj p.T).isSome && tgB P p.T
    | none => false) &&
  (match all[p.j]?, (pres [] all)[p.j]? with
    | some o, some q => (match o.op with | .store T (.tmp t) _ => T == p.T && t == p.t | _ => false) && o.guard.isNone && o.dst.isNone && q.testBit p.i
    | _, _ => false) &&
  ((List.range gs.length).all fun k => match gs[k]?, (pres [] all)[k]? with
    | some g, some q => !g.reads.contains p.t || q.testBit p.j
    | _, _ => true) &&
  prs.all fun q => (q.t != p.t && q.i != p.i && q.j != p.j) || decide (q = p)

structure PairOK (P : Program) (obj : Nat → Bool) (all : List Oper) (gs : List G) (prs : List Pair) (p : Pair) : Prop where
  lay : ∃ o, all[p.i]? = some o ∧ o.op = .alloc p.T ∧ o.guard = none ∧ o.dst = some p.t
  zero : ∃ z, zeroOf P obj p.T = some z
  tg : tgB P p.T = true
  fill : ∃ o x q, all[p.j]? = some o ∧ o.op = .store p.T (.tmp p.t) x ∧ o.guard = none ∧ o.dst = none ∧ (pres [] all)[p.j]? = some q ∧ q.testBit p.i = true
  look : ∀ (k : Nat) (g : G) (q : Nat), gs[k]? = some g → (pres [] all)[k]? = some q → p.t ∈ g.reads → q.testBit p.j = true
  one : ∀ q ∈ prs, (q.t ≠ p.t ∧ q.i ≠ p.i ∧ q.j ≠ p.j) ∨ q = p

theorem pairB_ok {all : List Oper} {gs : List G} {prs : List Pair} {p : Pair} (h : pairB P obj all gs prs p = true) : PairOK P obj all gs prs p := by
  simp only [pairB, Bool.and_eq_true] at h
  obtain ⟨⟨⟨h1, h2⟩, h3⟩, h4⟩ := h
  split at h1
  case h_2 => cases h1
  rename_i o ho
  simp only [Bool.and_eq_true] at h1
  obtain ⟨⟨⟨⟨a1, a2⟩, a3⟩, a4⟩, a5⟩ := h1
  split at h2
  case h_2 => cases h2
  rename_i o' q ho' hq
  simp only [Bool.and_eq_true] at h2
  obtain ⟨⟨⟨b1, b2⟩, b3⟩, b4⟩ := h2
  constructor
  · refine ⟨o, ho, ?_, by simpa using a2, by simpa using a3⟩
    split at a1
    · rename_i T hT; rw [hT]; simp at a1; rw [a1]
    · cases a1
  · exact Option.isSome_iff_exists.1 a4
  · exact a5
  · split at b1
    · rename_i T t x hT
      simp only [Bool.and_eq_true, beq_iff_eq] at b1
      obtain ⟨rfl, rfl⟩ := b1
      exact ⟨o', x, q, ho', hT, by simpa using b2, by simpa using b3, hq, b4⟩
    · cases b1
  · intro k g q hg hq ht
    have := List.all_eq_true.1 h3 k (List.mem_range.2 (List.getElem?_eq_some_iff.1 hg).1)
    simp only [hg, hq, Bool.or_eq_true, Bool.not_eq_true', List.contains_eq_mem, decide_eq_false_iff_not] at this
    rcases this with h | h
    · exact absurd ht h
    · exact h
  · intro q hq
    have := List.all_eq_true.1 h4 q hq
    simp only [Bool.or_eq_true, Bool.and_eq_true, bne_iff_ne, ne_eq, decide_eq_true_eq] at this
    rcases this with ⟨⟨x, y⟩, z⟩ | h
    · exact .inl ⟨x, y, z⟩
    · exact .inr h
end Go.Vm
/- Regions whose order is open, with variables that are laid out early: the proof that each order ends as the text's does. -/
namespace Go.Vm
set_option linter.unusedVariables false
set_option linter.unusedSimpArgs false
set_option linter.unusedSectionVars false
variable {P : Program} {obj : Nat → Bool} {c : Ctx} {h : Hp} {w : World}

theorem RVl.monov {L : Lay} {c' : Ctx} (hle : c.lev c') : ∀ {vs : List V} {us : List Value}, RVl L c vs us → RVl L c' vs us
  | [], [], _ => trivial
  | _ :: _, _ :: _, h => ⟨h.1.monov hle, RVl.monov hle h.2⟩
  | [], _ :: _, h => h.elim
  | _ :: _, [], h => h.elim

theorem callR_some {r : Option (V × Hp)} {h h' : Hp} {v : V} (e : callR r h = some (v, h')) : r = some (v, h') ∧ h' = h := by
  unfold callR at e
  split at e
  · split at e
    · rename_i hh
      simp only [Option.some.injEq, Prod.mk.injEq] at e
      obtain ⟨rfl, rfl⟩ := e
      exact ⟨by rw [hh], rfl⟩
    · cases e
  · cases e

section
variable (hL : (layOf P).OK) {cf : Nat → List V → Hp → Option (V × Hp)} {base : Nat} (hcf : CalleesOK P (layOf P) cf)
include hL hcf

theorem sound_soft {o : Oper} {g : O} {xs : List X} {fr : Fr} {a : Act} {v : V} {h' : Hp} (hf : RF (layOf P) c fr a) (hs : Sim (layOf P) c h w) (hc : cop P obj o.type o.op = some (g, xs)) (hop : opV cf base h (softO obj g) (xs.map (X.ev fr)) = some (v, h')) :
    OpRes P (layOf P) c w ((execOp a.eval o).run P w) v h' := by
  by_cases hcall : ∃ f, g = .call f
  · obtain ⟨f, rfl⟩ := hcall
    simp only [softO] at hop
    split at hop
    · exact sound hL hcf hf hs hc hop
    · simp only [opV] at hop
      exact sound (base := base) hL hcf hf hs hc (callR_some hop).1
  · by_cases hb : ∃ gg z p, g = .bsl gg z p
    · obtain ⟨gg, z, pl, rfl⟩ := hb
      simp only [softO] at hop
      split at hop
      · exact sound hL hcf hf hs hc hop
      · obtain ⟨dst, op, ty, pos, after, guard⟩ := o
        simp only at hc ⊢
        cases op <;> simp only [cop] at hc
        case buildSlice t n parts =>
          split at hc
          case h_2 => cases hc
          rename_i el hu
          split at hc
          case h_2 => cases hc
          rename_i z hz
          split at hc
          case isFalse => cases hc
          rename_i hcond
          obtain ⟨htg, hpos, hn⟩ := hcond
          obtain ⟨ys, hy, he⟩ := Option.map_eq_some_iff.1 hc
          simp only [Prod.mk.injEq] at he
          obtain ⟨he, rfl⟩ := he
          obtain ⟨rfl, rfl, rfl⟩ := bslO_bsl he
          have hv := copXs_RV hf hy
          rw [List.map_map] at hv
          simp only [opV] at hop
          obtain ⟨hz0, hzg, hzs⟩ := zeroOf_OK hz
          have := does_res (P := P) (do_bsi (P := P) (T := t) hL hs hu (tgB_TG htg) hpos hz0 hzg hzs hn (us := parts.toList.map fun p => a.eval p.2) (by simpa using hv.length) hv.get hop)
          rw [← parts_eq] at this
          simpa only [execOp, Sem.run_bind, Sem.run_pure] using this
        all_goals (exfalso; revert hc; repeat' split)
        all_goals first | (simp [Option.map_eq_some_iff, Option.bind_eq_some_iff, appO_bsl]; done) | (intro hc; simp_all; done)
    · have : softO obj g = g := by
        cases g <;> first
          | rfl
          | exact absurd ⟨_, rfl⟩ hcall
          | exact absurd ⟨_, _, _, rfl⟩ hb
      rw [this] at hop
      exact sound hL hcf hf hs hc hop

/-- One operation, as it is where the order is open. -/
theorem step_soft {ops : List Oper} {o : Oper} {g : G} (hg : cog P obj ops o = some g) {fr : Fr} {a : Act} (hf : RF (layOf P) c fr a) (hs : Sim (layOf P) c h w) {v : V} {h' : Hp} (hst : Vm.stepG cf base fr h (softG obj g) = some (v, h'))
    {K : Act → World → Prop} {Q : Exit → Act → World → Prop}
    (hK : ∀ u c' w', RV (layOf P) c' v u → Sim (layOf P) c' h' w' → c.le c' → St w w' → K (a.put o.dst u) w') :
    if Region.wanted o (yielded ops.toArray a.tmps) then o.wp P a w K Q ∨ (o.asks P a w ∧ LetsOut Q) else K (a.put o.dst undef) w := by
  unfold Vm.stepG at hst
  have hwant : want fr (softG obj g) = want fr g := rfl
  rw [hwant] at hst
  split at hst
  · rename_i hw
    rw [want_wanted hg hf hw, if_pos rfl]
    obtain ⟨hc, hd, _⟩ := cog_some hg
    left
    unfold Oper.wp
    rcases sound_soft hL hcf hf hs hc hst with ⟨u, c', w', hr, hv, hs', hle, hst'⟩ | ⟨f, us, hr, hcall⟩
    · rcases hr with hr | ⟨hr, rfl⟩
      · rw [hr]; exact hK u c' w' hv hs' hle hst'
      · rw [hr]; exact hK undef c' w' hv hs' hle hst'
    · rw [hr]
      refine Calls.mono hcall fun e w' he => ?_
      obtain ⟨u, c', rfl, hv, hs', hle, hst'⟩ := he
      exact hK u c' w' hv hs' hle hst'
  · rename_i hw
    simp only [Option.some.injEq, Prod.mk.injEq] at hst
    obtain ⟨rfl, rfl⟩ := hst
    rw [want_wanted hg hf hw]
    exact hK undef c w (RV_tup.2 ⟨[], rfl, trivial⟩) hs (Ctx.le_refl c) (St.refl w)
  · cases hst

/-- A variable is laid out, and held back. -/
theorem lay_step {o : Oper} {T t : Nat} (ho : o.op = .alloc T) (hd : o.dst = some t) {z : V} (hz : zeroOf P obj T = some z) {a : Act} (hs : Sim (layOf P) c h w) {K : Act → World → Prop} {Q : Exit → Act → World → Prop}
    (hK : ∀ cs : Array Value, cs.size = (layOf P).csz (tagOf P T) → Sim (layOf P) (c.zpush w.heap.size (heldO cs T)) h (w.alloc (.cells cs T)) → K (a.put (some t) (.pointer (some ⟨w.heap.size, 0, none⟩))) (w.alloc (.cells cs T))) :
    o.wp P a w K Q := by
  obtain ⟨⟨i, zv, h1, h2, h3⟩, hzt, hzs⟩ := zeroOf_OK hz
  have hlen := (h3 c).solid_cells_length hL hzs
  have hrun : (Instr.alloc T true (.tuple #[])).run P w = .ok (.pointer (some ⟨w.heap.size, 0, none⟩)) (w.alloc (.cells zv.cells T)) := by
    have e : (Instr.alloc T true (.tuple #[])).run P w = (Instr.box T zv).run P w := by
      simp [Instr.alloc, Instr.box, zeroValue, typeInfo, h1, h2]
    rw [e]; simp [Instr.box, newVar, newRow]
  unfold Oper.wp
  have hex : (execOp a.eval o).run P w = .ok (.value (.pointer (some ⟨w.heap.size, 0, none⟩))) (w.alloc (.cells zv.cells T)) := by
    obtain ⟨dst, op, ty, pos, after, guard⟩ := o
    simp only at ho
    subst ho
    simp only [execOp, Sem.run_bind, hrun, Result.andThen_ok, Sem.run_pure]
  rw [hex, Oper.upon_value, hd]
  exact hK zv.cells (by rw [← hzt]; simpa using hlen) (hs.zpushR _ _ (real_held _ _))

/-- It is filled. -/
theorem fill_step {o : Oper} {T t : Nat} {x : Operand} (ho : o.op = .store T (.tmp t) x) (hd : o.dst = none) (htg : tgB P T = true) {X0 : X} (hx : copX P T x = some X0) {fr : Fr} {a : Act} (hf : RF (layOf P) c fr a) (hs : Sim (layOf P) c h w)
    {b : Nat} (ht : a.tmps[t]? = some (.pointer (some ⟨b, 0, none⟩))) {cs : Array Value} (hb : c.z b = some (heldO cs T)) (hcs : cs.size = (layOf P).csz (tagOf P T)) {v : V} {h' : Hp} (hop : opFzp h (tagOf P T) (X0.ev fr) = some (v, h'))
    {K : Act → World → Prop} {Q : Exit → Act → World → Prop}
    (hK : ∀ cs' w', h' = h → Sim (layOf P) (c.zpush b (.cells cs' T (0, 0))) h w' → RV (layOf P) (c.zpush b (.cells cs' T (0, 0))) v (.pointer (some ⟨b, 0, none⟩)) → St w w' → K a w') :
    o.wp P a w K Q := by
  have hv := copX_RV hf hx
  generalize X0.ev fr = y at hv hop
  unfold opFzp at hop
  split at hop
  case isFalse => cases hop
  rename_i hc
  obtain ⟨hty, hsol⟩ := hc
  simp only [Option.some.injEq, Prod.mk.injEq] at hop
  obtain ⟨rfl, rfl⟩ := hop
  have hg : w.heap[b]? = some (.cells cs T (0, 0)) := by have := hs.z b _ hb; rwa [real_held] at this
  have hlen := hv.solid_cells_length hL hsol
  have hrun := run_storeVar_at (P := P) (w := w) (o := 0) hL (ty := T) (by rw [hty]; exact tgB_TG htg) hsol hv hg (by intro j hj; omega) (by rw [hty, ← hcs]; omega)
  have hheap := heap_setCells b T (0, 0) (a.eval x).cells.toList 0 cs w hg (by rw [hlen, hty, ← hcs]; omega)
  have hlay : (lay cs.toList 0 (a.eval x).cells.toList) = (a.eval x).cells.toList := by
    simp only [lay, List.take_zero, List.nil_append, Nat.zero_add]
    rw [List.drop_of_length_le (by rw [hlen, hty, ← hcs]; simp), List.append_nil]
  rw [hlay] at hheap
  have hex : (execOp a.eval o).run P w = .ok .skip (w.setCells b 0 (a.eval x).cells.toList) := by
    obtain ⟨dst, op, ty, pos, after, guard⟩ := o
    simp only at ho
    subst ho
    have e1 : a.eval (.tmp t) = .pointer (some ⟨b, 0, none⟩) := by simp [Act.eval, Array.getD_eq_getD_getElem?, ht]
    have e2 : (Instr.storeAt T (a.eval (.tmp t)) (a.eval x)).run P w = .ok () (w.setCells b 0 (a.eval x).cells.toList) := by
      rw [e1]; simpa [Instr.storeAt, Instr.sureAddr] using hrun
    simp [execOp, e2]
  unfold Oper.wp
  rw [hex, Oper.upon_skip, hd]
  have hnz : ∀ cs' ty fz, c.z b ≠ some (.cells cs' ty fz) := by rw [hb]; intro _ _ _ h; cases h
  refine hK _ _ rfl (hs.fill hb (fun k hk => heap_setCells_other b _ _ _ k hk) hheap) (RV_iptr.2 ⟨b, 0, (a.eval x).cells.toList.toArray, T, (0, 0), rfl, by simp [Ctx.zpush], ?_⟩) (St.setCells _ _ _ _)
  have h1 := ((hv.cells hsol).1).monov (c.lev_zpush b (.cells (a.eval x).cells.toList.toArray T (0, 0)) hnz)
  simp only [seg, List.drop_zero, List.toList_toArray]
  rw [List.take_of_length_le (by rw [hlen]; exact Nat.le_refl _)]
  exact h1
end
end Go.Vm
/- Regions whose order is open, with variables that are laid out early: each order ends as the text's does. -/
namespace Go.Vm
set_option linter.unusedVariables false
set_option linter.unusedSimpArgs false
set_option linter.unusedSectionVars false
variable {P : Program} {obj : Nat → Bool}

/-- It is laid out, not yet filled. -/
def openP (S : Nat → Prop) (p : Pair) : Prop := S p.i ∧ ¬ S p.j

/-- The frame while some are open: what is in their slots; the blocks that are held back. -/
structure Held (P : Program) (prs : List Pair) (c0 c : Ctx) (frc : Fr) (a : Act) (S : Nat → Prop) (frm : Fr) (B : Nat → Nat) : Prop where
  len : frm.length = frc.length
  same : ∀ t, (∀ p ∈ prs, p.t = t → ¬ openP S p) → frm[t]? = frc[t]?
  rf : RF (layOf P) c frm a
  at_ : ∀ p ∈ prs, openP S p → a.tmps[p.t]? = some (.pointer (some ⟨B p.i, 0, none⟩)) ∧ c0.z (B p.i) = none ∧ ∃ cs : Array Value, c.z (B p.i) = some (heldO cs p.T) ∧ cs.size = (layOf P).csz (tagOf P p.T)
  inj : ∀ p ∈ prs, ∀ q ∈ prs, openP S p → openP S q → B p.i = B q.i → p = q

theorem Ctx.le.zpush {c0 c : Ctx} (h : c0.le c) {b : Nat} (hb : c0.z b = none) (o : Obj) : c0.le (c.zpush b o) where
  z i x hi := by
    simp only [Ctx.zpush]
    by_cases e : i = b
    · rw [e, hb] at hi; cases hi
    · rw [if_neg e]; exact h.z i x hi
  n := h.n
  loc := h.loc

theorem set_self {α : Type} : ∀ {l : List α} {i : Nat} {x : α}, l[i]? = some x → l.set i x = l
  | [], i, x, h => rfl
  | y :: l, 0, x, h => by simp at h; simp [h]
  | y :: l, i + 1, x, h => by simp only [List.set_cons_succ]; rw [set_self (by simpa using h)]

section
variable {all : List Oper} {ds : List GD} {prs : List Pair} (hc : cogs2 P obj all prs 0 all = some (ds.map (·.g))) (hprs : ∀ p ∈ prs, PairOK P obj all (ds.map (·.g)) prs p)
include hc hprs

theorem cog2_i {p : Pair} (hp : p ∈ prs) {d : GD} (hd : ds[p.i]? = some d) : d.g = ⟨none, .nop, [], none⟩ := by
  obtain ⟨o, ho, _⟩ := (hprs p hp).lay
  have := (cogs2_at hc).2 p.i o d.g ho (by rw [List.getElem?_map, hd]; rfl)
  rw [Nat.zero_add] at this
  unfold cog2 at this
  rw [if_pos (List.any_eq_true.2 ⟨p, hp, by simp⟩)] at this
  exact (Option.some.inj this).symm

theorem cog2_j {p : Pair} (hp : p ∈ prs) {d : GD} (hd : ds[p.j]? = some d) : ∃ o x X0, all[p.j]? = some o ∧ o.op = .store p.T (.tmp p.t) x ∧ o.guard = none ∧ o.dst = none ∧ copX P p.T x = some X0 ∧ d.g = ⟨some p.t, .fzp (tagOf P p.T), [X0], none⟩ := by
  obtain ⟨o, x, q, ho, hop, hg, hdst, _⟩ := (hprs p hp).fill
  have := (cogs2_at hc).2 p.j o d.g ho (by rw [List.getElem?_map, hd]; rfl)
  rw [Nat.zero_add] at this
  unfold cog2 at this
  split at this
  · rename_i h
    obtain ⟨p', hp', e⟩ := List.any_eq_true.1 h
    simp only [beq_iff_eq] at e
    obtain ⟨o', ho', hop', _⟩ := (hprs p' hp').lay
    rw [e, ho] at ho'; cases ho'
    rw [hop] at hop'; cases hop'
  · have hf : prs.find? (fun q => q.j == p.j) = some p := by
      cases hq : prs.find? (fun q => q.j == p.j) with
      | none => exact absurd (List.find?_eq_none.1 hq p hp) (by simp)
      | some q =>
        have h1 := List.mem_of_find?_eq_some hq
        have h2 := List.find?_some hq
        simp only [beq_iff_eq] at h2
        rcases (hprs p hp).one q h1 with ⟨_, _, h⟩ | h
        · exact absurd h2 h
        · rw [h]
    rw [hf, hop] at this
    simp only at this
    obtain ⟨X0, h1, h2⟩ := Option.map_eq_some_iff.1 this
    exact ⟨o, x, X0, ho, hop, hg, hdst, h1, h2.symm⟩

/-- What an operation is. -/
theorem cog2_cases {i : Nat} {o : Oper} {d : GD} (ho : all[i]? = some o) (hd : ds[i]? = some d) : (∃ p ∈ prs, p.i = i) ∨ (∃ p ∈ prs, p.j = i) ∨
    ((∀ p ∈ prs, p.i ≠ i ∧ p.j ≠ i) ∧ ∃ g, cog P obj all o = some g ∧ d.g = softG obj g) := by
  by_cases h1 : ∃ p ∈ prs, p.i = i
  · exact .inl h1
  by_cases h2 : ∃ p ∈ prs, p.j = i
  · exact .inr (.inl h2)
  refine .inr (.inr ⟨fun p hp => ⟨fun e => h1 ⟨p, hp, e⟩, fun e => h2 ⟨p, hp, e⟩⟩, ?_⟩)
  have := (cogs2_at hc).2 i o d.g ho (by rw [List.getElem?_map, hd]; rfl)
  rw [Nat.zero_add] at this
  unfold cog2 at this
  rw [if_neg (fun h => by
    obtain ⟨p, hp, e⟩ := List.any_eq_true.1 h
    exact h1 ⟨p, hp, by simpa using e⟩)] at this
  have hf : prs.find? (fun q => q.j == i) = none := List.find?_eq_none.2 fun p hp e => h2 ⟨p, hp, by simpa using e⟩
  rw [hf] at this
  simp only at this
  obtain ⟨g, e1, e2⟩ := Option.map_eq_some_iff.1 this
  exact ⟨g, e1, e2.symm⟩
end
end Go.Vm
/- Regions whose order is open, with variables that are laid out early: the proof. -/
namespace Go.Vm
set_option linter.unusedVariables false
set_option linter.unusedSimpArgs false
set_option linter.unusedSectionVars false
variable {P : Program} {obj : Nat → Bool}
section
variable (hL : (layOf P).OK) {cf : Nat → List V → Hp → Option (V × Hp)} {base : Nat} (hcf : CalleesOK P (layOf P) cf)
include hL hcf

theorem any_sound2 {all : List Oper} {ds : List GD} {prs : List Pair} (hc : cogs2 P obj all prs 0 all = some (ds.map (·.g))) (hprs : ∀ p ∈ prs, PairOK P obj all (ds.map (·.g)) prs p) (hok : okRows all ds = true) {fr0 fr' : Fr} {h0 h' : Hp} {vals : Nat → V} {frs : Nat → Fr} {hs : List Hp}
    (tr : Tr cf base ds fr0 h0 fr' h' vals frs hs)
    (hquiet : ∀ (j : Nat) (d : GD), ds[j]? = some d → d.eff = false → ∀ (m : Nat) (hp : Hp), d.lo ≤ m → m ≤ d.hi → hs[m]? = some hp → stepG cf base (frs j) hp d.g = some (vals j, hp))
    (hinb : inB fr0.length ds) {c0 : Ctx} {a0 : Act} {w0 : World} {Q : Exit → Act → World → Prop} (hE : Ends P c0 w0 a0 fr' h' (Q .normal)) :
    ∀ (fuel : Nat) (listed : Array Bool) (a : Act) (w : World) (c : Ctx) (m : Nat) (frc : Fr) (hp : Hp) (frm : Fr) (B : Nat → Nat), listed.size = all.length → listed.toList.count true + fuel = all.length → Clo all (listedS listed) → Cur ds fr0 vals (listedS listed) frc →
      Held P prs c0 c frc a (listedS listed) frm B → hs[m]? = some hp → Sim (layOf P) c hp w → (∀ (k : Nat) (d : GD), ds[k]? = some d → d.eff = true → (listedS listed k ↔ cnt ds k < m)) → c0.le c → St w0 w → a.defers = a0.defers →
      wpAny P .any all.toArray Q fuel listed a w := by
  have hu := okRows_uniq hok
  obtain ⟨hlen, hlo, hback⟩ := okRows_total hok
  obtain ⟨hglen, hcog⟩ := cogs2_at hc
  have hpi := fun (p : Pair) (hp : p ∈ prs) (d : GD) (hd : ds[p.i]? = some d) => cog2_i (p := p) hc hprs hp hd
  have hpj := fun (p : Pair) (hp : p ∈ prs) (d : GD) (hd : ds[p.j]? = some d) => cog2_j (p := p) hc hprs hp hd
  -- when all are listed, this is the end
  have fin : ∀ (listed : Array Bool) (a : Act) (w : World) (c : Ctx) (m : Nat) (frc : Fr) (hp : Hp) (frm : Fr) (B : Nat → Nat), (∀ j, j < all.length → listedS listed j) → Cur ds fr0 vals (listedS listed) frc →
      Held P prs c0 c frc a (listedS listed) frm B → hs[m]? = some hp → Sim (layOf P) c hp w → (∀ (k : Nat) (d : GD), ds[k]? = some d → d.eff = true → (listedS listed k ↔ cnt ds k < m)) → c0.le c → St w0 w → a.defers = a0.defers → Q .normal a w := by
    intro listed a w c m frc hp frm B hall hcur hf hm hsim heff hle hst hdef
    have e1 : frc = fr' := by
      have h1 := tr.cur hu ds.length (Nat.le_refl _)
      rw [tr.lst] at h1
      apply List.ext_getElem?
      intro t
      refine hcur.same h1 t fun k d hd _ => ?_
      have hk : k < ds.length := (List.getElem?_eq_some_iff.1 hd).1
      exact ⟨fun _ => hk, fun _ => hall k (by omega)⟩
    have e2 : m = cnt ds ds.length := by
      have h1 : m < hs.length := (List.getElem?_eq_some_iff.1 hm).1
      rw [tr.len] at h1
      rcases Nat.lt_or_ge m (cnt ds ds.length) with h2 | h2
      · obtain ⟨k, d, h3, h4, h5, h6⟩ := cnt_hit ds h2
        have := (heff k d h4 h5).1 (hall k (by omega))
        omega
      · omega
    have e3 : hp = h' := by
      rw [e2, tr.hlst] at hm
      exact (Option.some.inj hm).symm
    have e4 : frm = frc := by
      apply List.ext_getElem?
      intro t
      refine hf.same t fun p hp _ ho => ho.2 (hall p.j ?_)
      obtain ⟨o, _, _, ho, _⟩ := (hprs p hp).fill
      exact (List.getElem?_eq_some_iff.1 ho).1
    subst e1 e3
    rw [e4] at hf
    exact hE a c w hf.rf hsim hle hst hdef
  -- one that is ready
  have stp : ∀ (fuel : Nat), (∀ (listed : Array Bool) (a : Act) (w : World) (c : Ctx) (m : Nat) (frc : Fr) (hp : Hp) (frm : Fr) (B : Nat → Nat), listed.size = all.length → listed.toList.count true + fuel = all.length → Clo all (listedS listed) → Cur ds fr0 vals (listedS listed) frc →
      Held P prs c0 c frc a (listedS listed) frm B → hs[m]? = some hp → Sim (layOf P) c hp w → (∀ (k : Nat) (d : GD), ds[k]? = some d → d.eff = true → (listedS listed k ↔ cnt ds k < m)) → c0.le c → St w0 w → a.defers = a0.defers →
      wpAny P .any all.toArray Q fuel listed a w) →
    ∀ (listed : Array Bool) (a : Act) (w : World) (c : Ctx) (m : Nat) (frc : Fr) (hp : Hp) (frm : Fr) (B : Nat → Nat), listed.size = all.length → listed.toList.count true + (fuel + 1) = all.length → Clo all (listedS listed) → Cur ds fr0 vals (listedS listed) frc →
      Held P prs c0 c frc a (listedS listed) frm B → hs[m]? = some hp → Sim (layOf P) c hp w → (∀ (k : Nat) (d : GD), ds[k]? = some d → d.eff = true → (listedS listed k ↔ cnt ds k < m)) → c0.le c → St w0 w → a.defers = a0.defers →
      ∀ i ∈ Region.ready .any all.toArray listed, wpOp P all.toArray Q i (wpAny P .any all.toArray Q fuel (listed.setIfInBounds i true)) a w := by
    intro fuel ih listed a w c m frc hp frm B hsz hcount hclo hcur hf hm hsim heff hle hst hdef i hi
    obtain ⟨hnl, o, ho, hafter⟩ := mem_ready.1 hi
    rw [List.getElem?_toArray] at ho
    have hil : i < all.length := (List.getElem?_eq_some_iff.1 ho).1
    have hni : ¬ listedS listed i := by
      unfold listedS
      have : i < listed.size := by omega
      simp only [Array.getD_eq_getD_getElem?, Array.getElem?_eq_getElem this, Option.getD_some] at hnl ⊢
      simp [hnl]
    have hd : ds[i]? = some ds[i] := List.getElem?_eq_getElem (by omega)
    generalize ds[i]'(by omega) = d at hd
    have hpre : ∀ p, (pres [] all)[i]? = some p → ∀ k, p.testBit k = true → listedS listed k := pres_sound hclo i o ho (fun e he hb => hafter e he hb)
    have hpost : ∀ k q, (pres [] all)[k]? = some q → q.testBit i = true → ¬ listedS listed k := fun k q hq hb hk => by
      have hkl : k < all.length := by
        have := (List.getElem?_eq_some_iff.1 hq).1
        rw [pres_length] at this; simpa using this
      have hok' : all[k]? = some all[k] := List.getElem?_eq_getElem hkl
      exact hni (pres_sound hclo k _ hok' (fun e he hb => hclo k _ hok' hk e he hb) q hq i hb)
    -- it looks at what it looked at
    have hread : ∀ t ∈ d.g.reads, frc[t]? = (frs i)[t]? := fun t ht => by
      refine hcur.same (tr.cur hu i (by omega)) t fun k e he het => ?_
      by_cases hki : k = i
      · subst hki
        exact ⟨fun h => absurd h hni, fun h => absurd h (Nat.lt_irrefl _)⟩
      · obtain ⟨p, q, h1, h2, h3⟩ := okRows_reads hok hd he (fun h => hki h.symm) het ht
        split at h3
        · rename_i hlt
          exact ⟨fun _ => hlt, fun _ => hpre p h1 k h3⟩
        · rename_i hlt
          exact ⟨fun h => absurd h (hpost k q h2 h3), fun h => absurd h hlt⟩
    have hreadm : ∀ t ∈ d.g.reads, frm[t]? = (frs i)[t]? := fun t ht => by
      rw [← hread t ht]
      refine hf.same t fun p hp hpt hop => ?_
      subst hpt
      have hpl : i < (pres [] all).length := by rw [pres_length]; simpa using hil
      exact hop.2 (hpre _ (List.getElem?_eq_getElem hpl) p.j ((hprs p hp).look i d.g _ (by rw [List.getElem?_map, hd]; rfl) (List.getElem?_eq_getElem hpl) ht))
    -- what it gives
    have hgive : ∃ hq m', stepG cf base frm hp d.g = some (vals i, hq) ∧ hs[m']? = some hq ∧ (∀ (k : Nat) (e : GD), ds[k]? = some e → e.eff = true → (listedS (listed.setIfInBounds i true) k ↔ cnt ds k < m')) := by
      by_cases he : d.eff = true
      · obtain ⟨hp1, hq, h1, h2, h3⟩ := tr.eff i d hd he
        have hmi : cnt ds i = m := by
          have h4 : ¬ cnt ds i < m := fun h => hni ((heff i d hd he).2 h)
          rcases Nat.lt_or_ge m (cnt ds i) with h5 | h5
          · obtain ⟨k, e, h6, h7, h8, h9⟩ := cnt_hit ds h5
            obtain ⟨p, h10, h11⟩ := okRows_effs hok hd h7 he h8 h6
            have := (heff k e h7 h8).1 (hpre p h10 k h11)
            omega
          · omega
        rw [hmi, hm] at h1
        cases h1
        refine ⟨hq, m + 1, ?_, hmi ▸ h2, fun k e hke hee => ?_⟩
        · rw [stepG_congr hreadm]; exact h3
        · rw [listedS_set (by omega), heff k e hke hee]
          constructor
          · rintro (h | rfl)
            · omega
            · omega
          · intro h
            rcases Nat.lt_or_ge (cnt ds k) m with h5 | h5
            · exact Or.inl h5
            · right
              rcases Nat.lt_trichotomy k i with h6 | h6 | h6
              · have := cnt_lt hke hee h6; omega
              · exact h6
              · have := cnt_lt hd he h6; omega
      · have he' : d.eff = false := by simpa using he
        have hmlt : m < cnt ds ds.length + 1 := by
          have := (List.getElem?_eq_some_iff.1 hm).1
          rw [tr.len] at this; exact this
        have hlom : d.lo ≤ m := by
          rcases Nat.lt_or_ge m d.lo with h5 | h5
          · have h6 := hlo d (List.mem_of_getElem? hd)
            obtain ⟨k, e, h7, h8, h9, h10⟩ := cnt_hit ds (show m < cnt ds ds.length by omega)
            obtain ⟨p, q, h11, h12, h13, h14⟩ := okRows_lo hok hd h8 he' h9
            have := (heff k e h8 h9).1 (hpre p h11 k (h13 (by omega)))
            omega
          · exact h5
        have hhim : m ≤ d.hi := by
          rcases Nat.lt_or_ge d.hi m with h5 | h5
          · obtain ⟨k, e, h7, h8, h9, h10⟩ := cnt_hit ds (show d.hi < cnt ds ds.length by omega)
            obtain ⟨p, q, h11, h12, h13, h14⟩ := okRows_lo hok hd h8 he' h9
            exact absurd ((heff k e h8 h9).2 (by omega)) (hpost k q h12 (h14 (by omega)))
          · exact h5
        refine ⟨hp, m, ?_, hm, fun k e hke hee => ?_⟩
        · rw [stepG_congr hreadm]; exact hquiet i d hd he' m hp hlom hhim hm
        · rw [listedS_set (by omega), heff k e hke hee]
          constructor
          · rintro (h | rfl)
            · exact h
            · rw [hd] at hke; cases hke; rw [he'] at hee; cases hee
          · exact Or.inl
    obtain ⟨hq, m', h1, h2, h3⟩ := hgive
    have hcnt : (listed.setIfInBounds i true).toList.count true + fuel = all.length := by
      have hget : listed.toList[i]? = some false := by
        have : i < listed.size := by omega
        rw [Array.getElem?_toList, Array.getElem?_eq_getElem this]
        simp only [listedS, Array.getD_eq_getD_getElem?, Array.getElem?_eq_getElem this, Option.getD_some, Bool.not_eq_true] at hni
        rw [hni]
      have hlt : i < listed.toList.length := (List.getElem?_eq_some_iff.1 hget).1
      have hge : listed.toList[i] = false := by simpa [List.getElem?_eq_getElem hlt] using hget
      rw [Array.toList_setIfInBounds, List.count_set hlt, hge]
      show List.count true listed.toList - 0 + 1 + fuel = all.length
      omega
    have hclo' : Clo all (listedS (listed.setIfInBounds i true)) := by
      intro j o' ho' hj e he hb
      rw [listedS_set (by omega)]
      rcases (listedS_set (by omega) j).1 hj with hj | rfl
      · exact Or.inl (hclo j o' ho' hj e he hb)
      · rw [ho] at ho'; cases ho'
        exact Or.inl (hafter e he hb)
    have hS : ∀ k, listedS (listed.setIfInBounds i true) k ↔ listedS listed k ∨ k = i := fun k => listedS_set (by omega) k
    have hcur' : Cur ds fr0 vals (listedS (listed.setIfInBounds i true)) (putD frc d.g.dst (vals i)) := hcur.step hu hd hS
    have hdst : ∀ p ∈ prs, ∃ e, ds[p.j]? = some e ∧ e.g.dst = some p.t := fun p hp => by
      obtain ⟨o', _, _, ho', _⟩ := (hprs p hp).fill
      have hlt := (List.getElem?_eq_some_iff.1 ho').1
      have he : ds[p.j]? = some ds[p.j] := List.getElem?_eq_getElem (by omega)
      obtain ⟨_, _, _, _, _, _, _, _, h⟩ := hpj p hp _ he
      exact ⟨_, he, by rw [h]⟩
    have hij : ∀ p ∈ prs, ∀ q ∈ prs, p.i ≠ q.j := fun p hp q hq e => by
      obtain ⟨o1, h1, h2, _⟩ := (hprs p hp).lay
      obtain ⟨o2, _, _, h3, h4, _⟩ := (hprs q hq).fill
      rw [e, h3] at h1; cases h1
      rw [h4] at h2; cases h2
    unfold wpOp
    rw [List.getElem?_toArray, ho]
    simp only
    rcases cog2_cases hc hprs ho hd with ⟨p, hp', rfl⟩ | ⟨p, hp', rfl⟩ | ⟨hno, g, hg, hdg⟩
    · -- it is laid out
      have hdg := hpi p hp' _ hd
      obtain ⟨o', ho', hop, hgd, hdd⟩ := (hprs p hp').lay
      rw [ho] at ho'; cases ho'
      obtain ⟨z, hz⟩ := (hprs p hp').zero
      have hqp : hq = hp := by
        rw [hdg] at h1
        simp only [Vm.stepG, want, List.map_nil, opV, Option.some.injEq, Prod.mk.injEq] at h1
        exact h1.2.symm
      subst hqp
      have hw : Region.wanted o (yielded all.toArray a.tmps) = true := by simp [Region.wanted, hgd]
      rw [if_pos hw]
      refine Or.inl (lay_step hL hcf hop hdd hz hsim fun cs hcs hsim' => ?_)
      have hzn := hsim.zNone
      have hz0 : c0.z w.heap.size = none := by
        cases hz : c0.z w.heap.size with
        | none => rfl
        | some x => rw [hle.z _ _ hz] at hzn; cases hzn
      have hlec := c.le_zpush w.heap.size (heldO cs p.T) hzn
      obtain ⟨e, he, hedst⟩ := hdst p hp'
      have htl : p.t < a.tmps.size := by
        have h5 := hinb e (List.mem_of_getElem? he) p.t hedst
        have h6 := RVl.length hf.rf
        rw [hf.len, hcur.len] at h6
        rw [Array.length_toList] at h6
        rw [h6]; exact h5
      have hnew : openP (listedS (listed.setIfInBounds p.i true)) p := ⟨(hS _).2 (Or.inr rfl), fun h => by
        rcases (hS _).1 h with h | h
        · obtain ⟨_, _, q, _, _, _, _, hq1, hq2⟩ := (hprs p hp').fill
          exact hpost p.j q hq1 hq2 h
        · exact hij p hp' p hp' h.symm⟩
      have hold : ∀ q ∈ prs, openP (listedS (listed.setIfInBounds p.i true)) q → q ≠ p → openP (listedS listed) q := fun q hq ho hne => by
        refine ⟨?_, fun h => ho.2 ((hS _).2 (Or.inl h))⟩
        rcases (hS _).1 ho.1 with h | h
        · exact h
        · rcases (hprs p hp').one q hq with ⟨_, h', _⟩ | h'
          · exact absurd h h'
          · exact absurd h' hne
      refine ih _ _ _ _ m' (putD frc d.g.dst (vals p.i)) hq (frm.set p.t .top) (fun k => if k = p.i then w.heap.size else B k) (by simpa using hsz) hcnt hclo' hcur' ?_ h2 hsim' h3 (hle.trans hlec) (hst.trans (St.alloc _ _)) (by rw [put_defers', hdef])
      rw [hdg]
      refine ⟨by simp [putD, hf.len], fun t hno => ?_, ?_, fun q hq ho => ?_, fun q hq r hr ho1 ho2 hB => ?_⟩
      · have hne : p.t ≠ t := fun e => hno p hp' e hnew
        rw [List.getElem?_set_ne hne]
        refine hf.same t fun q hq hqt hop => hno q hq hqt ⟨(hS _).2 (Or.inl hop.1), fun h => ?_⟩
        rcases (hS _).1 h with h | h
        · exact hop.2 h
        · exact hij p hp' q hq h.symm
      · exact RF.put (v := V.top) (hf.rf.mono hlec) ⟨[.pointer (some ⟨w.heap.size, 0, none⟩)], by simp only [RC]; exact ⟨_, rfl⟩, rfl⟩ (some p.t)
      · by_cases hqp : q = p
        · subst hqp
          simp only [if_true]
          exact ⟨by simp [Act.put, htl], hz0, cs, by simp [Ctx.zpush], hcs⟩
        · have ho' := hold q hq ho hqp
          obtain ⟨b1, b2, cs', b3, b4⟩ := hf.at_ q hq ho'
          have hqi : q.i ≠ p.i ∧ q.t ≠ p.t := by
            rcases (hprs p hp').one q hq with ⟨h1, h2, _⟩ | h
            · exact ⟨h2, h1⟩
            · exact absurd h hqp
          rw [if_neg hqi.1]
          refine ⟨by simp only [Act.put]; rw [Array.getElem?_setIfInBounds_ne (Ne.symm hqi.2)]; exact b1, b2, cs', hlec.z _ _ b3, b4⟩
      · by_cases hqp : q = p <;> by_cases hrp : r = p
        · rw [hqp, hrp]
        · exfalso
          obtain ⟨_, _, cs', b3, _⟩ := hf.at_ r hr (hold r hr ho2 hrp)
          have : r.i ≠ p.i := by rcases (hprs p hp').one r hr with ⟨_, h2, _⟩ | h; exact h2; exact absurd h hrp
          subst hqp
          simp only [if_true, if_neg this] at hB
          rw [← hB, hzn] at b3; cases b3
        · exfalso
          obtain ⟨_, _, cs', b3, _⟩ := hf.at_ q hq (hold q hq ho1 hqp)
          have : q.i ≠ p.i := by rcases (hprs p hp').one q hq with ⟨_, h2, _⟩ | h; exact h2; exact absurd h hqp
          subst hrp
          simp only [if_true, if_neg this] at hB
          rw [hB, hzn] at b3; cases b3
        · have e1 : q.i ≠ p.i := by rcases (hprs p hp').one q hq with ⟨_, h2, _⟩ | h; exact h2; exact absurd h hqp
          have e2 : r.i ≠ p.i := by rcases (hprs p hp').one r hr with ⟨_, h2, _⟩ | h; exact h2; exact absurd h hrp
          simp only [if_neg e1, if_neg e2] at hB
          exact hf.inj q hq r hr (hold q hq ho1 hqp) (hold r hr ho2 hrp) hB
    · -- it is filled
      obtain ⟨o', x, X0, ho', hop, hgd, hdd, hx, hdg⟩ := hpj p hp' _ hd
      rw [ho] at ho'; cases ho'
      have hopen : openP (listedS listed) p := ⟨by
        obtain ⟨_, _, q, _, _, _, _, hq1, hq2⟩ := (hprs p hp').fill
        exact hpre q hq1 p.i hq2, hni⟩
      obtain ⟨b1, b2, cs, b3, b4⟩ := hf.at_ p hp' hopen
      have h1' : opFzp hp (tagOf P p.T) (X0.ev frm) = some (vals p.j, hq) := by
        rw [hdg] at h1
        simpa only [Vm.stepG, want, List.map_cons, List.map_nil, opV] using h1
      have hw : Region.wanted o (yielded all.toArray a.tmps) = true := by simp [Region.wanted, hgd]
      rw [if_pos hw]
      refine Or.inl (fill_step hL hcf hop hdd (hprs p hp').tg hx hf.rf hsim b1 b3 b4 h1' fun cs' w' hh hsim' hrv hst' => ?_)
      subst hh
      have hnz : ∀ cs' ty fz, c.z (B p.i) ≠ some (.cells cs' ty fz) := by rw [b3]; intro _ _ _ h; cases h
      have hlev := c.lev_zpush (B p.i) (.cells cs' p.T (0, 0)) hnz
      have hold : ∀ q ∈ prs, openP (listedS (listed.setIfInBounds p.j true)) q → openP (listedS listed) q ∧ q ≠ p := fun q hq ho => by
        refine ⟨⟨?_, fun h => ho.2 ((hS _).2 (Or.inl h))⟩, fun e => ho.2 ((hS _).2 (Or.inr (by rw [e])))⟩
        rcases (hS _).1 ho.1 with h | h
        · exact h
        · exact absurd h (hij q hq p hp')
      refine ih _ _ _ _ m' (putD frc d.g.dst (vals p.j)) hq (frm.set p.t (vals p.j)) B (by simpa using hsz) hcnt hclo' hcur' ?_ h2 hsim' h3 (hle.zpush b2 _) (hst.trans hst') hdef
      rw [hdg]
      refine ⟨by simp [putD, hf.len], fun t hno => ?_, ?_, fun q hq ho => ?_, fun q hq r hr ho1 ho2 hB => ?_⟩
      · simp only [putD]
        by_cases e : p.t = t
        · subst e
          rw [List.getElem?_set, List.getElem?_set, hf.len]
          simp only [if_true]
        · rw [List.getElem?_set_ne e, List.getElem?_set_ne e]
          refine hf.same t fun q hq hqt hop => hno q hq hqt ⟨(hS _).2 (Or.inl hop.1), fun h => ?_⟩
          rcases (hS _).1 h with h | h
          · exact hop.2 h
          · rcases (hprs p hp').one q hq with ⟨_, _, h'⟩ | h'
            · exact h' h
            · rw [h'] at hqt; exact e hqt
      · have := RVl.set hrv p.t (RVl.monov hlev hf.rf)
        rw [set_self (l := a.tmps.toList) (by rw [Array.getElem?_toList]; exact b1)] at this
        exact this
      · obtain ⟨ho', hne⟩ := hold q hq ho
        obtain ⟨d1, d2, cs2, d3, d4⟩ := hf.at_ q hq ho'
        refine ⟨d1, d2, cs2, ?_, d4⟩
        simp only [Ctx.zpush]
        rw [if_neg (fun e => hne (hf.inj q hq p hp' ho' hopen e))]; exact d3
      · exact hf.inj q hq r hr (hold q hq ho1).1 (hold r hr ho2).1 hB
    · -- any other
      rw [hdg] at h1
      have hdo : d.g.dst = o.dst := by rw [hdg]; exact (cog_some hg).2.1
      refine step_soft (Q := Q) hL hcf hg hf.rf hsim h1 fun u c' w' hv hs' hle' hst' => ?_
      have hold : ∀ q ∈ prs, (openP (listedS (listed.setIfInBounds i true)) q ↔ openP (listedS listed) q) := fun q hq => by
        obtain ⟨n1, n2⟩ := hno q hq
        simp only [openP, hS]
        constructor
        · rintro ⟨h | h, h'⟩
          · exact ⟨h, fun x => h' (Or.inl x)⟩
          · exact absurd h n1
        · rintro ⟨h, h'⟩
          refine ⟨Or.inl h, fun x => ?_⟩
          rcases x with x | x
          · exact h' x
          · exact n2 x
      refine ih _ _ w' c' m' (putD frc d.g.dst (vals i)) hq (putD frm d.g.dst (vals i)) B (by simpa using hsz) hcnt hclo' hcur' ?_ h2 hs' h3 (hle.trans hle') (hst.trans hst') (by rw [put_defers', hdef])
      refine ⟨by rw [putD_length, putD_length, hf.len], fun t hno' => ?_, ?_, fun q hq ho => ?_, fun q hq r hr ho1 ho2 hB => hf.inj q hq r hr ((hold q hq).1 ho1) ((hold r hr).1 ho2) hB⟩
      · have hsame := hf.same t fun q hq hqt hop => hno' q hq hqt ((hold q hq).2 hop)
        cases hdd : d.g.dst with
        | none => exact hsame
        | some t' =>
          simp only [putD]
          rw [List.getElem?_set, List.getElem?_set, hf.len]
          split
          · rfl
          · exact hsame
      · rw [hdo]; exact RF.put (hf.rf.mono hle') hv o.dst
      · obtain ⟨d1, d2, cs2, d3, d4⟩ := hf.at_ q hq ((hold q hq).1 ho)
        refine ⟨?_, d2, cs2, hle'.z _ _ d3, d4⟩
        obtain ⟨e, he, hedst⟩ := hdst q hq
        cases hdd : o.dst with
        | none => simpa only [Act.put] using d1
        | some t' =>
          simp only [Act.put]
          rw [Array.getElem?_setIfInBounds_ne (fun h => ?_)]
          · exact d1
          · exact (hno q hq).2 (hu q.j i e d q.t he hd hedst (by rw [hdo, hdd, h]))
  intro fuel
  induction fuel with
  | zero =>
    intro listed a w c m frc hp frm B hsz hcount hclo hcur hf hm hsim heff hle hst hdef
    have hall : ∀ j, j < all.length → listedS listed j := fun j hj => by
      have h1 : listed.toList.count true = listed.toList.length := by simp at hcount ⊢; omega
      have h2 := List.count_eq_length.1 h1
      have h3 : j < listed.size := by omega
      have := h2 listed.toList[j] (List.getElem_mem _)
      simp only [listedS, Array.getD_eq_getD_getElem?, Array.getElem?_eq_getElem h3, Option.getD_some]
      simpa using this.symm
    refine ⟨?_, fin listed a w c m frc hp frm B hall hcur hf hm hsim heff hle hst hdef⟩
    apply List.eq_nil_iff_forall_not_mem.2
    intro i hi
    obtain ⟨h1, o, ho, _⟩ := mem_ready.1 hi
    rw [List.getElem?_toArray] at ho
    have hil : i < all.length := (List.getElem?_eq_some_iff.1 ho).1
    have := hall i hil
    have h3 : i < listed.size := by omega
    simp only [listedS, Array.getD_eq_getD_getElem?, Array.getElem?_eq_getElem h3, Option.getD_some] at this h1
    rw [this] at h1; cases h1
  | succ fuel ih =>
    intro listed a w c m frc hp frm B hsz hcount hclo hcur hf hm hsim heff hle hst hdef
    refine ⟨fun hnil => ?_, stp fuel ih listed a w c m frc hp frm B hsz hcount hclo hcur hf hm hsim heff hle hst hdef⟩
    have hall : ∀ j, j < all.length → listedS listed j := by
      intro j
      induction j using Nat.strongRecOn with
      | _ j ihj =>
        intro hj
        by_cases hn : listedS listed j
        · exact hn
        · exfalso
          have ho : all[j]? = some all[j] := List.getElem?_eq_getElem hj
          have : j ∈ Region.ready .any all.toArray listed := by
            refine mem_ready.2 ⟨?_, all[j], by rw [List.getElem?_toArray, ho], fun e he hb => ?_⟩
            · have h3 : j < listed.size := by omega
              simp only [listedS, Array.getD_eq_getD_getElem?, Array.getElem?_eq_getElem h3, Option.getD_some, Bool.not_eq_true] at hn ⊢
              exact hn
            · have := hback j _ ho e he hb
              exact ihj e.on this (by omega)
          rw [hnil] at this
          cases this
    exact fin listed a w c m frc hp frm B hall hcur hf hm hsim heff hle hst hdef

theorem draw_sound2 {id : Nat} {all : List Oper} {ds : List GD} {prs : List Pair} (hmix : P.follows .mixedOrders = true) (hc : cogs2 P obj all prs 0 all = some (ds.map (·.g))) (hprs : ∀ p ∈ prs, PairOK P obj all (ds.map (·.g)) prs p) (hok : okRows all ds = true) {c : Ctx} {h : Hp} {w : World} {fr : Fr} {a : Act}
    (hf : RF (layOf P) c fr a) (hs : Sim (layOf P) c h w) {fr' : Fr} {h' : Hp} (hr : regD cf base ds fr h = some (fr', h')) {Q : Exit → Act → World → Prop} (hE : Ends P c w a fr' h' (Q .normal)) :
    (Code.region id all.toArray true).wp P Q a w := by
  have hinb := regD_inB cf base hr
  obtain ⟨vals, frs, hps, tr, hq⟩ := regD_Tr cf base hr
  refine wp_region_any hmix ?_
  have hnone : ∀ k, ¬ listedS (Array.replicate all.length false) k := fun k hk => by
    simp only [listedS, Array.getD_eq_getD_getElem?, Array.getElem?_replicate] at hk
    split at hk <;> simp at hk
  refine any_sound2 hL hcf hc hprs hok tr hq hinb (c0 := c) (a0 := a) (w0 := w) hE _ _ a _ c 0 fr h fr (fun _ => 0) (by simp) ?_ ?_ ?_ ?_ tr.hfst hs.drew ?_ (Ctx.le_refl c) (St.drew w) rfl
  · simp [List.count_replicate]
  · intro j o ho hj
    simp only [listedS, Array.getD_eq_getD_getElem?, Array.getElem?_replicate] at hj
    split at hj <;> simp at hj
  · refine Cur.start ds fr vals fun k hk => ?_
    simp only [listedS, Array.getD_eq_getD_getElem?, Array.getElem?_replicate] at hk
    split at hk <;> simp at hk
  · refine ⟨rfl, fun t _ => rfl, hf, fun p hp ho => ?_, fun p hp q hq ho => ?_⟩ <;>
    · have hk := ho.1
      simp only [listedS, Array.getD_eq_getD_getElem?, Array.getElem?_replicate] at hk
      split at hk <;> simp at hk
  · intro k d hd he
    constructor
    · intro hk
      simp only [listedS, Array.getD_eq_getD_getElem?, Array.getElem?_replicate] at hk
      split at hk <;> simp at hk
    · intro hk; omega
end
end Go.Vm
/- Code: a loaded function's, as the machine's; what that computes is what Go's does. -/
namespace Go.Vm
set_option linter.unusedVariables false
set_option linter.unusedSimpArgs false
set_option linter.unusedSectionVars false
variable {P : Program} {obj : Nat → Bool}

/-- In each order each operation finds what it finds in the order of the text: no check is left. -/
def calmB (c : Nat) : List GD → Bool
  | [] => true
  | d :: ds => (d.eff || d.g.op.indep || (d.lo == c && d.hi == c)) && calmB (if d.eff then c + 1 else c) ds

theorem calmB_at : ∀ {ds : List GD} {c : Nat}, calmB c ds = true → ∀ (j : Nat) (d : GD), ds[j]? = some d → d.eff = true ∨ d.g.op.indep = true ∨ (d.lo = c + cnt ds j ∧ d.hi = c + cnt ds j)
  | [], c, h, j, d, hd => by simp at hd
  | d' :: ds, c, h, 0, d, hd => by
    simp only [List.getElem?_cons_zero, Option.some.injEq] at hd
    subst hd
    simp only [calmB, Bool.and_eq_true, Bool.or_eq_true, beq_iff_eq] at h
    rw [cnt_zero]
    rcases h.1 with (h1 | h1) | h1
    · exact Or.inl h1
    · exact Or.inr (Or.inl h1)
    · exact Or.inr (Or.inr (by omega))
  | d' :: ds, c, h, j + 1, d, hd => by
    simp only [calmB, Bool.and_eq_true] at h
    rcases calmB_at h.2 j d (by simpa using hd) with h1 | h1 | h1
    · exact Or.inl h1
    · exact Or.inr (Or.inl h1)
    · refine Or.inr (Or.inr ?_)
      rw [cnt_cons]
      split at h1
      · rename_i he; simp [he]; omega
      · rename_i he; simp [he]; omega

section
variable (cf : Nat → List V → Hp → Option (V × Hp)) (base : Nat)

theorem runG_Tr : ∀ (ds : List GD) (fr : Fr) (h : Hp) (fr' : Fr) (h' : Hp), runG cf base (ds.map (·.g)) fr h = some (fr', h') →
    ∃ vals frs hs, Tr cf base ds fr h fr' h' vals frs hs ∧ ∀ (j : Nat) (d : GD), ds[j]? = some d → d.eff = false → ∃ hp, hs[cnt ds j]? = some hp ∧ stepG cf base (frs j) hp d.g = some (vals j, hp) := by
  intro ds
  induction ds with
  | nil =>
    intro fr h fr' h' hr
    simp only [List.map_nil, runG, Option.some.injEq, Prod.mk.injEq] at hr
    obtain ⟨rfl, rfl⟩ := hr
    exact ⟨fun _ => .top, fun _ => fr, [h], ⟨rfl, rfl, fun j d hd => by simp at hd, by simp [cnt], rfl, by simp [cnt], fun j d hd => by simp at hd⟩, fun j d hd => by simp at hd⟩
  | cons d ds ih =>
    intro fr h fr' h' hr
    simp only [List.map_cons, runG] at hr
    split at hr
    case h_2 => cases hr
    rename_i v h1 hst
    obtain ⟨vals, frs, hs, t, hq⟩ := ih _ _ _ _ hr
    have hn : d.eff = false → h1 = h := fun he => stepG_quiet he hst
    refine ⟨(fun j => match j with | 0 => v | j + 1 => vals j), (fun j => match j with | 0 => fr | j + 1 => frs j), (if d.eff then h :: hs else hs), ⟨rfl, t.lst, ?_, ?_, ?_, ?_, ?_⟩, ?_⟩
    · intro j d' hd
      cases j with
      | zero =>
        simp only [List.getElem?_cons_zero, Option.some.injEq] at hd
        subst hd
        exact t.fst
      | succ j => exact t.next j d' (by simpa using hd)
    · rw [List.length_cons, cnt_cons]
      have := t.len
      split <;> simp <;> omega
    · split
      · rfl
      · rename_i hc
        rw [t.hfst, hn (by simpa using hc)]
    · rw [List.length_cons, cnt_cons]
      split
      · rw [Nat.add_comm]; simpa using t.hlst
      · simpa using t.hlst
    · intro j d' hd hd'
      cases j with
      | zero =>
        simp only [List.getElem?_cons_zero, Option.some.injEq] at hd
        subst hd
        refine ⟨h, h1, ?_, ?_, hst⟩
        · simp [cnt_zero, hd']
        · simp only [cnt_zero, hd', if_true]
          simpa using t.hfst
      | succ j =>
        obtain ⟨hp, hq', a1, a2, a3⟩ := t.eff j d' (by simpa using hd) hd'
        refine ⟨hp, hq', ?_, ?_, a3⟩
        · rw [cnt_cons]; split
          · rw [Nat.add_comm]; simpa using a1
          · simpa using a1
        · rw [cnt_cons]; split
          · rw [Nat.add_comm 1]; simpa using a2
          · simpa using a2
    · intro j d' hd hd'
      cases j with
      | zero =>
        simp only [List.getElem?_cons_zero, Option.some.injEq] at hd
        subst hd
        have := hn hd'
        subst this
        exact ⟨h1, by simp [cnt_zero, hd', t.hfst], hst⟩
      | succ j =>
        obtain ⟨hp, a1, a2⟩ := hq j d' (by simpa using hd) hd'
        refine ⟨hp, ?_, a2⟩
        rw [cnt_cons]; split
        · rw [Nat.add_comm]; simpa using a1
        · simpa using a1
end

section
variable (hL : (layOf P).OK) {cf : Nat → List V → Hp → Option (V × Hp)} {base : Nat} (hcf : CalleesOK P (layOf P) cf)
include hL hcf

theorem calm_sound {id : Nat} {all : List Oper} {ds : List GD} (hmix : P.follows .mixedOrders = true) (hc : cogs P obj all all = some (ds.map (·.g))) (hok : okRows all ds = true) (hcalm : calmB 0 ds = true) {c : Ctx} {h : Hp} {w : World} {fr : Fr} {a : Act}
    (hf : RF (layOf P) c fr a) (hs : Sim (layOf P) c h w) {fr' : Fr} {h' : Hp} (hr : runG cf base (ds.map (·.g)) fr h = some (fr', h')) {Q : Exit → Act → World → Prop} (hE : Ends P c w a fr' h' (Q .normal)) :
    (Code.region id all.toArray true).wp P Q a w := by
  obtain ⟨vals, frs, hps, tr, hq⟩ := runG_Tr cf base _ _ _ _ _ hr
  refine wp_region_any hmix ?_
  refine any_sound hL hcf hc hok tr (fun j d hd he m hp hlo hhi hm => ?_) (c0 := c) (a0 := a) (w0 := w) hE _ _ a _ c 0 fr h (by simp) ?_ ?_ ?_ hf tr.hfst hs.drew ?_ (Ctx.le_refl c) (St.drew w) rfl
  · obtain ⟨hp', h1, h2⟩ := hq j d hd he
    rcases calmB_at hcalm j d hd with h3 | h3 | ⟨h3, h4⟩
    · rw [he] at h3; cases h3
    · exact stepG_indep h3 h2 hp
    · have : m = cnt ds j := by omega
      subst this
      rw [h1] at hm; cases hm
      exact h2
  · simp [List.count_replicate]
  · intro j o ho hj
    simp only [listedS, Array.getD_eq_getD_getElem?, Array.getElem?_replicate] at hj
    split at hj <;> simp at hj
  · refine Cur.start ds fr vals fun k hk => ?_
    simp only [listedS, Array.getD_eq_getD_getElem?, Array.getElem?_replicate] at hk
    split at hk <;> simp at hk
  · intro k d hd he
    constructor
    · intro hk
      simp only [listedS, Array.getD_eq_getD_getElem?, Array.getElem?_replicate] at hk
      split at hk <;> simp at hk
    · intro hk; omega
end

/-- How early, how late one may come up among those that turn the heap. -/
def rangeOf (rs : List Row) (total : Nat) (r : Row) : Nat × Nat :=
  rs.foldl (fun b k => if k.d.eff then (if r.p.testBit k.k then (max b.1 (k.c + 1), b.2) else if k.p.testBit r.k then (b.1, min b.2 k.c) else b) else b) (0, total)

def ranged (os : List Oper) (gs : List G) : List GD :=
  let rs := rowsD 0 0 (gs.map fun g => ⟨g, 0, 0⟩) (pres [] os)
  let total := (rs.filter (·.d.eff)).length
  rs.map fun r => let b := rangeOf rs total r; ⟨r.d.g, b.1, b.2⟩

/-- The variables of a region that one operation lays out and one fills. -/
def pairsOf (obj : Nat → Bool) (all : List Oper) : List Pair :=
  (List.range all.length).filterMap fun i => match all[i]? with
    | some o => match o.op, o.dst, o.guard with
      | .alloc T, some t, none => if obj (3000000 + T) then none else
        match (List.range all.length).filter (fun j => match all[j]? with
            | some o' => (match o'.op with | .store T' (.tmp t') _ => T' == T && t' == t && o'.guard.isNone && o'.dst.isNone | _ => false)
            | none => false) with
        | [j] => some ⟨i, j, t, T⟩
        | _ => none
      | _, _, _ => none
    | none => none

/-- A region whose order is open, its calls and its variables taken as what they are there. -/
def softP (P : Program) (obj : Nat → Bool) (all : List Oper) (prs : List Pair) : Option C :=
  match cogs2 P obj all prs 0 all with
  | some gs => if P.follows .mixedOrders = true ∧ okRows all (ranged all gs) = true ∧ (ranged all gs).length = gs.length ∧ (prs.all (pairB P obj all gs prs)) = true then some (.regD (ranged all gs)) else none
  | none => none

/-- First with its variables in the heap; else as they are filled once. -/
def softC (P : Program) (obj : Nat → Bool) (all : List Oper) : Option C :=
  match softP P obj all [] with
  | some c => some c
  | none => softP P obj all (pairsOf obj all)

/-- The machine's code. -/
def ccode (P : Program) (obj : Nat → Bool) : Code → Option C
  | .skip => some .skip
  | .region _ ops draw => match cogs P obj ops.toList ops.toList with
    | some gs =>
      if draw then
        (if P.follows .mixedOrders = true ∧ okRows ops.toList (ranged ops.toList gs) = true ∧ (ranged ops.toList gs).length = gs.length then
          (if calmB 0 (ranged ops.toList gs) = true then some (.reg gs) else some (.regD (ranged ops.toList gs)))
        else softC P obj ops.toList)
      else some (.reg gs)
    | none => none
  | .seq a b => match ccode P obj a, ccode P obj b with | some a, some b => some (.seq a b) | _, _ => none
  | .cond c a b => match copX P 0 c, ccode P obj a, ccode P obj b with | some c, some a, some b => some (.cond c a b) | _, _, _ => none
  | .block id a => (ccode P obj a).map (.block id)
  | .loop a => (ccode P obj a).map .loop
  | .exit id => some (.exit id)
  | .ret => some .ret
  | _ => none

theorem rowsD_g : ∀ (gs : List G) (ps : List Nat) (k c : Nat) (f : Row → Nat × Nat), (rowsD k c (gs.map fun g => ⟨g, 0, 0⟩) ps).length = gs.length →
    (((rowsD k c (gs.map fun g => ⟨g, 0, 0⟩) ps).map fun r => (⟨r.d.g, (f r).1, (f r).2⟩ : GD)).map (·.g)) = gs
  | [], ps, k, c, f, _ => by simp [rowsD]
  | g :: gs, [], k, c, f, h => by simp [rowsD] at h
  | g :: gs, p :: ps, k, c, f, h => by
    simp only [List.map_cons, rowsD, List.length_cons, Nat.add_right_cancel_iff] at h
    simp only [List.map_cons, rowsD]
    rw [rowsD_g gs ps _ _ f h]

theorem ranged_g {os : List Oper} {gs : List G} (h : (ranged os gs).length = gs.length) : (ranged os gs).map (·.g) = gs := by
  unfold ranged at h ⊢
  simp only [List.length_map] at h
  exact rowsD_g gs _ 0 0 (fun r => rangeOf _ _ r) h

def toExit : Ex → Exit
  | .normal => .normal
  | .exit id => .exit id
  | .ret => .ret

section
variable (hL : (layOf P).OK) {cf : Nat → List V → Hp → Option (V × Hp)} {base : Nat} (hcf : CalleesOK P (layOf P) cf)
include hL hcf

/-- What stands behind code, however it is left. -/
def Leaves (P : Program) (c : Ctx) (w : World) (a : Act) (e : Ex) (fr' : Fr) (h' : Hp) (Q : Exit → Act → World → Prop) : Prop := Ends P c w a fr' h' (Q (toExit e))

theorem code_sound : ∀ {code : Code} {k : C}, ccode P obj code = some k → ∀ {c : Ctx} {h : Hp} {w : World} {fr : Fr} {a : Act}, RF (layOf P) c fr a → Sim (layOf P) c h w →
    ∀ {e : Ex} {fr' : Fr} {h' : Hp}, exec cf base k fr h = some (e, fr', h') → ∀ {Q : Exit → Act → World → Prop}, Leaves P c w a e fr' h' Q → code.wp P Q a w := by
  intro code
  induction code with
  | skip =>
    intro k hk c h w fr a hf hs e fr' h' hx Q hE
    simp only [ccode, Option.some.injEq] at hk
    subst hk
    simp only [exec, Option.some.injEq, Prod.mk.injEq] at hx
    obtain ⟨rfl, rfl, rfl⟩ := hx
    exact wp_skip (hE a c w hf hs (Ctx.le_refl c) (St.refl w) rfl)
  | region id ops draw =>
    intro k hk c h w fr a hf hs e fr' h' hx Q hE
    simp only [ccode] at hk
    split at hk
    case h_2 => cases hk
    rename_i gs hgs
    have hops : ops = ops.toList.toArray := by simp
    split at hk
    · rename_i hd
      subst hd
      split at hk
      case isFalse =>
        have hk' : ∃ prs, softP P obj ops.toList prs = some k := by
          unfold softC at hk
          split at hk
          · rename_i h1; exact ⟨_, h1.trans hk⟩
          · exact ⟨_, hk⟩
        clear hk
        obtain ⟨prs, hk⟩ := hk'
        unfold softP at hk
        split at hk
        case h_2 => cases hk
        rename_i gs2 hgs2
        split at hk
        case isFalse => cases hk
        rename_i hcond
        obtain ⟨hmix, hok, hlen, hpairs⟩ := hcond
        have hg := ranged_g hlen
        simp only [Option.some.injEq] at hk
        subst hk
        simp only [exec] at hx
        obtain ⟨r, hr, he⟩ := Option.map_eq_some_iff.1 hx
        simp only [Prod.mk.injEq] at he
        obtain ⟨rfl, rfl, rfl⟩ := he
        rw [hops]
        exact draw_sound2 hL hcf hmix (by rw [hg]; exact hgs2) (fun p hp => by rw [hg]; exact pairB_ok (List.all_eq_true.1 hpairs p hp)) hok hf hs hr hE
      rename_i hcond
      obtain ⟨hmix, hok, hlen⟩ := hcond
      have hg := ranged_g hlen
      split at hk
      · rename_i hcalm
        simp only [Option.some.injEq] at hk
        subst hk
        simp only [exec] at hx
        obtain ⟨r, hr, he⟩ := Option.map_eq_some_iff.1 hx
        simp only [Prod.mk.injEq] at he
        obtain ⟨rfl, rfl, rfl⟩ := he
        rw [hops]
        exact calm_sound hL hcf hmix (by rw [hg]; exact hgs) hok hcalm hf hs (by rw [hg]; exact hr) hE
      · simp only [Option.some.injEq] at hk
        subst hk
        simp only [exec] at hx
        obtain ⟨r, hr, he⟩ := Option.map_eq_some_iff.1 hx
        simp only [Prod.mk.injEq] at he
        obtain ⟨rfl, rfl, rfl⟩ := he
        rw [hops]
        exact draw_sound hL hcf hmix (by rw [hg]; exact hgs) hok hf hs hr hE
    · rename_i hd
      have : draw = false := by simpa using hd
      subst this
      simp only [Option.some.injEq] at hk
      subst hk
      simp only [exec] at hx
      obtain ⟨r, hr, he⟩ := Option.map_eq_some_iff.1 hx
      simp only [Prod.mk.injEq] at he
      obtain ⟨rfl, rfl, rfl⟩ := he
      rw [hops]
      exact region_sound hL hcf hgs hf hs hr hE
  | seq x y ihx ihy =>
    intro k hk c h w fr a hf hs e fr' h' hx Q hE
    simp only [ccode] at hk
    split at hk
    case h_2 => cases hk
    rename_i kx ky hkx hky
    simp only [Option.some.injEq] at hk
    subst hk
    simp only [exec] at hx
    apply wp_seq
    split at hx
    · rename_i fr1 h1 hx1
      refine ihx hkx hf hs hx1 ?_
      intro a1 c1 w1 hf1 hs1 hle hst hdef
      refine ihy hky hf1 hs1 hx ?_
      intro a2 c2 w2 hf2 hs2 hle2 hst2 hdef2
      exact hE a2 c2 w2 hf2 hs2 (hle.trans hle2) (hst.trans hst2) (hdef2.trans hdef)
    · rename_i hne
      refine ihx hkx hf hs hx ?_
      intro a1 c1 w1 hf1 hs1 hle hst hdef
      have := hE a1 c1 w1 hf1 hs1 hle hst hdef
      cases e with
      | normal => exact absurd hx (hne fr' h')
      | exit id => exact this
      | ret => exact this
  | cond x p q ihp ihq =>
    intro k hk c h w fr a hf hs e fr' h' hx Q hE
    simp only [ccode] at hk
    split at hk
    case h_2 => cases hk
    rename_i kx kp kq hkx hkp hkq
    simp only [Option.some.injEq] at hk
    subst hk
    have hv := copX_RV hf hkx
    simp only [exec] at hx
    split at hx
    · rename_i he
      rw [he] at hv
      exact wp_cond_true (RV_s.1 hv).1 (ihp hkp hf hs hx hE)
    · rename_i he
      rw [he] at hv
      exact wp_cond_false (RV_s.1 hv).1 (ihq hkq hf hs hx hE)
    · cases hx
  | block id x ihx =>
    intro k hk c h w fr a hf hs e fr' h' hx Q hE
    simp only [ccode] at hk
    obtain ⟨kx, hkx, rfl⟩ := Option.map_eq_some_iff.1 hk
    simp only [exec] at hx
    apply wp_block
    split at hx
    · rename_i id' fr1 h1 hx1
      refine ihx hkx hf hs hx1 ?_
      intro a1 c1 w1 hf1 hs1 hle hst hdef
      simp only [toExit, Exit.inBlock]
      split at hx
      · rename_i hid
        simp only [Option.some.injEq, Prod.mk.injEq] at hx
        obtain ⟨rfl, rfl, rfl⟩ := hx
        rw [if_pos hid]
        exact hE a1 c1 w1 hf1 hs1 hle hst hdef
      · rename_i hid
        simp only [Option.some.injEq, Prod.mk.injEq] at hx
        obtain ⟨rfl, rfl, rfl⟩ := hx
        rw [if_neg hid]
        exact hE a1 c1 w1 hf1 hs1 hle hst hdef
    · rename_i hne
      refine ihx hkx hf hs hx ?_
      intro a1 c1 w1 hf1 hs1 hle hst hdef
      have := hE a1 c1 w1 hf1 hs1 hle hst hdef
      cases e with
      | normal => exact this
      | exit id' => exact absurd hx (hne id' fr' h')
      | ret => exact this
  | loop x ihx =>
    intro k hk c0 h w0 fr a0 hf hs e fr' h' hx Q hE
    simp only [ccode] at hk
    obtain ⟨kx, hkx, rfl⟩ := Option.map_eq_some_iff.1 hk
    simp only [exec] at hx
    intro b kk cs
    have key : ∀ (n : Nat) (fr : Fr) (h : Hp) (a : Act) (w : World) (c : Ctx), RF (layOf P) c fr a → Sim (layOf P) c h w → c0.le c → St w0 w → a.defers = a0.defers → iter (exec cf base kx) n fr h = some (e, fr', h') →
        ∃ e a' w', Q e a' w' ∧ Arrives P (lone (b.at a (.code x :: .inLoop x :: kk)) cs w) b kk cs e a' w' := by
      intro n
      induction n with
      | zero => intro fr h a w c hf hs _ _ _ hi; simp [iter] at hi
      | succ n ih =>
        intro fr h a w c hf hs hle hst hdef hi
        simp only [iter] at hi
        split at hi
        · rename_i fr1 h1 hx1
          obtain ⟨e1, a1, w1, hq, harr⟩ := ihx hkx hf hs hx1 (Q := fun e a' w' => e = .normal ∧ ∃ c', RF (layOf P) c' fr1 a' ∧ Sim (layOf P) c' h1 w' ∧ c.le c' ∧ St w w' ∧ a'.defers = a.defers) (fun a1 c1 w1 p1 p2 p3 p4 p5 => ⟨rfl, c1, p1, p2, p3, p4, p5⟩) b (.inLoop x :: kk) cs
          obtain ⟨rfl, c1, p1, p2, p3, p4, p5⟩ := hq
          obtain ⟨e2, a2, w2, hq2, harr2⟩ := ih fr1 h1 a1 w1 c1 p1 p2 (hle.trans p3) (hst.trans p4) (p5.trans hdef) hi
          exact ⟨e2, a2, w2, hq2, .of_steps (Steps.trans harr (.one step_inLoop)) harr2⟩
        · rename_i hne
          obtain ⟨e1, a1, w1, hq, harr⟩ := ihx hkx hf hs hi (Q := fun e' a' w' => e' = toExit e ∧ Q (toExit e) a' w') (fun a1 c1 w1 p1 p2 p3 p4 p5 => ⟨rfl, hE a1 c1 w1 p1 p2 (hle.trans p3) (hst.trans p4) (p5.trans hdef)⟩) b (.inLoop x :: kk) cs
          obtain ⟨rfl, hq⟩ := hq
          cases e with
          | normal => exact absurd hi (hne fr' h')
          | exit id => exact ⟨_, a1, w1, hq, .pass (x := .inLoop x) rfl (fun _ _ => .inl (by simp [toExit])) harr⟩
          | ret => exact ⟨_, a1, w1, hq, .pass (x := .inLoop x) rfl (fun _ _ => .inl (by simp [toExit])) harr⟩
    obtain ⟨n, hn⟩ := loopF_iter.1 hx
    obtain ⟨e1, a1, w1, hq, harr⟩ := key n fr h a0 w0 c0 hf hs (Ctx.le_refl c0) (St.refl w0) rfl hn
    exact ⟨e1, a1, w1, hq, .of_steps (.one step_loop) harr⟩
  | exit id =>
    intro k hk c h w fr a hf hs e fr' h' hx Q hE
    simp only [ccode, Option.some.injEq] at hk
    subst hk
    simp only [exec, Option.some.injEq, Prod.mk.injEq] at hx
    obtain ⟨rfl, rfl, rfl⟩ := hx
    exact wp_exit (hE a c w hf hs (Ctx.le_refl c) (St.refl w) rfl)
  | ret =>
    intro k hk c h w fr a hf hs e fr' h' hx Q hE
    simp only [ccode, Option.some.injEq] at hk
    subst hk
    simp only [exec, Option.some.injEq, Prod.mk.injEq] at hx
    obtain ⟨rfl, rfl, rfl⟩ := hx
    exact wp_ret (hE a c w hf hs (Ctx.le_refl c) (St.refl w) rfl)
  | _ => intro k hk; simp [ccode] at hk
end
end Go.Vm
/- Older blocks name older blocks alone: it stays so. -/
namespace Go.Vm
set_option linter.unusedVariables false
set_option linter.unusedSimpArgs false
set_option linter.unusedSectionVars false

def Blk.low (b : Nat) : Blk → Bool
  | .cells _ es => V.low.all b es
  | .lit _ es => V.low.all b es
  | .map es _ => es.all fun e => e.1.low b && e.2.1.low b
  | _ => true

def Low (b : Nat) (h : Hp) : Prop := ∀ id, id < b → ∀ k, h[id]? = some k → k.low b = true

theorem low_all {b : Nat} : ∀ {es : List V}, V.low.all b es = true ↔ ∀ e ∈ es, e.low b = true
  | [] => by simp [V.low.all]
  | e :: es => by simp only [V.low.all, Bool.and_eq_true, low_all, List.forall_mem_cons]

theorem ground_low (b : Nat) : ∀ v : V, v.ground = true → v.low b = true := by
  intro v
  induction v using V.rec (motive_2 := fun vs => V.ground.all vs = true → V.low.all b vs = true) with
  | s x => intro _; rfl
  | ptr => intro h; cases h
  | ref => intro h; cases h
  | imm full g es ih => intro h; exact ih h
  | iptr v ih => intro h; exact ih h
  | st t fs ih => intro h; exact ih h
  | arr t es ih => intro h; exact ih h
  | tup vs ih => intro h; exact ih h
  | iface t v ih => intro h; exact ih h
  | fn f cap ih => intro h; exact ih h
  | mp => intro h; cases h
  | top => intro h; cases h
  | nil => rename_i h; rfl
  | cons v vs h1 h2 =>
    rename_i h
    simp only [V.ground.all, Bool.and_eq_true] at h
    simp only [V.low.all, Bool.and_eq_true]
    exact ⟨h1 h.1, h2 h.2⟩

theorem Low.append {b : Nat} {h : Hp} (hl : Low b h) (hb : b ≤ h.length) (k : Blk) : Low b (h ++ [k]) := fun id hid x hx => by
  rw [List.getElem?_append_left (by omega)] at hx
  exact hl id hid x hx

theorem Low.set {b : Nat} {h : Hp} (hl : Low b h) (id : Nat) {k : Blk} (hk : id < b → k.low b = true) : Low b (h.set id k) := fun i hi x hx => by
  by_cases hii : id = i
  · subst hii
    have hlt : id < h.length := by
      have := (List.getElem?_eq_some_iff.1 hx).1
      simpa using this
    rw [List.getElem?_set_self hlt] at hx
    cases hx
    exact hk hi
  · rw [List.getElem?_set_ne hii] at hx
    exact hl i hi x hx

theorem Low.row {b : Nat} {h : Hp} (hl : Low b h) {id tot : Nat} {g : Option Nat} {es : List V} (hr : rowOf h id tot = some (g, es)) (hid : id < b) : ∀ e ∈ es, e.low b = true :=
  low_all.1 (hl id hid _ (rowOf_some hr).1)

theorem putAt_low {b : Nat} {y : V} (hy : y.low b = true) : ∀ (p : List Nat) (v v' : V), putAt y p v = some v' → v.low b = true → v'.low b = true
  | [], v, v', h, _ => by simp only [putAt, Option.some.injEq] at h; subst h; exact hy
  | i :: p, v, v', h, hv => by
    have key : ∀ (fs : List V) (x x' : V), V.low.all b fs = true → fs[i]? = some x → putAt y p x = some x' → V.low.all b (fs.set i x') = true := fun fs x x' hfs hx hx' => by
      rw [low_all] at hfs ⊢
      intro e he
      rcases List.mem_or_eq_of_mem_set he with he | rfl
      · exact hfs e he
      · exact putAt_low hy p x e hx' (hfs x (List.mem_of_getElem? hx))
    cases v with
    | st t fs =>
      simp only [putAt] at h
      split at h
      · rename_i x hx
        obtain ⟨x', hx', rfl⟩ := Option.map_eq_some_iff.1 h
        exact key fs x x' hv hx hx'
      · cases h
    | arr t fs =>
      simp only [putAt] at h
      split at h
      · rename_i x hx
        obtain ⟨x', hx', rfl⟩ := Option.map_eq_some_iff.1 h
        exact key fs x x' hv hx hx'
      · cases h
    | _ => simp [putAt] at h

/-- It keeps what is below. -/
def Kp (base : Nat) (h h' : Hp) : Prop := ∀ b, b ≤ base → b ≤ h.length → Low b h → Low b h' ∧ h.length ≤ h'.length

theorem Kp.refl (base : Nat) (h : Hp) : Kp base h h := fun b _ _ hl => ⟨hl, Nat.le_refl _⟩
theorem Kp.trans {base : Nat} {h h1 h2 : Hp} (a : Kp base h h1) (k : Kp base h1 h2) : Kp base h h2 := fun b hb hbl hl =>
  let ⟨x, y⟩ := a b hb hbl hl
  let ⟨x', y'⟩ := k b hb (Nat.le_trans hbl y) x
  ⟨x', Nat.le_trans y y'⟩
theorem Kp.append (base : Nat) (h : Hp) (k : Blk) : Kp base h (h ++ [k]) := fun b _ hbl hl => ⟨hl.append hbl k, by simp⟩
theorem Kp.set {base : Nat} {h : Hp} {id : Nat} {k : Blk} (hk : ∀ b, b ≤ base → Low b h → id < b → k.low b = true) : Kp base h (h.set id k) := fun b hb _ hl => ⟨hl.set id (hk b hb hl), by simp⟩

theorem mayPut_low {base id : Nat} {v : V} (h : mayPut base id v = true) {b : Nat} (hb : b ≤ base) (hid : id < b) : v.low b = true := by
  simp only [mayPut, Bool.or_eq_true, decide_eq_true_eq] at h
  rcases h with h | h
  · omega
  · exact ground_low b v h

theorem low_map {b cl : Nat} {es : List (V × V × Nat)} : (Blk.map es cl).low b = true ↔ ∀ e ∈ es, e.1.low b = true ∧ e.2.1.low b = true := by simp [Blk.low, List.all_eq_true]
theorem findM_mem {kc : Option (Nat × IntKind)} {x : V} : ∀ {es : List (V × V × Nat)} {n i : Nat} {p : V × Nat}, findM kc x es n = some (some (i, p)) → n ≤ i ∧ ∃ e, es[i - n]? = some e ∧ e.2 = p ∧ keyEq kc x e.1 = some true
  | [], n, i, p, h => by simp [findM] at h
  | e :: es, n, i, p, h => by
    simp only [findM] at h
    split at h
    · rename_i hk
      simp only [Option.some.injEq, Prod.mk.injEq] at h
      obtain ⟨rfl, rfl⟩ := h
      exact ⟨Nat.le_refl _, e, by simp, rfl, hk⟩
    · obtain ⟨h1, e', h2, h3⟩ := findM_mem h
      refine ⟨by omega, e', ?_, h3⟩
      have : i - n = (i - (n + 1)) + 1 := by omega
      rw [this]; exact h2
    · cases h
theorem findK_some {kc : Option (Nat × IntKind)} {x : V} {es : List (V × V × Nat)} {r : Option (Nat × V × Nat)} (h : findK kc x es = some r) : keyEq kc x x = some true ∧ findM kc x es 0 = some r := by
  unfold findK at h
  split at h
  · rename_i hc; exact ⟨hc, h⟩
  · cases h
theorem kp_map {base : Nat} {h : Hp} {id cl cl' : Nat} {es es' : List (V × V × Nat)} (hg : h[id]? = some (.map es cl))
    (hm : ∀ e ∈ es', (e.1.ground = true ∨ ∃ e0 ∈ es, e.1 = e0.1) ∧ (mayPut base id e.2.1 = true ∨ ∃ e0 ∈ es, e.2.1 = e0.2.1)) : Kp base h (h.set id (.map es' cl')) := by
  refine Kp.set fun b hb hl hid => low_map.2 fun e he => ?_
  have hes := low_map.1 (hl id hid _ hg)
  obtain ⟨h1, h2⟩ := hm e he
  refine ⟨?_, ?_⟩
  · rcases h1 with h1 | ⟨e0, h0, h1⟩
    · exact ground_low b _ h1
    · rw [h1]; exact (hes e0 h0).1
  · rcases h2 with h2 | ⟨e0, h0, h2⟩
    · exact mayPut_low h2 hb hid
    · rw [h2]; exact (hes e0 h0).2
theorem kp_mup {base : Nat} {h h' : Hp} {kc : Option (Nat × IntKind)} {g : Option Nat} {x k v r : V} (hr : opMup base h kc g x k v = some (r, h')) : Kp base h h' := by
  unfold opMup at hr
  split at hr
  case h_2 => cases hr
  split at hr
  case isFalse => cases hr
  rename_i hc
  simp only [Bool.and_eq_true, decide_eq_true_eq] at hc
  split at hr
  case h_2 => cases hr
  rename_i es cl hg
  obtain ⟨q, hq, he⟩ := Option.map_eq_some_iff.1 hr
  split at he <;> cases he
  · refine kp_map hg fun e he => ?_
    rcases List.mem_or_eq_of_mem_set he with he | rfl
    · exact ⟨.inr ⟨e, he, rfl⟩, .inr ⟨e, he, rfl⟩⟩
    · exact ⟨.inl hc.1.1.2, .inl hc.1.1.1⟩
  · refine kp_map hg fun e he => ?_
    rcases List.mem_append.1 he with he | he
    · exact ⟨.inr ⟨e, he, rfl⟩, .inr ⟨e, he, rfl⟩⟩
    · simp only [List.mem_singleton] at he; subst he
      exact ⟨.inl hc.1.1.2, .inl hc.1.1.1⟩
theorem kp_mpe {base : Nat} {h h' : Hp} {kc : Option (Nat × IntKind)} {z x k r : V} (hr : opMpe base h kc z x k = some (r, h')) : Kp base h h' := by
  unfold opMpe at hr
  split at hr
  case h_2 => cases hr
  split at hr
  case isFalse => cases hr
  rename_i hc
  simp only [Bool.and_eq_true] at hc
  split at hr
  case h_2 => cases hr
  rename_i es cl hg
  obtain ⟨q, hq, he⟩ := Option.map_eq_some_iff.1 hr
  split at he <;> cases he
  · obtain ⟨_, e0, h1, h2, _⟩ := findM_mem (findK_some hq).2
    refine kp_map hg fun e he => ?_
    rcases List.mem_or_eq_of_mem_set he with he | rfl
    · exact ⟨.inr ⟨e, he, rfl⟩, .inr ⟨e, he, rfl⟩⟩
    · exact ⟨.inl hc.2, .inr ⟨e0, List.mem_of_getElem? h1, by rw [h2]⟩⟩
  · refine kp_map hg fun e he => ?_
    rcases List.mem_append.1 he with he | he
    · exact ⟨.inr ⟨e, he, rfl⟩, .inr ⟨e, he, rfl⟩⟩
    · simp only [List.mem_singleton] at he; subst he
      exact ⟨.inl hc.2, .inl hc.1⟩
theorem putM_mem {n : Int} {v : V} : ∀ {es es' : List (V × V × Nat)}, putM n v es = some es' → ∀ e ∈ es', e ∈ es ∨ ((∃ e0 ∈ es, e.1 = e0.1) ∧ e.2.1 = v)
  | [], es', h => by simp [putM] at h
  | e :: es, es', h => by
    simp only [putM] at h
    split at h
    · cases h
      intro x hx
      rcases List.mem_cons.1 hx with rfl | hx
      · exact .inr ⟨⟨e, by simp, rfl⟩, rfl⟩
      · exact .inl (by simp [hx])
    · obtain ⟨q, hq, rfl⟩ := Option.map_eq_some_iff.1 h
      intro x hx
      rcases List.mem_cons.1 hx with rfl | hx
      · exact .inl (by simp)
      · rcases putM_mem hq x hx with h1 | ⟨⟨e0, h1, h2⟩, h3⟩
        · exact .inl (by simp [h1])
        · exact .inr ⟨⟨e0, by simp [h1], h2⟩, h3⟩
theorem kp_ens {base : Nat} {h h' : Hp} {g : Option Nat} {x k v r : V} (hr : opEns base h g x k v = some (r, h')) : Kp base h h' := by
  unfold opEns at hr
  split at hr
  case h_2 => cases hr
  split at hr
  case isFalse => cases hr
  rename_i hc
  simp only [Bool.and_eq_true, decide_eq_true_eq] at hc
  split at hr
  case h_2 => cases hr
  rename_i es cl hg
  obtain ⟨q, hq, he⟩ := Option.map_eq_some_iff.1 hr
  cases he
  refine kp_map hg fun e he => ?_
  rcases putM_mem hq e he with h1 | ⟨⟨e0, h1, h2⟩, h3⟩
  · exact ⟨.inr ⟨e, h1, rfl⟩, .inr ⟨e, h1, rfl⟩⟩
  · exact ⟨.inr ⟨e0, h1, h2⟩, .inl (by rw [h3]; exact hc.1.1)⟩
theorem kp_sto {base : Nat} {h h' : Hp} {g : Option Nat} {x y v : V} (hr : opSto base h g x y = some (v, h')) : Kp base h h' := by
  unfold opSto at hr
  split at hr
  case h_2 => cases hr
  rename_i id path tot
  split at hr
  case h_2 => cases hr
  split at hr
  case isFalse => cases hr
  rename_i hcond
  obtain ⟨h1, hst, he⟩ := Option.map_eq_some_iff.1 hr
  simp only [Prod.mk.injEq] at he
  obtain ⟨rfl, rfl⟩ := he
  unfold store at hst
  split at hst
  case h_2 => cases hst
  rename_i g' es i p hrow hnode
  split at hst
  case h_2 => cases hst
  rename_i w hw
  obtain ⟨w', hw', rfl⟩ := Option.map_eq_some_iff.1 hst
  refine Kp.set fun b hb hl hid => ?_
  have hes := hl.row hrow hid
  simp only [Blk.low]
  rw [low_all]
  intro e he
  rcases List.mem_or_eq_of_mem_set he with he | rfl
  · exact hes e he
  · exact putAt_low (mayPut_low hcond.2.2.2 hb hid) p w e hw' (hes w (List.mem_of_getElem? hw))

theorem kp_box {base : Nat} {h h' : Hp} {g : Option Nat} {x v : V} (hr : opBox h g x = some (v, h')) : Kp base h h' := by
  unfold opBox at hr
  split at hr
  · cases hr; exact Kp.append base h _
  · cases hr

theorem kp_bsl {base : Nat} {h h' : Hp} {g : Option Nat} {z : List V} {p : List Nat} {xs : List V} {v : V} (hr : opBsl h g z p xs = some (v, h')) : Kp base h h' := by
  unfold opBsl at hr
  split at hr
  · split at hr
    · split at hr <;> cases hr
      · exact Kp.refl base h
      · exact Kp.append base h _
    · cases hr
  · cases hr

theorem kp_frz {base : Nat} {h h' : Hp} {x v : V} (hr : opFrz h x = some (v, h')) : Kp base h h' := by
  unfold opFrz at hr
  split at hr
  · split at hr
    · split at hr
      · cases hr; exact Kp.set fun _ _ _ _ => rfl
      · cases hr
    · unfold frzL at hr
      split at hr
      · split at hr
        · cases hr; exact Kp.set fun _ _ _ _ => rfl
        · cases hr
      · cases hr
  · cases hr
theorem kp_kil {base : Nat} {h h1 h' : Hp} {v v' : V} (hk : Kp base h h1) (hr : opKil (v, h1) = some (v', h')) : Kp base h h' := by
  unfold opKil at hr
  split at hr
  · cases hr; exact hk
  · split at hr
    · split at hr
      · cases hr; exact hk.trans (Kp.set fun _ _ _ _ => rfl)
      · cases hr
    · cases hr
  · cases hr
theorem kp_s2a {base : Nat} {h h' : Hp} {t n : Nat} {g : Option Nat} {x v : V} (hr : opS2a h t g n x = some (v, h')) : Kp base h h' := by
  unfold opS2a at hr
  obtain ⟨⟨v1, h1⟩, hr1, hr2⟩ := Option.bind_eq_some_iff.1 hr
  simp only at hr2
  split at hr2
  · split at hr2
    · cases hr2; exact kp_kil (Kp.refl base h) hr1
    · cases hr2
  · cases hr2
theorem kp_bsx {base : Nat} {h h' : Hp} {g : Option Nat} {z : List V} {p : List Nat} {xs : List V} {v : V} (hr : opBsx h g z p xs = some (v, h')) : Kp base h h' := by
  unfold opBsx at hr
  split at hr
  · split at hr
    · split at hr <;> cases hr
      exact Kp.append base h _
    · cases hr
  · cases hr

theorem kp_mks {base : Nat} {h h' : Hp} {g : Option Nat} {z x y v : V} (hr : opMks h g z x y = some (v, h')) : Kp base h h' := by
  unfold opMks at hr
  split at hr
  · split at hr
    · split at hr <;> cases hr
      · exact Kp.refl base h
      · exact Kp.append base h _
    · cases hr
  · cases hr

theorem all_mayPut {base id : Nat} {ys : List V} (h : ys.all (mayPut base id) = true) {b : Nat} (hb : b ≤ base) (hid : id < b) : ∀ y ∈ ys, y.low b = true := fun y hy =>
  mayPut_low (List.all_eq_true.1 h y hy) hb hid

theorem kp_app {base : Nat} {h h' : Hp} {g gy : Option Nat} {bytes : Nat} {x v : V} {ys : List V} (hr : appendV base g bytes h x gy ys = some (v, h')) : Kp base h h' := by
  unfold appendV at hr
  split at hr
  · obtain ⟨n, _, he⟩ := Option.map_eq_some_iff.1 hr
    cases he; exact Kp.refl base h
  · split at hr
    · split at hr
      · split at hr
        · cases hr; exact Kp.append base h _
        · cases hr
      · split at hr
        · rename_i hrow
          split at hr
          · rename_i hcond
            split at hr
            · cases hr
              refine Kp.set fun b hb hl hid => ?_
              simp only [Blk.low]
              rw [low_all]
              intro e he
              have hes := hl.row hrow hid
              rcases List.mem_append.1 he with he | he
              · rcases List.mem_append.1 he with he | he
                · exact hes e (List.mem_of_mem_take he)
                · exact all_mayPut hcond.2.2 hb hid e he
              · exact hes e (List.mem_of_mem_drop he)
            · split at hr
              · cases hr
                refine Kp.set fun b hb hl hid => ?_
                simp only [Blk.low]
                rw [low_all]
                intro e he
                rcases List.mem_append.1 he with he | he
                · exact hl.row hrow hid e he
                · exact all_mayPut hcond.2.2 hb hid e he
              · cases hr
          · cases hr
        · cases hr
      · cases hr
    · cases hr

theorem kp_apz {base : Nat} {h h' : Hp} {g : Option Nat} {bytes : Nat} {z x y v : V} (hr : opApz base h g bytes z x y = some (v, h')) : Kp base h h' := by
  unfold opApz at hr
  split at hr
  · split at hr
    · exact kp_app hr
    · cases hr
  · cases hr
theorem kp_copy {base : Nat} {h h' : Hp} {g gy : Option Nat} {x v : V} {ys : List V} (hr : copyV base g h x gy ys = some (v, h')) : Kp base h h' := by
  unfold copyV at hr
  split at hr
  · split at hr
    · rename_i hrow
      simp only at hr
      split at hr
      · rename_i hcond
        cases hr
        refine Kp.set fun b hb hl hid => ?_
        simp only [Blk.low]
        rw [low_all]
        intro e he
        have hes := hl.row hrow hid
        rcases List.mem_append.1 he with he | he
        · rcases List.mem_append.1 he with he | he
          · exact hes e (List.mem_of_mem_take he)
          · exact all_mayPut hcond.2.2.2.2 hb hid e (List.mem_of_mem_take he)
        · exact hes e (List.mem_of_mem_drop he)
      · cases hr
    · cases hr
  · cases hr

theorem nodeAt_low {b : Nat} : ∀ (p : List Nat) (v v' : V), nodeAt p v = some v' → v.low b = true → v'.low b = true
  | [], v, v', h, hl => by cases v <;> (cases h; exact hl)
  | i :: p, v, v', h, hl => by
    have key : ∀ fs : List V, V.low.all b fs = true → (match fs[i]? with | some v => nodeAt p v | none => none) = some v' → v'.low b = true := fun fs hf hn => by
      cases hx : fs[i]? with
      | none => rw [hx] at hn; cases hn
      | some x => rw [hx] at hn; exact nodeAt_low p x v' hn (low_all.1 hf x (List.mem_of_getElem? hx))
    cases v with
    | st t fs => exact key fs (by simpa only [V.low] using hl) h
    | arr t fs => exact key fs (by simpa only [V.low] using hl) h
    | _ => cases h
theorem kp_copyA {base : Nat} {h h' : Hp} {g gy : Option Nat} {x v : V} {ys : List V} (hr : copyA base g h x gy ys = some (v, h')) : Kp base h h' := by
  unfold copyA at hr
  split at hr
  · rename_i id i p g' off len tot
    split at hr
    case h_2 => cases hr
    rename_i t es hnode
    split at hr
    case isFalse => cases hr
    rename_i hcond
    obtain ⟨h1, hst, he⟩ := Option.map_eq_some_iff.1 hr
    simp only [Prod.mk.injEq] at he
    obtain ⟨rfl, rfl⟩ := he
    unfold store at hst
    split at hst
    case h_2 => cases hst
    rename_i g1 es1 i1 p1 hrow hpp
    cases hpp
    split at hst
    case h_2 => cases hst
    rename_i w hw
    obtain ⟨w', hw', rfl⟩ := Option.map_eq_some_iff.1 hst
    unfold node at hnode
    rw [hrow] at hnode
    simp only [hw] at hnode
    refine Kp.set fun b hb hl hid => ?_
    have hes := low_all.1 (hl id hid _ (rowOf_some hrow).1)
    have hwl := hes w (List.mem_of_getElem? hw)
    have hal : ∀ e ∈ es, e.low b = true := by
      have := nodeAt_low p w _ hnode hwl
      simpa only [V.low, low_all] using this
    have hnl : (V.arr t (es.take off ++ ys.take (min ys.length len) ++ es.drop (off + min ys.length len))).low b = true := by
      simp only [V.low]
      rw [low_all]
      intro e he
      rcases List.mem_append.1 he with he | he
      · rcases List.mem_append.1 he with he | he
        · exact hal e (List.mem_of_mem_take he)
        · exact all_mayPut hcond.2.2.2 hb hid e (List.mem_of_mem_take he)
      · exact hal e (List.mem_of_mem_drop he)
    simp only [Blk.low]
    rw [low_all]
    intro e he
    rcases List.mem_or_eq_of_mem_set he with he | rfl
    · exact hes e he
    · exact putAt_low hnl p w e hw' hwl
  · exact kp_copy hr
theorem kp_clr {base : Nat} {h h' : Hp} {g : Option Nat} {z x v : V} (hr : opClr base h g z x = some (v, h')) : Kp base h h' := by
  unfold opClr at hr
  split at hr
  · cases hr; exact Kp.refl base h
  · obtain ⟨r, hr1, he⟩ := Option.map_eq_some_iff.1 hr
    cases he
    exact kp_copy hr1
  · cases hr

theorem kp_s2b {base : Nat} {h h' : Hp} {lit : Bool} {x v : V} (hr : opS2b h lit x = some (v, h')) : Kp base h h' := by
  unfold opS2b at hr
  split at hr
  · split at hr
    · cases hr; exact Kp.refl base h
    · split at hr
      · cases hr
      · cases hr; exact Kp.append base h _
  · cases hr

theorem kp_rng {base : Nat} {h h' : Hp} {x v : V} (hr : opRng h x = some (v, h')) : Kp base h h' := by
  unfold opRng at hr
  split at hr
  · cases hr; exact Kp.append base h _
  · cases hr

theorem kp_nxt {base : Nat} {h h' : Hp} {x v : V} (hr : opNxt h x = some (v, h')) : Kp base h h' := by
  unfold opNxt at hr
  split at hr
  · split at hr
    · split at hr
      · cases hr; exact Kp.set fun _ _ _ _ => rfl
      · cases hr; exact Kp.refl base h
    · cases hr
  · cases hr

/-- All calls keep what is below. -/
def KpF (base : Nat) (cf : Nat → List V → Hp → Option (V × Hp)) : Prop := ∀ f vs h v h', cf f vs h = some (v, h') → Kp base h h'

theorem kp_op {cf : Nat → List V → Hp → Option (V × Hp)} {base : Nat} (hcf : KpF base cf) {o : O} {xs : List V} {h h' : Hp} {v : V} (hr : opV cf base h o xs = some (v, h')) : Kp base h h' := by
  by_cases he : o.eff = false
  · have := opV_quiet he hr
    subst this
    exact Kp.refl base _
  cases o <;> simp only [O.eff, not_true_eq_false, Bool.not_eq_false, not_false_eq_true] at he <;> try (cases he; done)
  case sto g => match xs, hr with
    | [x, y], hr => exact kp_sto hr
    | [], hr => cases hr
    | [_], hr => cases hr
    | _ :: _ :: _ :: _, hr => cases hr
  case box g => match xs, hr with
    | [x], hr => exact kp_box hr
    | [], hr => cases hr
    | _ :: _ :: _, hr => cases hr
  case alc g z => match xs, hr with
    | [], hr => exact kp_box hr
    | _ :: _, hr => cases hr
  case bsl g z p => exact kp_bsl (xs := xs) hr
  case frz => match xs, hr with
    | [x], hr => exact kp_frz hr
    | [], hr => cases hr
    | _ :: _ :: _, hr => cases hr
  case mks g z => match xs, hr with
    | [x, y], hr => exact kp_mks hr
    | [], hr => cases hr
    | [_], hr => cases hr
    | _ :: _ :: _ :: _, hr => cases hr
  case app g by' => match xs, hr with
    | [x, y], hr =>
      obtain ⟨r, _, hr⟩ := Option.bind_eq_some_iff.1 (show (source h y).bind (fun r => appendV base g by' h x r.1 r.2) = some (v, h') from hr)
      exact kp_app hr
    | [], hr => cases hr
    | [_], hr => cases hr
    | _ :: _ :: _ :: _, hr => cases hr
  case apx g by' => match xs, hr with
    | [x, y], hr =>
      obtain ⟨⟨v1, h1⟩, hr1, hr2⟩ := Option.bind_eq_some_iff.1 (show (opApp base h g by' x y).bind opKil = some (v, h') from hr)
      obtain ⟨r, _, hr⟩ := Option.bind_eq_some_iff.1 (show (source h y).bind (fun r => appendV base g by' h x r.1 r.2) = some (v1, h1) from hr1)
      exact kp_kil (kp_app hr) hr2
    | [], hr => cases hr
    | [_], hr => cases hr
    | _ :: _ :: _ :: _, hr => cases hr
  case bsx g z p => exact kp_bsx (xs := xs) hr
  case apz g by' z => match xs, hr with
    | [x, y], hr => exact kp_apz hr
    | [], hr => cases hr
    | [_], hr => cases hr
    | _ :: _ :: _ :: _, hr => cases hr
  case s2a t g n => match xs, hr with
    | [x], hr => exact kp_s2a hr
    | [], hr => cases hr
    | _ :: _ :: _, hr => cases hr
  case mkm => match xs, hr with
    | [], hr => cases hr; exact Kp.append base h _
    | _ :: _, hr => cases hr
  case mup kc g => match xs, hr with
    | [x, k, y], hr => exact kp_mup hr
    | [], hr => cases hr
    | [_], hr => cases hr
    | [_, _], hr => cases hr
    | _ :: _ :: _ :: _ :: _, hr => cases hr
  case mpe kc z => match xs, hr with
    | [x, y], hr => exact kp_mpe hr
    | [], hr => cases hr
    | [_], hr => cases hr
    | _ :: _ :: _ :: _, hr => cases hr
  case ens g => match xs, hr with
    | [x, k, y], hr => exact kp_ens hr
    | [], hr => cases hr
    | [_], hr => cases hr
    | [_, _], hr => cases hr
    | _ :: _ :: _ :: _ :: _, hr => cases hr
  case cpy g => match xs, hr with
    | [x, y], hr =>
      obtain ⟨r, _, hr⟩ := Option.bind_eq_some_iff.1 (show (source h y).bind (fun r => copyA base g h x r.1 r.2) = some (v, h') from hr)
      exact kp_copyA hr
    | [], hr => cases hr
    | [_], hr => cases hr
    | _ :: _ :: _ :: _, hr => cases hr
  case clr g z => match xs, hr with
    | [x], hr => exact kp_clr hr
    | [], hr => cases hr
    | _ :: _ :: _, hr => cases hr
  case s2b lit => match xs, hr with
    | [x], hr => exact kp_s2b hr
    | [], hr => cases hr
    | _ :: _ :: _, hr => cases hr
  case rng => match xs, hr with
    | [x], hr => exact kp_rng hr
    | [], hr => cases hr
    | _ :: _ :: _, hr => cases hr
  case nxt => match xs, hr with
    | [x], hr => exact kp_nxt hr
    | [], hr => cases hr
    | _ :: _ :: _, hr => cases hr
  case call f => exact hcf f xs h v h' hr
  case callv => match xs, hr with
    | .fn f cap :: xs, hr => exact hcf f (xs ++ cap) h v h' hr
    | [], hr => cases hr

theorem kp_step {cf : Nat → List V → Hp → Option (V × Hp)} {base : Nat} (hcf : KpF base cf) {fr : Fr} {g : G} {h h' : Hp} {v : V} (hr : stepG cf base fr h g = some (v, h')) : Kp base h h' := by
  unfold stepG at hr
  split at hr
  · exact kp_op hcf hr
  · cases hr; exact Kp.refl base _
  · cases hr

theorem kp_runG {cf : Nat → List V → Hp → Option (V × Hp)} {base : Nat} (hcf : KpF base cf) : ∀ {gs : List G} {fr : Fr} {h : Hp} {fr' : Fr} {h' : Hp}, runG cf base gs fr h = some (fr', h') → Kp base h h'
  | [], fr, h, fr', h', hr => by simp only [runG, Option.some.injEq, Prod.mk.injEq] at hr; rw [← hr.2]; exact Kp.refl base _
  | g :: gs, fr, h, fr', h', hr => by
    simp only [runG] at hr
    split at hr
    · rename_i v h1 h2
      exact (kp_step hcf h2).trans (kp_runG hcf hr)
    · cases hr

theorem kp_runD {cf : Nat → List V → Hp → Option (V × Hp)} {base : Nat} (hcf : KpF base cf) : ∀ {ds : List GD} {fr : Fr} {h : Hp} {hs : List Hp} {xs : List Seen} {fr' : Fr} {h' : Hp} {hs' : List Hp} {xs' : List Seen}, runD cf base ds fr h hs xs = some (fr', h', hs', xs') → Kp base h h'
  | [], fr, h, hs, xs, fr', h', hs', xs', hr => by simp only [runD, Option.some.injEq, Prod.mk.injEq] at hr; rw [← hr.2.1]; exact Kp.refl base _
  | d :: ds, fr, h, hs, xs, fr', h', hs', xs', hr => by
    simp only [runD] at hr
    split at hr
    · rename_i v h1 h2
      split at hr
      · exact (kp_step hcf h2).trans (kp_runD hcf hr)
      · exact kp_runD hcf hr
    · cases hr

theorem kp_exec {cf : Nat → List V → Hp → Option (V × Hp)} {base : Nat} (hcf : KpF base cf) : ∀ (k : C) {fr : Fr} {h : Hp} {e : Ex} {fr' : Fr} {h' : Hp}, exec cf base k fr h = some (e, fr', h') → Kp base h h' := by
  intro k
  induction k with
  | skip => intro fr h e fr' h' hx; simp only [exec, Option.some.injEq, Prod.mk.injEq] at hx; rw [← hx.2.2]; exact Kp.refl base _
  | reg gs =>
    intro fr h e fr' h' hx
    simp only [exec] at hx
    obtain ⟨r, hr, he⟩ := Option.map_eq_some_iff.1 hx
    cases he
    exact kp_runG hcf hr
  | regD ds =>
    intro fr h e fr' h' hx
    simp only [exec] at hx
    obtain ⟨r, hr, he⟩ := Option.map_eq_some_iff.1 hx
    cases he
    unfold regD at hr
    split at hr
    · rename_i hrun
      split at hr
      · cases hr; exact kp_runD hcf hrun
      · cases hr
    · cases hr
  | seq a b iha ihb =>
    intro fr h e fr' h' hx
    simp only [exec] at hx
    split at hx
    · rename_i hx1; exact (iha hx1).trans (ihb hx)
    · exact iha hx
  | cond c a b iha ihb =>
    intro fr h e fr' h' hx
    simp only [exec] at hx
    split at hx
    · exact iha hx
    · exact ihb hx
    · cases hx
  | block id a iha =>
    intro fr h e fr' h' hx
    simp only [exec] at hx
    split at hx
    · rename_i hx1
      split at hx <;> (cases hx; exact iha hx1)
    · exact iha hx
  | loop a iha =>
    intro fr h e fr' h' hx
    simp only [exec] at hx
    obtain ⟨n, hn⟩ := loopF_iter.1 hx
    induction n generalizing fr h with
    | zero => simp [iter] at hn
    | succ n ih =>
      simp only [iter] at hn
      split at hn
      · rename_i fr1 h1 hx1
        exact (iha hx1).trans (ih (loopF_iter.2 ⟨n, hn⟩) hn)
      · exact iha hn
  | exit id => intro fr h e fr' h' hx; simp only [exec, Option.some.injEq, Prod.mk.injEq] at hx; rw [← hx.2.2]; exact Kp.refl base _
  | ret => intro fr h e fr' h' hx; simp only [exec, Option.some.injEq, Prod.mk.injEq] at hx; rw [← hx.2.2]; exact Kp.refl base _

theorem kp_callF {cf : Nat → Nat → List V → Hp → Option (V × Hp)} (hcf : ∀ base, KpF base (cf base)) {base : Nat} {F : Fn} {args : List V} {h h' : Hp} {v : V} (hr : callF cf base F args h = some (v, h')) : Kp base h h' := by
  unfold callF at hr
  split at hr
  · split at hr
    · cases hr
    · rename_i hx
      split at hr
      · split at hr
        · cases hr
          intro b hb1 hb2 hl
          obtain ⟨h1, h2⟩ := kp_exec (hcf h.length) F.body hx b hb2 hb2 hl
          refine ⟨fun id hid k hk => ?_, by rw [List.length_take]; omega⟩
          rw [List.getElem?_take_of_lt (by omega)] at hk
          exact h1 id hid k hk
        · cases hr
      · cases hr
    · cases hr
  · split at hr
    · cases hr
    · rename_i hx
      split at hr
      · cases hr
        exact kp_exec (hcf base) F.body hx
      · cases hr
    · cases hr

/-- Functions that are known otherwise keep what is below. -/
def KpP (pr : Nat → List V → Hp → Option (V × Hp)) : Prop := ∀ f vs h v h', pr f vs h = some (v, h') → ∀ base, Kp base h h'

theorem kp_den {fns : Nat → Option Fn} {pr : Nat → List V → Hp → Option (V × Hp)} (hp : KpP pr) : ∀ (d base : Nat), KpF base (den fns pr d base)
  | 0, base, f, vs, h, v, h', hr => by simp [den] at hr
  | d + 1, base, f, vs, h, v, h', hr => by
    simp only [den] at hr
    split at hr
    · rename_i F hF
      exact kp_callF (fun base => kp_den hp d base) hr
    · exact hp f vs h v h' hr base
end Go.Vm
/- A call is Go's: what is handed back by a function that gives back values alone. -/
namespace Go.Vm
set_option linter.unusedVariables false
set_option linter.unusedSimpArgs false
set_option linter.unusedSectionVars false
variable {P : Program} {obj : Nat → Bool} {L : Lay}

theorem low_aux {c : Ctx} : ∀ v : V, (∀ us, RC L c v us → v.low c.n = true) := by
  intro v
  induction v using V.rec (motive_2 := fun vs => (∀ us, RCs L c vs us → V.low.all c.n vs = true) ∧ (∀ us, RW L c vs us → V.low.all c.n vs = true) ∧ (∀ v ∈ vs, ∀ us, RC L c v us → v.low c.n = true)) with
  | s x => intro us h; rfl
  | ptr id path tot => intro us h; simp only [RC] at h; obtain ⟨a, _, hid, _⟩ := h; simp [V.low, hid]
  | ref id path g off len tot => intro us h; simp only [RC] at h; obtain ⟨a, k, _, hid, _⟩ := h; simp [V.low, hid]
  | imm full g es ih =>
    intro us h; simp only [RC] at h
    obtain ⟨a, k, h, h1, h2, h3, h4⟩ := h
    rcases h4 with rfl | ⟨b, off, cs, ty, fz, ha, hz, hr⟩
    · rfl
    · exact ih.1 _ hr
  | iptr v ih => intro us h; simp only [RC] at h; obtain ⟨b, off, cs, ty, fz, h, hz, hr⟩ := h; exact ih _ hr
  | st t fs ih => intro us h; simp only [RC] at h; exact ih.1 _ h.1
  | arr t es ih => intro us h; simp only [RC] at h; exact ih.1 _ h.1
  | tup vs ih => intro us h; simp only [RC] at h; obtain ⟨ws, h1, h2⟩ := h; exact ih.2.1 _ h2
  | iface t v ih => intro us h; simp only [RC] at h; obtain ⟨u, us', h1, h2, h3⟩ := h; exact ih _ h2
  | fn f cap ih => intro us h; simp only [RC] at h; obtain ⟨ws, h1, h2⟩ := h; exact ih.2.1 _ h2
  | mp id => intro us h; simp only [RC] at h; obtain ⟨a, _, hid, _⟩ := h; simp [V.low, hid]
  | top => intro us h; rfl
  | nil => exact ⟨fun _ _ => rfl, fun _ _ => rfl, fun v hv => by cases hv⟩
  | cons v vs h1 h2 =>
    refine ⟨fun us h => ?_, fun us h => ?_, fun x hx us h => ?_⟩
    · simp only [RCs] at h
      obtain ⟨u1, u2, rfl, k1, k2⟩ := h
      simp only [V.low.all, Bool.and_eq_true]
      exact ⟨h1 _ k1, h2.1 _ k2⟩
    · simp only [RW] at h
      obtain ⟨u, us', rfl, ⟨u1, k1, k2⟩, k3⟩ := h
      simp only [V.low.all, Bool.and_eq_true]
      exact ⟨h1 _ k1, h2.2.1 _ k3⟩
    · rcases List.mem_cons.1 hx with rfl | hx
      · exact h1 us h
      · exact h2.2.2 x hx us h

theorem RCs_low {c : Ctx} : ∀ {vs : List V} {us : List Value}, RCs L c vs us → V.low.all c.n vs = true
  | [], _, _ => rfl
  | v :: vs, us, h => by
    simp only [RCs] at h
    obtain ⟨u1, u2, rfl, k1, k2⟩ := h
    simp only [V.low.all, Bool.and_eq_true]
    exact ⟨low_aux v _ k1, RCs_low k2⟩

theorem RVm_low {c : Ctx} : ∀ {es : List (V × V × Nat)} {ms : List MapEntry}, RVm L c es ms → ∀ e ∈ es, e.1.low c.n = true ∧ e.2.1.low c.n = true
  | [], [], _ => by simp
  | e :: es, m :: ms, h => by
    obtain ⟨⟨⟨u1, a1, a2⟩, ⟨u2, a3, a4⟩, a5⟩, a6⟩ := h
    intro x hx
    rcases List.mem_cons.1 hx with rfl | hx
    · exact ⟨low_aux _ _ a1, low_aux _ _ a3⟩
    · exact RVm_low a6 x hx
  | [], _ :: _, h => h.elim
  | _ :: _, [], h => h.elim
theorem Sim.low {c : Ctx} {h : Hp} {w : World} (hs : Sim L c h w) : Low h.length h := fun id hid k hk => by
  rcases hs.live id k hk with ⟨l, hl⟩ | rfl
  · obtain ⟨k', h1, h2, h3⟩ := hs.loc id l hl
    rw [hk] at h1; cases h1
    cases k with
    | cells g es =>
      obtain ⟨_, _, _, _, us, ty, fz, _, _, _, hr⟩ := h3
      have := RCs_low hr
      rw [hs.n] at this
      exact this
    | lit g es =>
      obtain ⟨_, _, _, _, us, ty, fz, _, _, _, hr⟩ := h3
      have := RCs_low hr
      rw [hs.n] at this
      exact this
    | map es cl =>
      obtain ⟨_, _, ms, _, hr⟩ := h3
      have := RVm_low hr
      rw [hs.n] at this
      exact low_map.2 this
    | siter s pos => rfl
    | dead => rfl
  · rfl

open Classical in
/-- The context in which blocks from n on are never written again. -/
noncomputable def Ctx.cut (c : Ctx) (n : Nat) (w : World) : Ctx where
  z b := match c.z b with
    | some o => some o
    | none => if ∃ id l, n ≤ id ∧ c.loc id = some l ∧ l.blk = b then w.heap[b]? else none
  loc id := if id < n then c.loc id else none
  n := n

theorem Ctx.cut_z {c : Ctx} {n : Nat} {w : World} {b : Nat} {o : Obj} (h : c.z b = some o) : (c.cut n w).z b = some o := by simp [Ctx.cut, h]
theorem Ctx.cut_new {c : Ctx} {n : Nat} {w : World} {id : Nat} {l : Loc} (hid : n ≤ id) (hl : c.loc id = some l) (hz : c.z l.blk = none) : (c.cut n w).z l.blk = w.heap[l.blk]? := by
  simp only [Ctx.cut, hz]
  rw [if_pos ⟨id, l, hid, hl, rfl⟩]
theorem Ctx.cut_loc {c : Ctx} {n : Nat} {w : World} {id : Nat} (hid : id < n) : (c.cut n w).loc id = c.loc id := by simp [Ctx.cut, hid]

theorem Ctx.le_cut {c c' : Ctx} {w : World} (hle : c.le c') : c.le (c'.cut c.n w) where
  z b o hb := Ctx.cut_z (hle.z b o hb)
  n := Nat.le_refl _
  loc id l' hid hl := hle.loc id l' hid (by rw [Ctx.cut_loc hid] at hl; exact hl)

theorem cut_aux {c : Ctx} {n : Nat} {w : World} (hn : n ≤ c.n) : ∀ v : V, v.low n = true → (∀ us, RC L c v us → RC L (c.cut n w) v us) := by
  intro v
  induction v using V.rec (motive_2 := fun vs => V.low.all n vs = true → (∀ us, RCs L c vs us → RCs L (c.cut n w) vs us) ∧ (∀ us, RW L c vs us → RW L (c.cut n w) vs us)) with
  | s x => intro _ us h; simpa only [RC] using h
  | ptr id path tot =>
    intro hl us h; simp only [RC] at h ⊢
    simp only [V.low, decide_eq_true_eq] at hl
    obtain ⟨a, h, hid, hh⟩ := h
    exact ⟨a, h, hl, fun l hll => hh l (by rw [Ctx.cut_loc hl] at hll; exact hll)⟩
  | ref id path g off len tot =>
    intro hl us h; simp only [RC] at h ⊢
    simp only [V.low, decide_eq_true_eq] at hl
    obtain ⟨a, k, h, hid, hlk, hh⟩ := h
    exact ⟨a, k, h, hl, hlk, fun l hll => hh l (by rw [Ctx.cut_loc hl] at hll; exact hll)⟩
  | imm full g es ih =>
    intro hl us h; simp only [RC] at h ⊢
    obtain ⟨a, k, h, h1, h2, h3, h4⟩ := h
    refine ⟨a, k, h, h1, h2, h3, ?_⟩
    rcases h4 with h4 | ⟨b, off, cs, ty, fz, ha, hz, hr⟩
    · exact .inl h4
    · exact .inr ⟨b, off, cs, ty, fz, ha, Ctx.cut_z hz, (ih hl).1 _ hr⟩
  | iptr v ih =>
    intro hl us h; simp only [RC] at h ⊢
    obtain ⟨b, off, cs, ty, fz, h, hz, hr⟩ := h
    exact ⟨b, off, cs, ty, fz, h, Ctx.cut_z hz, ih hl _ hr⟩
  | st t fs ih => intro hl us h; simp only [RC] at h ⊢; exact ⟨(ih hl).1 _ h.1, h.2⟩
  | arr t es ih => intro hl us h; simp only [RC] at h ⊢; exact ⟨(ih hl).1 _ h.1, h.2⟩
  | tup vs ih => intro hl us h; simp only [RC] at h ⊢; obtain ⟨ws, h1, h2⟩ := h; exact ⟨ws, h1, (ih hl).2 _ h2⟩
  | iface t v ih => intro hl us h; simp only [RC] at h ⊢; obtain ⟨u, us', h1, h2, h3⟩ := h; exact ⟨u, us', h1, ih hl _ h2, h3⟩
  | fn f cap ih => intro hl us h; simp only [RC] at h ⊢; obtain ⟨ws, h1, h2⟩ := h; exact ⟨ws, h1, (ih hl).2 _ h2⟩
  | mp id =>
    intro hl us h; simp only [RC] at h ⊢
    simp only [V.low, decide_eq_true_eq] at hl
    obtain ⟨b, h, hid, hh⟩ := h
    exact ⟨b, h, hl, fun l hll => hh l (by rw [Ctx.cut_loc hl] at hll; exact hll)⟩
  | top => intro _ us h; simpa only [RC] using h
  | nil => rename_i hl; exact ⟨fun us h => by simpa only [RCs] using h, fun us h => by simpa only [RW] using h⟩
  | cons v vs h1 h2 =>
    rename_i hl
    simp only [V.low.all, Bool.and_eq_true] at hl
    refine ⟨fun us h => ?_, fun us h => ?_⟩
    · simp only [RCs] at h ⊢
      obtain ⟨u1, u2, rfl, k1, k2⟩ := h
      exact ⟨u1, u2, rfl, h1 hl.1 _ k1, (h2 hl.2).1 _ k2⟩
    · simp only [RW] at h ⊢
      obtain ⟨u, us', rfl, ⟨u1, k1, k2⟩, k3⟩ := h
      exact ⟨u, us', rfl, ⟨u1, h1 hl.1 _ k1, k2⟩, (h2 hl.2).2 _ k3⟩

theorem cut_RCs {c : Ctx} {n : Nat} {w : World} (hn : n ≤ c.n) : ∀ {vs : List V} {us : List Value}, V.low.all n vs = true → RCs L c vs us → RCs L (c.cut n w) vs us
  | [], us, _, h => by simpa only [RCs] using h
  | v :: vs, us, hl, h => by
    simp only [V.low.all, Bool.and_eq_true] at hl
    simp only [RCs] at h ⊢
    obtain ⟨u1, u2, rfl, k1, k2⟩ := h
    exact ⟨u1, u2, rfl, cut_aux hn v hl.1 _ k1, cut_RCs hn hl.2 k2⟩

theorem cut_RVm {c : Ctx} {n : Nat} {w : World} (hn : n ≤ c.n) : ∀ {es : List (V × V × Nat)} {ms : List MapEntry}, (∀ e ∈ es, e.1.low n = true ∧ e.2.1.low n = true) → RVm L c es ms → RVm L (c.cut n w) es ms
  | [], [], _, _ => trivial
  | e :: es, m :: ms, hl, h => by
    obtain ⟨⟨⟨u1, a1, a2⟩, ⟨u2, a3, a4⟩, a5⟩, a6⟩ := h
    obtain ⟨l1, l2⟩ := hl e (by simp)
    exact ⟨⟨⟨u1, cut_aux hn _ l1 _ a1, a2⟩, ⟨u2, cut_aux hn _ l2 _ a3, a4⟩, a5⟩, cut_RVm hn (fun x hx => hl x (by simp [hx])) a6⟩
  | [], _ :: _, _, h => h.elim
  | _ :: _, [], _, h => h.elim
theorem Sim.cut {c : Ctx} {n : Nat} {h : Hp} {w : World} (hs : Sim L c h w) (hn : n ≤ c.n) (hl : Low n h) : Sim L (c.cut n w) (h.take n) w where
  z b o hb := by
    cases hz : c.z b with
    | some o' => rw [Ctx.cut_z hz] at hb; cases hb; exact hs.z b o hz
    | none =>
      simp only [Ctx.cut, hz] at hb
      split at hb
      · rename_i hx
        obtain ⟨id, l, _, hl', rfl⟩ := hx
        obtain ⟨k, _, _, h3⟩ := hs.loc id l hl'
        rw [hb, h3.real hb]
      · cases hb
  n := by rw [List.length_take, ← hs.n]; exact (Nat.min_eq_left hn).symm
  loc id l hll := by
    by_cases hid : id < n
    · rw [Ctx.cut_loc hid] at hll
      obtain ⟨k, h1, h2, h3⟩ := hs.loc id l hll
      refine ⟨k, by rw [List.getElem?_take_of_lt hid]; exact h1, ?_, ?_⟩
      · simp only [Ctx.cut, h2]
        rw [if_neg]
        rintro ⟨i, li, hi, hli, he⟩
        have := hs.inj i id li l hli hll he
        omega
      · cases k with
        | cells g es =>
          obtain ⟨a1, a2, a3, a4, us, ty, fz, a5, a6, a7, a8⟩ := h3
          exact ⟨a1, a2, a3, a4, us, ty, fz, a5, a6, a7, cut_RCs hn (hl id hid _ h1) a8⟩
        | lit g es =>
          obtain ⟨a1, a2, a3, a4, us, ty, fz, a5, a6, a7, a8⟩ := h3
          exact ⟨a1, a2, a3, a4, us, ty, fz, a5, a6, a7, cut_RCs hn (hl id hid _ h1) a8⟩
        | map es cl =>
          obtain ⟨a1, a2, ms, a3, a4⟩ := h3
          exact ⟨a1, a2, ms, a3, cut_RVm hn (low_map.1 (hl id hid _ h1)) a4⟩
        | siter s pos => exact h3
        | dead => exact h3
    · simp [Ctx.cut, hid] at hll
  live id k hk := by
    have hid : id < n := by
      have := (List.getElem?_eq_some_iff.1 hk).1
      rw [List.length_take] at this; omega
    rw [List.getElem?_take_of_lt hid] at hk
    rw [Ctx.cut_loc hid]
    exact hs.live id k hk
  inj i j li lj hi hj he := by
    by_cases h1 : i < n
    · by_cases h2 : j < n
      · rw [Ctx.cut_loc h1] at hi
        rw [Ctx.cut_loc h2] at hj
        exact hs.inj i j li lj hi hj he
      · simp [Ctx.cut, h2] at hj
    · simp [Ctx.cut, h1] at hi

/-- What it says of a value and what is handed back for it. -/
def FrzOK (L : Lay) (c : Ctx) (n : Nat) (w : World) (v v' : V) : Prop :=
  v'.ty = v.ty ∧ v'.solid = v.solid ∧ (∀ us u, wr v us u → wr v' us u) ∧ ∀ us, RC L c v us → RC L (c.cut n w) v' us

theorem frz_leaf {c : Ctx} {n : Nat} {w : World} (hn : n ≤ c.n) {v v' : V} (h : (if v.low n then some v else none) = some v') : FrzOK L c n w v v' := by
  split at h
  · rename_i hl
    cases h
    exact ⟨rfl, rfl, fun _ _ h => h, fun us h => cut_aux hn v hl us h⟩
  · cases h

theorem frz_ok (hL : L.OK) {c : Ctx} {n : Nat} {h : Hp} {w : World} (hs : Sim L c h w) (hn : n ≤ c.n) : ∀ v v' : V, frzV n h v = some v' → FrzOK L c n w v v' := by
  intro v
  induction v using V.rec (motive_2 := fun vs => ∀ vs', frzV.all n h vs = some vs' → vs'.length = vs.length ∧ vs'.map V.ty = vs.map V.ty ∧ (∀ x' ∈ vs', ∃ x ∈ vs, x'.ty = x.ty ∧ x'.solid = x.solid) ∧ (∀ us, RCs L c vs us → RCs L (c.cut n w) vs' us) ∧ (∀ us, RW L c vs us → RW L (c.cut n w) vs' us)) with
  | s x => intro v' hf; exact frz_leaf hn hf
  | ptr id path tot => intro v' hf; exact frz_leaf hn hf
  | ref id path g off len tot =>
    intro v' hf
    simp only [frzV] at hf
    split at hf
    · rename_i hid
      cases hf
      exact ⟨rfl, rfl, fun _ _ h => h, fun us h => cut_aux hn _ (by simp [V.low, hid]) us h⟩
    · rename_i hid
      split at hf
      case h_2 => cases hf
      split at hf
      case h_2 => cases hf
      rename_i g' es hrow
      split at hf
      case isFalse => cases hf
      rename_i hcond
      obtain ⟨rfl, hlen, hlow⟩ := hcond
      cases hf
      refine ⟨rfl, rfl, fun us u h => h, fun us hr => ?_⟩
      simp only [RC] at hr ⊢
      obtain ⟨a, k, rfl, hidn, hlk, hh⟩ := hr
      obtain ⟨l, hl, htot, htag, hz, _, _, hcap, hes, cs, ty, fz, hg, hsz, hfz, hrc⟩ := hs.row hrow
      obtain ⟨htl, hh2⟩ := hh l hl
      obtain ⟨o, m, hro, ha, hm⟩ := hh2 htot
      simp only [Lay.row, Option.some.injEq, Prod.mk.injEq] at hro
      obtain ⟨rfl, htg, rfl⟩ := hro
      obtain ⟨_, hesl⟩ := rowOf_some hrow
      have hsub : ((es.drop off).take len).length = len := by simp; omega
      refine ⟨some a, k, by rw [hsub], by rw [hsub]; exact hlk, (fun hf => by cases hf), fun e he => hes e (List.mem_of_mem_drop (List.mem_of_mem_take he)), ?_⟩
      right
      refine ⟨l.blk, 0 + off * L.csz g', cs, ty, fz, by rw [ha], ?_, ?_⟩
      · rw [Ctx.cut_new (by omega) hl hz]; exact hg
      · refine cut_RCs hn hlow ?_
        have := RCs_sub hL hrc (fun e he => (hes e he).1) off len (by omega)
        rw [hsub]
        simp only [seg, Nat.zero_add]
        have hb : (off + len) * L.csz g' ≤ es.length * L.csz g' := Nat.mul_le_mul_right _ (by omega)
        rw [Nat.add_mul] at hb
        rw [List.drop_take, List.take_take, Nat.min_eq_left (by omega)] at this
        exact this
  | imm full g es ih =>
    intro v' hf
    simp only [frzV] at hf
    obtain ⟨es', he, rfl⟩ := Option.map_eq_some_iff.1 hf
    obtain ⟨h1, h2, h3, h4, h5⟩ := ih es' he
    refine ⟨rfl, rfl, fun us u h => h, fun us hr => ?_⟩
    simp only [RC] at hr ⊢
    obtain ⟨a, k, rfl, k1, k2, k3, k4⟩ := hr
    refine ⟨a, k, by rw [h1], by rw [h1]; exact k1, (fun hf => by cases hf), fun e he => ?_, ?_⟩
    · obtain ⟨x, hx, hx1, hx2⟩ := h3 e he
      rw [hx1, hx2]; exact k3 x hx
    · rcases k4 with rfl | ⟨b, off, cs, ty, fz, ha, hz, hr⟩
      · left; exact List.length_eq_zero_iff.1 (by simpa using h1)
      · right; exact ⟨b, off, cs, ty, fz, ha, Ctx.cut_z hz, by rw [h1]; exact h4 _ hr⟩
  | iptr v ih => intro v' hf; exact frz_leaf hn hf
  | mp id => intro v' hf; exact frz_leaf hn hf
  | st t fs ih =>
    intro v' hf
    simp only [frzV] at hf
    obtain ⟨es', he, rfl⟩ := Option.map_eq_some_iff.1 hf
    obtain ⟨h1, h2, h3, h4, h5⟩ := ih es' he
    refine ⟨rfl, rfl, fun us u h => h, fun us hr => ?_⟩
    simp only [RC] at hr ⊢
    refine ⟨h4 _ hr.1, by rw [h2]; exact hr.2.1, fun f hf => ?_⟩
    obtain ⟨x, hx, _, hx2⟩ := h3 f hf
    rw [hx2]; exact hr.2.2 x hx
  | arr t es ih =>
    intro v' hf
    simp only [frzV] at hf
    obtain ⟨es', he, rfl⟩ := Option.map_eq_some_iff.1 hf
    obtain ⟨h1, h2, h3, h4, h5⟩ := ih es' he
    refine ⟨rfl, rfl, fun us u h => h, fun us hr => ?_⟩
    simp only [RC] at hr ⊢
    obtain ⟨k1, e, k2, k3⟩ := hr
    refine ⟨h4 _ k1, e, by rw [h1]; exact k2, fun f hf => ?_⟩
    obtain ⟨x, hx, hx1, hx2⟩ := h3 f hf
    rw [hx1, hx2]; exact k3 x hx
  | tup vs ih =>
    intro v' hf
    simp only [frzV] at hf
    obtain ⟨es', he, rfl⟩ := Option.map_eq_some_iff.1 hf
    obtain ⟨h1, h2, h3, h4, h5⟩ := ih es' he
    refine ⟨rfl, rfl, fun us u h => h, fun us hr => ?_⟩
    simp only [RC] at hr ⊢
    obtain ⟨ws, k1, k2⟩ := hr
    exact ⟨ws, k1, h5 _ k2⟩
  | iface t v ih =>
    intro v' hf
    simp only [frzV] at hf
    obtain ⟨x, he, rfl⟩ := Option.map_eq_some_iff.1 hf
    obtain ⟨h1, h2, h3, h4⟩ := ih x he
    refine ⟨rfl, rfl, fun us u h => h, fun us hr => ?_⟩
    simp only [RC] at hr ⊢
    obtain ⟨u, us', k1, k2, k3⟩ := hr
    exact ⟨u, us', k1, h4 _ k2, h3 _ _ k3⟩
  | fn f cap ih => intro v' hf; exact frz_leaf hn hf
  | top => intro v' hf; exact frz_leaf hn hf
  | nil =>
    rename_i vs' hf
    simp only [frzV.all, Option.some.injEq] at hf
    subst hf
    exact ⟨rfl, rfl, fun x hx => (by cases hx), fun us h => by simpa only [RCs] using h, fun us h => by simpa only [RW] using h⟩
  | cons v vs h1 h2 =>
    rename_i vs' hf
    simp only [frzV.all] at hf
    split at hf
    case h_2 => cases hf
    rename_i x xs hx hxs
    cases hf
    obtain ⟨a1, a2, a3, a4⟩ := h1 x hx
    obtain ⟨b1, b2, b3, b4, b5⟩ := h2 xs hxs
    refine ⟨by simp [b1], by simp [a1, b2], fun y hy => ?_, fun us h => ?_, fun us h => ?_⟩
    · rcases List.mem_cons.1 hy with rfl | hy
      · exact ⟨v, List.mem_cons_self, a1, a2⟩
      · obtain ⟨z, hz, hz'⟩ := b3 y hy
        exact ⟨z, List.mem_cons_of_mem _ hz, hz'⟩
    · simp only [RCs] at h ⊢
      obtain ⟨u1, u2, rfl, k1, k2⟩ := h
      exact ⟨u1, u2, rfl, a4 _ k1, b4 _ k2⟩
    · simp only [RW] at h ⊢
      obtain ⟨u, us', rfl, ⟨u1, k1, k2⟩, k3⟩ := h
      exact ⟨u, us', rfl, ⟨u1, a4 _ k1, a3 _ _ k2⟩, b5 _ k3⟩
end Go.Vm
