/- An abstract machine for loaded programs, part 3: what it computes is what Go computes. Conditions: none. -/
import Derived.Test.YthhkalljgjmhdaaCVb
import Derived.Laws.Sem
import Derived.SizedLaws
import Derived.IntWalk
import Derived.Lib.Bytealg
/- A call is Go's: all calls. -/
namespace Go.Vm
set_option linter.unusedVariables false
set_option linter.unusedSimpArgs false
set_option linter.unusedSectionVars false
variable {P : Program} {obj : Nat → Bool} {L : Lay}

def cres (P : Program) : List ResultVar → Option (List Rs)
  | [] => some []
  | .tmp t :: rs => (cres P rs).map (.t t :: ·)
  | .cell a t :: rs => if tgB P t = true then (cres P rs).map (.cell a (tagOf P t) :: ·) else none

/-- A loaded function, as the machine's. -/
def cfn (P : Program) (obj : Nat → Bool) (fn : Func) (pure : Bool) : Option Fn :=
  match fn.body with
  | some code => match ccode P obj code, cres P fn.results.toList with
    | some k, some rs => if (fn.name == "runtime.NumGoroutine") = false then some ⟨fn.ntmps, k, rs, pure⟩ else none
    | _, _ => none
  | none => none

theorem cfn_some {fn : Func} {F : Fn} {pure : Bool} (h : cfn P obj fn pure = some F) : ∃ code, fn.body = some code ∧ ccode P obj code = some F.body ∧ cres P fn.results.toList = some F.res ∧ (fn.name == "runtime.NumGoroutine") = false ∧ F.nt = fn.ntmps := by
  unfold cfn at h
  split at h
  case h_2 => cases h
  rename_i code hb
  split at h
  case h_2 => cases h
  rename_i k rs hk hr
  split at h
  case isFalse => cases h
  rename_i hn
  cases h
  exact ⟨code, hb, hk, hr, hn, rfl⟩

def resOp (tmps : Array Value) : ResultVar → Sem Value
  | .tmp t => pure (tmps.getD t undef)
  | .cell x t => do loadVar t (← asAddr (tmps.getD x undef))

theorem results_eq (fn : Func) (tmps : Array Value) : results fn tmps = (do let vs ← fn.results.mapM (resOp tmps); pure (if h : vs.size = 1 then vs[0] else .tuple vs)) := by
  unfold results
  congr 2

theorem res_run (hL : (layOf P).OK) {c : Ctx} {h : Hp} {w : World} {fr : Fr} {a : Act} (hf : RF (layOf P) c fr a) (hs : Sim (layOf P) c h w) :
    ∀ {rvs : List ResultVar} {rs : List Rs}, cres P rvs = some rs → ∀ {vs : List V}, resVs fr h rs = some vs →
      ∃ us : List Value, (rvs.mapM (resOp a.tmps)).run P w = .ok us w ∧ RVl (layOf P) c vs us
  | [], rs, hc, vs, hv => by
    simp only [cres, Option.some.injEq] at hc
    subst hc
    simp only [resVs, Option.some.injEq] at hv
    subst hv
    exact ⟨[], rfl, trivial⟩
  | .tmp t :: rvs, rs, hc, vs, hv => by
    simp only [cres] at hc
    obtain ⟨rs', hc', rfl⟩ := Option.map_eq_some_iff.1 hc
    simp only [resVs, resV] at hv
    split at hv
    case h_2 => cases hv
    rename_i v vs' hv1 hv2
    cases hv
    cases hv1
    obtain ⟨us, h1, h2⟩ := res_run hL hf hs hc' hv2
    have hx : RV (layOf P) c (fr.getD t (.tup [])) (a.tmps.getD t undef) := copX_RV (P := P) (t := 0) hf (o := .tmp t) (x := .t t) rfl
    refine ⟨a.tmps.getD t undef :: us, ?_, hx, h2⟩
    rw [List.mapM_cons]
    simp only [resOp, Sem.run_bind, Sem.run_pure, Result.andThen_ok, h1]
  | .cell x t :: rvs, rs, hc, vs, hv => by
    simp only [cres] at hc
    split at hc
    case isFalse => cases hc
    rename_i htg
    obtain ⟨rs', hc', rfl⟩ := Option.map_eq_some_iff.1 hc
    simp only [resVs, resV] at hv
    split at hv
    case h_2 => cases hv
    rename_i v vs' hv1 hv2
    cases hv
    obtain ⟨⟨v0, h0⟩, hop, he⟩ := Option.map_eq_some_iff.1 hv1
    simp only at he
    subst he
    obtain ⟨us, h1, h2⟩ := res_run hL hf hs hc' hv2
    have hx : RV (layOf P) c (fr.getD x (.tup [])) (a.tmps.getD x undef) := copX_RV (P := P) (t := 0) hf (o := .tmp x) (x := .t x) rfl
    have hh0 : h0 = h := k_ld hop
    subst hh0
    obtain ⟨u, c', w', hr, hrv, hs', hle, hst⟩ := do_ld (P := P) hL hs (tgB_TG htg) hx hop
    -- a load leaves the world alone
    have hkey : ∃ u, (resOp a.tmps (.cell x t)).run P w = .ok u w ∧ RV (layOf P) c v0 u := by
      simp only [opLd] at hop
      split at hop
      · rename_i id path tot hxe
        split at hop
        case h_2 => cases hop
        rename_i y hn
        split at hop
        case isFalse => cases hop
        rename_i hyg
        simp only [Option.some.injEq, Prod.mk.injEq] at hop
        obtain ⟨rfl, _⟩ := hop
        obtain ⟨l, o, us, ty, fz, hl, ht, ho, hg, hfz, hle, hr⟩ := hs.node hL hn
        have hu' := ptr_live (hxe ▸ hx) hl ht ho
        obtain ⟨u, hrun, hv⟩ := run_loadVar_at (P := P) hL (ty := t) (by rw [hyg]; exact tgB_TG htg) hg hr
        refine ⟨u, ?_, hv⟩
        simp only [resOp]
        rw [hu']
        simpa [asAddr] using hrun
      · rename_i y hxe
        split at hop
        case isFalse => cases hop
        rename_i hyg
        simp only [Option.some.injEq, Prod.mk.injEq] at hop
        obtain ⟨rfl, _⟩ := hop
        obtain ⟨b, off, cs, ty, fz, hu', hz, hr⟩ := RV_iptr.1 (hxe ▸ hx)
        obtain ⟨u, hrun, hv⟩ := run_loadVar_at (P := P) hL (ty := t) (by rw [hyg]; exact tgB_TG htg) (hs.z _ _ hz) hr
        refine ⟨u, ?_, hv⟩
        simp only [resOp]
        rw [hu']
        simpa [asAddr] using hrun
      · cases hop
    obtain ⟨u, hu, hrv⟩ := hkey
    refine ⟨u :: us, ?_, hrv, h2⟩
    rw [List.mapM_cons, Sem.run_bind, hu]
    simp only [Result.andThen_ok, Sem.run_bind, h1, Sem.run_pure]

theorem results_run (hL : (layOf P).OK) {c : Ctx} {h : Hp} {w : World} {fr : Fr} {a : Act} (hf : RF (layOf P) c fr a) (hs : Sim (layOf P) c h w) {fn : Func} {rs : List Rs} (hc : cres P fn.results.toList = some rs) {vs : List V} (hv : resVs fr h rs = some vs) :
    ∃ u, (results fn a.tmps).run P w = .ok u w ∧ RV (layOf P) c (tupV vs) u := by
  obtain ⟨us, h1, h2⟩ := res_run hL hf hs hc hv
  rw [results_eq, Array.mapM_eq_mapM_toList]
  simp only [Sem.run_bind, map_eq_pure_bind, h1, Result.andThen_ok, Sem.run_pure]
  refine ⟨_, rfl, ?_⟩
  match vs, us, h2 with
  | [v], [u], h2 => exact h2.1
  | [], [], h2 => exact RV_tup.2 ⟨[], rfl, trivial⟩
  | v :: v' :: vs, u :: u' :: us, h2 => exact RV_tup.2 ⟨u :: u' :: us, rfl, h2⟩
  | [_], _ :: _ :: _, h2 => exact h2.2.elim
  | _ :: _ :: _, [_], h2 => exact h2.2.elim

/-- The functions are the program's. -/
def FnsOK (P : Program) (fns : Nat → Option Fn) : Prop := ∀ f F, fns f = some F → ∃ fn obj, P.funcs[f]? = some fn ∧ cfn P obj fn F.pure = some F

theorem RVl_replicate {c : Ctx} (n : Nat) : RVl L c (List.replicate n (.tup [])) (List.replicate n undef) := by
  induction n with
  | zero => trivial
  | succ n ih => exact ⟨RV_tup.2 ⟨[], rfl, trivial⟩, ih⟩

theorem fr0_RF {c : Ctx} {F : Fn} {args : List V} {us : List Value} (h : RVl L c args us) : RF L c (fr0 F args) { tmps := us.toArray ++ Array.replicate (F.nt - us.toArray.size) undef, defers := [] } := by
  simp only [RF, fr0, Array.toList_append, Array.toList_replicate, List.size_toArray, RVl.length h]
  exact RVl_append h (RVl_replicate _)

theorem callF_sound (hL : (layOf P).OK) {fn : Func} {f : Nat} {F : Fn} (hfn : P.funcs[f]? = some fn) (hF : cfn P obj fn F.pure = some F) {cf : Nat → Nat → List V → Hp → Option (V × Hp)} (hcf : ∀ base, CalleesOK P (layOf P) (cf base)) (hkp : ∀ base, KpF base (cf base))
    {base : Nat} {args : List V} {h : Hp} {v : V} {h' : Hp} (hr : callF cf base F args h = some (v, h')) {c : Ctx} {w : World} {us : List Value} (ha : RVl (layOf P) c args us) (hs : Sim (layOf P) c h w) : CallRes P (layOf P) c w f us v h' := by
  obtain ⟨code, hb, hcode, hres, _, hnt⟩ := cfn_some hF
  refine calls_of_wp hfn hb ?_
  rw [← hnt]
  have hrf := fr0_RF (F := F) ha
  unfold callF at hr
  split at hr
  · -- pure
    split at hr
    · cases hr
    · rename_i e fr1 h1 hne hx
      split at hr
      case h_2 => cases hr
      rename_i vs hvs
      split at hr
      case h_2 => cases hr
      rename_i v' hfz
      cases hr
      refine code_sound hL (hcf h.length) hcode hrf hs hx ?_
      intro a1 c1 w1 p1 p2 p3 p4 p5
      have hn : h.length ≤ c1.n := by rw [← hs.n]; exact p3.n
      have hlow : Low h.length h1 := (kp_exec (hkp h.length) F.body hx h.length (Nat.le_refl _) (Nat.le_refl _) hs.low).1
      obtain ⟨u, hu1, hu2⟩ := results_run hL p1 p2 hres hvs
      obtain ⟨us1, hu3, hu4⟩ := hu2
      obtain ⟨f1, f2, f3, f4⟩ := frz_ok hL p2 hn _ _ hfz
      have hR : ∃ u' c', Ending.returned u = .returned u' ∧ RV (layOf P) c' v u' ∧ Sim (layOf P) c' (h1.take h.length) w1 ∧ c.le c' ∧ St w w1 := by
        refine ⟨u, c1.cut h.length w1, rfl, ⟨us1, f4 _ hu3, f3 _ _ hu4⟩, p2.cut hn hlow, ?_, p4⟩
        have := Ctx.le_cut (w := w1) p3
        rw [hs.n] at this
        exact this
      cases e with
      | normal => exact ⟨p5, u, hu1, hR⟩
      | ret => exact ⟨p5, u, hu1, hR⟩
      | exit id => exact (hne id rfl).elim
    · cases hr
  · split at hr
    · cases hr
    · rename_i e fr1 h1 hne hx
      split at hr
      case h_2 => cases hr
      rename_i vs hvs
      cases hr
      refine code_sound hL (hcf base) hcode hrf hs hx ?_
      intro a1 c1 w1 p1 p2 p3 p4 p5
      obtain ⟨u, hu1, hu2⟩ := results_run hL p1 p2 hres hvs
      cases e with
      | normal => exact ⟨p5, u, hu1, u, c1, rfl, hu2, p2, p3, p4⟩
      | ret => exact ⟨p5, u, hu1, u, c1, rfl, hu2, p2, p3, p4⟩
      | exit id => exact (hne id rfl).elim
    · cases hr

theorem den_sound (hL : (layOf P).OK) {fns : Nat → Option Fn} {pr : Nat → List V → Hp → Option (V × Hp)} (hf : FnsOK P fns) (hp : CalleesOK P (layOf P) pr) (hkp : KpP pr) : ∀ (d base : Nat), CalleesOK P (layOf P) (den fns pr d base)
  | 0, base => fun f vs h v h' hr => by simp [den] at hr
  | d + 1, base => fun f vs h v h' hr => by
    simp only [den] at hr
    split at hr
    · rename_i F hF
      obtain ⟨fn, _, hfn, hc⟩ := hf f F hF
      obtain ⟨code, hb, _, _, hname, _⟩ := cfn_some hc
      refine ⟨⟨fn, hfn, by rw [hb]; rfl, hname⟩, fun c w us ha hs => ?_⟩
      exact callF_sound hL hfn hc (fun base => den_sound hL hf hp hkp d base) (fun base => kp_den hkp d base) hr ha hs
    · exact hp f vs h v h' hr
end Go.Vm
/- The arguments of a call, read as data: values of the abstract machine. And what a law that answers true leaves. -/
namespace Go.Vm
set_option linter.unusedVariables false
set_option linter.unusedSimpArgs false
set_option linter.unusedSectionVars false
variable {P : Program}

/-- Types that are read: numbers, truths, texts; slices, structs, arrays of such. -/
def readTy (P : Program) : Nat → TypeId → Bool
  | 0, _ => false
  | n + 1, t => tgB P t && match P.underlying t with
    | some .bool => true
    | some (.int _) => true
    | some .string => true
    | some (.slice e) => tgB P e && decide (0 < P.cellsOf e) && readTy P n e
    | some (.struct fs) => decide ((layOf P).fields (P.underlyingId t) = some (fs.toList.map fun f => tagOf P f.type)) && (P.cellsOf t == (fs.toList.map fun f => P.cellsOf f.type).sum) &&
        (List.range fs.size).all (fun i => match fs[i]? with | some f => f.offset == ((fs.toList.take i).map fun f => P.cellsOf f.type).sum | none => false) && fs.toList.all fun f => tgB P f.type && readTy P n f.type
    | some (.array k e) => decide ((layOf P).arr (P.underlyingId t) = some (k, tagOf P e)) && (P.cellsOf t == k * P.cellsOf e) && tgB P e && readTy P n e
    | _ => false

/-- A value of a type, as it is read: slices have no say of their spare room. -/
def HasTy (P : Program) : Nat → TypeId → V → Prop
  | 0, _, _ => False
  | n + 1, t, v => match P.underlying t with
    | some .bool => ∃ b, v = .s (.bool b)
    | some (.int k) => ∃ m, v = .s (.int k m) ∧ k.min ≤ m ∧ m ≤ k.max
    | some .string => ∃ s, v = .s (.string s) ∧ s.size ≤ 140737488351232
    | some (.slice e) => ∃ es, v = .imm false (tagOf P e) es ∧ es.length * P.bytesOf e ≤ 140737488351232 ∧ es.length ≤ 9223372036854775807 ∧ ∀ x ∈ es, HasTy P n e x
    | some (.struct fs) => ∃ vs, v = .st (P.underlyingId t) vs ∧ vs.length = fs.size ∧ ∀ (i : Nat) (f : Field) (x : V), fs[i]? = some f → vs[i]? = some x → HasTy P n f.type x
    | some (.array k e) => ∃ es, v = .arr (P.underlyingId t) es ∧ es.length = k ∧ ∀ x ∈ es, HasTy P n e x
    | _ => False

/-- The context of a call: all that there is is never written again. -/
def zoneOf (w : World) : Ctx := { z := fun b => (w.heap[b]?).map kept, loc := fun _ => none, n := 0 }

theorem zone_sim (L : Lay) (w : World) : Sim L (zoneOf w) [] w where
  z b o hb := by
    obtain ⟨x, hx, rfl⟩ := Option.map_eq_some_iff.1 hb
    rw [hx, real_kept]
  n := rfl
  loc id l hl := by cases hl
  live id k hk := by simp at hk
  inj i j li lj hi := by cases hi

theorem zone_cells {w : World} {b : Nat} {us : Array Value} {ty : TypeId} {fz : Nat × Nat} (h : w.heap[b]? = some (.cells us ty fz)) : (zoneOf w).z b = some (.cells us ty fz) := by simp [zoneOf, h, kept]

theorem tgB_size {t : TypeId} (h : tgB P t = true) : P.cellsOf t = (layOf P).csz (tagOf P t) := by
  simp only [tgB, Bool.and_eq_true, beq_iff_eq] at h
  exact h.2

theorem cells?_mapM (w : World) (a : Addr) : ∀ (n s : Nat) (cs : List Value), ((List.range' s n).mapM fun i => w.cell? (a.add i)) = some cs → 0 < n →
    (s = 0 → a.spot = none) ∧ ∃ us ty fz, w.heap[a.block]? = some (.cells us ty fz) ∧ cs = seg us (a.off + s) n ∧ a.off + s + n ≤ us.size
  | 0, s, cs, h, hn => by omega
  | n + 1, s, cs, h, hn => by
    rw [List.range'_succ, List.mapM_cons] at h
    obtain ⟨x, hx, h⟩ := Option.bind_eq_some_iff.1 h
    obtain ⟨xs, hxs, h⟩ := Option.bind_eq_some_iff.1 h
    simp only [Option.pure_def, Option.some.injEq] at h
    subst h
    have hblk : (a.add s).block = a.block := by unfold Addr.add; split <;> rfl
    have hoff : (a.add s).off = a.off + s := by unfold Addr.add; split <;> simp_all
    have hhead : (s = 0 → a.spot = none) ∧ ∃ us ty fz, w.heap[a.block]? = some (.cells us ty fz) ∧ us[a.off + s]? = some x := by
      unfold World.cell? at hx
      rw [hblk, hoff] at hx
      cases hg : w.heap[a.block]? with
      | none => rw [hg] at hx; cases hx
      | some ob =>
        rw [hg] at hx
        cases ob with
        | cells us ty fz =>
          simp only at hx
          by_cases hsp : (a.add s).spot.isSome = true
          · rw [if_pos hsp] at hx; cases hx
          · rw [if_neg hsp] at hx
            exact ⟨fun h0 => by subst h0; simpa [Addr.add] using hsp, us, ty, fz, rfl, hx⟩
        | _ => simp at hx
    obtain ⟨h1, us, ty, fz, h2, h3⟩ := hhead
    have hlt : a.off + s < us.size := (Array.getElem?_eq_some_iff.1 h3).1
    have h4 : seg us (a.off + s) (n + 1) = x :: seg us (a.off + (s + 1)) n := by
      have h3' : us.toList[a.off + s]? = some x := by rw [Array.getElem?_toList]; exact h3
      have hlt' : a.off + s < us.toList.length := (List.getElem?_eq_some_iff.1 h3').1
      simp only [seg]
      rw [List.drop_eq_getElem_cons hlt', List.take_succ_cons]
      have : us.toList[a.off + s] = x := by simpa [List.getElem?_eq_getElem hlt'] using h3'
      rw [this]; rfl
    by_cases hn0 : n = 0
    · subst hn0
      simp only [List.range'_zero, List.mapM_nil, Option.pure_def, Option.some.injEq] at hxs
      subst hxs
      exact ⟨h1, us, ty, fz, h2, by rw [h4]; simp [seg], by omega⟩
    · obtain ⟨_, us', ty', fz', h5, h6, h7⟩ := cells?_mapM w a n (s + 1) xs hxs (by omega)
      rw [h2] at h5; cases h5
      exact ⟨h1, us, ty, fz, h2, by rw [h4, h6], by omega⟩

theorem cells?_seg {w : World} {a : Addr} {n : Nat} {cs : List Value} (h : w.cells? 0 a n = some cs) (hn : 0 < n) :
    a.spot = none ∧ ∃ us ty fz, w.heap[a.block]? = some (.cells us ty fz) ∧ cs = seg us a.off n ∧ a.off + n ≤ us.size := by
  simp only [World.cells?, Nat.zero_le, if_true] at h
  rw [List.range_eq_range'] at h
  obtain ⟨h1, h2⟩ := cells?_mapM w a n 0 cs h hn
  exact ⟨h1 rfl, h2⟩

theorem weightsAll_le {H : Type} {e : TypeId} {b : Nat} : ∀ {ds : List (DataW H)}, (∀ x ∈ DataW.weightsAll P e ds, x ≤ b) → ∀ d ∈ ds, ∀ x ∈ d.weights P e, x ≤ b
  | [], _, d, hd => by cases hd
  | d' :: ds, h, d, hd => by
    simp only [DataW.weightsAll] at h
    rcases List.mem_cons.1 hd with rfl | hd
    · exact fun x hx => h x (List.mem_append_left _ hx)
    · exact weightsAll_le (fun x hx => h x (List.mem_append_right _ hx)) d hd

theorem seg_split (us : Array Value) (o a b : Nat) : seg us o (a + b) = seg us o a ++ seg us (o + a) b := by
  simp only [seg]
  rw [List.take_add, List.drop_drop]

/-- Parts read one by one, put together. -/
theorem parts_RCs {L : Lay} {c : Ctx} {α : Type} {e : Option Nat} {k : Nat} {us : Array Value} {Q : V → Prop} (f : Nat → Option α) (R : α → Prop) {o : Nat}
    (hread : ∀ i d, f i = some d → R d → ∃ v, RC L c v (seg us (o + i * k) k) ∧ v.ty = e ∧ v.solid = true ∧ Q v) :
    ∀ (n s : Nat) (ds : List α), ((List.range' s n).mapM f) = some ds → (∀ d ∈ ds, R d) → ∃ es : List V, es.length = n ∧ RCs L c es (seg us (o + s * k) (n * k)) ∧ ∀ x ∈ es, x.ty = e ∧ x.solid = true ∧ Q x
  | 0, s, ds, h, hR => ⟨[], rfl, by simp [RCs, seg], fun x hx => (by cases hx)⟩
  | n + 1, s, ds, h, hR => by
    rw [List.range'_succ, List.mapM_cons] at h
    obtain ⟨x, hx, h⟩ := Option.bind_eq_some_iff.1 h
    obtain ⟨xs, hxs, h⟩ := Option.bind_eq_some_iff.1 h
    simp only [Option.pure_def, Option.some.injEq] at h
    subst h
    obtain ⟨v, h1, h2, h3, h4⟩ := hread s x hx (hR x List.mem_cons_self)
    obtain ⟨es, h5, h6, h7⟩ := parts_RCs f R hread n (s + 1) xs hxs (fun d hd => hR d (List.mem_cons_of_mem _ hd))
    refine ⟨v :: es, by simp [h5], ?_, fun y hy => ?_⟩
    · simp only [RCs]
      refine ⟨_, _, ?_, h1, h6⟩
      rw [Nat.add_mul n 1, Nat.one_mul, Nat.add_comm (n * k) k, seg_split, Nat.add_assoc]
      congr 2
      rw [Nat.add_mul s 1, Nat.one_mul]
    · rcases List.mem_cons.1 hy with rfl | hy
      · exact ⟨h2, h3, h4⟩
      · exact h7 y hy
end Go.Vm
/- The arguments of a call, read as data: each is a value of the abstract machine. -/
namespace Go.Vm
set_option linter.unusedVariables false
set_option linter.unusedSimpArgs false
set_option linter.unusedSectionVars false
variable {P : Program}

theorem add_block (a : Addr) (n : Nat) : (a.add n).block = a.block := by unfold Addr.add; split <;> rfl
theorem add_off (a : Addr) (n : Nat) : (a.add n).off = a.off + n := by unfold Addr.add; split <;> simp_all

def WOK {H : Type} (P : Program) (t : TypeId) (d : DataW H) : Prop := ∀ x ∈ d.weights P t, x ≤ 140737488351232

theorem fields_read {H : Type} {enc : TypeId × Value → H} {w : World} {fuel n : Nat}
    (ih : ∀ {t : TypeId} {cs : List Value} {d : DataW H} {ps : List MemPlace}, readTy P n t = true → DataW.trod enc P w 0 (fun _ => true) true fuel t cs = some (d, ps) → WOK P t d → ∃ v, RC (layOf P) (zoneOf w) v cs ∧ v.ty = tagOf P t ∧ v.solid = true ∧ HasTy P n t v) {cs : List Value} :
    ∀ (fs pre : List Field) (xs : List (DataW H × List MemPlace)), (∀ f ∈ fs, tgB P f.type = true ∧ readTy P n f.type = true) → (∀ i f, fs[i]? = some f → f.offset = (((pre ++ fs).take (pre.length + i)).map fun f => P.cellsOf f.type).sum) →
      (fs.mapM fun f => DataW.trod enc P w 0 (fun _ => true) true fuel f.type ((cs.drop f.offset).take (P.cellsOf f.type))) = some xs → (∀ x ∈ DataW.weightsEach P (fs.map (·.type)) (xs.map (·.1)), x ≤ 140737488351232) →
      cs.length = ((pre ++ fs).map fun f => P.cellsOf f.type).sum →
      ∃ vs : List V, vs.length = fs.length ∧ RCs (layOf P) (zoneOf w) vs (cs.drop (pre.map fun f => P.cellsOf f.type).sum) ∧ vs.map V.ty = fs.map (fun f => tagOf P f.type) ∧ (∀ v ∈ vs, v.solid = true) ∧ ∀ (i : Nat) (f : Field) (x : V), fs[i]? = some f → vs[i]? = some x → HasTy P n f.type x
  | [], pre, xs, h1, h2, h3, h4, h5 => by
    refine ⟨[], rfl, ?_, rfl, fun v hv => (by cases hv), fun i f x hf => by simp at hf⟩
    simp only [List.append_nil] at h5
    simp only [RCs]
    rw [← h5, List.drop_length]
  | f :: fs, pre, xs, h1, h2, h3, h4, h5 => by
    rw [List.mapM_cons] at h3
    obtain ⟨x, hx, h3⟩ := Option.bind_eq_some_iff.1 h3
    obtain ⟨xs', hxs, h3⟩ := Option.bind_eq_some_iff.1 h3
    simp only [Option.pure_def, Option.some.injEq] at h3
    subst h3
    simp only [List.map_cons, DataW.weightsEach] at h4
    obtain ⟨v, a1, a2, a3, a4⟩ := ih (h1 f List.mem_cons_self).2 hx (fun y hy => h4 y (List.mem_append_left _ hy))
    obtain ⟨vs, b1, b2, b3, b4, b5⟩ := fields_read ih fs (pre ++ [f]) xs' (fun g hg => h1 g (List.mem_cons_of_mem _ hg)) (fun i g hg => by
      have := h2 (i + 1) g (by simpa using hg)
      rw [this]
      congr 2
      rw [List.append_assoc, List.singleton_append, List.length_append, List.length_singleton]
      congr 1; omega) hxs (fun y hy => h4 y (List.mem_append_right _ hy)) (by rw [h5]; simp)
    have hoff : f.offset = (pre.map fun f => P.cellsOf f.type).sum := by
      have := h2 0 f rfl
      rw [this]; simp
    refine ⟨v :: vs, by simp [b1], ?_, by simp [a2, b3], fun y hy => ?_, fun i g y hg hy => ?_⟩
    · simp only [RCs]
      refine ⟨_, _, ?_, a1, b2⟩
      rw [hoff]
      simp only [List.map_append, List.map_cons, List.map_nil, List.sum_append, List.sum_cons, List.sum_nil, Nat.add_zero]
      rw [← List.drop_drop, List.take_append_drop]
    · rcases List.mem_cons.1 hy with rfl | hy
      · exact a3
      · exact b4 y hy
    · cases i with
      | zero =>
        simp only [List.getElem?_cons_zero, Option.some.injEq] at hg hy
        subst hg hy
        exact a4
      | succ i => exact b5 i g y (by simpa using hg) (by simpa using hy)

section
variable {H : Type} {enc : TypeId × Value → H} {w : World} {fuel : Nat} {t : TypeId} {cs : List Value} {d : DataW H} {ps : List MemPlace}
theorem trodBool (hu : P.underlying t = some .bool) (h : DataW.trod enc P w 0 (fun _ => true) true (fuel + 1) t cs = some (d, ps)) : ∃ b, cs = [.bool b] := by
  simp only [DataW.trod, hu] at h
  split at h <;> first | (rename_i b _; exact ⟨_, rfl⟩) | simp_all
theorem trodInt {k : IntKind} (hu : P.underlying t = some (.int k)) (h : DataW.trod enc P w 0 (fun _ => true) true (fuel + 1) t cs = some (d, ps)) : ∃ m, cs = [.int k m] ∧ k.min ≤ m ∧ m ≤ k.max := by
  simp only [DataW.trod, hu] at h
  split at h <;> first | (simp_all [Lit.wf]; done)
theorem trodStr (hu : P.underlying t = some .string) (h : DataW.trod enc P w 0 (fun _ => true) true (fuel + 1) t cs = some (d, ps)) : ∃ s, cs = [.string s] ∧ d = .lit (.string s.data.toList) := by
  simp only [DataW.trod, hu] at h
  split at h <;> first | (simp_all; done)
theorem trodStruct {fs : Array Field} (hu : P.underlying t = some (.struct fs)) (h : DataW.trod enc P w 0 (fun _ => true) true (fuel + 1) t cs = some (d, ps)) : cs.length = P.cellsOf t ∧
    ∃ xs, (fs.toList.mapM fun f => DataW.trod enc P w 0 (fun _ => true) true fuel f.type ((cs.drop f.offset).take (P.cellsOf f.type))) = some xs ∧ d = .agg (xs.map (·.1)) := by
  simp only [DataW.trod, hu] at h
  split at h
  · rename_i hlen
    obtain ⟨xs, hxs, he⟩ := Option.map_eq_some_iff.1 h
    simp only [Prod.mk.injEq] at he
    exact ⟨hlen, xs, hxs, he.1.symm⟩
  · cases h
theorem trodArr {k : Nat} {e : TypeId} (hu : P.underlying t = some (.array k e)) (h : DataW.trod enc P w 0 (fun _ => true) true (fuel + 1) t cs = some (d, ps)) : cs.length = P.cellsOf t ∧
    ∃ xs, ((List.range k).mapM fun i => DataW.trod enc P w 0 (fun _ => true) true fuel e ((cs.drop (i * P.cellsOf e)).take (P.cellsOf e))) = some xs ∧ d = .agg (xs.map (·.1)) := by
  simp only [DataW.trod, hu] at h
  split at h
  · rename_i hlen
    obtain ⟨xs, hxs, he⟩ := Option.map_eq_some_iff.1 h
    simp only [Prod.mk.injEq] at he
    exact ⟨hlen, xs, hxs, he.1.symm⟩
  · cases h
theorem trodSlice {e : TypeId} (hu : P.underlying t = some (.slice e)) (h : DataW.trod enc P w 0 (fun _ => true) true (fuel + 1) t cs = some (d, ps)) : (cs = [.slice none 0 0]) ∨
    ∃ a len cap elems rest, cs = [.slice (some a) len cap] ∧ len ≤ cap ∧ cap ≤ maxLen ∧ ((List.range len).mapM fun i => (w.cells? 0 (a.add (i * P.cellsOf e)) (P.cellsOf e)).bind (DataW.trod enc P w 0 (fun _ => true) true fuel e)) = some elems ∧ d = .slice (elems.map (·.1)) rest := by
  simp only [DataW.trod, hu] at h
  split at h <;> first | (simp_all; done) | skip
  rename_i heq
  cases heq
  right
  split at h
  · rename_i a len cap hcond
    obtain ⟨elems, hel, h⟩ := Option.bind_eq_some_iff.1 h
    obtain ⟨rest, hrest, he⟩ := Option.map_eq_some_iff.1 h
    simp only [Prod.mk.injEq] at he
    exact ⟨a, len, cap, elems, _, rfl, hcond.2.1, hcond.2.2, hel, he.1.symm⟩
  · cases h

theorem mapM_len {α β : Type} {f : α → Option β} : ∀ {l : List α} {ys : List β}, l.mapM f = some ys → ys.length = l.length
  | [], ys, h => by simp only [List.mapM_nil, Option.pure_def, Option.some.injEq] at h; subst h; rfl
  | a :: l, ys, h => by
    rw [List.mapM_cons] at h
    obtain ⟨x, hx, h⟩ := Option.bind_eq_some_iff.1 h
    obtain ⟨xs, hxs, h⟩ := Option.bind_eq_some_iff.1 h
    simp only [Option.pure_def, Option.some.injEq] at h
    subst h
    simp [mapM_len hxs]

theorem read_ok (hL : (layOf P).OK) : ∀ (n fuel : Nat) {t : TypeId} {cs : List Value} {d : DataW H} {ps : List MemPlace}, readTy P n t = true → DataW.trod enc P w 0 (fun _ => true) true fuel t cs = some (d, ps) → WOK P t d →
    ∃ v, RC (layOf P) (zoneOf w) v cs ∧ v.ty = tagOf P t ∧ v.solid = true ∧ HasTy P n t v
  | 0, fuel, t, cs, d, ps, hr, h, hw => by simp [readTy] at hr
  | n + 1, 0, t, cs, d, ps, hr, h, hw => by simp [DataW.trod] at h
  | n + 1, fuel + 1, t, cs, d, ps, hr, h, hw => by
    simp only [readTy, Bool.and_eq_true] at hr
    obtain ⟨htg, hr⟩ := hr
    have ih := fun {t : TypeId} {cs : List Value} {d : DataW H} {ps : List MemPlace} => read_ok hL n fuel (t := t) (cs := cs) (d := d) (ps := ps)
    split at hr
    · rename_i hu
      obtain ⟨b, rfl⟩ := trodBool hu h
      exact ⟨.s (.bool b), by simp [RC, Value.oneCell'], by simp [V.ty, tagOf, hu], rfl, by simp only [HasTy, hu]; exact ⟨b, rfl⟩⟩
    · rename_i k hu
      obtain ⟨m, rfl, h1, h2⟩ := trodInt hu h
      exact ⟨.s (.int k m), by simp [RC, Value.oneCell'], by simp [V.ty, tagOf, hu], rfl, by simp only [HasTy, hu]; exact ⟨m, rfl, h1, h2⟩⟩
    · rename_i hu
      obtain ⟨s, rfl, rfl⟩ := trodStr hu h
      refine ⟨.s (.string s), by simp [RC, Value.oneCell'], by simp [V.ty, tagOf, hu], rfl, ?_⟩
      simp only [HasTy, hu]
      exact ⟨s, rfl, by have := hw s.data.toList.length (by simp [DataW.weights]); simpa using this⟩
    · rename_i e hu
      simp only [Bool.and_eq_true, decide_eq_true_eq] at hr
      obtain ⟨⟨hte, hpos⟩, hre⟩ := hr
      have hk := tgB_size hte
      rcases trodSlice hu h with rfl | ⟨a, len, cap, elems, rest, rfl, hlc, hcm, hel, rfl⟩
      · refine ⟨.imm false (tagOf P e) [], ?_, by simp [V.ty, tagOf, hu], rfl, ?_⟩
        · simp only [RC]
          exact ⟨none, 0, rfl, Nat.le_refl _, fun _ => rfl, fun x hx => (by cases hx), Or.inl trivial⟩
        · simp only [HasTy, hu]
          exact ⟨[], rfl, by simp, by simp, fun x hx => (by cases hx)⟩
      · have hw' : (elems.length + rest.length) * P.bytesOf e ≤ 140737488351232 ∧ ∀ x ∈ elems, WOK P e x.1 := by
          simp only [WOK, DataW.weights, hu, List.length_map] at hw
          refine ⟨hw _ List.mem_cons_self, fun x hx y hy => ?_⟩
          exact weightsAll_le (fun z hz => hw z (List.mem_cons_of_mem _ (List.mem_append_left _ hz))) x.1 (List.mem_map_of_mem hx) y hy
        by_cases hlen : len = 0
        · subst hlen
          refine ⟨.imm false (tagOf P e) [], ?_, by simp [V.ty, tagOf, hu], rfl, ?_⟩
          · simp only [RC]
            exact ⟨some a, cap, rfl, Nat.zero_le _, (fun hf => by cases hf), fun x hx => (by cases hx), Or.inl trivial⟩
          · simp only [HasTy, hu]
            exact ⟨[], rfl, by simp, by simp, fun x hx => (by cases hx)⟩
        · -- the block
          have h0 : ∃ us ty fz, a.spot = none ∧ w.heap[a.block]? = some (.cells us ty fz) := by
            obtain ⟨m, rfl⟩ : ∃ m, len = m + 1 := ⟨len - 1, by omega⟩
            rw [List.range_eq_range', List.range'_succ, List.mapM_cons] at hel
            obtain ⟨x, hx, _⟩ := Option.bind_eq_some_iff.1 hel
            obtain ⟨cs', hc, _⟩ := Option.bind_eq_some_iff.1 hx
            obtain ⟨h1, us, ty, fz, h2, _⟩ := cells?_seg hc hpos
            simp only [Nat.zero_mul, Addr.add, if_true] at h1 h2
            exact ⟨us, ty, fz, h1, h2⟩
          obtain ⟨us, ty, fz, hsp, hblk⟩ := h0
          rw [List.range_eq_range'] at hel
          obtain ⟨es, h1, h2, h3⟩ := parts_RCs (L := layOf P) (c := zoneOf w) (e := tagOf P e) (k := P.cellsOf e) (us := us) (Q := HasTy P n e) (o := a.off) _ (fun x : DataW H × List MemPlace => WOK P e x.1) (fun i x hx hR => by
            obtain ⟨cs', hc, hx⟩ := Option.bind_eq_some_iff.1 hx
            obtain ⟨_, us', ty', fz', hg, hcs, _⟩ := cells?_seg hc hpos
            rw [add_block, hblk] at hg
            cases hg
            rw [add_off] at hcs
            rw [← hcs]
            exact ih hre hx hR) len 0 elems hel hw'.2
          have hlenE : elems.length = len := by
            have := mapM_len hel
            simpa using this
          refine ⟨.imm false (tagOf P e) es, ?_, by simp [V.ty, tagOf, hu], rfl, ?_⟩
          · simp only [RC]
            refine ⟨some a, cap, by rw [h1], by rw [h1]; exact hlc, (fun hf => by cases hf), fun x hx => ⟨(h3 x hx).1, (h3 x hx).2.1⟩, Or.inr ⟨a.block, a.off, us, ty, fz, ?_, zone_cells hblk, ?_⟩⟩
            · cases a; simp only at hsp; subst hsp; rfl
            · rw [Nat.zero_mul, Nat.add_zero] at h2
              rw [h1, ← hk]; exact h2
          · simp only [HasTy, hu]
            refine ⟨es, rfl, ?_, ?_, fun x hx => (h3 x hx).2.2⟩
            · refine Nat.le_trans ?_ hw'.1
              exact Nat.mul_le_mul_right _ (by omega)
            · have : maxLen = 9223372036854775807 := rfl
              omega
    · rename_i fs hu
      simp only [Bool.and_eq_true, decide_eq_true_eq, beq_iff_eq, List.all_eq_true] at hr
      obtain ⟨⟨⟨hfl, hsz⟩, hoffs⟩, hfs⟩ := hr
      obtain ⟨hlen, xs, hxs, rfl⟩ := trodStruct hu h
      have hwt : ∀ x ∈ DataW.weightsEach P (fs.toList.map (·.type)) (xs.map (·.1)), x ≤ 140737488351232 := by
        simp only [WOK, DataW.weights, hu] at hw
        exact hw
      obtain ⟨vs, a1, a2, a3, a4, a5⟩ := fields_read ih fs.toList [] xs (fun f hf => ⟨(hfs f hf).1, (hfs f hf).2⟩) (fun i f hf => by
        have hi : i < fs.size := by have := (List.getElem?_eq_some_iff.1 hf).1; simpa using this
        have := hoffs i (List.mem_range.2 hi)
        rw [← Array.getElem?_toList, hf] at this
        simpa using this) hxs hwt (by rw [hlen, hsz]; rfl)
      have htag : tagOf P t = some (P.underlyingId t) := by simp [tagOf, hu]
      refine ⟨.st (P.underlyingId t) vs, ?_, by simp [V.ty, htag], rfl, ?_⟩
      · simp only [RC]
        exact ⟨by simpa using a2, by rw [hfl, a3], a4⟩
      · simp only [HasTy, hu]
        exact ⟨vs, rfl, by simpa using a1, fun i f x hf hx => a5 i f x (by rw [Array.getElem?_toList]; exact hf) hx⟩
    · rename_i k e hu
      simp only [Bool.and_eq_true, decide_eq_true_eq, beq_iff_eq] at hr
      obtain ⟨⟨⟨har, hsz⟩, hte⟩, hre⟩ := hr
      have hk := tgB_size hte
      obtain ⟨hlen, xs, hxs, rfl⟩ := trodArr hu h
      have hwt : ∀ x ∈ xs, WOK P e x.1 := fun x hx y hy => by
        simp only [WOK, DataW.weights, hu] at hw
        exact weightsAll_le hw x.1 (List.mem_map_of_mem hx) y hy
      rw [List.range_eq_range'] at hxs
      obtain ⟨es, h1, h2, h3⟩ := parts_RCs (L := layOf P) (c := zoneOf w) (e := tagOf P e) (k := P.cellsOf e) (us := cs.toArray) (Q := HasTy P n e) (o := 0) _ (fun x : DataW H × List MemPlace => WOK P e x.1) (fun i x hx hR => by
        have := ih hre hx hR
        simpa [seg] using this) k 0 xs hxs hwt
      have htag : tagOf P t = some (P.underlyingId t) := by simp [tagOf, hu]
      refine ⟨.arr (P.underlyingId t) es, ?_, by simp [V.ty, htag], rfl, ?_⟩
      · simp only [RC]
        refine ⟨?_, tagOf P e, by rw [h1]; exact har, fun x hx => ⟨(h3 x hx).1, (h3 x hx).2.1⟩⟩
        have e1 : seg cs.toArray (0 + 0 * P.cellsOf e) (k * P.cellsOf e) = cs := by
          simp only [seg, Nat.zero_mul, Nat.zero_add, List.drop_zero]
          rw [← hsz, ← hlen]; exact List.take_length
        rw [← e1]; exact h2
      · simp only [HasTy, hu]
        exact ⟨es, rfl, h1, fun x hx => (h3 x hx).2.2⟩
    · cases hr
end
end Go.Vm
/- A law that answers true: from the abstract machine's run to the row's statement. -/
namespace Go.Vm
set_option linter.unusedVariables false
set_option linter.unusedSimpArgs false
set_option linter.unusedSectionVars false
open Go.RowKit Go.ChangeShapes
variable {P : Program}

/-- Arguments, each of its type. -/
def HasTys (P : Program) (n : Nat) : List TypeId → List V → Prop
  | [], [] => True
  | t :: ts, x :: xs => HasTy P n t x ∧ HasTys P n ts xs
  | _, _ => False

theorem arg_RV {w : World} {n : Nat} {t : TypeId} {u : Value} {base : Nat} {v : V} (hr : readTy P n t = true) (hok : Value.okWide P w .any base t u) (h : RC (layOf P) (zoneOf w) v u.cells.toList) (hv : v.ty = tagOf P t) : RV (layOf P) (zoneOf w) v u := by
  cases n with
  | zero => simp [readTy] at hr
  | succ n =>
    simp only [readTy, Bool.and_eq_true] at hr
    obtain ⟨_, hr⟩ := hr
    unfold Value.okWide at hok
    have leaf : tagOf P t = none → u.cells = #[u] → RV (layOf P) (zoneOf w) v u := fun h1 h2 => by
      rw [h2] at h
      exact (RV_leaf (hv.trans h1)).2 h
    split at hr
    · rename_i hu
      simp only [hu, Cell.okWide, Cell.ok] at hok
      refine leaf (by simp [tagOf, hu]) ?_
      cases u <;> first | rfl | exact hok.elim
    · rename_i hu
      simp only [hu, Cell.okWide, Cell.ok] at hok
      refine leaf (by simp [tagOf, hu]) ?_
      cases u <;> first | rfl | exact hok.elim
    · rename_i hu
      simp only [hu, Cell.okWide, Cell.ok] at hok
      refine leaf (by simp [tagOf, hu]) ?_
      cases u <;> first | rfl | exact hok.elim
    · rename_i hu
      simp only [hu, Cell.okWide, Cell.ok] at hok
      refine leaf (by simp [tagOf, hu]) ?_
      cases u <;> first | rfl | exact hok.elim
    · rename_i hu
      simp only [hu] at hok
      obtain ⟨cs, rfl, _⟩ := hok
      exact (RV_agg (hv.trans (by simp [tagOf, hu] : tagOf P t = some (P.underlyingId t)))).2 ⟨cs.toList, by simp, by simpa [Value.cells] using h⟩
    · rename_i hu
      simp only [hu] at hok
      obtain ⟨cs, rfl, _⟩ := hok
      exact (RV_agg (hv.trans (by simp [tagOf, hu] : tagOf P t = some (P.underlyingId t)))).2 ⟨cs.toList, by simp, by simpa [Value.cells] using h⟩
    · cases hr

theorem args_read {H : Type} {enc : TypeId × Value → H} (hL : (layOf P).OK) {w : World} {n base : Nat} : ∀ {ts : List TypeId} {us : List Value} {ds : List (DataW H)} {ps : List MemPlace}, (∀ t ∈ ts, readTy P n t = true) → DataW.TrodAll enc P w 0 (fun _ => true) true ts us ds ps →
    (∀ (j : Nat) t v, ts[j]? = some t → us[j]? = some v → Value.okWide P w .any base t v) → (∀ x ∈ DataW.weightsEach P ts ds, x ≤ 140737488351232) → ∃ xs, RVl (layOf P) (zoneOf w) xs us ∧ HasTys P n ts xs
  | [], [], [], ps, _, _, _, _ => ⟨[], trivial, trivial⟩
  | t :: ts, u :: us, d :: ds, ps, hr, ht, hv, hw => by
    obtain ⟨p, q, ⟨fuel, h1⟩, h2, _⟩ := ht
    simp only [DataW.weightsEach] at hw
    obtain ⟨v, a1, a2, a3, a4⟩ := read_ok hL n fuel (hr t List.mem_cons_self) h1 (fun x hx => hw x (List.mem_append_left _ hx))
    obtain ⟨xs, b1, b2⟩ := args_read hL (fun t ht => hr t (List.mem_cons_of_mem _ ht)) h2 (fun j t v h1 h2 => hv (j + 1) t v (by simpa using h1) (by simpa using h2)) (fun x hx => hw x (List.mem_append_right _ hx))
    exact ⟨v :: xs, ⟨arg_RV (hr t List.mem_cons_self) (hv 0 t u rfl rfl) a1 a2, b1⟩, a4, b2⟩
  | [], _ :: _, _, ps, _, ht, _, _ => by cases ht
  | [], [], _ :: _, ps, _, ht, _, _ => by cases ht
  | _ :: _, [], _, ps, _, ht, _, _ => by cases ht
  | _ :: _, _ :: _, [], ps, _, ht, _, _ => by cases ht

theorem args_stay {H : Type} {enc : TypeId × Value → H} (hl : laidOutB P = true) {W W' : World} (hb : Below W.heap.size W W') : ∀ {ts : List TypeId} {us : List Value} {ds : List (DataW H)} {ps : List MemPlace}, (∀ t ∈ ts, P.readableRec t = true ∧ t < P.types.size) →
    DataW.TrodAll enc P W 0 (fun _ => true) true ts us ds ps → (∀ p ∈ ps, p.block < W.heap.size) → DataW.TrodAll enc P W' 0 (fun b => decide (b < W.heap.size)) true ts us ds ps
  | [], [], [], ps, _, h, _ => h
  | t :: ts, u :: us, d :: ds, ps, hr, ht, hp => by
    obtain ⟨p, q, h1, h2, rfl⟩ := ht
    exact ⟨p, q, Below.trod hl (hr t List.mem_cons_self).1 (hr t List.mem_cons_self).2 h1 hb (fun x hx => hp x (List.mem_append_left _ hx)),
      args_stay hl hb (fun t ht => hr t (List.mem_cons_of_mem _ ht)) h2 (fun x hx => hp x (List.mem_append_right _ hx)), rfl⟩
  | [], _ :: _, _, ps, _, ht, _ => by cases ht
  | [], [], _ :: _, ps, _, ht, _ => by cases ht
  | _ :: _, [], _, ps, _, ht, _ => by cases ht
  | _ :: _, _ :: _, [], ps, _, ht, _ => by cases ht

theorem trodAll_len {H : Type} {enc : TypeId × Value → H} {w : World} {b : Nat} {sp : Nat → Bool} {hd : Bool} : ∀ {ts : List TypeId} {us : List Value} {ds : List (DataW H)} {ps : List MemPlace}, DataW.TrodAll enc P w b sp hd ts us ds ps → ds.length = ts.length
  | [], [], [], ps, _ => rfl
  | t :: ts, u :: us, d :: ds, ps, ht => by
    obtain ⟨p, q, h1, h2, rfl⟩ := ht
    simp [trodAll_len h2]
  | [], _ :: _, _, ps, ht => by cases ht
  | [], [], _ :: _, ps, ht => by cases ht
  | _ :: _, [], _, ps, ht => by cases ht
  | _ :: _, _ :: _, [], ps, ht => by cases ht

/-- A law that answers true, whatever it is asked: its row's contract. -/
theorem law_post {H : Type} {enc : TypeId × Value → H} (hL : (layOf P).OK) (hl : laidOutB P = true) {f : Func} {fid : FuncId} {s : ChangeSpec} {apart fresh handsOn : Bool} {n : Nat} {cf : Nat → List V → Hp → Option (V × Hp)} (hcf : CalleesOK P (layOf P) cf)
    (hread : f.params.toList.all (fun t => readTy P n t && (P.readableRec t && decide (t < P.types.size))) = true) {tb : TypeId} (hres : f.resultTypes = #[tb]) (htb : P.underlying tb = some .bool)
    (hvars : s.vars = []) (hvt : s.plain.varTypes P = []) (hspec : ∀ ds : List (DataW H), ds.length = f.params.toList.length → s.fn H ds = { results := [.lit (.bool true)], args := ds })
    (hlaw : ∀ xs, HasTys P n f.params.toList xs → cf fid xs [] = some (.s (.bool true), []))
    {W : World} {base : Nat} {args : Array Value} {ds gs : List (DataW H)} {before : List MemPlace} (hval : ∀ (j : Nat) t v, f.params[j]? = some t → args[j]? = some v → Value.okWide P W .any base t v)
    (hW : DataW.Whole enc P f.params.toList s.vars apart W args.toList ds gs before) (hwt : (DataW.weightsEach P (f.params.toList ++ s.plain.varTypes P) (ds ++ gs)).all (· ≤ reachBytes) = true) :
    Calls P fid args W fun e W' => ∃ v, e = .returned v ∧ s.post enc P f apart fresh handsOn false W args v W' := by
  have hW0 := hW
  obtain ⟨p, q, hA, hV, rfl, hfz, hnd⟩ := hW
  rw [hvars] at hV
  have hgs : gs = [] ∧ q = [] := by
    cases gs with
    | nil => exact ⟨rfl, hV⟩
    | cons g gs => cases hV
  obtain ⟨rfl, rfl⟩ := hgs
  simp only [List.all_eq_true, Bool.and_eq_true, decide_eq_true_eq] at hread hwt
  rw [hvt, List.append_nil, List.append_nil] at hwt
  obtain ⟨xs, h1, h2⟩ := args_read hL (fun t ht => (hread t ht).1) hA (fun j t v hj hv => hval j t v (by rw [← Array.getElem?_toList]; exact hj) (by rw [← Array.getElem?_toList]; exact hv)) (fun x hx => hwt x hx)
  have hcall := (hcf _ _ _ _ _ (hlaw xs h2)).2 (zoneOf W) W args.toList h1 (zone_sim _ W)
  unfold CallRes at hcall
  rw [Array.toArray_toList] at hcall
  refine Calls.mono hcall fun e W' he => ?_
  obtain ⟨u, c', rfl, hv, hs', hle, hst⟩ := he
  obtain ⟨rfl, _⟩ := RV_s.1 hv
  have hb : Below W.heap.size W W' := ⟨hst.os, hst.tape, hst.output, hst.size, fun k hk => by
    have hz : (zoneOf W).z k = some (kept W.heap[k]) := by simp [zoneOf, Array.getElem?_eq_getElem hk]
    have := hs'.z k _ (hle.z k _ hz)
    rw [this, real_kept]; exact (Array.getElem?_eq_getElem hk).symm⟩
  refine ⟨_, rfl, ds, [], p ++ [], [], p, [], hW0, ?_, ?_, ?_, Below.frame hb _, fun hf => by cases hf⟩
  · rw [List.append_nil, hspec ds (trodAll_len hA), hres]
    refine ⟨[], [], ⟨1, ?_⟩, rfl, rfl⟩
    simp [DataW.trod, htb, Value.cells]
  · rw [List.append_nil, hspec ds (trodAll_len hA)]
    exact args_stay hl hb (fun t ht => (hread t ht).2) hA (fun x hx => hW0.lt x (by simpa using hx))
  · rw [List.append_nil, hspec ds (trodAll_len hA), hvars]
    rfl
end Go.Vm
/- Runs of functions however deep the calls go: no count of the calls. -/
namespace Go.Vm
set_option linter.unusedVariables false
set_option linter.unusedSimpArgs false
set_option linter.unusedSectionVars false

abbrev CF := Nat → List V → Hp → Option (V × Hp)

/-- What c answers, all later ones of G do. -/
def Ap (c : CF) (G : Nat → CF) : Prop := ∀ f vs h r, c f vs h = some r → ∃ n, ∀ d, n ≤ d → G d f vs h = some r

section
variable {c : CF} {G : Nat → CF} (ha : Ap c G) {base : Nat}
include ha

theorem opV_ap {h : Hp} {o : O} {vs : List V} {r : V × Hp} (hr : opV c base h o vs = some r) : ∃ n, ∀ d, n ≤ d → opV (G d) base h o vs = some r := by
  cases o with
  | call f => exact ha f vs h r hr
  | callp f =>
    simp only [opV] at hr ⊢
    cases hc : c f vs h with
    | none => rw [hc] at hr; cases hr
    | some q =>
      obtain ⟨n, hn⟩ := ha f vs h q hc
      exact ⟨n, fun d hd => by rw [hn d hd, ← hc]; exact hr⟩
  | callv =>
    rcases vs with _ | ⟨x, xs⟩
    · simp [opV] at hr
    · cases x <;> simp only [opV] at hr ⊢ <;> first | exact ha _ _ _ _ hr | cases hr
  | _ => exact ⟨0, fun d _ => by
      rcases vs with _ | ⟨x, _ | ⟨y, _ | ⟨z, _ | ⟨u, vs⟩⟩⟩⟩ <;> exact hr⟩

theorem stepG_ap {fr : Fr} {h : Hp} {g : Vm.G} {r : V × Hp} (hr : stepG c base fr h g = some r) : ∃ n, ∀ d, n ≤ d → stepG (G d) base fr h g = some r := by
  unfold stepG at hr ⊢
  cases hw : want fr g with
  | none => rw [hw] at hr; cases hr
  | some b =>
    rw [hw] at hr
    cases b with
    | true => exact opV_ap ha hr
    | false => exact ⟨0, fun d _ => hr⟩

theorem runG_ap : ∀ {gs : List Vm.G} {fr : Fr} {h : Hp} {r : Fr × Hp}, runG c base gs fr h = some r → ∃ n, ∀ d, n ≤ d → runG (G d) base gs fr h = some r
  | [], fr, h, r, hr => ⟨0, fun d _ => hr⟩
  | g :: gs, fr, h, r, hr => by
    simp only [runG] at hr
    split at hr
    case h_2 => cases hr
    rename_i v h' hst
    obtain ⟨n, hn⟩ := stepG_ap ha hst
    obtain ⟨m, hm⟩ := runG_ap hr
    exact ⟨max n m, fun d hd => by simp only [runG]; rw [hn d (by omega)]; exact hm d (by omega)⟩

theorem runD_ap : ∀ {gs : List GD} {fr : Fr} {h : Hp} {hs : List Hp} {xs : List Seen} {r : Fr × Hp × List Hp × List Seen}, runD c base gs fr h hs xs = some r → ∃ n, ∀ d, n ≤ d → runD (G d) base gs fr h hs xs = some r
  | [], fr, h, hs, xs, r, hr => ⟨0, fun d _ => hr⟩
  | g :: gs, fr, h, hs, xs, r, hr => by
    simp only [runD] at hr
    split at hr
    case h_2 => cases hr
    rename_i v h' hst
    obtain ⟨n, hn⟩ := stepG_ap ha hst
    split at hr
    · rename_i he
      obtain ⟨m, hm⟩ := runD_ap hr
      exact ⟨max n m, fun d hd => by simp only [runD]; rw [hn d (by omega)]; simp only [he, if_true]; exact hm d (by omega)⟩
    · rename_i he
      obtain ⟨m, hm⟩ := runD_ap hr
      exact ⟨max n m, fun d hd => by simp only [runD]; rw [hn d (by omega)]; simp only [he]; exact hm d (by omega)⟩

theorem sameIn_ap {fr : Fr} {g : Vm.G} {v : V} : ∀ {hs : List Hp}, sameIn c base fr g v hs → ∃ n, ∀ d, n ≤ d → sameIn (G d) base fr g v hs
  | [], _ => ⟨0, fun d _ => trivial⟩
  | h :: hs, ⟨h1, h2⟩ => by
    obtain ⟨n, hn⟩ := stepG_ap ha h1
    obtain ⟨m, hm⟩ := sameIn_ap h2
    exact ⟨max n m, fun d hd => ⟨hn d (by omega), hm d (by omega)⟩⟩

theorem allSame_ap {hs : List Hp} : ∀ {xs : List Seen}, allSame c base hs xs → ∃ n, ∀ d, n ≤ d → allSame (G d) base hs xs
  | [], _ => ⟨0, fun d _ => trivial⟩
  | x :: xs, ⟨h1, h2⟩ => by
    obtain ⟨n, hn⟩ := sameIn_ap ha h1
    obtain ⟨m, hm⟩ := allSame_ap h2
    exact ⟨max n m, fun d hd => ⟨hn d (by omega), hm d (by omega)⟩⟩

theorem regD_ap {gs : List GD} {fr : Fr} {h : Hp} {r : Fr × Hp} (hr : regD c base gs fr h = some r) : ∃ n, ∀ d, n ≤ d → regD (G d) base gs fr h = some r := by
  unfold regD at hr ⊢
  split at hr
  case h_2 => cases hr
  rename_i fr' h' hs xs hd
  split at hr
  case isFalse => cases hr
  rename_i hs
  obtain ⟨n, hn⟩ := runD_ap ha hd
  obtain ⟨m, hm⟩ := allSame_ap ha hs.2
  exact ⟨max n m, fun d hd => by rw [hn d (by omega)]; simp only; rw [if_pos ⟨hs.1, hm d (by omega)⟩]; exact hr⟩

theorem exec_ap : ∀ {k : C} {fr : Fr} {h : Hp} {r : Ex × Fr × Hp}, exec c base k fr h = some r → ∃ n, ∀ d, n ≤ d → exec (G d) base k fr h = some r := by
  intro k
  induction k with
  | reg gs =>
    intro fr h r hr
    simp only [exec] at hr ⊢
    obtain ⟨q, hq, rfl⟩ := Option.map_eq_some_iff.1 hr
    obtain ⟨n, hn⟩ := runG_ap ha hq
    exact ⟨n, fun d hd => by rw [hn d hd]; rfl⟩
  | regD gs =>
    intro fr h r hr
    simp only [exec] at hr ⊢
    obtain ⟨q, hq, rfl⟩ := Option.map_eq_some_iff.1 hr
    obtain ⟨n, hn⟩ := regD_ap ha hq
    exact ⟨n, fun d hd => by rw [hn d hd]; rfl⟩
  | seq a b iha ihb =>
    intro fr h r hr
    simp only [exec] at hr ⊢
    split at hr
    · rename_i fr1 h1 hx
      obtain ⟨n, hn⟩ := iha hx
      obtain ⟨m, hm⟩ := ihb hr
      exact ⟨max n m, fun d hd => by rw [hn d (by omega)]; exact hm d (by omega)⟩
    · rename_i hne
      obtain ⟨n, hn⟩ := iha hr
      refine ⟨n, fun d hd => ?_⟩
      rw [hn d hd]
      obtain ⟨e, f1, h1⟩ := r
      cases e with
      | normal => exact absurd hr (hne f1 h1)
      | exit id => rfl
      | ret => rfl
  | cond x a b iha ihb =>
    intro fr h r hr
    simp only [exec] at hr ⊢
    split at hr
    · exact iha hr
    · exact ihb hr
    · cases hr
  | block id a iha =>
    intro fr h r hr
    simp only [exec] at hr ⊢
    split at hr
    · rename_i id' fr1 h1 hx
      obtain ⟨n, hn⟩ := iha hx
      exact ⟨n, fun d hd => by rw [hn d hd]; exact hr⟩
    · rename_i hne
      obtain ⟨n, hn⟩ := iha hr
      refine ⟨n, fun d hd => ?_⟩
      rw [hn d hd]
      obtain ⟨e, f1, h1⟩ := r
      cases e with
      | exit id => exact absurd hr (hne id f1 h1)
      | normal => rfl
      | ret => rfl
  | loop a iha =>
    intro fr h r hr
    simp only [exec] at hr ⊢
    obtain ⟨k, hk⟩ := loopF_iter.1 hr
    have key : ∀ (k : Nat) (fr : Fr) (h : Hp), iter (exec c base a) k fr h = some r → ∃ n, ∀ d, n ≤ d → iter (exec (G d) base a) k fr h = some r := by
      intro k
      induction k with
      | zero => intro fr h hk; simp [iter] at hk
      | succ k ih =>
        intro fr h hk
        simp only [iter] at hk ⊢
        split at hk
        · rename_i fr1 h1 hx
          obtain ⟨n, hn⟩ := iha hx
          obtain ⟨m, hm⟩ := ih _ _ hk
          exact ⟨max n m, fun d hd => by rw [hn d (by omega)]; exact hm d (by omega)⟩
        · rename_i hne
          obtain ⟨n, hn⟩ := iha hk
          refine ⟨n, fun d hd => ?_⟩
          rw [hn d hd]
          obtain ⟨e, f1, h1⟩ := r
          cases e with
          | normal => exact absurd hk (hne f1 h1)
          | exit id => rfl
          | ret => rfl
    obtain ⟨n, hn⟩ := key k fr h hk
    exact ⟨n, fun d hd => loopF_iter.2 ⟨k, hn d hd⟩⟩
  | skip => intro fr h r hr; exact ⟨0, fun d _ => hr⟩
  | exit id => intro fr h r hr; exact ⟨0, fun d _ => hr⟩
  | ret => intro fr h r hr; exact ⟨0, fun d _ => hr⟩
end

theorem callF_ap {c : Nat → CF} {G : Nat → Nat → CF} (ha : ∀ base, Ap (c base) (fun d => G d base)) {base : Nat} {F : Fn} {args : List V} {h : Hp} {r : V × Hp} (hr : callF c base F args h = some r) :
    ∃ n, ∀ d, n ≤ d → callF (G d) base F args h = some r := by
  unfold callF at hr ⊢
  by_cases hp : F.pure = true
  · simp only [hp, if_true] at hr ⊢
    cases hx : exec (c h.length) h.length F.body (fr0 F args) h with
    | none => rw [hx] at hr; cases hr
    | some q =>
      rw [hx] at hr
      obtain ⟨n, hn⟩ := exec_ap (ha _) hx
      exact ⟨n, fun d hd => by rw [hn d hd]; exact hr⟩
  · simp only [hp] at hr ⊢
    cases hx : exec (c base) base F.body (fr0 F args) h with
    | none => rw [hx] at hr; cases hr
    | some q =>
      rw [hx] at hr
      obtain ⟨n, hn⟩ := exec_ap (ha _) hx
      exact ⟨n, fun d hd => by rw [hn d hd]; exact hr⟩

section
variable (fns : Nat → Option Fn) (pr : CF)

theorem den_up : ∀ (d base : Nat) (f : Nat) (vs : List V) (h : Hp) (r : V × Hp), den fns pr d base f vs h = some r → den fns pr (d + 1) base f vs h = some r
  | 0, base, f, vs, h, r, hr => by simp [den] at hr
  | d + 1, base, f, vs, h, r, hr => by
    rw [den] at hr ⊢
    split at hr
    · rename_i F hF
      obtain ⟨n, hn⟩ := callF_ap (c := fun base => den fns pr d base) (G := fun _ base => den fns pr (d + 1) base) (fun base f vs h r hr => ⟨0, fun _ _ => den_up d base f vs h r hr⟩) hr
      exact hn n (Nat.le_refl _)
    · exact hr

theorem den_le {d e base f : Nat} {vs : List V} {h : Hp} {r : V × Hp} (hr : den fns pr d base f vs h = some r) (hde : d ≤ e) : den fns pr e base f vs h = some r := by
  induction hde with
  | refl => exact hr
  | step _ ih => exact den_up fns pr _ _ _ _ _ _ ih

open Classical in
/-- A call, however deep it goes. -/
noncomputable def run (base : Nat) : CF := fun f vs h => if hx : ∃ d r, den fns pr d base f vs h = some r then some hx.choose_spec.choose else none

theorem run_den {base f : Nat} {vs : List V} {h : Hp} {r : V × Hp} : run fns pr base f vs h = some r ↔ ∃ d, den fns pr d base f vs h = some r := by
  unfold run
  constructor
  · intro hr
    split at hr
    · rename_i hx
      simp only [Option.some.injEq] at hr
      rw [← hr]
      exact ⟨_, hx.choose_spec.choose_spec⟩
    · cases hr
  · rintro ⟨d, hd⟩
    have hx : ∃ d r, den fns pr d base f vs h = some r := ⟨d, r, hd⟩
    rw [dif_pos hx]
    have h1 := hx.choose_spec.choose_spec
    have h2 := den_le fns pr h1 (Nat.le_max_left _ d)
    have h3 := den_le fns pr hd (Nat.le_max_right hx.choose d)
    rw [h2] at h3
    exact h3

theorem run_eq {f : Nat} {F : Fn} (hF : fns f = some F) (base : Nat) (vs : List V) (h : Hp) : run fns pr base f vs h = callF (run fns pr) base F vs h := by
  apply Option.ext
  intro r
  rw [run_den]
  constructor
  · rintro ⟨d, hd⟩
    cases d with
    | zero => simp [den] at hd
    | succ d =>
      simp only [den, hF] at hd
      obtain ⟨n, hn⟩ := callF_ap (c := fun base => den fns pr d base) (G := fun _ base => run fns pr base) (fun base f vs h r hr => ⟨0, fun _ _ => (run_den fns pr).2 ⟨d, hr⟩⟩) hd
      exact hn n (Nat.le_refl _)
  · intro hr
    obtain ⟨n, hn⟩ := callF_ap (c := run fns pr) (G := fun d base => den fns pr d base) (fun base f vs h r hr => by
      obtain ⟨d, hd⟩ := (run_den fns pr).1 hr
      exact ⟨d, fun e he => den_le fns pr hd he⟩) hr
    exact ⟨n + 1, by simp only [den, hF]; exact hn n (Nat.le_refl _)⟩

theorem run_pr {f : Nat} (hF : fns f = none) (base : Nat) (vs : List V) (h : Hp) : run fns pr base f vs h = pr f vs h := by
  apply Option.ext
  intro r
  rw [run_den]
  constructor
  · rintro ⟨d, hd⟩
    cases d with
    | zero => simp [den] at hd
    | succ d => simpa [den, hF] using hd
  · intro hr; exact ⟨1, by simpa [den, hF] using hr⟩
end

theorem run_sound {P : Program} (hL : (layOf P).OK) {fns : Nat → Option Fn} {pr : CF} (hf : FnsOK P fns) (hp : CalleesOK P (layOf P) pr) (hkp : KpP pr) (base : Nat) : CalleesOK P (layOf P) (run fns pr base) := by
  intro f vs h v h' hr
  obtain ⟨d, hd⟩ := (run_den fns pr).1 hr
  exact den_sound hL hf hp hkp d base f vs h v h' hd
end Go.Vm
/- Runs over frames that are functions; what stands behind code, rule by rule. -/
namespace Go.Vm
set_option linter.unusedVariables false
set_option linter.unusedSimpArgs false
set_option linter.unusedSectionVars false

abbrev Env := Nat → V
def Env.up (e : Env) (t : Nat) (v : V) : Env := fun n => if n = t then v else e n
def Env.put (e : Env) : Option Nat → V → Env
  | some t, v => e.up t v
  | none, _ => e
def X.on (e : Env) : X → V
  | .t n => e n
  | .c v => v
def view (fr : Fr) : Env := fun t => fr.getD t (.tup [])
def e0 (args : List V) : Env := fun t => args.getD t (.tup [])

def wantV (v : V) (b : Bool) : Option Bool :=
  match v with
  | .s (.bool b') => some (b' == b)
  | .tup [] => some false
  | _ => none
def wantE (e : Env) : Option (Nat × Bool) → Option Bool
  | none => some true
  | some (t, b) => wantV (e t) b
noncomputable def stepE (cf : CF) (base : Nat) (e : Env) (h : Hp) (g : G) : Option (V × Hp) :=
  match wantE e g.guard with
  | some true => opV cf base h g.op (g.xs.map (X.on e))
  | some false => some (.tup [], h)
  | none => none

noncomputable def runE (cf : CF) (base : Nat) : List G → Env → Hp → Option (Env × Hp)
  | [], e, h => some (e, h)
  | g :: gs, e, h => match stepE cf base e h g with
    | some (v, h') => runE cf base gs (e.put g.dst v) h'
    | none => none

structure SeenE where
  d : GD
  e : Env
  h : Hp
  v : V

def okAt (cf : CF) (base : Nat) (x : SeenE) (h : Hp) : Prop := h = x.h ∨ stepE cf base x.e h x.d.g = some (x.v, h)
def okIn (cf : CF) (base : Nat) (x : SeenE) : List Hp → Prop
  | [] => True
  | h :: hs => okAt cf base x h ∧ okIn cf base x hs
def allOk (cf : CF) (base : Nat) (hs : List Hp) : List SeenE → Prop
  | [] => True
  | x :: xs => okIn cf base x ((hs.drop x.d.lo).take (x.d.hi + 1 - x.d.lo)) ∧ allOk cf base hs xs

noncomputable def runDE (cf : CF) (base : Nat) : List GD → Env → Hp → List Hp → List SeenE → Option (Env × Hp × List Hp × List SeenE)
  | [], e, h, hs, xs => some (e, h, hs ++ [h], xs)
  | d :: ds, e, h, hs, xs => match stepE cf base e h d.g with
    | some (v, h') => if d.g.op.eff then runDE cf base ds (e.put d.g.dst v) h' (hs ++ [h]) xs else runDE cf base ds (e.put d.g.dst v) h hs (xs ++ [⟨d, e, h, v⟩])
    | none => none

open Classical in
noncomputable def regDE (cf : CF) (base : Nat) (ds : List GD) (e : Env) (h : Hp) : Option (Env × Hp) :=
  match runDE cf base ds e h [] [] with
  | some (e', h', hs, xs) => if allOk cf base hs xs then some (e', h') else none
  | none => none

abbrev OutE := Option (Ex × Env × Hp)
def iterE (f : Env → Hp → OutE) : Nat → Env → Hp → OutE
  | 0, _, _ => none
  | n + 1, e, h => match f e h with
    | some (.normal, e', h') => iterE f n e' h'
    | r => r

theorem iterE_det {f : Env → Hp → OutE} : ∀ {n m : Nat} {e : Env} {h : Hp} {r r' : Ex × Env × Hp}, iterE f n e h = some r → iterE f m e h = some r' → r = r'
  | 0, _, _, _, _, _, h1, _ => by simp [iterE] at h1
  | _ + 1, 0, _, _, _, _, _, h2 => by simp [iterE] at h2
  | n + 1, m + 1, e, h, r, r', h1, h2 => by
    simp only [iterE] at h1 h2
    split at h1
    · rename_i fr1 h1' he
      rw [he] at h2
      exact iterE_det h1 h2
    · rename_i hne
      cases hf : f e h with
      | none => rw [hf] at h1; cases h1
      | some q =>
        rw [hf] at h1 h2
        obtain ⟨x, a, b⟩ := q
        cases x with
        | normal => exact absurd hf (hne a b)
        | exit id => simp only [Option.some.injEq] at h1 h2; rw [← h1, ← h2]
        | ret => simp only [Option.some.injEq] at h1 h2; rw [← h1, ← h2]

open Classical in
noncomputable def loopE (f : Env → Hp → OutE) (e : Env) (h : Hp) : OutE :=
  if hx : ∃ r n, iterE f n e h = some r then some hx.choose else none

theorem loopE_iter {f : Env → Hp → OutE} {e : Env} {h : Hp} {r : Ex × Env × Hp} : loopE f e h = some r ↔ ∃ n, iterE f n e h = some r := by
  unfold loopE
  constructor
  · intro hr
    split at hr
    · rename_i hx
      simp only [Option.some.injEq] at hr
      rw [← hr]
      exact hx.choose_spec
    · cases hr
  · rintro ⟨n, hn⟩
    have hx : ∃ r n, iterE f n e h = some r := ⟨r, n, hn⟩
    rw [dif_pos hx]
    obtain ⟨m, hm⟩ := hx.choose_spec
    rw [iterE_det hm hn]

theorem loopE_eq (f : Env → Hp → OutE) (e : Env) (h : Hp) : loopE f e h = match f e h with
    | some (.normal, e', h') => loopE f e' h'
    | r => r := by
  apply Option.ext
  intro r
  rw [loopE_iter]
  split
  · rename_i fr' h' he
    rw [loopE_iter]
    constructor
    · rintro ⟨n, hn⟩
      cases n with
      | zero => simp [iterE] at hn
      | succ n => simp only [iterE, he] at hn; exact ⟨n, hn⟩
    · rintro ⟨n, hn⟩
      exact ⟨n + 1, by simp only [iterE, he]; exact hn⟩
  · rename_i hne
    constructor
    · rintro ⟨n, hn⟩
      cases n with
      | zero => simp [iterE] at hn
      | succ n => simp only [iterE] at hn; exact hn
    · intro hr
      refine ⟨1, ?_⟩
      simp only [iterE]
      exact hr

noncomputable def execE (cf : CF) (base : Nat) : C → Env → Hp → OutE
  | .skip, e, h => some (.normal, e, h)
  | .reg gs, e, h => (runE cf base gs e h).map fun r => (.normal, r.1, r.2)
  | .regD ds, e, h => (regDE cf base ds e h).map fun r => (.normal, r.1, r.2)
  | .seq a b, e, h => match execE cf base a e h with
    | some (.normal, e', h') => execE cf base b e' h'
    | r => r
  | .cond c a b, e, h => match c.on e with
    | .s (.bool true) => execE cf base a e h
    | .s (.bool false) => execE cf base b e h
    | _ => none
  | .block id a, e, h => match execE cf base a e h with
    | some (.exit id', e', h') => if id' = id then some (.normal, e', h') else some (.exit id', e', h')
    | r => r
  | .loop a, e, h => loopE (execE cf base a) e h
  | .exit id, e, h => some (.exit id, e, h)
  | .ret, e, h => some (.ret, e, h)

/-- All slots that are written, and all that guards look at, are below n. -/
def G.fits (n : Nat) (g : G) : Bool := (match g.dst with | some t => decide (t < n) | none => true) && (match g.guard with | some (t, _) => decide (t < n) | none => true)
def C.fits (n : Nat) : C → Bool
  | .reg gs => gs.all (G.fits n)
  | .regD ds => ds.all fun d => d.g.fits n
  | .seq a b => a.fits n && b.fits n
  | .cond _ a b => a.fits n && b.fits n
  | .block _ a => a.fits n
  | .loop a => a.fits n
  | _ => true

theorem view_set {fr : Fr} {t : Nat} {v : V} (ht : t < fr.length) : view (fr.set t v) = (view fr).up t v := by
  funext n
  simp only [view, Env.up, List.getD_eq_getElem?_getD]
  by_cases h : n = t
  · subst h; simp [ht]
  · rw [List.getElem?_set_ne (Ne.symm h), if_neg h]

theorem evX (fr : Fr) : X.ev fr = X.on (view fr) := by funext x; cases x <;> rfl

theorem putD_view {n : Nat} {fr : Fr} {g : G} {v : V} (hl : fr.length = n) (hg : g.fits n = true) : (putD fr g.dst v).length = n ∧ view (putD fr g.dst v) = (view fr).put g.dst v := by
  simp only [G.fits, Bool.and_eq_true] at hg
  cases hd : g.dst with
  | none => exact ⟨hl, rfl⟩
  | some t =>
    rw [hd] at hg
    simp only [decide_eq_true_eq] at hg
    exact ⟨by simpa [putD] using hl, by simp only [putD, Env.put]; exact view_set (by rw [hl]; exact hg.1)⟩

theorem step_view {cf : CF} {base n : Nat} {fr : Fr} {h : Hp} {g : G} (hl : fr.length = n) (hg : g.fits n = true) : stepG cf base fr h g = stepE cf base (view fr) h g := by
  simp only [G.fits, Bool.and_eq_true] at hg
  unfold stepG stepE want wantE
  rw [evX]
  cases hd : g.guard with
  | none => rfl
  | some p =>
    obtain ⟨t, b⟩ := p
    rw [hd] at hg
    simp only [decide_eq_true_eq] at hg
    have : fr.getD t .top = view fr t := by
      simp only [view, List.getD_eq_getElem?_getD]
      have ht : t < fr.length := by rw [hl]; exact hg.2
      rw [List.getElem?_eq_getElem ht]; rfl
    simp only [wantV]
    rw [this]
    rfl

theorem run_view {cf : CF} {base n : Nat} : ∀ {gs : List G} {fr : Fr} {h : Hp} {e' : Env} {h' : Hp}, fr.length = n → gs.all (G.fits n) = true → runE cf base gs (view fr) h = some (e', h') →
    ∃ fr', runG cf base gs fr h = some (fr', h') ∧ fr'.length = n ∧ view fr' = e'
  | [], fr, h, e', h', hl, _, hr => by
    simp only [runE, Option.some.injEq, Prod.mk.injEq] at hr
    obtain ⟨rfl, rfl⟩ := hr
    exact ⟨fr, rfl, hl, rfl⟩
  | g :: gs, fr, h, e', h', hl, hg, hr => by
    simp only [List.all_cons, Bool.and_eq_true] at hg
    simp only [runE] at hr
    split at hr
    case h_2 => cases hr
    rename_i v h1 hst
    obtain ⟨p1, p2⟩ := putD_view (v := v) hl hg.1
    rw [← p2] at hr
    obtain ⟨fr', q1, q2, q3⟩ := run_view p1 hg.2 hr
    exact ⟨fr', by simp only [runG]; rw [step_view hl hg.1, hst]; exact q1, q2, q3⟩

/-- What was seen, of frames and of functions. -/
def SeenOK (cf : CF) (base n : Nat) : List Seen → List SeenE → Prop
  | [], [] => True
  | x :: xs, y :: ys => (x.d = y.d ∧ x.v = y.v ∧ x.fr.length = n ∧ view x.fr = y.e ∧ y.d.g.fits n = true ∧ stepE cf base y.e y.h y.d.g = some (y.v, y.h)) ∧ SeenOK cf base n xs ys
  | _, _ => False

theorem SeenOK_append {cf : CF} {base n : Nat} {x : Seen} {y : SeenE} : ∀ {xs : List Seen} {ys : List SeenE}, SeenOK cf base n xs ys → (x.d = y.d ∧ x.v = y.v ∧ x.fr.length = n ∧ view x.fr = y.e ∧ y.d.g.fits n = true ∧ stepE cf base y.e y.h y.d.g = some (y.v, y.h)) → SeenOK cf base n (xs ++ [x]) (ys ++ [y])
  | [], [], _, h => ⟨h, trivial⟩
  | _ :: _, _ :: _, h1, h => ⟨h1.1, SeenOK_append h1.2 h⟩
  | [], _ :: _, h1, _ => h1.elim
  | _ :: _, [], h1, _ => h1.elim

theorem sameIn_view {cf : CF} {base n : Nat} {x : Seen} {y : SeenE} (h : x.d = y.d ∧ x.v = y.v ∧ x.fr.length = n ∧ view x.fr = y.e ∧ y.d.g.fits n = true ∧ stepE cf base y.e y.h y.d.g = some (y.v, y.h)) : ∀ {hs : List Hp}, okIn cf base y hs → sameIn cf base x.fr x.d.g x.v hs
  | [], _ => trivial
  | k :: ks, ⟨h1, h2⟩ => by
    refine ⟨?_, sameIn_view h h2⟩
    obtain ⟨a1, a2, a3, a4, a5, a6⟩ := h
    rw [a1, a2, step_view a3 a5, a4]
    rcases h1 with rfl | h1
    · exact a6
    · exact h1

theorem allSame_view {cf : CF} {base n : Nat} {hs : List Hp} : ∀ {xs : List Seen} {ys : List SeenE}, SeenOK cf base n xs ys → allOk cf base hs ys → allSame cf base hs xs
  | [], [], _, _ => trivial
  | x :: xs, y :: ys, h, ⟨h1, h2⟩ => ⟨by have := h.1.1; rw [← this] at h1; exact sameIn_view h.1 h1, allSame_view h.2 h2⟩
  | [], _ :: _, h, _ => h.elim
  | _ :: _, [], h, _ => h.elim

theorem runD_view {cf : CF} {base n : Nat} : ∀ {ds : List GD} {fr : Fr} {h : Hp} {hs : List Hp} {xs : List Seen} {ys : List SeenE} {e' : Env} {h' : Hp} {hs' : List Hp} {ys' : List SeenE}, fr.length = n → (ds.all fun d => d.g.fits n) = true → SeenOK cf base n xs ys →
    runDE cf base ds (view fr) h hs ys = some (e', h', hs', ys') → ∃ fr' xs', runD cf base ds fr h hs xs = some (fr', h', hs', xs') ∧ fr'.length = n ∧ view fr' = e' ∧ SeenOK cf base n xs' ys'
  | [], fr, h, hs, xs, ys, e', h', hs', ys', hl, _, hx, hr => by
    simp only [runDE, Option.some.injEq, Prod.mk.injEq] at hr
    obtain ⟨rfl, rfl, rfl, rfl⟩ := hr
    exact ⟨fr, xs, rfl, hl, rfl, hx⟩
  | d :: ds, fr, h, hs, xs, ys, e', h', hs', ys', hl, hg, hx, hr => by
    simp only [List.all_cons, Bool.and_eq_true] at hg
    simp only [runDE] at hr
    split at hr
    case h_2 => cases hr
    rename_i v h1 hst
    obtain ⟨p1, p2⟩ := putD_view (v := v) hl hg.1
    rw [← p2] at hr
    split at hr
    · rename_i he
      obtain ⟨fr', xs', q1, q2, q3, q4⟩ := runD_view p1 hg.2 hx hr
      exact ⟨fr', xs', by simp only [runD]; rw [step_view hl hg.1, hst]; simp only [he, if_true]; exact q1, q2, q3, q4⟩
    · rename_i he
      have hq : h1 = h := by
        have hst' := hst
        rw [← step_view hl hg.1] at hst'
        exact stepG_quiet (by simpa using he) hst'
      subst hq
      obtain ⟨fr', xs', q1, q2, q3, q4⟩ := runD_view p1 hg.2 (SeenOK_append (x := ⟨d, fr, v⟩) (y := ⟨d, view fr, h1, v⟩) hx ⟨rfl, rfl, hl, rfl, hg.1, hst⟩) hr
      exact ⟨fr', xs', by simp only [runD]; rw [step_view hl hg.1, hst]; simp only [he]; exact q1, q2, q3, q4⟩

theorem exec_view {cf : CF} {base n : Nat} : ∀ {c : C} {fr : Fr} {h : Hp} {ex : Ex} {e' : Env} {h' : Hp}, fr.length = n → c.fits n = true → execE cf base c (view fr) h = some (ex, e', h') →
    ∃ fr', exec cf base c fr h = some (ex, fr', h') ∧ fr'.length = n ∧ view fr' = e' := by
  intro c
  induction c with
  | skip =>
    intro fr h ex e' h' hl hc hr
    simp only [execE, Option.some.injEq, Prod.mk.injEq] at hr
    obtain ⟨rfl, rfl, rfl⟩ := hr
    exact ⟨fr, rfl, hl, rfl⟩
  | exit id =>
    intro fr h ex e' h' hl hc hr
    simp only [execE, Option.some.injEq, Prod.mk.injEq] at hr
    obtain ⟨rfl, rfl, rfl⟩ := hr
    exact ⟨fr, rfl, hl, rfl⟩
  | ret =>
    intro fr h ex e' h' hl hc hr
    simp only [execE, Option.some.injEq, Prod.mk.injEq] at hr
    obtain ⟨rfl, rfl, rfl⟩ := hr
    exact ⟨fr, rfl, hl, rfl⟩
  | reg gs =>
    intro fr h ex e' h' hl hc hr
    simp only [execE] at hr
    obtain ⟨⟨a, b⟩, hq, he⟩ := Option.map_eq_some_iff.1 hr
    simp only [Prod.mk.injEq] at he
    obtain ⟨rfl, rfl, rfl⟩ := he
    obtain ⟨fr', q1, q2, q3⟩ := run_view hl hc hq
    exact ⟨fr', by simp only [exec, q1]; rfl, q2, q3⟩
  | regD ds =>
    intro fr h ex e' h' hl hc hr
    simp only [execE] at hr
    obtain ⟨⟨a, b⟩, hq, he⟩ := Option.map_eq_some_iff.1 hr
    simp only [Prod.mk.injEq] at he
    obtain ⟨rfl, rfl, rfl⟩ := he
    unfold regDE at hq
    split at hq
    case h_2 => cases hq
    rename_i e1 h1 hs xs hd
    split at hq
    case isFalse => cases hq
    rename_i hok
    cases hq
    obtain ⟨fr', xs', q1, q2, q3, q4⟩ := runD_view hl hc (xs := []) (ys := []) trivial hd
    have hin : inB fr.length ds := fun d hd t ht => by
      have := List.all_eq_true.1 hc d hd
      simp only [G.fits, ht, Bool.and_eq_true, decide_eq_true_eq] at this
      rw [hl]; exact this.1
    exact ⟨fr', by simp only [exec, Vm.regD, q1]; rw [if_pos ⟨hin, allSame_view q4 hok⟩]; rfl, q2, q3⟩
  | seq a b iha ihb =>
    intro fr h ex e' h' hl hc hr
    simp only [C.fits, Bool.and_eq_true] at hc
    simp only [execE] at hr
    split at hr
    · rename_i e1 h1 hx
      obtain ⟨f1, q1, q2, q3⟩ := iha hl hc.1 hx
      rw [← q3] at hr
      obtain ⟨f2, q4, q5, q6⟩ := ihb q2 hc.2 hr
      exact ⟨f2, by simp only [exec, q1]; exact q4, q5, q6⟩
    · rename_i hne
      obtain ⟨f1, q1, q2, q3⟩ := iha hl hc.1 hr
      refine ⟨f1, ?_, q2, q3⟩
      simp only [exec, q1]
      cases ex with
      | normal => exact absurd hr (hne e' h')
      | exit id => rfl
      | ret => rfl
  | cond x a b iha ihb =>
    intro fr h ex e' h' hl hc hr
    simp only [C.fits, Bool.and_eq_true] at hc
    simp only [execE] at hr
    simp only [exec, evX]
    split at hr
    · rename_i he; rw [he]; exact iha hl hc.1 hr
    · rename_i he; rw [he]; exact ihb hl hc.2 hr
    · cases hr
  | block id a iha =>
    intro fr h ex e' h' hl hc hr
    simp only [C.fits] at hc
    simp only [execE] at hr
    split at hr
    · rename_i id' e1 h1 hx
      obtain ⟨f1, q1, q2, q3⟩ := iha hl hc hx
      split at hr
      · rename_i hid
        simp only [Option.some.injEq, Prod.mk.injEq] at hr
        obtain ⟨rfl, rfl, rfl⟩ := hr
        exact ⟨f1, by simp only [exec, q1, hid, if_true], q2, q3⟩
      · rename_i hid
        simp only [Option.some.injEq, Prod.mk.injEq] at hr
        obtain ⟨rfl, rfl, rfl⟩ := hr
        exact ⟨f1, by simp only [exec, q1, hid, if_false], q2, q3⟩
    · rename_i hne
      obtain ⟨f1, q1, q2, q3⟩ := iha hl hc hr
      refine ⟨f1, ?_, q2, q3⟩
      simp only [exec, q1]
      cases ex with
      | exit id => exact absurd hr (hne id e' h')
      | normal => rfl
      | ret => rfl
  | loop a iha =>
    intro fr h ex e' h' hl hc hr
    simp only [C.fits] at hc
    simp only [execE] at hr
    obtain ⟨k, hk⟩ := loopE_iter.1 hr
    have key : ∀ (k : Nat) (fr : Fr) (h : Hp), fr.length = n → iterE (execE cf base a) k (view fr) h = some (ex, e', h') → ∃ fr', iter (exec cf base a) k fr h = some (ex, fr', h') ∧ fr'.length = n ∧ view fr' = e' := by
      intro k
      induction k with
      | zero => intro fr h hl hk; simp [iterE] at hk
      | succ k ih =>
        intro fr h hl hk
        simp only [iterE] at hk
        split at hk
        · rename_i e1 h1 hx
          obtain ⟨f1, q1, q2, q3⟩ := iha hl hc hx
          rw [← q3] at hk
          obtain ⟨f2, q4, q5, q6⟩ := ih f1 h1 q2 hk
          exact ⟨f2, by simp only [iter, q1]; exact q4, q5, q6⟩
        · rename_i hne
          obtain ⟨f1, q1, q2, q3⟩ := iha hl hc hk
          refine ⟨f1, ?_, q2, q3⟩
          simp only [iter, q1]
          cases ex with
          | normal => exact absurd hk (hne e' h')
          | exit id => rfl
          | ret => rfl
    obtain ⟨fr', q1, q2, q3⟩ := key k fr h hl hk
    exact ⟨fr', by simp only [exec]; exact loopF_iter.2 ⟨k, q1⟩, q2, q3⟩

/-! What stands behind code. -/

abbrev Post := Ex → Env → Hp → Prop

section
variable (cf : CF) (base : Nat)
def wp (c : C) (e : Env) (h : Hp) (Q : Post) : Prop := ∃ ex e' h', execE cf base c e h = some (ex, e', h') ∧ Q ex e' h'
/-- Operations, then what stands behind them. -/
def wpG (gs : List G) (e : Env) (h : Hp) (Q : Post) : Prop := ∃ e' h', runE cf base gs e h = some (e', h') ∧ Q .normal e' h'
def wpS (r : Option (V × Hp)) (d : Option Nat) (gs : List G) (e : Env) (Q : Post) : Prop :=
  match r with
  | some (v, h') => wpG cf base gs (e.put d v) h' Q
  | none => False
def wpU (r : Option Bool) (g : G) (gs : List G) (e : Env) (h : Hp) (Q : Post) : Prop :=
  match r with
  | some true => wpS cf base (opV cf base h g.op (g.xs.map (X.on e))) g.dst gs e Q
  | some false => wpG cf base gs (e.put g.dst (.tup [])) h Q
  | none => False
def wpD (ds : List GD) (e : Env) (h : Hp) (hs : List Hp) (xs : List SeenE) (Q : Post) : Prop := ∃ e' h' hs' xs', runDE cf base ds e h hs xs = some (e', h', hs', xs') ∧ allOk cf base hs' xs' ∧ Q .normal e' h'
def wpT (r : Option (V × Hp)) (d : GD) (ds : List GD) (e : Env) (h : Hp) (hs : List Hp) (xs : List SeenE) (Q : Post) : Prop :=
  match r with
  | some (v, h') => if d.g.op.eff = true then wpD cf base ds (e.put d.g.dst v) h' (hs ++ [h]) xs Q else wpD cf base ds (e.put d.g.dst v) h hs (xs ++ [⟨d, e, h, v⟩]) Q
  | none => False
def wpC (v : V) (a b : C) (e : Env) (h : Hp) (Q : Post) : Prop :=
  match v with
  | .s (.bool true) => wp cf base a e h Q
  | .s (.bool false) => wp cf base b e h Q
  | _ => False
def seqK (b : C) (Q : Post) : Post
  | .normal, e, h => wp cf base b e h Q
  | ex, e, h => Q ex e h
def blockK (id : Nat) (Q : Post) : Post
  | .exit i, e, h => if i = id then Q .normal e h else Q (.exit i) e h
  | ex, e, h => Q ex e h
def loopK (a : C) (Q : Post) : Post
  | .normal, e, h => wp cf base (.loop a) e h Q
  | ex, e, h => Q ex e h

theorem ex3 {α β γ : Type} {a : α} {b : β} {c : γ} {Q : α → β → γ → Prop} : (∃ x y z, some (a, b, c) = some (x, y, z) ∧ Q x y z) ↔ Q a b c := by
  constructor
  · rintro ⟨x, y, z, h, hq⟩; cases h; exact hq
  · intro h; exact ⟨a, b, c, rfl, h⟩
theorem ex2 {α β : Type} {a : α} {b : β} {Q : α → β → Prop} : (∃ x y, some (a, b) = some (x, y) ∧ Q x y) ↔ Q a b := by
  constructor
  · rintro ⟨x, y, h, hq⟩; cases h; exact hq
  · intro h; exact ⟨a, b, rfl, h⟩
theorem wp_skip (e : Env) (h : Hp) (Q : Post) : wp cf base .skip e h Q = Q .normal e h := by simp only [wp, execE, ex3]
theorem wp_ret (e : Env) (h : Hp) (Q : Post) : wp cf base .ret e h Q = Q .ret e h := by simp only [wp, execE, ex3]
theorem wp_exit (id : Nat) (e : Env) (h : Hp) (Q : Post) : wp cf base (.exit id) e h Q = Q (.exit id) e h := by simp only [wp, execE, ex3]
theorem wp_reg (gs : List G) (e : Env) (h : Hp) (Q : Post) : wp cf base (.reg gs) e h Q = wpG cf base gs e h Q := by
  simp only [wp, wpG, execE, eq_iff_iff]
  constructor
  · rintro ⟨ex, e', h', hx, hq⟩
    obtain ⟨⟨a, b⟩, h1, h2⟩ := Option.map_eq_some_iff.1 hx
    cases h2; exact ⟨_, _, h1, hq⟩
  · rintro ⟨e', h', hx, hq⟩
    exact ⟨_, _, _, by rw [hx]; rfl, hq⟩
theorem wp_regD (ds : List GD) (e : Env) (h : Hp) (Q : Post) : wp cf base (.regD ds) e h Q = wpD cf base ds e h [] [] Q := by
  simp only [wp, wpD, execE, eq_iff_iff, regDE]
  constructor
  · rintro ⟨ex, e', h', hx, hq⟩
    obtain ⟨⟨a, b⟩, h1, h2⟩ := Option.map_eq_some_iff.1 hx
    cases h2
    split at h1
    case h_2 => cases h1
    rename_i hd
    split at h1
    case isFalse => cases h1
    rename_i hok
    cases h1
    exact ⟨_, _, _, _, hd, hok, hq⟩
  · rintro ⟨e', h', hs, xs, hx, hok, hq⟩
    exact ⟨_, _, _, by rw [hx]; simp only [hok, if_true]; rfl, hq⟩
theorem wpG_nil (e : Env) (h : Hp) (Q : Post) : wpG cf base [] e h Q = Q .normal e h := by simp only [wpG, runE, ex2]
theorem wpG_cons (g : G) (gs : List G) (e : Env) (h : Hp) (Q : Post) : wpG cf base (g :: gs) e h Q = wpU cf base (wantE e g.guard) g gs e h Q := by
  simp only [wpG, runE, stepE, eq_iff_iff]
  cases hw : wantE e g.guard with
  | none => simp [wpU]
  | some b =>
    cases b with
    | false => simp only [wpU]; exact Iff.rfl
    | true =>
      simp only [wpU]
      cases ho : opV cf base h g.op (g.xs.map (X.on e)) with
      | none => simp [wpS]
      | some r => obtain ⟨v, h'⟩ := r; simp only [wpS]; exact Iff.rfl
theorem wpD_nil (e : Env) (h : Hp) (hs : List Hp) (xs : List SeenE) (Q : Post) : wpD cf base [] e h hs xs Q = (allOk cf base (hs ++ [h]) xs ∧ Q .normal e h) := by
  simp only [wpD, runDE, eq_iff_iff]
  constructor
  · rintro ⟨a, b, c, d, h1, h2, h3⟩; cases h1; exact ⟨h2, h3⟩
  · rintro ⟨h2, h3⟩; exact ⟨_, _, _, _, rfl, h2, h3⟩
theorem wpD_cons0 (d : GD) (ds : List GD) (e : Env) (h : Hp) (hs : List Hp) (xs : List SeenE) (Q : Post) : wpD cf base (d :: ds) e h hs xs Q = wpT cf base (stepE cf base e h d.g) d ds e h hs xs Q := by
  simp only [wpD, runDE, eq_iff_iff]
  cases ho : stepE cf base e h d.g with
  | none => simp [wpT]
  | some r =>
    obtain ⟨v, h'⟩ := r
    simp only [wpT]
    cases d.g.op.eff <;> simp [wpD]
theorem wp_seq (a b : C) (e : Env) (h : Hp) (Q : Post) : wp cf base (.seq a b) e h Q = wp cf base a e h (seqK cf base b Q) := by
  simp only [wp, execE, eq_iff_iff]
  cases hx : execE cf base a e h with
  | none => simp
  | some r =>
    obtain ⟨ex, e1, h1⟩ := r
    cases ex with
    | normal => simp only [seqK, wp, ex3]
    | exit id => simp only [seqK, ex3]
    | ret => simp only [seqK, ex3]
theorem wp_block (id : Nat) (a : C) (e : Env) (h : Hp) (Q : Post) : wp cf base (.block id a) e h Q = wp cf base a e h (blockK id Q) := by
  simp only [wp, execE, eq_iff_iff]
  cases hx : execE cf base a e h with
  | none => simp
  | some r =>
    obtain ⟨ex, e1, h1⟩ := r
    cases ex with
    | normal => simp only [blockK, ex3]
    | exit i => by_cases hi : i = id <;> simp only [blockK, hi, if_true, if_false, ex3]
    | ret => simp only [blockK, ex3]
theorem wp_cond (x : X) (a b : C) (e : Env) (h : Hp) (Q : Post) : wp cf base (.cond x a b) e h Q = wpC cf base (x.on e) a b e h Q := by
  simp only [wp, execE, eq_iff_iff, wpC]
  split <;> simp [wp]
theorem wp_loop (a : C) (e : Env) (h : Hp) (Q : Post) : wp cf base (.loop a) e h Q = wp cf base a e h (loopK cf base a Q) := by
  simp only [wp, execE, eq_iff_iff]
  rw [loopE_eq]
  cases hx : execE cf base a e h with
  | none => simp
  | some r =>
    obtain ⟨ex, e1, h1⟩ := r
    cases ex with
    | normal => simp only [loopK, wp, execE, ex3]
    | exit i => simp only [loopK, ex3]
    | ret => simp only [loopK, ex3]
theorem wp_mono {c : C} {e : Env} {h : Hp} {Q Q' : Post} (hw : wp cf base c e h Q) (hq : ∀ ex e' h', Q ex e' h' → Q' ex e' h') : wp cf base c e h Q' := by
  obtain ⟨ex, e', h', h1, h2⟩ := hw
  exact ⟨ex, e', h', h1, hq _ _ _ h2⟩
theorem wpS_some (v : V) (h' : Hp) (d : Option Nat) (gs : List G) (e : Env) (Q : Post) : wpS cf base (some (v, h')) d gs e Q = wpG cf base gs (e.put d v) h' Q := rfl
theorem wpU_true (g : G) (gs : List G) (e : Env) (h : Hp) (Q : Post) : wpU cf base (some true) g gs e h Q = wpS cf base (opV cf base h g.op (g.xs.map (X.on e))) g.dst gs e Q := rfl
theorem wpU_false (g : G) (gs : List G) (e : Env) (h : Hp) (Q : Post) : wpU cf base (some false) g gs e h Q = wpG cf base gs (e.put g.dst (.tup [])) h Q := rfl
theorem wpC_true (a b : C) (e : Env) (h : Hp) (Q : Post) : wpC cf base (.s (.bool true)) a b e h Q = wp cf base a e h Q := rfl
theorem wpC_false (a b : C) (e : Env) (h : Hp) (Q : Post) : wpC cf base (.s (.bool false)) a b e h Q = wp cf base b e h Q := rfl
theorem seqK_normal (b : C) (Q : Post) (e : Env) (h : Hp) : seqK cf base b Q .normal e h = wp cf base b e h Q := rfl
theorem seqK_ret (b : C) (Q : Post) (e : Env) (h : Hp) : seqK cf base b Q .ret e h = Q .ret e h := rfl
theorem seqK_exit (b : C) (Q : Post) (i : Nat) (e : Env) (h : Hp) : seqK cf base b Q (.exit i) e h = Q (.exit i) e h := rfl
theorem blockK_normal (id : Nat) (Q : Post) (e : Env) (h : Hp) : blockK id Q .normal e h = Q .normal e h := rfl
theorem blockK_ret (id : Nat) (Q : Post) (e : Env) (h : Hp) : blockK id Q .ret e h = Q .ret e h := rfl
theorem blockK_exit (id : Nat) (Q : Post) (i : Nat) (e : Env) (h : Hp) : blockK id Q (.exit i) e h = if i = id then Q .normal e h else Q (.exit i) e h := rfl
theorem okAt_same (d : GD) (e : Env) (h : Hp) (v : V) : okAt cf base ⟨d, e, h, v⟩ h = True := by simp [okAt]
end

/-! Open regions: operations that find the same whenever they come up are not held again. -/
theorem allOk_append {cf : CF} {base : Nat} {hs : List Hp} : ∀ {xs ys : List SeenE}, allOk cf base hs (xs ++ ys) ↔ allOk cf base hs xs ∧ allOk cf base hs ys
  | [], ys => by simp [allOk]
  | x :: xs, ys => by simp only [List.cons_append, allOk, allOk_append, and_assoc]

theorem runDE_more {cf : CF} {base : Nat} : ∀ {ds : List GD} {e : Env} {h : Hp} {hs : List Hp} {xs : List SeenE} {r : Env × Hp × List Hp × List SeenE},
    runDE cf base ds e h hs xs = some r ↔ ∃ zs, r.2.2.2 = xs ++ zs ∧ runDE cf base ds e h hs [] = some (r.1, r.2.1, r.2.2.1, zs)
  | [], e, h, hs, xs, r => by
    obtain ⟨a, b, c, d⟩ := r
    simp only [runDE, Option.some.injEq, Prod.mk.injEq]
    constructor
    · rintro ⟨rfl, rfl, rfl, rfl⟩; exact ⟨[], by simp, rfl, rfl, rfl, rfl⟩
    · rintro ⟨zs, rfl, rfl, rfl, rfl, rfl⟩; simp
  | d :: ds, e, h, hs, xs, r => by
    simp only [runDE]
    cases stepE cf base e h d.g with
    | none => simp
    | some q =>
      obtain ⟨v, h'⟩ := q
      simp only
      split
      · exact runDE_more
      · rw [@runDE_more cf base ds (e.put d.g.dst v) h hs (xs ++ [SeenE.mk d e h v]) r]
        constructor
        · rintro ⟨zs, h1, h2⟩
          exact ⟨SeenE.mk d e h v :: zs, by rw [h1]; simp, runDE_more.2 ⟨zs, by simp, h2⟩⟩
        · rintro ⟨zs, h1, h2⟩
          obtain ⟨ys, h3, h4⟩ := runDE_more.1 h2
          simp only [List.nil_append] at h3
          exact ⟨ys, by rw [h1, h3]; simp, h4⟩

theorem runDE_hs {cf : CF} {base : Nat} : ∀ {ds : List GD} {e : Env} {h : Hp} {hs : List Hp} {xs : List SeenE} {r : Env × Hp × List Hp × List SeenE},
    runDE cf base ds e h hs xs = some r → ∃ ks, r.2.2.1 = hs ++ h :: ks
  | [], e, h, hs, xs, r, hr => by
    simp only [runDE, Option.some.injEq] at hr
    subst hr; exact ⟨[], rfl⟩
  | d :: ds, e, h, hs, xs, r, hr => by
    simp only [runDE] at hr
    split at hr
    case h_2 => cases hr
    rename_i v h' hst
    split at hr
    · obtain ⟨ks, hk⟩ := runDE_hs hr
      exact ⟨h' :: ks, by rw [hk]; simp⟩
    · exact runDE_hs hr

/-- This one needs no look. -/
def GD.calm (d : GD) (n : Nat) : Bool := d.g.op.indep || (d.lo == n && d.hi == n)

theorem stepE_indep {cf : CF} {base : Nat} {g : G} (hi : g.op.indep = true) {e : Env} {h h' : Hp} {v : V} (hr : stepE cf base e h g = some (v, h')) (h2 : Hp) : stepE cf base e h2 g = some (v, h2) := by
  unfold stepE at hr ⊢
  split at hr
  · exact opV_indep hi hr h2
  · cases hr; rfl
  · cases hr

section
variable (cf : CF) (base : Nat)
def wpL (r : Option (V × Hp)) (d : GD) (ds : List GD) (e : Env) (h : Hp) (hs : List Hp) (xs : List SeenE) (Q : Post) : Prop :=
  match r with
  | some (v, h') => if d.g.op.eff = true then wpD cf base ds (e.put d.g.dst v) h' (hs ++ [h]) xs Q else if d.calm hs.length = true then wpD cf base ds (e.put d.g.dst v) h hs xs Q else wpD cf base ds (e.put d.g.dst v) h hs (xs ++ [⟨d, e, h, v⟩]) Q
  | none => False

theorem okIn_all {cf : CF} {base : Nat} {x : SeenE} : ∀ {hs : List Hp}, (∀ h ∈ hs, okAt cf base x h) → okIn cf base x hs
  | [], _ => trivial
  | h :: hs, k => ⟨k h (by simp), okIn_all fun y hy => k y (by simp [hy])⟩

theorem wpD_cons (d : GD) (ds : List GD) (e : Env) (h : Hp) (hs : List Hp) (xs : List SeenE) (Q : Post) : wpD cf base (d :: ds) e h hs xs Q = wpL cf base (stepE cf base e h d.g) d ds e h hs xs Q := by
  rw [wpD_cons0]
  cases hst : stepE cf base e h d.g with
  | none => rfl
  | some q =>
    obtain ⟨v, h'⟩ := q
    simp only [wpT, wpL]
    by_cases he : d.g.op.eff = true
    · simp only [he, if_true]
    · simp only [he]
      by_cases hc : d.calm hs.length = true
      · simp only [hc, if_true, eq_iff_iff]
        have hok : ∀ ks, okIn cf base ⟨d, e, h, v⟩ (((hs ++ h :: ks).drop d.lo).take (d.hi + 1 - d.lo)) := by
          intro ks
          simp only [GD.calm, Bool.or_eq_true, Bool.and_eq_true, beq_iff_eq] at hc
          rcases hc with hc | ⟨h1, h2⟩
          · exact okIn_all fun k _ => .inr (stepE_indep hc hst k)
          · rw [h1, h2]
            simp only [List.drop_left, Nat.add_sub_cancel_left]
            exact ⟨.inl rfl, trivial⟩
        simp only [wpD]
        constructor
        · rintro ⟨e', k', hs', xs', h1, h2, h3⟩
          obtain ⟨zs, h4, h5⟩ := runDE_more.1 h1
          simp only at h4 h5
          subst h4
          refine ⟨e', k', hs', xs ++ zs, runDE_more.2 ⟨zs, rfl, h5⟩, ?_, h3⟩
          rw [allOk_append] at h2 ⊢
          exact ⟨(allOk_append.1 h2.1).1, h2.2⟩
        · rintro ⟨e', k', hs', xs', h1, h2, h3⟩
          obtain ⟨zs, h4, h5⟩ := runDE_more.1 h1
          simp only at h4 h5
          subst h4
          refine ⟨e', k', hs', xs ++ [⟨d, e, h, v⟩] ++ zs, runDE_more.2 ⟨zs, rfl, h5⟩, ?_, h3⟩
          rw [allOk_append] at h2 ⊢
          refine ⟨allOk_append.2 ⟨h2.1, ?_, trivial⟩, h2.2⟩
          obtain ⟨ks, hk⟩ := runDE_hs h1
          simp only at hk
          rw [hk]; exact hok ks
      · simp only [hc, Bool.false_eq_true, if_false]
theorem wpL_some (v : V) (h' : Hp) (d : GD) (ds : List GD) (e : Env) (h : Hp) (hs : List Hp) (xs : List SeenE) (Q : Post) : wpL cf base (some (v, h')) d ds e h hs xs Q = if d.g.op.eff = true then wpD cf base ds (e.put d.g.dst v) h' (hs ++ [h]) xs Q else if d.calm hs.length = true then wpD cf base ds (e.put d.g.dst v) h hs xs Q else wpD cf base ds (e.put d.g.dst v) h hs (xs ++ [⟨d, e, h, v⟩]) Q := rfl
end

/-! Calls. -/

def resE (e : Env) (h : Hp) : Rs → Option V
  | .t n => some (e n)
  | .cell n g => (opLd h g (e n)).map (·.1)
def resEs (e : Env) (h : Hp) : List Rs → Option (List V)
  | [] => some []
  | r :: rs => match resE e h r, resEs e h rs with | some v, some vs => some (v :: vs) | _, _ => none
theorem res_view {fr : Fr} {h : Hp} : ∀ {rs : List Rs}, resVs fr h rs = resEs (view fr) h rs
  | [] => rfl
  | r :: rs => by
    have : resV fr h r = resE (view fr) h r := by cases r <;> rfl
    simp only [resVs, resEs, this, res_view]
    rfl

def retW (r : Option V) (n : Nat) (h : Hp) (q : V × Hp) : Prop :=
  match r with
  | some v => q = (v, h.take n)
  | none => False
def retV (r : Option (List V)) (n : Nat) (h : Hp) (q : V × Hp) : Prop :=
  match r with
  | some vs => retW (frzV n h (tupV vs)) n h q
  | none => False
def retX (r : Option (List V)) (h : Hp) (q : V × Hp) : Prop :=
  match r with
  | some vs => q = (tupV vs, h)
  | none => False
def retY (r : Option (List V)) (h : Hp) (Q : V → Hp → Prop) : Prop :=
  match r with
  | some vs => Q (tupV vs) h
  | none => False
/-- Where a function of values ends. -/
def retP (res : List Rs) (n : Nat) (q : V × Hp) : Post
  | .exit _, _, _ => False
  | _, e, h => retV (resEs e h res) n h q
/-- Where any other ends. -/
def retN (res : List Rs) (q : V × Hp) : Post
  | .exit _, _, _ => False
  | _, e, h => retX (resEs e h res) h q

theorem e0_view (F : Fn) (args : List V) : view (fr0 F args) = e0 args := by
  funext t
  simp only [view, fr0, e0, List.getD_eq_getElem?_getD, List.getElem?_append]
  split
  · rfl
  · rename_i ht
    rw [List.getElem?_eq_none (Nat.le_of_not_lt ht), List.getElem?_replicate]
    split <;> rfl

theorem fr0_len {F : Fn} {args : List V} (h : args.length ≤ F.nt) : (fr0 F args).length = F.nt := by simp [fr0]; omega

theorem callP {cf : Nat → CF} {base nt : Nat} {B : C} {res : List Rs} {args : List V} {h : Hp} {q : V × Hp} (hn : args.length ≤ nt) (hf : B.fits nt = true) (hw : wp (cf h.length) h.length B (e0 args) h (retP res h.length q)) :
    callF cf base ⟨nt, B, res, true⟩ args h = some q := by
  obtain ⟨ex, e', h', hx, hq⟩ := hw
  rw [← e0_view ⟨nt, B, res, true⟩] at hx
  obtain ⟨fr', h1, h2, h3⟩ := exec_view (fr0_len hn) hf hx
  unfold callF
  simp only [if_true, h1]
  have key : retV (resEs e' h' res) h.length h' q → (match resVs fr' h' res with
      | some vs => match frzV h.length h' (tupV vs) with
        | some v => some (v, h'.take h.length)
        | none => none
      | none => none) = some q := by
    intro hq
    rw [res_view, h3]
    unfold retV retW at hq
    split at hq
    · rename_i vs hvs
      split at hq
      · rw [hq]
      · cases hq
    · cases hq
  cases ex with
  | exit i => exact hq.elim
  | normal => exact key hq
  | ret => exact key hq

theorem callN {cf : Nat → CF} {base nt : Nat} {B : C} {res : List Rs} {args : List V} {h : Hp} {q : V × Hp} (hn : args.length ≤ nt) (hf : B.fits nt = true) (hw : wp (cf base) base B (e0 args) h (retN res q)) :
    callF cf base ⟨nt, B, res, false⟩ args h = some q := by
  obtain ⟨ex, e', h', hx, hq⟩ := hw
  rw [← e0_view ⟨nt, B, res, false⟩] at hx
  obtain ⟨fr', h1, h2, h3⟩ := exec_view (fr0_len hn) hf hx
  unfold callF
  simp only [h1, Bool.false_eq_true, if_false]
  have key : retX (resEs e' h' res) h' q → (match resVs fr' h' res with
      | some vs => some (tupV vs, h')
      | none => none) = some q := by
    intro hq
    rw [res_view, h3]
    unfold retX at hq
    split at hq
    · rw [hq]
    · cases hq
  cases ex with
  | exit i => exact hq.elim
  | normal => exact key hq
  | ret => exact key hq

section
variable {fns : Nat → Option Fn} {pr : CF} {f base nt : Nat} {B : C} {res : List Rs} {args : List V} {h : Hp} {q : V × Hp}
theorem runP (hF : fns f = some ⟨nt, B, res, true⟩) (hf : B.fits nt = true) (hn : args.length ≤ nt) (hw : wp (run fns pr h.length) h.length B (e0 args) h (retP res h.length q)) : run fns pr base f args h = some q := by
  rw [run_eq fns pr hF]; exact callP hn hf hw
theorem runN (hF : fns f = some ⟨nt, B, res, false⟩) (hf : B.fits nt = true) (hn : args.length ≤ nt) (hw : wp (run fns pr base) base B (e0 args) h (retN res q)) : run fns pr base f args h = some q := by
  rw [run_eq fns pr hF]; exact callN hn hf hw
/-- Ends, told by what holds there. -/
def retQ (res : List Rs) (Q : V → Hp → Prop) : Post
  | .exit _, _, _ => False
  | _, e, h => retY (resEs e h res) h Q
theorem runQ (hF : fns f = some ⟨nt, B, res, false⟩) (hf : B.fits nt = true) (hn : args.length ≤ nt) {Q : V → Hp → Prop} (hw : wp (run fns pr base) base B (e0 args) h (retQ res Q)) : ∃ v h', run fns pr base f args h = some (v, h') ∧ Q v h' := by
  obtain ⟨ex, e', h', hx, hq⟩ := hw
  have key : ∀ (ex : Ex), ex = .normal ∨ ex = .ret → execE (run fns pr base) base B (e0 args) h = some (ex, e', h') → retY (resEs e' h' res) h' Q → ∃ v h', run fns pr base f args h = some (v, h') ∧ Q v h' := by
    intro ex he hx hq
    unfold retY at hq
    split at hq
    · rename_i vs hvs
      refine ⟨tupV vs, h', runN hF hf hn ⟨ex, e', h', hx, ?_⟩, hq⟩
      rcases he with rfl | rfl <;> simp only [retN, hvs, retX]
    · exact hq.elim
  cases ex with
  | exit i => exact hq.elim
  | normal => exact key _ (.inl rfl) hx hq
  | ret => exact key _ (.inr rfl) hx hq
end
end Go.Vm
/- What each operation gives, rule by rule. -/
namespace Go.Vm
set_option linter.unusedVariables false
set_option linter.unusedSimpArgs false
set_option linter.unusedSectionVars false

theorem on_t (e : Env) (n : Nat) : X.on e (.t n) = e n := rfl
theorem on_c (e : Env) (v : V) : X.on e (.c v) = v := rfl
theorem up_at (e : Env) (t : Nat) (v : V) (n : Nat) : Env.up e t v n = if n = t then v else e n := rfl
theorem put_some (e : Env) (t : Nat) (v : V) : Env.put e (some t) v = e.up t v := rfl
theorem put_none (e : Env) (v : V) : Env.put e none v = e := rfl
theorem e0_at (args : List V) (n : Nat) : e0 args n = args.getD n (.tup []) := rfl
theorem wantE_none (e : Env) : wantE e none = some true := rfl
theorem wantE_some (e : Env) (t : Nat) (b : Bool) : wantE e (some (t, b)) = wantV (e t) b := rfl
theorem wantV_bool (c b : Bool) : wantV (.s (.bool c)) b = some (c == b) := rfl
theorem wantV_tup (b : Bool) : wantV (.tup []) b = some false := rfl

def eqaR (a b : Option (List Int)) (neg : Bool) (h : Hp) : Option (V × Hp) :=
  match a, b with
  | some a, some b => okI (.bool (if neg then !(a == b) else a == b)) h
  | _, _ => none
theorem eqaR_some (a b : List Int) (neg : Bool) (h : Hp) : eqaR (some a) (some b) neg h = some (.s (.bool (if neg = true then !decide (a = b) else decide (a = b))), h) := by
  simp only [eqaR, okI, Bool.beq_eq_decide_eq]
def faR (v : Option V) (t i id : Nat) (p : List Nat) (tot : Nat) (h : Hp) : Option (V × Hp) :=
  match v with
  | some (.st t' fs) => if t' = t ∧ i < fs.length then some (.ptr id (p ++ [i]) tot, h) else none
  | _ => none
theorem faR_some (t t' i id : Nat) (p : List Nat) (tot : Nat) (h : Hp) (fs : List V) : faR (some (.st t' fs)) t i id p tot h = if t' = t ∧ i < fs.length then some (.ptr id (p ++ [i]) tot, h) else none := rfl
def iaaR (v : Option V) (t : Nat) (i : Int) (id : Nat) (p : List Nat) (tot : Nat) (h : Hp) : Option (V × Hp) :=
  match v with
  | some (.arr t' es) => if t' = t ∧ 0 ≤ i ∧ i < es.length then some (.ptr id (p ++ [i.toNat]) tot, h) else none
  | _ => none
theorem iaaR_some (t t' : Nat) (i : Int) (id : Nat) (p : List Nat) (tot : Nat) (h : Hp) (es : List V) : iaaR (some (.arr t' es)) t i id p tot h = if t' = t ∧ 0 ≤ i ∧ i < es.length then some (.ptr id (p ++ [i.toNat]) tot, h) else none := rfl
def iasR (r : Option (List V)) (g : Option Nat) (i : Int) (id : Nat) (p : List Nat) (g' : Option Nat) (off len tot : Nat) (h : Hp) : Option (V × Hp) :=
  match r with
  | some es => if g' = g ∧ 0 ≤ i ∧ i < len ∧ off + i.toNat < es.length then some (.ptr id (p ++ [off + i.toNat]) tot, h) else none
  | none => none
theorem iasR_some (es : List V) (g : Option Nat) (i : Int) (id : Nat) (p : List Nat) (g' : Option Nat) (off len tot : Nat) (h : Hp) : iasR (some es) g i id p g' off len tot h = if g' = g ∧ 0 ≤ i ∧ i < len ∧ off + i.toNat < es.length then some (.ptr id (p ++ [off + i.toNat]) tot, h) else none := rfl
def ldR (v : Option V) (g : Option Nat) (h : Hp) : Option (V × Hp) :=
  match v with
  | some v => if v.ty = g then some (v, h) else none
  | none => none
theorem ldR_some (v : V) (g : Option Nat) (h : Hp) : ldR (some v) g h = if v.ty = g then some (v, h) else none := rfl
def stoR (v : Option V) (h' : Option Hp) (g : Option Nat) (base id : Nat) (y : V) : Option (V × Hp) :=
  match v with
  | some v => if v.ty = g ∧ y.ty = g ∧ y.solid = true ∧ mayPut base id y = true then h'.map fun h' => (.tup [], h') else none
  | none => none
theorem stoR_some (v : V) (h' : Hp) (g : Option Nat) (base id : Nat) (y : V) : stoR (some v) (some h') g base id y = if v.ty = g ∧ y.ty = g ∧ y.solid = true ∧ mayPut base id y = true then some (.tup [], h') else none := rfl
def bslR (es : Option (List V)) (g : Option Nat) (h : Hp) : Option (V × Hp) :=
  match es with
  | some es => if es.isEmpty then some (.imm true g [], h) else some (.ref h.length [] g 0 es.length es.length, h ++ [.cells g es])
  | none => none
theorem bslR_some (e : V) (es : List V) (g : Option Nat) (h : Hp) : bslR (some (e :: es)) g h = some (.ref h.length [] g 0 (e :: es).length (e :: es).length, h ++ [.cells g (e :: es)]) := rfl
def frzQ (b : Option Blk) (g : Option Nat) (id n : Nat) (h : Hp) : Option (V × Hp) :=
  match b with
  | some (.cells g' es) => if es.length = n ∧ g = g' then some (.imm false g' es, h.set id .dead) else none
  | some (.lit g' es) => if es.length = n ∧ g = g' then some (.imm true g' es, h.set id .dead) else none
  | _ => none
theorem frzQ_cells (g : Option Nat) (es : List V) (id n : Nat) (h : Hp) : frzQ (some (.cells g es)) g id n h = if es.length = n then some (.imm false g es, h.set id .dead) else none := by simp [frzQ]
theorem frzQ_lit (g : Option Nat) (es : List V) (id n : Nat) (h : Hp) : frzQ (some (.lit g es)) g id n h = if es.length = n then some (.imm true g es, h.set id .dead) else none := by simp [frzQ]
def bsxR (es : Option (List V)) (g : Option Nat) (h : Hp) : Option (V × Hp) :=
  match es with
  | some [] => none
  | some (e :: es) => some (.ref h.length [] g 0 (e :: es).length (e :: es).length, h ++ [.lit g (e :: es)])
  | none => none
theorem bsxR_some (e : V) (es : List V) (g : Option Nat) (h : Hp) : bsxR (some (e :: es)) g h = some (.ref h.length [] g 0 (e :: es).length (e :: es).length, h ++ [.lit g (e :: es)]) := rfl
def nxtR (b : Option Blk) (id : Nat) (h : Hp) : Option (V × Hp) :=
  match b with
  | some (.siter s pos) =>
    if pos < s.size then some (.tup [.s (.bool true), .s (.int .i64 pos), .s (.int .i32 (Utf8.decode s pos).1)], h.set id (.siter s (pos + (Utf8.decode s pos).2)))
    else some (.tup [.s (.bool false)], h)
  | _ => none
theorem nxtR_some (s : ByteArray) (pos id : Nat) (h : Hp) : nxtR (some (.siter s pos)) id h = if pos < s.size then some (.tup [.s (.bool true), .s (.int .i64 pos), .s (.int .i32 (Utf8.decode s pos).1)], h.set id (.siter s (pos + (Utf8.decode s pos).2))) else some (.tup [.s (.bool false)], h) := rfl

/-! The heap. -/
def nodeR (b : Option Blk) (i : Nat) (p : List Nat) (tot : Nat) : Option V :=
  match b with
  | some (.cells _ es) => if es.length = tot then (es[i]?).bind (nodeAt p) else none
  | _ => none
theorem node_eq (h : Hp) (id i : Nat) (p : List Nat) (tot : Nat) : node h id (i :: p) tot = nodeR h[id]? i p tot := by
  unfold node rowOf nodeR
  cases h[id]? with
  | none => rfl
  | some b =>
    cases b with
    | cells g es =>
      by_cases ht : es.length = tot
      · simp only [ht, if_true]; cases es[i]? <;> rfl
      · simp only [ht, if_false]
    | siter => rfl
    | map => rfl
    | lit => rfl
    | dead => rfl
theorem nodeR_some (g : Option Nat) (es : List V) (i : Nat) (p : List Nat) (tot : Nat) : nodeR (some (.cells g es)) i p tot = if es.length = tot then (es[i]?).bind (nodeAt p) else none := rfl
theorem nodeAt_nil (v : V) : nodeAt [] v = some v := by cases v <;> rfl
theorem nodeAt_st (i : Nat) (p : List Nat) (t : Nat) (fs : List V) : nodeAt (i :: p) (.st t fs) = (fs[i]?).bind (nodeAt p) := by
  simp only [nodeAt]; cases fs[i]? <;> rfl
theorem nodeAt_arr (i : Nat) (p : List Nat) (t : Nat) (fs : List V) : nodeAt (i :: p) (.arr t fs) = (fs[i]?).bind (nodeAt p) := by
  simp only [nodeAt]; cases fs[i]? <;> rfl
theorem putAt_nil (y v : V) : putAt y [] v = some y := by cases v <;> rfl
theorem putAt_st (y : V) (i : Nat) (p : List Nat) (t : Nat) (fs : List V) : putAt y (i :: p) (.st t fs) = (fs[i]?).bind fun v => (putAt y p v).map fun v' => .st t (fs.set i v') := by
  simp only [putAt]; cases fs[i]? <;> rfl
theorem putAt_arr (y : V) (i : Nat) (p : List Nat) (t : Nat) (fs : List V) : putAt y (i :: p) (.arr t fs) = (fs[i]?).bind fun v => (putAt y p v).map fun v' => .arr t (fs.set i v') := by
  simp only [putAt]; cases fs[i]? <;> rfl
def storeR (b : Option Blk) (h : Hp) (id i : Nat) (p : List Nat) (tot : Nat) (y : V) : Option Hp :=
  match b with
  | some (.cells g es) => if es.length = tot then (es[i]?).bind fun v => (putAt y p v).map fun v' => h.set id (.cells g (es.set i v')) else none
  | _ => none
theorem store_eq (h : Hp) (id i : Nat) (p : List Nat) (tot : Nat) (y : V) : store h id (i :: p) tot y = storeR h[id]? h id i p tot y := by
  unfold store rowOf storeR
  cases h[id]? with
  | none => rfl
  | some b =>
    cases b with
    | cells g es =>
      by_cases ht : es.length = tot
      · simp only [ht, if_true]; cases es[i]? <;> rfl
      · simp only [ht, if_false]
    | siter => rfl
    | map => rfl
    | lit => rfl
    | dead => rfl
theorem storeR_some (g : Option Nat) (es : List V) (h : Hp) (id i : Nat) (p : List Nat) (tot : Nat) (y : V) : storeR (some (.cells g es)) h id i p tot y = if es.length = tot then (es[i]?).bind fun v => (putAt y p v).map fun v' => h.set id (.cells g (es.set i v')) else none := rfl
def rowR (b : Option Blk) (tot : Nat) : Option (Option Nat × List V) :=
  match b with
  | some (.cells g es) => if es.length = tot then some (g, es) else none
  | _ => none
theorem rowOf_eq (h : Hp) (id tot : Nat) : rowOf h id tot = rowR h[id]? tot := rfl
theorem rowR_some (g : Option Nat) (es : List V) (tot : Nat) : rowR (some (.cells g es)) tot = if es.length = tot then some (g, es) else none := rfl
theorem rowAt_nil (h : Hp) (id tot : Nat) : rowAt h id [] tot = (rowOf h id tot).map (·.2) := rfl
def arrR : Option V → Option (List V)
  | some (.arr _ es) => some es
  | _ => none
theorem rowAt_cons (h : Hp) (id i : Nat) (p : List Nat) (tot : Nat) : rowAt h id (i :: p) tot = arrR (node h id (i :: p) tot) := by
  simp only [rowAt, arrR]; rfl
theorem arrR_some (t : Nat) (es : List V) : arrR (some (.arr t es)) = some es := rfl

/-- Numbers bit by bit. -/
def andI (k : IntKind) (a b : Int) : Int := k.wrap (BitVec.ofInt k.bits a &&& BitVec.ofInt k.bits b).toNat
def orI (k : IntKind) (a b : Int) : Int := k.wrap (BitVec.ofInt k.bits a ||| BitVec.ofInt k.bits b).toNat
def xorI (k : IntKind) (a b : Int) : Int := k.wrap (BitVec.ofInt k.bits a ^^^ BitVec.ofInt k.bits b).toNat
def shlI (k : IntKind) (a b : Int) : Int := k.wrap (a * 2 ^ (min b.toNat k.bits))
def shrI (k : IntKind) (a b : Int) : Int := a.fdiv (2 ^ (min b.toNat k.bits))
section
variable (cf : CF) (base : Nat) (h : Hp)
theorem stepE_none (e : Env) (d : Option Nat) (o : O) (xs : List X) : stepE cf base e h ⟨d, o, xs, none⟩ = opV cf base h o (xs.map (X.on e)) := rfl
theorem o_mv (x : V) : opV cf base h .mv [x] = some (x, h) := rfl
theorem o_pick (c : Bool) (a b : V) : opV cf base h .pick [.s (.bool c), a, b] = some (if c = true then a else b, h) := rfl
theorem o_call (f : Nat) (xs : List V) : opV cf base h (.call f) xs = cf f xs h := rfl
theorem o_callv (f : Nat) (cap xs : List V) : opV cf base h .callv (.fn f cap :: xs) = cf f (xs ++ cap) h := rfl
theorem o_mkf (f : Nat) (xs : List V) : opV cf base h (.mkf f) xs = some (.fn f xs, h) := rfl
theorem o_nop : opV cf base h .nop [] = some (.tup [], h) := rfl
theorem o_fzp (g : Option Nat) (x : V) (h1 : x.ty = g) (h2 : x.solid = true) : opV cf base h (.fzp g) [x] = some (.iptr x, h) := by simp [opV, opFzp, h1, h2]
theorem o_callp (f : Nat) (xs : List V) : opV cf base h (.callp f) xs = callR (cf f xs h) h := rfl
theorem callR_same (v : V) (h : Hp) : callR (some (v, h)) h = some (v, h) := by simp [callR]
def bsiR (es : Option (List V)) (g : Option Nat) (h : Hp) : Option (V × Hp) :=
  match es with
  | some es => some (.imm true g es, h)
  | none => none
theorem bsiR_some (es : List V) (g : Option Nat) (h : Hp) : bsiR (some es) g h = some (.imm true g es, h) := rfl
theorem o_bsi (g : Option Nat) (zero : List V) (places : List Nat) (xs : List V) : opV cf base h (.bsi g zero places) xs = if places.length = xs.length then bsiR (putParts zero (places.zip xs)) g h else none := by
  simp only [opV, opBsi]
  split
  · cases putParts zero (places.zip xs) <;> rfl
  · rfl
theorem o_not (b : Bool) : opV cf base h (.un .not) [.s (.bool b)] = some (.s (.bool !b), h) := rfl
theorem o_neg (k : IntKind) (n : Int) : opV cf base h (.un .neg) [.s (.int k n)] = some (.s (.int k (k.wrap (0 - n))), h) := rfl
/-- A place among numbers of one kind. -/
theorem o_bin (op : BinOp) (k : IntKind) (a b : Int) (hs : op ≠ .shl ∧ op ≠ .shr) : opV cf base h (.bin .num op) [.s (.int k a), .s (.int k b)] = (intBin op k a b).bind (okI · h) := by
  cases op <;> simp_all [opV, opBin, binV]
theorem o_add (k : IntKind) (a b : Int) : opV cf base h (.bin .num .add) [.s (.int k a), .s (.int k b)] = some (.s (.int k (k.wrap (a + b))), h) := by rw [o_bin _ _ _ _ _ _ _ (by simp)]; rfl
theorem o_sub (k : IntKind) (a b : Int) : opV cf base h (.bin .num .sub) [.s (.int k a), .s (.int k b)] = some (.s (.int k (k.wrap (a - b))), h) := by rw [o_bin _ _ _ _ _ _ _ (by simp)]; rfl
theorem o_mul (k : IntKind) (a b : Int) : opV cf base h (.bin .num .mul) [.s (.int k a), .s (.int k b)] = some (.s (.int k (k.wrap (a * b))), h) := by rw [o_bin _ _ _ _ _ _ _ (by simp)]; rfl
theorem o_rem (k : IntKind) (a b : Int) (hb : b ≠ 0) : opV cf base h (.bin .num .rem) [.s (.int k a), .s (.int k b)] = some (.s (.int k (a.tmod b)), h) := by rw [o_bin _ _ _ _ _ _ _ (by simp)]; simp [intBin, hb, okI]
theorem o_and (k : IntKind) (a b : Int) : opV cf base h (.bin .num .and) [.s (.int k a), .s (.int k b)] = some (.s (.int k (andI k a b)), h) := by rw [o_bin _ _ _ _ _ _ _ (by simp)]; rfl
theorem o_or (k : IntKind) (a b : Int) : opV cf base h (.bin .num .or) [.s (.int k a), .s (.int k b)] = some (.s (.int k (orI k a b)), h) := by rw [o_bin _ _ _ _ _ _ _ (by simp)]; rfl
theorem o_xor (k : IntKind) (a b : Int) : opV cf base h (.bin .num .xor) [.s (.int k a), .s (.int k b)] = some (.s (.int k (xorI k a b)), h) := by rw [o_bin _ _ _ _ _ _ _ (by simp)]; rfl
theorem o_eql (k : IntKind) (a b : Int) : opV cf base h (.bin .num .eql) [.s (.int k a), .s (.int k b)] = some (.s (.bool (decide (a = b))), h) := by rw [o_bin _ _ _ _ _ _ _ (by simp)]; simp [intBin, okI]; rfl
theorem o_neq (k : IntKind) (a b : Int) : opV cf base h (.bin .num .neq) [.s (.int k a), .s (.int k b)] = some (.s (.bool (!decide (a = b))), h) := by rw [o_bin _ _ _ _ _ _ _ (by simp)]; simp [intBin, okI]; rfl
theorem o_lss (k : IntKind) (a b : Int) : opV cf base h (.bin .num .lss) [.s (.int k a), .s (.int k b)] = some (.s (.bool (decide (a < b))), h) := by rw [o_bin _ _ _ _ _ _ _ (by simp)]; rfl
theorem o_leq (k : IntKind) (a b : Int) : opV cf base h (.bin .num .leq) [.s (.int k a), .s (.int k b)] = some (.s (.bool (decide (a ≤ b))), h) := by rw [o_bin _ _ _ _ _ _ _ (by simp)]; rfl
theorem o_gtr (k : IntKind) (a b : Int) : opV cf base h (.bin .num .gtr) [.s (.int k a), .s (.int k b)] = some (.s (.bool (decide (b < a))), h) := by rw [o_bin _ _ _ _ _ _ _ (by simp)]; rfl
theorem o_geq (k : IntKind) (a b : Int) : opV cf base h (.bin .num .geq) [.s (.int k a), .s (.int k b)] = some (.s (.bool (decide (b ≤ a))), h) := by rw [o_bin _ _ _ _ _ _ _ (by simp)]; rfl
theorem o_sadd (a b : ByteArray) (hl : a.size + b.size ≤ 9223372036854775807) : opV cf base h (.bin .num .add) [.s (.string a), .s (.string b)] = some (.s (.string (a ++ b)), h) := by simp [opV, opBin, binV, strBin, hl, okI]
theorem o_seql (a b : ByteArray) : opV cf base h (.bin .num .eql) [.s (.string a), .s (.string b)] = some (.s (.bool (decide (a = b))), h) := by
  have : (a.toList == b.toList) = decide (a = b) := by
    rw [Bool.eq_iff_iff]
    simp only [beq_iff_eq, decide_eq_true_eq]
    constructor
    · intro hh
      apply ByteArray.ext
      apply Array.ext'
      rw [ByteArray.toList_eq, ByteArray.toList_eq] at hh
      exact hh
    · rintro rfl; rfl
  simp [opV, opBin, binV, strBin, okI, this]
theorem o_sneq (a b : ByteArray) : opV cf base h (.bin .num .neq) [.s (.string a), .s (.string b)] = some (.s (.bool (!decide (a = b))), h) := by
  have := o_seql cf base h a b
  simp only [opV, opBin, binV, strBin, okI, Option.bind_some, Option.some.injEq, Prod.mk.injEq, V.s.injEq, Value.bool.injEq, and_true] at this ⊢
  rw [this]
theorem o_beql (a b : Bool) : opV cf base h (.bin .tru .eql) [.s (.bool a), .s (.bool b)] = some (.s (.bool (a == b)), h) := rfl
theorem o_bneq (a b : Bool) : opV cf base h (.bin .tru .neq) [.s (.bool a), .s (.bool b)] = some (.s (.bool !(a == b)), h) := rfl
theorem o_peql00 : opV cf base h (.bin .ptr .eql) [.s (.pointer none), .s (.pointer none)] = some (.s (.bool true), h) := rfl
theorem o_peql10 (id : Nat) (p : List Nat) (t : Nat) : opV cf base h (.bin .ptr .eql) [.ptr id p t, .s (.pointer none)] = some (.s (.bool false), h) := rfl
theorem o_pneq00 : opV cf base h (.bin .ptr .neq) [.s (.pointer none), .s (.pointer none)] = some (.s (.bool false), h) := rfl
theorem o_pneq10 (id : Nat) (p : List Nat) (t : Nat) : opV cf base h (.bin .ptr .neq) [.ptr id p t, .s (.pointer none)] = some (.s (.bool true), h) := rfl
theorem o_nck (id : Nat) (p : List Nat) (t : Nat) : opV cf base h .nck [.ptr id p t] = some (.ptr id p t, h) := rfl
theorem o_nckI (v : V) : opV cf base h .nck [.iptr v] = some (.iptr v, h) := rfl
theorem o_nckF (f : Nat) (c : List V) : opV cf base h .nck [.fn f c] = some (.fn f c, h) := rfl
theorem o_fld (t i : Nat) (fs : List V) : opV cf base h (.fld t i) [.st t fs] = (fs[i]?).map fun v => (v, h) := by simp [opV, opFld]
theorem o_bsl0 (g : Option Nat) : opV cf base h (.bsl g [] []) [] = some (.imm true g [], h) := rfl
theorem o_len (x : V) (n : Nat) (hn : lenV x = some n) : opV cf base h .len [x] = some (.s (.int .i64 n), h) := by simp [opV, opLen, hn, okI]
theorem o_lenI (full : Bool) (g : Option Nat) (es : List V) : opV cf base h .len [.imm full g es] = some (.s (.int .i64 es.length), h) := rfl
theorem o_lenR (id : Nat) (p : List Nat) (g : Option Nat) (off len tot : Nat) : opV cf base h .len [.ref id p g off len tot] = some (.s (.int .i64 len), h) := rfl
theorem o_slen (s : ByteArray) : opV cf base h .slen [.s (.string s)] = some (.s (.int .i64 s.size), h) := rfl
theorem o_i2i (k k' : IntKind) (n : Int) : opV cf base h (.i2i k) [.s (.int k' n)] = some (.s (.int k (k.wrap n)), h) := rfl
theorem o_mki (t : Nat) (x : V) : opV cf base h (.mki t) [x] = some (.iface t x, h) := rfl
theorem o_ext (i : Nat) (vs : List V) : opV cf base h (.ext i) [.tup vs] = (vs[i]?).map fun v => (v, h) := rfl
theorem o_min (k k' : IntKind) (a b : Int) : opV cf base h .min [.s (.int k a), .s (.int k' b)] = some (.s (.int k (min a b)), h) := by
  simp only [opV, opMm, okI]
  have : (if b < a then b else a) = min a b := by split <;> omega
  simp [this]
theorem o_max (k k' : IntKind) (a b : Int) : opV cf base h .max [.s (.int k a), .s (.int k' b)] = some (.s (.int k (max a b)), h) := by
  simp only [opV, opMm, okI]
  have : (if b > a then b else a) = max a b := by split <;> omega
  simp [this]
theorem o_s2bL (s : ByteArray) : opV cf base h (.s2b true) [.s (.string s)] = some (.imm false none (strCells s), h) := rfl
theorem o_rng (s : ByteArray) : opV cf base h .rng [.s (.string s)] = some (.ptr h.length [] 0, h ++ [.siter s 0]) := rfl
theorem o_eqa (t : Nat) (k : IntKind) (neg : Bool) (xs ys : List V) : opV cf base h (.eqa t k neg) [.arr t xs, .arr t ys] = eqaR (ints k xs) (ints k ys) neg h := by
  simp only [opV, opEqa, and_self, if_true, eqaR]; rfl
theorem o_fa (t i id : Nat) (p : List Nat) (tot : Nat) : opV cf base h (.fa t i) [.ptr id p tot] = faR (node h id p tot) t i id p tot h := rfl
theorem o_faI (t i : Nat) (fs : List V) : opV cf base h (.fa t i) [.iptr (.st t fs)] = (fs[i]?).map fun v => (.iptr v, h) := by simp [opV, opFa]
theorem o_iaa (t : Nat) (k : IntKind) (i : Int) (id : Nat) (p : List Nat) (tot : Nat) : opV cf base h (.iaa t) [.ptr id p tot, .s (.int k i)] = iaaR (node h id p tot) t i id p tot h := rfl
theorem o_iaaI (t : Nat) (k : IntKind) (i : Int) (es : List V) : opV cf base h (.iaa t) [.iptr (.arr t es), .s (.int k i)] = if 0 ≤ i ∧ i < es.length then (es[i.toNat]?).map fun v => (.iptr v, h) else none := by simp [opV, opIaa, numOf]
theorem o_ias (g : Option Nat) (k : IntKind) (i : Int) (id : Nat) (p : List Nat) (g' : Option Nat) (off len tot : Nat) : opV cf base h (.ias g) [.ref id p g' off len tot, .s (.int k i)] = iasR (rowAt h id p tot) g i id p g' off len tot h := rfl
theorem o_iasI (g : Option Nat) (k : IntKind) (i : Int) (full : Bool) (es : List V) : opV cf base h (.ias g) [.imm full g es, .s (.int k i)] = if 0 ≤ i then (es[i.toNat]?).map fun v => (.iptr v, h) else none := by simp [opV, opIas, numOf]
theorem o_idx (t : Nat) (k : IntKind) (i : Int) (es : List V) : opV cf base h (.idx t) [.arr t es, .s (.int k i)] = if 0 ≤ i then (es[i.toNat]?).map fun v => (v, h) else none := by simp [opV, opIdx, numOf]
theorem o_sidx (k : IntKind) (i : Int) (s : ByteArray) : opV cf base h .sidx [.s (.string s), .s (.int k i)] = if 0 ≤ i then (s.data.toList[i.toNat]?).map fun b => (byteV b, h) else none := by
  simp only [opV, opSidx, numOf]
  have : s[i.toNat]? = s.data.toList[i.toNat]? := by
    rw [Array.getElem?_toList]; rfl
  rw [this]
  cases s.data.toList[i.toNat]? <;> rfl
theorem o_ld (g : Option Nat) (id : Nat) (p : List Nat) (tot : Nat) : opV cf base h (.ld g) [.ptr id p tot] = ldR (node h id p tot) g h := rfl
theorem o_ldI (v : V) (g : Option Nat) : opV cf base h (.ld g) [.iptr v] = ldR (some v) g h := rfl
theorem o_sto (g : Option Nat) (id : Nat) (p : List Nat) (tot : Nat) (y : V) : opV cf base h (.sto g) [.ptr id p tot, y] = stoR (node h id p tot) (store h id p tot y) g base id y := rfl
theorem o_box (g : Option Nat) (x : V) : opV cf base h (.box g) [x] = if x.ty = g ∧ x.solid = true then some (.ptr h.length [0] 1, h ++ [.cells g [x]]) else none := rfl
theorem o_alc (g : Option Nat) (x : V) : opV cf base h (.alc g x) [] = if x.ty = g ∧ x.solid = true then some (.ptr h.length [0] 1, h ++ [.cells g [x]]) else none := rfl
theorem o_blds (t : Nat) (zero : List V) (places : List Nat) (xs : List V) : opV cf base h (.blds t zero places) xs = if places.length = xs.length then (putParts zero (places.zip xs)).map fun fs => (.st t fs, h) else none := by cases xs <;> rfl
theorem o_blda (t : Nat) (zero : List V) (places : List Nat) (xs : List V) : opV cf base h (.blda t zero places) xs = if places.length = xs.length then (putParts zero (places.zip xs)).map fun fs => (.arr t fs, h) else none := by cases xs <;> rfl
theorem o_bsl (g : Option Nat) (zero : List V) (places : List Nat) (xs : List V) : opV cf base h (.bsl g zero places) xs = if places.length = xs.length then bslR (putParts zero (places.zip xs)) g h else none := by cases xs <;> rfl
theorem o_frz (g : Option Nat) (id n : Nat) : opV cf base h .frz [.ref id [] g 0 n n] = frzQ h[id]? g id n h := by
  simp only [opV, opFrz, frzL, rowOf, frzQ]
  cases h[id]? with
  | none => rfl
  | some b =>
    cases b with
    | cells g' es => by_cases c : es.length = n <;> simp [c, eq_comm]
    | lit g' es => by_cases c : es.length = n <;> simp [c]
    | map => rfl
    | siter => rfl
    | dead => rfl
theorem o_bsx (g : Option Nat) (zero : List V) (places : List Nat) (xs : List V) : opV cf base h (.bsx g zero places) xs = if places.length = xs.length then bsxR (putParts zero (places.zip xs)) g h else none := by
  simp only [opV, opBsx]
  split
  · cases putParts zero (places.zip xs) with
    | none => rfl
    | some es => cases es <;> rfl
  · rfl
theorem o_mks (g : Option Nat) (zero : V) (k k' : IntKind) (n : Int) : opV cf base h (.mks g zero) [.s (.int k n), .s (.int k' n)] = if 0 ≤ n ∧ n ≤ 16777216 then (if n = 0 then some (.imm true g [], h) else some (.ref h.length [] g 0 n.toNat n.toNat, h ++ [.cells g (List.replicate n.toNat zero)])) else none := by
  simp [opV, opMks, numOf]
theorem o_tas (t t' : Nat) (ok : Bool) (zero y : V) : opV cf base h (.tas t ok zero) [.iface t' y] = if t' = t then some (if ok = true then .tup [y, .s (.bool true)] else y, h) else if ok = true then some (.tup [zero, .s (.bool false)], h) else none := rfl
theorem o_nxt (id : Nat) : opV cf base h .nxt [.ptr id [] 0] = nxtR h[id]? id h := rfl
theorem o_app (g : Option Nat) (bytes : Nat) (x y : V) : opV cf base h (.app g bytes) [x, y] = (source h y).bind fun r => appendV base g bytes h x r.1 r.2 := rfl
end

theorem ty_s (x : Value) : (V.s x).ty = none := (rfl)
theorem ty_ptr (a : Nat) (b : List Nat) (c : Nat) : (V.ptr a b c).ty = none := (rfl)
theorem ty_ref (a : Nat) (b : List Nat) (g : Option Nat) (c d e : Nat) : (V.ref a b g c d e).ty = none := (rfl)
theorem ty_imm (f : Bool) (g : Option Nat) (es : List V) : (V.imm f g es).ty = none := (rfl)
theorem ty_iptr (v : V) : (V.iptr v).ty = none := (rfl)
theorem ty_iface (t : Nat) (v : V) : (V.iface t v).ty = none := (rfl)
theorem ty_fn (t : Nat) (v : List V) : (V.fn t v).ty = none := (rfl)
theorem ty_st (t : Nat) (fs : List V) : (V.st t fs).ty = some t := (rfl)
theorem ty_arr (t : Nat) (fs : List V) : (V.arr t fs).ty = some t := (rfl)
theorem solid_s (x : Value) : (V.s x).solid = true := (rfl)
theorem solid_ptr (a : Nat) (b : List Nat) (c : Nat) : (V.ptr a b c).solid = true := (rfl)
theorem solid_ref (a : Nat) (b : List Nat) (g : Option Nat) (c d e : Nat) : (V.ref a b g c d e).solid = true := (rfl)
theorem solid_imm (f : Bool) (g : Option Nat) (es : List V) : (V.imm f g es).solid = true := (rfl)
theorem solid_iptr (v : V) : (V.iptr v).solid = true := (rfl)
theorem solid_iface (t : Nat) (v : V) : (V.iface t v).solid = true := (rfl)
theorem solid_fn (t : Nat) (v : List V) : (V.fn t v).solid = true := (rfl)
theorem solid_st (t : Nat) (fs : List V) : (V.st t fs).solid = true := (rfl)
theorem solid_arr (t : Nat) (fs : List V) : (V.arr t fs).solid = true := (rfl)
theorem opLd_ptr (h : Hp) (g : Option Nat) (id : Nat) (p : List Nat) (tot : Nat) : opLd h g (.ptr id p tot) = ldR (node h id p tot) g h := rfl
theorem opLd_iptr (h : Hp) (g : Option Nat) (v : V) : opLd h g (.iptr v) = ldR (some v) g h := rfl
theorem wrap_i64 {n : Int} (h0 : -9223372036854775808 ≤ n) (h1 : n < 9223372036854775808) : IntKind.i64.wrap n = n := IntWalk.i64_in n (by omega)
/-! Which operations turn the heap, which look at it. -/
theorem eff_mv  : (O.mv).eff = false := rfl
theorem indep_mv  : (O.mv).indep = true := rfl
theorem eff_pick  : (O.pick).eff = false := rfl
theorem indep_pick  : (O.pick).indep = true := rfl
theorem eff_bin (c : Cl) (o : BinOp) : (O.bin c o).eff = false := rfl
theorem indep_bin (c : Cl) (o : BinOp) : (O.bin c o).indep = true := rfl
theorem eff_apz (g : Option Nat) (n : Nat) (z : V) : (O.apz g n z).eff = true := rfl
theorem eff_cap : O.cap.eff = false := rfl
theorem indep_cap : O.cap.indep = true := rfl
theorem eff_s2a (t : Nat) (g : Option Nat) (n : Nat) : (O.s2a t g n).eff = true := rfl
theorem eff_eqs (t : Nat) (k : List LK) (n : Bool) : (O.eqs t k n).eff = false := rfl
theorem indep_eqs (t : Nat) (k : List LK) (n : Bool) : (O.eqs t k n).indep = true := rfl
theorem eff_eqa (t : Nat) (k : IntKind) (n : Bool) : (O.eqa t k n).eff = false := rfl
theorem indep_eqa (t : Nat) (k : IntKind) (n : Bool) : (O.eqa t k n).indep = true := rfl
theorem eff_un (o : UnOp) : (O.un o).eff = false := rfl
theorem indep_un (o : UnOp) : (O.un o).indep = true := rfl
theorem eff_nck  : (O.nck).eff = false := rfl
theorem indep_nck  : (O.nck).indep = true := rfl
theorem eff_fa (t i : Nat) : (O.fa t i).eff = false := rfl
theorem indep_fa (t i : Nat) : (O.fa t i).indep = false := rfl
theorem eff_fld (t i : Nat) : (O.fld t i).eff = false := rfl
theorem indep_fld (t i : Nat) : (O.fld t i).indep = true := rfl
theorem eff_iaa (t : Nat) : (O.iaa t).eff = false := rfl
theorem indep_iaa (t : Nat) : (O.iaa t).indep = false := rfl
theorem eff_ias (g : Option Nat) : (O.ias g).eff = false := rfl
theorem indep_ias (g : Option Nat) : (O.ias g).indep = false := rfl
theorem eff_idx (t : Nat) : (O.idx t).eff = false := rfl
theorem indep_idx (t : Nat) : (O.idx t).indep = true := rfl
theorem eff_sidx  : (O.sidx).eff = false := rfl
theorem indep_sidx  : (O.sidx).indep = true := rfl
theorem eff_ld (g : Option Nat) : (O.ld g).eff = false := rfl
theorem indep_ld (g : Option Nat) : (O.ld g).indep = false := rfl
theorem eff_sto (g : Option Nat) : (O.sto g).eff = true := rfl
theorem eff_box (g : Option Nat) : (O.box g).eff = true := rfl
theorem eff_alc (g : Option Nat) (z : V) : (O.alc g z).eff = true := rfl
theorem eff_blds (t : Nat) (z : List V) (p : List Nat) : (O.blds t z p).eff = false := rfl
theorem indep_blds (t : Nat) (z : List V) (p : List Nat) : (O.blds t z p).indep = true := rfl
theorem eff_blda (t : Nat) (z : List V) (p : List Nat) : (O.blda t z p).eff = false := rfl
theorem indep_blda (t : Nat) (z : List V) (p : List Nat) : (O.blda t z p).indep = true := rfl
theorem eff_frz  : (O.frz).eff = true := rfl
theorem eff_apx (g : Option Nat) (n : Nat) : (O.apx g n).eff = true := rfl
theorem eff_bsx (g : Option Nat) (z : List V) (p : List Nat) : (O.bsx g z p).eff = true := rfl
theorem eff_mks (g : Option Nat) (z : V) : (O.mks g z).eff = true := rfl
theorem eff_slc (g : Option Nat) (a b c : Bool) : (O.slc g a b c).eff = false := rfl
theorem indep_slc (g : Option Nat) (a b c : Bool) : (O.slc g a b c).indep = false := rfl
theorem eff_sla (t : Nat) (g : Option Nat) (a b : Bool) : (O.sla t g a b).eff = false := rfl
theorem indep_sla (t : Nat) (g : Option Nat) (a b : Bool) : (O.sla t g a b).indep = false := rfl
theorem eff_sls (a b : Bool) : (O.sls a b).eff = false := rfl
theorem indep_sls (a b : Bool) : (O.sls a b).indep = true := rfl
theorem eff_len  : (O.len).eff = false := rfl
theorem indep_len  : (O.len).indep = true := rfl
theorem eff_slen  : (O.slen).eff = false := rfl
theorem indep_slen  : (O.slen).indep = true := rfl
theorem eff_app (g : Option Nat) (n : Nat) : (O.app g n).eff = true := rfl
theorem eff_cpy (g : Option Nat) : (O.cpy g).eff = true := rfl
theorem eff_clr (g : Option Nat) (z : V) : (O.clr g z).eff = true := rfl
theorem eff_i2i (k : IntKind) : (O.i2i k).eff = false := rfl
theorem indep_i2i (k : IntKind) : (O.i2i k).indep = true := rfl
theorem eff_b2s  : (O.b2s).eff = false := rfl
theorem eff_r2s {b : Bool} : (O.r2s b).eff = false := rfl
theorem indep_r2s {b : Bool} : (O.r2s b).indep = false := rfl
theorem indep_b2s  : (O.b2s).indep = false := rfl
theorem eff_mki (t : Nat) : (O.mki t).eff = false := rfl
theorem indep_mki (t : Nat) : (O.mki t).indep = true := rfl
theorem eff_tas (t : Nat) (o : Bool) (z : V) : (O.tas t o z).eff = false := rfl
theorem indep_tas (t : Nat) (o : Bool) (z : V) : (O.tas t o z).indep = true := rfl
theorem eff_ext (i : Nat) : (O.ext i).eff = false := rfl
theorem indep_ext (i : Nat) : (O.ext i).indep = true := rfl
theorem eff_min  : (O.min).eff = false := rfl
theorem indep_min  : (O.min).indep = true := rfl
theorem eff_max  : (O.max).eff = false := rfl
theorem indep_max  : (O.max).indep = true := rfl
theorem eff_rng  : (O.rng).eff = true := rfl
theorem eff_nxt  : (O.nxt).eff = true := rfl
theorem eff_call (f : Nat) : (O.call f).eff = true := rfl
theorem eff_callv  : (O.callv).eff = true := rfl
theorem eff_mkf (f : Nat) : (O.mkf f).eff = false := rfl
theorem indep_mkf (f : Nat) : (O.mkf f).indep = true := rfl
theorem eff_bsl0 (g : Option Nat) (p : List Nat) : (O.bsl g [] p).eff = false := rfl
theorem indep_bsl0 (g : Option Nat) (p : List Nat) : (O.bsl g [] p).indep = false := rfl
theorem eff_bsl (g : Option Nat) (z : V) (zs : List V) (p : List Nat) : (O.bsl g (z :: zs) p).eff = true := rfl
theorem eff_nop : (O.nop).eff = false := rfl
theorem indep_nop : (O.nop).indep = true := rfl
theorem eff_fzp (g : Option Nat) : (O.fzp g).eff = false := rfl
theorem indep_fzp (g : Option Nat) : (O.fzp g).indep = true := rfl
theorem eff_callp (f : Nat) : (O.callp f).eff = false := rfl
theorem indep_callp (f : Nat) : (O.callp f).indep = false := rfl
theorem eff_bsi (g : Option Nat) (z : List V) (p : List Nat) : (O.bsi g z p).eff = false := rfl
theorem indep_bsi (g : Option Nat) (z : List V) (p : List Nat) : (O.bsi g z p).indep = true := rfl
theorem stepE_t {cf : CF} {base : Nat} {e : Env} {h : Hp} (d : Option Nat) (o : Vm.O) (xs : List X) (t : Nat) (b : Bool) (hw : wantV (e t) b = some true) : stepE cf base e h ⟨d, o, xs, some (t, b)⟩ = opV cf base h o (xs.map (X.on e)) := by
  unfold stepE wantE; simp only [hw]
theorem stepE_f {cf : CF} {base : Nat} {e : Env} {h : Hp} (d : Option Nat) (o : Vm.O) (xs : List X) (t : Nat) (b : Bool) (hw : wantV (e t) b = some false) : stepE cf base e h ⟨d, o, xs, some (t, b)⟩ = some (.tup [], h) := by
  unfold stepE wantE; simp only [hw]
theorem eff_s2b (l : Bool) : (O.s2b l).eff = !l := rfl
theorem indep_s2b (l : Bool) : (O.s2b l).indep = l := rfl
/-! Loops: what holds ahead of each round; a number that falls. -/
def stepK (I : Nat → Env → Hp → Prop) (n : Nat) (Q : Post) : Post
  | .normal, e, h => ∃ m, m < n ∧ I m e h
  | ex, e, h => Q ex e h
theorem stepK_normal (I : Nat → Env → Hp → Prop) (n : Nat) (Q : Post) (e : Env) (h : Hp) : stepK I n Q .normal e h = ∃ m, m < n ∧ I m e h := rfl
theorem stepK_ret (I : Nat → Env → Hp → Prop) (n : Nat) (Q : Post) (e : Env) (h : Hp) : stepK I n Q .ret e h = Q .ret e h := rfl
theorem stepK_exit (I : Nat → Env → Hp → Prop) (n : Nat) (Q : Post) (i : Nat) (e : Env) (h : Hp) : stepK I n Q (.exit i) e h = Q (.exit i) e h := rfl
theorem wp_while {cf : CF} {base : Nat} {a : C} {Q : Post} (I : Nat → Env → Hp → Prop) (step : ∀ n e h, I n e h → wp cf base a e h (stepK I n Q)) : ∀ (n : Nat) (e : Env) (h : Hp), I n e h → wp cf base (.loop a) e h Q := by
  intro n
  induction n using Nat.strongRecOn with
  | ind n ih =>
    intro e h hi
    rw [wp_loop]
    refine wp_mono _ _ (step n e h hi) fun ex e' h' hq => ?_
    cases ex with
    | normal => obtain ⟨m, hm, hi'⟩ := hq; exact ih m hm e' h' hi'
    | exit i => exact hq
    | ret => exact hq

/-- What holds behind a piece of code that is not left otherwise. -/
def midK (M : Env → Hp → Prop) (K : Post) : Post
  | .normal, e, h => M e h
  | ex, e, h => K ex e h
theorem midK_normal (M : Env → Hp → Prop) (K : Post) (e : Env) (h : Hp) : midK M K .normal e h = M e h := rfl
theorem midK_ret (M : Env → Hp → Prop) (K : Post) (e : Env) (h : Hp) : midK M K .ret e h = K .ret e h := rfl
theorem midK_exit (M : Env → Hp → Prop) (K : Post) (i : Nat) (e : Env) (h : Hp) : midK M K (.exit i) e h = K (.exit i) e h := rfl
theorem blockK_mid {i : Nat} {M : Env → Hp → Prop} {K : Post} (h2 : ∀ e' h', M e' h' → K .normal e' h') {ex : Ex} {e : Env} {h : Hp} (hq : blockK i (midK M K) ex e h) : blockK i K ex e h := by
  cases ex with
  | normal => exact h2 _ _ hq
  | exit j =>
    rw [blockK_exit] at hq ⊢
    split
    · rename_i hj; rw [if_pos hj] at hq; exact h2 _ _ hq
    · rename_i hj; rw [if_neg hj] at hq; exact hq
  | ret => exact hq
/-- A loop, and what stands behind it. -/
theorem wp_for {cf : CF} {base : Nat} {a : C} {i : Nat} {K : Post} (I : Nat → Env → Hp → Prop) (M : Env → Hp → Prop) (n : Nat) (e : Env) (h : Hp) (init : I n e h)
    (step : ∀ n e h, I n e h → wp cf base a e h (stepK I n (blockK i (midK M K)))) (rest : ∀ e h, M e h → K .normal e h) : wp cf base (.loop a) e h (blockK i K) :=
  wp_mono _ _ (wp_while I step n e h init) fun _ _ _ hq => blockK_mid rest hq

/-! Ends. -/
theorem retP_ret (res : List Rs) (n : Nat) (q : V × Hp) (e : Env) (h : Hp) : retP res n q .ret e h = retV (resEs e h res) n h q := rfl
theorem retP_normal (res : List Rs) (n : Nat) (q : V × Hp) (e : Env) (h : Hp) : retP res n q .normal e h = retV (resEs e h res) n h q := rfl
theorem retN_ret (res : List Rs) (q : V × Hp) (e : Env) (h : Hp) : retN res q .ret e h = retX (resEs e h res) h q := rfl
theorem retN_normal (res : List Rs) (q : V × Hp) (e : Env) (h : Hp) : retN res q .normal e h = retX (resEs e h res) h q := rfl
theorem retQ_ret (res : List Rs) (Q : V → Hp → Prop) (e : Env) (h : Hp) : retQ res Q .ret e h = retY (resEs e h res) h Q := rfl
theorem retQ_normal (res : List Rs) (Q : V → Hp → Prop) (e : Env) (h : Hp) : retQ res Q .normal e h = retY (resEs e h res) h Q := rfl
theorem retY_some (vs : List V) (h : Hp) (Q : V → Hp → Prop) : retY (some vs) h Q = Q (tupV vs) h := rfl
theorem retV_some (vs : List V) (n : Nat) (h : Hp) (q : V × Hp) : retV (some vs) n h q = retW (frzV n h (tupV vs)) n h q := rfl
theorem retW_some (v : V) (n : Nat) (h : Hp) (q : V × Hp) : retW (some v) n h q = (q = (v, h.take n)) := rfl
theorem retX_some (vs : List V) (h : Hp) (q : V × Hp) : retX (some vs) h q = (q = (tupV vs, h)) := rfl
theorem resEs_nil (e : Env) (h : Hp) : resEs e h [] = some [] := rfl
theorem resEs_t (e : Env) (h : Hp) (n : Nat) (rs : List Rs) : resEs e h (.t n :: rs) = (resEs e h rs).map (e n :: ·) := by
  simp only [resEs, resE]; cases resEs e h rs <;> rfl
theorem resEs_cell (e : Env) (h : Hp) (n : Nat) (g : Option Nat) (rs : List Rs) : resEs e h (.cell n g :: rs) = (opLd h g (e n)).bind fun r => (resEs e h rs).map (r.1 :: ·) := by
  simp only [resEs, resE]; cases opLd h g (e n) <;> cases resEs e h rs <;> rfl
theorem tupV_nil : tupV [] = .tup [] := rfl
theorem tupV_one (v : V) : tupV [v] = v := rfl
theorem tupV_two (v w : V) (vs : List V) : tupV (v :: w :: vs) = .tup (v :: w :: vs) := rfl

/-- Values that hold no place of memory that may be written; no slice is said to be full. -/
def V.plain : V → Bool
  | .s _ => true
  | .imm f _ es => !f && all es
  | .st _ fs => all fs
  | .arr _ es => all es
  | .tup vs => all vs
  | .iface _ v => v.plain
  | _ => false
where all : List V → Bool
  | [] => true
  | v :: vs => v.plain && all vs

theorem frz_plain (n : Nat) (h : Hp) : ∀ (v : V), v.plain = true → frzV n h v = some v := by
  intro v
  induction v using V.rec (motive_2 := fun vs => V.plain.all vs = true → frzV.all n h vs = some vs) with
  | s x => intro _; simp [frzV, V.low]
  | imm f g es ih =>
    intro hp
    simp only [V.plain, Bool.and_eq_true, Bool.not_eq_true'] at hp
    simp only [frzV, ih hp.2, hp.1]; rfl
  | st t fs ih => intro hp; simp only [V.plain] at hp; simp only [frzV, ih hp]; rfl
  | arr t es ih => intro hp; simp only [V.plain] at hp; simp only [frzV, ih hp]; rfl
  | tup vs ih => intro hp; simp only [V.plain] at hp; simp only [frzV, ih hp]; rfl
  | iface t v ih => intro hp; simp only [V.plain] at hp; simp only [frzV, ih hp]; rfl
  | nil => rfl
  | cons v vs h1 h2 =>
    rename_i hp
    simp only [V.plain.all, Bool.and_eq_true] at hp
    simp only [frzV.all, h1 hp.1, h2 hp.2]
  | _ => intro hp; simp [V.plain] at hp

theorem ground_plain : ∀ (v : V), v.plain = true → v.ground = true := by
  intro v
  induction v using V.rec (motive_2 := fun vs => V.plain.all vs = true → V.ground.all vs = true) with
  | s x => intro _; rfl
  | imm f g es ih => intro hp; simp only [V.plain, Bool.and_eq_true] at hp; exact ih hp.2
  | st t fs ih => intro hp; exact ih hp
  | arr t es ih => intro hp; exact ih hp
  | tup vs ih => intro hp; exact ih hp
  | iface t v ih => intro hp; exact ih hp
  | nil => rfl
  | cons v vs h1 h2 =>
    rename_i hp
    simp only [V.plain.all, Bool.and_eq_true] at hp
    simp only [V.ground.all, h1 hp.1, h2 hp.2, Bool.and_self]
  | _ => intro hp; simp [V.plain] at hp

theorem plain_s (x : Value) : (V.s x).plain = true := (rfl)
theorem plain_imm (g : Option Nat) (es : List V) : (V.imm false g es).plain = V.plain.all es := (rfl)
theorem plain_st (t : Nat) (fs : List V) : (V.st t fs).plain = V.plain.all fs := (rfl)
theorem plain_arr (t : Nat) (fs : List V) : (V.arr t fs).plain = V.plain.all fs := (rfl)
theorem plain_tup (fs : List V) : (V.tup fs).plain = V.plain.all fs := (rfl)
theorem plain_iface (t : Nat) (v : V) : (V.iface t v).plain = v.plain := (rfl)
theorem plain_nil : V.plain.all [] = true := (rfl)
theorem plain_cons (v : V) (vs : List V) : V.plain.all (v :: vs) = (v.plain && V.plain.all vs) := (rfl)
theorem plain_all_iff {vs : List V} : V.plain.all vs = true ↔ ∀ v ∈ vs, v.plain = true := by
  induction vs with
  | nil => simp [V.plain.all]
  | cons v vs ih => simp [V.plain.all, ih]
theorem plain_map {α : Type} (f : α → V) (hf : ∀ x, (f x).plain = true) (l : List α) : V.plain.all (l.map f) = true := by
  rw [plain_all_iff]; intro v hv; obtain ⟨x, _, rfl⟩ := List.mem_map.1 hv; exact hf x
theorem low_plain (n : Nat) : ∀ (v : V), v.plain = true → v.low n = true := by
  intro v
  induction v using V.rec (motive_2 := fun vs => V.plain.all vs = true → V.low.all n vs = true) with
  | s x => intro _; rfl
  | imm f g es ih => intro hp; simp only [V.plain, Bool.and_eq_true] at hp; exact ih hp.2
  | st t fs ih => intro hp; exact ih hp
  | arr t es ih => intro hp; exact ih hp
  | tup vs ih => intro hp; exact ih hp
  | iface t v ih => intro hp; exact ih hp
  | nil => rfl
  | cons v vs h1 h2 =>
    rename_i hp
    simp only [V.plain.all, Bool.and_eq_true] at hp
    simp only [V.low.all, h1 hp.1, h2 hp.2, Bool.and_self]
  | _ => intro hp; simp [V.plain] at hp

/-- A slice of plain values in memory of the call's own. -/
theorem frz_ref (n : Nat) (h : Hp) (id : Nat) (g : Option Nat) (off len tot : Nat) (es : List V) (hid : n ≤ id) (hg : h[id]? = some (.cells g es)) (ht : es.length = tot) (hl : off + len ≤ tot) (hp : V.plain.all es = true) :
    frzV n h (.ref id [] g off len tot) = some (.imm false g ((es.drop off).take len)) := by
  have h1 : ¬ id < n := by omega
  have h2 : V.low.all n ((es.drop off).take len) = true := by
    rw [plain_all_iff] at hp
    have : ∀ {vs : List V}, (∀ v ∈ vs, v.plain = true) → V.low.all n vs = true := by
      intro vs
      induction vs with
      | nil => intro _; rfl
      | cons v vs ih => intro hv; simp only [V.low.all, low_plain n v (hv v (by simp)), ih (fun x hx => hv x (by simp [hx])), Bool.and_self]
    exact this fun v hv => hp v (List.mem_of_mem_drop (List.mem_of_mem_take hv))
  simp [frzV, h1, rowOf, hg, ht, hl, h2]
/-- All of it. -/
theorem frz_all (n : Nat) (h : Hp) (id : Nat) (g : Option Nat) (len : Nat) (es : List V) (hid : n ≤ id) (hg : h[id]? = some (.cells g es)) (ht : es.length = len) (hp : V.plain.all es = true) :
    frzV n h (.ref id [] g 0 len len) = some (.imm false g es) := by
  rw [frz_ref n h id g 0 len len es hid hg ht (by omega) hp]
  simp [← ht]
theorem frz_imm (n : Nat) (h : Hp) (f : Bool) (g : Option Nat) (es : List V) (hp : V.plain.all es = true) : frzV n h (.imm f g es) = some (.imm false g es) := by
  have := frz_plain n h (.imm false g es) (by simpa [V.plain] using hp)
  simpa [frzV] using this

theorem frz_s (n : Nat) (h : Hp) (x : Value) : frzV n h (.s x) = some (.s x) := by simp [frzV, V.low]
theorem frz_tup (n : Nat) (h : Hp) (vs : List V) : frzV n h (.tup vs) = (frzV.all n h vs).map V.tup := by simp only [frzV]
theorem frz_st (n : Nat) (h : Hp) (t : Nat) (vs : List V) : frzV n h (.st t vs) = (frzV.all n h vs).map (V.st t) := by simp only [frzV]
theorem frz_arr (n : Nat) (h : Hp) (t : Nat) (vs : List V) : frzV n h (.arr t vs) = (frzV.all n h vs).map (V.arr t) := by simp only [frzV]
theorem frz_iface (n : Nat) (h : Hp) (t : Nat) (v : V) : frzV n h (.iface t v) = (frzV n h v).map (V.iface t) := by simp only [frzV]
theorem frzA_nil (n : Nat) (h : Hp) : frzV.all n h [] = some [] := by simp only [frzV.all]
theorem frzA_cons (n : Nat) (h : Hp) (v : V) (vs : List V) : frzV.all n h (v :: vs) = (frzV n h v).bind fun v' => (frzV.all n h vs).map (v' :: ·) := by
  simp only [frzV.all]; cases frzV n h v <;> cases frzV.all n h vs <;> rfl
/-! Bytes. -/
theorem plain_byte (b : UInt8) : (byteV b).plain = true := (rfl)
theorem plain_bytes (l : List UInt8) : V.plain.all (l.map byteV) = true := plain_map _ plain_byte l
theorem bytesOf_map (l : List UInt8) : bytesOf (l.map byteV) = some l := by
  induction l with
  | nil => rfl
  | cons b l ih =>
    simp only [List.map_cons, byteV, bytesOf]
    rw [ih]
    simp
theorem o_b2s (cf : CF) (base : Nat) (h : Hp) (x : V) (g : Option Nat) (l : List UInt8) (hx : elems h x = some (g, l.map byteV)) : opV cf base h .b2s [x] = some (.s (.string ⟨l.toArray⟩), h) := by
  simp [opV, opB2s, hx, bytesOf_map, okI]
theorem elems_imm (h : Hp) (f : Bool) (g : Option Nat) (es : List V) : elems h (.imm f g es) = some (g, es) := rfl
theorem elems_ref (h : Hp) (id : Nat) (g : Option Nat) (off len tot : Nat) (es : List V) (hg : h[id]? = some (.cells g es)) (ht : es.length = tot) : elems h (.ref id [] g off len tot) = some (g, (es.drop off).take len) := by
  simp [elems, rowAt, rowOf, hg, ht]

/-! Lists as heaps. -/
theorem get_app (h t : Hp) (k : Nat) : (h ++ t)[h.length + k]? = t[k]? := by
  rw [List.getElem?_append_right (by omega)]; simp
theorem get_app0 (h t : Hp) : (h ++ t)[h.length]? = t[0]? := by
  rw [List.getElem?_append_right (by omega)]; simp
theorem get_old {h : Hp} {id : Nat} {b : Blk} (hg : h[id]? = some b) (t : Hp) : (h ++ t)[id]? = some b := by
  have := (List.getElem?_eq_some_iff.1 hg).1
  rw [List.getElem?_append_left this]; exact hg
theorem set_app (h t : Hp) (k : Nat) (b : Blk) : (h ++ t).set (h.length + k) b = h ++ t.set k b := by
  rw [List.set_append_right _ _ (by omega)]; simp
theorem set_app0 (h t : Hp) (b : Blk) : (h ++ t).set h.length b = h ++ t.set 0 b := by
  rw [List.set_append_right _ _ (by omega)]; simp
theorem take_app (h t : Hp) : (h ++ t).take h.length = h := by simp
theorem lt_of_get {h : Hp} {id : Nat} {b : Blk} (hg : h[id]? = some b) : id < h.length := (List.getElem?_eq_some_iff.1 hg).1
end Go.Vm
/- Bytes in the heap; what a call leaves as it was; a copy of bytes. -/
namespace Go.Vm
set_option linter.unusedVariables false
set_option linter.unusedSimpArgs false
set_option linter.unusedSectionVars false

/-- A slice reads as these elements. -/
def SR (h : Hp) (x : V) (g : Option Nat) (vs : List V) : Prop :=
  (∃ f, x = .imm f g vs) ∨ ∃ id off tot es, x = .ref id [] g off vs.length tot ∧ h[id]? = some (.cells g es) ∧ es.length = tot ∧ off + vs.length ≤ tot ∧ (es.drop off).take vs.length = vs
/-- A slice reads as these bytes. -/
def BR (h : Hp) (x : V) (l : List UInt8) : Prop :=
  (∃ f, x = .imm f none (l.map byteV)) ∨ ∃ (id off : Nat) (bl : List UInt8), x = .ref id [] none off l.length bl.length ∧ h[id]? = some (.cells none (bl.map byteV)) ∧ off + l.length ≤ bl.length ∧ (bl.drop off).take l.length = l
theorem BR.sr {h : Hp} {x : V} {l : List UInt8} (hb : BR h x l) : SR h x none (l.map byteV) := by
  rcases hb with ⟨f, rfl⟩ | ⟨id, off, bl, rfl, h1, h2, h3⟩
  · exact .inl ⟨f, rfl⟩
  · exact .inr ⟨id, off, bl.length, bl.map byteV, by simp, h1, by simp, by simpa using h2, by rw [List.length_map, ← List.map_drop, ← List.map_take, h3]⟩

/-- What a call leaves as it was: all but S; all bytes. -/
structure Fw (S : List Nat) (h h' : Hp) : Prop where
  len : h.length ≤ h'.length
  old : ∀ (j : Nat) (b : Blk), h[j]? = some b → j ∉ S → h'[j]? = some b
  byt : ∀ (j : Nat) (l : List UInt8), h[j]? = some (.cells none (l.map byteV)) → h'[j]? = some (.cells none (l.map byteV))

theorem Fw.refl (S : List Nat) (h : Hp) : Fw S h h := ⟨Nat.le_refl _, fun _ _ h _ => h, fun _ _ h => h⟩
theorem Fw.trans {S : List Nat} {a b c : Hp} (h : Fw S a b) (k : Fw S b c) : Fw S a c :=
  ⟨Nat.le_trans h.len k.len, fun j x hj hs => k.old j x (h.old j x hj hs) hs, fun j es hj => k.byt j es (h.byt j es hj)⟩
theorem Fw.mono {S T : List Nat} {a b : Hp} (h : Fw S a b) (hs : ∀ j ∈ S, j ∈ T) : Fw T a b :=
  ⟨h.len, fun j x hj ht => h.old j x hj (fun hj' => ht (hs j hj')), h.byt⟩
/-- What was new may be turned. -/
theorem Fw.new {S T : List Nat} {a b c : Hp} (h : Fw S a b) (k : Fw T b c) (ht : ∀ j ∈ T, a.length ≤ j ∨ j ∈ S) : Fw S a c :=
  ⟨Nat.le_trans h.len k.len, fun j x hj hs => k.old j x (h.old j x hj hs) (fun hj' => by
    rcases ht j hj' with h1 | h1
    · have := lt_of_get hj; omega
    · exact hs h1), fun j es hj => k.byt j es (h.byt j es hj)⟩
theorem Fw.app (S : List Nat) (h t : Hp) : Fw S h (h ++ t) :=
  ⟨by simp, fun j b hj _ => get_old hj t, fun j es hj => get_old hj t⟩
theorem Fw.set {S : List Nat} {h : Hp} {id g : Nat} {es es' : List V} (hid : id ∈ S) (hg : h[id]? = some (.cells (some g) es)) : Fw S h (h.set id (.cells (some g) es')) :=
  ⟨by simp, fun j b hj hs => by
    have hne : id ≠ j := fun e => by subst e; exact hs hid
    rw [List.getElem?_set_ne hne]; exact hj, fun j es2 hj => by
    have : id ≠ j := fun e => by subst e; rw [hg] at hj; cases hj
    rw [List.getElem?_set_ne this]; exact hj⟩
theorem Fw.set_new {S : List Nat} {a b : Hp} (f : Fw S a b) {c : Nat} (hc : a.length ≤ c) (k : Blk) : Fw S a (b.set c k) :=
  ⟨by simpa using f.len, fun j x hj hs => by
    have := lt_of_get hj
    rw [List.getElem?_set_ne (by omega)]; exact f.old j x hj hs, fun j es hj => by
    have := lt_of_get hj
    rw [List.getElem?_set_ne (by omega)]; exact f.byt j es hj⟩
theorem Fw.setN {S : List Nat} {h : Hp} {id : Nat} {es : List V} {k : Blk} (hid : id ∈ S) (hg : h[id]? = some (.cells none es)) (hn : ∀ l : List UInt8, es ≠ l.map byteV) : Fw S h (h.set id k) :=
  ⟨by simp, fun j b hj hs => by
    have hne : id ≠ j := fun e => by subst e; exact hs hid
    rw [List.getElem?_set_ne hne]; exact hj, fun j l hj => by
    have : id ≠ j := fun e => by subst e; rw [hg] at hj; simp only [Option.some.injEq, Blk.cells.injEq, true_and] at hj; exact hn l hj
    rw [List.getElem?_set_ne this]; exact hj⟩
theorem Fw.lt {S : List Nat} {h h' : Hp} (f : Fw S h h') {j : Nat} (hj : j < h.length) : j < h'.length := Nat.lt_of_lt_of_le hj f.len

/-- What was there is there; nothing of it was turned. -/
theorem Fw.take {h h' : Hp} (f : Fw [] h h') : h'.take h.length = h := by
  apply List.ext_getElem?
  intro j
  rw [List.getElem?_take]
  split
  · rename_i hj
    rw [List.getElem?_eq_getElem hj]
    exact f.old j _ (List.getElem?_eq_getElem hj) (by simp)
  · rename_i hj
    rw [List.getElem?_eq_none (Nat.le_of_not_lt hj)]
theorem Fw.step {S : List Nat} {a b c : Hp} {i : Nat} (h : Fw S a b) (k : Fw [i] b c) (hi : a.length ≤ i) : Fw S a c := h.new k (by simp; exact .inl hi)
theorem set_get {h : Hp} {id : Nat} {b b' : Blk} (hg : h[id]? = some b') : (h.set id b)[id]? = some b := by
  rw [List.getElem?_set_self (lt_of_get hg)]

theorem BR.mono {S : List Nat} {h h' : Hp} {x : V} {l : List UInt8} (hb : BR h x l) (f : Fw S h h') : BR h' x l := by
  rcases hb with h1 | ⟨id, off, bl, h1, h2, h3, h4⟩
  · exact .inl h1
  · exact .inr ⟨id, off, bl, h1, f.byt _ _ h2, h3, h4⟩
theorem SR.len {h : Hp} {x : V} {g : Option Nat} {vs : List V} (hb : SR h x g vs) : lenV x = some vs.length := by
  rcases hb with ⟨f, rfl⟩ | ⟨id, off, tot, es, rfl, _⟩ <;> rfl
theorem SR.elems {h : Hp} {x : V} {g : Option Nat} {vs : List V} (hb : SR h x g vs) : elems h x = some (g, vs) := by
  rcases hb with ⟨f, rfl⟩ | ⟨id, off, tot, es, rfl, h2, h3, h4, h5⟩
  · rfl
  · rw [elems_ref h id g off _ tot es h2 h3, h5]
theorem SR.ty {h : Hp} {x : V} {g : Option Nat} {vs : List V} (hb : SR h x g vs) : x.ty = none := by
  rcases hb with ⟨f, rfl⟩ | ⟨id, off, tot, es, rfl, _⟩ <;> rfl
theorem SR.solid {h : Hp} {x : V} {g : Option Nat} {vs : List V} (hb : SR h x g vs) : x.solid = true := by
  rcases hb with ⟨f, rfl⟩ | ⟨id, off, tot, es, rfl, _⟩ <;> rfl
theorem SR.src {h : Hp} {x : V} {g : Option Nat} {vs : List V} (hb : SR h x g vs) : source h x = some (g, vs) := by
  have := hb.elems
  rcases hb with ⟨f, rfl⟩ | ⟨id, off, tot, es, rfl, _⟩ <;> exact this
theorem BR.len {h : Hp} {x : V} {l : List UInt8} (hb : BR h x l) : lenV x = some l.length := by
  have := SR.len hb.sr; rwa [List.length_map] at this
theorem BR.elems {h : Hp} {x : V} {l : List UInt8} (hb : BR h x l) : elems h x = some (none, l.map byteV) := hb.sr.elems
theorem BR.ty {h : Hp} {x : V} {l : List UInt8} (hb : BR h x l) : x.ty = none := hb.sr.ty
theorem BR.solid {h : Hp} {x : V} {l : List UInt8} (hb : BR h x l) : x.solid = true := hb.sr.solid
theorem BR.src {h : Hp} {x : V} {l : List UInt8} (hb : BR h x l) : source h x = some (none, l.map byteV) := hb.sr.src
theorem BR.o_len {cf : CF} {base : Nat} {h0 h : Hp} {x : V} {l : List UInt8} (hb : BR h0 x l) : opV cf base h .len [x] = some (.s (.int .i64 l.length), h) := Vm.o_len cf base h x _ hb.len
theorem BR.o_b2s {cf : CF} {base : Nat} {h : Hp} {x : V} {l : List UInt8} (hb : BR h x l) : opV cf base h .b2s [x] = some (.s (.string ⟨l.toArray⟩), h) := Vm.o_b2s cf base h x _ l hb.elems
theorem BR_imm (h : Hp) (f : Bool) (l : List UInt8) : BR h (.imm f none (l.map byteV)) l := .inl ⟨f, rfl⟩
theorem BR_nil (h : Hp) (f : Bool) : BR h (.imm f none []) [] := .inl ⟨f, rfl⟩
theorem SR_ref {h : Hp} {id n : Nat} {g : Option Nat} {vs : List V} (hg : h[id]? = some (.cells g vs)) (hn : vs.length = n) : SR h (.ref id [] g 0 n n) g vs :=
  .inr ⟨id, 0, n, vs, by rw [hn], hg, hn, by omega, by simp⟩
theorem BR_ref {h : Hp} {id n : Nat} {l : List UInt8} (hg : h[id]? = some (.cells none (l.map byteV))) (hn : l.length = n) : BR h (.ref id [] none 0 n n) l :=
  .inr ⟨id, 0, l, by rw [hn], hg, by omega, by simp⟩

/-- A part of a slice. -/
theorem SR.cut {h : Hp} {x : V} {g : Option Nat} {vs : List V} (hb : SR h x g vs) {l r : Nat} (h1 : l ≤ r) (h2 : r ≤ vs.length) : ∃ y, sliceV h g x l r = some y ∧ SR h y g ((vs.drop l).take (r - l)) := by
  rcases hb with ⟨f, rfl⟩ | ⟨id, off, tot, es, rfl, k2, k3, k4, k5⟩
  · exact ⟨_, by simp [sliceV, h1, h2]; rfl, .inl ⟨_, rfl⟩⟩
  · have hrow : rowAt h id [] tot = some es := by simp [rowAt, rowOf, k2, k3]
    by_cases hl : l = 0 ∨ l < r
    · refine ⟨.ref id [] g (off + l) (r - l) tot, by simp [sliceV, h1, h2, hrow, hl], .inr ⟨id, off + l, tot, es, ?_, k2, k3, ?_, ?_⟩⟩
      · have : ((vs.drop l).take (r - l)).length = r - l := by simp; omega
        rw [this]
      · have : ((vs.drop l).take (r - l)).length = r - l := by simp; omega
        rw [this]; omega
      · have : ((vs.drop l).take (r - l)).length = r - l := by simp; omega
        rw [this]
        conv => rhs; rw [← k5]
        rw [List.drop_take, List.drop_drop, List.take_take]
        congr 1
        omega
    · refine ⟨.imm false g [], by simp [sliceV, h1, h2, hrow, hl], .inl ⟨false, ?_⟩⟩
      have : r - l = 0 := by omega
      rw [this]; simp

theorem SR.o_len {cf : CF} {base : Nat} {h0 h : Hp} {x : V} {g : Option Nat} {vs : List V} (hb : SR h0 x g vs) : opV cf base h .len [x] = some (.s (.int .i64 vs.length), h) := Vm.o_len cf base h x _ hb.len
/-- Cuts, as operations. -/
theorem SR.hi {h : Hp} {x : V} {g : Option Nat} {vs : List V} (hb : SR h x g vs) {k : IntKind} {r : Nat} (hr : r ≤ vs.length) : ∃ y, (∀ cf base, opV cf base h (.slc g false true false) [x, .s (.int k r)] = some (y, h)) ∧ SR h y g (vs.take r) := by
  obtain ⟨y, h1, h2⟩ := hb.cut (Nat.zero_le r) hr
  refine ⟨y, fun cf base => ?_, by simpa using h2⟩
  have h3 := hb.len
  simp only [opV, opSlc, h3, splitBounds, natOf]
  simp [h1]
theorem SR.lo {h : Hp} {x : V} {g : Option Nat} {vs : List V} (hb : SR h x g vs) {k : IntKind} {l : Nat} (hr : l ≤ vs.length) : ∃ y, (∀ cf base, opV cf base h (.slc g true false false) [x, .s (.int k l)] = some (y, h)) ∧ SR h y g (vs.drop l) := by
  obtain ⟨y, h1, h2⟩ := hb.cut hr (Nat.le_refl _)
  refine ⟨y, fun cf base => ?_, by rw [List.take_of_length_le (by simp)] at h2; exact h2⟩
  have h3 := hb.len
  simp only [opV, opSlc, h3, splitBounds, natOf]
  simp [h1]
theorem BR.cut {h : Hp} {x : V} {l : List UInt8} (hb : BR h x l) {a r : Nat} (h1 : a ≤ r) (h2 : r ≤ l.length) : ∃ y, sliceV h none x a r = some y ∧ BR h y ((l.drop a).take (r - a)) := by
  have hlen : ((l.drop a).take (r - a)).length = r - a := by simp; omega
  rcases hb with ⟨f, rfl⟩ | ⟨id, off, bl, rfl, k2, k3, k4⟩
  · exact ⟨_, by simp [sliceV, h1, h2]; rfl, .inl ⟨_, by rw [List.map_take, List.map_drop]⟩⟩
  · have hrow : rowAt h id [] bl.length = some (bl.map byteV) := by simp [rowAt, rowOf, k2]
    by_cases hl : a = 0 ∨ a < r
    · refine ⟨.ref id [] none (off + a) (r - a) bl.length, by simp [sliceV, h1, h2, hrow, hl], .inr ⟨id, off + a, bl, by rw [hlen], k2, by omega, ?_⟩⟩
      rw [hlen]
      conv => rhs; rw [← k4]
      rw [List.drop_take, List.drop_drop, List.take_take]
      congr 1
      omega
    · refine ⟨.imm false none [], by simp [sliceV, h1, h2, hrow, hl], .inl ⟨false, ?_⟩⟩
      have : r - a = 0 := by omega
      rw [this]; simp
theorem BR.hi {h : Hp} {x : V} {l : List UInt8} (hb : BR h x l) {k : IntKind} {r : Nat} (hr : r ≤ l.length) : ∃ y, (∀ cf base, opV cf base h (.slc none false true false) [x, .s (.int k r)] = some (y, h)) ∧ BR h y (l.take r) := by
  obtain ⟨y, h1, h2⟩ := hb.cut (Nat.zero_le r) hr
  refine ⟨y, fun cf base => ?_, by simpa using h2⟩
  have h3 := hb.len
  simp only [opV, opSlc, h3, splitBounds, natOf]
  simp [h1]
theorem BR.lo {h : Hp} {x : V} {l : List UInt8} (hb : BR h x l) {k : IntKind} {r : Nat} (hr : r ≤ l.length) : ∃ y, (∀ cf base, opV cf base h (.slc none true false false) [x, .s (.int k r)] = some (y, h)) ∧ BR h y (l.drop r) := by
  obtain ⟨y, h1, h2⟩ := hb.cut hr (Nat.le_refl _)
  refine ⟨y, fun cf base => ?_, by rw [List.take_of_length_le (by simp)] at h2; exact h2⟩
  have h3 := hb.len
  simp only [opV, opSlc, h3, splitBounds, natOf]
  simp [h1]
/-- A copy of bytes. -/
def cloneV : List V → Hp → Option (V × Hp)
  | [x], h => match elems h x with
    | some (none, es) => if es = [] then some (.imm true none [], h) else if es.length ≤ 140737488355328 then some (.ref h.length [] none 0 es.length es.length, h ++ [.cells none es]) else none
    | _ => none
  | _, _ => none

theorem clone_okE {h : Hp} {x : V} {l : List UInt8} (he : elems h x = some (none, l.map byteV)) (hl : l.length ≤ 140737488355328) : ∃ v t, cloneV [x] h = some (v, h ++ t) ∧ BR (h ++ t) v l ∧ (v = .imm true none [] ∧ t = [] ∧ l = [] ∨ v = .ref h.length [] none 0 l.length l.length ∧ t = [.cells none (l.map byteV)]) := by
  cases l with
  | nil => exact ⟨.imm true none [], [], by simp [cloneV, he], BR_nil _ _, .inl ⟨rfl, rfl, rfl⟩⟩
  | cons b l =>
    refine ⟨.ref h.length [] none 0 (b :: l).length (b :: l).length, [.cells none ((b :: l).map byteV)], ?_, BR_ref (by simp) rfl, .inr ⟨rfl, rfl⟩⟩
    simp only [cloneV, he]
    rw [if_neg (by simp), if_pos (by simpa using hl)]
    simp
theorem clone_ok {h : Hp} {x : V} {l : List UInt8} (hb : BR h x l) (hl : l.length ≤ 140737488355328) : ∃ v t, cloneV [x] h = some (v, h ++ t) ∧ BR (h ++ t) v l ∧ (v = .imm true none [] ∧ t = [] ∧ l = [] ∨ v = .ref h.length [] none 0 l.length l.length ∧ t = [.cells none (l.map byteV)]) := clone_okE hb.elems hl
/-- What a copy of bytes is; the memory that it takes. -/
def cv (h : Hp) (l : List UInt8) : V := if l = [] then .imm true none [] else .ref h.length [] none 0 l.length l.length
def ct (l : List UInt8) : Hp := if l = [] then [] else [.cells none (l.map byteV)]
theorem clone_eqE {h : Hp} {x : V} {l : List UInt8} (he : elems h x = some (none, l.map byteV)) (hl : l.length ≤ 140737488355328) : cloneV [x] h = some (cv h l, h ++ ct l) := by
  obtain ⟨v, t, h1, _, h3⟩ := clone_okE he hl
  rw [h1]
  rcases h3 with ⟨rfl, rfl, rfl⟩ | ⟨rfl, rfl⟩
  · rfl
  · by_cases he : l = []
    · exfalso; subst he; simp [cloneV, he] at h1
    · simp [cv, ct, he]
theorem cv_frz (n : Nat) (h : Hp) (l : List UInt8) (hn : n ≤ h.length) : frzV n (h ++ ct l) (cv h l) = some (.imm false none (l.map byteV)) := by
  unfold cv ct
  split
  · rename_i he; subst he; rfl
  · exact frz_all n _ _ none _ _ hn (by rw [get_app0]; rfl) (by simp) (plain_bytes l)
/-! Appending. -/
section
variable {cf : CF} {base : Nat} {h : Hp} {g : Option Nat} {bytes : Nat} {y : V} {ys : List V}
theorem o_app_none {x : V} {n : Nat} {gy : Option Nat} (hy : source h y = some (gy, [])) (hl : lenV x = some n) : opV cf base h (.app g bytes) [x, y] = some (x, h) := by
  simp [o_app, hy, appendV, hl]
theorem o_app_nil (hy : source h y = some (g, ys)) (hne : ys ≠ []) (hb : ys.length * bytes ≤ 140737488355328) : opV cf base h (.app g bytes) [.imm true g [], y] = some (.ref h.length [] g 0 ys.length ys.length, h ++ [.cells g ys]) := by
  simp [o_app, hy, appendV, hne, hb]
theorem o_app_in {id off len : Nat} {es : List V} (hg : h[id]? = some (.cells g es)) (hy : source h y = some (g, ys)) (hne : ys ≠ []) (hm : ∀ y ∈ ys, mayPut base id y = true) (hr : off + len + ys.length ≤ es.length) :
    opV cf base h (.app g bytes) [.ref id [] g off len es.length, y] = some (.ref id [] g off (len + ys.length) es.length, h.set id (.cells g (es.take (off + len) ++ ys ++ es.drop (off + len + ys.length)))) := by
  have h1 : rowOf h id es.length = some (g, es) := by simp [rowOf, hg]
  have h2 : ys.all (mayPut base id) = true := by simpa [List.all_eq_true] using hm
  simp only [o_app, hy, Option.bind_some, appendV, hne, if_false, if_true, h1, h2, true_and, and_self, hr]
theorem o_app_grow {id : Nat} {es : List V} (hg : h[id]? = some (.cells g es)) (hy : source h y = some (g, ys)) (hne : ys ≠ []) (hm : ∀ y ∈ ys, mayPut base id y = true) (hb : (es.length + ys.length) * bytes ≤ 140737488355328) :
    opV cf base h (.app g bytes) [.ref id [] g 0 es.length es.length, y] = some (.ref id [] g 0 (es.length + ys.length) (es.length + ys.length), h.set id (.cells g (es ++ ys))) := by
  have h1 : rowOf h id es.length = some (g, es) := by simp [rowOf, hg]
  have h2 : ys.all (mayPut base id) = true := by simpa [List.all_eq_true] using hm
  have h3 : ¬ (0 + es.length + ys.length ≤ es.length) := by
    have : ys.length ≠ 0 := by simpa using hne
    omega
  simp only [o_app, hy, Option.bind_some, appendV, hne, if_false, if_true, h1, h2, true_and, and_self, h3, hb]
end

/-- A list that is grown: none yet, or the beginning of a block. -/
def LR (h : Hp) (g : Option Nat) (k : Nat) (x : V) (vs : List V) : Prop :=
  (x = .imm true g [] ∧ vs = []) ∨ ∃ es : List V, x = .ref k [] g 0 vs.length es.length ∧ h[k]? = some (.cells g es) ∧ es.take vs.length = vs ∧ vs.length ≤ es.length
theorem LR.sr {h : Hp} {g : Option Nat} {k : Nat} {x : V} {vs : List V} (hl : LR h g k x vs) : SR h x g vs := by
  rcases hl with ⟨rfl, rfl⟩ | ⟨es, rfl, h1, h2, h3⟩
  · exact .inl ⟨true, rfl⟩
  · exact .inr ⟨k, 0, es.length, es, rfl, h1, rfl, by omega, by simpa using h2⟩
theorem LR.at' {h h' : Hp} {g : Option Nat} {k : Nat} {x : V} {vs : List V} (hl : LR h g k x vs) (hk : ∀ b, h[k]? = some b → h'[k]? = some b) : LR h' g k x vs := by
  rcases hl with h1 | ⟨es, h0, h1, h2⟩
  · exact .inl h1
  · exact .inr ⟨es, h0, hk _ h1, h2⟩
/-- One more: in a block of its own, or behind the others. -/
theorem LR.push {h : Hp} {g : Option Nat} {k : Nat} {x : V} {vs : List V} (hl : LR h g k x vs) {base bytes : Nat} {y : V} {z : V} (hy : source h y = some (g, [z])) (hm : mayPut base k z = true) (hb : (vs.length + 1) * bytes ≤ 140737488355328) :
    (∀ cf, opV cf base h (.app g bytes) [x, y] = some (.ref h.length [] g 0 1 1, h ++ [.cells g [z]])) ∧ vs = [] ∧ x = .imm true g [] ∨
    ∃ es es', h[k]? = some (.cells g es) ∧ (∀ cf, opV cf base h (.app g bytes) [x, y] = some (.ref k [] g 0 (vs.length + 1) es'.length, h.set k (.cells g es'))) ∧ es'.take (vs.length + 1) = vs ++ [z] ∧ vs.length + 1 ≤ es'.length ∧ (∃ fs, es' = vs ++ z :: fs) := by
  rcases hl with ⟨rfl, rfl⟩ | ⟨es, rfl, h1, h2, h3⟩
  · exact .inl ⟨fun cf => by rw [o_app_nil hy (by simp) (by simpa using hb)]; rfl, rfl, rfl⟩
  · refine .inr ⟨es, ?_⟩
    by_cases hr : vs.length + 1 ≤ es.length
    · refine ⟨es.take vs.length ++ [z] ++ es.drop (vs.length + 1), h1, fun cf => ?_, ?_, ?_, ?_⟩
      · rw [o_app_in h1 hy (by simp) (by simpa using hm) (by simpa using hr)]
        simp only [List.length_append, List.length_take, List.length_drop, List.length_cons, List.length_nil, Nat.zero_add]
        rw [show min vs.length es.length + 1 + (es.length - (vs.length + 1)) = es.length by omega]
      · rw [h2]; exact List.take_left' (l₁ := vs ++ [z]) (by simp)
      · simp; omega
      · exact ⟨es.drop (vs.length + 1), by rw [h2]; simp⟩
    · have he : vs.length = es.length := by omega
      have hv : es = vs := by rw [← h2, List.take_of_length_le (by omega)]
      subst hv
      refine ⟨es ++ [z], h1, fun cf => ?_, List.take_of_length_le (by rw [List.length_append]; exact Nat.le_refl _), by rw [List.length_append]; exact Nat.le_refl _, ⟨[], rfl⟩⟩
      rw [o_app_grow h1 hy (by simp) (by simpa using hm) (by simpa using hb)]
      simp

theorem get_appL {l t : Hp} {n k : Nat} (hl : l.length = n) : (l ++ t)[n + k]? = t[k]? := by subst hl; exact get_app l t k
theorem get_appL0 {l t : Hp} {n : Nat} (hl : l.length = n) : (l ++ t)[n]? = t[0]? := by subst hl; exact get_app0 l t
theorem set_appL {l t : Hp} {n k : Nat} {b : Blk} (hl : l.length = n) : (l ++ t).set (n + k) b = l ++ t.set k b := by subst hl; exact set_app l t k b
theorem set_appL0 {l t : Hp} {n : Nat} {b : Blk} (hl : l.length = n) : (l ++ t).set n b = l ++ t.set 0 b := by subst hl; exact set_app0 l t b

/-! Bytes as numbers. -/
end Go.Vm
/- Arguments as plain data, by their types. -/
namespace Go.Vm
set_option linter.unusedVariables false

variable {P : Program} {n : Nat} {t e : TypeId} {v : V}
theorem tys_nil {xs : List V} (h : HasTys P n [] xs) : xs = [] := by
  cases xs with
  | nil => rfl
  | cons x xs => exact h.elim
/-! The rules, as one set. -/
attribute [go_sem] wp_seq wp_reg wp_regD wp_skip wp_ret wp_exit wp_block wp_cond wpG_nil wpG_cons wpD_nil wpD_cons wpS_some wpU_true wpU_false wpL_some GD.calm eff_mv indep_mv eff_pick indep_pick eff_bin indep_bin eff_eqa indep_eqa eff_eqs indep_eqs eff_s2a eff_apz eff_cap indep_cap eff_un indep_un eff_nck indep_nck eff_fa indep_fa eff_fld indep_fld eff_iaa indep_iaa eff_ias indep_ias eff_idx indep_idx eff_sidx indep_sidx eff_ld indep_ld eff_sto eff_box eff_alc eff_blds indep_blds eff_blda indep_blda eff_frz eff_mks eff_slc indep_slc eff_sla indep_sla eff_sls indep_sls eff_len indep_len eff_slen indep_slen eff_app eff_cpy eff_clr eff_i2i indep_i2i eff_b2s indep_b2s eff_r2s indep_r2s eff_mki indep_mki eff_tas indep_tas eff_ext indep_ext eff_min indep_min eff_max indep_max eff_rng eff_nxt eff_call eff_callv eff_mkf indep_mkf eff_nop indep_nop eff_fzp indep_fzp eff_callp indep_callp eff_bsi indep_bsi stepE_t stepE_f o_nop o_fzp o_callp callR_same o_bsi bsiR_some eff_bsl0 indep_bsl0 eff_bsl eff_s2b indep_s2b wpC_true wpC_false seqK_normal seqK_ret seqK_exit midK_normal midK_ret midK_exit stepK_normal stepK_ret stepK_exit blockK_normal blockK_ret blockK_exit stepE_none wantE_none wantE_some wantV_bool wantV_tup on_t on_c up_at put_some put_none e0_at o_mv o_pick o_call o_callv o_mkf o_not o_add o_sub o_mul o_and o_or o_xor o_eql o_neq o_lss o_leq o_gtr o_geq o_sadd o_seql o_sneq o_beql o_bneq o_peql00 o_peql10 o_pneq00 o_pneq10 o_fa o_faI o_iaa o_iaaI o_ias o_iasI o_idx o_sidx o_ld o_ldI o_sto o_box o_alc o_blds o_blda o_bsl o_frz o_mks o_tas o_rng o_nxt eqaR_some o_eqa faR_some iaaR_some iasR_some ldR_some stoR_some bslR_some frzQ_cells frzQ_lit bsxR_some o_bsx eff_apx eff_bsx nxtR_some node_eq nodeR_some nodeAt_nil nodeAt_st nodeAt_arr putAt_nil putAt_st putAt_arr store_eq storeR_some rowOf_eq rowR_some rowAt_nil rowAt_cons arrR_some putParts o_nck o_nckI o_nckF o_fld o_lenI o_lenR o_slen o_i2i o_mki o_ext o_min o_max o_s2bL o_bsl0 allOk okIn okAt_same retP_ret retP_normal retN_ret retN_normal retQ_ret retQ_normal retY_some retV_some retW_some retX_some resEs_nil resEs_t resEs_cell tupV_nil tupV_one tupV_two frz_s frz_tup frz_st frz_arr frz_iface frzA_nil frzA_cons frz_imm frz_plain plain_s plain_imm plain_st plain_arr plain_tup plain_iface plain_nil plain_cons plain_bytes opLd_ptr opLd_iptr ty_s ty_ptr ty_ref ty_imm ty_iptr ty_iface ty_fn ty_st ty_arr solid_s solid_ptr solid_ref solid_imm solid_iptr solid_iface solid_fn solid_st solid_arr take_app get_app0 set_app0 mayPut
attribute [go_sem] List.map_cons List.map_nil List.getD_cons_zero List.getD_cons_succ List.getD_nil List.zip_cons_cons List.zip_nil_left List.zip_nil_right List.set_cons_zero List.set_cons_succ Bool.false_eq_true Bool.true_eq_false if_true if_false ite_true ite_false Option.map_some Option.bind_some List.getElem?_cons_zero List.getElem?_cons_succ Bool.not_true Bool.not_false beq_self_eq_true Bool.true_beq Bool.false_beq decide_true decide_false List.drop_zero List.drop_succ_cons List.take_succ_cons List.take_zero List.nil_append List.cons_append and_true true_and Bool.and_self Int.toNat_natCast List.getElem?_append_left List.set_append_left List.getElem?_set_self List.getElem?_set_ne ne_eq not_false_eq_true List.length_map List.getElem?_map Nat.zero_add List.length_set List.set_set Option.isSome_some Option.isSome_none Option.getD_some Option.getD_none or_true true_or or_self or_false false_or and_self List.length_cons List.length_nil List.take_length Bool.or_true Bool.true_or Bool.or_false Bool.false_or Bool.and_true Bool.true_and Bool.and_false Bool.false_and Prod.mk.injEq Option.some.injEq
end Go.Vm
/- A call whose result is never written to: its memory is given back as a list. -/
namespace Go.Vm
set_option linter.unusedVariables false

/-- What a function gives that is known otherwise, if its result is never written to. -/
def frzF (r : Option (V × Hp)) (h : Hp) : Option (V × Hp) :=
  match r with
  | some (v, h') => match frzV h.length h' v with
    | some v' => some (v', h'.take h.length)
    | none => none
  | none => none

theorem frzF_some {r : Option (V × Hp)} {h : Hp} {v : V} {h1 : Hp} (hr : frzF r h = some (v, h1)) : ∃ v' h', r = some (v', h') ∧ frzV h.length h' v' = some v ∧ h1 = h'.take h.length := by
  unfold frzF at hr
  split at hr
  · split at hr
    · cases hr; exact ⟨_, _, rfl, by assumption, rfl⟩
    · cases hr
  · cases hr

theorem frzF_kp {r : Option (V × Hp)} {h : Hp} {v : V} {h1 : Hp} (hr : frzF r h = some (v, h1)) (hk : ∀ v' h', r = some (v', h') → ∀ base, Kp base h h') (base : Nat) : Kp base h h1 := by
  obtain ⟨v', h', h2, _, rfl⟩ := frzF_some hr
  intro b hb hl hlow
  obtain ⟨a1, a2⟩ := hk v' h' h2 b b (Nat.le_refl _) hl hlow
  refine ⟨fun id hid k hk => ?_, by simp [a2]⟩
  exact a1 id hid k (by rw [List.getElem?_take] at hk; split at hk; exact hk; cases hk)

theorem frzF_calls {P : Program} (hL : (layOf P).OK) {c : Ctx} {w : World} {f : Nat} {us : List Value} {v v' : V} {h h' : Hp} (hs : Sim (layOf P) c h w) (hk : Kp h.length h h') (hf : frzV h.length h' v = some v') (hc : CallRes P (layOf P) c w f us v h') : CallRes P (layOf P) c w f us v' (h'.take h.length) := by
  refine Calls.mono hc ?_
  rintro e w' ⟨u, c1, rfl, ⟨us1, hu3, hu4⟩, p2, p3, p4⟩
  have hn : h.length ≤ c1.n := by rw [← hs.n]; exact p3.n
  obtain ⟨f1, f2, f3, f4⟩ := frz_ok hL p2 hn _ _ hf
  refine ⟨u, c1.cut h.length w', rfl, ⟨us1, f4 _ hu3, f3 _ _ hu4⟩, p2.cut hn (hk _ (Nat.le_refl _) (Nat.le_refl _) hs.low).1, ?_, p4⟩
  have := Ctx.le_cut (w := w') p3
  rw [hs.n] at this
  exact this

/-- A copy of bytes, never written to. -/
def cloneF (vs : List V) (h : Hp) : Option (V × Hp) := frzF (cloneV vs h) h
theorem cloneF_eqE {h : Hp} {x : V} {l : List UInt8} (he : elems h x = some (none, l.map byteV)) (hl : l.length ≤ 140737488355328) : cloneF [x] h = some (.imm false none (l.map byteV), h) := by
  rw [cloneF, clone_eqE he hl]
  simp only [frzF, cv_frz h.length h l (Nat.le_refl _), List.take_left]
theorem cloneF_eq {h : Hp} {x : V} {l : List UInt8} (hb : BR h x l) (hl : l.length ≤ 140737488355328) : cloneF [x] h = some (.imm false none (l.map byteV), h) := cloneF_eqE hb.elems hl
end Go.Vm
/- Runs through code, parting at each test. -/
namespace Go.Vm
set_option linter.unusedVariables false
set_option linter.unusedSimpArgs false
variable {cf : CF} {base : Nat}
/-! Slices of a call's own memory, handed back. -/
def frzW (n : Nat) (r : Option (Option Nat × List V)) (g : Option Nat) (off len tot : Nat) : Option V :=
  match r with
  | some (g', es) => if g' = g ∧ off + len ≤ tot ∧ V.low.all n ((es.drop off).take len) = true then some (.imm false g ((es.drop off).take len)) else none
  | none => none
theorem frz_refE (n : Nat) (h : Hp) (id : Nat) (g : Option Nat) (off len tot : Nat) : frzV n h (.ref id [] g off len tot) = if id < n then some (.ref id [] g off len tot) else frzW n (rowOf h id tot) g off len tot := by
  simp only [frzV]; split <;> rfl
theorem low_plains (n : Nat) {vs : List V} (hp : V.plain.all vs = true) : V.low.all n vs = true := by
  rw [plain_all_iff] at hp
  induction vs with
  | nil => rfl
  | cons v vs ih => simp only [V.low.all, low_plain n v (hp v (by simp)), ih (fun x hx => hp x (by simp [hx])), Bool.and_self]
theorem frzW_bytes (n : Nat) (l : List UInt8) : frzW n (some (none, l.map byteV)) none 0 l.length l.length = some (.imm false none (l.map byteV)) := by
  have h1 : (l.map byteV).take l.length = l.map byteV := List.take_of_length_le (by simp)
  have h2 : V.low.all n (l.map byteV) = true := low_plains n (plain_bytes l)
  simp [frzW, h1, h2]
theorem lt_self_add (n k : Nat) : (n + k < n) = False := by simp
theorem lt_self (n : Nat) : (n < n) = False := by simp
theorem app_none {cf : CF} {base : Nat} {h : Hp} {f : Bool} {g : Option Nat} {n : Nat} : opV cf base h (.app g n) [.imm true g [], .imm f g []] = some (.imm true g [], h) := o_app_none (n := 0) rfl rfl
theorem bslR_nil (g : Option Nat) (h : Hp) : bslR (some []) g h = some (.imm true g [], h) := by simp [bslR]
theorem byteV_ty (b : UInt8) : (byteV b).ty = none := rfl
theorem byteV_so (b : UInt8) : (byteV b).solid = true := rfl
attribute [go_sem] bslR_nil byteV_ty byteV_so frz_refE frzW_bytes lt_self_add lt_self app_none
/-- A byte of a number. -/
def bt (n : Int) : UInt8 := UInt8.ofNat (n % 256).toNat
/-- One element put into a row. -/
def insertV (g : Option Nat) (by_ : Nat) : List V → Hp → Option (V × Hp)
  | [x, .s (.int .i64 i), .ref idy [] gy 0 1 1], h => match rowOf h idy 1 with
    | some (gy', [e]) =>
      if gy = g ∧ gy' = g ∧ e.ground = true then
        match x with
        | .imm true gx [] => if gx = g ∧ i = 0 then some (.ref h.length [] g 0 1 1, h ++ [.cells g [e]]) else none
        | .ref id [] gx 0 n m => match rowOf h id m with
          | some (gx', es) => if gx = g ∧ gx' = g ∧ n = m ∧ id ≠ idy ∧ 0 ≤ i ∧ i ≤ n ∧ (n + 1) * by_ ≤ 140737488355328 then some (.ref id [] g 0 (n + 1) (n + 1), h.set id (.cells g (es.take i.toNat ++ [e] ++ es.drop i.toNat))) else none
          | none => none
        | _ => none
      else none
    | _ => none
  | _, _ => none

/-- Bytes held against bytes. -/
def cmpF : List V → Hp → Option (V × Hp)
  | [x, y], h => match elems h x, elems h y with
    | some (_, a), some (_, b) => match bytesOf a, bytesOf b with
      | some l, some m => some (.s (.int .i64 (Lib.compareBytes l m)), h)
      | _, _ => none
    | _, _ => none
  | _, _ => none
/-! Slices of arrays; what slices read as. -/
def slaR (n : Option V) (t id : Nat) (path : List Nat) (g : Option Nat) (tot : Nat) (h : Hp) : Option (V × Hp) :=
  match n with
  | some (.arr t' es) => if t' = t then some (.ref id path g 0 es.length tot, h) else none
  | _ => none
theorem o_sla0 {cf : CF} {base : Nat} {h : Hp} (t : Nat) (g : Option Nat) (id : Nat) (p : List Nat) (tot : Nat) : opV cf base h (.sla t g false false) [.ptr id p tot] = slaR (node h id p tot) t id p g tot h := by
  simp only [opV, opSla, splitBounds, slaR]
  cases node h id p tot with
  | none => rfl
  | some v => cases v <;> simp [natOf]
theorem slaR_some (t' : Nat) (es : List V) (t id : Nat) (path : List Nat) (g : Option Nat) (tot : Nat) (h : Hp) : slaR (some (.arr t' es)) t id path g tot h = if t' = t then some (.ref id path g 0 es.length tot, h) else none := rfl
theorem o_slaI {cf : CF} {base : Nat} {h : Hp} (t : Nat) (g : Option Nat) (es : List V) : opV cf base h (.sla t g false false) [.iptr (.arr t es)] = some (.imm true g es, h) := by
  simp [opV, opSla, splitBounds, natOf]
def elR (r : Option (List V)) (g : Option Nat) (off len : Nat) : Option (Option Nat × List V) := r.map fun es => (g, (es.drop off).take len)
theorem elR_some (es : List V) (g : Option Nat) (off len : Nat) : elR (some es) g off len = some (g, (es.drop off).take len) := rfl
theorem elems_refR (h : Hp) (id : Nat) (path : List Nat) (g : Option Nat) (off len tot : Nat) : elems h (.ref id path g off len tot) = elR (rowAt h id path tot) g off len := rfl
theorem elems_immR (h : Hp) (f : Bool) (g : Option Nat) (es : List V) : elems h (.imm f g es) = some (g, es) := rfl
theorem take_map_len {α β : Type} (f : α → β) (l : List α) : (l.map f).take l.length = l.map f := List.take_of_length_le (by simp)
def cmpR (a b : Option (Option Nat × List V)) (h : Hp) : Option (V × Hp) :=
  match a, b with
  | some (_, a), some (_, b) => match bytesOf a, bytesOf b with
    | some l, some m => some (.s (.int .i64 (Lib.compareBytes l m)), h)
    | _, _ => none
  | _, _ => none
theorem cmpR_bytes (g g' : Option Nat) (l m : List UInt8) (h : Hp) : cmpR (some (g, l.map byteV)) (some (g', m.map byteV)) h = some (.s (.int .i64 (Lib.compareBytes l m)), h) := by
  simp only [cmpR, bytesOf_map]
def b2sR (a : Option (Option Nat × List V)) (h : Hp) : Option (V × Hp) := a.bind fun r => (bytesOf r.2).bind fun l => okI (.string ⟨l.toArray⟩) h
theorem b2sR_bytes (g : Option Nat) (l : List UInt8) (h : Hp) : b2sR (some (g, l.map byteV)) h = some (.s (.string ⟨l.toArray⟩), h) := by
  simp [b2sR, bytesOf_map, okI]
attribute [go_sem] o_sla0 slaR_some o_slaI elR_some elems_refR elems_immR take_map_len cmpR_bytes b2sR_bytes
/-- Where an element of a slice lies. -/
def eltP (x : V) (i : Nat) : V :=
  match x with
  | .ref id _ _ off _ tot => .ptr id [off + i] tot
  | .imm _ _ es => .iptr (es.getD i .top)
  | _ => .top
theorem SR.get {h : Hp} {x : V} {g : Option Nat} {vs : List V} (hb : SR h x g vs) {i : Nat} {v : V} (hi : vs[i]? = some v) : (∃ f, x = .imm f g vs) ∨ ∃ id off tot es, x = .ref id [] g off vs.length tot ∧ h[id]? = some (.cells g es) ∧ es.length = tot ∧ off + vs.length ≤ tot ∧ es[off + i]? = some v := by
  rcases hb with h1 | ⟨id, off, tot, es, rfl, h2, h3, h4, h5⟩
  · exact .inl h1
  · refine .inr ⟨id, off, tot, es, rfl, h2, h3, h4, ?_⟩
    have hl := (List.getElem?_eq_some_iff.1 hi).1
    rw [← h5, List.getElem?_take, if_pos hl, List.getElem?_drop] at hi
    exact hi
theorem SR.o_ias {cf : CF} {base : Nat} {h : Hp} {x : V} {g : Option Nat} {vs : List V} (hb : SR h x g vs) {k : IntKind} {i : Nat} (hi : i < vs.length) : opV cf base h (.ias g) [x, .s (.int k i)] = some (eltP x i, h) := by
  have hv := List.getElem?_eq_getElem hi
  have h0 : (0 : Int) ≤ i := by omega
  rcases hb.get hv with ⟨f, rfl⟩ | ⟨id, off, tot, es, rfl, h1, h2, h3, h4⟩
  · rw [o_iasI, if_pos h0, Int.toNat_natCast, hv]
    simp [eltP, List.getD, hv]
  · have h5 : (i : Int) < vs.length := by omega
    simp only [go_sem, h1, h2, if_true, h0, h5, eltP, Int.toNat_natCast, Option.map_some, true_and, and_true, and_self]
    have : off + i < es.length := by omega
    simp [this]
    all_goals omega
theorem SR.o_ld {cf : CF} {base : Nat} {h : Hp} {x : V} {g : Option Nat} {vs : List V} (hb : SR h x g vs) {i : Nat} {v : V} (hi : vs[i]? = some v) (hv : v.ty = g) : opV cf base h (.ld g) [eltP x i] = some (v, h) := by
  rcases hb.get hi with ⟨f, rfl⟩ | ⟨id, off, tot, es, rfl, h1, h2, h3, h4⟩
  · simp only [eltP, List.getD, hi, Option.getD_some, go_sem, hv, if_true]
  · simp only [eltP, go_sem, h1, h2, if_true, h4, hv]
theorem SR.app {h : Hp} {x : V} {g : Option Nat} {vs : List V} (hb : SR h x g vs) (t : Hp) : SR (h ++ t) x g vs := by
  rcases hb with h1 | ⟨id, off, tot, es, h1, h2, h3⟩
  · exact .inl h1
  · exact .inr ⟨id, off, tot, es, h1, get_old h2 t, h3⟩
/-! Rows that grow. -/
theorem SR.fw {h H : Hp} {x : V} {g : Option Nat} {vs : List V} (hb : SR h x g vs) (f : Fw [] h H) : SR H x g vs := by
  rcases hb with h1 | ⟨id, off, tot, es, h1, h2, h3⟩
  · exact .inl h1
  · exact .inr ⟨id, off, tot, es, h1, f.old _ _ h2 (by simp), h3⟩
theorem LR.ty {h : Hp} {g : Option Nat} {k : Nat} {x : V} {vs : List V} (hl : LR h g k x vs) : x.ty = none ∧ x.solid = true := by
  rcases hl with ⟨rfl, _⟩ | ⟨es, rfl, _⟩ <;> exact ⟨rfl, rfl⟩
theorem LR.app1 {h H T : Hp} {g : Option Nat} {k : Nat} {x : V} {vs : List V} {idy bytes : Nat} {z : V} (hl : LR H g k x vs) (hk : h.length ≤ k) (f : Fw [] h H) (hy : (H ++ T)[idy]? = some (.cells g [z])) (hz : z.ground = true) (hb : (vs.length + 1) * bytes ≤ 140737488355328) :
    ∃ x' H' k', (∀ cf base, opV cf base (H ++ T) (.app g bytes) [x, .ref idy [] g 0 1 1] = some (x', H')) ∧ LR H' g k' x' (vs ++ [z]) ∧ Fw [] h H' ∧ h.length ≤ k' := by
  have hlT : LR (H ++ T) g k x vs := hl.at' fun b hb => get_old hb T
  have hs : source (H ++ T) (.ref idy [] g 0 1 1) = some (g, [z]) := (SR_ref hy rfl).src
  have hm : ∀ base, mayPut base k z = true := fun base => by simp [mayPut, hz]
  have fT : Fw [] h (H ++ T) := f.trans (Fw.app _ _ _)
  rcases hl with ⟨rfl, rfl⟩ | ⟨es, rfl, h1, h2, h3⟩
  · refine ⟨_, _, (H ++ T).length, fun cf base => by rw [o_app_nil hs (by simp) (by simpa using hb)]; rfl, .inr ⟨[z], rfl, get_app0 _ _, rfl, Nat.le_refl _⟩, fT.trans (Fw.app _ _ _), fT.len⟩
  · have hkT := get_old h1 T
    by_cases hr : vs.length + 1 ≤ es.length
    · refine ⟨.ref k [] g 0 (vs.length + 1) es.length, (H ++ T).set k (.cells g (es.take vs.length ++ [z] ++ es.drop (vs.length + 1))), k, fun cf base => ?_, .inr ⟨es.take vs.length ++ [z] ++ es.drop (vs.length + 1), ?_, set_get hkT, ?_, ?_⟩, fT.set_new hk _, hk⟩
      · rw [o_app_in hkT hs (by simp) (by simpa using hm base) (by simpa using hr)]
        simp
      · have : (es.take vs.length ++ [z] ++ es.drop (vs.length + 1)).length = es.length := by simp; omega
        rw [this, List.length_append]; rfl
      · rw [List.length_append, h2]; exact List.take_left' (l₁ := vs ++ [z]) (by simp)
      · simp; omega
    · have he : vs.length = es.length := by omega
      have hv : es = vs := by rw [← h2, List.take_of_length_le (by omega)]
      subst hv
      refine ⟨.ref k [] g 0 (es.length + 1) (es.length + 1), (H ++ T).set k (.cells g (es ++ [z])), k, fun cf base => ?_, .inr ⟨es ++ [z], by simp, set_get hkT, List.take_of_length_le (by simp), by simp⟩, fT.set_new hk _, hk⟩
      rw [o_app_grow hkT hs (by simp) (by simpa using hm base) (by simpa using hb)]
      rfl
theorem LR.frz {H : Hp} {g : Option Nat} {k n : Nat} {x : V} {vs : List V} (hl : LR H g k x vs) (hk : n ≤ k) (hp : V.plain.all vs = true) : frzV n H x = some (.imm false g vs) := by
  rcases hl with ⟨rfl, rfl⟩ | ⟨es, rfl, h1, h2, h3⟩
  · rfl
  · have h4 : rowOf H k es.length = some (g, es) := by simp [rowOf, h1]
    have h5 : ¬ k < n := by omega
    simp only [frz_refE, h5, if_false, h4, frzW, List.drop_zero, h2, Nat.zero_add, h3, low_plains n hp, and_self, if_true]
/-- Where a field of an element lies. -/
def fldP (x : V) (i f : Nat) : V :=
  match x with
  | .ref id _ _ off _ tot => .ptr id [off + i, f] tot
  | .imm _ _ es => match es.getD i .top with
    | .st _ fs => .iptr (fs.getD f .top)
    | _ => .top
  | _ => .top
theorem SR.o_fa {cf : CF} {base : Nat} {h : Hp} {x : V} {g : Option Nat} {vs : List V} (hb : SR h x g vs) {i t f : Nat} {fs : List V} (hi : vs[i]? = some (.st t fs)) (hf : f < fs.length) : opV cf base h (.fa t f) [eltP x i] = some (fldP x i f, h) := by
  have hv := List.getElem?_eq_getElem hf
  rcases hb.get hi with ⟨f', rfl⟩ | ⟨id, off, tot, es, rfl, h1, h2, h3, h4⟩
  · simp only [eltP, fldP, List.getD, hi, Option.getD_some, go_sem, hv, Option.map_some]
  · simp only [eltP, fldP, go_sem, h1, h2, if_true, h4, hf]
    try simp [hf]
def slP (x : V) (i f : Nat) (g : Option Nat) (n : Nat) : V :=
  match x with
  | .ref id _ _ off _ tot => .ref id [off + i, f] g 0 n tot
  | .imm _ _ es => match es.getD i .top with
    | .st _ fs => match fs.getD f .top with
      | .arr _ es => .imm true g es
      | _ => .top
    | _ => .top
  | _ => .top
/-- A row that has just these. -/
def XR (h : Hp) (g : Option Nat) (k : Nat) (x : V) (vs : List V) : Prop := (x = .imm true g [] ∧ vs = []) ∨ (x = .ref k [] g 0 vs.length vs.length ∧ h[k]? = some (.cells g vs))
theorem XR.ty {h : Hp} {g : Option Nat} {k : Nat} {x : V} {vs : List V} (hl : XR h g k x vs) : x.ty = none ∧ x.solid = true := by
  rcases hl with ⟨rfl, _⟩ | ⟨rfl, _⟩ <;> exact ⟨rfl, rfl⟩
theorem XR.app1 {h H T : Hp} {g : Option Nat} {k : Nat} {x : V} {vs : List V} {idy bytes : Nat} {z : V} (hl : XR H g k x vs) (hk : h.length ≤ k) (f : Fw [] h H) (hy : (H ++ T)[idy]? = some (.cells g [z])) (hz : z.ground = true) (hb : (vs.length + 1) * bytes ≤ 140737488355328) :
    ∃ x' H' k', (∀ cf base, opV cf base (H ++ T) (.app g bytes) [x, .ref idy [] g 0 1 1] = some (x', H')) ∧ XR H' g k' x' (vs ++ [z]) ∧ Fw [] h H' ∧ (k' = k ∨ H.length + T.length ≤ k') ∧ (∀ j b, j ≠ k → (H ++ T)[j]? = some b → H'[j]? = some b) := by
  have hs : source (H ++ T) (.ref idy [] g 0 1 1) = some (g, [z]) := (SR_ref hy rfl).src
  have hm : ∀ base, mayPut base k z = true := fun base => by simp [mayPut, hz]
  have fT : Fw [] h (H ++ T) := f.trans (Fw.app _ _ _)
  rcases hl with ⟨rfl, rfl⟩ | ⟨rfl, h1⟩
  · exact ⟨_, _, (H ++ T).length, fun cf base => by rw [o_app_nil hs (by simp) (by simpa using hb)]; rfl, .inr ⟨rfl, get_app0 _ _⟩, fT.trans (Fw.app _ _ _), .inr (by simp), fun j b _ hj => get_old hj _⟩
  · have hkT := get_old h1 T
    refine ⟨.ref k [] g 0 (vs.length + 1) (vs.length + 1), (H ++ T).set k (.cells g (vs ++ [z])), k, fun cf base => ?_, .inr ⟨by simp, set_get hkT⟩, fT.set_new hk _, .inl rfl, fun j b hj hb' => by rw [List.getElem?_set_ne (Ne.symm hj)]; exact hb'⟩
    · rw [o_app_grow hkT hs (by simp) (by simpa using hm base) (by simpa using hb)]
      rfl
end Go.Vm
/- Rows that one variable has alone: how they grow. -/
namespace Go.Vm
/-! Short forms of the printed code. -/
/-- Zeros. -/
def zero16 : List UInt8 := [0, 0, 0, 0, 0, 0, 0, 0, 0, 0, 0, 0, 0, 0, 0, 0]
def zero4 : List UInt8 := [0, 0, 0, 0]
abbrev z16 (t : Nat) : V := .arr t (zero16.map byteV)
abbrev z4 (t : Nat) : V := .arr t (zero4.map byteV)
abbrev ga (d : Nat) (o : O) (xs : List X) : G := ⟨some d, o, xs, none⟩
abbrev gm (d s : Nat) : G := ⟨some d, .mv, [.t s], none⟩
abbrev gn (o : O) (xs : List X) : G := ⟨none, o, xs, none⟩
abbrev gw (t : Nat) (b : Bool) (d : Nat) (o : O) (xs : List X) : G := ⟨some d, o, xs, some (t, b)⟩
abbrev gl (l h : Nat) (g : G) : GD := ⟨g, l, h⟩
abbrev kc (n : Int) : X := .c (.s (.int .i64 n))
abbrev kb (b : Bool) : X := .c (.s (.bool b))
abbrev ki : V := .s (.int .i64 0)
abbrev ku : V := .s (.int .u64 0)
abbrev kx : V := .imm false none []
set_option linter.unusedVariables false
set_option linter.unusedSimpArgs false
theorem XR.set {h : Hp} {g : Option Nat} {k j : Nat} {x : V} {vs : List V} (hl : XR h g k x vs) (hj : j ≠ k) (b : Blk) : XR (h.set j b) g k x vs := by
  rcases hl with h1 | ⟨h1, h2⟩
  · exact .inl h1
  · exact .inr ⟨h1, by rw [List.getElem?_set_ne hj]; exact h2⟩
theorem XR.BR {h : Hp} {k : Nat} {x : V} {l : List UInt8} (hl : XR h none k x (l.map byteV)) : BR h x l := by
  rcases hl with ⟨rfl, h0⟩ | ⟨rfl, h0⟩
  · have : l = [] := by simpa using h0
    subst this; exact BR_nil _ _
  · exact BR_ref h0 (by simp)
theorem XR.SR {h : Hp} {g : Option Nat} {k : Nat} {x : V} {vs : List V} (hl : XR h g k x vs) : SR h x g vs := by
  rcases hl with ⟨rfl, rfl⟩ | ⟨rfl, h1⟩
  · exact .inl ⟨_, rfl⟩
  · exact .inr ⟨k, 0, vs.length, vs, rfl, h1, rfl, by simp, by simp⟩
theorem XR.mono {h H : Hp} {g : Option Nat} {k : Nat} {x : V} {vs : List V} (hl : XR h g k x vs) (hk : ∀ b, h[k]? = some b → H[k]? = some b) : XR H g k x vs := by
  rcases hl with h1 | ⟨h1, h2⟩
  · exact .inl h1
  · exact .inr ⟨h1, hk _ h2⟩
theorem XR.nil (h : Hp) (g : Option Nat) (k : Nat) : XR h g k (.imm true g []) [] := .inl ⟨rfl, rfl⟩
theorem XR.frz {H : Hp} {g : Option Nat} {k n : Nat} {x : V} {vs : List V} (hl : XR H g k x vs) (hk : n ≤ k) (hp : V.plain.all vs = true) : frzV n H x = some (.imm false g vs) := by
  rcases hl with ⟨rfl, rfl⟩ | ⟨rfl, h1⟩
  · exact frz_imm n H true g [] rfl
  · exact frz_all n H k g _ vs hk h1 rfl hp
/-- More behind a row: what reads as these. -/
theorem XR.appL {n : Nat} {H : Hp} {g : Option Nat} {k : Nat} {x y : V} {vs ys : List V} {bytes : Nat} (xr : XR H g k x vs) (hk : n ≤ k) (hm : n ≤ H.length) (hs : source H y = some (g, ys)) (hz : ∀ z ∈ ys, z.ground = true) (hb : (vs.length + ys.length) * bytes ≤ 140737488355328) :
    ∃ x' H' k', (∀ cf base, opV cf base H (.app g bytes) [x, y] = some (x', H')) ∧ XR H' g k' x' (vs ++ ys) ∧ n ≤ k' ∧ n ≤ H'.length ∧ (k' = k ∨ H.length ≤ k') ∧ H.length ≤ H'.length ∧ (∀ j b, j ≠ k → H[j]? = some b → H'[j]? = some b) := by
  by_cases hne : ys = []
  · subst hne
    refine ⟨x, H, k, fun cf base => o_app_none hs xr.SR.len, by simpa using xr, hk, hm, .inl rfl, Nat.le_refl _, fun _ _ _ h => h⟩
  · have hma : ∀ base, ∀ z ∈ ys, mayPut base k z = true := fun base z h => by simp [mayPut, hz z h]
    rcases xr with ⟨rfl, rfl⟩ | ⟨rfl, h1⟩
    · exact ⟨_, H ++ [.cells g ys], H.length, fun cf base => o_app_nil hs hne (by simpa using hb), .inr ⟨rfl, get_app0 _ _⟩, hm, by simp; omega, .inr (Nat.le_refl _), by simp, fun j b _ hj => get_old hj _⟩
    · refine ⟨_, H.set k (.cells g (vs ++ ys)), k, fun cf base => o_app_grow h1 hs hne (hma base) hb, .inr ⟨by simp, set_get h1⟩, hk, by simpa using hm, .inl rfl, by simp, fun j b hj hb' => by rw [List.getElem?_set_ne (Ne.symm hj)]; exact hb'⟩
end Go.Vm
/- Cuts of slices, as they are. -/
namespace Go.Vm
set_option linter.unusedVariables false
set_option linter.unusedSimpArgs false
/-- What a cut of a slice is. -/
def cutP (x : V) (g : Option Nat) (l r : Nat) : V :=
  match x with
  | .imm full _ es => .imm (full && r == es.length) g ((es.drop l).take (r - l))
  | .ref id path _ off _ tot => if l = 0 ∨ l < r then .ref id path g (off + l) (r - l) tot else .imm false g []
  | x => x
theorem SR.cutP {h : Hp} {x : V} {g : Option Nat} {vs : List V} (hb : SR h x g vs) {l r : Nat} (h1 : l ≤ r) (h2 : r ≤ vs.length) : sliceV h g x l r = some (cutP x g l r) ∧ SR h (Vm.cutP x g l r) g ((vs.drop l).take (r - l)) := by
  obtain ⟨y, e, hy⟩ := hb.cut h1 h2
  suffices hh : sliceV h g x l r = some (Vm.cutP x g l r) by
    rw [e] at hh; cases hh; exact ⟨e, hy⟩
  rcases hb with ⟨f, rfl⟩ | ⟨id, off, tot, es, rfl, k2, k3, k4, k5⟩
  · simp [sliceV, Vm.cutP, h1, h2]
  · have hrow : rowAt h id [] tot = some es := by simp [rowAt, rowOf, k2, k3]
    by_cases hl : l = 0 ∨ l < r
    · simp [sliceV, Vm.cutP, h1, h2, hrow, hl]
    · simp [sliceV, Vm.cutP, h1, h2, hrow, hl]
theorem SR.o_hi {cf : CF} {base : Nat} {h : Hp} {x : V} {g : Option Nat} {vs : List V} (hb : SR h x g vs) {k : IntKind} {r : Nat} (hr : r ≤ vs.length) : opV cf base h (.slc g false true false) [x, .s (.int k r)] = some (Vm.cutP x g 0 r, h) := by
  have h3 := hb.len
  simp only [opV, opSlc, h3, splitBounds, natOf]
  simp [(hb.cutP (Nat.zero_le r) hr).1]
theorem SR.o_lo {cf : CF} {base : Nat} {h : Hp} {x : V} {g : Option Nat} {vs : List V} (hb : SR h x g vs) {k : IntKind} {l : Nat} (hr : l ≤ vs.length) : opV cf base h (.slc g true false false) [x, .s (.int k l)] = some (Vm.cutP x g l vs.length, h) := by
  have h3 := hb.len
  simp only [opV, opSlc, h3, splitBounds, natOf]
  simp [(hb.cutP hr (Nat.le_refl _)).1]
end Go.Vm
