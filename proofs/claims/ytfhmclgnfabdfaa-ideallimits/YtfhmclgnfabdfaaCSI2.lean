/- slices.Insert of one vault: Go's own is what is said of it. Conditions: none. -/
import Derived.Test.YtfhmclgnfabdfaaCSI1
import Derived.Test.YtfhmclgnfabdfaaCVc
import Derived.Test.YtfhmclgnfabdfaaCT
import Derived.Test.YtfhmclgnfabdfaaCMK0
namespace Go.Proofs.Ytfhmclgnfabdfaa
open Go Go.Vm Go.Proofs Go.Cl
set_option linter.unusedVariables false
set_option linter.unusedSimpArgs false
set_option maxRecDepth 100000
theorem csz_V : (layOf Try.prog).csz (some 29) = 42 := by kernel_rfl
theorem tag_V : tagOf Try.prog 30 = some 29 := by kernel_rfl
theorem TG_V : TG Try.prog (layOf Try.prog) 30 (some 29) := by
  have := tgB_TG (P := Try.prog) (t := 30) (by kernel_rfl)
  rw [tag_V] at this; exact this
theorem shape_of_heap {w : World} {b : Nat} {us : Array Value} {ty : TypeId} {fz : Nat × Nat} (hg : w.heap[b]? = some (.cells us ty fz)) : w.shape? b = some (ty, us.size) := by
  simp only [World.shape?, hg]
theorem unfz_of_heap {w : World} {b j : Nat} {us : Array Value} {ty : TypeId} (hg : w.heap[b]? = some (.cells us ty (0, 0))) : w.frozen? ⟨b, j, none⟩ = false := by
  simp only [World.frozen?, hg]; simp

theorem take_lay2 {row a v d : List Value} {o p q : Nat} (h1 : o + v.length = p) (h2 : p + d.length = q) (hl : q ≤ row.length) (ha : row.take o = a) : (lay (lay row o v) p d).take q = a ++ v ++ d := by
  have h3 : (lay row o v).length = row.length := length_lay _ _ _ (by omega)
  rw [size_take_lay (by omega) h2, size_take_lay (by omega) h1, ha]

/-- One element, a row that has room, or none: ahead of the end. -/
theorem insert_mid (hL : (layOf Try.prog).OK) {c : Ctx} {w : World} {h : Hp} (hs : Sim (layOf Try.prog) c h w) {id idy n i : Nat} {es : List V} {e : V} {ux uy : Value}
    (hx : RV (layOf Try.prog) c (.ref id [] (some 29) 0 n n) ux) (hy : RV (layOf Try.prog) c (.ref idy [] (some 29) 0 1 1) uy) (hrx : rowOf h id n = some (some 29, es)) (hry : rowOf h idy 1 = some (some 29, [e]))
    (hne : id ≠ idy) (hi : i < n) (hbig : (n + 1) * Try.prog.bytesOf 30 ≤ 140737488355328) :
    CallRes Try.prog (layOf Try.prog) c w 32 [ux, .int .i64 i, uy] (.ref id [] (some 29) 0 (n + 1) (n + 1)) (h.set id (.cells (some 29) (es.take i ++ [e] ++ es.drop i))) := by
  have hcz := csz_V
  obtain ⟨l, hl, htot, htag, hz, hb1, hb2, hb3, hes, us0, ty0, fz0, hg, hsz, hfz, hrc⟩ := hs.row hrx
  obtain ⟨ly, hly, htoty, htagy, hzy, hyb1, hyb2, hyb3, hesy, usy, tyy, fzy, hgy, hszy, hfzy, hrcy⟩ := hs.row hry
  have hesl := (rowOf_some hrx).2
  obtain ⟨_, k, rfl, hlk, hm⟩ := ref_live hx hl htot (path := []) (o := 0) (e := l.tag) (m := none) rfl
  obtain ⟨_, ky, rfl, hlky, hmy⟩ := ref_live hy hly htoty (path := []) (o := 0) (e := ly.tag) (m := none) rfl
  simp only [roomR, Nat.zero_add, Nat.zero_mul] at hm hmy ⊢
  obtain ⟨hm1, hm2, hm3⟩ := hm
  have hU := hfz
  have hzl := hz
  have hszU := hsz
  have hfz0 := hfz.2 rfl
  have hfzy0 := hfzy.2 rfl
  subst hfz0 hfzy0
  rw [hcz] at hsz hszy hrc hrcy
  simp only [List.length_cons, List.length_nil, Nat.zero_add, Nat.one_mul] at hrcy hyb3
  have hbne : ly.blk ≠ l.blk := fun he => hne (hs.inj id idy l ly hl hly he.symm)
  have hge : ∀ y ∈ es, y.ty = some 29 := fun y hy => (hes y hy).1
  have hcsl := RCs_length_uniform hL hrc hge
  have hvsl := RCs_length_uniform hL hrcy (fun y hy => (hesy y hy).1)
  rw [hcz] at hcsl hvsl
  simp only [List.length_cons, List.length_nil, Nat.zero_add, Nat.one_mul] at hvsl
  rw [hesl] at hcsl hrc
  have h1c : ∀ q ∈ us0.toList.take (n * 42), q.oneCell' = true := RCs_oneCells (fun v _ => RC_oneCells v) (fun v hv => (hes v hv).2) _ hrc
  have h1v : ∀ q ∈ usy.toList.take 42, q.oneCell' = true := RCs_oneCells (fun v _ => RC_oneCells v) (fun v hv => (hesy v hv).2) _ hrcy
  have hcs : ∀ j v, (us0.toList.take (n * 42))[j]? = some v → w.cell? ⟨l.blk, j, none⟩ = some v := fun j v hj => by
    rw [List.getElem?_take] at hj
    split at hj
    · rw [cell_of_heap hg]; simpa using hj
    · cases hj
  have hvs : ∀ j v, (usy.toList.take 42)[j]? = some v → w.cell? ⟨ly.blk, 0 + j, none⟩ = some v := fun j v hj => by
    rw [List.getElem?_take] at hj
    split at hj
    · rw [cell_of_heap hgy, Nat.zero_add]; simpa using hj
    · cases hj
  obtain ⟨i0, hi0, hi0s⟩ := TG_V.info
  rw [hcz] at hi0s
  have hby : Try.prog.bytesOf 30 = i0.bytes := by simp [Program.bytesOf, hi0]
  rw [hby] at hbig
  have hby0 : 0 < i0.bytes := by rw [← hby]; exact of_decide_eq_true (by kernel_rfl)
  have hnb : n + 1 ≤ 140737488355328 := Nat.le_trans (Nat.le_mul_of_pos_right _ hby0) hbig
  have hall : RCs (layOf Try.prog) c (es.take i ++ [e] ++ es.drop i) ((us0.toList.take (n * 42)).take (i * 42) ++ usy.toList.take 42 ++ (us0.toList.take (n * 42)).drop (i * 42)) := by
    have a := RCs_take hL hrc hge i (by omega)
    rw [hcz] at a
    exact RCs_append.2 ⟨_, _, rfl, RCs_append.2 ⟨_, _, rfl, a.1, hrcy⟩, a.2⟩
  have hallel : ∀ q ∈ es.take i ++ [e] ++ es.drop i, q.ty = some 29 ∧ q.solid = true := fun q hq => by
    rcases List.mem_append.1 hq with hq | hq
    · rcases List.mem_append.1 hq with hq | hq
      · exact hes q (List.mem_of_mem_take hq)
      · exact hesy q hq
    · exact hes q (List.mem_of_mem_drop hq)
  have hlen3 : (es.take i ++ [e] ++ es.drop i).length = n + 1 := by simp; omega
  by_cases hroom : n + 1 ≤ k
  · -- room
    have hcap : (n + 1) * 42 ≤ us0.size := by rw [hsz]; exact Nat.mul_le_mul_right 42 (by omega)
    have hdl : ((us0.toList.take (n * 42)).drop (i * 42)).length = (n - i) * 42 := by rw [List.length_drop, hcsl, Nat.sub_mul]
    have hU' : Unfz (some 29) us0.size (0, 0) := hU
    refine Calls.mono (ins_shift l.blk n k i ly.blk 0 ky (us0.toList.take (n * 42)) (usy.toList.take 42) w hi hroom (by omega) hbne hcsl hvsl hcs
      (fun j hj => by rw [cell_of_heap hg, Array.getElem?_eq_getElem (by omega)]; rfl) (fun j hj => unfz_of_heap hg) hvs h1c h1v tyy ty0 usy.size us0.size (shape_of_heap hgy) (shape_of_heap hg) (by omega) (unfz_of_heap hgy) (unfz_of_heap hgy)) ?_
    rintro en w' ⟨rfl, rfl⟩
    have e1l : (es.take (i + 1) ++ es.drop i).length = n + 1 := by simp; omega
    have r1 : RCs (layOf Try.prog) c (es.take (i + 1) ++ es.drop i) ((lay us0.toList ((i + 1) * 42) ((us0.toList.take (n * 42)).drop (i * 42))).take ((n + 1) * 42)) := by
      rw [size_take_lay (by rw [hdl]; simp; omega) (by rw [hdl]; omega)]
      have a := (RCs_take hL hrc hge (i + 1) (by omega)).1
      have b := (RCs_take hL hrc hge i (by omega)).2
      rw [hcz] at a b
      rw [List.take_take, Nat.min_eq_left (by omega)] at a
      exact RCs_append.2 ⟨_, _, rfl, a, b⟩
    have hel1 : ∀ q ∈ es.take (i + 1) ++ es.drop i, q.ty = some 29 ∧ q.solid = true := fun q hq => by
      rcases List.mem_append.1 hq with hq | hq
      · exact hes q (List.mem_of_mem_take hq)
      · exact hes q (List.mem_of_mem_drop hq)
    obtain ⟨l1, hl1, hs1, hle1, hloc1⟩ := row_write hL hs.drew hl htag hz (w := w.drew) hg hU' (by rw [hcz]; exact hszU) (es' := es.take (i + 1) ++ es.drop i) hel1 (by omega) (by omega) (o := (i + 1) * 42) (vs := (us0.toList.take (n * 42)).drop (i * 42)) (by rw [hdl]; omega) (by rw [e1l, hcz]; exact r1)
    have hlt : id < h.length := (List.getElem?_eq_some_iff.1 (rowOf_some hrx).1).1
    have hrow1 : rowOf (h.set id (.cells (some 29) (es.take (i + 1) ++ es.drop i))) id (n + 1) = some (some 29, es.take (i + 1) ++ es.drop i) := by
      simp [rowOf, hlt, e1l]
    obtain ⟨l2, hl2, htot2, htag2, hz2, hb12, hb22, hb32, hes2, us1, ty1, fz1, hg1, hsz1, hU1, hrc1⟩ := hs1.row hrow1
    rw [hloc1] at hl2
    cases hl2
    have hblk1 : l1.blk = l.blk := by rw [hl1]
    have hcap1 : l1.cap = l.cap := by rw [hl1]
    rw [hblk1] at hz2 hg1
    have hover := RCs_over hL hrc1 (hrcy.mono hle1) (fun q hq => (hel1 q hq).1) (fun q hq => (hesy q hq).1) (n := i) (by rw [e1l]; simp; omega)
    have ee : (es.take (i + 1) ++ es.drop i).take i ++ [e] ++ (es.take (i + 1) ++ es.drop i).drop (i + [e].length) = es.take i ++ [e] ++ es.drop i := by
      have h1 : (es.take (i + 1)).length = i + 1 := by simp; omega
      rw [List.take_append_of_le_length (by omega), List.take_take, Nat.min_eq_left (by omega), List.length_singleton, List.drop_append, h1, Nat.sub_self, List.drop_of_length_le (by omega), List.drop_zero, List.nil_append]
    have hsz1' : us1.size = us0.size := by rw [hsz1, hcap1, hcz, hsz]
    rw [ee, hcz, e1l, ← lay_take _ _ _ _ (by rw [hvsl]; omega) (by simp; omega)] at hover
    obtain ⟨l3, hl3, hs3, hle3, hloc3⟩ := row_write hL hs1 hloc1 htag2 (by rw [hblk1]; exact hz2) (by rw [hblk1]; exact hg1) hU1 (by rw [hsz1]) (es' := es.take i ++ [e] ++ es.drop i) hallel (by omega) (by omega) (o := i * 42) (vs := usy.toList.take 42) (by rw [hvsl, hsz1']; omega) (by rw [hlen3, hcz]; exact hover)
    rw [hblk1, List.set_set] at hs3
    have hfin := ref_mk hs3 (id := id) (tot := n + 1) (off := 0) (len := n + 1) (k := k) (path := []) (m := none) (o := 0) (e := l3.tag) hloc3 (by rw [hl3]; exact hlen3) rfl hroom (by rw [hl3]; simp only [roomR, hcap1]; omega)
    have hblk3 : l3.blk = l.blk := by rw [hl3]; exact hblk1
    have htag3 : l3.tag = some 29 := by rw [hl3]; exact htag2
    rw [hblk3, htag3] at hfin
    simp only [Nat.zero_add, Nat.zero_mul] at hfin
    exact ⟨_, _, rfl, hfin, hs3, hle1.trans hle3, (St.drew w).trans ((St.setCells _ _ _ _).trans (St.setCells _ _ _ _))⟩
  · -- no room
    have hz : ((Try.prog.info? 30).bind fun i => i.zero).map (fun z => z.cells.size) = some 42 := by kernel_rfl
    rw [hi0] at hz
    obtain ⟨z, hz0, hzc⟩ := Option.map_eq_some_iff.1 hz
    refine Calls.mono (ins_grow l.blk n k i ly.blk 0 ky (us0.toList.take (n * 42)) (usy.toList.take 42) w i0 z hi0 hz0 hi0s hzc hby0 hi (by omega) (by omega) hbig hcsl hvsl hcs hvs h1c h1v) ?_
    rintro en w' ⟨rfl, rfl⟩
    have hGn : n + 1 ≤ grownCap w (n + 1) k 30 := grownCap_ge w _ _ _
    obtain ⟨G, hG⟩ : ∃ G, G = grownCap w (n + 1) k 30 := ⟨_, rfl⟩
    rw [← hG] at hGn ⊢
    obtain ⟨ROW, hROW⟩ : ∃ ROW : Array Value, ROW = ((us0.toList.take (n * 42)).take (i * 42)).toArray ++ Builtin.zeroCells z.cells (n + 1 - i) ++ Builtin.zeroCells z.cells (G - (n + 1)) := ⟨_, rfl⟩
    rw [← hROW]
    have htl : ((us0.toList.take (n * 42)).take (i * 42)).length = i * 42 := by rw [List.length_take, hcsl]; omega
    have hdl : ((us0.toList.take (n * 42)).drop (i * 42)).length = (n - i) * 42 := by rw [List.length_drop, hcsl, Nat.sub_mul]
    have hRs : ROW.size = G * 42 := by
      rw [hROW, Array.size_append, Array.size_append, List.size_toArray, htl, size_zeroCells, size_zeroCells, hzc]; omega
    have hRt : ROW.toList.take (i * 42) = (us0.toList.take (n * 42)).take (i * 42) := by
      rw [hROW, Array.toList_append, Array.toList_append, List.append_assoc, List.toList_toArray]
      exact List.take_left' htl
    have hfit : (n + 1) * 42 ≤ ROW.size := by rw [hRs]; exact Nat.mul_le_mul_right 42 hGn
    have hl' : ∃ l' : Vm.Loc, l' = ⟨w.heap.size, G, some 29, n + 1⟩ := ⟨_, rfl⟩
    obtain ⟨l', hl'⟩ := hl'
    have hle : c.le (c.move id l') := Ctx.le_move c id l l' hl (by rw [hl', htag]) (by rw [hl', htot]; simp) (fun he => by rw [hl', htot] at he; simp at he)
    have g1 : ((w.alloc (.cells ROW 30)).drew).heap[w.heap.size]? = some (.cells ROW 30 (0, 0)) := heap_new (w := w)
    have g2 := heap_setCells w.heap.size 30 (0, 0) (usy.toList.take 42) (i * 42) ROW _ g1 (by rw [hvsl]; omega)
    have hll : (lay ROW.toList (i * 42) (usy.toList.take 42)).length = ROW.size := by rw [length_lay _ _ _ (by rw [hvsl]; simp; omega)]; simp
    have g3 := heap_setCells w.heap.size 30 (0, 0) ((us0.toList.take (n * 42)).drop (i * 42)) ((i + 1) * 42) _ (((w.alloc (.cells ROW 30)).drew.setCells w.heap.size (i * 42) (usy.toList.take 42)).drew) g2 (by rw [hdl, List.size_toArray, hll]; omega)
    have hs' : Sim (layOf Try.prog) (c.move id l') (h.set id (.cells (some 29) (es.take i ++ [e] ++ es.drop i))) ((((w.alloc (.cells ROW 30)).drew.setCells w.heap.size (i * 42) (usy.toList.take 42)).drew).setCells w.heap.size ((i + 1) * 42) ((us0.toList.take (n * 42)).drop (i * 42))) := by
      refine hs.move hl _ hle (by rw [hl']; exact hs.zNone) (Or.inr (by rw [hl']; exact Nat.le_refl _)) (fun b hb hbl => ?_) (fun o' ho' => by rw [hzl] at ho'; cases ho') ?_
      · rw [heap_setCells_other _ _ _ _ _ (by omega)]
        show ((w.alloc (.cells ROW 30)).drew.setCells w.heap.size (i * 42) (usy.toList.take 42)).heap[b]? = _
        rw [heap_setCells_other _ _ _ _ _ (by omega)]
        exact heap_old (w := w) hb
      · refine ⟨by rw [hl'], by rw [hl', hlen3], by rw [hl', hlen3]; exact hGn, hallel, _, 30, (0, 0), by rw [hl']; exact g3, ?_, ⟨by intro j hj; omega, fun _ => rfl⟩, ?_⟩
        · rw [List.size_toArray, length_lay _ _ _ (by rw [hdl]; simp only [List.toList_toArray, hll]; omega), List.toList_toArray, hll, hRs, hl', hcz]
        · rw [hlen3, hcz, List.toList_toArray, List.toList_toArray, take_lay2 (by rw [hvsl]; omega) (by rw [hdl]; omega) (by simp; omega) hRt]
          exact hall.mono hle
    have hloc : (c.move id l').loc id = some l' := by simp [Ctx.move]
    have hfin := ref_mk hs' (id := id) (tot := n + 1) (off := 0) (len := n + 1) (k := G) (path := []) (m := none) (o := 0) (e := l'.tag) hloc (by rw [hl']) rfl hGn (by rw [hl']; simp only [roomR]; omega)
    have hblk' : l'.blk = w.heap.size := by rw [hl']
    have htag' : l'.tag = some 29 := by rw [hl']
    rw [hblk', htag'] at hfin
    simp only [Nat.zero_add, Nat.zero_mul] at hfin
    exact ⟨_, _, rfl, hfin, hs', hle, (St.alloc _ _).trans ((St.drew _).trans ((St.setCells _ _ _ _).trans ((St.drew _).trans (St.setCells _ _ _ _))))⟩

theorem insert_app (hL : (layOf Try.prog).OK) {c : Ctx} {w : World} {h : Hp} (hs : Sim (layOf Try.prog) c h w) {x : V} {idy : Nat} {ux uy : Value} {n : Nat} {v : V} {h' : Hp}
    (hx : RV (layOf Try.prog) c x ux) (hy : RV (layOf Try.prog) c (.ref idy [] (some 29) 0 1 1) uy) (hux : ∃ a k, ux = .slice a n k ∧ n ≤ k ∧ (a = none → n = 0)) (hop : opApp 0 h (some 29) (Try.prog.bytesOf 30) x (.ref idy [] (some 29) 0 1 1) = some (v, h')) :
    CallRes Try.prog (layOf Try.prog) c w 32 [ux, .int .i64 n, uy] v h' := by
  obtain ⟨a, k, rfl, hnk, hnil⟩ := hux
  obtain ⟨ay, ky, rfl, _⟩ := RV_ref.1 hy
  obtain ⟨hz0, hzg, hzs⟩ := zeroOf_OK (P := Try.prog) (obj := ob) (t := 30) (z := .st 29 [.arr 23 [.s (.int .u8 0), .s (.int .u8 0), .s (.int .u8 0), .s (.int .u8 0)], .s (.int .u64 0), .arr 26 [.s (.int .u8 0), .s (.int .u8 0), .s (.int .u8 0), .s (.int .u8 0), .s (.int .u8 0), .s (.int .u8 0), .s (.int .u8 0), .s (.int .u8 0), .s (.int .u8 0), .s (.int .u8 0), .s (.int .u8 0), .s (.int .u8 0), .s (.int .u8 0), .s (.int .u8 0), .s (.int .u8 0), .s (.int .u8 0)], .imm false none [], .s (.int .i64 0), .s (.int .i64 0), .arr 26 [.s (.int .u8 0), .s (.int .u8 0), .s (.int .u8 0), .s (.int .u8 0), .s (.int .u8 0), .s (.int .u8 0), .s (.int .u8 0), .s (.int .u8 0), .s (.int .u8 0), .s (.int .u8 0), .s (.int .u8 0), .s (.int .u8 0), .s (.int .u8 0), .s (.int .u8 0), .s (.int .u8 0), .s (.int .u8 0)], .s (.bool false), .s (.bool false)]) (by kernel_rfl)
  obtain ⟨i, hi, _⟩ := TG_V.info
  have hb : Try.prog.bytesOf 30 = i.bytes := by simp [Program.bytesOf, hi]
  have hpos : 0 < i.bytes := by rw [← hb]; exact of_decide_eq_true (by kernel_rfl)
  rw [hb] at hop
  rw [tag_V] at hzg
  obtain ⟨u, c', w', hrun, h1, h2, h3, h4⟩ := do_app (P := Try.prog) hL hs (T2 := 54) (ty := 54) Try.underlying54 TG_V hi hz0 hzg hzs (Or.inl ⟨_, Try.underlying54⟩) hpos hx hy hop
  refine Calls.mono (ins_end a n k ky ay w w' u hnk hnil hrun) ?_
  rintro e w2 ⟨rfl, rfl⟩
  exact ⟨u, c', rfl, h1, h2, h3, h4⟩

theorem insert_calls (hL : (layOf Try.prog).OK) {c : Ctx} {w : World} {vs : List V} {us : List Value} {h : Hp} {v : V} {h' : Hp} (hc : insertV (some 29) (Try.prog.bytesOf 30) vs h = some (v, h')) (hv : RVl (layOf Try.prog) c vs us) (hs : Sim (layOf Try.prog) c h w) : CallRes Try.prog (layOf Try.prog) c w 32 us v h' := by
  unfold insertV at hc
  split at hc
  case h_2 => cases hc
  rename_i _ x i idy gy
  match us, hv with
  | [ux, ui, uy], hv =>
  obtain ⟨hx, hi, hy, _⟩ := hv
  obtain ⟨rfl, _⟩ := RV_s.1 hi
  split at hc
  case h_2 => cases hc
  rename_i gy' e hry
  split at hc
  case isFalse => cases hc
  rename_i hcc
  obtain ⟨rfl, rfl, hgr⟩ := hcc
  have hsrc : source h (.ref idy [] (some 29) 0 1 1) = some (some 29, [e]) := by simp [source, elems, Vm.rowAt, hry]
  split at hc
  · rename_i gx
    split at hc
    case isFalse => cases hc
    rename_i hcc
    obtain ⟨rfl, rfl⟩ := hcc
    cases hc
    obtain ⟨a, k, rfl, h1, h2, h3, h4⟩ := RV_imm.1 hx
    refine insert_app (n := 0) hL hs hx hy ⟨a, k, rfl, by simp, fun _ => rfl⟩ ?_
    have hb : Try.prog.bytesOf 30 ≤ 140737488355328 := of_decide_eq_true (by kernel_rfl)
    simp [opApp, hsrc, appendV, hb]
  · rename_i id gx n m
    split at hc
    case h_2 => cases hc
    rename_i gx' es hrx
    split at hc
    case isFalse => cases hc
    rename_i hcc
    obtain ⟨rfl, rfl, rfl, hne, h0i, hin, hbig⟩ := hcc
    cases hc
    obtain ⟨j, rfl⟩ : ∃ j : Nat, i = j := ⟨i.toNat, by omega⟩
    have hel := (rowOf_some hrx).2
    simp only [Int.toNat_natCast]
    by_cases hj : j < n
    · exact insert_mid hL hs hx hy hrx hry hne hj hbig
    · obtain rfl : j = n := by omega
      obtain ⟨a, k, rfl, _, hk, _⟩ := RV_ref.1 hx
      refine insert_app (n := j) hL hs hx hy ⟨some a, k, rfl, hk, fun h => by cases h⟩ ?_
      have hm : mayPut 0 id e = true := by simp [mayPut]
      have t1 : es.take j = es := List.take_of_length_le (by omega)
      have t2 : es.drop j = [] := List.drop_of_length_le (by omega)
      simp [opApp, hsrc, appendV, hrx, hm, hbig, t1, t2]
  · cases hc
end Go.Proofs.Ytfhmclgnfabdfaa
