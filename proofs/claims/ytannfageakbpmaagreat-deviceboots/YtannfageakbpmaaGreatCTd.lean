/- Texts for DeviceBoots, part 4. Conditions: none. -/
import Derived.Test.YtannfageakbpmaaGreatCTc
set_option linter.unusedSimpArgs false
set_option linter.unusedVariables false
set_option linter.unusedSectionVars false
namespace Go.Proofs.YtannfageakbpmaaGreat.Dsk
open Go Go.Vm Go.Proofs Go.Cl Go.Proofs.YtannfageakbpmaaGreat
noncomputable abbrev R (b:Nat):CF:=run fns pr b
theorem clone_run (b:Nat) (vs:List V) (h:Hp):R b 91 vs h=cloneV vs h:=Clone_run b h vs
theorem clone_R {b:Nat} {h:Hp} {x:V} {l:Bs} (hb:BR h x l) (hl:l.length≤140737488355328):run fns pr b 91 [x] h=some (cv h l,h++ct l):=by
 rw[Clone_run];exact clone_eq hb hl
theorem right_ok (b:Nat) (h:Hp) (n:Int):R b 94 [.s (.int .i64 n)] h=some (.s (.bool (decide (0≤n)&& decide (n < 10))),h):=by
 refine Vm.runP (nt:=9) rfl fit94 (by simp) ?_
 by_cases h0:0≤n
 ·simp only[B94,go_sem,↓reduceIte,Nat.reduceEqDiff,Nat.reduceBEq,Nat.reduceAdd,Nat.reduceSub,Nat.reduceLT,Nat.reduceLeDiff,Int.reduceLT,Int.reduceLE,Int.reduceEq,Int.reduceToNat,h0]
 ·simp only[B94,go_sem,↓reduceIte,Nat.reduceEqDiff,Nat.reduceBEq,Nat.reduceAdd,Nat.reduceSub,Nat.reduceLT,Nat.reduceLeDiff,Int.reduceLT,Int.reduceLE,Int.reduceEq,Int.reduceToNat,h0]
def SlR (h:Hp) (v:V) (s:Option Bs):Prop:=∃x,v= .st 130 [.s (.bool s.isSome),x]∧BR h x (s.getD [])
def SlsR (h:Hp) (vs:List V) (ss:List (Option Bs)):Prop:=vs.length=ss.length∧∀(i:Nat) v s,vs[i]? =some v→ss[i]? =some s→SlR h v s
theorem SlR.mono {S:List Nat} {h h':Hp} {v:V} {s:Option Bs} (hs:SlR h v s) (f:Fw S h h'):SlR h' v s:=by
 obtain ⟨x,h1,h2⟩:=hs;exact ⟨x,h1,h2.mono f⟩
theorem SlsR.mono {S:List Nat} {h h':Hp} {v:List V} {s:List (Option Bs)} (hs:SlsR h v s) (f:Fw S h h'):SlsR h' v s:=
 ⟨hs.1,fun i v s h1 h2=>(hs.2 i v s h1 h2).mono f⟩
theorem SlsR.set {h:Hp} {vs:List V} {ss:List (Option Bs)} {v:V} {s:Option Bs} (hs:SlsR h vs ss) (hv:SlR h v s) (i:Nat):SlsR h (vs.set i v) (ss.set i s):=by
 refine ⟨by simp[hs.1],fun j w t h1 h2=> ?_⟩
 rw[List.getElem?_set] at h1 h2
 split at h1
 ·rename_i he;subst he
  rw[if_pos rfl] at h2
  split at h1
  ·cases h1;rw[if_pos (by rw[←hs.1];assumption)] at h2;cases h2;exact hv
  ·cases h1
 ·rename_i he
  rw[if_neg he] at h2
  exact hs.2 j w t h1 h2
theorem SlsR.get {h:Hp} {vs:List V} {ss:List (Option Bs)} (hs:SlsR h vs ss) {i:Nat} (hi:i < ss.length):∃x,vs[i]? =some (.st 130 [.s (.bool (ss.getD i none).isSome),x])∧BR h x ((ss.getD i none).getD []):=by
 have h1:vs[i]? =some (vs[i]'(by rw[hs.1];exact hi)):=List.getElem?_eq_getElem (by rw[hs.1];exact hi)
 have h2:ss[i]? =some ss[i]:=List.getElem?_eq_getElem hi
 obtain ⟨x,h3,h4⟩:=hs.2 i _ _ h1 h2
 rw[List.getD_eq_getElem?_getD,h2]
 exact ⟨x,by rw[h1,h3];rfl,h4⟩
def DR (h:Hp) (id:Nat) (D:Dk):Prop:=∃nv lv x,h[id]? =some (.cells (some 133) [.st 133 [.arr 132 nv,.arr 132 lv,.s (.int .i64 D.pend),.s (.int .i64 D.at_),x]])∧
 SlsR h nv D.now∧SlsR h lv D.lasts∧BR h x D.last∧D.OK
theorem DR.mono {S:List Nat} {h h':Hp} {id:Nat} {D:Dk} (hd:DR h id D) (f:Fw S h h') (hi:id∉S):DR h' id D:=by
 obtain ⟨nv,lv,x,h1,h2,h3,h4,h5⟩:=hd
 exact ⟨nv,lv,x,f.old _ _ h1 hi,h2.mono f,h3.mono f,h4.mono f,h5⟩
theorem DR.lt {h:Hp} {id:Nat} {D:Dk} (hd:DR h id D):id < h.length:=by
 obtain ⟨nv,lv,x,h1,_⟩:=hd;exact q6z h1
theorem DR.ok {h:Hp} {id:Nat} {D:Dk} (hd:DR h id D):D.OK:=by
 obtain ⟨nv,lv,x,_,_,_,_,h⟩:=hd;exact h
def Z60 :V:= .st 130 [.s (.bool false),.imm false none []]
def Z61 :V:= .st 130 [.s (.bool false),.imm true none []]
theorem new_ok (b:Nat) (h:Hp):∃v h',R b 46 [] h=some (v,h')∧v= .ptr h.length [0] 1∧DR h' h.length Dk.new∧Fw [] h h':=by
 refine Vm.runQ (nt:=3) rfl fit46 (by simp) ?_
 simp only[B46,go_sem,↓reduceIte,Nat.reduceEqDiff,Nat.reduceBEq,Nat.reduceAdd,Nat.reduceSub,Nat.reduceLT,Nat.reduceLeDiff,Int.reduceLT,Int.reduceLE,Int.reduceEq,Int.reduceToNat]
 refine ⟨⟨List.replicate 10 Z61,List.replicate 10 Z61,_,get_app0 _ _,?_,?_,BR_nil _ _,Dk.new_ok⟩,Fw.app _ _ _⟩
 all_goals
   refine ⟨by simp[Dk.new],fun i v s h1 h2=> ?_⟩
   simp only[Dk.new,List.getElem?_replicate] at h1 h2
   split at h1
   ·rename_i hi
    rw[if_pos hi] at h2
    cases h1;cases h2
    exact ⟨_,rfl,BR_nil _ _⟩
   ·cases h1
theorem slot_ok (b:Nat) (h:Hp) (y:V) (l:Bs) (hb:b≤h.length) (hy:BR h y l) (hl:l.length≤140737488355328):∃v h',R b 95 [y] h=some (v,h')∧SlR h' v (some l)∧Fw [] h h'∧
 (l≠[]→∃k,h.length≤k∧v= .st 130 [.s (.bool true),.ref k [] none 0 l.length l.length]∧h'[k]? =some (.cells none (l.map byteV))):=by
 refine Vm.runQ (nt:=6) rfl fit95 (by simp) ?_
 obtain ⟨x,t,hc,hx,hcase⟩:=clone_ok (h:=h++[.cells (some 130) [Z60]]) (hy.mono (Fw.app [] _ _)) hl
 have hrun:=clone_run b [y] (h++[.cells (some 130) [Z60]])
 rw[hc] at hrun
 unfold Z60 at hrun
 simp only[B95,go_sem,↓reduceIte,Nat.reduceEqDiff,Nat.reduceBEq,Nat.reduceAdd,Nat.reduceSub,Nat.reduceLT,Nat.reduceLeDiff,Int.reduceLT,Int.reduceLE,Int.reduceEq,Int.reduceToNat,hrun,List.append_assoc,hx.ty,hx.solid,hb]
 refine ⟨⟨x,rfl,?_⟩,Fw.app _ _ _,fun hne=> ?_⟩
 ·rcases hcase with ⟨rfl,rfl,rfl⟩ | ⟨rfl,rfl⟩
  ·exact BR_nil _ _
  ·refine BR_ref ?_ rfl
   rw[List.length_append,get_app];rfl
 ·rcases hcase with ⟨rfl,rfl,rfl⟩ | ⟨rfl,rfl⟩
  ·exact absurd rfl hne
  ·refine ⟨_,?_,rfl,?_⟩
   ·simp
   ·rw[List.length_append,get_app];rfl
theorem DR.fw {h:Hp} {id:Nat} {D:Dk} (hd:DR h id D) (es:List V):Fw [id] h (h.set id (.cells (some 133) es)):=by
 obtain ⟨nv,lv,x,hg,_⟩:=hd
 exact Fw.set (by simp) hg
theorem Put_ok (b:Nat) (h:Hp) (id:Nat) (D:Dk) (n:Int) (y:V) (l:Bs) (hb:b≤id) (hd:DR h id D) (hy:BR h y l) (hl:l.length≤140737488355328) (hp:D.pend < 4611686018427387904):
 ∃v h',R b 61 [.ptr id [0] 1,.s (.int .i64 n),y] h=some (v,h')∧v= .s (.bool (Dk.takes n l))∧DR h' id (if Dk.takes n l=true then D.put n.toNat l else D)∧Fw [id] h h':=by
 have hr:=right_ok b h n
 have hly:=fun h0=> hy.o_len (cf:=run fns pr b) (base:=b) (h:=h0)
 refine Vm.runQ (nt:=38) rfl fit61 (by simp) ?_
 by_cases ht:Dk.takes n l=true
 ·have ht':=ht
  simp only[Dk.takes,Bool.and_eq_true,decide_eq_true_eq] at ht'
  obtain ⟨⟨h0,h1⟩,h2⟩:=ht'
  obtain ⟨m,rfl⟩:∃m:Nat,n=m:=⟨n.toNat,by omega⟩
  have hle:¬(8192:Int)< l.length:=by omega
  obtain ⟨v1,k1,e1,hs1,f1,_⟩:=slot_ok b h y l (by have:=hd.lt;omega) hy hl
  have hd1:=hd.mono f1 (by simp)
  have hfw:=hd1.fw
  obtain ⟨nv,lv,x,hg,r1,r2,r3,r4⟩:=hd
  have hg1:=f1.old _ _ hg (by simp)
  obtain ⟨x0,hx0,_⟩:=r1.get (i:=m) (by rw[r4.now];omega)
  have hnl:(m:Int)< nv.length:=by rw[r1.1,r4.now];omega
  obtain ⟨xs,rfl,hxs⟩:=hs1
  have hw:=q18z hp
  have hlt1:=q6z hg1
  have hx0':=r3.ty
  have hcl:=fun es=> clone_R (b:=b) (h:=k1.set id (.cells (some 133) es)) (x:=y) ((hy.mono f1).mono (hfw es)) hl
  simp only[B61,go_sem,↓reduceIte,Nat.reduceEqDiff,Nat.reduceBEq,Nat.reduceAdd,Nat.reduceSub,Nat.reduceLT,Nat.reduceLeDiff,Int.reduceLT,Int.reduceLE,Int.reduceEq,Int.reduceToNat,hr,hly,h0,h1,hle,e1,hg,okAt,hg1,hnl,hx0,hb,hw,hlt1,hcl,cv_ty,cv_solid,hx0']
  have F:=fun es=> f1.mono (T:=[id]) (by simp) |>.trans ((hfw es).trans (Fw.app [id] _ (ct l)))
  have F1:=fun es=>((hfw es).trans (Fw.app [id] _ (ct l)))
  refine ⟨by rw[ht],?_,F _⟩
  rw[if_pos ht]
  refine ⟨_,_,_,q10z (q9z hg1) _,((r1.mono (F _)).set ⟨xs,rfl,hxs.mono (F1 _)⟩ m),r2.mono (F _),?_,Dk.put_ok r4 (by omega) h2⟩
  exact cv_BR' (by rw[List.length_set,List.length_set]) l
 ·have ht':=ht
  simp only[Bool.not_eq_true] at ht'
  simp only[ht',Bool.false_eq_true,if_false]
  by_cases h0:0≤n
  ·by_cases h1:n < 10
   ·have hle:(8192:Int)< l.length:=by simp[Dk.takes,h0,h1] at ht';omega
    simp only[B61,go_sem,↓reduceIte,Nat.reduceEqDiff,Nat.reduceBEq,Nat.reduceAdd,Nat.reduceSub,Nat.reduceLT,Nat.reduceLeDiff,Int.reduceLT,Int.reduceLE,Int.reduceEq,Int.reduceToNat,hr,hly,h0,h1,hle]
    exact ⟨hd,Fw.refl _ _⟩
   ·simp only[B61,go_sem,↓reduceIte,Nat.reduceEqDiff,Nat.reduceBEq,Nat.reduceAdd,Nat.reduceSub,Nat.reduceLT,Nat.reduceLeDiff,Int.reduceLT,Int.reduceLE,Int.reduceEq,Int.reduceToNat,hr,hly,h0,h1]
    exact ⟨hd,Fw.refl _ _⟩
  ·simp only[B61,go_sem,↓reduceIte,Nat.reduceEqDiff,Nat.reduceBEq,Nat.reduceAdd,Nat.reduceSub,Nat.reduceLT,Nat.reduceLeDiff,Int.reduceLT,Int.reduceLE,Int.reduceEq,Int.reduceToNat,hr,hly,h0]
   exact ⟨hd,Fw.refl _ _⟩
theorem Sync_ok (b:Nat) (h:Hp) (id:Nat) (D:Dk) (hb:b≤id) (hd:DR h id D):∃v h',R b 62 [.ptr id [0] 1] h=some (v,h')∧v= .tup []∧DR h' id D.sync∧Fw [id] h h':=by
 refine Vm.runQ (nt:=12) rfl fit62 (by simp) ?_
 have hfw:=hd.fw
 obtain ⟨nv,lv,x,hg,r1,r2,r3,r4⟩:=hd
 have hlt:=q6z hg
 simp only[B62,go_sem,↓reduceIte,Nat.reduceEqDiff,Nat.reduceBEq,Nat.reduceAdd,Nat.reduceSub,Nat.reduceLT,Nat.reduceLeDiff,Int.reduceLT,Int.reduceLE,Int.reduceEq,Int.reduceToNat,hg,hb,hlt]
 exact ⟨⟨_,_,_,q9z hg,r1.mono (hfw _),r1.mono (hfw _),r3.mono (hfw _),Dk.sync_ok r4⟩,hfw _⟩
theorem Get_ok (b:Nat) (h:Hp) (id:Nat) (D:Dk) (n:Int) (hd:DR h id D):
 R b 100 [.ptr id [0] 1,.s (.int .i64 n)] h=some (.tup [.imm false none (((D.get n).getD []).map byteV),.s (.bool (D.get n).isSome)],h):=by
 have hr:=right_ok (h.length) h n
 refine Vm.runP (nt:=27) rfl fit100 (by simp) ?_
 obtain ⟨nv,lv,x,hg,r1,r2,r3,r4⟩:=hd
 by_cases h0:0≤n
 ·by_cases h1:n < 10
  ·obtain ⟨m,rfl⟩:∃m:Nat,n=m:=⟨n.toNat,by omega⟩
   obtain ⟨x0,hx0,hb0⟩:=r1.get (i:=m) (by rw[r4.now];omega)
   have hnl:(m:Int)< nv.length:=by rw[r1.1,r4.now];omega
   have hget:D.get m=D.now.getD m none:=by simp[Dk.get];omega
   have hsm:=r4.ns m
   rw[hget]
   have hx0t:=hb0.ty
   cases hc:D.now.getD m none with
   | none=>
     rw[hc] at hx0
     simp only[B100,go_sem,↓reduceIte,Nat.reduceEqDiff,Nat.reduceBEq,Nat.reduceAdd,Nat.reduceSub,Nat.reduceLT,Nat.reduceLeDiff,Int.reduceLT,Int.reduceLE,Int.reduceEq,Int.reduceToNat,hr,h0,h1,hg,hx0,hnl]
   | some l=>
     rw[hc] at hx0 hb0 hsm
     have hcl:=clone_R (b:=h.length) hb0 (by omega)
     have hcf:=cv_frz h.length h l (Nat.le_refl _)
     simp only[B100,go_sem,↓reduceIte,Nat.reduceEqDiff,Nat.reduceBEq,Nat.reduceAdd,Nat.reduceSub,Nat.reduceLT,Nat.reduceLeDiff,Int.reduceLT,Int.reduceLE,Int.reduceEq,Int.reduceToNat,hr,h0,h1,hg,hx0,hnl,hx0t,hcl,hcf]
  ·have hget:D.get n=none:=by simp[Dk.get];omega
   rw[hget]
   simp only[B100,go_sem,↓reduceIte,Nat.reduceEqDiff,Nat.reduceBEq,Nat.reduceAdd,Nat.reduceSub,Nat.reduceLT,Nat.reduceLeDiff,Int.reduceLT,Int.reduceLE,Int.reduceEq,Int.reduceToNat,hr,h0,h1,hg]
 ·have hget:D.get n=none:=by simp[Dk.get];omega
  rw[hget]
  simp only[B100,go_sem,↓reduceIte,Nat.reduceEqDiff,Nat.reduceBEq,Nat.reduceAdd,Nat.reduceSub,Nat.reduceLT,Nat.reduceLeDiff,Int.reduceLT,Int.reduceLE,Int.reduceEq,Int.reduceToNat,hr,h0,hg]
theorem Crash_ok (b:Nat) (h:Hp) (id:Nat) (D:Dk) (t:Int) (hb:b≤id) (hd:DR h id D):∃v h',R b 77 [.ptr id [0] 1,.s (.int .i64 t)] h=some (v,h')∧v= .tup []∧DR h' id (D.crash t)∧Fw [id] h h':=by
 refine Vm.runQ (nt:=43) rfl fit77 (by simp) ?_
 have hfw:=hd.fw
 have hd0:=hd
 obtain ⟨nv,lv,x,hg,r1,r2,r3,r4⟩:=hd
 have hlt:=q6z hg
 have hx0':=r3.ty
 let es:List V:=[.st 133 [.arr 132 lv,.arr 132 lv,.s (.int .i64 D.pend),.s (.int .i64 D.at_),x]]
 let h1:=h.set id (.cells (some 133) es)
 have d1:DR h1 id {D with now:=D.lasts}:=⟨_,_,_,q9z hg,r2.mono (hfw _),r2.mono (hfw _),r3.mono (hfw _),⟨r4.lasts,r4.lasts,r4.at_,r4.ls,r4.ls,r4.last⟩⟩
 by_cases hp:0 < D.pend
 ·by_cases ht:0 < t
  ·obtain ⟨m,rfl⟩:∃m:Nat,t=m:=⟨t.toNat,by omega⟩
   have hp':(0:Int)< D.pend:=by omega
   have hmin:min (m:Int) (D.last.length:Int)=((min m D.last.length:Nat):Int):=by omega
   have hb1:BR h1 x D.last:=r3.mono (hfw es)
   have hl1:=fun h0=> hb1.o_len (cf:=run fns pr b) (base:=b) (h:=h0)
   obtain ⟨y,hy,hyb⟩:=hb1.hi (k:= .i64) (r:=min m D.last.length) (Nat.min_le_right _ _)
   have hll:=r4.last
   obtain ⟨v2,h2,e2,⟨xs,rfl,hxs⟩,f2,_⟩:=slot_ok b h1 y _ (by have:=hd0.lt;simp[h1];omega) hyb (by simp;omega)
   have d2:=d1.mono f2 (by simp)
   have hfw2:=d2.fw
   have hg2:=f2.old _ _ (q9z hg) (by simp)
   have hlt2:=q6z hg2
   have hat:=r4.at_
   obtain ⟨x0,hx0,_⟩:=r2.get (i:=D.at_) (by rw[r4.lasts];omega)
   have hnl:(D.at_:Int)< lv.length:=by rw[r2.1,r4.lasts];omega
   have hn0:(0:Int)≤D.at_:=by omega
   simp only[h1,es] at hy e2 hg2
   simp only[B77,go_sem,↓reduceIte,Nat.reduceEqDiff,Nat.reduceBEq,Nat.reduceAdd,Nat.reduceSub,Nat.reduceLT,Nat.reduceLeDiff,Int.reduceLT,Int.reduceLE,Int.reduceEq,Int.reduceToNat,hg,hb,hlt,hp',ht,hx0',hl1,hmin,hy,e2,okAt,hg2,hx0,hnl,hlt2,hn0]
   have G:=fun es'=>((hfw es).trans (f2.mono (T:=[id]) (by simp))).trans (hfw2 es')
   have d3:=(⟨_,_,_,q9z hg2,((r2.mono (G _)).set ⟨xs,rfl,hxs.mono (hfw2 _)⟩ D.at_),r2.mono (G _),r3.mono (G _),
     ⟨by simp[r4.lasts],r4.lasts,r4.at_,small_set r4.ls _ (by simp;omega),r4.ls,r4.last⟩⟩:DR (h2.set id (.cells (some 133) [.st 133 [.arr 132 (lv.set D.at_ (.st 130 [.s (.bool true),xs])),.arr 132 lv,.s (.int .i64 D.pend),.s (.int .i64 D.at_),x]])) id ⟨D.lasts.set D.at_ (some (D.last.take (min m D.last.length))),D.lasts,D.pend,D.at_,D.last⟩)
   obtain ⟨v4,h4,e4,rfl,d4,f4⟩:=Sync_ok b _ id _ hb d3
   simp only[go_sem,↓reduceIte,Nat.reduceEqDiff,Nat.reduceBEq,Nat.reduceAdd,Nat.reduceSub,Nat.reduceLT,Nat.reduceLeDiff,Int.reduceLT,Int.reduceLE,Int.reduceEq,Int.reduceToNat,e4]
   refine ⟨?_,(G _).trans f4⟩
   have:D.crash m=Dk.sync ⟨D.lasts.set D.at_ (some (D.last.take (min m D.last.length))),D.lasts,D.pend,D.at_,D.last⟩:=by
     have:D.last.take (min m D.last.length)=D.last.take m:=by rw[←List.take_eq_take_min]
     simp only[Dk.crash,Dk.torn,Dk.sync,hp,ht,and_self,if_true,Int.toNat_natCast,this]
   rw[this];exact d4
  ·obtain ⟨v2,h2,e2,rfl,d2,f2⟩:=Sync_ok b h1 id _ hb d1
   have hp':(0:Int)< D.pend:=by omega
   simp only[h1,es] at e2
   simp only[B77,go_sem,↓reduceIte,Nat.reduceEqDiff,Nat.reduceBEq,Nat.reduceAdd,Nat.reduceSub,Nat.reduceLT,Nat.reduceLeDiff,Int.reduceLT,Int.reduceLE,Int.reduceEq,Int.reduceToNat,hg,hb,hlt,hp',ht,e2]
   refine ⟨?_,(hfw es).trans f2⟩
   have:D.crash t=Dk.sync {D with now:=D.lasts}:=by simp[Dk.crash,Dk.torn,Dk.sync,ht]
   rw[this];exact d2
 ·obtain ⟨v2,h2,e2,rfl,d2,f2⟩:=Sync_ok b h1 id _ hb d1
  have hp':¬(0:Int)< D.pend:=by omega
  simp only[h1,es] at e2
  simp only[B77,go_sem,↓reduceIte,Nat.reduceEqDiff,Nat.reduceBEq,Nat.reduceAdd,Nat.reduceSub,Nat.reduceLT,Nat.reduceLeDiff,Int.reduceLT,Int.reduceLE,Int.reduceEq,Int.reduceToNat,hg,hb,hlt,hp',e2]
  refine ⟨?_,(hfw es).trans f2⟩
  have:D.crash t=Dk.sync {D with now:=D.lasts}:=by simp[Dk.crash,Dk.torn,Dk.sync,hp]
  rw[this];exact d2
end Go.Proofs.YtannfageakbpmaaGreat.Dsk
namespace Go.Proofs.YtannfageakbpmaaGreat
open Go Go.Vm Go.Proofs Go.Cl
set_option maxRecDepth 100000
def partB (q:Prt):Bs:=[bt q.role]++numB q.epoch.toNat++[bt q.to,bt q.vs.length]++q.vs.flatMap vaultB
def partsB (s:Sta) (n:Nat):Bs:=(List.range n).flatMap fun i=> partB (s.p i)
def imgB (s:Sta):Bs:=[bt s.mem,bt s.mems]++partsB s 16
theorem partsB_succ (s:Sta) (n:Nat):partsB s (n+1)=partsB s n++partB (s.p n):=by simp[partsB,List.range_succ]
theorem q35z {v:Vault} (hw:v.wf) (hr:rightV v=true):(vaultB v).length≤112:=by
 have h1:=q14z hr
 obtain ⟨w1,w2,w3,w4,w5,w6,w7,w8,w9⟩:=hw
 simp[vaultB];omega
theorem q34z {l:List Vault} (h:∀v∈l,rightV v=true∧v.wf):(l.flatMap vaultB).length≤112 * l.length:=by
 induction l with
 | nil=> simp
 | cons v l ih=>
   have h1:=ih fun w hw=> h w (by simp[hw])
   have h2:=q35z (h v (by simp)).2 (h v (by simp)).1
   simp only[List.flatMap_cons,List.length_append,List.length_cons];omega
theorem partB_len {s:Sta} {i:Nat} {q:Prt} (h:POk s i q):(partB q).length≤459:=by
 have:=q34z (l:=q.vs) fun v hv=>⟨(h.vs v hv).1,(h.vs v hv).2.1⟩
 have:=h.len
 simp only[partB,List.length_append,List.length_cons,List.length_nil,numB_len];omega
theorem q36z {s:Sta} (hk:SOk s):∀n,n≤16→(partsB s n).length≤459 * n
 | 0,_=> by simp[partsB]
 | n+1,hn=> by
   have h1:=q36z hk n (by omega)
   have h2:=partB_len (hk.p n (by omega))
   rw[partsB_succ,List.length_append];omega
theorem Bytes_ok (b:Nat) (h:Hp) (m:Nat) (s:Sta) (F:List Nat) (hs:STR h m s F) (hk:SOk s):run fns pr b 16 [.ptr m [0] 1] h=some (.imm false none ((imgB s).map byteV),h):=by
 refine Vm.runP (nt:=72) rfl fit16 (by simp) ?_
 have hwho:=fun b=> Who_ok b h m s F hs
 have N0:New h (h++[.cells none [byteV (bt s.mem),byteV (bt s.mems)]]) (.ref h.length [] none 0 2 2) ([bt s.mem,bt s.mems]++partsB s 0):=⟨h.length,.inr ⟨rfl,get_app0 _ _⟩,Nat.le_refl _,Fw.app _ _ _⟩
 simp only[B16,B16R0,B16L0,B16L2,hwho,bt_v,go_sem,↓reduceIte,Nat.reduceEqDiff,Nat.reduceBEq,Nat.reduceAdd,Nat.reduceSub,Nat.reduceLT,Nat.reduceLeDiff,Int.reduceLT,Int.reduceLE,Int.reduceEq,Int.reduceToNat]
 refine wp_for (fun q e H=>∃(i:Nat) (v:V),q=16 - i∧i≤16∧e 27= .s (.int .i64 (i:Nat))∧e 0= .ptr m [0] 1∧e 5=v∧New h H v ([bt s.mem,bt s.mems]++partsB s i))
   (fun e H=>∃v,e 5=v∧New h H v ([bt s.mem,bt s.mems]++partsB s 16)) 16 _ _ ⟨0,_,rfl,by omega,rfl,rfl,rfl,N0⟩ ?_ ?_
 ·rintro q e H ⟨i,v,rfl,hi,e27,e0,e5,N⟩
  by_cases cd:i < 16
  ·have cj:(i:Int)< 16:=by omega
   have w3:IntKind.i64.wrap ((i:Int)+1)=((i+1:Nat):Int):=q18z (by omega)
   have ok:=hk.p i cd
   have hpl:=q36z hk i (by omega)
   have hbl:=q34z (l:=(s.p i).vs) fun v hv=>⟨(ok.vs v hv).1,(ok.vs v hv).2.1⟩
   have ho4:=ok.len
   have hsH:STR H m s F:=hs.mono N.fw (by simp)
   have r1:=fun b=> Role_ok b H m i s F hsH cd
   have r2:=fun b=> SVaults_ok b H m i s F hsH hk cd
   obtain ⟨ep,hep⟩:∃n:Nat,(s.p i).epoch=n:=⟨(s.p i).epoch.toNat,by have:=ok.e1;omega⟩
   have hep2:ep < 18446744073709551616:=by have:=ok.e2;omega
   have hle:=N.fw.len
   obtain ⟨v1,H1,a1,N1⟩:=(N.mono (Fw.app [] H [.cells none [byteV (bt (s.p i).role)]])).app (y:= .ref H.length [] none 0 1 1) (m:=[bt (s.p i).role]) (BR.src (BR_ref (by simp) rfl)) (by simp;omega)
   have hl1:h.length≤H1.length:=N1.fw.len
   have n1:=Number_ok h.length H1 ep hep2 hl1
   obtain ⟨v2,H2,a2,N2⟩:=(N1.mono (Fw.app [] H1 [.cells none ((numB ep).map byteV)])).app (y:= .ref H1.length [] none 0 8 8) (m:=numB ep) (BR.src (BR_ref (by simp) (numB_len _))) (by simp;omega)
   obtain ⟨v3,H3,a3,N3⟩:=(N2.mono (Fw.app [] H2 [.cells none [byteV (bt (s.p i).to),byteV (bt (s.p i).vs.length)]])).app (y:= .ref H2.length [] none 0 2 2) (m:=[bt (s.p i).to,bt (s.p i).vs.length]) (BR.src (BR_ref (by simp) rfl)) (by simp;omega)
   have hlx:∀cf base H,opV cf base H .len [.imm false (some 31) ((s.p i).vs.map Vault.enc)]=some (.s (.int .i64 ((s.p i).vs.length:Nat)),H):=fun cf base H=> by rw[o_lenI];simp
   rw[hep] at r1
   simp only[e27,e0,e5,cj,r1,r2,bt_v,a1,n1,a2,a3,hlx,go_sem,↓reduceIte,Nat.reduceEqDiff,Nat.reduceBEq,Nat.reduceAdd,Nat.reduceSub,Nat.reduceLT,Nat.reduceLeDiff,Int.reduceLT,Int.reduceLE,Int.reduceEq,Int.reduceToNat]
   generalize hb0:[bt s.mem,bt s.mems]++partsB s i++[bt (s.p i).role]++numB ep++[bt (s.p i).to,bt (s.p i).vs.length]=base0 at N3
   have hb0l:base0.length≤8000:=by rw[←hb0];simp;omega
   have hend:base0++(s.p i).vs.flatMap vaultB=[bt s.mem,bt s.mems]++partsB s (i+1):=by
     rw[←hb0,partsB_succ,partB,hep]
     simp
   have hvs:=ok.vs
   generalize (s.p i).vs=vaults at *
   refine wp_for (fun q e H=>∃(j:Nat) (v:V),q=vaults.length - j∧j≤vaults.length∧e 57= .s (.int .i64 (j:Nat))∧e 56= .s (.int .i64 (vaults.length:Nat))∧e 55= .imm false (some 31) (vaults.map Vault.enc)∧e 27= .s (.int .i64 (i:Nat))∧e 0= .ptr m [0] 1∧e 5=v∧New h H v (base0++(vaults.take j).flatMap vaultB))
     (fun e H=>∃v,e 27= .s (.int .i64 (i:Nat))∧e 0= .ptr m [0] 1∧e 5=v∧New h H v (base0++vaults.flatMap vaultB)) vaults.length _ _ ⟨0,v3,rfl,by omega,rfl,rfl,rfl,e27,e0,rfl,by simpa using N3⟩ ?_ ?_
   ·rintro q e H ⟨j,v,rfl,hj,e57,e56,e55,e27,e0,e5,N⟩
    by_cases cv:j < vaults.length
    ·have cj:(j:Int)<((vaults.length:Nat):Int):=by omega
     have hjv:vaults[j]? =some vaults[j]:=List.getElem?_eq_getElem cv
     have hsr:SR H (.imm false (some 31) (vaults.map Vault.enc)) (some 31) (vaults.map Vault.enc):= .inl ⟨false,rfl⟩
     have i1:=fun cf base=> hsr.o_ias (cf:=cf) (base:=base) (k:= .i64) (i:=j) (by simpa using cv)
     have i2:=fun cf base=> hsr.o_ld (cf:=cf) (base:=base) (i:=j) (v:=vaults[j].enc) (by rw[List.getElem?_map,hjv];rfl) rfl
     have hle:=N.fw.len
     obtain ⟨m1,m2,_⟩:=hvs _ (List.getElem_mem cv)
     have hvb:=q35z m2 m1
     have hp:=fun h0=> Vault_ok h.length h0 false vaults[j] m2
     rw[←Vault.enc_F,m1,if_pos rfl] at hp
     have hfj:=q34z (l:=vaults.take j) fun v hv=>⟨(hvs v (List.mem_of_mem_take hv)).1,(hvs v (List.mem_of_mem_take hv)).2.1⟩
     obtain ⟨v5,H5,a5,N5⟩:=(N.mono (Fw.app [] H [.cells (some 31) [vaults[j].enc]])).app (y:= .imm false none ((vaultB vaults[j]).map byteV)) (m:=vaultB vaults[j]) rfl (by rw[List.length_take] at hfj;simp only[List.length_append];omega)
     have hnx:base0++(vaults.take j).flatMap vaultB++vaultB vaults[j]=base0++(vaults.take (j+1)).flatMap vaultB:=by
       rw[List.take_succ_eq_append_getElem cv,List.flatMap_append];simp
     rw[hnx] at N5
     have w3:IntKind.i64.wrap ((j:Int)+1)=((j+1:Nat):Int):=q17z (by omega)
     simp only[e57,e56,e55,e27,e0,e5,cj,i1,i2,hle,enc_tyV,enc_soV,hp,a5,w3,go_sem,↓reduceIte,Nat.reduceEqDiff,Nat.reduceBEq,Nat.reduceAdd,Nat.reduceSub,Nat.reduceLT,Nat.reduceLeDiff,Int.reduceLT,Int.reduceLE,Int.reduceEq,Int.reduceToNat]
     exact ⟨vaults.length - (j+1),by omega,j+1,v5,rfl,by omega,rfl,rfl,N5⟩
    ·have cj:¬(j:Int)<((vaults.length:Nat):Int):=by omega
     obtain rfl:j=vaults.length:=by omega
     rw[List.take_of_length_le (Nat.le_refl _)] at N
     simp only[e57,e56,e55,e27,e0,e5,cj,go_sem,↓reduceIte,Nat.reduceEqDiff,Nat.reduceBEq,Nat.reduceAdd,Nat.reduceSub,Nat.reduceLT,Nat.reduceLeDiff,Int.reduceLT,Int.reduceLE,Int.reduceEq,Int.reduceToNat]
     exact ⟨v,rfl,N⟩
   ·rintro e H ⟨v,e27,e0,e5,N⟩
    rw[hend] at N
    simp only[e27,e0,e5,w3,go_sem,↓reduceIte,Nat.reduceEqDiff,Nat.reduceBEq,Nat.reduceAdd,Nat.reduceSub,Nat.reduceLT,Nat.reduceLeDiff,Int.reduceLT,Int.reduceLE,Int.reduceEq,Int.reduceToNat]
    exact ⟨16 - (i+1),by omega,i+1,v,rfl,by omega,rfl,rfl,N⟩
  ·have cj:¬(i:Int)< 16:=by omega
   obtain rfl:i=16:=by omega
   simp only[e27,e0,e5,cj,go_sem,↓reduceIte,Nat.reduceEqDiff,Nat.reduceBEq,Nat.reduceAdd,Nat.reduceSub,Nat.reduceLT,Nat.reduceLeDiff,Int.reduceLT,Int.reduceLE,Int.reduceEq,Int.reduceToNat]
   exact ⟨v,rfl,N⟩
 ·rintro e H ⟨v,e5,N⟩
  have hfz:=N.frz (n:=h.length) (by simp)
  have htk:=N.fw.take
  simp only[e5,hfz,htk,imgB,go_sem,↓reduceIte,Nat.reduceEqDiff,Nat.reduceBEq,Nat.reduceAdd,Nat.reduceSub,Nat.reduceLT,Nat.reduceLeDiff,Int.reduceLT,Int.reduceLE,Int.reduceEq,Int.reduceToNat]
structure Dev where
 mem:Int
 mems:Int
 key:Bs
 is:Int
 st:Sta
 dk:Dk
 r:Register
 steps:Int
 fuse:Int
 torn:Int
def Dev.down (D:Dev) (t:Int):Dev:= {D with is:=2,fuse:= -1,dk:=D.dk.crash t}
def Dev.step (D:Dev):Bool×Dev:=if D.fuse=0 then (false,D.down D.torn) else (true, {D with fuse:=if 0 < D.fuse then D.fuse - 1 else D.fuse,steps:=D.steps+1})
def Dev.put (D:Dev) (n:Int) (l:Bs):Dev:= {D with dk:=if Dk.takes n l=true then D.dk.put n.toNat l else D.dk}
def Dev.lay (D:Dev) (n:Int) (l:Bs):Bool×Dev:=
 if D.step.1=false then (false,D.step.2) else if (D.step.2.put n l).step.1=false then (false,(D.step.2.put n l).step.2)
 else (true, {(D.step.2.put n l).step.2 with dk:=(D.step.2.put n l).step.2.dk.sync})
def devV (D:Dev) (sp:V) (did:Nat):List V:=[.st 71 [.s (.int .i64 D.mem),.s (.int .i64 D.mems),.arr 25 (D.key.map byteV),.s (.int .i64 D.is),sp,.ptr did [0] 1,D.r.enc,.s (.int .i64 D.steps),.s (.int .i64 D.fuse),.s (.int .i64 D.torn)]]
structure DVP (h:Hp) (id:Nat) (D:Dev) (F:List Nat) (did:Nat) (sp:V) (sid:Nat) (Fs:List Nat):Prop where
 o:h[id]? =some (.cells (some 71) (devV D sp did))
 d:Dsk.DR h did D.dk
 s:D.is=1→sp= .ptr sid [0] 1∧STR h sid D.st Fs
 ty:sp.ty=none
 so:sp.solid=true
 f:F=id::did::Fs
 n1:id≠did
 n2:id∉Fs
 n3:did∉Fs
 fl:∀j∈F,j < h.length
 kl:D.key.length=16
def DVR (h:Hp) (id:Nat) (D:Dev) (F:List Nat):Prop:=∃did sp sid Fs,DVP h id D F did sp sid Fs
theorem DVP.mono {S F Fs:List Nat} {h h':Hp} {id did sid:Nat} {D:Dev} {sp:V} (hd:DVP h id D F did sp sid Fs) (f:Fw S h h') (hS:∀j∈F,j∉S):DVP h' id D F did sp sid Fs:=by
 obtain ⟨o,d,s,ty,so,rfl,n1,n2,n3,fl,kl⟩:=hd
 exact ⟨f.old _ _ o (hS _ (by simp)),d.mono f (hS _ (by simp)),fun hi=>⟨(s hi).1,(s hi).2.mono f fun j hj=> hS _ (by simp[hj])⟩,ty,so,rfl,n1,n2,n3,fun j hj=> f.lt (fl j hj),kl⟩
theorem DVR.mono {S F:List Nat} {h h':Hp} {id:Nat} {D:Dev} (hd:DVR h id D F) (f:Fw S h h') (hS:∀j∈F,j∉S):DVR h' id D F:=by
 obtain ⟨did,sp,sid,Fs,hd⟩:=hd
 exact ⟨did,sp,sid,Fs,hd.mono f hS⟩
theorem DVR.lt {F:List Nat} {h:Hp} {id:Nat} {D:Dev} (hd:DVR h id D F):∀j∈F,j < h.length:=by
 obtain ⟨did,sp,sid,Fs,hd⟩:=hd
 exact hd.fl
theorem DVR.mem {F:List Nat} {h:Hp} {id:Nat} {D:Dev} (hd:DVR h id D F):id∈F:=by
 obtain ⟨did,sp,sid,Fs,hd⟩:=hd
 rw[hd.f];simp
theorem DVR.app {F:List Nat} {h:Hp} {id:Nat} {D:Dev} (hd:DVR h id D F) (X:Hp):DVR (h++X) id D F:=hd.mono (Fw.app [] h X) (by simp)
theorem DVP.setO {F Fs:List Nat} {h:Hp} {id did sid:Nat} {D D':Dev} {sp:V} (hd:DVP h id D F did sp sid Fs) (h1:D'.dk=D.dk) (h2:D'.is=1→D.is=1∧D'.st=D.st) (h3:D'.key.length=16):
 DVP (h.set id (.cells (some 71) (devV D' sp did))) id D' F did sp sid Fs∧Fw F h (h.set id (.cells (some 71) (devV D' sp did))):=by
 have f:Fw [id] h (h.set id (.cells (some 71) (devV D' sp did))):=Fw.set (by simp) hd.o
 obtain ⟨o,d,s,ty,so,rfl,n1,n2,n3,fl,kl⟩:=hd
 refine ⟨⟨q9z o,by rw[h1];exact d.mono f (by simp[Ne.symm n1]),fun hi=> ?_,ty,so,rfl,n1,n2,n3,fun j hj=> f.lt (fl j hj),h3⟩,f.mono (by simp)⟩
 obtain ⟨a,b⟩:=h2 hi
 obtain ⟨c,e⟩:=s a
 exact ⟨c,by rw[b];exact e.mono f (fun j hj=> by simp;rintro rfl;exact n2 hj)⟩
theorem DVP.setD {F Fs:List Nat} {h h':Hp} {id did sid:Nat} {D:Dev} {sp:V} {K:Dk} (hd:DVP h id D F did sp sid Fs) (hk:Dsk.DR h' did K) (f:Fw [did] h h'):
 DVP h' id {D with dk:=K} F did sp sid Fs∧Fw F h h':=by
 obtain ⟨o,d,s,ty,so,rfl,n1,n2,n3,fl,kl⟩:=hd
 exact ⟨⟨f.old _ _ o (by simp[n1]),hk,fun hi=>⟨(s hi).1,(s hi).2.mono f (fun j hj=> by simp;rintro rfl;exact n3 hj)⟩,ty,so,rfl,n1,n2,n3,fun j hj=> f.lt (fl j hj),kl⟩,f.mono (by simp)⟩
theorem down_ok (b:Nat) (h:Hp) (id:Nat) (D:Dev) (F:List Nat) (t:Int) (hF:∀j∈F,b≤j) (hd:DVR h id D F):
 ∃v h',run fns pr b 43 [.ptr id [0] 1,.s (.int .i64 t)] h=some (v,h')∧v= .tup []∧DVR h' id (D.down t) F∧Fw F h h':=by
 obtain ⟨did,sp,sid,Fs,hd⟩:=hd
 refine Vm.runQ (nt:=16) rfl fit43 (by simp) ?_
 obtain ⟨h1,f1⟩:=hd.setO (D':= {D with is:=2,fuse:= -1}) rfl (fun h=> by cases h) hd.kl
 have hb1:b≤id:=hF _ (by rw[hd.f];simp)
 have hb2:b≤did:=hF _ (by rw[hd.f];simp)
 obtain ⟨v2,H2,hc,rfl,d2,f2⟩:=Dsk.Crash_ok b _ did D.dk t hb2 h1.d
 obtain ⟨h3,f3⟩:=h1.setD d2 f2
 have hg:=hd.o
 have hgs:∀B,(h.set id B)[id]? =some B:=fun B=> q9z hg
 have hlt:=q6z hg
 have hty:=hd.ty
 have hso:=hd.so
 simp only[devV,Dsk.R] at hg hc
 simp only[B43,hg,hgs,hb1,hlt,List.set_set,hty,hso,hc,go_sem,↓reduceIte,Nat.reduceEqDiff,Nat.reduceBEq,Nat.reduceAdd,Nat.reduceSub,Nat.reduceLT,Nat.reduceLeDiff,Int.reduceLT,Int.reduceLE,Int.reduceEq,Int.reduceToNat]
 exact ⟨⟨did,sp,sid,Fs,h3⟩,f1.trans f3⟩
theorem step_ok (b:Nat) (h:Hp) (id:Nat) (D:Dev) (F:List Nat) (hF:∀j∈F,b≤j) (hd:DVR h id D F) (hs:0≤D.steps∧D.steps < 4611686018427387904) (hfu:D.fuse≤9223372036854775807):
 ∃v h',run fns pr b 32 [.ptr id [0] 1] h=some (v,h')∧v= .s (.bool D.step.1)∧DVR h' id D.step.2 F∧Fw F h h':=by
 have hdn:=down_ok b h id D F D.torn hF hd
 obtain ⟨did,sp,sid,Fs,hd⟩:=hd
 refine Vm.runQ (nt:=33) rfl fit32 (by simp) ?_
 have hg:=hd.o
 have hgs:∀B,(h.set id B)[id]? =some B:=fun B=> q9z hg
 have hlt:=q6z hg
 have hty:=hd.ty
 have hso:=hd.so
 have hb1:b≤id:=hF _ (by rw[hd.f];simp)
 have w1:IntKind.i64.wrap (D.steps+1)=D.steps+1:=wrap_i64 (by omega) (by omega)
 simp only[devV] at hg
 unfold Dev.step
 by_cases c0:D.fuse=0
 ·rw[if_pos c0]
  obtain ⟨v2,H2,e2,rfl,d2,f2⟩:=hdn
  simp only[B32,hg,hgs,hb1,hlt,List.set_set,hty,hso,c0,e2,go_sem,↓reduceIte,Nat.reduceEqDiff,Nat.reduceBEq,Nat.reduceAdd,Nat.reduceSub,Nat.reduceLT,Nat.reduceLeDiff,Int.reduceLT,Int.reduceLE,Int.reduceEq,Int.reduceToNat]
  exact ⟨d2,f2⟩
 ·rw[if_neg c0]
  obtain ⟨h1,f1⟩:=hd.setO (D':= {D with fuse:=if 0 < D.fuse then D.fuse - 1 else D.fuse,steps:=D.steps+1}) rfl (fun h=>⟨h,rfl⟩) hd.kl
  by_cases c1:0 < D.fuse
  ·have w2:IntKind.i64.wrap (D.fuse - 1)=D.fuse - 1:=wrap_i64 (by omega) (by omega)
   simp only[c1,if_true,devV] at h1 f1 ⊢
   simp only[B32,hg,hgs,hb1,hlt,List.set_set,hty,hso,c0,c1,w1,w2,go_sem,↓reduceIte,Nat.reduceEqDiff,Nat.reduceBEq,Nat.reduceAdd,Nat.reduceSub,Nat.reduceLT,Nat.reduceLeDiff,Int.reduceLT,Int.reduceLE,Int.reduceEq,Int.reduceToNat]
   exact ⟨⟨did,sp,sid,Fs,h1⟩,f1⟩
  ·simp only[c1,if_false,devV] at h1 f1 ⊢
   simp only[B32,hg,hgs,hb1,hlt,List.set_set,hty,hso,c0,c1,w1,go_sem,↓reduceIte,Nat.reduceEqDiff,Nat.reduceBEq,Nat.reduceAdd,Nat.reduceSub,Nat.reduceLT,Nat.reduceLeDiff,Int.reduceLT,Int.reduceLE,Int.reduceEq,Int.reduceToNat]
   exact ⟨⟨did,sp,sid,Fs,h1⟩,f1⟩
theorem Is_ok (b:Nat) (h:Hp) (id:Nat) (D:Dev) (F:List Nat) (hd:DVR h id D F):run fns pr b 18 [.ptr id [0] 1] h=some (.s (.int .i64 D.is),h):=by
 obtain ⟨did,sp,sid,Fs,hd⟩:=hd
 have hg:=hd.o
 simp only[devV] at hg
 refine Vm.runP (nt:=7) rfl fit18 (by simp) ?_
 simp only[B18,hg,go_sem,↓reduceIte,Nat.reduceEqDiff,Nat.reduceBEq,Nat.reduceAdd,Nat.reduceSub,Nat.reduceLT,Nat.reduceLeDiff,Int.reduceLT,Int.reduceLE,Int.reduceEq,Int.reduceToNat]
theorem Register_ok (b:Nat) (h:Hp) (id:Nat) (D:Dev) (F:List Nat) (hd:DVR h id D F):run fns pr b 12 [.ptr id [0] 1] h=some (D.r.enc,h):=by
 obtain ⟨did,sp,sid,Fs,hd⟩:=hd
 have hg:=fun X=> q10z hd.o X
 simp only[devV] at hg
 refine Vm.runP (nt:=7) rfl fit12 (by simp) ?_
 simp only[B12,hg,Register.enc_ty,Register.enc_so,Register.enc_fr,List.take_left,go_sem,↓reduceIte,Nat.reduceEqDiff,Nat.reduceBEq,Nat.reduceAdd,Nat.reduceSub,Nat.reduceLT,Nat.reduceLeDiff,Int.reduceLT,Int.reduceLE,Int.reduceEq,Int.reduceToNat]
def readyD (D:Dev):Int:=if D.is=2 then 29 else if D.is=3 then 28 else 0
theorem ready_ok (b:Nat) (h:Hp) (id:Nat) (D:Dev) (F:List Nat) (hd:DVR h id D F):run fns pr b 25 [.ptr id [0] 1] h=some (.s (.int .i64 (readyD D)),h):=by
 obtain ⟨did,sp,sid,Fs,hd⟩:=hd
 have hg:=hd.o
 simp only[devV] at hg
 refine Vm.runP (nt:=11) rfl fit25 (by simp) ?_
 unfold readyD
 by_cases c2:D.is=2
 ·simp only[B25,hg,c2,go_sem,↓reduceIte,Nat.reduceEqDiff,Nat.reduceBEq,Nat.reduceAdd,Nat.reduceSub,Nat.reduceLT,Nat.reduceLeDiff,Int.reduceLT,Int.reduceLE,Int.reduceEq,Int.reduceToNat]
  all_goals rfl
 ·by_cases c3:D.is=3
  ·simp only[B25,hg,c2,c3,go_sem,↓reduceIte,Nat.reduceEqDiff,Nat.reduceBEq,Nat.reduceAdd,Nat.reduceSub,Nat.reduceLT,Nat.reduceLeDiff,Int.reduceLT,Int.reduceLE,Int.reduceEq,Int.reduceToNat]
   all_goals rfl
  ·simp only[B25,hg,c2,c3,go_sem,↓reduceIte,Nat.reduceEqDiff,Nat.reduceBEq,Nat.reduceAdd,Nat.reduceSub,Nat.reduceLT,Nat.reduceLeDiff,Int.reduceLT,Int.reduceLE,Int.reduceEq,Int.reduceToNat]
   all_goals rfl
def Dev.setFuse (D:Dev) (n t:Int):Dev:= {D with fuse:=max n (-1),torn:=t}
theorem Fuse_ok (b:Nat) (h:Hp) (id:Nat) (D:Dev) (F:List Nat) (n t:Int) (hF:∀j∈F,b≤j) (hd:DVR h id D F):
 ∃v h',run fns pr b 9 [.ptr id [0] 1,.s (.int .i64 n),.s (.int .i64 t)] h=some (v,h')∧v= .tup []∧DVR h' id (D.setFuse n t) F∧Fw F h h':=by
 obtain ⟨did,sp,sid,Fs,hd⟩:=hd
 refine Vm.runQ (nt:=15) rfl fit9 (by simp) ?_
 have hg:=hd.o
 have hgs:∀B,(h.set id B)[id]? =some B:=fun B=> q9z hg
 have hlt:=q6z hg
 have hb1:b≤id:=hF _ (by rw[hd.f];simp)
 have hty:=hd.ty
 have hso:=hd.so
 obtain ⟨h1,f1⟩:=hd.setO (D':=D.setFuse n t) rfl (fun h=>⟨h,rfl⟩) hd.kl
 simp only[devV] at hg
 simp only[devV,Dev.setFuse] at h1 f1
 simp only[B9,hg,hgs,hb1,hlt,List.set_set,hty,hso,go_sem,↓reduceIte,Nat.reduceEqDiff,Nat.reduceBEq,Nat.reduceAdd,Nat.reduceSub,Nat.reduceLT,Nat.reduceLeDiff,Int.reduceLT,Int.reduceLE,Int.reduceEq,Int.reduceToNat]
 exact ⟨⟨did,sp,sid,Fs,h1⟩,f1⟩
def Dev.stop (D:Dev):Dev:=if D.is=1 then D.down 0 else D
theorem Stop_ok (b:Nat) (h:Hp) (id:Nat) (D:Dev) (F:List Nat) (hF:∀j∈F,b≤j) (hd:DVR h id D F):
 ∃v h',run fns pr b 17 [.ptr id [0] 1] h=some (v,h')∧v= .tup []∧DVR h' id D.stop F∧Fw F h h':=by
 have hdn:=down_ok b h id D F 0 hF hd
 have hd0:=hd
 obtain ⟨did,sp,sid,Fs,hd⟩:=hd
 have hg:=hd.o
 simp only[devV] at hg
 refine Vm.runQ (nt:=9) rfl fit17 (by simp) ?_
 unfold Dev.stop
 by_cases c:D.is=1
 ·rw[if_pos c]
  obtain ⟨v2,H2,e2,rfl,d2,f2⟩:=hdn
  simp only[B17,hg,c,e2,go_sem,↓reduceIte,Nat.reduceEqDiff,Nat.reduceBEq,Nat.reduceAdd,Nat.reduceSub,Nat.reduceLT,Nat.reduceLeDiff,Int.reduceLT,Int.reduceLE,Int.reduceEq,Int.reduceToNat]
  exact ⟨d2,f2⟩
 ·rw[if_neg c]
  simp only[B17,hg,c,go_sem,↓reduceIte,Nat.reduceEqDiff,Nat.reduceBEq,Nat.reduceAdd,Nat.reduceSub,Nat.reduceLT,Nat.reduceLeDiff,Int.reduceLT,Int.reduceLE,Int.reduceEq,Int.reduceToNat]
  exact ⟨hd0,Fw.refl _ _⟩
structure DOk (p:Nat) (N:Int) (D:Dev):Prop where
 pend:D.dk.pend≤p
 s0:0≤D.steps
 s1:D.steps≤N
 f1:D.fuse≤9223372036854775807
 gr:rightG D.r=true
 gw:D.r.wf
 so:D.is=1→SOk D.st
 is:D.is=1∨D.is=2∨D.is=3
theorem DOk.wk {p p':Nat} {N N':Int} {D:Dev} (hk:DOk p N D) (h1:p≤p') (h2:N≤N'):DOk p' N' D:=
 ⟨Nat.le_trans hk.pend h1,hk.s0,Int.le_trans hk.s1 h2,hk.f1,hk.gr,hk.gw,hk.so,hk.is⟩
theorem DOk.down {p:Nat} {N:Int} {D:Dev} (hk:DOk p N D) (t:Int):DOk 0 N (D.down t):=
 ⟨Nat.le_refl _,hk.s0,hk.s1,by simp[Dev.down],hk.gr,hk.gw,fun h=> by simp[Dev.down] at h,.inr (.inl rfl)⟩
theorem DOk.step {p:Nat} {N:Int} {D:Dev} (hk:DOk p N D):DOk p (N+1) D.step.2:=by
 unfold Dev.step
 by_cases c:D.fuse=0
 ·rw[if_pos c]
  exact (hk.down D.torn).wk (by omega) (by omega)
 ·rw[if_neg c]
  obtain ⟨h1,h2,h3,h4,h5,h6,h7,h8⟩:=hk
  exact ⟨h1,by simp only;omega,by simp only;omega,by simp only;split <;> omega,h5,h6,h7,h8⟩
theorem DOk.put {p:Nat} {N:Int} {D:Dev} (hk:DOk p N D) (n:Int) (l:Bs):DOk (p+1) N (D.put n l):=by
 obtain ⟨h1,h2,h3,h4,h5,h6,h7,h8⟩:=hk
 refine ⟨?_,h2,h3,h4,h5,h6,h7,h8⟩
 unfold Dev.put
 simp only
 split
 ·simp only[Dk.put];omega
 ·omega
theorem DOk.sync {p:Nat} {N:Int} {D:Dev} (hk:DOk p N D):DOk 0 N {D with dk:=D.dk.sync}:=by
 obtain ⟨h1,h2,h3,h4,h5,h6,h7,h8⟩:=hk
 exact ⟨Nat.le_refl _,h2,h3,h4,h5,h6,h7,h8⟩
theorem DOk.stepF {p:Nat} {N:Int} {D:Dev} (hk:DOk p N D) (hf:D.step.1=false):DOk 0 N D.step.2:=by
 unfold Dev.step at hf ⊢
 by_cases c:D.fuse=0
 ·rw[if_pos c]
  exact hk.down D.torn
 ·rw[if_neg c] at hf;cases hf
theorem DOk.lay {N:Int} {D:Dev} (hk:DOk 0 N D) (n:Int) (l:Bs):DOk 0 (N+2) (D.lay n l).2:=by
 unfold Dev.lay
 have k1:=hk.step
 cases c1:D.step.1 with
 | false=>
   rw[if_pos rfl]
   exact k1.wk (by omega) (by omega)
 | true=>
   rw[if_neg (by simp)]
   have k2:=k1.put n l
   have k3:=k2.step
   cases c3:(D.step.2.put n l).step.1 with
   | false=>
     rw[if_pos rfl]
     exact (k2.stepF c3).wk (by omega) (by omega)
   | true=>
     rw[if_neg (by simp)]
     have:=k3.sync
     rwa [show N+1+1=N+2 by omega] at this
def Dev.same (D E:Dev):Prop:=E.mem=D.mem∧E.mems=D.mems∧E.key=D.key∧E.st=D.st∧E.r=D.r
theorem Dev.step_same (D:Dev):D.same D.step.2∧(D.step.1=true→D.step.2.is=D.is):=by
 unfold Dev.step Dev.same
 by_cases c:D.fuse=0
 ·simp[c,Dev.down]
 ·simp[c]
theorem Dev.lay_same (D:Dev) (n:Int) (l:Bs):D.same (D.lay n l).2∧((D.lay n l).1=true→(D.lay n l).2.is=D.is):=by
 unfold Dev.lay
 obtain ⟨⟨a1,a2,a3,a4,a5⟩,a6⟩:=Dev.step_same D
 cases c1:D.step.1 with
 | false=>
   rw[if_pos rfl]
   exact ⟨⟨a1,a2,a3,a4,a5⟩,fun h=> by cases h⟩
 | true=>
   rw[if_neg (by simp)]
   obtain ⟨⟨b1,b2,b3,b4,b5⟩,b6⟩:=Dev.step_same (D.step.2.put n l)
   have hs:D.same (D.step.2.put n l).step.2:=⟨b1.trans a1,b2.trans a2,b3.trans a3,b4.trans a4,b5.trans a5⟩
   cases c3:(D.step.2.put n l).step.1 with
   | false=>
     rw[if_pos rfl]
     exact ⟨hs,fun h=> by cases h⟩
   | true=>
     rw[if_neg (by simp)]
     exact ⟨hs,fun _=>(b6 c3).trans (a6 c1)⟩
theorem Put_dev (b:Nat) (h:Hp) (id:Nat) (D:Dev) (F:List Nat) (did:Nat) (sp:V) (sid:Nat) (Fs:List Nat) (n:Int) (y:V) (l:Bs) (hF:∀j∈F,b≤j) (hd:DVP h id D F did sp sid Fs) (hy:BR h y l) (hl:l.length≤140737488355328) (hp:D.dk.pend < 4611686018427387904):
 ∃h',run fns pr b 61 [.ptr did [0] 1,.s (.int .i64 n),y] h=some (.s (.bool (Dk.takes n l)),h')∧DVP h' id (D.put n l) F did sp sid Fs∧Fw F h h':=by
 have hb2:b≤did:=hF _ (by rw[hd.f];simp)
 obtain ⟨v,h',e,rfl,d,f⟩:=Dsk.Put_ok b h did D.dk n y l hb2 hd.d hy hl hp
 obtain ⟨h3,f3⟩:=hd.setD d f
 exact ⟨h',e,h3,f3⟩
theorem Sync_dev (b:Nat) (h:Hp) (id:Nat) (D:Dev) (F:List Nat) (did:Nat) (sp:V) (sid:Nat) (Fs:List Nat) (hF:∀j∈F,b≤j) (hd:DVP h id D F did sp sid Fs):
 ∃h',run fns pr b 62 [.ptr did [0] 1] h=some (.tup [],h')∧DVP h' id {D with dk:=D.dk.sync} F did sp sid Fs∧Fw F h h':=by
 have hb2:b≤did:=hF _ (by rw[hd.f];simp)
 obtain ⟨v,h',e,rfl,d,f⟩:=Dsk.Sync_ok b h did D.dk hb2 hd.d
 obtain ⟨h3,f3⟩:=hd.setD d f
 exact ⟨h',e,h3,f3⟩
theorem Lay_ok (b:Nat) (h:Hp) (id:Nat) (D:Dev) (F:List Nat) (n:Int) (y:V) (l:Bs) (hF:∀j∈F,b≤j) (hd:DVR h id D F) (N:Int) (hN:N < 1000000000) (hk:DOk 0 N D) (hy:BR h y l) (hl:l.length≤140737488355328):
 ∃v h',run fns pr b 30 [.ptr id [0] 1,.s (.int .i64 n),y] h=some (v,h')∧v= .s (.bool (D.lay n l).1)∧DVR h' id (D.lay n l).2 F∧Fw F h h':=by
 refine Vm.runQ (nt:=25) rfl fit30 (by simp) ?_
 have k1:=hk.step
 obtain ⟨v1,H1,e1,rfl,d1,f1⟩:=step_ok b h id D F hF hd ⟨hk.s0,by have:=hk.s1;omega⟩ hk.f1
 unfold Dev.lay
 cases c1:D.step.1 with
 | false=>
   rw[c1] at e1
   rw[if_pos rfl]
   simp only[B30,e1,go_sem,↓reduceIte,Nat.reduceEqDiff,Nat.reduceBEq,Nat.reduceAdd,Nat.reduceSub,Nat.reduceLT,Nat.reduceLeDiff,Int.reduceLT,Int.reduceLE,Int.reduceEq,Int.reduceToNat]
   exact ⟨d1,f1⟩
 | true=>
   rw[c1] at e1
   rw[if_neg (by simp)]
   generalize D.step.2=D1 at *
   obtain ⟨did,sp,sid,Fs,p1⟩:=d1
   have hg1:=p1.o
   simp only[devV] at hg1
   obtain ⟨H2,e2,p2,f2⟩:=Put_dev b H1 id D1 F did sp sid Fs n y l hF p1 (hy.mono f1) hl (by have:=k1.pend;omega)
   obtain ⟨v3,H3,e3,rfl,d3,f3⟩:=step_ok b H2 id (D1.put n l) F hF ⟨did,sp,sid,Fs,p2⟩ ⟨k1.s0,by have:=k1.s1;show D1.steps < _;omega⟩ k1.f1
   cases c3:(D1.put n l).step.1 with
   | false=>
     rw[c3] at e3
     rw[if_pos rfl]
     simp only[B30,e1,hg1,e2,e3,go_sem,↓reduceIte,Nat.reduceEqDiff,Nat.reduceBEq,Nat.reduceAdd,Nat.reduceSub,Nat.reduceLT,Nat.reduceLeDiff,Int.reduceLT,Int.reduceLE,Int.reduceEq,Int.reduceToNat]
     exact ⟨d3,f1.trans (f2.trans f3)⟩
   | true=>
     rw[c3] at e3
     rw[if_neg (by simp)]
     generalize (D1.put n l).step.2=D3 at *
     obtain ⟨did3,sp3,sid3,Fs3,p3⟩:=d3
     have hg3:=p3.o
     simp only[devV] at hg3
     obtain ⟨H4,e4,p4,f4⟩:=Sync_dev b H3 id D3 F did3 sp3 sid3 Fs3 hF p3
     simp only[B30,e1,hg1,e2,e3,hg3,e4,go_sem,↓reduceIte,Nat.reduceEqDiff,Nat.reduceBEq,Nat.reduceAdd,Nat.reduceSub,Nat.reduceLT,Nat.reduceLeDiff,Int.reduceLT,Int.reduceLE,Int.reduceEq,Int.reduceToNat]
     exact ⟨⟨_,_,_,_,p4⟩,f1.trans (f2.trans (f3.trans f4))⟩
def Dev.img (D:Dev):Bs:=(imageB D.key D.r (imgB D.st)).1
def Dev.fold (D:Dev):Bool×Dev:=
 if (D.lay (1 - D.r.point) D.img).1=false then (false,(D.lay (1 - D.r.point) D.img).2)
 else if (D.lay (1 - D.r.point) D.img).2.step.1=false then (false,(D.lay (1 - D.r.point) D.img).2.step.2)
 else (true, {(D.lay (1 - D.r.point) D.img).2.step.2 with r:=(foldG (D.lay (1 - D.r.point) D.img).2.step.2.r (sumB D.img)).1})
theorem imageB_len (k:Bs) (r:Register) (l:Bs):(imageB k r l).1.length≤8192:=by
 unfold imageB
 split
 ·simp
 ·rw[sealB_len _ _ _ _ (by omega) (by decide)];omega
theorem fold_ok (b:Nat) (h:Hp) (id:Nat) (D:Dev) (F:List Nat) (hF:∀j∈F,b≤j) (hd:DVR h id D F) (N:Int) (hN:N < 1000000000 - 10) (hk:DOk 0 N D) (hi:D.is=1):
 ∃v h',run fns pr b 35 [.ptr id [0] 1] h=some (v,h')∧v= .s (.bool D.fold.1)∧DVR h' id D.fold.2 F∧Fw F h h':=by
 have hd0:=hd
 obtain ⟨did,sp,sid,Fs,hd⟩:=hd
 obtain ⟨hsp,hst⟩:=hd.s hi
 have hby:=fun b=> Bytes_ok b h sid D.st Fs hst (hk.so hi)
 have hjs:=fun b=> JSeal_ok b h (.imm false none ((imgB D.st).map byteV)) D.key (imgB D.st) D.r hd.kl hk.gw (BR_imm _ _ _)
 have hpt:D.r.point=0∨D.r.point=1:=(q11z hk.gr).2.2.2.2.1
 have hro:=fun b H=> Room_ok b H D.r hpt
 have hil:=imageB_len D.key D.r (imgB D.st)
 obtain ⟨v1,H1,e1,rfl,d1,f1⟩:=Lay_ok b h id D F (1 - D.r.point) (.imm false none (D.img.map byteV)) D.img hF hd0 N (by omega) hk (BR_imm _ _ _) (by unfold Dev.img;omega)
 have k1:=hk.lay (1 - D.r.point) D.img
 obtain ⟨v2,H2,e2,rfl,d2,f2⟩:=step_ok b H1 id _ F hF d1 ⟨k1.s0,by have:=k1.s1;omega⟩ k1.f1
 have k2:=k1.step
 have s1:=(Dev.lay_same D (1 - D.r.point) D.img).1
 have s2:=(Dev.step_same (D.lay (1 - D.r.point) D.img).2).1
 have hg:=hd.o
 have hkl:(D.key.map byteV).length=16:=by simp[hd.kl]
 refine Vm.runQ (nt:=49) rfl fit35 (by simp) ?_
 unfold Dev.fold
 have him:(imageB D.key D.r (imgB D.st)).1=D.img:=rfl
 rw[him] at hjs
 simp only[devV,hsp] at hg
 generalize (D.lay (1 - D.r.point) D.img)=L at *
 cases c1:L.1 with
 | false=>
   rw[c1] at e1
   rw[if_pos rfl]
   simp only[B35,hg,hby,hjs,hro,e1,ty_dig,Register.enc_ty,Register.enc_so,go_sem,↓reduceIte,Nat.reduceEqDiff,Nat.reduceBEq,Nat.reduceAdd,Nat.reduceSub,Nat.reduceLT,Nat.reduceLeDiff,Int.reduceLT,Int.reduceLE,Int.reduceEq,Int.reduceToNat]
   exact ⟨d1,f1⟩
 | true=>
   rw[c1] at e1
   rw[if_neg (by simp)]
   cases c2:L.2.step.1 with
   | false=>
     rw[c2] at e2
     rw[if_pos rfl]
     simp only[B35,hg,hby,hjs,hro,e1,ty_dig,Register.enc_ty,Register.enc_so,e2,go_sem,↓reduceIte,Nat.reduceEqDiff,Nat.reduceBEq,Nat.reduceAdd,Nat.reduceSub,Nat.reduceLT,Nat.reduceLeDiff,Int.reduceLT,Int.reduceLE,Int.reduceEq,Int.reduceToNat]
     exact ⟨d2,f1.trans f2⟩
   | true=>
     rw[c2] at e2
     rw[if_neg (by simp)]
     generalize L.2.step.2=D3 at *
     obtain ⟨did3,sp3,sid3,Fs3,p3⟩:=d2
     have hg3:=p3.o
     have hgs:∀B,(H2.set id B)[id]? =some B:=fun B=> q9z hg3
     have hlt:=q6z hg3
     have hb1:b≤id:=hF _ (by rw[hd.f];simp)
     have hty:=p3.ty
     have hso:=p3.so
     have hfi:=fun b=> JFirst_ok b H2 (.imm false none (D.img.map byteV)) D.img (BR_imm _ _ _) (by unfold Dev.img;omega)
     have hfo:=fun b=> Fold_ok b H2 D3.r (sumB D.img) k2.gw (sumB_len _)
     obtain ⟨h4,f4⟩:=p3.setO (D':= {D3 with r:=(foldG D3.r (sumB D.img)).1}) rfl (fun h=>⟨h,rfl⟩) p3.kl
     simp only[devV] at hg3 h4 f4
     simp only[B35,hg,hby,hjs,hro,e1,ty_dig,Register.enc_ty,Register.enc_so,e2,hg3,hgs,hb1,hlt,hty,hso,hfi,hfo,go_sem,↓reduceIte,Nat.reduceEqDiff,Nat.reduceBEq,Nat.reduceAdd,Nat.reduceSub,Nat.reduceLT,Nat.reduceLeDiff,Int.reduceLT,Int.reduceLE,Int.reduceEq,Int.reduceToNat]
     exact ⟨⟨_,_,_,_,h4⟩,f1.trans (f2.trans f4)⟩
def Dev.frame (D:Dev) (r:Record):Bs:=(frameB D.key (D.r.count.toNat+1) D.r.head r).1
def Dev.next (D:Dev) (r:Record):Register×Bool:=nextG D.r (headB D.r.head (D.frame r))
def Dev.put3 (D:Dev) (r:Record):Dev:= {(D.lay (placeG D.r) (D.frame r)).2.step.2 with r:=(D.next r).1,st:=(applyS (D.lay (placeG D.r) (D.frame r)).2.step.2.st r).2}
def Dev.do (D:Dev) (r:Record):Int×Dev:=
 if readyD D≠0 then (readyD D,D)
 else if checkS D.st r≠0 then (checkS D.st r,D)
 else if (D.next r).2=false then (31,D)
 else if (D.lay (placeG D.r) (D.frame r)).1=false then (29,(D.lay (placeG D.r) (D.frame r)).2)
 else if (D.lay (placeG D.r) (D.frame r)).2.step.1=false then (29,(D.lay (placeG D.r) (D.frame r)).2.step.2)
 else if heldG (D.put3 r).r=8 then (if (D.put3 r).fold.1=false then 29 else 0,(D.put3 r).fold.2)
 else (0,D.put3 r)
theorem recB_len {r:Record} (hr:rightR r=true) (hw:r.wf) (hv:∀v∈r.vaults,v.wf):(recB r).length≤1000:=by
 have h4:=right_vs4 hr
 have hvs:r.kind=3→∀v∈r.vaults,rightV v=true∧v.wf:=fun k3 v hm=> by
   have:rising r.vaults=true:=by
     unfold rightR at hr
     rw[k3] at hr
     simp at hr
     exact q32z hr.2
   unfold rising at this
   simp only[Bool.and_eq_true,decide_eq_true_eq,List.all_eq_true] at this
   exact ⟨this.1.2 v hm,hv v hm⟩
 have hv1:r.kind=1→(vaultB r.vault).length≤112:=fun k1=> q35z hw.vault (by unfold rightR at hr;rw[if_pos k1] at hr;simp at hr;simp[hr])
 unfold recB
 split
 ·have:=hv1 (by assumption)
  simp only[List.length_cons];omega
 ·split
  ·simp only[List.length_cons,numB_len];omega
  ·split
   ·have:=q34z (hvs (by assumption))
    simp only[List.length_cons,List.length_append,numB_len];omega
   ·simp only[List.length_cons,numB_len];omega
theorem frame_len (D:Dev) {r:Record} (hw:r.wf) (hv:∀v∈r.vaults,v.wf) (hh:D.r.head.length=16):(D.frame r).length≤8192:=by
 unfold Dev.frame frameB
 split
 ·have:=recB_len (by assumption) hw hv
  rw[sealB_len _ _ _ _ (by omega) (by omega)];omega
 ·simp
theorem DVP.setS {F Fs Fs':List Nat} {h h':Hp} {id did sid:Nat} {D:Dev} {sp:V} {S:Sta} (hd:DVP h id D F did sp sid Fs) (hi:D.is=1) (hs:STR h' sid S Fs') (f:Fw Fs h h') (hn:∀j∈Fs',j∈Fs∨h.length≤j):
 DVP h' id {D with st:=S} (id::did::Fs') did sp sid Fs'∧Fw F h h'∧∀j∈id::did::Fs',j∈F∨h.length≤j:=by
 obtain ⟨o,d,s,ty,so,rfl,n1,n2,n3,fl,kl⟩:=hd
 have l1:=fl id (by simp)
 have l2:=fl did (by simp)
 refine ⟨⟨f.old _ _ o n2,d.mono f n3,fun _=>⟨(s hi).1,hs⟩,ty,so,rfl,n1,fun hm=> ?_,fun hm=> ?_,fun j hj=> ?_,kl⟩,f.mono (fun j hj=> by simp[hj]),fun j hj=> ?_⟩
 ·rcases hn _ hm with h1 | h1
  ·exact n2 h1
  ·omega
 ·rcases hn _ hm with h1 | h1
  ·exact n3 h1
  ·omega
 ·simp only[List.mem_cons] at hj
  rcases hj with rfl | rfl | hj
  ·exact f.lt l1
  ·exact f.lt l2
  ·exact hs.lt _ hj
 ·simp only[List.mem_cons] at hj ⊢
  rcases hj with rfl | rfl | hj
  ·exact .inl (.inl rfl)
  ·exact .inl (.inr (.inl rfl))
  ·rcases hn _ hj with h1 | h1
   ·exact .inl (.inr (.inr h1))
   ·exact .inr h1
theorem q30z {r:Register} {hd:Bs} (hw:r.wf) (hl:hd.length=16) (h:(nextG r hd).2=true):(nextG r hd).1=⟨r.boot,r.count+1,r.base,hd,r.point⟩∧rightG r=true∧rightG (nextG r hd).1=true∧(nextG r hd).1.wf:=by
 unfold nextG soG at h ⊢
 split at h
 ·rename_i c
  rw[if_pos c]
  have:=q11z c.1
  obtain ⟨w1,w2,w3,w4,w5⟩:=hw
  exact ⟨rfl,c.1,c.2,⟨w1,by simp only;omega,w3,hl,w5⟩⟩
 ·cases h
theorem Do_ok (b:Nat) (h:Hp) (id:Nat) (D:Dev) (F:List Nat) (r:Record) (hF:∀j∈F,b≤j) (hd:DVR h id D F) (N:Int) (hN:N < 1000000000 - 20) (hk:DOk 0 N D) (hw:r.wf) (hv:∀v∈r.vaults,v.wf):
 ∃v h',run fns pr b 13 [.ptr id [0] 1,r.enc] h=some (v,h')∧v= .s (.int .i64 (D.do r).1)∧∃F',DVR h' id (D.do r).2 F'∧Fw F h h'∧∀j∈F',j∈F∨h.length≤j:=by
 have hd0:=hd
 have hre:=fun b X=> ready_ok b (h++X) id D F (hd.app X)
 have hty:r.enc.ty=some 41:=rfl
 have hso:r.enc.solid=true:=rfl
 refine Vm.runQ (nt:=97) rfl fit13 (by simp) ?_
 unfold Dev.do
 by_cases c0:readyD D=0
 case neg=>
   rw[if_pos c0]
   simp only[B13,hre,c0,hty,hso,go_sem,↓reduceIte,Nat.reduceEqDiff,Nat.reduceBEq,Nat.reduceAdd,Nat.reduceSub,Nat.reduceLT,Nat.reduceLeDiff,Int.reduceLT,Int.reduceLE,Int.reduceEq,Int.reduceToNat]
   exact ⟨F,hd0.app _,Fw.app _ _ _,fun j hj=> .inl hj⟩
 rw[if_neg (by simp[c0])]
 have hi:D.is=1:=by
   unfold readyD at c0
   have:=hk.is
   split at c0
   ·cases c0
   ·split at c0
    ·cases c0
    ·omega
 obtain ⟨did,sp,sid,Fs,hd⟩:=hd
 have hid:=hd.fl id (by rw[hd.f];simp)
 have hbh:b≤h.length:=by have:=hF id (by rw[hd.f];simp);omega
 have hFl:=hd.fl
 have fA:Fw [] h (h++[Blk.cells (some 41) [r.enc]]):=Fw.app [] h _
 have dA:=hd.mono fA (by simp)
 have gA:(h++[Blk.cells (some 41) [r.enc]])[h.length]? =some (Blk.cells (some 41) [r.enc]):=get_app0 _ _
 have lA:(h++[Blk.cells (some 41) [r.enc]]).length=h.length+1:=by simp
 have hre:=fun b=> hre b [Blk.cells (some 41) [r.enc]]
 generalize hHA:h++[Blk.cells (some 41) [r.enc]]=HA at *
 have hgA:=dA.o
 obtain ⟨hsp,hst⟩:=dA.s hi
 subst hsp
 have hch:=fun b=> Check_ok b HA sid D.st Fs r hst (hk.so hi) hw hv
 simp only[devV] at hgA
 by_cases c1:checkS D.st r=0
 case neg=>
   rw[if_pos c1]
   simp only[B13,hHA,hre,c0,hty,hso,hgA,gA,hch,c1,go_sem,↓reduceIte,Nat.reduceEqDiff,Nat.reduceBEq,Nat.reduceAdd,Nat.reduceSub,Nat.reduceLT,Nat.reduceLeDiff,Int.reduceLT,Int.reduceLE,Int.reduceEq,Int.reduceToNat]
   exact ⟨F,⟨_,_,_,_,dA⟩,fA.mono (by simp),fun j hj=> .inl hj⟩
 rw[if_neg (by simp[c1])]
 have hhl:=hk.gw.head
 have hcl:=q11z hk.gr
 have hcw:=hk.gw.count
 have hfr:=fun b=> FSeal_ok b HA D.key D.r.head (D.r.count.toNat+1) r hd.kl hhl (by omega) hw hv
 have hw1:IntKind.u64.wrap (D.r.count+1)=((D.r.count.toNat+1:Nat):Int):=by rw[wrap_u64 (by omega) (by omega)];omega
 have hfl:=frame_len D hw hv hhl
 have hfre:(frameB D.key (D.r.count.toNat+1) D.r.head r).1=D.frame r:=rfl
 rw[hfre] at hfr
 have hhd:=fun b H=> FHead_ok b H (.imm false none ((D.frame r).map byteV)) D.r.head (D.frame r) hhl (BR_imm _ _ _) (by omega)
 have hhdl:(headB D.r.head (D.frame r)).length=16:=by simp[headB,keyB,sumB_len]
 have hnx:=fun b H=> Next_ok b H D.r (headB D.r.head (D.frame r)) hk.gw hhdl
 have hnxe:nextG D.r (headB D.r.head (D.frame r))=D.next r:=rfl
 have hnwf:=q30z (hd:=headB D.r.head (D.frame r)) hk.gw hhdl
 rw[hnxe] at hnwf
 simp only[hnxe] at hnx
 have hrenc:∀q:Register,q.enc=V.st 53 [.s (.int .u64 q.boot),.s (.int .u64 q.count),.s (.int .u64 q.base),.arr 25 (q.head.map byteV),.s (.int .i64 q.point)]:=fun q=> rfl
 have hDr:=hrenc D.r
 have hkln:(D.key.map byteV).length=16:=by simp[hd.kl]
 have hor:∀x,(decide (b≤HA.length) || x)=true:=fun x=> by rw[decide_eq_true (by omega)];rfl
 by_cases c2:(D.next r).2=true
 case neg=>
   have c2':(D.next r).2=false:=by simpa using c2
   rw[if_pos c2']
   rw[c2'] at hnx
   rw[hDr] at hgA hnx
   have hgAX:=fun X=> q10z hgA X
   simp only[B13,hHA,hre,c0,hty,hso,hgA,gA,hch,c1,hfr,hw1,hhd,hnx,ty_dig,Register.enc_ty,Register.enc_so,hor,hgAX,go_sem,↓reduceIte,Nat.reduceEqDiff,Nat.reduceBEq,Nat.reduceAdd,Nat.reduceSub,Nat.reduceLT,Nat.reduceLeDiff,Int.reduceLT,Int.reduceLE,Int.reduceEq,Int.reduceToNat]
   exact ⟨F,⟨_,_,_,_,dA.mono (Fw.app [] HA _) (by simp)⟩,(fA.trans (Fw.app [] HA _)).mono (by simp),fun j hj=> .inl hj⟩
 rw[if_neg (by simp[c2])]
 obtain ⟨hn1,hn2,hn3,hn4⟩:=hnwf c2
 rw[c2] at hnx
 have fB:Fw [] HA (HA++[Blk.cells (some 53) [(D.next r).1.enc]]):=Fw.app [] HA _
 have dB:DVR _ id D F:=⟨_,_,_,_,dA.mono fB (by simp)⟩
 have gB0:=fB.old _ _ gA (by simp)
 have gB1:(HA++[Blk.cells (some 53) [(D.next r).1.enc]])[HA.length]? =some (Blk.cells (some 53) [(D.next r).1.enc]):=get_app0 _ _
 have hgB:=(dA.mono fB (by simp)).o
 simp only[devV] at hgB
 have hpl:=fun b H=> Place_ok b H D.r hk.gw
 obtain ⟨v1,H1,e1,rfl,d1,f1⟩:=Lay_ok b _ id D F (placeG D.r) (.imm false none ((D.frame r).map byteV)) (D.frame r) hF dB N (by omega) hk (BR_imm _ _ _) (by omega)
 have k1:=hk.lay (placeG D.r) (D.frame r)
 obtain ⟨v2,H2,e2,rfl,d2,f2⟩:=step_ok b H1 id _ F hF d1 ⟨k1.s0,by have:=k1.s1;omega⟩ k1.f1
 have k2:=k1.step
 have s1:=Dev.lay_same D (placeG D.r) (D.frame r)
 have s2:=Dev.step_same (D.lay (placeG D.r) (D.frame r)).2
 have fAB:=fA.trans fB
 have fh2:Fw F h H2:=(fAB.mono (by simp)).trans (f1.trans f2)
 have hput3:D.put3 r= {(D.lay (placeG D.r) (D.frame r)).2.step.2 with r:=(D.next r).1,st:=(applyS (D.lay (placeG D.r) (D.frame r)).2.step.2.st r).2}:=rfl
 rw[hput3]
 rw[hDr] at hgA hgB hnx hpl
 have hgAX:=fun X=> q10z hgA X
 have hnF:∀j,h.length≤j→j∉F:=fun j hj hm=> by have:=hFl j hm;omega
 have g10:=f1.old _ _ gB0 (hnF _ (Nat.le_refl _))
 have g11:=f1.old _ _ gB1 (hnF _ (by omega))
 have g20:=f2.old _ _ g10 (hnF _ (Nat.le_refl _))
 have g21:=f2.old _ _ g11 (hnF _ (by omega))
 generalize (D.lay (placeG D.r) (D.frame r))=L at *
 generalize hHB:HA++[Blk.cells (some 53) [(D.next r).1.enc]]=HB at *
 have hnfr:=fun n H=> Register.enc_fr n H (D.next r).1
 generalize (D.next r).1=nx at *
 cases c3:L.1 with
 | false=>
   rw[c3] at e1
   rw[if_pos rfl]
   simp only[B13,hHA,hre,c0,hty,hso,hgA,gA,hch,c1,hfr,hw1,hhd,hnx,ty_dig,Register.enc_ty,Register.enc_so,hor,hHB,hgB,hpl,e1,hgAX,go_sem,↓reduceIte,Nat.reduceEqDiff,Nat.reduceBEq,Nat.reduceAdd,Nat.reduceSub,Nat.reduceLT,Nat.reduceLeDiff,Int.reduceLT,Int.reduceLE,Int.reduceEq,Int.reduceToNat]
   exact ⟨F,d1,(fAB.mono (by simp)).trans f1,fun j hj=> .inl hj⟩
 | true=>
   rw[c3] at e1
   rw[if_neg (by simp)]
   cases c4:L.2.step.1 with
   | false=>
     rw[c4] at e2
     rw[if_pos rfl]
     simp only[B13,hHA,hre,c0,hty,hso,hgA,gA,hch,c1,hfr,hw1,hhd,hnx,ty_dig,Register.enc_ty,Register.enc_so,hor,hHB,hgB,hpl,e1,hgAX,e2,go_sem,↓reduceIte,Nat.reduceEqDiff,Nat.reduceBEq,Nat.reduceAdd,Nat.reduceSub,Nat.reduceLT,Nat.reduceLeDiff,Int.reduceLT,Int.reduceLE,Int.reduceEq,Int.reduceToNat]
     exact ⟨F,d2,fh2,fun j hj=> .inl hj⟩
   | true=>
     rw[c4] at e2
     rw[if_neg (by simp)]
     have i3:L.2.step.2.is=1:=by rw[s2.2 c4,s1.2 c3,hi]
     generalize L.2.step.2=D3 at *
     obtain ⟨did3,sp3,sid3,Fs3,p3⟩:=d2
     obtain ⟨hsp3,hst3⟩:=p3.s i3
     subst hsp3
     have hg3:=p3.o
     have hgs:∀B,(H2.set id B)[id]? =some B:=fun B=> q9z hg3
     have hlt:=q6z hg3
     have hb1:b≤id:=hF _ (by rw[hd.f];simp)
     obtain ⟨p4,f4⟩:=p3.setO (D':= {D3 with r:=nx}) rfl (fun h=>⟨h,rfl⟩) p3.kl
     have k3:DOk 0 (N+3) {D3 with r:=nx}:=by
       obtain ⟨z1,z2,z3,z4,z5,z6,z7,z8⟩:=k2
       exact ⟨z1,z2,by simp only;omega,z4,hn3,hn4,z7,z8⟩
     have g31:=f4.old _ _ g20 (hnF _ (Nat.le_refl _))
     obtain ⟨hsp4,hst4⟩:=p4.s i3
     have hFs3:∀j∈Fs3,b≤j:=fun j hj=> hF _ (by rw[p3.f];simp[hj])
     obtain ⟨v5,H5,e5,rfl,Fs5,hst5,f5,hn5⟩:=Apply_ok b _ sid3 D3.st Fs3 r hFs3 hst4 (k2.so i3) hw hv
     obtain ⟨p5,f5',hn5'⟩:=p4.setS i3 hst5 f5 hn5
     have k5:DOk 0 (N+3) {D3 with r:=nx,st:=(applyS D3.st r).2}:=by
       obtain ⟨z1,z2,z3,z4,z5,z6,z7,z8⟩:=k3
       exact ⟨z1,z2,z3,z4,z5,z6,fun h=> apply_ok (z7 h) hw hv,z8⟩
     have hF5:∀j∈id::did3::Fs5,b≤j:=fun j hj=> by
       rcases hn5' j hj with h1 | h1
       ·exact hF j h1
       ·rw[List.length_set] at h1;omega
     have hl2:=fh2.len
     have hn5h:∀j∈id::did3::Fs5,j∈F∨h.length≤j:=fun j hj=> by
       rcases hn5' j hj with h1 | h1
       ·exact .inl h1
       ·rw[List.length_set] at h1;exact .inr (by omega)
     have fh5:=fh2.trans (f4.trans f5')
     have hhe:=fun b=> Held_ok b H5 nx hn4
     have hg5:=p5.o
     simp only[devV] at hg3 hg5 e5
     simp only[devV] at g31
     by_cases c8:heldG nx=8
     ·rw[if_pos c8]
      obtain ⟨v6,H6,e6,rfl,d6,f6⟩:=fold_ok b H5 id _ _ hF5 ⟨_,_,_,_,p5⟩ (N+3) (by omega) k5 i3
      generalize ({D3 with r:=nx,st:=(applyS D3.st r).2}:Dev).fold=Z at *
      have fin:∃F',DVR H6 id Z.2 F'∧Fw F h H6∧∀j∈F',j∈F∨h.length≤j:=⟨_,d6,fh5.new f6 (fun j hj=>(hn5h j hj).symm),hn5h⟩
      cases c9:Z.1 with
      | false=>
        rw[c9] at e6
        simp only[B13,hHA,hre,c0,hty,hso,hgA,gA,hch,c1,hfr,hw1,hhd,hnx,ty_dig,Register.enc_ty,Register.enc_so,hor,hHB,hgB,hpl,e1,hgAX,e2,hg3,hgs,hb1,hlt,g20,g21,g31,e5,hg5,hhe,c8,e6,go_sem,↓reduceIte,Nat.reduceEqDiff,Nat.reduceBEq,Nat.reduceAdd,Nat.reduceSub,Nat.reduceLT,Nat.reduceLeDiff,Int.reduceLT,Int.reduceLE,Int.reduceEq,Int.reduceToNat]
        exact fin
      | true=>
        rw[c9] at e6
        simp only[B13,hHA,hre,c0,hty,hso,hgA,gA,hch,c1,hfr,hw1,hhd,hnx,ty_dig,Register.enc_ty,Register.enc_so,hor,hHB,hgB,hpl,e1,hgAX,e2,hg3,hgs,hb1,hlt,g20,g21,g31,e5,hg5,hhe,c8,e6,go_sem,↓reduceIte,Nat.reduceEqDiff,Nat.reduceBEq,Nat.reduceAdd,Nat.reduceSub,Nat.reduceLT,Nat.reduceLeDiff,Int.reduceLT,Int.reduceLE,Int.reduceEq,Int.reduceToNat]
        exact fin
     ·rw[if_neg c8]
      simp only[B13,hHA,hre,c0,hty,hso,hgA,gA,hch,c1,hfr,hw1,hhd,hnx,ty_dig,Register.enc_ty,Register.enc_so,hor,hHB,hgB,hpl,e1,hgAX,e2,hg3,hgs,hb1,hlt,g20,g21,g31,e5,hg5,hhe,c8,go_sem,↓reduceIte,Nat.reduceEqDiff,Nat.reduceBEq,Nat.reduceAdd,Nat.reduceSub,Nat.reduceLT,Nat.reduceLeDiff,Int.reduceLT,Int.reduceLE,Int.reduceEq,Int.reduceToNat]
      exact ⟨_,⟨_,_,_,_,p5⟩,fh5,hn5h⟩
theorem takeS_n {n:Nat} {m:Bs} (hm:m.length=n) (rest:Bs) (bad:Bool):takeS n (m++rest,bad)=(m,(rest,bad)):=by
 subst hm
 unfold takeS
 rw[if_pos (by simp)]
 simp
theorem takeS_1 (x:UInt8) (rest:Bs) (bad:Bool):takeS 1 (x::rest,bad)=([x],(rest,bad)):=takeS_n (m:=[x]) rfl rest bad
theorem byte0_1 (x:UInt8):byte0 [x]=x.toNat:=rfl
theorem bt_nat {n:Int} (h0:0≤n) (h1:n < 256):(((bt n).toNat:Nat):Int)=n:=by
 obtain ⟨m,rfl⟩:∃m:Nat,n=m:=⟨n.toNat,by omega⟩
 have:∀m:Nat,m < 256→(bt (m:Int)).toNat=m:=by decide+kernel
 rw[this m (by omega)]
theorem u8_mm (x:Nat):(UInt8.ofNat (x % 256)).toNat=x % 256:=by simp
theorem beN_numB (n:Nat) (hn:n < 18446744073709551616):beN (numB n)=n:=by
 have s:∀j,n / 256 ^ j=256 *(n / 256 ^(j+1))+n / 256 ^ j % 256:=fun j=> by
   rw[Nat.pow_succ,←Nat.div_div_eq_div_mul];omega
 have e8:n / 256 ^ 8=0:=Nat.div_eq_of_lt (by omega)
 have e0:n / 256 ^ 0=n:=by simp
 simp only[beN,numB,List.range_succ,List.range_zero,List.nil_append,List.map_append,List.map_cons,List.map_nil,List.cons_append,List.foldl_cons,List.foldl_nil,u8_mm,Nat.reduceSub]
 have s0:=s 0
 have s1:=s 1
 have s2:=s 2
 have s3:=s 3
 have s4:=s 4
 have s5:=s 5
 have s6:=s 6
 have s7:=s 7
 clear s hn
 simp only[Nat.reduceAdd] at s0 s1 s2 s3 s4 s5 s6 s7
 rw[e8] at s7
 generalize n / 256 ^ 0=d0 at *
 generalize n / 256 ^ 1=d1 at *
 generalize n / 256 ^ 2=d2 at *
 generalize n / 256 ^ 3=d3 at *
 generalize n / 256 ^ 4=d4 at *
 generalize n / 256 ^ 5=d5 at *
 generalize n / 256 ^ 6=d6 at *
 generalize n / 256 ^ 7=d7 at *
 omega
theorem flagB_ok (v:Vault) (hr:rightV v=true):flagW (flagB v).toNat=false∧(!decide ((flagB v).toNat=0))=v.gone∧decide ((flagB v).toNat=3)=v.wiped:=by
 unfold rightV at hr
 unfold flagB flagW
 cases hg:v.gone <;> cases hw:v.wiped <;> simp_all <;> decide
theorem vaultS_B (v:Vault) (hw:v.wf) (hr:rightV v=true) (rest:Bs) (bad:Bool):vaultS (vaultB v++rest,bad)=(v,(rest,bad)):=by
 obtain ⟨f1,f2,f3⟩:=flagB_ok v hr
 have hr0:=hr
 unfold rightV at hr
 obtain ⟨w1,w2,w3,w4,w5,w6,w7,w8,w9⟩:=hw
 have hlim:0≤v.limit∧v.limit < 256∧0≤v.used∧v.used < 256∧0≤v.gen∧v.gen < 18446744073709551616∧v.secret.length < 256:=by
   cases hg:v.gone <;> simp_all <;> omega
 obtain ⟨l1,l2,l3,l4,l5,l6,l7⟩:=hlim
 have e1:(((bt v.limit).toNat:Nat):Int)=v.limit:=bt_nat l1 l2
 have e2:(((bt v.used).toNat:Nat):Int)=v.used:=bt_nat l3 l4
 have e3:(bt (v.secret.length:Int)).toNat=v.secret.length:=by have:=bt_nat (n:=(v.secret.length:Int)) (by omega) (by omega);omega
 have e4:((beN (numB v.gen.toNat):Nat):Int)=v.gen:=by rw[beN_numB _ (by omega)];omega
 have q1:=takeS_n (n:=4) (m:=v.iD) (by simpa using w1)
 have q3:=takeS_n (n:=16) (m:=v.pin) (by simpa using w3)
 have q7:=takeS_n (n:=16) (m:=v.owner) (by simpa using w7)
 unfold vaultS vaultB
 simp only[List.append_assoc,List.cons_append,List.nil_append,q1,takeS_n (numB_len _),takeS_1,byte0_1,f1,Bool.or_false,q3,q7,textS,e3,takeS_n (m:=v.secret) rfl,e1,e2,e4,f2,f3]
 rw[hr0]
 simp
theorem vsS_B (l:List Vault) (hw:∀v∈l,v.wf) (hr:∀v∈l,rightV v=true) (rest:Bs) (bad:Bool):∀n,n≤l.length→vsS n (l.flatMap vaultB++rest,bad)=(l.take n,((l.drop n).flatMap vaultB++rest,bad))
 | 0,_=> rfl
 | n+1,hn=> by
   have ih:=vsS_B l hw hr rest bad n (by omega)
   have hd:l.drop n=l[n]::l.drop (n+1):=List.drop_eq_getElem_cons (by omega)
   have hm:l[n]∈l:=List.getElem_mem _
   simp only[vsS]
   rw[ih,hd,List.flatMap_cons,List.append_assoc,vaultS_B _ (hw _ hm) (hr _ hm),List.take_succ_eq_append_getElem (by omega)]
theorem recS_B (r:Record) (hw:r.wf) (hwv:∀v∈r.vaults,v.wf) (hr:rightR r=true):recS (recB r,false)=(r,([],false)):=by
 have hr0:=hr
 obtain ⟨kind,shard,to_,epoch,vault,vaults⟩:=r
 obtain ⟨w1,w2,w3,w4,w5,w6⟩:=hw
 simp only at w1 w2 w3 w4 w5 w6 hwv
 rcases q33z hr with hk | hk | hk | hk
 all_goals simp only at hk;subst hk
 all_goals simp only[rightR,epochB,Int.reduceEq,if_true,if_false,Bool.and_eq_true,decide_eq_true_eq] at hr
 ·obtain ⟨⟨⟨⟨h1,h2⟩,h3⟩,h4⟩,h5⟩:=hr
  obtain rfl:vaults=[]:=List.eq_nil_of_length_eq_zero h5
  subst h2 h3 h4
  have hv:=vaultS_B vault w5 h1 [] false
  rw[List.append_nil] at hv
  simp only[recS,recB,takeS_1,byte0_1,if_true,hv,show (bt 1).toNat=1 from rfl]
 ·obtain ⟨⟨⟨⟨⟨⟨⟨h1,h2⟩,h3⟩,h4⟩,h5⟩,h6⟩,h7⟩,h8⟩:=hr
  obtain rfl:vaults=[]:=List.eq_nil_of_length_eq_zero h8
  subst h5
  have e1:(((bt shard).toNat:Nat):Int)=shard:=bt_nat h3 (by omega)
  have e2:(((bt to_).toNat:Nat):Int)=to_:=bt_nat h6 (by omega)
  have e3:((beN (numB epoch.toNat):Nat):Int)=epoch:=by rw[beN_numB _ (by omega)];omega
  have hn:=takeS_n (numB_len epoch.toNat) [] false
  rw[List.append_nil] at hn
  simp only[recS,recB,takeS_1,byte0_1,if_true,show (bt 2).toNat=2 from rfl,hn,e1,e2,e3,show ((2:Int)=1)=False from by simp,show ((2:Nat)=1)=False from by simp,if_false]
 ·obtain ⟨⟨⟨⟨⟨⟨h1,h2⟩,h3⟩,h4⟩,h5⟩,h6⟩,h8⟩:=hr
  subst h5 h6
  have hrv:∀v∈vaults,rightV v=true:=fun v hv=> by
    unfold risingB at h8
    rw[Bool.and_eq_true,List.all_eq_true] at h8
    obtain ⟨i,hi,rfl⟩:=List.getElem_of_mem hv
    have:=h8.2 i (List.mem_range.2 hi)
    unfold riseAt at this
    rw[Bool.and_eq_true,List.getD,List.getElem?_eq_getElem hi] at this
    exact this.1
  have hl4:vaults.length≤4:=by
    unfold risingB at h8
    rw[Bool.and_eq_true,decide_eq_true_eq] at h8
    exact h8.1
  have e1:(((bt shard).toNat:Nat):Int)=shard:=bt_nat h3 (by omega)
  have e2:(bt (vaults.length:Int)).toNat=vaults.length:=by have:=bt_nat (n:=(vaults.length:Int)) (by omega) (by omega);omega
  have e3:((beN (numB epoch.toNat):Nat):Int)=epoch:=by rw[beN_numB _ (by omega)];omega
  have hm:min vaults.length 5=vaults.length:=by omega
  have hv:=vsS_B vaults hwv hrv [] false vaults.length (Nat.le_refl _)
  rw[List.append_nil,List.take_length,List.drop_length] at hv
  simp only[recS,recB,takeS_1,byte0_1,if_true,show (bt 3).toNat=3 from rfl,takeS_n (numB_len epoch.toNat),e1,e2,e3,hm,hv,show ((3:Int)=1)=False from by simp,show ((3:Nat)=1)=False from by simp,show ((3:Int)=2)=False from by simp,show ((3:Nat)=2)=False from by simp,if_false,List.flatMap_nil,List.append_nil]
 ·obtain ⟨⟨⟨⟨⟨⟨h1,h2⟩,h3⟩,h4⟩,h5⟩,h6⟩,h8⟩:=hr
  obtain rfl:vaults=[]:=List.eq_nil_of_length_eq_zero h8
  subst h5 h6
  have e1:(((bt shard).toNat:Nat):Int)=shard:=bt_nat h3 (by omega)
  have e3:((beN (numB epoch.toNat):Nat):Int)=epoch:=by rw[beN_numB _ (by omega)];omega
  have hn:=takeS_n (numB_len epoch.toNat) [] false
  rw[List.append_nil] at hn
  simp only[recS,recB,takeS_1,byte0_1,if_true,show (bt 4).toNat=4 from rfl,hn,e1,e3,show ((4:Int)=1)=False from by simp,show ((4:Nat)=1)=False from by simp,show ((4:Int)=2)=False from by simp,show ((4:Nat)=2)=False from by simp,show ((4:Int)=3)=False from by simp,show ((4:Nat)=3)=False from by simp,if_false]
theorem toRecB_B (r:Record) (hw:r.wf) (hwv:∀v∈r.vaults,v.wf) (hr:rightR r=true):toRecB (recB r)=(r,0):=by
 unfold toRecB
 rw[recS_B r hw hwv hr]
 simp[hr]
theorem enc_plainV (v:Vault):v.enc.plain=true:=by simp only[Vault.enc,go_sem]
theorem rec_plain (r:Record):r.enc.plain=true:=by
 have h1:=enc_plainV r.vault
 have h2:=encs_plain r.vaults
 simp only[Record.enc,go_sem,h1,h2]
theorem recs_plain (l:List Record):V.plain.all (l.map Record.enc)=true:=by
 rw[plain_all_iff]
 intro v hv
 obtain ⟨w,_,rfl⟩:=List.mem_map.1 hv
 exact rec_plain w
theorem rec_frz (n:Nat) (h:Hp) (r:Record):frzV n h r.enc=some r.enc:=frz_plain n h _ (rec_plain r)
theorem rec_ty (r:Record):r.enc.ty=some 41:=rfl
theorem rec_so (r:Record):r.enc.solid=true:=rfl
theorem rec_gr (r:Record):r.enc.ground=true:=ground_plain _ (rec_plain r)
def openR (k:Bs) (n:Nat) (prev l:Bs):Record×Int:=match openB k n prev l with
 | none=>(zeroRec,30)
 | some t=> toRecB t
theorem FOpen_ok (b:Nat) (h:Hp) (k prev l:Bs) (n:Nat) (hk:k.length=16) (hp:prev.length=16) (hn:n < 18446744073709551616):run fns pr b 101 [.arr 25 (k.map byteV),.s (.int .u64 n),.arr 25 (prev.map byteV),.imm false none (l.map byteV)] h=some (.tup [(openR k n prev l).1.enc,.s (.int .i64 (openR k n prev l).2)],h):=by
 refine Vm.runP (nt:=28) rfl fit101 (by simp) ?_
 have hkl:(k.map byteV).length=16:=by simp[hk]
 have hpl:(prev.map byteV).length=16:=by simp[hp]
 generalize hZ:(Blk.cells (some 41) [V.st 41 [.s (.int .i64 0),.s (.int .i64 0),.s (.int .i64 0),.s (.int .u64 0),V.st 31 [z4 27,ku,z16 25,kx,ki,ki,z16 25,.s (.bool false),.s (.bool false)],.imm false (some 31) []]])=Z
 generalize hGd:h++[Blk.cells (some 25) [V.arr 25 (k.map byteV)],Blk.cells (some 25) [V.arr 25 (prev.map byteV)],Z]=G
 have g1:G[h.length+1]? =some (Blk.cells (some 25) [V.arr 25 (prev.map byteV)]):=by rw[←hGd];exact get_app _ _ 1
 have hrd:=Rd.mk' (h:=G) (x:= .ref (h.length+1) [0] none 0 prev.length 1) (l:=prev) (Rd_arr g1) rfl
 rw[hp] at hrd
 have hop:=fun b=> Open_ok b G (.ref (h.length+1) [0] none 0 16 1) (.imm false none (l.map byteV)) k prev l n hk hn hrd (BR_imm _ _ _)
 have g0:G[h.length]? =some (Blk.cells (some 25) [V.arr 25 (k.map byteV)]):=by rw[←hGd];exact get_app _ _ 0
 have g2:G[h.length+2]? =some Z:=by rw[←hGd];exact get_app _ _ 2
 have htk:∀B,(G.set (h.length+2) B).take h.length=h:=fun B=> by rw[List.take_set_of_le (by omega),←hGd,List.take_left]
 have htk0:G.take h.length=h:=by rw[←hGd,List.take_left]
 have hgs:∀B,(G.set (h.length+2) B)[h.length+2]? =some B:=fun B=> q9z g2
 subst hZ
 unfold openR
 cases hq:openB k n prev l with
 | none=>
   rw[hq] at hop
   simp only[openV] at hop
   simp only[B101,hkl,hpl,hGd,g0,g1,g2,hop,ty_dig,hgs,htk,go_sem,↓reduceIte,Nat.reduceEqDiff,Nat.reduceBEq,Nat.reduceAdd,Nat.reduceSub,Nat.reduceLT,Nat.reduceLeDiff,Int.reduceLT,Int.reduceLE,Int.reduceEq,Int.reduceToNat]
   all_goals rfl
 | some t=>
   rw[hq] at hop
   simp only[openV] at hop
   have htr:=fun b H=> ToRecord_ok b H false t
   simp only[B101,hkl,hpl,hGd,g0,g1,g2,hop,ty_dig,hgs,htk,htr,rec_ty,rec_so,rec_frz,go_sem,↓reduceIte,Nat.reduceEqDiff,Nat.reduceBEq,Nat.reduceAdd,Nat.reduceSub,Nat.reduceLT,Nat.reduceLeDiff,Int.reduceLT,Int.reduceLE,Int.reduceEq,Int.reduceToNat]
def baseJ (k:Bs) (K:Dk) (r:Register):Bs×Bs×Int:=
 if r.base=0 then ([],zero16,0) else match K.get r.point with
  | none=>([],zero16,30)
  | some l=> match openB k r.base.toNat imgW l with
    | some t=>(t,sumB l,0)
    | none=>([],sumB l,30)
theorem get_len {K:Dk} (hk:K.OK) {n:Int} {l:Bs} (h:K.get n=some l):l.length≤8192:=by
 unfold Dk.get at h
 split at h
 ·have:=hk.ns n.toNat
  rw[h] at this
  exact this
 ·cases h
theorem base_ok (b:Nat) (h:Hp) (did:Nat) (k:Bs) (K:Dk) (r:Register) (hk:k.length=16) (hw:r.wf) (hd:Dsk.DR h did K):run fns pr b 99 [.arr 25 (k.map byteV),.ptr did [0] 1,r.enc] h=some (.tup [.imm false none ((baseJ k K r).1.map byteV),.arr 25 ((baseJ k K r).2.1.map byteV),.s (.int .i64 (baseJ k K r).2.2)],h):=by
 refine Vm.runP (nt:=41) rfl fit99 (by simp) ?_
 have hkl:(k.map byteV).length=16:=by simp[hk]
 have hdl:=hd.lt
 have hget:=fun b X=> Dsk.Get_ok b (h++X) did K r.point (hd.mono (Fw.app [] h X) (by simp))
 have him:∀f H,Rd H (.imm f none (imgW.map byteV)) imgW:=fun f H=> BR.rd (BR_imm H f imgW)
 have hiw:imgW.map byteV=[.s (.int .u8 105),.s (.int .u8 109),.s (.int .u8 97),.s (.int .u8 103),.s (.int .u8 101)]:=rfl
 have hop:=fun b f X l=> Open_ok b (h++X) (.imm f none (imgW.map byteV)) (.imm false none (l.map byteV)) k imgW l r.base.toNat hk (by have:=hw.base;omega) (him f _) (BR_imm _ _ _)
 have hc:((r.base.toNat:Nat):Int)=r.base:=by have:=hw.base;omega
 rw[hc,hiw] at hop
 have hz:V.arr 25 (zero16.map byteV)=z16 25:=rfl
 have hzl:(zero16.map byteV).length=16:=rfl
 unfold baseJ
 obtain ⟨boot,count,base,head,point⟩:=r
 simp only[Dsk.R] at *
 by_cases c0:base=0
 ·rw[if_pos c0]
  simp only[B99,Register.enc,hkl,c0,List.take_left,List.map_nil,go_sem,↓reduceIte,Nat.reduceEqDiff,Nat.reduceBEq,Nat.reduceAdd,Nat.reduceSub,Nat.reduceLT,Nat.reduceLeDiff,Int.reduceLT,Int.reduceLE,Int.reduceEq,Int.reduceToNat]
  all_goals rfl
 rw[if_neg c0]
 cases hq:K.get point with
 | none=>
   rw[hq] at hget
   simp only[Option.getD_none,Option.isSome_none,List.map_nil] at hget
   simp only[B99,Register.enc,hkl,c0,hget,List.take_left,List.map_nil,go_sem,↓reduceIte,Nat.reduceEqDiff,Nat.reduceBEq,Nat.reduceAdd,Nat.reduceSub,Nat.reduceLT,Nat.reduceLeDiff,Int.reduceLT,Int.reduceLE,Int.reduceEq,Int.reduceToNat]
   all_goals rfl
 | some l=>
   rw[hq] at hget
   simp only[Option.getD_some,Option.isSome_some] at hget
   have hop:=fun b f X=> hop b f X l
   have hll:=get_len hd.ok hq
   have hfi:=fun b X=> JFirst_ok b (h++X) (.imm false none (l.map byteV)) l (BR_imm _ _ _) (by omega)
   have hsl:((sumB l).map byteV).length=16:=by simp[sumB_len]
   cases ho:openB k base.toNat imgW l with
   | none=>
     rw[ho] at hop
     simp only[openV] at hop
     simp only[B99,Register.enc,hkl,c0,hget,hop,hfi,hsl,ty_dig,List.take_left,go_sem,↓reduceIte,Nat.reduceEqDiff,Nat.reduceBEq,Nat.reduceAdd,Nat.reduceSub,Nat.reduceLT,Nat.reduceLeDiff,Int.reduceLT,Int.reduceLE,Int.reduceEq,Int.reduceToNat]
     all_goals first | (rw[ho];done) | (rw[ho];rfl)
   | some t=>
     rw[ho] at hop
     simp only[openV] at hop
     simp only[B99,Register.enc,hkl,c0,hget,hop,hfi,hsl,ty_dig,List.take_left,go_sem,↓reduceIte,Nat.reduceEqDiff,Nat.reduceBEq,Nat.reduceAdd,Nat.reduceSub,Nat.reduceLT,Nat.reduceLeDiff,Int.reduceLT,Int.reduceLE,Int.reduceEq,Int.reduceToNat]
     all_goals first | (rw[ho];done) | (rw[ho];rfl)
def framesJ (k:Bs) (K:Dk) (base:Nat) (h:Bs):Nat→Option (List Record×Bs)
 | 0=> some ([],h)
 | n+1=> match framesJ k K base h n with
   | none=> none
   | some (l,h1)=> if (K.get (2+(n:Nat))).isSome=false∨(openR k (base+n+1) h1 ((K.get (2+(n:Nat))).getD [])).2≠0 then none
     else some (l++[(openR k (base+n+1) h1 ((K.get (2+(n:Nat))).getD [])).1],headB h1 ((K.get (2+(n:Nat))).getD []))
theorem q28z {k:Bs} {K:Dk} {base:Nat} {h:Bs} {n:Nat} (hn:framesJ k K base h n=none):∀m,framesJ k K base h (n+m)=none
 | 0=> hn
 | m+1=> by rw[←Nat.add_assoc,framesJ,q28z hn m]
theorem framesJ_len {k:Bs} {K:Dk} {base:Nat} {h:Bs}:∀ {n:Nat} {l:List Record} {h1:Bs},framesJ k K base h n=some (l,h1)→l.length=n
 | 0,l,h1,e=> by cases e;rfl
 | n+1,l,h1,e=> by
   rw[framesJ] at e
   split at e
   ·cases e
   ·rename_i l2 h2 e2
    have:=framesJ_len e2
    split at e
    ·cases e
    ·cases e;simp[this]
theorem framesJ_hd {k:Bs} {K:Dk} {base:Nat} {h:Bs} (hh:h.length=16):∀ {n:Nat} {l:List Record} {h1:Bs},framesJ k K base h n=some (l,h1)→h1.length=16
 | 0,l,h1,e=> by cases e;exact hh
 | n+1,l,h1,e=> by
   rw[framesJ] at e
   split at e
   ·cases e
   ·split at e
    ·cases e
    ·cases e;simp[headB,keyB,sumB_len]
def loadJ (k:Bs) (K:Dk) (r:Register):Bs×List Record×Int:=
 if rightG r=false then ([],[],1) else if (baseJ k K r).2.2≠0 then ([],[],(baseJ k K r).2.2)
 else match framesJ k K r.base.toNat (baseJ k K r).2.1 (heldG r).toNat with
   | none=>([],[],30)
   | some (l,h)=> if h=r.head then ((baseJ k K r).1,l,0) else ([],[],30)
theorem baseJ_hd (k:Bs) (K:Dk) (r:Register):(baseJ k K r).2.1.length=16:=by
 unfold baseJ
 split
 ·rfl
 ·split
  ·rfl
  ·split
   ·exact sumB_len _
   ·exact sumB_len _
def loadV (x:Bs×List Record×Int):V:= .tup [.imm false none (x.1.map byteV),.imm false (some 41) (x.2.1.map Record.enc),.s (.int .i64 x.2.2)]
theorem Load_ok (b:Nat) (h:Hp) (did:Nat) (k:Bs) (K:Dk) (r:Register) (hk:k.length=16) (hw:r.wf) (hd:Dsk.DR h did K):run fns pr b 72 [.arr 25 (k.map byteV),.ptr did [0] 1,r.enc] h=some (loadV (loadJ k K r),h):=by
 refine Vm.runP (nt:=81) rfl fit72 (by simp) ?_
 have hkl:(k.map byteV).length=16:=by simp[hk]
 have hri:=fun b H=> Right_ok b H r hw
 have hhe:=fun b H=> Held_ok b H r hw
 have hba:=fun b X=> base_ok b (h++X) did k K r hk hw (hd.mono (Fw.app [] h X) (by simp))
 have hbl:=baseJ_hd k K r
 unfold loadJ
 cases hr:rightG r with
 | false=>
   rw[if_pos rfl]
   simp only[B72,B72R0,B72L0,Register.enc_ty,Register.enc_so,hkl,hri,hr,List.take_left,loadV,List.map_nil,go_sem,↓reduceIte,Nat.reduceEqDiff,Nat.reduceBEq,Nat.reduceAdd,Nat.reduceSub,Nat.reduceLT,Nat.reduceLeDiff,Int.reduceLT,Int.reduceLE,Int.reduceEq,Int.reduceToNat]
 | true=>
   rw[if_neg (by simp)]
   rw[hr] at hri
   generalize hB:baseJ k K r=B at *
   obtain ⟨im,h0,why⟩:=B
   simp only at hbl hba ⊢
   have hbm:(h0.map byteV).length=16:=by simp[hbl]
   by_cases c0:why=0
   case neg=>
     rw[if_pos c0]
     simp only[B72,B72R0,B72L0,Register.enc_ty,Register.enc_so,hkl,hri,hba,ty_dig,c0,List.take_left,loadV,List.map_nil,go_sem,↓reduceIte,Nat.reduceEqDiff,Nat.reduceBEq,Nat.reduceAdd,Nat.reduceSub,Nat.reduceLT,Nat.reduceLeDiff,Int.reduceLT,Int.reduceLE,Int.reduceEq,Int.reduceToNat]
   rw[if_neg (by simp[c0])]
   have hlim:=q11z hr
   obtain ⟨w1,w2,w3,w4,w5⟩:=hw
   obtain ⟨N,hN⟩:∃N:Nat,heldG r=N:=⟨(heldG r).toNat,by have:=held_lim r ⟨w1,w2,w3,w4,w5⟩;omega⟩
   have hN8:N≤8:=by have:=held_lim r ⟨w1,w2,w3,w4,w5⟩;omega
   rw[hN] at hhe ⊢
   simp only[Int.toNat_natCast]
   have hDr:r.enc=V.st 53 [.s (.int .u64 r.boot),.s (.int .u64 r.count),.s (.int .u64 r.base),.arr 25 (r.head.map byteV),.s (.int .i64 r.point)]:=rfl
   rw[hDr] at hri hhe hba ⊢
   simp only[B72,B72R0,B72L0,hkl,hri,hba,ty_dig,c0,hhe,go_sem,↓reduceIte,Nat.reduceEqDiff,Nat.reduceBEq,Nat.reduceAdd,Nat.reduceSub,Nat.reduceLT,Nat.reduceLeDiff,Int.reduceLT,Int.reduceLE,Int.reduceEq,Int.reduceToNat]
   have hfl:∀i,i < N→framesJ k K r.base.toNat h0 (i+1)=none→framesJ k K r.base.toNat h0 N=none:=fun i hi hn=> by
     have:=q28z hn (N - (i+1))
     rwa [show i+1+(N - (i+1))=N by omega] at this
   refine wp_for (fun q e H=>∃(i:Nat) (l:List Record) (hd:Bs) (ko:Nat) (out:V),q=N - i∧i≤N∧e 38= .s (.int .i64 (i:Nat))∧e 37= .s (.int .i64 (N:Nat))∧e 1= .ptr did [0] 1∧e 3= .ptr h.length [0] 1∧e 5= .ptr (h.length+1) [0] 1∧e 10= .ptr (h.length+2) [0] 1∧e 9= .imm false none (im.map byteV)∧e 12=out∧
       framesJ k K r.base.toNat h0 i=some (l,hd)∧H[h.length]? =some (.cells (some 25) [.arr 25 (k.map byteV)])∧H[h.length+1]? =some (.cells (some 53) [V.st 53 [.s (.int .u64 r.boot),.s (.int .u64 r.count),.s (.int .u64 r.base),.arr 25 (r.head.map byteV),.s (.int .i64 r.point)]])∧H[h.length+2]? =some (.cells (some 25) [.arr 25 (hd.map byteV)])∧XR H (some 41) ko out (l.map Record.enc)∧h.length+3≤ko∧Fw [] h H∧h.length+3≤H.length)
     (fun e H=>∃(l:List Record) (hd:Bs) (ko:Nat) (out:V),e 5= .ptr (h.length+1) [0] 1∧e 10= .ptr (h.length+2) [0] 1∧e 9= .imm false none (im.map byteV)∧e 12=out∧
       framesJ k K r.base.toNat h0 N=some (l,hd)∧H[h.length+1]? =some (.cells (some 53) [V.st 53 [.s (.int .u64 r.boot),.s (.int .u64 r.count),.s (.int .u64 r.base),.arr 25 (r.head.map byteV),.s (.int .i64 r.point)]])∧H[h.length+2]? =some (.cells (some 25) [.arr 25 (hd.map byteV)])∧XR H (some 41) ko out (l.map Record.enc)∧h.length+3≤ko∧Fw [] h H)
     N _ _ ⟨0,[],h0,h.length+3,_,rfl,by omega,rfl,rfl,rfl,rfl,rfl,rfl,rfl,rfl,rfl,get_app _ _ 0,get_app _ _ 1,get_app _ _ 2,XR.nil _ _ _,Nat.le_refl _,Fw.app _ _ _,by simp⟩ ?_ ?_
   ·rintro q e H ⟨i,l,hd',ko,out,rfl,hi,e38,e37,e1,e3,e5,e10,e9,e12,hfr,g0,g1,g2,xr,hko,fw,hHl⟩
    have hdl:=framesJ_hd hbl hfr
    have hll:=framesJ_len hfr
    by_cases ci:i < N
    ·have ci':(i:Int)<((N:Nat):Int):=by omega
     have w1:IntKind.i64.wrap ((i:Int)+1)=((i+1:Nat):Int):=q18z (by omega)
     have w2:IntKind.i64.wrap (2+(i:Int))=2+(i:Nat):=wrap_i64 (by omega) (by omega)
     have w3:IntKind.u64.wrap (i:Int)=(i:Nat):=wrap_u64 (by omega) (by omega)
     have w4:IntKind.u64.wrap (r.base+(i:Nat))=r.base+(i:Nat):=wrap_u64 (by omega) (by omega)
     have w5:IntKind.u64.wrap (r.base+(i:Nat)+1)=((r.base.toNat+i+1:Nat):Int):=by rw[wrap_u64 (by omega) (by omega)];omega
     have hget:=fun b=> Dsk.Get_ok b H did K (2+(i:Nat)) (hd.mono fw (by simp))
     simp only[Dsk.R] at hget
     have hop:=fun b=> FOpen_ok b H k hd' ((K.get (2+(i:Nat))).getD []) (r.base.toNat+i+1) hk hdl (by omega)
     have hnx:framesJ k K r.base.toNat h0 (i+1)=if (K.get (2+(i:Nat))).isSome=false∨(openR k (r.base.toNat+i+1) hd' ((K.get (2+(i:Nat))).getD [])).2≠0 then none
      else some (l++[(openR k (r.base.toNat+i+1) hd' ((K.get (2+(i:Nat))).getD [])).1],headB hd' ((K.get (2+(i:Nat))).getD [])):=by rw[framesJ,hfr]
     have hgl:((K.get (2+(i:Nat))).getD []).length≤8192:=by
       cases hq:K.get (2+(i:Nat)) with
       | none=> simp
       | some x=> exact get_len hd.ok hq
     have hhd:=fun b H'=> FHead_ok b H' (.imm false none (((K.get (2+(i:Nat))).getD []).map byteV)) hd' ((K.get (2+(i:Nat))).getD []) hdl (BR_imm _ _ _) (by omega)
     generalize K.get (2+(i:Nat))=G at *
     generalize hX:openR k (r.base.toNat+i+1) hd' (G.getD [])=X at *
     obtain ⟨x,why⟩:=X
     simp only at hnx hop
     have tkr:∀Y,(H++Y).take h.length=h:=fun Y=>(fw.trans (Fw.app [] H Y)).take
     cases hs:G.isSome with
     | false=>
       rw[hs] at hget hnx
       have hfin:=hfl i ci (by rw[hnx];simp)
       simp only[e38,e37,e1,e3,e5,e10,e9,e12,ci',w2,w3,w4,w5,hget,g0,g1,g2,hop,rec_ty,rec_so,rec_gr,Bool.or_true,ty_dig,hfin,loadV,List.map_nil,tkr,go_sem,↓reduceIte,Nat.reduceEqDiff,Nat.reduceBEq,Nat.reduceAdd,Nat.reduceSub,Nat.reduceLT,Nat.reduceLeDiff,Int.reduceLT,Int.reduceLE,Int.reduceEq,Int.reduceToNat]
     | true=>
       rw[hs] at hget hnx
       by_cases cw:why=0
       case neg=>
         have hfin:=hfl i ci (by rw[hnx];simp[cw])
         simp only[e38,e37,e1,e3,e5,e10,e9,e12,ci',w2,w3,w4,w5,hget,g0,g1,g2,hop,rec_ty,rec_so,rec_gr,Bool.or_true,ty_dig,hfin,loadV,List.map_nil,tkr,cw,go_sem,↓reduceIte,Nat.reduceEqDiff,Nat.reduceBEq,Nat.reduceAdd,Nat.reduceSub,Nat.reduceLT,Nat.reduceLeDiff,Int.reduceLT,Int.reduceLE,Int.reduceEq,Int.reduceToNat]
       rw[if_neg (by simp[cw])] at hnx
       have xr1:=xr.mono (H:=H++[.cells (some 41) [x.enc]]) (fun b hb=> q10z hb _)
       obtain ⟨out2,H2,ko2,hap,xr2,hk2,hH2,hkk,hH2l,hold⟩:=xr1.pushL (n:=h.length+3) (bytes:=152) (ys:=[x.enc]) (m:=1) hko (by simp;omega) rfl (by simp[rec_gr]) (by simp;omega)
       rw[List.append_assoc] at hap
       simp only[List.length_append,List.length_cons,List.length_nil,Nat.zero_add,List.cons_append,List.nil_append] at hap
       have n2:∀j b,j≠ko→H[j]? =some b→H2[j]? =some b:=fun j b hj hb=> hold j b hj (q10z hb _)
       have g02:=n2 _ _ (by omega) g0
       have g12:=n2 _ _ (by omega) g1
       have g22:=n2 _ _ (by omega) g2
       have fw2:Fw [] h H2:=(fw.trans (Fw.app [] H _)).trans' (n:=0) hH2l hold (by omega)
       have hgr:decide (h.length≤h.length+2)=true:=by simp
       have hfin:∃m,m < N - i∧∃(i':Nat) (l':List Record) (hd2:Bs) (ko:Nat) (out:V),m=N - i'∧i'≤N∧Value.int IntKind.i64 ((i+1:Nat):Int)=Value.int IntKind.i64 (i':Int)∧out2=out∧framesJ k K r.base.toNat h0 i'=some (l',hd2)∧
         (H2.set (h.length+2) (.cells (some 25) [.arr 25 ((headB hd' (G.getD [])).map byteV)]))[h.length]? =some (.cells (some 25) [.arr 25 (k.map byteV)])∧
         (H2.set (h.length+2) (.cells (some 25) [.arr 25 ((headB hd' (G.getD [])).map byteV)]))[h.length+1]? =some (.cells (some 53) [V.st 53 [.s (.int .u64 r.boot),.s (.int .u64 r.count),.s (.int .u64 r.base),.arr 25 (r.head.map byteV),.s (.int .i64 r.point)]])∧
         (H2.set (h.length+2) (.cells (some 25) [.arr 25 ((headB hd' (G.getD [])).map byteV)]))[h.length+2]? =some (.cells (some 25) [.arr 25 (hd2.map byteV)])∧
         XR (H2.set (h.length+2) (.cells (some 25) [.arr 25 ((headB hd' (G.getD [])).map byteV)])) (some 41) ko out (l'.map Record.enc)∧h.length+3≤ko∧Fw [] h (H2.set (h.length+2) (.cells (some 25) [.arr 25 ((headB hd' (G.getD [])).map byteV)]))∧h.length+3≤H2.length:=by
         refine ⟨N - (i+1),by omega,i+1,_,_,ko2,out2,rfl,by omega,rfl,rfl,hnx,?_,?_,q9z g22,?_,hk2,fw2.set_new (by omega) _,hH2⟩
         ·rw[List.getElem?_set_ne (by omega)];exact g02
         ·rw[List.getElem?_set_ne (by omega)];exact g12
         ·rw[List.map_append];exact xr2.set (by omega) _
       simp only[e38,e37,e1,e3,e5,e10,e9,e12,ci',w1,w2,w3,w4,w5,hget,g0,g1,g2,hop,rec_ty,rec_so,rec_gr,Bool.or_true,ty_dig,cw,hap,hhd,g22,g02,g12,hgr,go_sem,↓reduceIte,Nat.reduceEqDiff,Nat.reduceBEq,Nat.reduceAdd,Nat.reduceSub,Nat.reduceLT,Nat.reduceLeDiff,Int.reduceLT,Int.reduceLE,Int.reduceEq,Int.reduceToNat]
       exact hfin
    ·have ci':¬(i:Int)<((N:Nat):Int):=by omega
     obtain rfl:i=N:=by omega
     simp only[e38,e37,e1,e3,e5,e10,e9,e12,ci',go_sem,↓reduceIte,Nat.reduceEqDiff,Nat.reduceBEq,Nat.reduceAdd,Nat.reduceSub,Nat.reduceLT,Nat.reduceLeDiff,Int.reduceLT,Int.reduceLE,Int.reduceEq,Int.reduceToNat]
     exact ⟨l,hd',ko,out,rfl,hfr,g1,g2,xr,hko,fw⟩
   ·rintro e H ⟨l,hd',ko,out,e5,e10,e9,e12,hfr,g1,g2,xr,hko,fw⟩
    have htk:=fw.take
    have hfz:=xr.frz (n:=h.length) (by omega) (recs_plain l)
    by_cases ch:hd'=r.head
    ·simp only[e5,e10,e9,e12,g1,g2,ty_dig,o_eqaB,ch,hfz,htk,loadV,hfr,go_sem,↓reduceIte,Nat.reduceEqDiff,Nat.reduceBEq,Nat.reduceAdd,Nat.reduceSub,Nat.reduceLT,Nat.reduceLeDiff,Int.reduceLT,Int.reduceLE,Int.reduceEq,Int.reduceToNat]
    ·simp only[e5,e10,e9,e12,g1,g2,ty_dig,o_eqaB,ch,hfz,htk,loadV,hfr,go_sem,↓reduceIte,Nat.reduceEqDiff,Nat.reduceBEq,Nat.reduceAdd,Nat.reduceSub,Nat.reduceLT,Nat.reduceLeDiff,Int.reduceLT,Int.reduceLE,Int.reduceEq,Int.reduceToNat]
theorem slc_lo (cf:CF) (base:Nat) (h:Hp) (f:Bool) (l:Bs) (k:IntKind) (n:Nat) (hn:n≤l.length):opV cf base h (.slc none true false false) [.imm f none (l.map byteV),.s (.int k (n:Nat))]=some (.imm f none ((l.drop n).map byteV),h):=by
 rw[SR.o_lo (cf:=cf) (base:=base) (h:=h) (x:= .imm f none (l.map byteV)) (g:=none) (vs:=l.map byteV) (.inl ⟨f,rfl⟩) (k:=k) (l:=n) (by simpa using hn)]
 simp only[cutP,List.length_map,BEq.rfl,Bool.and_true,←List.map_drop]
 rw[List.take_of_length_le (by simp)]
theorem slc_hi (cf:CF) (base:Nat) (h:Hp) (f:Bool) (l:Bs) (k:IntKind) (n:Nat) (hn:n≤l.length):opV cf base h (.slc none false true false) [.imm f none (l.map byteV),.s (.int k (n:Nat))]=some (.imm (f && n==l.length) none ((l.take n).map byteV),h):=by
 rw[SR.o_hi (cf:=cf) (base:=base) (h:=h) (x:= .imm f none (l.map byteV)) (g:=none) (vs:=l.map byteV) (.inl ⟨f,rfl⟩) (k:=k) (r:=n) (by simpa using hn)]
 simp only[cutP,List.length_map,List.drop_zero,Nat.sub_zero,List.map_take]
theorem number_imm (b:Nat) (h:Hp) (f:Bool) (l:Bs) (hl:8≤l.length):run fns pr b 119 [.imm f none (l.map byteV)] h=some (.s (.int .u64 (beN (l.take 8):Nat)),h):=by
 refine Vm.runP (nt:=20) rfl fit119 (by simp) ?_
 have hc:=fun cf base H=> slc_hi cf base H f l .i64 8 hl
 have hml:(l.take 8).length=8:=by rw[List.length_take];omega
 have tk:∀X,(h++X).take h.length=h:=fun X=> List.take_left
 generalize (f && 8==l.length)=g at hc
 generalize hm:l.take 8=m at *
 have hsr:∀H,SR H (.imm g none (m.map byteV)) none (m.map byteV):=fun H=> .inl ⟨g,rfl⟩
 have tk2:m.take 8=m:=List.take_of_length_le (by omega)
 generalize hx:V.imm g none (m.map byteV)=x at hc hsr
 have hlx:∀cf base h,opV cf base h .len [x]=some (.s (.int .i64 8),h):=fun cf base h=> by rw[(hsr h).o_len];simp[hml]
 simp only[B119,B119R0,B119L0,show (V.s (.int .i64 8))=V.s (.int .i64 ((8:Nat):Int)) from rfl,hc,hlx,go_sem,↓reduceIte,Nat.reduceEqDiff,Nat.reduceBEq,Nat.reduceAdd,Nat.reduceSub,Nat.reduceLT,Nat.reduceLeDiff,Int.reduceLT,Int.reduceLE,Int.reduceEq,Int.reduceToNat]
 refine wp_for (fun q e H=>∃j,q=8 - j∧j≤8∧e 9= .s (.int .i64 (j:Nat))∧e 8= .s (.int .i64 8)∧e 7=x∧e 3= .s (.int .u64 (beN (m.take j):Nat))∧H=h)
   (fun e H=> e 3= .s (.int .u64 (beN m:Nat))∧H=h) 8 _ _ ?_ ?_ ?_
 ·exact ⟨0,rfl,by omega,rfl,rfl,rfl,rfl,rfl⟩
 ·rintro q e H ⟨j,rfl,hj,e9,e8,e7,e3,rfl⟩
  by_cases cd:j < 8
  ·have cj:(j:Int)< 8:=by omega
   have i1:=fun cf base=>(hsr H).o_ias (cf:=cf) (base:=base) (k:= .i64) (i:=j) (by simp;omega)
   have i2:=fun cf base=>(hsr H).o_ld (cf:=cf) (base:=base) (i:=j) (v:=byteV (m.getD j 0)) (by rw[List.getElem?_map,List.getD,List.getElem?_eq_getElem (by omega)];rfl) rfl
   have w3:IntKind.i64.wrap ((j:Int)+1)=((j+1:Nat):Int):=q17z (by omega)
   have hb:=beN_lt m j (by omega)
   have hy:=(m.getD j 0).toNat_lt
   have hp:256 ^ j * 256≤18446744073709551616:=by rw[←Nat.pow_succ];exact Nat.pow_le_pow_right (by omega) (show j+1≤8 by omega)
   have s1:=shl64 (a:=beN (m.take j)) (by omega)
   have s2:=or64 (a:=beN (m.take j)) (y:=(m.getD j 0).toNat) (by omega) hy
   have hw:=wrap64_nat (n:=(m.getD j 0).toNat) (by omega)
   have h1:∀cf base h,opV cf base h (.bin .num .shl) [.s (.int .u64 (beN (m.take j):Nat)),.s (.int .i64 8)]=some (.s (.int .u64 ((beN (m.take j)* 256:Nat):Int)),h):=fun cf base h=> by rw[←s1];exact o_shl cf base h .u64 .i64 _ 8 (by omega)
   have h2:∀cf base h,opV cf base h (.bin .num .shl) [.s (.int .u64 (beN (m.take j):Nat)),.s (.int .u64 8)]=some (.s (.int .u64 ((beN (m.take j)* 256:Nat):Int)),h):=fun cf base h=> by rw[←s1];exact o_shl cf base h .u64 .u64 _ 8 (by omega)
   simp only[e9,e8,e7,e3,cj,i1,i2,byteV,w3,h1,h2,hw,s2,go_sem,↓reduceIte,Nat.reduceEqDiff,Nat.reduceBEq,Nat.reduceAdd,Nat.reduceSub,Nat.reduceLT,Nat.reduceLeDiff,Int.reduceLT,Int.reduceLE,Int.reduceEq,Int.reduceToNat]
   refine ⟨8 - (j+1),by omega,j+1,rfl,by omega,rfl,?_⟩
   rw[beN_take (by omega)]
  ·have cj:¬(j:Int)< 8:=by omega
   obtain rfl:j=8:=by omega
   simp only[e9,e8,e7,e3,cj,tk2,go_sem,↓reduceIte,Nat.reduceEqDiff,Nat.reduceBEq,Nat.reduceAdd,Nat.reduceSub,Nat.reduceLT,Nat.reduceLeDiff,Int.reduceLT,Int.reduceLE,Int.reduceEq,Int.reduceToNat]
 ·rintro e H ⟨e3,rfl⟩
  simp only[e3,List.take_length,go_sem,↓reduceIte,Nat.reduceEqDiff,Nat.reduceBEq,Nat.reduceAdd,Nat.reduceSub,Nat.reduceLT,Nat.reduceLeDiff,Int.reduceLT,Int.reduceLE,Int.reduceEq,Int.reduceToNat]
def vaultsI :Nat→Bs→Option (List Vault×Bs)
 | 0,l=> some ([],l)
 | n+1,l=> match vaultsI n l with
   | none=> none
   | some (vs,m)=> if (toVaultB m).2.2≠0 then none else some (vs++[(toVaultB m).1],m.drop (toVaultB m).2.1.toNat)
theorem q27z {l:Bs} {n:Nat} (hn:vaultsI n l=none):∀m,vaultsI (n+m) l=none
 | 0=> hn
 | m+1=> by rw[←Nat.add_assoc,vaultsI,q27z hn m]
theorem q21z (m:Bs) (h:(toVaultB m).2.2=0):(toVaultB m).1.wf:=by
 have hw:=vaultS_wf (m,false)
 unfold toVaultB at h ⊢
 generalize vaultS (m,false)=x at *
 by_cases c:x.2.2=true
 ·rw[if_pos c] at h
  exact absurd h (by decide)
 ·rw[if_neg c]
  exact hw
theorem toVaultB_n (m:Bs):∃n:Nat,(toVaultB m).2.1=n∧n≤m.length:=by
 unfold toVaultB
 generalize vaultS (m,false)=x at *
 by_cases c:x.2.2=true
 ·rw[if_pos c];exact ⟨0,rfl,by omega⟩
 ·rw[if_neg c];exact ⟨_,rfl,Nat.sub_le _ _⟩
theorem vaultsI_le {l:Bs}:∀ {n:Nat} {vs:List Vault} {m:Bs},vaultsI n l=some (vs,m)→m.length≤l.length∧vs.length=n∧∀v∈vs,v.wf
 | 0,vs,m,e=> by cases e;simp
 | n+1,vs,m,e=> by
   rw[vaultsI] at e
   split at e
   ·cases e
   ·rename_i vs2 m2 e2
    obtain ⟨h1,h2,h3⟩:=vaultsI_le e2
    have hw:=q21z m2
    generalize toVaultB m2=X at *
    by_cases c:X.2.2≠0
    ·rw[if_pos c] at e;cases e
    ·rw[if_neg c] at e
     simp only[Option.some.injEq,Prod.mk.injEq] at e
     obtain ⟨rfl,rfl⟩:=e
     refine ⟨by simp;omega,by simp[h2],fun v hv=> ?_⟩
     rcases List.mem_append.1 hv with hv | hv
     ·exact h3 v hv
     ·simp only[List.mem_singleton] at hv
      subst hv
      exact hw (Decidable.not_not.1 c)
def vaultsV (x:Option (List Vault×Bs)):V:=match x with
 | none=> .tup [.imm false (some 31) [],.imm false none [],.s (.bool false)]
 | some (vs,m)=> .tup [.imm false (some 31) (vs.map Vault.enc),.imm false none (m.map byteV),.s (.bool true)]
theorem ivaults_ok (b:Nat) (h:Hp) (f:Bool) (l:Bs) (N:Nat) (hl:l.length≤100000) (hN:N≤255):run fns pr b 118 [.imm f none (l.map byteV),.s (.int .i64 (N:Nat))] h=some (vaultsV (vaultsI N l),h):=by
 refine Vm.runP (nt:=32) rfl fit118 (by simp) ?_
 simp only[B118,B118R0,B118L0,go_sem,↓reduceIte,Nat.reduceEqDiff,Nat.reduceBEq,Nat.reduceAdd,Nat.reduceSub,Nat.reduceLT,Nat.reduceLeDiff,Int.reduceLT,Int.reduceLE,Int.reduceEq,Int.reduceToNat]
 refine wp_for (fun q e H=>∃(i:Nat) (vs:List Vault) (m:Bs) (f:Bool) (ko:Nat) (out:V),q=N - i∧i≤N∧e 12= .s (.int .i64 (i:Nat))∧e 11= .s (.int .i64 (N:Nat))∧e 0= .imm f none (m.map byteV)∧e 7=out∧vaultsI i l=some (vs,m)∧XR H (some 31) ko out (vs.map Vault.enc)∧h.length≤ko∧Fw [] h H)
   (fun e H=>∃(vs:List Vault) (m:Bs) (f:Bool) (ko:Nat) (out:V),e 0= .imm f none (m.map byteV)∧e 7=out∧vaultsI N l=some (vs,m)∧XR H (some 31) ko out (vs.map Vault.enc)∧h.length≤ko∧Fw [] h H)
   N _ _ ⟨0,[],l,f,h.length,_,rfl,by omega,rfl,rfl,rfl,rfl,rfl,XR.nil _ _ _,Nat.le_refl _,Fw.refl _ _⟩ ?_ ?_
 ·rintro q e H ⟨i,vs,m,f,ko,out,rfl,hi,e12,e11,e0,e7,hvi,xr,hko,fw⟩
  obtain ⟨hml,hvl,_⟩:=vaultsI_le hvi
  by_cases ci:i < N
  ·have ci':(i:Int)<((N:Nat):Int):=by omega
   have w1:IntKind.i64.wrap ((i:Int)+1)=((i+1:Nat):Int):=q18z (by omega)
   have htv:=fun b H=> ToVault_ok b H f m (by omega)
   have hnx:vaultsI (i+1) l=if (toVaultB m).2.2≠0 then none else some (vs++[(toVaultB m).1],m.drop (toVaultB m).2.1.toNat):=by rw[vaultsI,hvi]
   obtain ⟨n,hn1,hn2⟩:=toVaultB_n m
   generalize toVaultB m=X at *
   obtain ⟨x,n',why⟩:=X
   simp only at hn1 htv hnx
   subst hn1
   rw[Int.toNat_natCast] at hnx
   have hle:=fw.len
   have hor:∀y,(decide (h.length≤H.length) || y)=true:=fun y=> by rw[decide_eq_true hle];rfl
   have tkr:∀Y,(H++Y).take h.length=h:=fun Y=>(fw.trans (Fw.app [] H Y)).take
   by_cases cw:why=0
   case neg=>
     rw[if_pos cw] at hnx
     have hfin:vaultsI N l=none:=by
       have:=q27z hnx (N - (i+1))
       rwa [show i+1+(N - (i+1))=N by omega] at this
     simp only[e12,e11,e0,e7,ci',htv,cw,enc_tyV,enc_soV,hor,tkr,hfin,vaultsV,go_sem,↓reduceIte,Nat.reduceEqDiff,Nat.reduceBEq,Nat.reduceAdd,Nat.reduceSub,Nat.reduceLT,Nat.reduceLeDiff,Int.reduceLT,Int.reduceLE,Int.reduceEq,Int.reduceToNat]
   rw[if_neg (by simp[cw])] at hnx
   have xr1:=xr.mono (H:=H++[.cells (some 31) [x.enc]]) (fun b hb=> q10z hb _)
   obtain ⟨out2,H2,ko2,hap,xr2,hk2,hH2,hkk,hH2l,hold⟩:=xr1.pushL (n:=h.length) (bytes:=96) (ys:=[x.enc]) (m:=1) hko (by simp;omega) rfl (by simp[enc_ground]) (by simp;omega)
   rw[List.append_assoc] at hap
   simp only[List.length_append,List.length_cons,List.length_nil,Nat.zero_add,List.cons_append,List.nil_append] at hap
   have fw2:Fw [] h H2:=(fw.trans (Fw.app [] H _)).trans' (n:=0) hH2l hold hko
   have hsl:=fun cf base H=> slc_lo cf base H f m .i64 n hn2
   rw[show vs.map Vault.enc++[x.enc]=(vs++[x]).map Vault.enc by simp] at xr2
   simp only[e12,e11,e0,e7,ci',htv,cw,enc_tyV,enc_soV,hor,hap,hsl,w1,go_sem,↓reduceIte,Nat.reduceEqDiff,Nat.reduceBEq,Nat.reduceAdd,Nat.reduceSub,Nat.reduceLT,Nat.reduceLeDiff,Int.reduceLT,Int.reduceLE,Int.reduceEq,Int.reduceToNat]
   exact ⟨N - (i+1),by omega,i+1,_,_,f,ko2,out2,rfl,by omega,rfl,rfl,rfl,hnx,xr2,hk2,fw2⟩
  ·have ci':¬(i:Int)<((N:Nat):Int):=by omega
   obtain rfl:i=N:=by omega
   simp only[e12,e11,e0,e7,ci',go_sem,↓reduceIte,Nat.reduceEqDiff,Nat.reduceBEq,Nat.reduceAdd,Nat.reduceSub,Nat.reduceLT,Nat.reduceLeDiff,Int.reduceLT,Int.reduceLE,Int.reduceEq,Int.reduceToNat]
   exact ⟨vs,m,f,ko,out,rfl,rfl,hvi,xr,hko,fw⟩
 ·rintro e H ⟨vs,m,f,ko,out,e0,e7,hvi,xr,hko,fw⟩
  have htk:=fw.take
  have hfz:=xr.frz (n:=h.length) hko (encs_plain vs)
  simp only[e0,e7,hfz,htk,hvi,vaultsV,go_sem,↓reduceIte,Nat.reduceEqDiff,Nat.reduceBEq,Nat.reduceAdd,Nat.reduceSub,Nat.reduceLT,Nat.reduceLeDiff,Int.reduceLT,Int.reduceLE,Int.reduceEq,Int.reduceToNat]
def partI (l:Bs):Option (Prt×Bs):=if l.length < 11 then none else match vaultsI (l.getD 10 0).toNat (l.drop 11) with
 | none=> none
 | some (vs,m)=> some (⟨((l.getD 0 0).toNat:Nat),(beN ((l.drop 1).take 8):Nat),((l.getD 9 0).toNat:Nat),vs⟩,m)
def readI (s0:Sta) (l:Bs):Nat→Option (Sta×Bs)
 | 0=> some (s0,l)
 | n+1=> match readI s0 l n with
   | none=> none
   | some (s,m)=> match partI m with
     | none=> none
     | some (q,rest)=> if (setS s n q).1≠0 then none else some ((setS s n q).2,rest)
theorem q26z {s0:Sta} {l:Bs} {n:Nat} (hn:readI s0 l n=none):∀m,readI s0 l (n+m)=none
 | 0=> hn
 | m+1=> by rw[←Nat.add_assoc,readI,q26z hn m]
def readO (a b:Int) (l:Bs):Option Sta:=if l.length < 2 then none else (readI (Sta.new a b) (l.drop 2) 16).map (·.1)
theorem right_POk {s:Sta} {n:Nat} {q:Prt} (h1:rightP s n q=true) (h2:rising q.vs=true) (hw:∀v∈q.vs,v.wf):POk s n q:=by
 unfold rightP at h1
 split at h1
 ·cases h1
 ·rename_i c1
  split at h1
  ·cases h1
  ·rename_i c2
   split at h1
   ·cases h1
   ·rename_i c3
    unfold rising at h2
    simp only[Bool.and_eq_true,decide_eq_true_eq,List.all_eq_true] at h2
    simp only[Bool.not_eq_true',List.any_eq_false,decide_eq_true_eq,Decidable.not_not] at h1
    obtain ⟨⟨h4,h5⟩,h6⟩:=h2
    refine ⟨by omega,by omega,by omega,fun h=> by omega,fun h=> by omega,fun h=> ?_,h6,h4,fun v hv=>⟨h5 v hv,hw v hv,?_⟩⟩
    ·exact List.eq_nil_of_length_eq_zero (by omega)
    ·have:=h1 v hv;omega
theorem partI_facts {l:Bs} {q:Prt} {m:Bs} (h:partI l=some (q,m)):11≤l.length∧m.length≤l.length∧(∀v∈q.vs,v.wf)∧q.vs.length≤255:=by
 unfold partI at h
 split at h
 ·cases h
 ·split at h
  ·cases h
  ·rename_i vs m2 e2
   obtain ⟨h1,h2,h3⟩:=vaultsI_le e2
   simp only[Option.some.injEq,Prod.mk.injEq] at h
   obtain ⟨rfl,rfl⟩:=h
   have:=(l.getD 10 0).toNat_lt
   refine ⟨by omega,by rw[List.length_drop] at h1;omega,h3,by simp only;omega⟩
theorem setS_ok {s:Sta} {n:Nat} {q:Prt} (hk:SOk s) (hw:∀v∈q.vs,v.wf):SOk (setS s n q).2:=by
 unfold setS
 split
 ·rename_i c
  exact hk.upd fun hi=> right_POk c.1 c.2 hw
 ·exact hk
def readR (h:Hp) (v:V) (h':Hp):Option Sta→Prop
 | none=> v= .tup [.s (.pointer none),.s (.bool false)]∧Fw [] h h'
 | some s=> SOk s∧∃F,v= .tup [.ptr h.length [0] 1,.s (.bool true)]∧STR h' h.length s F∧Fw [] h h'∧∀j∈F,h.length≤j
theorem read_ok (b:Nat) (h:Hp) (x z:Int) (f:Bool) (l:Bs) (hl:l.length≤100000) (hb:b≤h.length) (h1:1≤z) (h2:z≤8) (h3:0≤x) (h4:x < z):
 ∃v h',run fns pr b 102 [.s (.int .i64 x),.s (.int .i64 z),.imm f none (l.map byteV)] h=some (v,h')∧readR h v h' (readO x z l):=by
 refine Vm.runQ (nt:=65) rfl fit102 (by simp) ?_
 obtain ⟨v1,H1,e1,F1,rfl,s1,f1,n1⟩:=SNew_ok b h x z hb h1 h2 h3 h4
 have hlx:∀cf base H f (l:Bs),opV cf base H .len [.imm f none (l.map byteV)]=some (.s (.int .i64 (l.length:Nat)),H):=fun cf base H f l=> by rw[o_lenI];simp
 unfold readO
 by_cases c0:l.length < 2
 ·have c0':((l.length:Nat):Int)< 2:=by omega
  rw[if_pos c0]
  simp only[B102,B102R0,B102L0,e1,hlx,c0',go_sem,↓reduceIte,Nat.reduceEqDiff,Nat.reduceBEq,Nat.reduceAdd,Nat.reduceSub,Nat.reduceLT,Nat.reduceLeDiff,Int.reduceLT,Int.reduceLE,Int.reduceEq,Int.reduceToNat]
  exact ⟨rfl,f1⟩
 have c0':¬((l.length:Nat):Int)< 2:=by omega
 rw[if_neg c0]
 have hs2:∀cf base H,opV cf base H (.slc none true false false) [.imm f none (l.map byteV),.s (.int .i64 2)]=some (.imm f none ((l.drop 2).map byteV),H):=fun cf base H=> slc_lo cf base H f l .i64 2 (by omega)
 simp only[B102,B102R0,B102L0,e1,hlx,c0',hs2,go_sem,↓reduceIte,Nat.reduceEqDiff,Nat.reduceBEq,Nat.reduceAdd,Nat.reduceSub,Nat.reduceLT,Nat.reduceLeDiff,Int.reduceLT,Int.reduceLE,Int.reduceEq,Int.reduceToNat]
 have hdl:(l.drop 2).length≤100000:=by rw[List.length_drop];omega
 generalize l.drop 2=l2 at *
 have k0:=SOk.new h1 h2 h3 h4
 generalize Sta.new x z=S0 at *
 refine wp_for (fun q e H=>∃(i:Nat) (s:Sta) (m:Bs) (F':List Nat) (f:Bool),q=16 - i∧i≤16∧e 25= .s (.int .i64 (i:Nat))∧e 8= .ptr h.length [0] 1∧e 2= .imm f none (m.map byteV)∧readI S0 l2 i=some (s,m)∧m.length≤l2.length∧SOk s∧STR H h.length s F'∧Fw [] h H∧∀j∈F',h.length≤j)
   (fun e H=>∃(s:Sta) (m:Bs) (F':List Nat),e 8= .ptr h.length [0] 1∧readI S0 l2 16=some (s,m)∧SOk s∧STR H h.length s F'∧Fw [] h H∧∀j∈F',h.length≤j)
   16 _ _ ⟨0,S0,l2,F1,f,rfl,by omega,rfl,rfl,rfl,rfl,Nat.le_refl _,k0,s1,f1,n1⟩ ?_ ?_
 ·rintro q e H ⟨i,s,m,F',f,rfl,hi,e25,e8,e2,hri,hml,hk,hs,fw,hn⟩
  by_cases ci:i < 16
  ·have ci':(i:Int)< 16:=by omega
   have w1:IntKind.i64.wrap ((i:Int)+1)=((i+1:Nat):Int):=q18z (by omega)
   have hnone:readI S0 l2 (i+1)=none→readI S0 l2 16=none:=fun hh=> by
     have:=q26z hh (16 - (i+1))
     rwa [show i+1+(16 - (i+1))=16 by omega] at this
   have hnx:readI S0 l2 (i+1)=match partI m with
     | none=> none
     | some (q,rest)=> if (setS s i q).1≠0 then none else some ((setS s i q).2,rest):=by rw[readI,hri]
   by_cases c11:m.length < 11
   ·have c11':((m.length:Nat):Int)< 11:=by omega
    have hp:partI m=none:=by unfold partI;rw[if_pos c11]
    rw[hp] at hnx
    have hz:=hnone hnx
    simp only[e25,e8,e2,ci',hlx,c11',hz,Option.map_none,go_sem,↓reduceIte,Nat.reduceEqDiff,Nat.reduceBEq,Nat.reduceAdd,Nat.reduceSub,Nat.reduceLT,Nat.reduceLeDiff,Int.reduceLT,Int.reduceLE,Int.reduceEq,Int.reduceToNat]
    exact ⟨rfl,fw⟩
   have c11':¬((m.length:Nat):Int)< 11:=by omega
   have hs11:∀cf base H,opV cf base H (.slc none true false false) [.imm f none (m.map byteV),.s (.int .i64 11)]=some (.imm f none ((m.drop 11).map byteV),H):=fun cf base H=> slc_lo cf base H f m .i64 11 (by omega)
   have hs1:∀cf base H,opV cf base H (.slc none true false false) [.imm f none (m.map byteV),.s (.int .i64 1)]=some (.imm f none ((m.drop 1).map byteV),H):=fun cf base H=> slc_lo cf base H f m .i64 1 (by omega)
   have hsr:∀H,SR H (.imm f none (m.map byteV)) none (m.map byteV):=fun H=> .inl ⟨f,rfl⟩
   have i1:=fun cf base H (n:Nat) (hn:n < m.length)=>(hsr H).o_ias (cf:=cf) (base:=base) (k:= .i64) (i:=n) (by simpa using hn)
   have i2:=fun cf base H (n:Nat) (hn:n < m.length)=>(hsr H).o_ld (cf:=cf) (base:=base) (i:=n) (v:=byteV (m.getD n 0)) (by rw[List.getElem?_map,List.getD,List.getElem?_eq_getElem hn];rfl) rfl
   have a10:∀cf base H,opV cf base H (.ias none) [.imm f none (m.map byteV),.s (.int .i64 10)]=some (eltP (.imm f none (m.map byteV)) 10,H):=fun cf base H=> i1 cf base H 10 (by omega)
   have b10:=fun cf base H=> i2 cf base H 10 (by omega)
   have a0:∀cf base H,opV cf base H (.ias none) [.imm f none (m.map byteV),.s (.int .i64 0)]=some (eltP (.imm f none (m.map byteV)) 0,H):=fun cf base H=> i1 cf base H 0 (by omega)
   have b0:=fun cf base H=> i2 cf base H 0 (by omega)
   have a9:∀cf base H,opV cf base H (.ias none) [.imm f none (m.map byteV),.s (.int .i64 9)]=some (eltP (.imm f none (m.map byteV)) 9,H):=fun cf base H=> i1 cf base H 9 (by omega)
   have b9:=fun cf base H=> i2 cf base H 9 (by omega)
   have hby:∀y:UInt8,IntKind.i64.wrap (y.toNat:Int)=(y.toNat:Nat):=fun y=> wrap_i64 (by omega) (by have:=y.toNat_lt;omega)
   have hiv:=fun b H=> ivaults_ok b H f (m.drop 11) (m.getD 10 0).toNat (by rw[List.length_drop];omega) (by have:=(m.getD 10 0).toNat_lt;omega)
   have hnu:=fun b H=> number_imm b H f (m.drop 1) (by rw[List.length_drop];omega)
   have hpm:partI m=match vaultsI (m.getD 10 0).toNat (m.drop 11) with
     | none=> none
     | some (vs,r)=> some (⟨((m.getD 0 0).toNat:Nat),(beN ((m.drop 1).take 8):Nat),((m.getD 9 0).toNat:Nat),vs⟩,r):=by unfold partI;rw[if_neg c11]
   have hpf:=fun q r=> partI_facts (l:=m) (q:=q) (m:=r)
   generalize vaultsI (m.getD 10 0).toNat (m.drop 11)=W at *
   cases W with
   | none=>
     simp only at hpm
     rw[hpm] at hnx
     have hz:=hnone hnx
     simp only[e25,e8,e2,ci',hlx,c11',hs11,a10,b10,byteV,hby,hiv,vaultsV,hz,Option.map_none,go_sem,↓reduceIte,Nat.reduceEqDiff,Nat.reduceBEq,Nat.reduceAdd,Nat.reduceSub,Nat.reduceLT,Nat.reduceLeDiff,Int.reduceLT,Int.reduceLE,Int.reduceEq,Int.reduceToNat]
     exact ⟨rfl,fw⟩
   | some W=>
     obtain ⟨vs,r⟩:=W
     simp only at hpm
     obtain ⟨p1,p2,p3,p4⟩:=hpf _ _ hpm
     rw[hpm] at hnx
     simp only[vaultsV] at hiv
     have hnu2:∀b H,run fns pr b 119 [.imm f none ((m.drop 1).map byteV)] H=some (.s (.int .u64 (beN ((m.drop 1).take 8):Nat)),H):=hnu
     generalize hq:(⟨((m.getD 0 0).toNat:Nat),(beN ((m.drop 1).take 8):Nat),((m.getD 9 0).toNat:Nat),vs⟩:Prt)=q at *
     obtain ⟨v2,H2,e2',rfl,F2,s2,f2,n2⟩:=Set_ok b H h.length i s F' q (fun j hj=> Nat.le_trans hb (hn j hj)) hs ci (by omega) p3
     have k2:=setS_ok (n:=i) hk p3
     simp only at hnx
     have hqr:q.role=((m.getD 0 0).toNat:Nat)∧q.epoch=(beN ((m.drop 1).take 8):Nat)∧q.to=((m.getD 9 0).toNat:Nat)∧q.vs=vs:=by rw[←hq];exact ⟨rfl,rfl,rfl,rfl⟩
     obtain ⟨q1,q2,q3,q4⟩:=hqr
     rw[q1,q2,q3,q4] at e2'
     generalize setS s i q=Z at *
     have fw2:Fw [] h H2:=fw.new f2 (fun j hj=> .inl (hn j hj))
     have n3:∀j∈F2,h.length≤j:=fun j hj=>(n2 j hj).elim (hn j) fun h1=> by have:=fw.len;omega
     by_cases cz:Z.1=0
     ·rw[if_neg (by simp[cz])] at hnx
      rw[cz] at e2'
      simp only[e25,e8,e2,ci',hlx,c11',hs11,a10,b10,byteV,hby,hiv,hs1,hnu2,a0,b0,a9,b9,e2',w1,go_sem,↓reduceIte,Nat.reduceEqDiff,Nat.reduceBEq,Nat.reduceAdd,Nat.reduceSub,Nat.reduceLT,Nat.reduceLeDiff,Int.reduceLT,Int.reduceLE,Int.reduceEq,Int.reduceToNat]
      exact ⟨16 - (i+1),by omega,i+1,_,r,F2,false,rfl,by omega,rfl,rfl,hnx,by omega,k2,s2,fw2,n3⟩
     ·rw[if_pos cz] at hnx
      have hz:=hnone hnx
      simp only[e25,e8,e2,ci',hlx,c11',hs11,a10,b10,byteV,hby,hiv,hs1,hnu2,a0,b0,a9,b9,e2',cz,hz,Option.map_none,go_sem,↓reduceIte,Nat.reduceEqDiff,Nat.reduceBEq,Nat.reduceAdd,Nat.reduceSub,Nat.reduceLT,Nat.reduceLeDiff,Int.reduceLT,Int.reduceLE,Int.reduceEq,Int.reduceToNat]
      exact ⟨rfl,fw2⟩
  ·have ci':¬(i:Int)< 16:=by omega
   obtain rfl:i=16:=by omega
   simp only[e25,e8,e2,ci',go_sem,↓reduceIte,Nat.reduceEqDiff,Nat.reduceBEq,Nat.reduceAdd,Nat.reduceSub,Nat.reduceLT,Nat.reduceLeDiff,Int.reduceLT,Int.reduceLE,Int.reduceEq,Int.reduceToNat]
   exact ⟨s,m,F',hri,hk,hs,fw,hn⟩
 ·rintro e H ⟨s,m,F',e8,hri,hk,hs,fw,hn⟩
  simp only[e8,hri,Option.map_some,go_sem,↓reduceIte,Nat.reduceEqDiff,Nat.reduceBEq,Nat.reduceAdd,Nat.reduceSub,Nat.reduceLT,Nat.reduceLeDiff,Int.reduceLT,Int.reduceLE,Int.reduceEq,Int.reduceToNat]
  exact ⟨hk,F',rfl,hs,fw,hn⟩
def ofI (a b:Int) (l:Bs):Option Sta:=match readO a b l with
 | none=> none
 | some s=> if imgB s=l then some s else none
def ofR (h:Hp) (v:V) (h':Hp):Option Sta→Prop
 | none=> v= .tup [.s (.pointer none),.s (.int .i64 12)]∧Fw [] h h'
 | some s=> SOk s∧∃F,v= .tup [.ptr h.length [0] 1,.s (.int .i64 0)]∧STR h' h.length s F∧Fw [] h h'∧∀j∈F,h.length≤j
theorem Of_ok (b:Nat) (h:Hp) (x z:Int) (f:Bool) (l:Bs) (hl:l.length≤100000) (hb:b≤h.length) (h1:1≤z) (h2:z≤8) (h3:0≤x) (h4:x < z):
 ∃v h',run fns pr b 73 [.s (.int .i64 x),.s (.int .i64 z),.imm f none (l.map byteV)] h=some (v,h')∧ofR h v h' (ofI x z l):=by
 obtain ⟨v1,H1,e1,r1⟩:=read_ok b h x z f l hl hb h1 h2 h3 h4
 refine Vm.runQ (nt:=27) rfl fit73 (by simp) ?_
 unfold ofI
 cases hr:readO x z l with
 | none=>
   rw[hr] at r1
   obtain ⟨rfl,f1⟩:=r1
   simp only[B73,e1,go_sem,↓reduceIte,Nat.reduceEqDiff,Nat.reduceBEq,Nat.reduceAdd,Nat.reduceSub,Nat.reduceLT,Nat.reduceLeDiff,Int.reduceLT,Int.reduceLE,Int.reduceEq,Int.reduceToNat]
   exact ⟨rfl,f1⟩
 | some s=>
   rw[hr] at r1
   obtain ⟨hk,F,rfl,hs,f1,hn⟩:=r1
   have hby:=fun b=> Bytes_ok b H1 h.length s F hs hk
   have heq:=fun b f=> Equal_ok b H1 (.imm false none ((imgB s).map byteV)) (.imm f none (l.map byteV)) (imgB s) l (BR_imm _ _ _) (BR_imm _ _ _)
   simp only
   by_cases c:imgB s=l
   ·rw[if_pos c]
    have cd:decide (imgB s=l)=true:=decide_eq_true c
    simp only[B73,e1,hby,heq,cd,go_sem,↓reduceIte,Nat.reduceEqDiff,Nat.reduceBEq,Nat.reduceAdd,Nat.reduceSub,Nat.reduceLT,Nat.reduceLeDiff,Int.reduceLT,Int.reduceLE,Int.reduceEq,Int.reduceToNat]
    exact ⟨hk,F,rfl,hs,f1,hn⟩
   ·rw[if_neg c]
    have cd:decide (imgB s=l)=false:=decide_eq_false c
    simp only[B73,e1,hby,heq,cd,go_sem,↓reduceIte,Nat.reduceEqDiff,Nat.reduceBEq,Nat.reduceAdd,Nat.reduceSub,Nat.reduceLT,Nat.reduceLeDiff,Int.reduceLT,Int.reduceLE,Int.reduceEq,Int.reduceToNat]
    exact ⟨rfl,f1⟩
theorem beN8 {m:Bs} (hm:m.length=8):beN m < 18446744073709551616:=by
 have:=beN_lt m 8 (by omega)
 rwa [List.take_of_length_le (by omega)] at this
theorem vsS_wf (s:Bs×Bool):∀n,∀v∈(vsS n s).1,v.wf
 | 0=> by simp[vsS]
 | n+1=> by
   have ih:=vsS_wf s n
   have hw:=vaultS_wf (vsS n s).2
   intro v hv
   simp only[vsS] at hv
   generalize vsS n s=x at *
   rcases List.mem_append.1 hv with h | h
   ·exact ih v h
   ·simp only[List.mem_singleton] at h
    rw[h];exact hw
theorem zeroV_wf :zeroV.wf:=by
 refine ⟨?_,?_,?_,?_,?_,?_,?_,?_,?_⟩<;> first | trivial | decide
theorem recS_wf (s:Bs×Bool):(recS s).1.wf:=by
 unfold recS
 have b0:=fun l=> byte0_lt l
 generalize takeS 1 s=s1
 obtain ⟨k,s1⟩:=s1
 simp only
 have hk:=b0 k
 split
 ·have hw:=vaultS_wf s1
  generalize vaultS s1=x at *
  obtain ⟨v,x⟩:=x
  exact ⟨by simp,by simp,by simp,by simp,hw,by simp⟩
 ·split
  ·generalize takeS 1 s1=s2
   obtain ⟨a,s2⟩:=s2
   simp only
   generalize takeS 1 s2=s3
   obtain ⟨t,s3⟩:=s3
   simp only
   have hl:=q20z 8 s3
   generalize takeS 8 s3=s4 at *
   obtain ⟨e,s4⟩:=s4
   simp only at hl ⊢
   have h1:=b0 a
   have h2:=b0 t
   have h3:=beN8 hl
   exact ⟨by simp,by simp only;omega,by simp only;omega,by simp only;omega,zeroV_wf,by simp⟩
  ·split
   ·generalize takeS 1 s1=s2
    obtain ⟨a,s2⟩:=s2
    simp only
    have hl:=q20z 8 s2
    generalize takeS 8 s2=s3 at *
    obtain ⟨e,s3⟩:=s3
    simp only at hl ⊢
    generalize takeS 1 s3=s4
    obtain ⟨n,s4⟩:=s4
    simp only
    have hv:=vsS_wf s4 (min (byte0 n) 5)
    have hvl:=vsS_len (min (byte0 n) 5) s4
    generalize vsS (min (byte0 n) 5) s4=s5 at *
    obtain ⟨vs,s5⟩:=s5
    simp only at hv hvl ⊢
    have h1:=b0 a
    have h3:=beN8 hl
    exact ⟨by simp,by simp only;omega,by simp,by simp only;omega,zeroV_wf,by simp only;omega,hv⟩
   ·split
    ·generalize takeS 1 s1=s2
     obtain ⟨a,s2⟩:=s2
     simp only
     have hl:=q20z 8 s2
     generalize takeS 8 s2=s3 at *
     obtain ⟨e,s3⟩:=s3
     simp only at hl ⊢
     have h1:=b0 a
     have h3:=beN8 hl
     exact ⟨by simp,by simp only;omega,by simp,by simp only;omega,zeroV_wf,by simp⟩
    ·exact ⟨by simp only;omega,by simp,by simp,by simp,zeroV_wf,by simp⟩
theorem zeroRec_wf :zeroRec.wf:=⟨by simp[zeroRec],by simp[zeroRec],by simp[zeroRec],by simp[zeroRec],zeroV_wf,by simp[zeroRec]⟩
theorem toRecB_wf (l:Bs):(toRecB l).1.wf:=by
 have hw:=recS_wf (l,false)
 unfold toRecB
 generalize recS (l,false)=x at *
 split
 ·exact zeroRec_wf
 ·exact hw
theorem openR_wf (k:Bs) (n:Nat) (prev l:Bs):(openR k n prev l).1.wf:=by
 unfold openR
 split
 ·exact zeroRec_wf
 ·exact toRecB_wf _
theorem framesJ_wf {k:Bs} {K:Dk} {base:Nat} {h:Bs}:∀ {n:Nat} {l:List Record} {h1:Bs},framesJ k K base h n=some (l,h1)→∀r∈l,r.wf
 | 0,l,h1,e=> by cases e;simp
 | n+1,l,h1,e=> by
   rw[framesJ] at e
   split at e
   ·cases e
   ·rename_i l2 h2 e2
    have ih:=framesJ_wf e2
    have hw:=openR_wf k (base+n+1) h2 ((K.get (2+(n:Nat))).getD [])
    generalize openR k (base+n+1) h2 ((K.get (2+(n:Nat))).getD [])=x at *
    split at e
    ·cases e
    ·simp only[Option.some.injEq,Prod.mk.injEq] at e
     obtain ⟨rfl,rfl⟩:=e
     intro r hr
     rcases List.mem_append.1 hr with h | h
     ·exact ih r h
     ·simp only[List.mem_singleton] at h
      rw[h];exact hw
theorem loadJ_wf (k:Bs) (K:Dk) (r:Register):∀x∈(loadJ k K r).2.1,x.wf:=by
 unfold loadJ
 split
 ·simp
 ·split
  ·simp
  ·split
   ·simp
   ·rename_i l h e
    have:=framesJ_wf e
    split
    ·exact this
    ·simp
theorem openB_len {k:Bs} {n:Nat} {ad b t:Bs} (h:openB k n ad b=some t):t.length≤8192:=by
 unfold openB at h
 split at h
 ·simp only at h
  split at h
  ·cases h
   rw[hidB_len,List.length_take];omega
  ·cases h
 ·cases h
theorem baseJ_len (k:Bs) (K:Dk) (r:Register):(baseJ k K r).1.length≤8192:=by
 unfold baseJ
 split
 ·simp
 ·split
  ·simp
  ·split
   ·exact openB_len (by assumption)
   ·simp
theorem loadJ_len (k:Bs) (K:Dk) (r:Register):(loadJ k K r).1.length≤8192:=by
 have hb:=baseJ_len k K r
 unfold loadJ
 split
 ·simp
 ·split
  ·simp
  ·split
   ·simp
   ·split
    ·exact hb
    ·simp
theorem loadJ_cnt (k:Bs) (K:Dk) (r:Register) (hw:r.wf):(loadJ k K r).2.1.length≤8:=by
 have:=held_lim r hw
 unfold loadJ
 split
 ·simp
 ·split
  ·simp
  ·split
   ·simp
   ·rename_i l h e
    have:=framesJ_len e
    split
    ·simp only;omega
    ·simp
def foldA :Sta→List Record→Option Sta
 | s,[]=> some s
 | s,r::l=> if (applyS s r).1≠0 then none else foldA (applyS s r).2 l
def Dev.begin (D:Dev):Option Sta:=if 0 < D.r.base then ofI D.mem D.mems (loadJ D.key D.dk D.r).1 else some (Sta.new D.mem D.mems)
def Dev.load (D:Dev):Option Sta:=if (loadJ D.key D.dk D.r).2.2≠0 then none else match D.begin with
 | none=> none
 | some s=> foldA s (loadJ D.key D.dk D.r).2.1
def loadR (h:Hp) (v:V) (h':Hp):Option Sta→Prop
 | none=> v= .tup [.s (.pointer none),.s (.bool false)]∧Fw [] h h'
 | some s=> SOk s∧∃sid F,v= .tup [.ptr sid [0] 1,.s (.bool true)]∧STR h' sid s F∧Fw [] h h'∧∀j∈F,h.length≤j
structure DM (D:Dev):Prop where
 m1:1≤D.mems
 m2:D.mems≤8
 m3:0≤D.mem
 m4:D.mem < D.mems
theorem dload_ok (b:Nat) (h:Hp) (id:Nat) (D:Dev) (F:List Nat) (hb:b≤h.length) (hd:DVR h id D F) (hm:DM D) (hw:D.r.wf):
 ∃v h',run fns pr b 37 [.ptr id [0] 1] h=some (v,h')∧loadR h v h' D.load:=by
 obtain ⟨did,sp,sid,Fs,hd⟩:=hd
 have hg:=hd.o
 have hlo:=fun b=> Load_ok b h did D.key D.dk D.r hd.kl hw hd.d
 have hjl:=loadJ_len D.key D.dk D.r
 have hjw:=loadJ_wf D.key D.dk D.r
 have hjc:=loadJ_cnt D.key D.dk D.r hw
 refine Vm.runQ (nt:=71) rfl fit37 (by simp) ?_
 unfold Dev.load Dev.begin
 simp only[devV] at hg
 generalize loadJ D.key D.dk D.r=J at *
 obtain ⟨im,L,why⟩:=J
 simp only[loadV] at hlo hjl hjw hjc ⊢
 have hDr:D.r.enc=V.st 53 [.s (.int .u64 D.r.boot),.s (.int .u64 D.r.count),.s (.int .u64 D.r.base),.arr 25 (D.r.head.map byteV),.s (.int .i64 D.r.point)]:=rfl
 rw[hDr] at hg hlo
 by_cases c0:why=0
 case neg=>
   rw[if_pos c0]
   simp only[B37,B37R0,B37L0,hg,hlo,ty_dig,c0,go_sem,↓reduceIte,Nat.reduceEqDiff,Nat.reduceBEq,Nat.reduceAdd,Nat.reduceSub,Nat.reduceLT,Nat.reduceLeDiff,Int.reduceLT,Int.reduceLE,Int.reduceEq,Int.reduceToNat]
   exact ⟨rfl,Fw.refl _ _⟩
 rw[if_neg (by simp[c0])]
 obtain ⟨v1,H1,e1,F1,rfl,s1,f1,n1⟩:=SNew_ok b h D.mem D.mems hb hm.m1 hm.m2 hm.m3 hm.m4
 have hg1:=(hd.mono f1 (by simp)).o
 simp only[devV] at hg1
 rw[hDr] at hg1
 have hlx:∀cf base H,opV cf base H .len [.imm false (some 41) (L.map Record.enc)]=some (.s (.int .i64 (L.length:Nat)),H):=fun cf base H=> by rw[o_lenI];simp
 by_cases cb:0 < D.r.base
 ·rw[if_pos cb]
  obtain ⟨v2,H2,e2,r2⟩:=Of_ok b H1 D.mem D.mems false im (by omega) (Nat.le_trans hb f1.len) hm.m1 hm.m2 hm.m3 hm.m4
  cases ho:ofI D.mem D.mems im with
  | none=>
    rw[ho] at r2
    obtain ⟨rfl,f2⟩:=r2
    simp only[B37,B37R0,B37L0,hg,hlo,ty_dig,c0,e1,hg1,cb,e2,go_sem,↓reduceIte,Nat.reduceEqDiff,Nat.reduceBEq,Nat.reduceAdd,Nat.reduceSub,Nat.reduceLT,Nat.reduceLeDiff,Int.reduceLT,Int.reduceLE,Int.reduceEq,Int.reduceToNat]
    exact ⟨rfl,f1.trans f2⟩
  | some S0=>
    rw[ho] at r2
    obtain ⟨k0,F0,rfl,s0,f2,n2⟩:=r2
    simp only[B37,B37R0,B37L0,hg,hlo,ty_dig,c0,e1,hg1,cb,e2,hlx,go_sem,↓reduceIte,Nat.reduceEqDiff,Nat.reduceBEq,Nat.reduceAdd,Nat.reduceSub,Nat.reduceLT,Nat.reduceLeDiff,Int.reduceLT,Int.reduceLE,Int.reduceEq,Int.reduceToNat]
    refine wp_for (fun q e H=>∃(i:Nat) (s:Sta) (F':List Nat),q=L.length - i∧i≤L.length∧e 61= .s (.int .i64 (i:Nat))∧e 60= .s (.int .i64 (L.length:Nat))∧e 59= .imm false (some 41) (L.map Record.enc)∧e 7= .ptr H1.length [0] 1∧foldA S0 L=foldA s (L.drop i)∧SOk s∧STR H H1.length s F'∧Fw [] h H∧∀j∈F',h.length≤j)
      (fun e H=>∃(s:Sta) (F':List Nat),e 7= .ptr H1.length [0] 1∧foldA S0 L=some s∧SOk s∧STR H H1.length s F'∧Fw [] h H∧∀j∈F',h.length≤j)
      L.length _ _ ⟨0,S0,F0,by omega,by omega,rfl,rfl,rfl,rfl,rfl,k0,s0,(f1.trans f2),(fun j hj=> Nat.le_trans f1.len (n2 j hj))⟩ ?_ ?_
    ·rintro q e H ⟨i,s,F',rfl,hi,e61,e60,e59,e7,hfo,hk,hs,fw,hn⟩
     by_cases ci:i < L.length
     ·have ci':(i:Int)<((L.length:Nat):Int):=by omega
      have w1:IntKind.i64.wrap ((i:Int)+1)=((i+1:Nat):Int):=q18z (by omega)
      have hv:L[i]? =some L[i]:=List.getElem?_eq_getElem ci
      have hdr:L.drop i=L[i]::L.drop (i+1):=List.drop_eq_getElem_cons ci
      have hrw:=hjw _ (List.getElem_mem ci)
      generalize L[i]=x at hv hdr hrw
      rw[hdr] at hfo
      have hsr:SR H (.imm false (some 41) (L.map Record.enc)) (some 41) (L.map Record.enc):= .inl ⟨false,rfl⟩
      have i1:=fun cf base=> hsr.o_ias (cf:=cf) (base:=base) (k:= .i64) (i:=i) (by simpa using ci)
      have i2:=fun cf base=> hsr.o_ld (cf:=cf) (base:=base) (i:=i) (v:=x.enc) (by rw[List.getElem?_map,hv];rfl) rfl
      have fP:Fw [] H (H++[Blk.cells (some 41) [x.enc]]):=Fw.app [] H _
      have hbH:b≤H.length:=Nat.le_trans hb fw.len
      have hor:∀y,(decide (b≤H.length) || y)=true:=fun y=> by rw[decide_eq_true hbH];rfl
      obtain ⟨v3,H3,e3,rfl,F3,s3,f3,n3⟩:=Apply_ok b _ H1.length s F' x (fun j hj=> Nat.le_trans hb (hn j hj)) (hs.mono fP (by simp)) hk hrw hrw.vaults.2
      have k3:=apply_ok hk hrw hrw.vaults.2
      simp only[foldA] at hfo
      generalize applyS s x=Z at *
      have fw3:Fw [] h H3:=(fw.trans fP).new f3 (fun j hj=> .inl (hn j hj))
      have hn3:∀j∈F3,h.length≤j:=fun j hj=>(n3 j hj).elim (hn j) fun h1=> by have:=fw.len;have:=fP.len;omega
      by_cases cz:Z.1=0
      ·rw[if_neg (by simp[cz])] at hfo
       rw[cz] at e3
       simp only[e61,e60,e59,e7,ci',i1,i2,rec_ty,rec_so,hor,e3,w1,go_sem,↓reduceIte,Nat.reduceEqDiff,Nat.reduceBEq,Nat.reduceAdd,Nat.reduceSub,Nat.reduceLT,Nat.reduceLeDiff,Int.reduceLT,Int.reduceLE,Int.reduceEq,Int.reduceToNat]
       exact ⟨L.length - (i+1),by omega,i+1,_,F3,rfl,by omega,rfl,hfo,k3,s3,fw3,hn3⟩
      ·rw[if_pos cz] at hfo
       simp only[e61,e60,e59,e7,ci',i1,i2,rec_ty,rec_so,hor,e3,cz,hfo,go_sem,↓reduceIte,Nat.reduceEqDiff,Nat.reduceBEq,Nat.reduceAdd,Nat.reduceSub,Nat.reduceLT,Nat.reduceLeDiff,Int.reduceLT,Int.reduceLE,Int.reduceEq,Int.reduceToNat]
       exact ⟨rfl,fw3⟩
     ·have ci':¬(i:Int)<((L.length:Nat):Int):=by omega
      obtain rfl:i=L.length:=by omega
      rw[List.drop_length] at hfo
      simp only[e61,e60,e59,e7,ci',go_sem,↓reduceIte,Nat.reduceEqDiff,Nat.reduceBEq,Nat.reduceAdd,Nat.reduceSub,Nat.reduceLT,Nat.reduceLeDiff,Int.reduceLT,Int.reduceLE,Int.reduceEq,Int.reduceToNat]
      exact ⟨s,F',hfo,hk,hs,fw,hn⟩
    ·rintro e H ⟨s,F',e7,hfo,hk,hs,fw,hn⟩
     simp only[e7,hfo,go_sem,↓reduceIte,Nat.reduceEqDiff,Nat.reduceBEq,Nat.reduceAdd,Nat.reduceSub,Nat.reduceLT,Nat.reduceLeDiff,Int.reduceLT,Int.reduceLE,Int.reduceEq,Int.reduceToNat]
     exact ⟨hk,_,F',rfl,hs,fw,hn⟩
 ·rw[if_neg cb]
  simp only[B37,B37R0,B37L0,hg,hlo,ty_dig,c0,e1,hg1,cb,hlx,go_sem,↓reduceIte,Nat.reduceEqDiff,Nat.reduceBEq,Nat.reduceAdd,Nat.reduceSub,Nat.reduceLT,Nat.reduceLeDiff,Int.reduceLT,Int.reduceLE,Int.reduceEq,Int.reduceToNat]
  have k0:=SOk.new hm.m1 hm.m2 hm.m3 hm.m4
  refine wp_for (fun q e H=>∃(i:Nat) (s:Sta) (F':List Nat),q=L.length - i∧i≤L.length∧e 61= .s (.int .i64 (i:Nat))∧e 60= .s (.int .i64 (L.length:Nat))∧e 59= .imm false (some 41) (L.map Record.enc)∧e 7= .ptr h.length [0] 1∧foldA (Sta.new D.mem D.mems) L=foldA s (L.drop i)∧SOk s∧STR H h.length s F'∧Fw [] h H∧∀j∈F',h.length≤j)
    (fun e H=>∃(s:Sta) (F':List Nat),e 7= .ptr h.length [0] 1∧foldA (Sta.new D.mem D.mems) L=some s∧SOk s∧STR H h.length s F'∧Fw [] h H∧∀j∈F',h.length≤j)
    L.length _ _ ⟨0,(Sta.new D.mem D.mems),F1,by omega,by omega,rfl,rfl,rfl,rfl,rfl,k0,s1,f1,n1⟩ ?_ ?_
  ·rintro q e H ⟨i,s,F',rfl,hi,e61,e60,e59,e7,hfo,hk,hs,fw,hn⟩
   by_cases ci:i < L.length
   ·have ci':(i:Int)<((L.length:Nat):Int):=by omega
    have w1:IntKind.i64.wrap ((i:Int)+1)=((i+1:Nat):Int):=q18z (by omega)
    have hv:L[i]? =some L[i]:=List.getElem?_eq_getElem ci
    have hdr:L.drop i=L[i]::L.drop (i+1):=List.drop_eq_getElem_cons ci
    have hrw:=hjw _ (List.getElem_mem ci)
    generalize L[i]=x at hv hdr hrw
    rw[hdr] at hfo
    have hsr:SR H (.imm false (some 41) (L.map Record.enc)) (some 41) (L.map Record.enc):= .inl ⟨false,rfl⟩
    have i1:=fun cf base=> hsr.o_ias (cf:=cf) (base:=base) (k:= .i64) (i:=i) (by simpa using ci)
    have i2:=fun cf base=> hsr.o_ld (cf:=cf) (base:=base) (i:=i) (v:=x.enc) (by rw[List.getElem?_map,hv];rfl) rfl
    have fP:Fw [] H (H++[Blk.cells (some 41) [x.enc]]):=Fw.app [] H _
    have hbH:b≤H.length:=Nat.le_trans hb fw.len
    have hor:∀y,(decide (b≤H.length) || y)=true:=fun y=> by rw[decide_eq_true hbH];rfl
    obtain ⟨v3,H3,e3,rfl,F3,s3,f3,n3⟩:=Apply_ok b _ h.length s F' x (fun j hj=> Nat.le_trans hb (hn j hj)) (hs.mono fP (by simp)) hk hrw hrw.vaults.2
    have k3:=apply_ok hk hrw hrw.vaults.2
    simp only[foldA] at hfo
    generalize applyS s x=Z at *
    have fw3:Fw [] h H3:=(fw.trans fP).new f3 (fun j hj=> .inl (hn j hj))
    have hn3:∀j∈F3,h.length≤j:=fun j hj=>(n3 j hj).elim (hn j) fun h1=> by have:=fw.len;have:=fP.len;omega
    by_cases cz:Z.1=0
    ·rw[if_neg (by simp[cz])] at hfo
     rw[cz] at e3
     simp only[e61,e60,e59,e7,ci',i1,i2,rec_ty,rec_so,hor,e3,w1,go_sem,↓reduceIte,Nat.reduceEqDiff,Nat.reduceBEq,Nat.reduceAdd,Nat.reduceSub,Nat.reduceLT,Nat.reduceLeDiff,Int.reduceLT,Int.reduceLE,Int.reduceEq,Int.reduceToNat]
     exact ⟨L.length - (i+1),by omega,i+1,_,F3,rfl,by omega,rfl,hfo,k3,s3,fw3,hn3⟩
    ·rw[if_pos cz] at hfo
     simp only[e61,e60,e59,e7,ci',i1,i2,rec_ty,rec_so,hor,e3,cz,hfo,go_sem,↓reduceIte,Nat.reduceEqDiff,Nat.reduceBEq,Nat.reduceAdd,Nat.reduceSub,Nat.reduceLT,Nat.reduceLeDiff,Int.reduceLT,Int.reduceLE,Int.reduceEq,Int.reduceToNat]
     exact ⟨rfl,fw3⟩
   ·have ci':¬(i:Int)<((L.length:Nat):Int):=by omega
    obtain rfl:i=L.length:=by omega
    rw[List.drop_length] at hfo
    simp only[e61,e60,e59,e7,ci',go_sem,↓reduceIte,Nat.reduceEqDiff,Nat.reduceBEq,Nat.reduceAdd,Nat.reduceSub,Nat.reduceLT,Nat.reduceLeDiff,Int.reduceLT,Int.reduceLE,Int.reduceEq,Int.reduceToNat]
    exact ⟨s,F',hfo,hk,hs,fw,hn⟩
  ·rintro e H ⟨s,F',e7,hfo,hk,hs,fw,hn⟩
   simp only[e7,hfo,go_sem,↓reduceIte,Nat.reduceEqDiff,Nat.reduceBEq,Nat.reduceAdd,Nat.reduceSub,Nat.reduceLT,Nat.reduceLeDiff,Int.reduceLT,Int.reduceLE,Int.reduceEq,Int.reduceToNat]
   exact ⟨hk,_,F',rfl,hs,fw,hn⟩
theorem DVP.setN {F Fs Fs':List Nat} {h:Hp} {id did sid sid':Nat} {D D':Dev} {sp sp':V} (hd:DVP h id D F did sp sid Fs) (h1:D'.dk=D.dk) (h2:D'.is=1→sp'= .ptr sid' [0] 1∧STR h sid' D'.st Fs') (h3:D'.key.length=16)
 (ty:sp'.ty=none) (so:sp'.solid=true) (n2:id∉Fs') (n3:did∉Fs') (fl:∀j∈Fs',j < h.length):
 DVP (h.set id (.cells (some 71) (devV D' sp' did))) id D' (id::did::Fs') did sp' sid' Fs'∧Fw F h (h.set id (.cells (some 71) (devV D' sp' did))):=by
 have f:Fw [id] h (h.set id (.cells (some 71) (devV D' sp' did))):=Fw.set (by simp) hd.o
 obtain ⟨o,d,s,_,_,rfl,n1,_,_,fl0,kl⟩:=hd
 refine ⟨⟨q9z o,by rw[h1];exact d.mono f (by simp[Ne.symm n1]),fun hi=> ?_,ty,so,rfl,n1,n2,n3,fun j hj=> ?_,h3⟩,f.mono (by simp)⟩
 ·obtain ⟨c,e⟩:=h2 hi
  exact ⟨c,e.mono f (fun j hj=> by simp;rintro rfl;exact n2 hj)⟩
 ·simp only[List.mem_cons] at hj
  rcases hj with rfl | rfl | hj
  ·exact f.lt (fl0 _ (by simp))
  ·exact f.lt (fl0 _ (by simp))
  ·exact f.lt (fl j hj)
def Dev.new (a b:Int) (k:Bs):Dev:=⟨a,b,keyB k [bt a],1,Sta.new a b,Dk.new,zeroG,0, -1,0⟩
theorem zeroG_wf :zeroG.wf:=⟨by simp[zeroG],by simp[zeroG],by simp[zeroG],rfl,by simp[zeroG]⟩
theorem DOk.new {a b:Int} (k:Bs) (h1:1≤b) (h2:b≤8) (h3:0≤a) (h4:a < b):DOk 0 0 (Dev.new a b k):=
 ⟨Nat.le_refl _,by simp[Dev.new],by simp[Dev.new],by simp[Dev.new],by rfl,zeroG_wf,fun _=> SOk.new h1 h2 h3 h4,.inl rfl⟩
theorem DNew_ok (b:Nat) (h:Hp) (x z:Int) (k:Bs) (hb:b≤h.length) (hk:k.length=16) (h1:1≤z) (h2:z≤8) (h3:0≤x) (h4:x < z):
 ∃v h',run fns pr b 20 [.s (.int .i64 x),.s (.int .i64 z),.arr 25 (k.map byteV)] h=some (v,h')∧∃id F,v= .tup [.ptr id [0] 1,.s (.int .i64 0)]∧DVR h' id (Dev.new x z k) F∧Fw [] h h'∧∀j∈F,h.length≤j:=by
 refine Vm.runQ (nt:=23) rfl fit20 (by simp) ?_
 have hkl:(k.map byteV).length=16:=by simp[hk]
 have fA:Fw [] h (h++[Blk.cells (some 25) [.arr 25 (k.map byteV)]]):=Fw.app [] h _
 have gA:(h++[Blk.cells (some 25) [.arr 25 (k.map byteV)]])[h.length]? =some (Blk.cells (some 25) [.arr 25 (k.map byteV)]):=get_app0 _ _
 have lA:=fA.len
 generalize hHA:h++[Blk.cells (some 25) [.arr 25 (k.map byteV)]]=HA at *
 obtain ⟨v1,H1,e1,F1,rfl,s1,f1,n1⟩:=SNew_ok b HA x z (Nat.le_trans hb lA) h1 h2 h3 h4
 have g1:=f1.old _ _ gA (by simp)
 have hky:=fun b=> EKey_ok b H1 k x hk
 obtain ⟨v2,H2,e2,rfl,d2,f2⟩:=Dsk.new_ok b H1
 simp only[Dsk.R] at e2
 have s2:=s1.mono f2 (by simp)
 have hl1:=f1.len
 have hl2:=f2.len
 simp only[B20,hHA,hkl,e1,g1,hky,ty_dig,e2,go_sem,↓reduceIte,Nat.reduceEqDiff,Nat.reduceBEq,Nat.reduceAdd,Nat.reduceSub,Nat.reduceLT,Nat.reduceLeDiff,Int.reduceLT,Int.reduceLE,Int.reduceEq,Int.reduceToNat]
 have f3:Fw [] H2 (H2++[Blk.cells (some 71) (devV (Dev.new x z k) (.ptr HA.length [0] 1) H1.length)]):=Fw.app [] H2 _
 have hl3:=d2.lt
 have hF1:=s1.lt
 refine ⟨H2.length,H2.length::H1.length::F1,rfl,⟨H1.length,.ptr HA.length [0] 1,HA.length,F1,?_,d2.mono f3 (by simp),fun _=>⟨rfl,s2.mono f3 (by simp)⟩,rfl,rfl,rfl,by omega,fun hm=> ?_,fun hm=> ?_,fun j hj=> ?_,?_⟩,fA.trans (f1.trans (f2.trans f3)),fun j hj=> ?_⟩
 ·exact get_app0 _ _
 ·have:=hF1 _ hm;omega
 ·have:=hF1 _ hm;omega
 ·simp only[List.mem_cons] at hj
  rcases hj with rfl | rfl | hj
  ·simp
  ·simp;omega
  ·have:=hF1 _ hj;simp;omega
 ·simp[Dev.new,keyB,sumB_len]
 ·simp only[List.mem_cons] at hj
  rcases hj with rfl | rfl | hj
  ·omega
  ·omega
  ·have:=n1 _ hj;omega
def Dev.booted (D:Dev):Dev:= {D with r:=(bootG D.r).1}
def Dev.up (D:Dev) (s:Sta):Dev:= {D.booted with is:=1,st:=s}
def Dev.start (D:Dev):Int×Dev:=
 if D.is=1 then (14,D) else if D.is=3 then (28,D) else if (bootG D.r).2=false then (31,D)
 else match D.booted.load with
   | none=>(28, {D.booted with is:=3})
   | some s=> if heldG (bootG D.r).1=8 then (if (D.up s).fold.1=false then 29 else 0,(D.up s).fold.2) else (0,D.up s)
theorem q29z {r:Register} (hw:r.wf) (h:(bootG r).2=true):(bootG r).1=⟨r.boot+1,r.count,r.base,r.head,r.point⟩∧rightG (bootG r).1=true∧(bootG r).1.wf:=by
 unfold bootG soG at h ⊢
 split at h
 ·rename_i c
  rw[if_pos c]
  have:=q11z c.1
  obtain ⟨w1,w2,w3,w4,w5⟩:=hw
  exact ⟨rfl,c.2,⟨by simp only;omega,w2,w3,w4,w5⟩⟩
 ·cases h
theorem Start_ok (b:Nat) (h:Hp) (id:Nat) (D:Dev) (F:List Nat) (hF:∀j∈F,b≤j) (hd:DVR h id D F) (N:Int) (hN:N < 1000000000 - 20) (hk:DOk 0 N D) (hm:DM D):
 ∃v h',run fns pr b 15 [.ptr id [0] 1] h=some (v,h')∧v= .s (.int .i64 D.start.1)∧∃F',DVR h' id D.start.2 F'∧Fw F h h'∧∀j∈F',j∈F∨h.length≤j:=by
 have hd0:=hd
 obtain ⟨did,sp,sid,Fs,hd⟩:=hd
 have hg:=hd.o
 have hid:=hd.fl id (by rw[hd.f];simp)
 have hb1:b≤id:=hF _ (by rw[hd.f];simp)
 have hbh:b≤h.length:=by omega
 have hbo:=fun b H=> Boot_ok b H D.r hk.gw
 refine Vm.runQ (nt:=54) rfl fit15 (by simp) ?_
 unfold Dev.start
 simp only[devV] at hg
 by_cases i1:D.is=1
 ·rw[if_pos i1]
  simp only[B15,hg,i1,go_sem,↓reduceIte,Nat.reduceEqDiff,Nat.reduceBEq,Nat.reduceAdd,Nat.reduceSub,Nat.reduceLT,Nat.reduceLeDiff,Int.reduceLT,Int.reduceLE,Int.reduceEq,Int.reduceToNat]
  exact ⟨F,hd0,Fw.refl _ _,fun j hj=> .inl hj⟩
 rw[if_neg i1]
 by_cases i3:D.is=3
 ·rw[if_pos i3]
  simp only[B15,hg,i1,i3,go_sem,↓reduceIte,Nat.reduceEqDiff,Nat.reduceBEq,Nat.reduceAdd,Nat.reduceSub,Nat.reduceLT,Nat.reduceLeDiff,Int.reduceLT,Int.reduceLE,Int.reduceEq,Int.reduceToNat]
  exact ⟨F,hd0,Fw.refl _ _,fun j hj=> .inl hj⟩
 rw[if_neg i3]
 have hor:∀x,(decide (b≤h.length) || x)=true:=fun x=> by rw[decide_eq_true hbh];rfl
 cases c2:(bootG D.r).2 with
 | false=>
   rw[if_pos rfl]
   rw[c2] at hbo
   simp only[B15,hg,i1,i3,Register.enc_ty,Register.enc_so,hbo,hor,go_sem,↓reduceIte,Nat.reduceEqDiff,Nat.reduceBEq,Nat.reduceAdd,Nat.reduceSub,Nat.reduceLT,Nat.reduceLeDiff,Int.reduceLT,Int.reduceLE,Int.reduceEq,Int.reduceToNat]
   exact ⟨F,hd0.app _,(Fw.app [] h _).mono (by simp),fun j hj=> .inl hj⟩
 | true=>
   rw[if_neg (by simp)]
   rw[c2] at hbo
   obtain ⟨hn1,hn2,hn3⟩:=q29z hk.gw c2
   have fB:Fw [] h (h++[Blk.cells (some 53) [(bootG D.r).1.enc]]):=Fw.app [] h _
   have pB:=hd.mono fB (by simp)
   have gB1:(h++[Blk.cells (some 53) [(bootG D.r).1.enc]])[h.length]? =some (Blk.cells (some 53) [(bootG D.r).1.enc]):=get_app0 _ _
   have lB:=fB.len
   generalize hHB:h++[Blk.cells (some 53) [(bootG D.r).1.enc]]=HB at *
   obtain ⟨p1,f1⟩:=pB.setO (D':=D.booted) rfl (fun h=>⟨h,rfl⟩) hd.kl
   have hgB:=pB.o
   have hlt:=q6z hgB
   have hgs:∀B,(HB.set id B)[id]? =some B:=fun B=> q9z hgB
   obtain ⟨v2,H2,e2,r2⟩:=dload_ok b _ id D.booted F (by rw[List.length_set];omega) ⟨_,_,_,_,p1⟩ ⟨hm.m1,hm.m2,hm.m3,hm.m4⟩ hn3
   have hty:=hd.ty
   have hso:=hd.so
   cases hL:D.booted.load with
   | none=>
     rw[hL] at r2
     obtain ⟨rfl,f2⟩:=r2
     have p2:=p1.mono f2 (by simp)
     obtain ⟨p3,f3⟩:=p2.setN (D':= {D.booted with is:=3}) (sp':= .s (.pointer none)) (sid':=0) (Fs':=[]) rfl (fun h=> by cases h) hd.kl rfl rfl (by simp) (by simp) (by simp)
     have hg2:=p2.o
     have hgs2:∀B,(H2.set id B)[id]? =some B:=fun B=> q9z hg2
     have hlt2:=q6z hg2
     simp only[devV] at hgB e2 hg2 p3 f3
     simp only[Dev.booted] at e2 hg2 p3 f3 ⊢
     simp only[B15,hg,i1,i3,Register.enc_ty,Register.enc_so,hbo,hor,hHB,gB1,hgB,hgs,hb1,hlt,List.set_set,hty,hso,e2,hg2,hgs2,hlt2,go_sem,↓reduceIte,Nat.reduceEqDiff,Nat.reduceBEq,Nat.reduceAdd,Nat.reduceSub,Nat.reduceLT,Nat.reduceLeDiff,Int.reduceLT,Int.reduceLE,Int.reduceEq,Int.reduceToNat]
     refine ⟨_,⟨_,_,_,_,p3⟩,(fB.mono (by simp)).trans (f1.trans ((f2.mono (by simp)).trans f3)),fun j hj=> ?_⟩
     simp only[List.mem_cons,List.not_mem_nil,or_false] at hj
     left
     rw[hd.f]
     rcases hj with rfl | rfl <;> simp
   | some s=>
     rw[hL] at r2
     obtain ⟨k2,sid2,F2,rfl,s2,f2,n2⟩:=r2
     have p2:=p1.mono f2 (by simp)
     have hdidl:=hd.fl did (by rw[hd.f];simp)
     have n2':∀j∈F2,h.length≤j:=fun j hj=> by have:=n2 j hj;rw[List.length_set] at this;omega
     obtain ⟨p3,f3⟩:=p2.setN (D':=D.up s) (sp':= .ptr sid2 [0] 1) (sid':=sid2) (Fs':=F2) rfl (fun _=>⟨rfl,s2⟩) hd.kl rfl rfl (fun hm=> by have:=n2' _ hm;omega) (fun hm=> by have:=n2' _ hm;omega) s2.lt
     have k3:DOk 0 N (D.up s):=⟨hk.pend,hk.s0,hk.s1,hk.f1,hn2,hn3,fun _=> k2,.inl rfl⟩
     have hn3':∀j∈id::did::F2,j∈F∨h.length≤j:=fun j hj=> by
       simp only[List.mem_cons] at hj
       rw[hd.f]
       rcases hj with rfl | rfl | hj
       ·left;simp
       ·left;simp
       ·exact .inr (n2' _ hj)
     have hF3:∀j∈id::did::F2,b≤j:=fun j hj=>(hn3' j hj).elim (hF j) fun h1=> by omega
     have fh3:=(fB.mono (T:=F) (by simp)).trans (f1.trans ((f2.mono (by simp)).trans f3))
     have hhe:=fun b H=> Held_ok b H (bootG D.r).1 hn3
     have hg2:=p2.o
     have hgs2:∀B,(H2.set id B)[id]? =some B:=fun B=> q9z hg2
     have hlt2:=q6z hg2
     have fo:=fold_ok b _ id (D.up s) _ hF3 ⟨_,_,_,_,p3⟩ N (by omega) k3 rfl
     simp only[devV] at hgB e2 hg2
     by_cases c8:heldG (bootG D.r).1=8
     ·simp only
      rw[if_pos c8]
      obtain ⟨v6,H6,e6,rfl,d6,f6⟩:=fo
      generalize (D.up s).fold=Z at *
      have fin:∃F',DVR H6 id Z.2 F'∧Fw F h H6∧∀j∈F',j∈F∨h.length≤j:=⟨_,d6,fh3.new f6 (fun j hj=>(hn3' j hj).symm),hn3'⟩
      simp only[devV,Dev.up,Dev.booted] at e2 hg2 e6
      cases c9:Z.1 with
      | false=>
        rw[c9] at e6
        simp only[B15,hg,i1,i3,Register.enc_ty,Register.enc_so,hbo,hor,hHB,gB1,hgB,hgs,hb1,hlt,List.set_set,hty,hso,e2,hg2,hgs2,hlt2,hhe,c8,e6,go_sem,↓reduceIte,Nat.reduceEqDiff,Nat.reduceBEq,Nat.reduceAdd,Nat.reduceSub,Nat.reduceLT,Nat.reduceLeDiff,Int.reduceLT,Int.reduceLE,Int.reduceEq,Int.reduceToNat]
        exact fin
      | true=>
        rw[c9] at e6
        simp only[B15,hg,i1,i3,Register.enc_ty,Register.enc_so,hbo,hor,hHB,gB1,hgB,hgs,hb1,hlt,List.set_set,hty,hso,e2,hg2,hgs2,hlt2,hhe,c8,e6,go_sem,↓reduceIte,Nat.reduceEqDiff,Nat.reduceBEq,Nat.reduceAdd,Nat.reduceSub,Nat.reduceLT,Nat.reduceLeDiff,Int.reduceLT,Int.reduceLE,Int.reduceEq,Int.reduceToNat]
        exact fin
     ·simp only
      rw[if_neg c8]
      have fin:∃F',DVR _ id (D.up s) F'∧Fw F h _∧∀j∈F',j∈F∨h.length≤j:=⟨_,⟨_,_,_,_,p3⟩,fh3,hn3'⟩
      simp only[devV,Dev.up,Dev.booted] at e2 hg2 fin
      simp only[B15,hg,i1,i3,Register.enc_ty,Register.enc_so,hbo,hor,hHB,gB1,hgB,hgs,hb1,hlt,List.set_set,hty,hso,e2,hg2,hgs2,hlt2,hhe,c8,go_sem,↓reduceIte,Nat.reduceEqDiff,Nat.reduceBEq,Nat.reduceAdd,Nat.reduceSub,Nat.reduceLT,Nat.reduceLeDiff,Int.reduceLT,Int.reduceLE,Int.reduceEq,Int.reduceToNat]
      exact fin
theorem View_ok (b:Nat) (h:Hp) (id:Nat) (D:Dev) (F:List Nat) (hb:b≤h.length) (hd:DVR h id D F) (hk:D.is=1→SOk D.st):
 ∃v h',run fns pr b 11 [.ptr id [0] 1] h=some (v,h')∧(if D.is=1 then ∃F',v= .ptr h.length [0] 1∧STR h' h.length D.st F'∧Fw [] h h'∧∀j∈F',h.length≤j else v= .s (.pointer none)∧h'=h):=by
 obtain ⟨did,sp,sid,Fs,hd⟩:=hd
 have hg:=hd.o
 refine Vm.runQ (nt:=13) rfl fit11 (by simp) ?_
 by_cases i1:D.is=1
 ·obtain ⟨rfl,hs⟩:=hd.s i1
  obtain ⟨v2,H2,e2,F2,rfl,s2,f2,n2⟩:=SCopy_ok b h sid D.st Fs hb hs (hk i1)
  simp only[devV] at hg
  simp only[i1,if_true]
  simp only[B11,hg,i1,e2,go_sem,↓reduceIte,Nat.reduceEqDiff,Nat.reduceBEq,Nat.reduceAdd,Nat.reduceSub,Nat.reduceLT,Nat.reduceLeDiff,Int.reduceLT,Int.reduceLE,Int.reduceEq,Int.reduceToNat]
  exact ⟨F2,s2,f2,n2⟩
 ·simp only[devV] at hg
  simp only[i1,if_false]
  simp only[B11,hg,i1,go_sem,↓reduceIte,Nat.reduceEqDiff,Nat.reduceBEq,Nat.reduceAdd,Nat.reduceSub,Nat.reduceLT,Nat.reduceLeDiff,Int.reduceLT,Int.reduceLE,Int.reduceEq,Int.reduceToNat]
theorem xor_xor (a s:UInt8):s ^^^(s ^^^ a)=a:=by
 apply UInt8.toNat_inj.1
 simp[UInt8.toNat_xor,←Nat.xor_assoc]
theorem xorB_self :∀(s l:Bs),l.length≤s.length→xorB s (xorB s l)=l
 | s,[],_=> by simp[xorB]
 | [],a::l,h=> by simp at h
 | b::s,a::l,h=> by
   have:=xorB_self s l (by simpa using h)
   simp only[xorB,List.zipWith_cons_cons] at this ⊢
   rw[this,xor_xor]
theorem hid_hid (k:Bs) (n:Nat) (l:Bs):hidB k n (hidB k n l)=l:=by
 have h:(xorB (streamB k n l.length) l).length=l.length:=hidB_len k n l
 unfold hidB
 rw[h]
 exact xorB_self _ _ (by rw[streamB_len];exact Nat.le_refl _)
theorem open_seal (k:Bs) (n:Nat) (ad l:Bs) (h1:l.length≤8184) (h2:ad.length≤8192):openB k n ad (sealB k n ad l)=some l:=by
 have hl:=sealB_len k n ad l h1 h2
 have hh:=hidB_len k n l
 have hc:8≤(sealB k n ad l).length∧(sealB k n ad l).length≤8192∧ad.length≤8192:=⟨by omega,by omega,h2⟩
 unfold openB
 rw[if_pos hc,hl,Nat.add_sub_cancel]
 have hs:sealB k n ad l=hidB k n l++markB k n ad l:=by unfold sealB;rw[if_pos ⟨h1,h2⟩]
 rw[hs]
 have e1:(hidB k n l++markB k n ad l).take l.length=hidB k n l:=by rw[←hh];exact List.take_left
 have e2:(hidB k n l++markB k n ad l).drop l.length=markB k n ad l:=by rw[←hh];exact List.drop_left
 simp only[e1,e2,hid_hid,if_true]
theorem open_frame (k:Bs) (n:Nat) (prev:Bs) (r:Record) (hp:prev.length=16) (hw:r.wf) (hr:rightR r=true):openR k n prev (frameB k n prev r).1=(r,0):=by
 have hl:=recB_len hr hw hw.vaults.2
 unfold openR frameB
 rw[if_pos hr]
 simp only
 rw[open_seal k n prev (recB r) (by omega) (by omega)]
 exact toRecB_B r hw hw.vaults.2 hr
def HD (mem mems:Int) (key:Bs) (K:Dk) (r:Register) (S:Sta):Prop:=
 ∃im h0 L S0,baseJ key K r=(im,h0,0)∧framesJ key K r.base.toNat h0 (heldG r).toNat=some (L,r.head)∧(if 0 < r.base then ofI mem mems im else some (Sta.new mem mems))=some S0∧foldA S0 L=some S
theorem HD.load {D:Dev} {S:Sta} (hg:rightG D.r=true) (h:HD D.mem D.mems D.key D.dk D.r S):D.load=some S:=by
 obtain ⟨im,h0,L,S0,h1,h2,h3,h4⟩:=h
 have hj:loadJ D.key D.dk D.r=(im,L,0):=by
   unfold loadJ
   rw[if_neg (by simp[hg]),h1]
   simp only[ne_eq,not_true_eq_false,if_false,h2,if_true]
 unfold Dev.load Dev.begin
 rw[hj]
 simp only[ne_eq,not_true_eq_false,if_false]
 rw[h3]
 exact h4
def sameK (K K':Dk) (r:Register):Prop:=(0 < r.base→K'.get r.point=K.get r.point)∧∀i:Nat,(i:Int)< heldG r→K'.get (2+(i:Int))=K.get (2+(i:Int))
theorem frames_same {k:Bs} {K K':Dk} {base:Nat} {h:Bs}:∀(n:Nat),(∀i:Nat,i < n→K'.get (2+(i:Int))=K.get (2+(i:Int)))→framesJ k K' base h n=framesJ k K base h n
 | 0,_=> rfl
 | n+1,hs=> by
   rw[framesJ,framesJ,frames_same n (fun i hi=> hs i (by omega)),hs n (by omega)]
theorem HD.same {mem mems:Int} {key:Bs} {K K':Dk} {r:Register} {S:Sta} (h:HD mem mems key K r S) (hb:0≤r.base) (hs:sameK K K' r):HD mem mems key K' r S:=by
 obtain ⟨im,h0,L,S0,h1,h2,h3,h4⟩:=h
 refine ⟨im,h0,L,S0,?_,?_,h3,h4⟩
 ·rw[←h1]
  unfold baseJ
  by_cases c:r.base=0
  ·rw[if_pos c,if_pos c]
  ·rw[if_neg c,if_neg c,hs.1 (by omega)]
 ·rw[←h2]
  exact frames_same _ fun i hi=> hs.2 i (by omega)
theorem q19z {r:Register} (h:rightG r=true):heldG r=r.count - r.base:=by unfold heldG;rw[if_pos h]
theorem HD.boot {mem mems:Int} {key:Bs} {K:Dk} {r:Register} {S:Sta} (h:HD mem mems key K r S) (hw:r.wf) (hb:(bootG r).2=true) (hr:rightG r=true):HD mem mems key K (bootG r).1 S:=by
 obtain ⟨e1,e2,_⟩:=q29z hw hb
 obtain ⟨im,h0,L,S0,h1,h2,h3,h4⟩:=h
 have hh:heldG (bootG r).1=heldG r:=by rw[q19z e2,q19z hr,e1]
 refine ⟨im,h0,L,S0,?_,?_,?_,h4⟩
 ·rw[e1];exact h1
 ·rw[hh,e1];exact h2
 ·rw[e1];exact h3
theorem foldA_snoc {S0 S:Sta} {r:Record}:∀(L:List Record),foldA S0 L=some S→(applyS S r).1=0→foldA S0 (L++[r])=some (applyS S r).2
 | [],h,h0=> by
   cases h
   simp[foldA,h0]
 | x::L,h,h0=> by
   simp only[foldA,List.cons_append] at h ⊢
   split at h
   ·cases h
   ·rename_i c
    rw[if_neg c]
    revert h
    generalize (applyS S0 x).2=S1
    intro h
    exact foldA_snoc L h h0
theorem apply0 {s:Sta} (hk:SOk s) {r:Record} (h:checkS s r=0):(applyS s r).1=0:=by
 have hr:=check0 h
 unfold applyS
 rw[if_neg (by simp[h])]
 by_cases k1:r.kind=1
 ·rw[if_pos k1]
  unfold checkS at h
  rw[if_neg (by simp[hr]),if_pos k1] at h
  have hrv:rightV r.vault=true:=by unfold rightR at hr;rw[if_pos k1] at hr;simp at hr;simp[hr]
  have hro:=keep0 hk h
  simp only
  unfold putT
  rw[if_neg (by simp[hrv])]
  by_cases c:((s.p (shardOf r.vault.iD)).vs[pos (s.p (shardOf r.vault.iD)).vs r.vault.iD]?).map Vault.iD=some r.vault.iD
  ·rw[if_pos c]
  ·rw[if_neg c,if_neg]
   have:getT (s.p (shardOf r.vault.iD)).vs r.vault.iD=none:=by unfold getT;rw[if_neg c]
   have:=hro this
   omega
 ·rw[if_neg k1]
  split
  ·rfl
  ·split <;> rfl
theorem HD.next {mem mems:Int} {key:Bs} {K:Dk} {r:Register} {S:Sta} {x:Record} {l:Bs} (h:HD mem mems key K r S) (hw:r.wf) (hx:x.wf) (hk:SOk S) (hc:checkS S x=0)
 (hl:l=(frameB key (r.count.toNat+1) r.head x).1) (hn:(nextG r (headB r.head l)).2=true) (hg:K.get (2+heldG r)=some l):HD mem mems key K (nextG r (headB r.head l)).1 (applyS S x).2:=by
 have hhl:(headB r.head l).length=16:=by simp[headB,keyB,sumB_len]
 obtain ⟨e1,e2,e3,_⟩:=q30z hw hhl hn
 have hr:=check0 hc
 obtain ⟨im,h0,L,S0,h1,h2,h3,h4⟩:=h
 have hlim:=q11z e2
 have hh:(heldG (nextG r (headB r.head l)).1).toNat=(heldG r).toNat+1:=by rw[q19z e3,q19z e2,e1];simp only;omega
 have hd2:(2+((heldG r).toNat:Nat):Int)=2+heldG r:=by rw[q19z e2];omega
 have hcn:r.base.toNat+(heldG r).toNat+1=r.count.toNat+1:=by rw[q19z e2];have:=hw.base;omega
 refine ⟨im,h0,L++[x],S0,?_,?_,?_,foldA_snoc L h4 (apply0 hk hc)⟩
 ·rw[e1];exact h1
 ·rw[hh,framesJ,e1]
  simp only[h2,hd2,hg,hcn,Option.getD_some,Option.isSome_some]
  rw[hl,open_frame key _ r.head x hw.head hx hr]
  simp
 ·rw[e1];exact h3
theorem toVaultB_B (v:Vault) (hw:v.wf) (hr:rightV v=true) (rest:Bs):toVaultB (vaultB v++rest)=(v,((vaultB v).length:Int),0):=by
 have h:=vaultS_B v hw hr rest false
 unfold toVaultB
 rw[h]
 simp only[Bool.false_eq_true,if_false]
 rw[List.length_append,Nat.add_sub_cancel]
theorem vaultsI_B (l:List Vault) (h:∀v∈l,rightV v=true∧v.wf) (rest:Bs):∀n,n≤l.length→vaultsI n (l.flatMap vaultB++rest)=some (l.take n,(l.drop n).flatMap vaultB++rest)
 | 0,_=> rfl
 | n+1,hn=> by
   have ih:=vaultsI_B l h rest n (by omega)
   have hd:l.drop n=l[n]::l.drop (n+1):=List.drop_eq_getElem_cons (by omega)
   obtain ⟨h1,h2⟩:=h _ (List.getElem_mem (show n < l.length by omega))
   rw[vaultsI,ih,hd,List.flatMap_cons,List.append_assoc]
   have ht:=toVaultB_B l[n] h2 h1 ((l.drop (n+1)).flatMap vaultB++rest)
   simp only[ht,Int.toNat_natCast,List.drop_left,ne_eq,not_true_eq_false,if_false,List.take_succ_eq_append_getElem (show n < l.length by omega)]
theorem partI_B {s:Sta} {i:Nat} {q:Prt} (h:POk s i q) (rest:Bs) (hs:s.mems≤8∧0≤s.mem):partI (partB q++rest)=some (q,rest):=by
 obtain ⟨role,epoch,to,vs⟩:=q
 obtain ⟨a1,a2,a3,a4,a5,a6,a7,a8,a9⟩:=h
 simp only at a1 a2 a3 a4 a5 a6 a7 a8 a9
 have r1:(((bt role).toNat:Nat):Int)=role:=bt_nat (by omega) (by omega)
 have r2:(((bt to).toNat:Nat):Int)=to:=bt_nat (by rcases a1 with h | h | h <;> first | (have:=a5 (by omega);omega) | (have:=a4 h;omega)) (by rcases a1 with h | h | h <;> first | (have:=a5 (by omega);omega) | (have:=a4 h;omega))
 have r3:(bt (vs.length:Int)).toNat=vs.length:=by have:=bt_nat (n:=(vs.length:Int)) (by omega) (by omega);omega
 have r4:((beN (numB epoch.toNat):Nat):Int)=epoch:=by rw[beN_numB _ (by omega)];omega
 have hv:=vaultsI_B vs (fun v hv=>⟨(a9 v hv).1,(a9 v hv).2.1⟩) rest vs.length (Nat.le_refl _)
 rw[List.take_length,List.drop_length,List.flatMap_nil,List.nil_append] at hv
 obtain ⟨n,hn⟩:∃n,numB epoch.toNat=n:=⟨_,rfl⟩
 have hnl:n.length=8:=by rw[←hn];exact numB_len _
 rw[hn] at r4
 match n,hnl with
 | [n0,n1,n2,n3,n4,n5,n6,n7],_=>
   unfold partI partB
   simp only[hn,List.cons_append,List.nil_append,List.append_assoc]
   rw[if_neg (by simp)]
   simp only[List.getD_cons_zero,List.getD_cons_succ,List.drop_succ_cons,List.drop_zero,r3,hv,List.take_succ_cons,List.take_zero,r1,r2]
   rw[r4]
def partsF (s:Sta) (n:Nat):Bs:=(List.range (16 - n)).flatMap fun i=> partB (s.p (n+i))
theorem partsF_zero (s:Sta):partsF s 0=partsB s 16:=by simp[partsF,partsB]
theorem partsF_succ (s:Sta) (n:Nat) (h:n < 16):partsF s n=partB (s.p n)++partsF s (n+1):=by
 unfold partsF
 rw[show 16 - n=(16 - (n+1))+1 by omega,List.range_succ_eq_map,List.flatMap_cons,List.flatMap_map]
 have hf:(fun i=> partB (s.p (n+(i+1))))=fun i=> partB (s.p (n+1+i)):=funext fun i=> by rw[show n+(i+1)=n+1+i by omega]
 simp only[Nat.add_zero,Nat.succ_eq_add_one]
 rw[hf]
theorem mixS_succ (s t:Sta) (n:Nat):(mixS s t n).upd n (s.p n)=mixS s t (n+1):=by
 simp only[mixS,Sta.upd,Sta.mk.injEq,true_and]
 funext j
 by_cases h:j=n
 ·subst h;simp
 ·simp only[h,if_false]
  by_cases h1:j < n
  ·simp[h1,show j < n+1 by omega]
  ·simp[h1,show ¬j < n+1 by omega]
theorem readI_B {s:Sta} (hk:SOk s):∀n,n≤16→readI (mixS s (Sta.new s.mem s.mems) 0) (partsF s 0) n=some (mixS s (Sta.new s.mem s.mems) n,partsF s n)
 | 0,_=> rfl
 | n+1,hn=> by
   have ih:=readI_B hk n (by omega)
   have ok:=hk.p n (by omega)
   have hp:=partI_B ok (partsF s (n+1)) ⟨hk.m2,hk.m3⟩
   have hst:setS (mixS s (Sta.new s.mem s.mems) n) n (s.p n)=(0,mixS s (Sta.new s.mem s.mems) (n+1)):=by
     unfold setS;rw[if_pos (ok.right (t:=mixS s (Sta.new s.mem s.mems) n) rfl rfl),mixS_succ]
   rw[readI,ih,partsF_succ s n (by omega)]
   simp only[hp,hst,ne_eq,not_true_eq_false,if_false]
def beyond (s:Sta):Prop:=∀j,16≤j→s.p j=(Sta.new s.mem s.mems).p j
theorem ofI_B {s:Sta} (hk:SOk s) (hb:beyond s):ofI s.mem s.mems (imgB s)=some s:=by
 have h1:=readI_B hk 16 (Nat.le_refl _)
 have h0:mixS s (Sta.new s.mem s.mems) 0=Sta.new s.mem s.mems:=by simp[mixS,Sta.new]
 have h16:mixS s (Sta.new s.mem s.mems) 16=s:=by
   obtain ⟨m,ms,p⟩:=s
   simp only[mixS,Sta.mk.injEq,true_and]
   funext j
   by_cases h:j < 16
   ·simp[h]
   ·simp only[h,if_false]
    exact (hb j (by omega)).symm
 rw[h0,h16,partsF_zero] at h1
 have hr:readO s.mem s.mems (imgB s)=some s:=by
   unfold readO
   rw[if_neg (by simp[imgB])]
   have:(imgB s).drop 2=partsB s 16:=by simp[imgB]
   rw[this,h1]
   rfl
 unfold ofI
 rw[hr]
 simp
theorem beyond_upd {s:Sta} (hb:beyond s) {n:Nat} (hn:n < 16) (q:Prt):beyond (s.upd n q):=fun j hj=> by
 rw[upd_ne _ _ _ _ (by omega)]
 exact hb j hj
theorem beyond_apply {s:Sta} (hb:beyond s) {r:Record}:beyond (applyS s r).2:=by
 unfold applyS
 by_cases c0:checkS s r=0
 case neg=> rw[if_pos c0];exact hb
 rw[if_neg (by simp[c0])]
 have hr:=check0 c0
 by_cases k1:r.kind=1
 ·rw[if_pos k1];exact beyond_upd hb (shardOf_lt _) _
 ·rw[if_neg k1]
  have:=goes_kind hr k1
  split
  ·exact beyond_upd hb (by omega) _
  ·split
   ·exact beyond_upd hb (by omega) _
   ·exact beyond_upd hb (by omega) _
theorem imgB_len {s:Sta} (hk:SOk s):(imgB s).length≤8184:=by
 have:=q36z hk 16 (Nat.le_refl _)
 simp only[imgB,List.length_append,List.length_cons,List.length_nil];omega
theorem HD.fold {key:Bs} {K:Dk} {r:Register} {S:Sta} {l:Bs} (hw:r.wf) (hr:rightG r=true) (hc:r.base < r.count) (hk:SOk S) (hb:beyond S)
 (hl:l=(imageB key r (imgB S)).1) (hg:K.get (1 - r.point)=some l):HD S.mem S.mems key K (foldG r (sumB l)).1 S∧(foldG r (sumB l)).2=true∧(foldG r (sumB l)).1=⟨r.boot,r.count,r.count,sumB l,1 - r.point⟩:=by
 have hlim:=q11z hr
 have him:=imgB_len hk
 have hl2:l=sealB key r.count.toNat imgW (imgB S):=by rw[hl];unfold imageB;rw[if_neg (by omega)]
 have hr2:rightG ⟨r.boot,r.count,r.count,sumB l,1 - r.point⟩=true:=by
   unfold rightG
   simp only[Bool.and_eq_true,Bool.or_eq_true,decide_eq_true_eq]
   have:=hw.base
   exact ⟨⟨⟨⟨⟨by omega,by omega⟩,by omega⟩,by omega⟩,by omega⟩,.inl (by omega)⟩
 have hf:foldG r (sumB l)=(⟨r.boot,r.count,r.count,sumB l,1 - r.point⟩,true):=by
   unfold foldG soG
   rw[if_neg (by omega),if_pos ⟨hr,hr2⟩]
 rw[hf]
 refine ⟨⟨imgB S,sumB l,[],S,?_,?_,?_,rfl⟩,rfl,rfl⟩
 ·unfold baseJ
  simp only
  have:=hw.base
  rw[if_neg (by omega),hg,hl2]
  simp only[open_seal key r.count.toNat imgW (imgB S) him (by decide)]
 ·have hh:heldG ⟨r.boot,r.count,r.count,sumB l,1 - r.point⟩=0:=by rw[q19z hr2];simp
  rw[hh];rfl
 ·have:=hw.base
  rw[if_pos (by simp only;omega)]
  exact ofI_B hk hb
theorem step_f {D:Dev} (h:D.step.1=false):D.step.2=D.down D.torn:=by
 unfold Dev.step at h ⊢
 by_cases c:D.fuse=0
 ·rw[if_pos c]
 ·rw[if_neg c] at h;cases h
theorem step_t {D:Dev} (h:D.step.1=true):D.step.2= {D with fuse:=if 0 < D.fuse then D.fuse - 1 else D.fuse,steps:=D.steps+1}:=by
 unfold Dev.step at h ⊢
 by_cases c:D.fuse=0
 ·rw[if_pos c] at h;cases h
 ·rw[if_neg c]
theorem crash0 {K:Dk} (hp:K.pend=0) (t:Int):K.crash t= {K with now:=K.lasts,lasts:=K.lasts,pend:=0}:=by
 unfold Dk.crash Dk.torn
 rw[if_neg (by omega)]
theorem get_eq {K K':Dk} (h:K'.now=K.now) (i:Int):K'.get i=K.get i:=by unfold Dk.get;rw[h]
theorem get_set {K K':Dk} {n:Nat} {x:Option Bs} (h:K'.now=K.now.set n x) (i:Int) (hi:i≠n):K'.get i=K.get i:=by
 unfold Dk.get
 split
 ·rw[h,getD_set,if_neg (by omega)]
 ·rfl
theorem get_same {K K':Dk} {n:Nat} {x:Bs} (h:K'.now=K.now.set n (some x)) (hk:K.now.length=10) (hn:n < 10):K'.get (n:Int)=some x:=by
 unfold Dk.get
 rw[if_pos (by omega),h,getD_set,if_pos (by omega)]
structure LD (K K':Dk) (n:Int):Prop where
 nl:K'.now=K'.lasts
 p0:K'.pend=0
 ne:∀i:Int,i≠n→K'.get i=K.get i
 ok:K'.OK
theorem lay_dk {D:Dev} (hp:D.dk.pend=0) (hnl:D.dk.now=D.dk.lasts) (hk:D.dk.OK) (n:Int) (l:Bs):
 LD D.dk (D.lay n l).2.dk n∧((D.lay n l).1=true→Dk.takes n l=true→(D.lay n l).2.dk.get n=some l):=by
 have hc0:LD D.dk (D.dk.crash D.torn) n:=by
   rw[crash0 hp]
   exact ⟨rfl,rfl,fun i _=> get_eq hnl.symm i,⟨hk.lasts,hk.lasts,hk.at_,hk.ls,hk.ls,hk.last⟩⟩
 unfold Dev.lay
 cases c1:D.step.1 with
 | false=>
   rw[if_pos rfl,step_f c1]
   exact ⟨hc0,fun h=> by cases h⟩
 | true=>
   rw[if_neg (by simp),step_t c1]
   generalize hD1:({D with fuse:=if 0 < D.fuse then D.fuse - 1 else D.fuse,steps:=D.steps+1}:Dev)=D1
   have hdk:D1.dk=D.dk:=by rw[←hD1]
   have htn:D1.torn=D.torn:=by rw[←hD1]
   by_cases ct:Dk.takes n l=true
   ·have ct':=ct
    simp only[Dk.takes,Bool.and_eq_true,decide_eq_true_eq] at ct'
    obtain ⟨⟨t1,t2⟩,t3⟩:=ct'
    obtain ⟨m,rfl⟩:∃m:Nat,n=m:=⟨n.toNat,by omega⟩
    have hput:(D1.put m l).dk=D.dk.put m l:=by unfold Dev.put;simp only[ct,if_true,hdk,Int.toNat_natCast]
    have hok:=Dk.put_ok hk (n:=m) (l:=l) (by omega) t3
    cases c3:(D1.put m l).step.1 with
    | false=>
      rw[if_pos rfl,step_f c3]
      refine ⟨?_,fun h=> by cases h⟩
      have e:((D1.put m l).down (D1.put m l).torn).dk=(D.dk.put m l).crash (D1.put m l).torn:=by simp only[Dev.down,hput]
      rw[e]
      refine ⟨rfl,rfl,fun i hi=> ?_,Dk.crash_ok hok _⟩
      by_cases ctn:0 <(D.dk.put m l).pend∧0 <(D1.put m l).torn
      ·exact get_set (K:=D.dk) (n:=m) (x:=some (l.take (D1.put m l).torn.toNat)) (by simp only[Dk.crash,Dk.torn,ctn,and_self,if_true];simp only[Dk.put,hnl]) i hi
      ·exact get_eq (by simp only[Dk.crash,Dk.torn,ctn,if_false];simp only[Dk.put,hnl]) i
    | true=>
      rw[if_neg (by simp),step_t c3]
      have e:(D1.put m l).dk.sync=(D.dk.put m l).sync:=by rw[hput]
      simp only[e]
      refine ⟨⟨rfl,rfl,fun i hi=> get_set (K:=D.dk) (n:=m) (x:=some l) (by simp only[Dk.sync,Dk.put]) i hi,Dk.sync_ok hok⟩,fun _ _=> get_same (K:=D.dk) (by simp only[Dk.sync,Dk.put]) hk.now (by omega)⟩
   ·have hput:(D1.put n l).dk=D.dk:=by unfold Dev.put;simp only[ct,Bool.false_eq_true,if_false,hdk]
    cases c3:(D1.put n l).step.1 with
    | false=>
      rw[if_pos rfl,step_f c3]
      refine ⟨?_,fun h=> by cases h⟩
      have e:((D1.put n l).down (D1.put n l).torn).dk=D.dk.crash (D1.put n l).torn:=by simp only[Dev.down,hput]
      rw[e,crash0 hp]
      exact ⟨rfl,rfl,fun i _=> get_eq hnl.symm i,⟨hk.lasts,hk.lasts,hk.at_,hk.ls,hk.ls,hk.last⟩⟩
    | true=>
      rw[if_neg (by simp),step_t c3]
      have e:(D1.put n l).dk.sync=D.dk.sync:=by rw[hput]
      simp only[e]
      exact ⟨⟨rfl,rfl,fun i _=> get_eq rfl i,Dk.sync_ok hk⟩,fun _ h=> absurd h ct⟩
theorem step_ld {D:Dev} (hp:D.dk.pend=0) (hnl:D.dk.now=D.dk.lasts) (hk:D.dk.OK):D.step.2.dk.now=D.step.2.dk.lasts∧D.step.2.dk.pend=0∧(∀i,D.step.2.dk.get i=D.dk.get i)∧D.step.2.dk.OK:=by
 cases c1:D.step.1 with
 | false=>
   rw[step_f c1]
   simp only[Dev.down,crash0 hp]
   exact ⟨trivial,trivial,fun i=> get_eq hnl.symm i,⟨hk.lasts,hk.lasts,hk.at_,hk.ls,hk.ls,hk.last⟩⟩
 | true=>
   rw[step_t c1]
   exact ⟨hnl,hp,fun i=> rfl,hk⟩
structure HI0 (N:Int) (D:Dev):Prop where
 ok:DOk 0 N D
 dm:DM D
 dko:D.dk.OK
 nl:D.dk.now=D.dk.lasts
 sm:D.st.mem=D.mem∧D.st.mems=D.mems
 sk:SOk D.st
 bey:beyond D.st
 hd:HD D.mem D.mems D.key D.dk D.r D.st
 is:D.is=1∨D.is=2
 cn:D.r.count≤N∧D.r.boot≤N
structure HI (N:Int) (D:Dev):Prop extends HI0 N D where
 hl:D.is=1→heldG D.r < 8
theorem HI.new {a b:Int} (k:Bs) (h1:1≤b) (h2:b≤8) (h3:0≤a) (h4:a < b):HI 0 (Dev.new a b k):=by
 refine ⟨⟨DOk.new k h1 h2 h3 h4,⟨h1,h2,h3,h4⟩,Dk.new_ok,rfl,⟨rfl,rfl⟩,SOk.new h1 h2 h3 h4,fun j _=> rfl,⟨[],zero16,[],Sta.new a b,rfl,rfl,?_,rfl⟩,.inl rfl,show zeroG.count≤0∧zeroG.boot≤0 by decide⟩,fun _=> show heldG zeroG < 8 by decide⟩
 rw[if_neg (show ¬0 <(Dev.new a b k).r.base from (by decide:¬0 < zeroG.base))];rfl
theorem next_ok {r:Register} {hd:Bs} (hw:r.wf) (hr:rightG r=true) (hl:heldG r < 8) (hc:r.count < 1099511627776):(nextG r hd).2=true:=by
 have:=q11z hr
 rw[q19z hr] at hl
 have hr2:rightG ⟨r.boot,r.count+1,r.base,hd,r.point⟩=true:=by
   unfold rightG
   simp only[Bool.and_eq_true,Bool.or_eq_true,decide_eq_true_eq]
   have:=hw.base
   exact ⟨⟨⟨⟨⟨by omega,by omega⟩,by omega⟩,by omega⟩,by omega⟩,.inl (by omega)⟩
 unfold nextG soG
 rw[if_pos ⟨hr,hr2⟩]
theorem place_held {r:Register} (hl:heldG r < 8):placeG r=2+heldG r:=by unfold placeG;rw[if_neg (by omega)]
theorem HI0.mk' {N M:Int} {D E:Dev} (h:HI0 N D) (hs:D.same E) (hl:(E.dk.now=E.dk.lasts∧E.dk.OK∧sameK D.dk E.dk D.r)) (hok:DOk 0 M E) (hN:N≤M) (hi:E.is=D.is∨E.is=2):HI0 M E:=by
 obtain ⟨m1,m2,m3,m4,m5⟩:=hs
 obtain ⟨l1,l2,l3⟩:=hl
 refine ⟨hok,⟨by rw[m2];exact h.dm.m1,by rw[m2];exact h.dm.m2,by rw[m1];exact h.dm.m3,by rw[m1,m2];exact h.dm.m4⟩,l2,l1,by rw[m1,m2,m4];exact h.sm,by rw[m4];exact h.sk,by rw[m4];exact h.bey,?_,?_,?_⟩
 ·rw[m1,m2,m3,m4,m5]
  exact h.hd.same h.ok.gw.base.1 l3
 ·rcases hi with hi | hi
  ·rw[hi];exact h.is
  ·exact .inr hi
 ·rw[m5];have:=h.cn;omega
theorem lay_f {D:Dev} {n:Int} {l:Bs} (h:(D.lay n l).1=false):(D.lay n l).2.is=2:=by
 unfold Dev.lay at h ⊢
 cases c1:D.step.1 with
 | false=>
   rw[if_pos rfl,step_f c1];rfl
 | true=>
   rw[c1,if_neg (by simp)] at h
   rw[if_neg (by simp)]
   cases c3:(D.step.2.put n l).step.1 with
   | false=> rw[if_pos rfl,step_f c3];rfl
   | true=> rw[c3,if_neg (by simp)] at h;cases h
theorem Dev.same.trans {A B C:Dev} (h:A.same B) (k:B.same C):A.same C:=by
 obtain ⟨a1,a2,a3,a4,a5⟩:=h
 obtain ⟨b1,b2,b3,b4,b5⟩:=k
 exact ⟨b1.trans a1,b2.trans a2,b3.trans a3,b4.trans a4,b5.trans a5⟩
theorem sameK_lay {K K':Dk} {r:Register} {n:Int} (hl:LD K K' n) (h1:n≠r.point) (h2:n < 2∨2+heldG r≤n):sameK K K' r:=
 ⟨fun _=> hl.ne _ (fun e=> h1 e.symm),fun i hi=> hl.ne _ (fun e=> by omega)⟩
theorem sameK_trans {A B C:Dk} {r:Register} (h:sameK A B r) (hg:∀i,C.get i=B.get i):sameK A C r:=
 ⟨fun hb=>(hg _).trans (h.1 hb),fun i hi=>(hg _).trans (h.2 i hi)⟩
theorem HI0.fold {N:Int} {D:Dev} (h:HI0 N D) (hi:D.is=1) (h8:heldG D.r=8):
 HI (N+3) D.fold.2∧D.fold.2.st=D.st∧D.fold.2.r.count=D.r.count∧D.fold.2.r.boot=D.r.boot∧(D.fold.1=true→D.fold.2.is=1)∧(D.fold.1=false→D.fold.2.is=2):=by
 have hlim:=q11z h.ok.gr
 have hp0:D.dk.pend=0:=Nat.le_zero.1 h.ok.pend
 obtain ⟨hL,hG⟩:=lay_dk hp0 h.nl h.dko (1 - D.r.point) D.img
 have ok1:=h.ok.lay (1 - D.r.point) D.img
 obtain ⟨s1,i1⟩:=Dev.lay_same D (1 - D.r.point) D.img
 have sk1:sameK D.dk (D.lay (1 - D.r.point) D.img).2.dk D.r:=sameK_lay hL (by omega) (.inl (by omega))
 have hil:D.img.length≤8192:=imageB_len _ _ _
 have htk:Dk.takes (1 - D.r.point) D.img=true:=by
   simp only[Dk.takes,Bool.and_eq_true,decide_eq_true_eq];omega
 have hf:=lay_f (D:=D) (n:=1 - D.r.point) (l:=D.img)
 unfold Dev.fold
 generalize (D.lay (1 - D.r.point) D.img)=L at *
 cases c1:L.1 with
 | false=>
   rw[if_pos rfl]
   obtain ⟨m1,m2,m3,m4,m5⟩:=s1
   have hi2:=hf c1
   have h0:=h.mk' ⟨m1,m2,m3,m4,m5⟩ ⟨hL.nl,hL.ok,sk1⟩ (ok1.wk (p':=0) (N':=N+3) (by omega) (by omega)) (by omega) (.inr hi2)
   exact ⟨⟨h0,fun h1=> by rw[show (false,L.2).2=L.2 from rfl,hi2] at h1;cases h1⟩,m4,by rw[m5],by rw[m5],(fun h=> by cases h),fun _=> hi2⟩
 | true=>
   rw[if_neg (by simp)]
   obtain ⟨t1,t2,t3,t4⟩:=step_ld hL.p0 hL.nl hL.ok
   have ok2:=ok1.step
   obtain ⟨s2,i2⟩:=Dev.step_same L.2
   have sk2:=sameK_trans sk1 t3
   have s12:=s1.trans s2
   cases c2:L.2.step.1 with
   | false=>
     rw[if_pos rfl]
     have hi2:L.2.step.2.is=2:=by rw[step_f c2];rfl
     obtain ⟨m1,m2,m3,m4,m5⟩:=s12
     have h0:=h.mk' ⟨m1,m2,m3,m4,m5⟩ ⟨t1,t4,sk2⟩ (ok2.wk (p':=0) (N':=N+3) (by omega) (by omega)) (by omega) (.inr hi2)
     exact ⟨⟨h0,fun h1=> by rw[show (false,L.2.step.2).2=L.2.step.2 from rfl,hi2] at h1;cases h1⟩,m4,by rw[m5],by rw[m5],(fun h=> by cases h),fun _=> hi2⟩
   | true=>
     rw[if_neg (by simp)]
     have is2:L.2.step.2.is=1:=by rw[i2 c2,i1 c1,hi]
     have hgt:=(t3 (1 - D.r.point)).trans (hG c1 htk)
     generalize L.2.step.2=E at *
     obtain ⟨m1,m2,m3,m4,m5⟩:=s12
     have hcb:D.r.base < D.r.count:=by rw[q19z h.ok.gr] at h8;omega
     obtain ⟨f1,f2,f3⟩:=HD.fold (key:=D.key) (K:=E.dk) h.ok.gw h.ok.gr hcb h.sk h.bey rfl hgt
     have him:(imageB D.key D.r (imgB D.st)).1=D.img:=rfl
     rw[him] at f1 f2 f3
     simp only[m5]
     have hg2:rightG (foldG D.r (sumB D.img)).1=true:=by
       have:=f2
       unfold foldG soG at this ⊢
       rw[if_neg (by omega)] at this ⊢
       split at this
       ·rename_i c;rw[if_pos c];exact c.2
       ·cases this
     have hw2:(foldG D.r (sumB D.img)).1.wf:=by
       rw[f3]
       obtain ⟨w1,w2,w3,w4,w5⟩:=h.ok.gw
       exact ⟨w1,w2,w2,sumB_len _,by simp only;omega⟩
     have hh0:heldG (foldG D.r (sumB D.img)).1=0:=by rw[q19z hg2,f3];simp
     refine ⟨⟨⟨⟨ok2.pend,ok2.s0,by have:=ok2.s1;simp only;omega,ok2.f1,hg2,hw2,fun _=> by simp only[m4];exact h.sk,.inl is2⟩,⟨by simp only[m2];exact h.dm.m1,by simp only[m2];exact h.dm.m2,by simp only[m1];exact h.dm.m3,by simp only[m1,m2];exact h.dm.m4⟩,t4,t1,by simp only[m1,m2,m4];exact h.sm,by simp only[m4];exact h.sk,by simp only[m4];exact h.bey,?_,.inl is2,?_⟩,fun _=> by simp only;omega⟩,m4,by simp only[f3],by simp only[f3],fun _=> is2,(fun h=> by cases h)⟩
     ·simp only[m1,m2,m3,m4]
      have:=h.sm
      rw[this.1,this.2] at f1
      exact f1
     ·simp only[f3];have:=h.cn;omega
theorem HI.wk {N M:Int} {D:Dev} (h:HI N D) (hm:N≤M):HI M D:=
 ⟨⟨h.ok.wk (Nat.le_refl _) hm,h.dm,h.dko,h.nl,h.sm,h.sk,h.bey,h.hd,h.is,by have:=h.cn;omega⟩,h.hl⟩
theorem do_down {D:Dev} (h:D.is=2) (r:Record):D.do r=(29,D):=by
 have:readyD D=29:=by unfold readyD;rw[if_pos h]
 unfold Dev.do
 rw[if_pos (by omega),this]
theorem do_no {D:Dev} (h:D.is=1) {r:Record} (hc:checkS D.st r≠0):D.do r=(checkS D.st r,D):=by
 have:readyD D=0:=by unfold readyD;rw[if_neg (by omega),if_neg (by omega)]
 unfold Dev.do
 rw[if_neg (by omega),if_pos hc]
def Kept (D E:Dev) (e:Int) (r:Record):Prop:=
 (E.r=D.r∧E.st=D.st∧e=29∧E.is=2)∨(E.r.count=D.r.count+1∧E.r.boot=D.r.boot∧E.st=(applyS D.st r).2∧(e=0∧E.is=1∨e=29∧E.is=2))
theorem HI.do {N:Int} {D:Dev} (h:HI N D) (hN:N < 1000000000) {r:Record} (hw:r.wf) (hi:D.is=1) (hc:checkS D.st r=0):HI (N+6) (D.do r).2∧Kept D (D.do r).2 (D.do r).1 r:=by
 have hrd:readyD D=0:=by unfold readyD;rw[if_neg (by omega),if_neg (by omega)]
 have hlim:=q11z h.ok.gr
 have hp0:D.dk.pend=0:=Nat.le_zero.1 h.ok.pend
 have hh:=h.hl hi
 have hh0:=held_lim D.r h.ok.gw
 have hpl:=place_held hh
 have hcn:=h.cn
 have hnx:(D.next r).2=true:=next_ok h.ok.gw h.ok.gr hh (by omega)
 have hhl:(headB D.r.head (D.frame r)).length=16:=by simp[headB,keyB,sumB_len]
 obtain ⟨n1,n2,n3,n4⟩:=q30z (hd:=headB D.r.head (D.frame r)) h.ok.gw hhl hnx
 obtain ⟨hL,hG⟩:=lay_dk hp0 h.nl h.dko (placeG D.r) (D.frame r)
 have ok1:=h.ok.lay (placeG D.r) (D.frame r)
 obtain ⟨s1,i1⟩:=Dev.lay_same D (placeG D.r) (D.frame r)
 have sk1:sameK D.dk (D.lay (placeG D.r) (D.frame r)).2.dk D.r:=sameK_lay hL (by omega) (.inr (by omega))
 have hfl:=frame_len D hw hw.vaults.2 h.ok.gw.head
 have htk:Dk.takes (placeG D.r) (D.frame r)=true:=by
   simp only[Dk.takes,Bool.and_eq_true,decide_eq_true_eq];omega
 have hf:=lay_f (D:=D) (n:=placeG D.r) (l:=D.frame r)
 have hpd:D.put3 r= {(D.lay (placeG D.r) (D.frame r)).2.step.2 with r:=(D.next r).1,st:=(applyS (D.lay (placeG D.r) (D.frame r)).2.step.2.st r).2}:=rfl
 unfold Dev.do
 rw[if_neg (by omega),if_neg (by omega),if_neg (by simp[hnx]),hpd]
 generalize (D.lay (placeG D.r) (D.frame r))=L at *
 cases c1:L.1 with
 | false=>
   rw[if_pos rfl]
   obtain ⟨m1,m2,m3,m4,m5⟩:=s1
   have hi2:=hf c1
   have h0:=h.toHI0.mk' ⟨m1,m2,m3,m4,m5⟩ ⟨hL.nl,hL.ok,sk1⟩ (ok1.wk (p':=0) (N':=N+6) (by omega) (by omega)) (by omega) (.inr hi2)
   exact ⟨⟨h0,fun h1=> by rw[show ((29:Int),L.2).2=L.2 from rfl,hi2] at h1;cases h1⟩,.inl ⟨m5,m4,rfl,hi2⟩⟩
 | true=>
   rw[if_neg (by simp)]
   obtain ⟨t1,t2,t3,t4⟩:=step_ld hL.p0 hL.nl hL.ok
   have ok2:=ok1.step
   obtain ⟨s2,i2⟩:=Dev.step_same L.2
   have sk2:=sameK_trans sk1 t3
   have s12:=s1.trans s2
   cases c2:L.2.step.1 with
   | false=>
     rw[if_pos rfl]
     have hi2:L.2.step.2.is=2:=by rw[step_f c2];rfl
     obtain ⟨m1,m2,m3,m4,m5⟩:=s12
     have h0:=h.toHI0.mk' ⟨m1,m2,m3,m4,m5⟩ ⟨t1,t4,sk2⟩ (ok2.wk (p':=0) (N':=N+6) (by omega) (by omega)) (by omega) (.inr hi2)
     exact ⟨⟨h0,fun h1=> by rw[show ((29:Int),L.2.step.2).2=L.2.step.2 from rfl,hi2] at h1;cases h1⟩,.inl ⟨m5,m4,rfl,hi2⟩⟩
   | true=>
     rw[if_neg (by simp)]
     have is2:L.2.step.2.is=1:=by rw[i2 c2,i1 c1,hi]
     have hgt:=(t3 (placeG D.r)).trans (hG c1 htk)
     rw[hpl] at hgt
     generalize L.2.step.2=E at *
     obtain ⟨m1,m2,m3,m4,m5⟩:=s12
     have f1:=HD.next (x:=r) (l:=D.frame r) (h.hd.same h.ok.gw.base.1 sk2) h.ok.gw hw h.sk hc rfl hnx hgt
     have hne:nextG D.r (headB D.r.head (D.frame r))=D.next r:=rfl
     rw[hne] at n1 n3 n4 f1
     have hA:HI0 (N+3) {E with r:=(D.next r).1,st:=(applyS E.st r).2}:=by
       refine ⟨⟨ok2.pend,ok2.s0,by have:=ok2.s1;simp only;omega,ok2.f1,n3,n4,fun _=> by simp only[m4];exact apply_ok h.sk hw hw.vaults.2,.inl is2⟩,⟨by simp only[m2];exact h.dm.m1,by simp only[m2];exact h.dm.m2,by simp only[m1];exact h.dm.m3,by simp only[m1,m2];exact h.dm.m4⟩,t4,t1,?_,by simp only[m4];exact apply_ok h.sk hw hw.vaults.2,by simp only[m4];exact beyond_apply h.bey,?_,.inl is2,?_⟩
       ·simp only[m1,m2,m4]
        have:=h.sm
        rw[←this.1,←this.2]
        unfold applyS
        split
        ·exact ⟨rfl,rfl⟩
        ·split
         ·exact ⟨rfl,rfl⟩
         ·split
          ·exact ⟨rfl,rfl⟩
          ·split <;> exact ⟨rfl,rfl⟩
       ·simp only[m1,m2,m3,m4]
        exact f1
       ·simp only[n1];omega
     have cn:(D.next r).1.count=D.r.count+1:=by rw[n1]
     have bn:(D.next r).1.boot=D.r.boot:=by rw[n1]
     by_cases c8:heldG (D.next r).1=8
     ·rw[if_pos c8]
      obtain ⟨g1,g2,g3,g4,g5,g6⟩:=hA.fold is2 c8
      generalize ({E with r:=(D.next r).1,st:=(applyS E.st r).2}:Dev).fold=Z at *
      refine ⟨g1.wk (by omega),.inr ⟨g3.trans cn,g4.trans bn,by rw[g2,m4],?_⟩⟩
      cases c9:Z.1 with
      | false=> exact .inr ⟨rfl,g6 c9⟩
      | true=> exact .inl ⟨rfl,g5 c9⟩
     ·rw[if_neg c8]
      have hn8:=held_lim (D.next r).1 n4
      exact ⟨HI.wk ⟨hA,fun _=> by simp only;omega⟩ (by omega),.inr ⟨cn,bn,by simp only[m4],.inl ⟨rfl,is2⟩⟩⟩
theorem boot_ok {r:Register} (hr:rightG r=true) (hb:r.boot < 1099511627776):(bootG r).2=true:=by
 have hr2:rightG ⟨r.boot+1,r.count,r.base,r.head,r.point⟩=true:=by
   have:=q11z hr
   unfold rightG at hr ⊢
   simp only[Bool.and_eq_true,Bool.or_eq_true,decide_eq_true_eq] at hr ⊢
   obtain ⟨⟨⟨⟨⟨h1,h2⟩,h3⟩,h4⟩,h5⟩,h6⟩:=hr
   exact ⟨⟨⟨⟨⟨by omega,h2⟩,h3⟩,h4⟩,h5⟩,h6⟩
 unfold bootG soG
 rw[if_pos ⟨hr,hr2⟩]
theorem HI.start {N:Int} {D:Dev} (h:HI N D) (hN:N < 1000000000) (hi:D.is=2):HI (N+4) D.start.2∧D.start.2.st=D.st∧D.start.2.r.count=D.r.count∧D.start.2.r.boot=D.r.boot+1∧
 (D.start.1=0∧D.start.2.is=1∨D.start.1=29∧D.start.2.is=2)∧(heldG D.r < 8→D.start=(0, {D.up D.st with r:=⟨D.r.boot+1,D.r.count,D.r.base,D.r.head,D.r.point⟩})):=by
 have hcn:=h.cn
 have hb:=boot_ok h.ok.gr (by omega)
 obtain ⟨b1,b2,b3⟩:=q29z h.ok.gw hb
 have hd2:=h.hd.boot h.ok.gw hb h.ok.gr
 have hld:D.booted.load=some D.st:=HD.load (D:=D.booted) b2 hd2
 have hhe:heldG (bootG D.r).1=heldG D.r:=by rw[q19z b2,q19z h.ok.gr,b1]
 have hup:D.up D.st= {D.up D.st with r:=⟨D.r.boot+1,D.r.count,D.r.base,D.r.head,D.r.point⟩}:=by
   rw[←b1];rfl
 have hU:HI0 (N+1) (D.up D.st):=
   ⟨⟨h.ok.pend,h.ok.s0,by have:=h.ok.s1;show D.steps≤_;omega,h.ok.f1,b2,b3,fun _=> h.sk,.inl rfl⟩,⟨h.dm.m1,h.dm.m2,h.dm.m3,h.dm.m4⟩,h.dko,h.nl,h.sm,h.sk,h.bey,hd2,.inl rfl,by show (bootG D.r).1.count≤_∧(bootG D.r).1.boot≤_;rw[b1];simp only;omega⟩
 have hrc:(D.up D.st).r.count=D.r.count:=by show (bootG D.r).1.count=_;rw[b1]
 have hrb:(D.up D.st).r.boot=D.r.boot+1:=by show (bootG D.r).1.boot=_;rw[b1]
 have hst:(D.up D.st).st=D.st:=rfl
 have hui:(D.up D.st).is=1:=rfl
 have hur:(D.up D.st).r=(bootG D.r).1:=rfl
 unfold Dev.start
 rw[if_neg (by omega),if_neg (by omega),if_neg (by simp[hb]),hld]
 simp only
 rw[←hup]
 generalize D.up D.st=U at *
 by_cases c8:heldG (bootG D.r).1=8
 ·rw[if_pos c8]
  obtain ⟨g1,g2,g3,g4,g5,g6⟩:=hU.fold hui (by rw[hur];exact c8)
  generalize U.fold=Z at *
  refine ⟨?_,g2.trans hst,g3.trans hrc,g4.trans hrb,?_,fun hc=> by omega⟩
  ·exact g1.wk (by omega)
  ·cases c9:Z.1 with
   | false=> exact .inr ⟨rfl,g6 c9⟩
   | true=> exact .inl ⟨rfl,g5 c9⟩
 ·rw[if_neg c8]
  have h8:=held_lim (bootG D.r).1 b3
  exact ⟨HI.wk ⟨hU,fun _=> by rw[hur];omega⟩ (by omega),hst,hrc,hrb,.inl ⟨rfl,hui⟩,fun _=> rfl⟩
theorem step_free {D:Dev} (h:D.fuse < 0):D.step=(true, {D with steps:=D.steps+1}):=by
 unfold Dev.step
 rw[if_neg (by omega),if_neg (by omega)]
theorem lay_free {D:Dev} (h:D.fuse < 0) (n:Int) (l:Bs):D.lay n l=(true, {D with steps:=D.steps+1+1,dk:=(D.put n l).dk.sync}):=by
 have e:({D with steps:=D.steps+1}:Dev).put n l= {D.put n l with steps:=D.steps+1}:=rfl
 have h2:({D.put n l with steps:=D.steps+1}:Dev).fuse < 0:=h
 unfold Dev.lay
 rw[step_free h]
 simp only[e,step_free h2]
 simp only[Bool.true_eq_false,if_false]
 rfl
theorem fold_free {D:Dev} (h:D.fuse < 0):D.fold=(true, {D with steps:=D.steps+1+1+1,dk:=(D.put (1 - D.r.point) D.img).dk.sync,r:=(foldG D.r (sumB D.img)).1}):=by
 have h2:({D with steps:=D.steps+1+1,dk:=(D.put (1 - D.r.point) D.img).dk.sync}:Dev).fuse < 0:=h
 unfold Dev.fold
 rw[lay_free h]
 simp only[step_free h2,Bool.true_eq_false,if_false]
theorem do_free {N:Int} {D:Dev} (h:HI N D) (hN:N < 1000000000) {r:Record} (hw:r.wf) (hi:D.is=1) (hc:checkS D.st r=0) (hf:D.fuse < 0):
 (D.do r).1=0∧(D.do r).2.is=1∧(D.do r).2.fuse=D.fuse∧(D.do r).2.steps=D.steps+(if heldG D.r=7 then 6 else 3)∧heldG (D.do r).2.r=(if heldG D.r=7 then 0 else heldG D.r+1):=by
 have hrd:readyD D=0:=by unfold readyD;rw[if_neg (by omega),if_neg (by omega)]
 have hh:=h.hl hi
 have hcn:=h.cn
 have hnx:(D.next r).2=true:=next_ok h.ok.gw h.ok.gr hh (by omega)
 have hhl:(headB D.r.head (D.frame r)).length=16:=by simp[headB,keyB,sumB_len]
 obtain ⟨n1,n2,n3,n4⟩:=q30z (hd:=headB D.r.head (D.frame r)) h.ok.gw hhl hnx
 have hne:nextG D.r (headB D.r.head (D.frame r))=D.next r:=rfl
 rw[hne] at n1 n3 n4
 have h2:({D with steps:=D.steps+1+1,dk:=(D.put (placeG D.r) (D.frame r)).dk.sync}:Dev).fuse < 0:=hf
 have hp:D.put3 r= {D with steps:=D.steps+1+1+1,dk:=(D.put (placeG D.r) (D.frame r)).dk.sync,r:=(D.next r).1,st:=(applyS D.st r).2}:=by
   unfold Dev.put3
   rw[lay_free hf]
   simp only[step_free h2]
 have hheld:heldG (D.next r).1=heldG D.r+1:=by rw[q19z n3,q19z h.ok.gr,n1];simp only;omega
 unfold Dev.do
 rw[if_neg (by omega),if_neg (by omega),if_neg (by simp[hnx]),lay_free hf]
 simp only[step_free h2,Bool.true_eq_false,if_false,hp]
 by_cases c7:heldG D.r=7
 ·rw[if_pos (by omega),if_pos c7,if_pos c7]
  have h3:({D with steps:=D.steps+1+1+1,dk:=(D.put (placeG D.r) (D.frame r)).dk.sync,r:=(D.next r).1,st:=(applyS D.st r).2}:Dev).fuse < 0:=hf
  rw[fold_free h3]
  simp only[Bool.true_eq_false,if_false]
  refine ⟨trivial,hi,trivial,by omega,?_⟩
  have hcb:¬(D.next r).1.count≤(D.next r).1.base:=by rw[q19z n3] at hheld;omega
  have hlim:=q11z n3
  generalize hb:(sumB (Dev.img {D with steps:=D.steps+1+1+1,dk:=(D.put (placeG D.r) (D.frame r)).dk.sync,r:=(D.next r).1,st:=(applyS D.st r).2}))=sm
  have hr2:rightG ⟨(D.next r).1.boot,(D.next r).1.count,(D.next r).1.count,sm,1 - (D.next r).1.point⟩=true:=by
    unfold rightG
    simp only[Bool.and_eq_true,Bool.or_eq_true,decide_eq_true_eq]
    have:=n4.base
    exact ⟨⟨⟨⟨⟨by omega,by omega⟩,by omega⟩,by omega⟩,by omega⟩,.inl (by omega)⟩
  have:(foldG (D.next r).1 sm).1=⟨(D.next r).1.boot,(D.next r).1.count,(D.next r).1.count,sm,1 - (D.next r).1.point⟩:=by
    unfold foldG soG
    rw[if_neg hcb,if_pos ⟨n3,hr2⟩]
  rw[this,q19z hr2]
  simp only;omega
 ·rw[if_neg (by omega),if_neg c7,if_neg c7]
  exact ⟨rfl,hi,rfl,by simp only;omega,hheld⟩
theorem do_fused {N:Int} {D:Dev} (h:HI N D) (hN:N < 1000000000) {r:Record} (hi:D.is=1) (hc:checkS D.st r=0) (h0:0≤D.fuse) (h2:D.fuse≤2):
 (D.do r).1=29∧(D.do r).2.is=2∧(D.do r).2.steps=D.steps+D.fuse∧(D.do r).2.r=D.r∧(D.do r).2.st=D.st∧(D.do r).2.fuse= -1:=by
 have hrd:readyD D=0:=by unfold readyD;rw[if_neg (by omega),if_neg (by omega)]
 have hh:=h.hl hi
 have hcn:=h.cn
 have hnx:(D.next r).2=true:=next_ok h.ok.gw h.ok.gr hh (by omega)
 unfold Dev.do
 rw[if_neg (by omega),if_neg (by omega),if_neg (by simp[hnx])]
 by_cases f0:D.fuse=0
 ·have e1:D.step=(false,D.down D.torn):=by unfold Dev.step;rw[if_pos f0]
  have e2:D.lay (placeG D.r) (D.frame r)=(false,D.down D.torn):=by unfold Dev.lay;rw[e1];simp
  rw[e2]
  simp only[if_true]
  exact ⟨trivial,rfl,by simp only[Dev.down];omega,rfl,rfl,rfl⟩
 ·have e1:D.step=(true, {D with fuse:=D.fuse - 1,steps:=D.steps+1}):=by
    unfold Dev.step
    rw[if_neg f0,if_pos (by omega)]
  by_cases f1:D.fuse=1
  ·have e2:(({D with fuse:=D.fuse - 1,steps:=D.steps+1}:Dev).put (placeG D.r) (D.frame r)).step=(false,(({D with fuse:=D.fuse - 1,steps:=D.steps+1}:Dev).put (placeG D.r) (D.frame r)).down D.torn):=by
     unfold Dev.step
     rw[if_pos (by show D.fuse - 1=0;omega)]
     rfl
   have e3:D.lay (placeG D.r) (D.frame r)=(false,(({D with fuse:=D.fuse - 1,steps:=D.steps+1}:Dev).put (placeG D.r) (D.frame r)).down D.torn):=by
     unfold Dev.lay
     rw[e1]
     simp only[e2,Bool.true_eq_false,if_false,if_true]
   rw[e3]
   simp only[if_true]
   exact ⟨trivial,rfl,by simp only[Dev.down,Dev.put];omega,rfl,rfl,rfl⟩
  ·have f2:D.fuse=2:=by omega
   have e2:(({D with fuse:=D.fuse - 1,steps:=D.steps+1}:Dev).put (placeG D.r) (D.frame r)).step=(true, {({D with fuse:=D.fuse - 1,steps:=D.steps+1}:Dev).put (placeG D.r) (D.frame r) with fuse:=D.fuse - 1 - 1,steps:=D.steps+1+1}):=by
     unfold Dev.step
     rw[if_neg (by show ¬D.fuse - 1=0;omega),if_pos (by show 0 < D.fuse - 1;omega)]
     rfl
   have e3:D.lay (placeG D.r) (D.frame r)=(true, {({D with fuse:=D.fuse - 1,steps:=D.steps+1}:Dev).put (placeG D.r) (D.frame r) with fuse:=D.fuse - 1 - 1,steps:=D.steps+1+1,dk:=(({D with fuse:=D.fuse - 1,steps:=D.steps+1}:Dev).put (placeG D.r) (D.frame r)).dk.sync}):=by
     unfold Dev.lay
     rw[e1]
     simp only[e2,Bool.true_eq_false,if_false]
   rw[e3]
   simp only[Bool.true_eq_false,if_false]
   generalize hE:({({D with fuse:=D.fuse - 1,steps:=D.steps+1}:Dev).put (placeG D.r) (D.frame r) with fuse:=D.fuse - 1 - 1,steps:=D.steps+1+1,dk:=(({D with fuse:=D.fuse - 1,steps:=D.steps+1}:Dev).put (placeG D.r) (D.frame r)).dk.sync}:Dev)=E
   have q1:E.fuse=0:=by rw[←hE];simp only;omega
   have q2:E.steps=D.steps+2:=by rw[←hE];simp only;omega
   have q3:E.r=D.r∧E.st=D.st:=by rw[←hE];exact ⟨rfl,rfl⟩
   have e4:E.step=(false,E.down E.torn):=by unfold Dev.step;rw[if_pos q1]
   rw[e4]
   simp only[if_true]
   exact ⟨trivial,rfl,by simp only[Dev.down];omega,q3.1,q3.2,rfl⟩
def allOwn (s:Sta):Prop:=∀j,j < 16→(s.p j).role=1
theorem own_new (k:Bs):allOwn (Dev.new 0 1 k).st:=fun j _=> by simp[Dev.new,Sta.new,Int.emod_one]
theorem own_check {s:Sta} (h:allOwn s) {r:Record} (hr:rightR r=true) (hk:r.kind=1):checkS s r=0∨checkS s r=13:=by
 have h1:=h _ (shardOf_lt r.vault.iD)
 unfold checkS keepsS
 rw[if_neg (by simp[hr]),if_pos hk,if_neg (by omega),if_neg (by omega)]
 split
 ·exact .inr rfl
 ·exact .inl rfl
theorem own_apply {s:Sta} (h:allOwn s) {r:Record} (hk:r.kind=1):allOwn (applyS s r).2:=by
 unfold applyS
 by_cases c0:checkS s r≠0
 ·rw[if_pos c0];exact h
 ·rw[if_neg c0,if_pos hk]
  intro j hj
  by_cases c:j=shardOf r.vault.iD
  ·subst c;rw[upd_same];exact h _ hj
  ·rw[upd_ne _ _ _ _ c];exact h j hj
def keepRec (v:Vault):Record:=⟨1,0,0,0,v,[]⟩
theorem keep_right {v:Vault} (h:rightV v=true):rightR (keepRec v)=true:=by
 unfold rightR keepRec
 simp[h]
theorem keep_wf {v:Vault} (h:v.wf):(keepRec v).wf:=⟨by simp[keepRec],by simp[keepRec],by simp[keepRec],by simp[keepRec],h,by simp[keepRec]⟩
theorem HI.fuse {N:Int} {D:Dev} (h:HI N D) (n t:Int) (hn:n≤9223372036854775807):HI N (D.setFuse n t):=by
 obtain ⟨⟨⟨a1,a2,a3,a4,a5,a6,a7,a8⟩,b,c,d,e,f,g,i,j,k⟩,l⟩:=h
 exact ⟨⟨⟨a1,a2,a3,by simp only[Dev.setFuse];omega,a5,a6,a7,a8⟩,⟨b.m1,b.m2,b.m3,b.m4⟩,c,d,e,f,g,i,j,k⟩,l⟩
theorem HI.down {N:Int} {D:Dev} (h:HI N D) (t:Int):HI N (D.down t):=by
 have hp0:D.dk.pend=0:=Nat.le_zero.1 h.ok.pend
 have hd:(D.down t).dk= {D.dk with now:=D.dk.lasts,lasts:=D.dk.lasts,pend:=0}:=by simp only[Dev.down,crash0 hp0]
 have hk:=h.dko
 refine ⟨h.toHI0.mk' ⟨rfl,rfl,rfl,rfl,rfl⟩ ⟨by rw[hd],by rw[hd];exact ⟨hk.lasts,hk.lasts,hk.at_,hk.ls,hk.ls,hk.last⟩,⟨fun _=> by rw[hd];exact get_eq h.nl.symm _,fun i _=> by rw[hd];exact get_eq h.nl.symm _⟩⟩ (h.ok.down t) (Int.le_refl _) (.inr rfl),fun hi=> by cases hi⟩
theorem HI.stop {N:Int} {D:Dev} (h:HI N D):HI N D.stop:=by
 unfold Dev.stop
 split
 ·exact h.down 0
 ·exact h
structure Lw (h H:Hp) (id:Nat) (D:Dev) (F:List Nat) (P:Nat→Prop):Prop where
 d:DVR H id D F
 fw:Fw [] h H
 fn:∀j∈F,h.length≤j
 pn:∀j,P j→j∉F∧j < H.length
theorem Lw.op {h H H':Hp} {id:Nat} {D D':Dev} {F F':List Nat} {P:Nat→Prop} (l:Lw h H id D F P) (hd:DVR H' id D' F') (f:Fw F H H') (hn:∀j∈F',j∈F∨H.length≤j):
 Lw h H' id D' F' P∧∀j b,P j→H[j]? =some b→H'[j]? =some b:=by
 refine ⟨⟨hd,l.fw.new f (fun j hj=> .inl (l.fn j hj)),fun j hj=> ?_,fun j hj=> ?_⟩,fun j b hj hb=> f.old _ _ hb (l.pn j hj).1⟩
 ·rcases hn j hj with h1 | h1
  ·exact l.fn j h1
  ·have:=l.fw.len;omega
 ·obtain ⟨p1,p2⟩:=l.pn j hj
  refine ⟨fun hm=> ?_,f.lt p2⟩
  rcases hn j hm with h1 | h1
  ·exact p1 h1
  ·omega
theorem Lw.ext {h H H':Hp} {id:Nat} {D:Dev} {F:List Nat} {P Q:Nat→Prop} (l:Lw h H id D F P) (f:Fw [] H H') (hq:∀j,Q j→P j∨(H.length≤j∧j < H'.length)):Lw h H' id D F Q:=by
 refine ⟨l.d.mono f (by simp),l.fw.trans f,l.fn,fun j hj=> ?_⟩
 rcases hq j hj with h1 | h1
 ·obtain ⟨p1,p2⟩:=l.pn j h1
  exact ⟨p1,f.lt p2⟩
 ·exact ⟨fun hm=> by have:=l.d.lt j hm;omega,h1.2⟩
theorem keeps_new (v:Vault) (hv:rightV v=true):checkS (Sta.new 0 1) (keepRec v)=0:=by
 unfold checkS keepsS
 rw[if_neg (by simp[keep_right hv]),if_pos (show (keepRec v).kind=1 from rfl)]
 simp[keepRec,Sta.new,Int.emod_one]
def dOf (n:Int):Bs:=[bt n,bt (shrI .i64 n 8),3,0,0,0,0,0,0,0,0,0,0,0,0,0]
def idOf (n:Int):Bs:=[bt (within n 0 255),7,0,0]
def keepV (x:KV) (id:Bs):Vault:=
 if x.how.tmod 4=3 then ⟨id,1+x.gen.tmod 1099511627776,zero16,[],0,0,zero16,true,decide ((x.how.tdiv 4).tmod 2=1)⟩
 else ⟨id,1+x.gen.tmod 1099511627776,dOf x.pin,x.secret.take 64,within x.limit 1 32,within x.used 0 (within x.limit 1 32 - 1),dOf x.owner,false,false⟩
def numQ (n c:Nat):List V:=List.replicate c (.s (.int .u8 0))++((numB n).drop c).map byteV
theorem RKeyed_ok (b:Nat) (h:Hp) (x:V) (k l:Bs) (hk:k.length=16) (hr:Rd h x l) (hl:l.length≤900000):run fns pr b 80 [.arr 25 (k.map byteV),x] h=some (.arr 25 ((keyB k l).map byteV),h):=by
 refine Vm.runP (nt:=11) rfl fit80 (by simp) ?_
 have hkl:(k.map byteV).length=16:=by simp[hk]
 generalize hGd:h++[Blk.cells (some 25) [V.arr 25 (k.map byteV)],Blk.cells (some 25) [z16 25]]=G
 have hG:G.length=h.length+2:=by rw[←hGd];simp
 have fG:Fw [] h G:=by rw[←hGd];exact Fw.app [] h _
 have g0:G[h.length]? =some (.cells (some 25) [.arr 25 (k.map byteV)]):=by rw[←hGd];exact (get2 h _ _).1
 have g1:G[h.length+1]? =some (.cells (some 25) [z16 25]):=by rw[←hGd];exact (get2 h _ _).2
 have hsk:source G (.ref h.length [0] none 0 16 1)=some (none,k.map byteV):=by
   have:elems G (.ref h.length [0] none 0 16 1)=some (none,k.map byteV):=by
     simp only[elems_refR,go_sem,↓reduceIte,Nat.reduceEqDiff,Nat.reduceBEq,Nat.reduceAdd,Nat.reduceSub,Nat.reduceLT,Nat.reduceLeDiff,Int.reduceLT,Int.reduceLE,Int.reduceEq,Int.reduceToNat,List.append_assoc,List.length_append,Vm.get_app,Vm.set_app,Vm.get_appL,Vm.get_appL0,Vm.set_appL,Vm.set_appL0,Nat.le_refl,Nat.le_add_right,g0,elR_some,List.drop_zero,List.take_of_length_le (Nat.le_of_eq hkl)]
   exact this
 obtain ⟨v,H,hap,hN⟩:=(New.nil G).app hsk (by simp;omega)
 obtain ⟨w,H2,hap2,hN2⟩:=hN.app ((hr.fw (fG.trans hN.fw)).source) (by simp;omega)
 rw[List.nil_append] at hN2
 have hsm:=fun b=> RSum_ok b H2 w (k++l) (BR.rd hN2.br) (by simp;omega)
 have g2:H2[h.length+1]? =some (.cells (some 25) [z16 25]):=hN2.fw.old _ _ g1 (by simp)
 have hkl2:((keyB k l).map byteV).length=16:=by simp[keyB_len]
 have tk:∀b,(H2.set (h.length+1) b).take h.length=h:=fun b=> by
   rw[List.take_set_of_le (by omega)];exact (fG.trans hN2.fw).take
 simp only[B80,bslR_nil,hkl,hGd,g0,hap,hap2,hsm,g2,tk,q9z g2,show sumB (k++l)=keyB k l from rfl,hkl2,ty_arr,go_sem,↓reduceIte,Nat.reduceEqDiff,Nat.reduceBEq,Nat.reduceAdd,Nat.reduceSub,Nat.reduceLT,Nat.reduceLeDiff,Int.reduceLT,Int.reduceLE,Int.reduceEq,Int.reduceToNat]
def rprtV (q:Prt) (x:V):V:= .st 135 [.s (.int .i64 q.role),.s (.int .u64 q.epoch),.s (.int .i64 q.to),x]
def rprts (p:Nat→Prt) (xs:Nat→V):List V:=(List.range 16).map fun i=> rprtV (p i) (xs i)
theorem rprts_len (p:Nat→Prt) (xs:Nat→V):(rprts p xs).length=16:=by simp[rprts]
theorem rprts_get (p:Nat→Prt) (xs:Nat→V) (i:Nat) (h:i < 16):(rprts p xs)[i]? =some (rprtV (p i) (xs i)):=by simp[rprts,h]
theorem rprts_set (p:Nat→Prt) (xs:Nat→V) (i:Nat) (q:Prt) (x:V):(rprts p xs).set i (rprtV q x)=rprts (fun j=> if j=i then q else p j) (fun j=> if j=i then x else xs j):=by
 apply List.ext_getElem?
 intro j
 rw[List.getElem?_set,rprts_len]
 by_cases hj:j < 16
 ·rw[rprts_get _ _ _ hj,rprts_get _ _ _ hj]
  by_cases hji:i=j
  ·subst hji;simp[hj]
  ·simp[hji,Ne.symm hji]
 ·rw[List.getElem?_eq_none (by rw[rprts_len];omega),List.getElem?_eq_none (by rw[rprts_len];omega)]
  simp;omega
def rstV (s:Sta) (xs:Nat→V):List V:=[.st 138 [.s (.int .i64 s.mem),.s (.int .i64 s.mems),.arr 137 (rprts s.p xs)]]
def RST (h:Hp) (m:Nat) (s:Sta):Prop:=∃xs:Nat→V,h[m]? =some (.cells (some 138) (rstV s xs))∧∀i,i < 16→SR h (xs i) (some 31) ((s.p i).vs.map Vault.enc)
theorem RST.lt {h:Hp} {m:Nat} {s:Sta} (hs:RST h m s):m < h.length:=by
 obtain ⟨xs,h1,_⟩:=hs
 exact q6z h1
theorem R16New_ok (b:Nat) (h:Hp) (x z:Int) (hb:b≤h.length) (h1:1≤z) (h2:z≤8) (h3:0≤x) (h4:x < z):∃v h',run fns pr b 47 [.s (.int .i64 x),.s (.int .i64 z)] h=some (v,h')∧v= .ptr h.length [0] 1∧RST h' h.length (Sta.new x z)∧Fw [] h h':=by
 refine Vm.runQ (nt:=48) rfl fit47 (by simp) ?_
 have q1:¬z < 1:=by omega
 have q2:¬8 < z:=by omega
 have q3:¬x < 0:=by omega
 have q4:¬z≤x:=by omega
 simp only[B47,B47R0,B47L0,q1,q2,q3,q4,go_sem,↓reduceIte,Nat.reduceEqDiff,Nat.reduceBEq,Nat.reduceAdd,Nat.reduceSub,Nat.reduceLT,Nat.reduceLeDiff,Int.reduceLT,Int.reduceLE,Int.reduceEq,Int.reduceToNat]
 let X:Nat→V:=fun _=> .imm true (some 31) []
 let P:Nat→Nat→Prt:=fun i j=> if j < i then (Sta.new x z).p j else ⟨0,0,0,[]⟩
 refine wp_for (fun q e H=>∃i:Nat,q=16 - i∧i≤16∧e 6= .s (.int .i64 (i:Nat))∧e 5= .ptr h.length [0] 1∧e 0= .s (.int .i64 x)∧e 1= .s (.int .i64 z)∧H=h++[.cells (some 138) (rstV ⟨x,z,P i⟩ X)])
   (fun e H=> e 5= .ptr h.length [0] 1∧H=h++[.cells (some 138) (rstV ⟨x,z,P 16⟩ X)]) 16 _ _ ⟨0,rfl,by omega,rfl,rfl,rfl,rfl,rfl⟩ ?_ ?_
 ·rintro q e H ⟨i,rfl,hi,e6,e5,e0,e1,rfl⟩
  by_cases c:i < 16
  ·have c':(i:Int)< 16:=by omega
   have i0:(0:Int)≤(i:Int):=by omega
   have c16:(i:Int)<((16:Nat):Int):=by omega
   have wr:IntKind.i64.wrap ((i:Int)+1)=((i+1:Nat):Int):=q18z (by omega)
   have hq:=fun cf base h=> o_rem cf base h .i64 (i:Int) z (by omega)
   have hm:(i:Int).tmod z=(i:Int) % z:=Int.tmod_eq_emod_of_nonneg i0
   have hPl:=rprts_len (P i) X
   have hPn:(rprts (P i) X)[i]? =some (.st 135 [.s (.int .i64 0),.s (.int .u64 0),.s (.int .i64 0),.imm true (some 31) []]):=by
     rw[rprts_get _ _ _ c]
     simp[P,X,rprtV]
   have hPs:∀y,((rprts (P i) X).set i y)[i]? =some y:=fun y=> by rw[List.getElem?_set_self (by rw[hPl];exact c)]
   have hnx:∀k,(k=if (i:Int) % z=x then 1 else 0)→(rprts (P i) X).set i (.st 135 [.s (.int .i64 k),.s (.int .u64 1),.s (.int .i64 0),.imm true (some 31) []])=rprts (P (i+1)) X:=fun k hk=> by
     have:=rprts_set (P i) X i ⟨k,1,0,[]⟩ (.imm true (some 31) [])
     simp only[rprtV] at this
     rw[this]
     unfold rprts
     apply List.map_congr_left
     intro j _
     simp only[P,X]
     by_cases hj:j=i
     ·subst hj;simp[Sta.new,hk]
     ·simp only[hj,if_false]
      by_cases h5:j < i
      ·simp[h5,show j < i+1 by omega]
      ·simp[h5,show ¬j < i+1 by omega]
   have gr0:decide (b≤h.length)=true:=by simpa using hb
   by_cases cf:(i:Int) % z=x
   ·have hn:=hnx 1 (by rw[if_pos cf])
    simp only[e6,e5,e0,e1,c',c16,i0,wr,hq,hm,cf,rstV,hPl,hPn,hPs,c,hb,gr0,List.set_set,hn,go_sem,↓reduceIte,Nat.reduceEqDiff,Nat.reduceBEq,Nat.reduceAdd,Nat.reduceSub,Nat.reduceLT,Nat.reduceLeDiff,Int.reduceLT,Int.reduceLE,Int.reduceEq,Int.reduceToNat]
    exact ⟨16 - (i+1),by omega,i+1,rfl,by omega,rfl,rfl⟩
   ·have hn:=hnx 0 (by rw[if_neg cf])
    simp only[e6,e5,e0,e1,c',c16,i0,wr,hq,hm,cf,rstV,hPl,hPn,hPs,c,hb,gr0,List.set_set,hn,go_sem,↓reduceIte,Nat.reduceEqDiff,Nat.reduceBEq,Nat.reduceAdd,Nat.reduceSub,Nat.reduceLT,Nat.reduceLeDiff,Int.reduceLT,Int.reduceLE,Int.reduceEq,Int.reduceToNat]
    exact ⟨16 - (i+1),by omega,i+1,rfl,by omega,rfl,rfl⟩
  ·have c':¬(i:Int)< 16:=by omega
   obtain rfl:i=16:=by omega
   simp only[e6,e5,e0,e1,c',go_sem,↓reduceIte,Nat.reduceEqDiff,Nat.reduceBEq,Nat.reduceAdd,Nat.reduceSub,Nat.reduceLT,Nat.reduceLeDiff,Int.reduceLT,Int.reduceLE,Int.reduceEq,Int.reduceToNat]
 ·rintro e H ⟨e5,rfl⟩
  simp only[e5,go_sem,↓reduceIte,Nat.reduceEqDiff,Nat.reduceBEq,Nat.reduceAdd,Nat.reduceSub,Nat.reduceLT,Nat.reduceLeDiff,Int.reduceLT,Int.reduceLE,Int.reduceEq,Int.reduceToNat]
  refine ⟨⟨X,?_,fun i hi=> ?_⟩,Fw.app _ _ _⟩
  ·rw[get_app0]
   have:rprts (P 16) X=rprts (Sta.new x z).p X:=by
     unfold rprts
     apply List.map_congr_left
     intro j hj
     simp[P,List.mem_range.1 hj]
   simp only[rstV,this]
   rfl
  ·exact .inl ⟨true,by simp[X,Sta.new]⟩
def Sl7 (h:Hp) (v:V) (s:Option Bs):Prop:=∃x,v= .st 140 [.s (.bool s.isSome),x]∧BR h x (s.getD [])
def Sls7 (h:Hp) (vs:List V) (ss:List (Option Bs)):Prop:=vs.length=ss.length∧∀(i:Nat) v s,vs[i]? =some v→ss[i]? =some s→Sl7 h v s
theorem Sl7.mono {S:List Nat} {h h':Hp} {v:V} {s:Option Bs} (hs:Sl7 h v s) (f:Fw S h h'):Sl7 h' v s:=by
 obtain ⟨x,h1,h2⟩:=hs;exact ⟨x,h1,h2.mono f⟩
theorem Sls7.mono {S:List Nat} {h h':Hp} {v:List V} {s:List (Option Bs)} (hs:Sls7 h v s) (f:Fw S h h'):Sls7 h' v s:=
 ⟨hs.1,fun i v s h1 h2=>(hs.2 i v s h1 h2).mono f⟩
def R7 (h:Hp) (id:Nat) (K:Dk):Prop:=∃nv ov x last n,h[id]? =some (.cells (some 143) [.st 143 [.arr 142 nv,.arr 142 ov,.s (.int .i64 last),x,.s (.int .i64 n)]])∧
 Sls7 h nv K.now∧Sls7 h ov K.lasts∧(K.pend=0→last= -1)∧(0 < K.pend→last=K.at_∧BR h x K.last)∧x.ty=none∧x.solid=true∧K.OK
theorem R7.mono {S:List Nat} {h h':Hp} {id:Nat} {K:Dk} (hd:R7 h id K) (f:Fw S h h') (hi:id∉S):R7 h' id K:=by
 obtain ⟨nv,ov,x,last,n,h1,h2,h3,h4,h5,h6,h7,h8⟩:=hd
 exact ⟨nv,ov,x,last,n,f.old _ _ h1 hi,h2.mono f,h3.mono f,h4,fun hp=>⟨(h5 hp).1,(h5 hp).2.mono f⟩,h6,h7,h8⟩
theorem R7.lt {h:Hp} {id:Nat} {K:Dk} (hd:R7 h id K):id < h.length:=by
 obtain ⟨nv,ov,x,last,n,h1,_⟩:=hd;exact q6z h1
def Z7 :V:= .st 140 [.s (.bool false),.imm true none []]
theorem R7New_ok (b:Nat) (h:Hp):∃v h',run fns pr b 49 [] h=some (v,h')∧v= .ptr h.length [0] 1∧R7 h' h.length Dk.new∧Fw [] h h':=by
 refine Vm.runQ (nt:=3) rfl fit49 (by simp) ?_
 simp only[B49,go_sem,↓reduceIte,Nat.reduceEqDiff,Nat.reduceBEq,Nat.reduceAdd,Nat.reduceSub,Nat.reduceLT,Nat.reduceLeDiff,Int.reduceLT,Int.reduceLE,Int.reduceEq,Int.reduceToNat]
 refine ⟨⟨List.replicate 10 Z7,List.replicate 10 Z7,_,_,_,get_app0 _ _,?_,?_,fun _=> rfl,fun h=> by simp[Dk.new] at h,rfl,rfl,Dk.new_ok⟩,Fw.app _ _ _⟩
 all_goals
   refine ⟨by simp[Dk.new],fun i v s h1 h2=> ?_⟩
   simp only[Dk.new,List.getElem?_replicate] at h1 h2
   split at h1
   ·rename_i hi
    rw[if_pos hi] at h2
    cases h1;cases h2
    exact ⟨_,rfl,BR_nil _ _⟩
   ·cases h1
theorem R18Key_ok (b:Nat) (h:Hp) (k:Bs) (m:Int) (hk:k.length=16):run fns pr b 48 [.arr 25 (k.map byteV),.s (.int .i64 m)] h=some (.arr 25 ((keyB k [bt m]).map byteV),h):=by
 refine Vm.runP (nt:=10) rfl fit48 (by simp) ?_
 have hkl:(k.map byteV).length=16:=by simp[hk]
 have hrd:∀A B,Rd (h++[A,B,Blk.cells none [byteV (bt m)]]) (.ref (h.length+2) [] none 0 1 1) [bt m]:=fun A B=> BR.rd (BR_ref (get_app _ _ 2) rfl)
 have hky:=fun b A B=> RKeyed_ok b (h++[A,B,Blk.cells none [byteV (bt m)]]) (.ref (h.length+2) [] none 0 1 1) k [bt m] hk (hrd A B) (by simp)
 have hln:((keyB k [bt m]).map byteV).length=16:=by simp[keyB,sumB_len]
 simp only[B48,hkl,bt_v,hln,ty_dig,List.take_left,hky,go_sem,↓reduceIte,Nat.reduceEqDiff,Nat.reduceBEq,Nat.reduceAdd,Nat.reduceSub,Nat.reduceLT,Nat.reduceLeDiff,Int.reduceLT,Int.reduceLE,Int.reduceEq,Int.reduceToNat]
def rdevV (D:Dev) (sp:V) (did:Nat):List V:=[.st 97 [.s (.int .i64 D.mem),.s (.int .i64 D.mems),.arr 25 (D.key.map byteV),.s (.int .i64 D.is),sp,.ptr did [0] 1,D.r.enc,.s (.int .i64 D.fuse),.s (.int .i64 D.torn),.s (.int .i64 D.steps)]]
structure RDP (h:Hp) (id:Nat) (D:Dev) (did:Nat) (sp:V) (sid:Nat):Prop where
 o:h[id]? =some (.cells (some 97) (rdevV D sp did))
 d:R7 h did D.dk
 s1:D.is=1→sp= .ptr sid [0] 1∧RST h sid D.st∧sid≠id∧sid≠did
 s2:D.is≠1→sp= .s (.pointer none)
 n1:id≠did
 kl:D.key.length=16
theorem R18New_ok (b:Nat) (h:Hp) (x z:Int) (k:Bs) (hb:b≤h.length) (hk:k.length=16) (h1:1≤z) (h2:z≤8) (h3:0≤x) (h4:x < z):
 ∃v h',run fns pr b 21 [.s (.int .i64 x),.s (.int .i64 z),.arr 25 (k.map byteV)] h=some (v,h')∧∃id did sp sid,v= .ptr id [0] 1∧RDP h' id (Dev.new x z k) did sp sid∧Fw [] h h'∧h.length≤id∧h.length≤did∧h.length≤sid:=by
 refine Vm.runQ (nt:=22) rfl fit21 (by simp) ?_
 have hkl:(k.map byteV).length=16:=by simp[hk]
 have fA:Fw [] h (h++[Blk.cells (some 25) [.arr 25 (k.map byteV)]]):=Fw.app [] h _
 have gA:(h++[Blk.cells (some 25) [.arr 25 (k.map byteV)]])[h.length]? =some (Blk.cells (some 25) [.arr 25 (k.map byteV)]):=get_app0 _ _
 have lA:=fA.len
 generalize hHA:h++[Blk.cells (some 25) [.arr 25 (k.map byteV)]]=HA at *
 obtain ⟨v1,H1,e1,rfl,s1,f1⟩:=R16New_ok b HA x z (Nat.le_trans hb lA) h1 h2 h3 h4
 have g1:=f1.old _ _ gA (by simp)
 have hky:=fun b=> R18Key_ok b H1 k x hk
 obtain ⟨v2,H2,e2,rfl,d2,f2⟩:=R7New_ok b H1
 have hl1:=s1.lt
 have hl2:=d2.lt
 simp only[B21,hHA,hkl,e1,g1,hky,ty_dig,e2,go_sem,↓reduceIte,Nat.reduceEqDiff,Nat.reduceBEq,Nat.reduceAdd,Nat.reduceSub,Nat.reduceLT,Nat.reduceLeDiff,Int.reduceLT,Int.reduceLE,Int.reduceEq,Int.reduceToNat]
 have f3:Fw [] H2 (H2++[Blk.cells (some 97) (rdevV (Dev.new x z k) (.ptr HA.length [0] 1) H1.length)]):=Fw.app [] H2 _
 have m1:=f1.len
 have m2:=f2.len
 refine ⟨H2.length,H1.length,.ptr HA.length [0] 1,HA.length,rfl,⟨get_app0 _ _,d2.mono f3 (by simp),fun _=>⟨rfl,?_,by omega,by omega⟩,fun hh=> absurd rfl hh,by omega,by simp[Dev.new,keyB,sumB_len]⟩,fA.trans (f1.trans (f2.trans f3)),by omega,by omega,by omega⟩
 obtain ⟨xs,a1,a2⟩:=s1
 exact ⟨xs,f3.old _ _ (f2.old _ _ a1 (by simp)) (by simp),fun i hi=>((a2 i hi).fw f2).fw f3⟩
theorem fresh_ok (b:Nat) (h:Hp) (x z:Int) (k:Bs) (hb:b≤h.length) (hk:k.length=16) (h1:1≤z) (h2:z≤8) (h3:0≤x) (h4:x < z):
 ∃v h',run fns pr b 6 [.s (.int .i64 x),.s (.int .i64 z),.arr 25 (k.map byteV)] h=some (v,h')∧∃t id F mid did sp sid,v= .ptr t [0] 1∧h'[t]? =some (.cells (some 47) [.st 47 [.ptr id [0] 1,.ptr mid [0] 1,.s (.pointer none),.s (.pointer none)]])∧
  DVR h' id (Dev.new x z k) F∧RDP h' mid (Dev.new x z k) did sp sid∧Fw [] h h'∧(∀j∈F,h.length≤j∧j < mid∧j < did∧j < sid∧j < t)∧h.length≤t∧h.length≤mid∧h.length≤did∧h.length≤sid∧mid < t∧did < t∧sid < t:=by
 refine Vm.runQ (nt:=35) rfl fit6 (by simp) ?_
 have hkl:(k.map byteV).length=16:=by simp[hk]
 have fA:Fw [] h (h++[Blk.cells (some 25) [.arr 25 (k.map byteV)]]):=Fw.app [] h _
 have gA:(h++[Blk.cells (some 25) [.arr 25 (k.map byteV)]])[h.length]? =some (Blk.cells (some 25) [.arr 25 (k.map byteV)]):=get_app0 _ _
 have lA:=fA.len
 generalize hHA:h++[Blk.cells (some 25) [.arr 25 (k.map byteV)]]=HA at *
 obtain ⟨v1,H1,e1,id,F,rfl,d1,f1,n1⟩:=DNew_ok b HA x z k (Nat.le_trans hb lA) hk h1 h2 h3 h4
 have g1:=f1.old _ _ gA (by simp)
 have m1:=f1.len
 obtain ⟨v2,H2,e2,mid,did,sp,sid,rfl,p2,f2,l1,l2,l3⟩:=R18New_ok b H1 x z k (by omega) hk h1 h2 h3 h4
 have hlt:=d1.lt
 have hl2:=q6z p2.o
 have hl3:=p2.d.lt
 simp only[B6,hHA,hkl,gA,e1,g1,ty_dig,e2,go_sem,↓reduceIte,Nat.reduceEqDiff,Nat.reduceBEq,Nat.reduceAdd,Nat.reduceSub,Nat.reduceLT,Nat.reduceLeDiff,Int.reduceLT,Int.reduceLE,Int.reduceEq,Int.reduceToNat]
 have f3:Fw [] H2 (H2++[Blk.cells (some 47) [.st 47 [.ptr id [0] 1,.ptr mid [0] 1,.s (.pointer none),.s (.pointer none)]]]):=Fw.app [] H2 _
 obtain ⟨q1,q2,q3,q4⟩:=p2.s1 rfl
 have hl4:=q2.lt
 refine ⟨H2.length,id,F,mid,did,sp,sid,rfl,get_app0 _ _,(d1.mono f2 (by simp)).mono f3 (by simp),?_,fA.trans (f1.trans (f2.trans f3)),fun j hj=> ?_,by omega,by omega,by omega,by omega,by omega,by omega,by omega⟩
 ·obtain ⟨a1,a2,a3,a4,a5,a6⟩:=p2
  refine ⟨f3.old _ _ a1 (by simp),a2.mono f3 (by simp),fun hi=> ?_,a4,a5,a6⟩
  obtain ⟨c1,⟨xs,c2,c3⟩,c4,c5⟩:=a3 hi
  exact ⟨c1,⟨xs,f3.old _ _ c2 (by simp),fun i hi=>(c3 i hi).fw f3⟩,c4,c5⟩
 ·have:=n1 j hj
  have:=hlt j hj
  exact ⟨by omega,by omega,by omega,by omega,by omega⟩
def dg (n:UInt8):Bs:=[n,0,0,0,0,0,0,0,0,0,0,0,0,0,0,0]
def goneOf (id:Bs):Vault:=⟨id,1,zero16,[],0,0,zero16,true,false⟩
theorem gone_right (id:Bs):rightV (goneOf id)=true:=rfl
theorem gone_wf {id:Bs} (h:id.length=4):(goneOf id).wf:=by
 refine ⟨?_,?_,?_,?_,?_,?_,?_,?_,?_⟩<;> first | exact h | trivial | (simp[goneOf];done) | (simp[goneOf,zero16];done)
theorem known18_ok (b:Nat) (h:Hp):run fns pr b 14 [] h=some (.s (.bool true),h):=by
 refine Vm.runP (nt:=88) rfl fit14 (by simp) ?_
 obtain ⟨v0,H0,e0',t,id,F0,mid,did,sp,sid,rfl,ht,d0,p0,f0,n0,l1,l2,l3,l4,l5,l6,l7⟩:=fresh_ok h.length h 0 1 (dg 1) (Nat.le_refl _) rfl (by decide) (by decide) (by decide) (by decide)
 have hi0:=HI.new (dg 1) (a:=0) (b:=1) (by decide) (by decide) (by decide) (by decide)
 have hlt0:=q6z ht
 generalize hD0:Dev.new 0 1 (dg 1)=D0 at *
 have st0:D0.st=Sta.new 0 1∧D0.is=1∧D0.r=zeroG:=by rw[←hD0];exact ⟨rfl,rfl,rfl⟩
 have w0:Lw h H0 id D0 F0 (fun j=> j=t):=⟨d0,f0,fun j hj=>(n0 j hj).1,fun j hj=> by subst hj;exact ⟨fun hm=> by have:=n0 _ hm;omega,hlt0⟩⟩
 have hre:(keepRec (goneOf [1,0,0,0])).enc=V.st 41 [.s (.int .i64 1),ki,ki,ku,.st 31 [.arr 27 [.s (.int .u8 1),.s (.int .u8 0),.s (.int .u8 0),.s (.int .u8 0)],.s (.int .u64 1),z16 25,kx,ki,ki,z16 25,.s (.bool true),.s (.bool false)],.imm false (some 31) []]:=rfl
 have hrr:=keep_right (gone_right [1,0,0,0])
 have hrw:=keep_wf (gone_wf (id:=[1,0,0,0]) rfl)
 have hck:=keeps_new (goneOf [1,0,0,0]) rfl
 have hfr:=rec_ty (keepRec (goneOf [1,0,0,0]))
 have hso:=rec_so (keepRec (goneOf [1,0,0,0]))
 have hgr:=rec_gr (keepRec (goneOf [1,0,0,0]))
 generalize hR:keepRec (goneOf [1,0,0,0])=R at *
 have fA:Fw [] H0 (H0++[Blk.cells (some 41) [R.enc]]):=Fw.app [] H0 _
 have w1:Lw h (H0++[Blk.cells (some 41) [R.enc]]) id D0 F0 (fun j=> j=t∨j=H0.length):=w0.ext fA (fun j hj=> by
   rcases hj with rfl | rfl
   ·exact .inl rfl
   ·exact .inr ⟨Nat.le_refl _,by simp⟩)
 have t1:=q10z ht [Blk.cells (some 41) [R.enc]]
 have r1:(H0++[Blk.cells (some 41) [R.enc]])[H0.length]? =some (Blk.cells (some 41) [R.enc]):=get_app0 _ _
 have hb0:=f0.len
 generalize hH1:H0++[Blk.cells (some 41) [R.enc]]=H1 at *
 obtain ⟨v2,H2,e2,rfl,d2,f2⟩:=Fuse_ok h.length H1 id D0 F0 2 0 w1.fn w1.d
 obtain ⟨w2,k2⟩:=w1.op d2 f2 (fun j hj=> .inl hj)
 have t2:=k2 _ _ (.inl rfl) t1
 have r2:=k2 _ _ (.inr rfl) r1
 have hi1:=hi0.fuse 2 0 (by decide)
 have hst1:(D0.setFuse 2 0).st=Sta.new 0 1:=st0.1
 have q1:=do_fused hi1 (by decide) (r:=R) st0.2.1 (by rw[hst1];exact hck) (show (0:Int)≤max 2 (-1) by decide) (show max (2:Int) (-1)≤2 by decide)
 have hi2:=(hi1.do (by decide) hrw st0.2.1 (by rw[hst1];exact hck)).1
 obtain ⟨v3,H3,e3,rfl,F3,d3,f3,n3⟩:=Do_ok h.length H2 id _ F0 R w2.fn w2.d 0 (by decide) hi1.ok hrw hrw.vaults.2
 obtain ⟨w3,k3⟩:=w2.op d3 f3 n3
 have t3:=k3 _ _ (.inl rfl) t2
 have r3:=k3 _ _ (.inr rfl) r2
 have rq1:(D0.setFuse 2 0).r=zeroG:=st0.2.2
 obtain ⟨q11,q12,q13,q14,q15,q16⟩:=q1
 rw[q11] at e3
 rw[rq1] at q14
 rw[hst1] at q15
 generalize ((D0.setFuse 2 0).do R).2=D3 at *
 have hs3:=hi2.start (by decide) q12
 obtain ⟨v4,H4,e4,rfl,F4,d4,f4,n4⟩:=Start_ok h.length H3 id D3 F3 w3.fn w3.d 6 (by decide) hi2.ok hi2.dm
 obtain ⟨w4,k4⟩:=w3.op d4 f4 n4
 have t4:=k4 _ _ (.inl rfl) t3
 have r4:=k4 _ _ (.inr rfl) r3
 obtain ⟨hi3,s31,s32,s33,s34,s35⟩:=hs3
 have s35:=s35 (by rw[q14];decide)
 have s36:D3.start.1=0:=by rw[s35]
 have s37:D3.start.2.is=1:=by rw[s35];rfl
 have s38:D3.start.2.fuse= -1:=by rw[s35];exact q16
 have s39:D3.start.2.r.count=0:=by rw[s32,q14];rfl
 have s310:heldG D3.start.2.r=0:=by rw[q19z hi3.ok.gr,s39];have:=q11z hi3.ok.gr;have:=hi3.ok.gw.base;omega
 rw[s36] at e4
 rw[q15] at s31
 generalize D3.start.2=D4 at *
 obtain ⟨u1,u2,u3,u4,u5⟩:=do_free hi3 (by decide) hrw s37 (by rw[s31];exact hck) (by omega)
 obtain ⟨hi4,kp⟩:=hi3.do (by decide) hrw s37 (by rw[s31];exact hck)
 obtain ⟨v5,H5,e5,rfl,F5,d5,f5,n5⟩:=Do_ok h.length H4 id D4 F4 R w4.fn w4.d _ (by decide) hi3.ok hrw hrw.vaults.2
 obtain ⟨w5,k5⟩:=w4.op d5 f5 n5
 have t5:=k5 _ _ (.inl rfl) t4
 have c5:(D4.do R).2.r.count=1:=by
   rcases kp with ⟨_,_,z,_⟩ | ⟨z,_,_,_⟩
   ·omega
   ·rw[z,s39];rfl
 rw[u1] at e5
 have hreg4:=fun b=> Register_ok b H4 id D4 F4 w4.d
 generalize (D4.do R).2=D5 at *
 obtain ⟨v6,H6,e6,rfl,d6,f6⟩:=Stop_ok h.length H5 id D5 F5 w5.fn w5.d
 obtain ⟨w6,k6⟩:=w5.op d6 f6 (fun j hj=> .inl hj)
 have t6:=k6 _ _ (.inl rfl) t5
 have hi5:=hi4.stop
 have i6:D5.stop.is=2:=by unfold Dev.stop;rw[if_pos u2];rfl
 have rr6:D5.stop.r=D5.r:=by unfold Dev.stop;rw[if_pos u2];rfl
 obtain ⟨v7,H7,e7,rfl,F7,d7,f7,n7⟩:=Start_ok h.length H6 id D5.stop F5 w6.fn w6.d _ (by decide) hi5.ok hi5.dm
 obtain ⟨w7,k7⟩:=w6.op d7 f7 n7
 have t7:=k7 _ _ (.inl rfl) t6
 obtain ⟨hi6,z1,z2,z3,z4,z5⟩:=hi5.start (by decide) i6
 have z5:=z5 (by rw[rr6,u5,s310];decide)
 have z6:D5.stop.start.1=0:=by rw[z5]
 have z7:D5.stop.start.2.is=1:=by rw[z5];rfl
 have z8:D5.stop.start.2.r.count=1:=by rw[z2,rr6,c5]
 rw[z6] at e7
 have hreg7:=fun b=> Register_ok b H7 id D5.stop.start.2 F7 w7.d
 obtain ⟨v8,H8,e8,hv8⟩:=View_ok h.length H7 id D5.stop.start.2 F7 w7.fw.len w7.d hi6.ok.so
 rw[if_pos z7] at hv8
 obtain ⟨F8,rfl,s8,f8,n8⟩:=hv8
 generalize D5.stop.start.2=D7 at *
 have htk:=(w7.fw.trans f8).take
 have hd1:(dg 1).map byteV=[.s (.int .u8 1),.s (.int .u8 0),.s (.int .u8 0),.s (.int .u8 0),.s (.int .u8 0),.s (.int .u8 0),.s (.int .u8 0),.s (.int .u8 0),.s (.int .u8 0),.s (.int .u8 0),.s (.int .u8 0),.s (.int .u8 0),.s (.int .u8 0),.s (.int .u8 0),.s (.int .u8 0),.s (.int .u8 0)]:=rfl
 rw[hd1] at e0'
 have hrg4:D4.r.enc=V.st 53 [.s (.int .u64 D4.r.boot),.s (.int .u64 D4.r.count),.s (.int .u64 D4.r.base),.arr 25 (D4.r.head.map byteV),.s (.int .i64 D4.r.point)]:=rfl
 have hrg7:D7.r.enc=V.st 53 [.s (.int .u64 D7.r.boot),.s (.int .u64 D7.r.count),.s (.int .u64 D7.r.base),.arr 25 (D7.r.head.map byteV),.s (.int .i64 D7.r.point)]:=rfl
 rw[hrg4,s39] at hreg4
 rw[hrg7,z8] at hreg7
 have hor:∀x,(decide (h.length≤H0.length) || x)=true:=fun x=> by rw[decide_eq_true hb0];rfl
 simp only[B14,e0',hre.symm,hor,hH1,t1,r1,e2,t2,r2,hfr,hso,e3,t3,r3,e4,t4,r4,hreg4,e5,t5,e6,t6,e7,t7,hreg7,e8,htk,go_sem,↓reduceIte,Nat.reduceEqDiff,Nat.reduceBEq,Nat.reduceAdd,Nat.reduceSub,Nat.reduceLT,Nat.reduceLeDiff,Int.reduceLT,Int.reduceLE,Int.reduceEq,Int.reduceToNat]
theorem flat_bytes :∀l:Bs,V.flat.all (l.map byteV)=some (l.map fun b=> Value.int .u8 (b.toNat:Int))
 | []=> rfl
 | b::l=> by
   simp only[List.map_cons,V.flat.all,byteV,V.flat,flat_bytes l]
   rfl
theorem lits_app (a b:List LK) (x y:List Value) (h1:litsOk a x=true) (h2:litsOk b y=true):litsOk (a++b) (x++y)=true:=by
 induction a generalizing x with
 | nil=> cases x with
   | nil=> exact h2
   | cons _ _=> simp[litsOk] at h1
 | cons k a ih=> cases x with
   | nil=> simp[litsOk] at h1
   | cons v x=>
     simp only[litsOk,Bool.and_eq_true,List.cons_append] at h1 ⊢
     exact ⟨h1.1,ih x h1.2⟩
theorem lits_bytes :∀l:Bs,litsOk (List.replicate l.length (.i .u8)) (l.map fun b=> Value.int .u8 (b.toNat:Int))=true
 | []=> rfl
 | b::l=> by
   simp only[List.length_cons,List.replicate_succ,List.map_cons,litsOk,lits_bytes l,Bool.and_true,litOk,decide_eq_true_eq]
   have:=b.toNat_lt
   exact ⟨trivial,by simp[IntKind.min,IntKind.signed];try omega,by simp only[IntKind.max];first | (simp[IntKind.signed,IntKind.bits];omega) | (simp;omega)⟩
theorem leaves_same :∀l:List Value,(∀v∈l,∃k n,v=Value.int k n)→leavesEq l l=true
 | [],_=> rfl
 | v::l,h=> by
   obtain ⟨k,n,rfl⟩:=h v (by simp)
   simp only[leavesEq,leafEq,beq_self_eq_true,Bool.true_and]
   exact leaves_same l fun w hw=> h w (by simp[hw])
theorem o_eqs (cf:CF) (base:Nat) (h:Hp) (t:Nat) (ks:List LK) (n:Bool) (x y:V):opV cf base h (.eqs t ks n) [x,y]=opEqs h t ks n x y:=rfl
theorem eqs_reg (r:Register) (hw:r.wf) (cf:CF) (base:Nat) (h:Hp):opV cf base h (.eqs 53 [.i .u64,.i .u64,.i .u64,.i .u8,.i .u8,.i .u8,.i .u8,.i .u8,.i .u8,.i .u8,.i .u8,.i .u8,.i .u8,.i .u8,.i .u8,.i .u8,.i .u8,.i .u8,.i .u8,.i .i64] true) [r.enc,r.enc]=some (.s (.bool false),h):=by
 have e:[.i .u64,.i .u64,.i .u64,.i .u8,.i .u8,.i .u8,.i .u8,.i .u8,.i .u8,.i .u8,.i .u8,.i .u8,.i .u8,.i .u8,.i .u8,.i .u8,.i .u8,.i .u8,.i .u8,.i .i64]=[LK.i .u64,LK.i .u64,LK.i .u64]++(List.replicate r.head.length (.i .u8)++[LK.i .i64]):=by rw[hw.head];rfl
 have hf:V.flat.all [.s (.int .u64 r.boot),.s (.int .u64 r.count),.s (.int .u64 r.base),.arr 25 (r.head.map byteV),.s (.int .i64 r.point)]=some ([Value.int .u64 r.boot,.int .u64 r.count,.int .u64 r.base]++((r.head.map fun b=> Value.int .u8 (b.toNat:Int))++[Value.int .i64 r.point])):=by
   simp only[V.flat.all,V.flat,flat_bytes]
   rfl
 obtain ⟨w1,w2,w3,w4,w5⟩:=hw
 have h1:litsOk [LK.i .u64,LK.i .u64,LK.i .u64] [Value.int .u64 r.boot,.int .u64 r.count,.int .u64 r.base]=true:=by
   simp only[litsOk,litOk,Bool.and_true,Bool.and_eq_true,decide_eq_true_eq]
   exact ⟨⟨trivial,w1⟩,⟨trivial,w2⟩,⟨trivial,w3⟩⟩
 have h2:litsOk [LK.i .i64] [Value.int .i64 r.point]=true:=by
   simp only[litsOk,litOk,Bool.and_true,decide_eq_true_eq]
   exact ⟨trivial,w5⟩
 have hl:=lits_app _ _ _ _ h1 (lits_app _ _ _ _ (lits_bytes r.head) h2)
 have hs:=leaves_same ([Value.int .u64 r.boot,.int .u64 r.count,.int .u64 r.base]++((r.head.map fun b=> Value.int .u8 (b.toNat:Int))++[Value.int .i64 r.point])) (fun v hv=> by
   simp only[List.mem_append,List.mem_cons,List.not_mem_nil,or_false,List.mem_map] at hv
   rcases hv with (rfl | rfl | rfl) | ⟨b,_,rfl⟩ | rfl
   all_goals exact ⟨_,_,rfl⟩)
 rw[o_eqs]
 unfold opEqs Register.enc
 simp only[and_self,if_true]
 rw[hf,e]
 simp only[hl,and_self,if_true,hs]
 rfl
end Go.Proofs.YtannfageakbpmaaGreat
