/- Texts for DeviceSteps, part 4. Conditions: none. -/
import Derived.Test.YtannfageakbpmaaGreatCTc
set_option linter.unusedSimpArgs false
set_option linter.unusedVariables false
set_option linter.unusedSectionVars false
namespace Go.Proofs.YtannfageakbpmaaGreat.Af
open Go Go.Vm Go.Proofs Go.Cl Go.Proofs.YtannfageakbpmaaGreat
noncomputable abbrev R (b:Nat):CF:=run fns pr b
theorem Dl (b:Nat) (vs:List V) (h:Hp):R b 91 vs h=dF vs h:=iI b h vs
theorem BT {b:Nat} {h:Hp} {x:V} {l:Bs} (hb:BR h x l) (hl:l.length≤140737488355328):run fns pr b 91 [x] h=some (cv h l,h++ct l):=by
 rw[iI];exact xh hb hl
theorem xy (b:Nat) (h:Hp) (n:Int):R b 94 [.s (.int .i64 n)] h=some (.s (.bool (decide (0≤n)&& decide (n < 10))),h):=by
 refine Vm.aT (nt:=9) rfl Ux (by simp) ?_
 by_cases h0:0≤n
 ·simp only[B94,go_sem,↓reduceIte,Nat.reduceEqDiff,Nat.reduceBEq,Nat.reduceAdd,Nat.reduceSub,Nat.reduceLT,Nat.reduceLeDiff,Int.reduceLT,Int.reduceLE,Int.reduceEq,Int.reduceToNat,h0]
 ·simp only[B94,go_sem,↓reduceIte,Nat.reduceEqDiff,Nat.reduceBEq,Nat.reduceAdd,Nat.reduceSub,Nat.reduceLT,Nat.reduceLeDiff,Int.reduceLT,Int.reduceLE,Int.reduceEq,Int.reduceToNat,h0]
def SlR (h:Hp) (v:V) (s:Option Bs):Prop:=∃x,v= .st 130 [.s (.bool s.isSome),x]∧BR h x (s.getD [])
def tK (h:Hp) (vs:List V) (ss:List (Option Bs)):Prop:=vs.length=ss.length∧∀(i:Nat) v s,vs[i]? =some v→ss[i]? =some s→SlR h v s
theorem SlR.mono {S:List Nat} {h h':Hp} {v:V} {s:Option Bs} (hs:SlR h v s) (f:Fw S h h'):SlR h' v s:=by
 obtain ⟨x,h1,h2⟩:=hs;exact ⟨x,h1,h2.mono f⟩
theorem tK.mono {S:List Nat} {h h':Hp} {v:List V} {s:List (Option Bs)} (hs:tK h v s) (f:Fw S h h'):tK h' v s:=
 ⟨hs.1,fun i v s h1 h2=>(hs.2 i v s h1 h2).mono f⟩
theorem tK.set {h:Hp} {vs:List V} {ss:List (Option Bs)} {v:V} {s:Option Bs} (hs:tK h vs ss) (hv:SlR h v s) (i:Nat):tK h (vs.set i v) (ss.set i s):=by
 refine ⟨by simp[hs.1],fun j w t h1 h2=> ?_⟩
 rw[List.getElem?_set] at h1 h2
 split at h1
 ·rename_i he;subst he
  rw[if_pos rfl] at h2
  split at h1
  ·cases h1;rw[if_pos (by rw[←hs.1];assumption)] at h2;cases h2;exact hv
  ·cases h1
 ·rename_i he
  rw[if_neg he] at h2
  exact hs.2 j w t h1 h2
theorem tK.get {h:Hp} {vs:List V} {ss:List (Option Bs)} (hs:tK h vs ss) {i:Nat} (hi:i < ss.length):∃x,vs[i]? =some (.st 130 [.s (.bool (ss.getD i none).isSome),x])∧BR h x ((ss.getD i none).getD []):=by
 have h1:vs[i]? =some (vs[i]'(by rw[hs.1];exact hi)):=List.getElem?_eq_getElem (by rw[hs.1];exact hi)
 have h2:ss[i]? =some ss[i]:=List.getElem?_eq_getElem hi
 obtain ⟨x,h3,h4⟩:=hs.2 i _ _ h1 h2
 rw[List.getD_eq_getElem?_getD,h2]
 exact ⟨x,by rw[h1,h3];rfl,h4⟩
def DR (h:Hp) (id:Nat) (D:Dk):Prop:=∃nv lv x,h[id]? =some (.cells (some 133) [.st 133 [.arr 132 nv,.arr 132 lv,.s (.int .i64 D.dQ),.s (.int .i64 D.at_),x]])∧
 tK h nv D.now∧tK h lv D.bA∧BR h x D.last∧D.OK
theorem DR.mono {S:List Nat} {h h':Hp} {id:Nat} {D:Dk} (hd:DR h id D) (f:Fw S h h') (hi:id∉S):DR h' id D:=by
 obtain ⟨nv,lv,x,h1,h2,h3,h4,h5⟩:=hd
 exact ⟨nv,lv,x,f.dO _ _ h1 hi,h2.mono f,h3.mono f,h4.mono f,h5⟩
theorem DR.lt {h:Hp} {id:Nat} {D:Dk} (hd:DR h id D):id < h.length:=by
 obtain ⟨nv,lv,x,h1,_⟩:=hd;exact q6z h1
theorem DR.ok {h:Hp} {id:Nat} {D:Dk} (hd:DR h id D):D.OK:=by
 obtain ⟨nv,lv,x,_,_,_,_,h⟩:=hd;exact h
def Z60 :V:= .st 130 [.s (.bool false),.al false none []]
def Z61 :V:= .st 130 [.s (.bool false),.al true none []]
theorem sg (b:Nat) (h:Hp):∃v h',R b 46 [] h=some (v,h')∧v= .ptr h.length [0] 1∧DR h' h.length Dk.new∧Fw [] h h':=by
 refine Vm.dZ (nt:=3) rfl SX (by simp) ?_
 simp only[B46,go_sem,↓reduceIte,Nat.reduceEqDiff,Nat.reduceBEq,Nat.reduceAdd,Nat.reduceSub,Nat.reduceLT,Nat.reduceLeDiff,Int.reduceLT,Int.reduceLE,Int.reduceEq,Int.reduceToNat]
 refine ⟨⟨List.replicate 10 Z61,List.replicate 10 Z61,_,aM _ _,?_,?_,ox _ _,Dk.sg⟩,Fw.app _ _ _⟩
 all_goals
   refine ⟨by simp[Dk.new],fun i v s h1 h2=> ?_⟩
   simp only[Dk.new,List.getElem?_replicate] at h1 h2
   split at h1
   ·rename_i hi
    rw[if_pos hi] at h2
    cases h1;cases h2
    exact ⟨_,rfl,ox _ _⟩
   ·cases h1
theorem BU (b:Nat) (h:Hp) (y:V) (l:Bs) (hb:b≤h.length) (hy:BR h y l) (hl:l.length≤140737488355328):∃v h',R b 95 [y] h=some (v,h')∧SlR h' v (some l)∧Fw [] h h'∧
 (l≠[]→∃k,h.length≤k∧v= .st 130 [.s (.bool true),.ref k [] none 0 l.length l.length]∧h'[k]? =some (.cells none (l.map aa))):=by
 refine Vm.dZ (nt:=6) rfl Uz (by simp) ?_
 obtain ⟨x,t,hc,hx,fy⟩:=HK (h:=h++[.cells (some 130) [Z60]]) (hy.mono (Fw.app [] _ _)) hl
 have bd:=Dl b [y] (h++[.cells (some 130) [Z60]])
 rw[hc] at bd
 unfold Z60 at bd
 simp only[B95,go_sem,↓reduceIte,Nat.reduceEqDiff,Nat.reduceBEq,Nat.reduceAdd,Nat.reduceSub,Nat.reduceLT,Nat.reduceLeDiff,Int.reduceLT,Int.reduceLE,Int.reduceEq,Int.reduceToNat,bd,List.append_assoc,hx.ty,hx.ax,hb]
 refine ⟨⟨x,rfl,?_⟩,Fw.app _ _ _,fun cE=> ?_⟩
 ·rcases fy with ⟨rfl,rfl,rfl⟩ | ⟨rfl,rfl⟩
  ·exact ox _ _
  ·refine dG ?_ rfl
   rw[List.length_append,aK];rfl
 ·rcases fy with ⟨rfl,rfl,rfl⟩ | ⟨rfl,rfl⟩
  ·exact absurd rfl cE
  ·refine ⟨_,?_,rfl,?_⟩
   ·simp
   ·rw[List.length_append,aK];rfl
theorem DR.fw {h:Hp} {id:Nat} {D:Dk} (hd:DR h id D) (es:List V):Fw [id] h (h.set id (.cells (some 133) es)):=by
 obtain ⟨nv,lv,x,hg,_⟩:=hd
 exact Fw.set (by simp) hg
theorem Pv (b:Nat) (h:Hp) (id:Nat) (D:Dk) (n:Int) (y:V) (l:Bs) (hb:b≤id) (hd:DR h id D) (hy:BR h y l) (hl:l.length≤140737488355328) (hp:D.dQ < 4611686018427387904):
 ∃v h',R b 61 [.ptr id [0] 1,.s (.int .i64 n),y] h=some (v,h')∧v= .s (.bool (Dk.js n l))∧DR h' id (if Dk.js n l=true then D.put n.toNat l else D)∧Fw [id] h h':=by
 have hr:=xy b h n
 have hly:=fun h0=> hy.cF (cf:=run fns pr b) (base:=b) (h:=h0)
 refine Vm.dZ (nt:=38) rfl Tv (by simp) ?_
 by_cases ht:Dk.js n l=true
 ·have ht':=ht
  simp only[Dk.js,Bool.and_eq_true,decide_eq_true_eq] at ht'
  obtain ⟨⟨h0,h1⟩,h2⟩:=ht'
  obtain ⟨m,rfl⟩:∃m:Nat,n=m:=⟨n.toNat,by omega⟩
  have hle:¬(8192:Int)< l.length:=by omega
  obtain ⟨v1,k1,e1,tG,f1,_⟩:=BU b h y l (by have:=hd.lt;omega) hy hl
  have hd1:=hd.mono f1 (by simp)
  have m6:=hd1.fw
  obtain ⟨nv,lv,x,hg,r1,r2,r3,r4⟩:=hd
  have cI:=f1.dO _ _ hg (by simp)
  obtain ⟨x0,hx0,_⟩:=r1.get (i:=m) (by rw[r4.now];omega)
  have lX:(m:Int)< nv.length:=by rw[r1.1,r4.now];omega
  obtain ⟨xs,rfl,nB⟩:=tG
  have hw:=q18z hp
  have Po:=q6z cI
  have Pw:=r3.ty
  have nw:=fun es=> BT (b:=b) (h:=k1.set id (.cells (some 133) es)) (x:=y) ((hy.mono f1).mono (m6 es)) hl
  simp only[B61,go_sem,↓reduceIte,Nat.reduceEqDiff,Nat.reduceBEq,Nat.reduceAdd,Nat.reduceSub,Nat.reduceLT,Nat.reduceLeDiff,Int.reduceLT,Int.reduceLE,Int.reduceEq,Int.reduceToNat,hr,hly,h0,h1,hle,e1,hg,zd,cI,lX,hx0,hb,hw,Po,nw,Nd,xi,Pw]
  have F:=fun es=> f1.mono (T:=[id]) (by simp) |>.trans ((m6 es).trans (Fw.app [id] _ (ct l)))
  have F1:=fun es=>((m6 es).trans (Fw.app [id] _ (ct l)))
  refine ⟨by rw[ht],?_,F _⟩
  rw[if_pos ht]
  refine ⟨_,_,_,q10z (q9z cI) _,((r1.mono (F _)).set ⟨xs,rfl,nB.mono (F1 _)⟩ m),r2.mono (F _),?_,Dk.HH r4 (by omega) h2⟩
  exact Px (by rw[List.length_set,List.length_set]) l
 ·have ht':=ht
  simp only[Bool.not_eq_true] at ht'
  simp only[ht',Bool.false_eq_true,if_false]
  by_cases h0:0≤n
  ·by_cases h1:n < 10
   ·have hle:(8192:Int)< l.length:=by simp[Dk.js,h0,h1] at ht';omega
    simp only[B61,go_sem,↓reduceIte,Nat.reduceEqDiff,Nat.reduceBEq,Nat.reduceAdd,Nat.reduceSub,Nat.reduceLT,Nat.reduceLeDiff,Int.reduceLT,Int.reduceLE,Int.reduceEq,Int.reduceToNat,hr,hly,h0,h1,hle]
    exact ⟨hd,Fw.refl _ _⟩
   ·simp only[B61,go_sem,↓reduceIte,Nat.reduceEqDiff,Nat.reduceBEq,Nat.reduceAdd,Nat.reduceSub,Nat.reduceLT,Nat.reduceLeDiff,Int.reduceLT,Int.reduceLE,Int.reduceEq,Int.reduceToNat,hr,hly,h0,h1]
    exact ⟨hd,Fw.refl _ _⟩
  ·simp only[B61,go_sem,↓reduceIte,Nat.reduceEqDiff,Nat.reduceBEq,Nat.reduceAdd,Nat.reduceSub,Nat.reduceLT,Nat.reduceLeDiff,Int.reduceLT,Int.reduceLE,Int.reduceEq,Int.reduceToNat,hr,hly,h0]
   exact ⟨hd,Fw.refl _ _⟩
theorem ry (b:Nat) (h:Hp) (id:Nat) (D:Dk) (hb:b≤id) (hd:DR h id D):∃v h',R b 62 [.ptr id [0] 1] h=some (v,h')∧v= .bI []∧DR h' id D.sync∧Fw [id] h h':=by
 refine Vm.dZ (nt:=12) rfl Tx (by simp) ?_
 have m6:=hd.fw
 obtain ⟨nv,lv,x,hg,r1,r2,r3,r4⟩:=hd
 have bW:=q6z hg
 simp only[B62,go_sem,↓reduceIte,Nat.reduceEqDiff,Nat.reduceBEq,Nat.reduceAdd,Nat.reduceSub,Nat.reduceLT,Nat.reduceLeDiff,Int.reduceLT,Int.reduceLE,Int.reduceEq,Int.reduceToNat,hg,hb,bW]
 exact ⟨⟨_,_,_,q9z hg,r1.mono (m6 _),r1.mono (m6 _),r3.mono (m6 _),Dk.vH r4⟩,m6 _⟩
theorem HL (b:Nat) (h:Hp) (id:Nat) (D:Dk) (n:Int) (hd:DR h id D):
 R b 100 [.ptr id [0] 1,.s (.int .i64 n)] h=some (.bI [.al false none (((D.get n).getD []).map aa),.s (.bool (D.get n).isSome)],h):=by
 have hr:=xy (h.length) h n
 refine Vm.aT (nt:=27) rfl NH (by simp) ?_
 obtain ⟨nv,lv,x,hg,r1,r2,r3,r4⟩:=hd
 by_cases h0:0≤n
 ·by_cases h1:n < 10
  ·obtain ⟨m,rfl⟩:∃m:Nat,n=m:=⟨n.toNat,by omega⟩
   obtain ⟨x0,hx0,yZ⟩:=r1.get (i:=m) (by rw[r4.now];omega)
   have lX:(m:Int)< nv.length:=by rw[r1.1,r4.now];omega
   have dD:D.get m=D.now.getD m none:=by simp[Dk.get];omega
   have CT:=r4.ns m
   rw[dD]
   have hx0t:=yZ.ty
   cases hc:D.now.getD m none with
   | none=>
     rw[hc] at hx0
     simp only[CO,go_sem,↓reduceIte,Nat.reduceEqDiff,Nat.reduceBEq,Nat.reduceAdd,Nat.reduceSub,Nat.reduceLT,Nat.reduceLeDiff,Int.reduceLT,Int.reduceLE,Int.reduceEq,Int.reduceToNat,hr,h0,h1,hg,hx0,lX]
   | some l=>
     rw[hc] at hx0 yZ CT
     have nw:=BT (b:=h.length) yZ (by omega)
     have fj:=Py h.length h l (Nat.le_refl _)
     simp only[CO,go_sem,↓reduceIte,Nat.reduceEqDiff,Nat.reduceBEq,Nat.reduceAdd,Nat.reduceSub,Nat.reduceLT,Nat.reduceLeDiff,Int.reduceLT,Int.reduceLE,Int.reduceEq,Int.reduceToNat,hr,h0,h1,hg,hx0,lX,hx0t,nw,fj]
  ·have dD:D.get n=none:=by simp[Dk.get];omega
   rw[dD]
   simp only[CO,go_sem,↓reduceIte,Nat.reduceEqDiff,Nat.reduceBEq,Nat.reduceAdd,Nat.reduceSub,Nat.reduceLT,Nat.reduceLeDiff,Int.reduceLT,Int.reduceLE,Int.reduceEq,Int.reduceToNat,hr,h0,h1,hg]
 ·have dD:D.get n=none:=by simp[Dk.get];omega
  rw[dD]
  simp only[CO,go_sem,↓reduceIte,Nat.reduceEqDiff,Nat.reduceBEq,Nat.reduceAdd,Nat.reduceSub,Nat.reduceLT,Nat.reduceLeDiff,Int.reduceLT,Int.reduceLE,Int.reduceEq,Int.reduceToNat,hr,h0,hg]
theorem HM (b:Nat) (h:Hp) (id:Nat) (D:Dk) (t:Int) (hb:b≤id) (hd:DR h id D):∃v h',R b 77 [.ptr id [0] 1,.s (.int .i64 t)] h=some (v,h')∧v= .bI []∧DR h' id (D.ir t)∧Fw [id] h h':=by
 refine Vm.dZ (nt:=43) rfl T3 (by simp) ?_
 have m6:=hd.fw
 have HN:=hd
 obtain ⟨nv,lv,x,hg,r1,r2,r3,r4⟩:=hd
 have bW:=q6z hg
 have Pw:=r3.ty
 let es:List V:=[.st 133 [.arr 132 lv,.arr 132 lv,.s (.int .i64 D.dQ),.s (.int .i64 D.at_),x]]
 let h1:=h.set id (.cells (some 133) es)
 have d1:DR h1 id {D with now:=D.bA}:=⟨_,_,_,q9z hg,r2.mono (m6 _),r2.mono (m6 _),r3.mono (m6 _),⟨r4.bA,r4.bA,r4.at_,r4.ls,r4.ls,r4.last⟩⟩
 by_cases hp:0 < D.dQ
 ·by_cases ht:0 < t
  ·obtain ⟨m,rfl⟩:∃m:Nat,t=m:=⟨t.toNat,by omega⟩
   have na:(0:Int)< D.dQ:=by omega
   have C8:min (m:Int) (D.last.length:Int)=((min m D.last.length:Nat):Int):=by omega
   have lW:BR h1 x D.last:=r3.mono (m6 es)
   have tX:=fun h0=> lW.cF (cf:=run fns pr b) (base:=b) (h:=h0)
   obtain ⟨y,hy,hyb⟩:=lW.hi (k:= .i64) (r:=min m D.last.length) (Nat.min_le_right _ _)
   have od:=r4.last
   obtain ⟨v2,h2,e2,⟨xs,rfl,nB⟩,f2,_⟩:=BU b h1 y _ (by have:=HN.lt;simp[h1];omega) hyb (by simp;omega)
   have d2:=d1.mono f2 (by simp)
   have Vu:=d2.fw
   have jf:=f2.dO _ _ (q9z hg) (by simp)
   have Ag:=q6z jf
   have hat:=r4.at_
   obtain ⟨x0,hx0,_⟩:=r2.get (i:=D.at_) (by rw[r4.bA];omega)
   have lX:(D.at_:Int)< lv.length:=by rw[r2.1,r4.bA];omega
   have CR:(0:Int)≤D.at_:=by omega
   simp only[h1,es] at hy e2 jf
   simp only[B77,go_sem,↓reduceIte,Nat.reduceEqDiff,Nat.reduceBEq,Nat.reduceAdd,Nat.reduceSub,Nat.reduceLT,Nat.reduceLeDiff,Int.reduceLT,Int.reduceLE,Int.reduceEq,Int.reduceToNat,hg,hb,bW,na,ht,Pw,tX,C8,hy,e2,zd,jf,hx0,lX,Ag,CR]
   have G:=fun es'=>((m6 es).trans (f2.mono (T:=[id]) (by simp))).trans (Vu es')
   have d3:=(⟨_,_,_,q9z jf,((r2.mono (G _)).set ⟨xs,rfl,nB.mono (Vu _)⟩ D.at_),r2.mono (G _),r3.mono (G _),
     ⟨by simp[r4.bA],r4.bA,r4.at_,j7 r4.ls _ (by simp;omega),r4.ls,r4.last⟩⟩:DR (h2.set id (.cells (some 133) [.st 133 [.arr 132 (lv.set D.at_ (.st 130 [.s (.bool true),xs])),.arr 132 lv,.s (.int .i64 D.dQ),.s (.int .i64 D.at_),x]])) id ⟨D.bA.set D.at_ (some (D.last.take (min m D.last.length))),D.bA,D.dQ,D.at_,D.last⟩)
   obtain ⟨v4,h4,e4,rfl,d4,f4⟩:=ry b _ id _ hb d3
   simp only[go_sem,↓reduceIte,Nat.reduceEqDiff,Nat.reduceBEq,Nat.reduceAdd,Nat.reduceSub,Nat.reduceLT,Nat.reduceLeDiff,Int.reduceLT,Int.reduceLE,Int.reduceEq,Int.reduceToNat,e4]
   refine ⟨?_,(G _).trans f4⟩
   have:D.ir m=Dk.sync ⟨D.bA.set D.at_ (some (D.last.take (min m D.last.length))),D.bA,D.dQ,D.at_,D.last⟩:=by
     have:D.last.take (min m D.last.length)=D.last.take m:=by rw[←List.take_eq_take_min]
     simp only[Dk.ir,Dk.eB,Dk.sync,hp,ht,and_self,if_true,Int.toNat_natCast,this]
   rw[this];exact d4
  ·obtain ⟨v2,h2,e2,rfl,d2,f2⟩:=ry b h1 id _ hb d1
   have na:(0:Int)< D.dQ:=by omega
   simp only[h1,es] at e2
   simp only[B77,go_sem,↓reduceIte,Nat.reduceEqDiff,Nat.reduceBEq,Nat.reduceAdd,Nat.reduceSub,Nat.reduceLT,Nat.reduceLeDiff,Int.reduceLT,Int.reduceLE,Int.reduceEq,Int.reduceToNat,hg,hb,bW,na,ht,e2]
   refine ⟨?_,(m6 es).trans f2⟩
   have:D.ir t=Dk.sync {D with now:=D.bA}:=by simp[Dk.ir,Dk.eB,Dk.sync,ht]
   rw[this];exact d2
 ·obtain ⟨v2,h2,e2,rfl,d2,f2⟩:=ry b h1 id _ hb d1
  have na:¬(0:Int)< D.dQ:=by omega
  simp only[h1,es] at e2
  simp only[B77,go_sem,↓reduceIte,Nat.reduceEqDiff,Nat.reduceBEq,Nat.reduceAdd,Nat.reduceSub,Nat.reduceLT,Nat.reduceLeDiff,Int.reduceLT,Int.reduceLE,Int.reduceEq,Int.reduceToNat,hg,hb,bW,na,e2]
  refine ⟨?_,(m6 es).trans f2⟩
  have:D.ir t=Dk.sync {D with now:=D.bA}:=by simp[Dk.ir,Dk.eB,Dk.sync,hp]
  rw[this];exact d2
end Go.Proofs.YtannfageakbpmaaGreat.Af
namespace Go.Proofs.YtannfageakbpmaaGreat
open Go Go.Vm Go.Proofs Go.Cl
set_option maxRecDepth 100000
def mr (q:kH):Bs:=[bt q.role]++bC q.aD.toNat++[bt q.to,bt q.vs.length]++q.vs.flatMap ba
def fJ (s:bh) (n:Nat):Bs:=(List.range n).flatMap fun i=> mr (s.p i)
def ib (s:bh):Bs:=[bt s.mem,bt s.bb]++fJ s 16
theorem qD (s:bh) (n:Nat):fJ s (n+1)=fJ s n++mr (s.p n):=by simp[fJ,List.range_succ]
theorem q38z {v:ag} (hw:v.wf) (hr:aQ v=true):(ba v).length≤112:=by
 have h1:=q14z hr
 obtain ⟨w1,w2,w3,w4,w5,w6,w7,w8,w9⟩:=hw
 simp[ba];omega
theorem q37z {l:List ag} (h:∀v∈l,aQ v=true∧v.wf):(l.flatMap ba).length≤112 * l.length:=by
 induction l with
 | nil=> simp
 | cons v l ih=>
   have h1:=ih fun w hw=> h w (by simp[hw])
   have h2:=q38z (h v (by simp)).2 (h v (by simp)).1
   simp only[List.flatMap_cons,List.length_append,List.length_cons];omega
theorem Dm {s:bh} {i:Nat} {q:kH} (h:POk s i q):(mr q).length≤459:=by
 have:=q37z (l:=q.vs) fun v hv=>⟨(h.vs v hv).1,(h.vs v hv).2.1⟩
 have:=h.len
 simp only[mr,List.length_append,List.length_cons,List.length_nil,bF];omega
theorem q39z {s:bh} (hk:j6 s):∀n,n≤16→(fJ s n).length≤459 * n
 | 0,_=> by simp[fJ]
 | n+1,hn=> by
   have h1:=q39z hk n (by omega)
   have h2:=Dm (hk.p n (by omega))
   rw[qD,List.length_append];omega
theorem xz (b:Nat) (h:Hp) (m:Nat) (s:bh) (F:List Nat) (hs:gY h m s F) (hk:j6 s):run fns pr b 16 [.ptr m [0] 1] h=some (.al false none ((ib s).map aa),h):=by
 refine Vm.aT (nt:=72) rfl RT (by simp) ?_
 have Yd:=fun b=> Pt b h m s F hs
 have N0:kK h (h++[.cells none [aa (bt s.mem),aa (bt s.bb)]]) (.ref h.length [] none 0 2 2) ([bt s.mem,bt s.bb]++fJ s 0):=⟨h.length,.inr ⟨rfl,aM _ _⟩,Nat.le_refl _,Fw.app _ _ _⟩
 simp only[B16,MT,MS,MR,Yd,oh,go_sem,↓reduceIte,Nat.reduceEqDiff,Nat.reduceBEq,Nat.reduceAdd,Nat.reduceSub,Nat.reduceLT,Nat.reduceLeDiff,Int.reduceLT,Int.reduceLE,Int.reduceEq,Int.reduceToNat]
 refine bj (fun q e H=>∃(i:Nat) (v:V),q=16 - i∧i≤16∧e 27= .s (.int .i64 (i:Nat))∧e 0= .ptr m [0] 1∧e 5=v∧kK h H v ([bt s.mem,bt s.bb]++fJ s i))
   (fun e H=>∃v,e 5=v∧kK h H v ([bt s.mem,bt s.bb]++fJ s 16)) 16 _ _ ⟨0,_,rfl,by omega,rfl,rfl,rfl,N0⟩ ?_ ?_
 ·rintro q e H ⟨i,v,rfl,hi,e27,e0,e5,N⟩
  by_cases cd:i < 16
  ·have cj:(i:Int)< 16:=by omega
   have w3:IntKind.i64.wrap ((i:Int)+1)=((i+1:Nat):Int):=q18z (by omega)
   have ok:=hk.p i cd
   have rh:=q39z hk i (by omega)
   have tI:=q37z (l:=(s.p i).vs) fun v hv=>⟨(ok.vs v hv).1,(ok.vs v hv).2.1⟩
   have ho4:=ok.len
   have hsH:gY H m s F:=hs.mono N.fw (by simp)
   have r1:=fun b=> KY b H m i s F hsH cd
   have r2:=fun b=> z0 b H m i s F hsH hk cd
   obtain ⟨ep,hep⟩:∃n:Nat,(s.p i).aD=n:=⟨(s.p i).aD.toNat,by have:=ok.e1;omega⟩
   have Ye:ep < 18446744073709551616:=by have:=ok.e2;omega
   have hle:=N.fw.len
   obtain ⟨v1,H1,a1,N1⟩:=(N.mono (Fw.app [] H [.cells none [aa (bt (s.p i).role)]])).app (y:= .ref H.length [] none 0 1 1) (m:=[bt (s.p i).role]) (BR.src (dG (by simp) rfl)) (by simp;omega)
   have tX:h.length≤H1.length:=N1.fw.len
   have n1:=eA h.length H1 ep Ye tX
   obtain ⟨v2,H2,a2,N2⟩:=(N1.mono (Fw.app [] H1 [.cells none ((bC ep).map aa)])).app (y:= .ref H1.length [] none 0 8 8) (m:=bC ep) (BR.src (dG (by simp) (bF _))) (by simp;omega)
   obtain ⟨v3,H3,a3,N3⟩:=(N2.mono (Fw.app [] H2 [.cells none [aa (bt (s.p i).to),aa (bt (s.p i).vs.length)]])).app (y:= .ref H2.length [] none 0 2 2) (m:=[bt (s.p i).to,bt (s.p i).vs.length]) (BR.src (dG (by simp) rfl)) (by simp;omega)
   have il:∀cf base H,aB cf base H .len [.al false (some 31) ((s.p i).vs.map ag.enc)]=some (.s (.int .i64 ((s.p i).vs.length:Nat)),H):=fun cf base H=> by rw[oi];simp
   rw[hep] at r1
   simp only[e27,e0,e5,cj,r1,r2,oh,a1,n1,a2,a3,il,go_sem,↓reduceIte,Nat.reduceEqDiff,Nat.reduceBEq,Nat.reduceAdd,Nat.reduceSub,Nat.reduceLT,Nat.reduceLeDiff,Int.reduceLT,Int.reduceLE,Int.reduceEq,Int.reduceToNat]
   generalize yZ:[bt s.mem,bt s.bb]++fJ s i++[bt (s.p i).role]++bC ep++[bt (s.p i).to,bt (s.p i).vs.length]=base0 at N3
   have hb0l:base0.length≤8000:=by rw[←yZ];simp;omega
   have Yf:base0++(s.p i).vs.flatMap ba=[bt s.mem,bt s.bb]++fJ s (i+1):=by
     rw[←yZ,qD,mr,hep]
     simp
   have r9:=ok.vs
   generalize (s.p i).vs=ai at *
   refine bj (fun q e H=>∃(j:Nat) (v:V),q=ai.length - j∧j≤ai.length∧e 57= .s (.int .i64 (j:Nat))∧e 56= .s (.int .i64 (ai.length:Nat))∧e 55= .al false (some 31) (ai.map ag.enc)∧e 27= .s (.int .i64 (i:Nat))∧e 0= .ptr m [0] 1∧e 5=v∧kK h H v (base0++(ai.take j).flatMap ba))
     (fun e H=>∃v,e 27= .s (.int .i64 (i:Nat))∧e 0= .ptr m [0] 1∧e 5=v∧kK h H v (base0++ai.flatMap ba)) ai.length _ _ ⟨0,v3,rfl,by omega,rfl,rfl,rfl,e27,e0,rfl,by simpa using N3⟩ ?_ ?_
   ·rintro q e H ⟨j,v,rfl,hj,e57,e56,e55,e27,e0,e5,N⟩
    by_cases cv:j < ai.length
    ·have cj:(j:Int)<((ai.length:Nat):Int):=by omega
     have hjv:ai[j]? =some ai[j]:=List.getElem?_eq_getElem cv
     have gN:SR H (.al false (some 31) (ai.map ag.enc)) (some 31) (ai.map ag.enc):= .inl ⟨false,rfl⟩
     have i1:=fun cf base=> gN.cY (cf:=cf) (base:=base) (k:= .i64) (i:=j) (by simpa using cv)
     have i2:=fun cf base=> gN.g8 (cf:=cf) (base:=base) (i:=j) (v:=ai[j].enc) (by rw[List.getElem?_map,hjv];rfl) rfl
     have hle:=N.fw.len
     obtain ⟨m1,m2,_⟩:=r9 _ (List.getElem_mem cv)
     have au:=q38z m2 m1
     have hp:=fun h0=> Ha h.length h0 false ai[j] m2
     rw[←ag.lH,m1,if_pos rfl] at hp
     have hfj:=q37z (l:=ai.take j) fun v hv=>⟨(r9 v (List.mem_of_mem_take hv)).1,(r9 v (List.mem_of_mem_take hv)).2.1⟩
     obtain ⟨v5,H5,a5,N5⟩:=(N.mono (Fw.app [] H [.cells (some 31) [ai[j].enc]])).app (y:= .al false none ((ba ai[j]).map aa)) (m:=ba ai[j]) rfl (by rw[List.length_take] at hfj;simp only[List.length_append];omega)
     have gP:base0++(ai.take j).flatMap ba++ba ai[j]=base0++(ai.take (j+1)).flatMap ba:=by
       rw[List.take_succ_eq_append_getElem cv,List.flatMap_append];simp
     rw[gP] at N5
     have w3:IntKind.i64.wrap ((j:Int)+1)=((j+1:Nat):Int):=q17z (by omega)
     simp only[e57,e56,e55,e27,e0,e5,cj,i1,i2,hle,aY,aZ,hp,a5,w3,go_sem,↓reduceIte,Nat.reduceEqDiff,Nat.reduceBEq,Nat.reduceAdd,Nat.reduceSub,Nat.reduceLT,Nat.reduceLeDiff,Int.reduceLT,Int.reduceLE,Int.reduceEq,Int.reduceToNat]
     exact ⟨ai.length - (j+1),by omega,j+1,v5,rfl,by omega,rfl,rfl,N5⟩
    ·have cj:¬(j:Int)<((ai.length:Nat):Int):=by omega
     obtain rfl:j=ai.length:=by omega
     rw[List.take_of_length_le (Nat.le_refl _)] at N
     simp only[e57,e56,e55,e27,e0,e5,cj,go_sem,↓reduceIte,Nat.reduceEqDiff,Nat.reduceBEq,Nat.reduceAdd,Nat.reduceSub,Nat.reduceLT,Nat.reduceLeDiff,Int.reduceLT,Int.reduceLE,Int.reduceEq,Int.reduceToNat]
     exact ⟨v,rfl,N⟩
   ·rintro e H ⟨v,e27,e0,e5,N⟩
    rw[Yf] at N
    simp only[e27,e0,e5,w3,go_sem,↓reduceIte,Nat.reduceEqDiff,Nat.reduceBEq,Nat.reduceAdd,Nat.reduceSub,Nat.reduceLT,Nat.reduceLeDiff,Int.reduceLT,Int.reduceLE,Int.reduceEq,Int.reduceToNat]
    exact ⟨16 - (i+1),by omega,i+1,v,rfl,by omega,rfl,rfl,N⟩
  ·have cj:¬(i:Int)< 16:=by omega
   obtain rfl:i=16:=by omega
   simp only[e27,e0,e5,cj,go_sem,↓reduceIte,Nat.reduceEqDiff,Nat.reduceBEq,Nat.reduceAdd,Nat.reduceSub,Nat.reduceLT,Nat.reduceLeDiff,Int.reduceLT,Int.reduceLE,Int.reduceEq,Int.reduceToNat]
   exact ⟨v,rfl,N⟩
 ·rintro e H ⟨v,e5,N⟩
  have df:=N.q8 (n:=h.length) (by simp)
  have eI:=N.fw.take
  simp only[e5,df,eI,ib,go_sem,↓reduceIte,Nat.reduceEqDiff,Nat.reduceBEq,Nat.reduceAdd,Nat.reduceSub,Nat.reduceLT,Nat.reduceLeDiff,Int.reduceLT,Int.reduceLE,Int.reduceEq,Int.reduceToNat]
structure aH where
 mem:Int
 bb:Int
 key:Bs
 is:Int
 st:bh
 dk:Dk
 r:ae
 steps:Int
 aO:Int
 eB:Int
def aH.down (D:aH) (t:Int):aH:= {D with is:=2,aO:= -1,dk:=D.dk.ir t}
def aH.step (D:aH):Bool×aH:=if D.aO=0 then (false,D.down D.eB) else (true, {D with aO:=if 0 < D.aO then D.aO - 1 else D.aO,steps:=D.steps+1})
def aH.put (D:aH) (n:Int) (l:Bs):aH:= {D with dk:=if Dk.js n l=true then D.dk.put n.toNat l else D.dk}
def aH.lay (D:aH) (n:Int) (l:Bs):Bool×aH:=
 if D.step.1=false then (false,D.step.2) else if (D.step.2.put n l).step.1=false then (false,(D.step.2.put n l).step.2)
 else (true, {(D.step.2.put n l).step.2 with dk:=(D.step.2.put n l).step.2.dk.sync})
def ec (D:aH) (sp:V) (did:Nat):List V:=[.st 71 [.s (.int .i64 D.mem),.s (.int .i64 D.bb),.arr 25 (D.key.map aa),.s (.int .i64 D.is),sp,.ptr did [0] 1,D.r.enc,.s (.int .i64 D.steps),.s (.int .i64 D.aO),.s (.int .i64 D.eB)]]
structure uw (h:Hp) (id:Nat) (D:aH) (F:List Nat) (did:Nat) (sp:V) (sid:Nat) (Fs:List Nat):Prop where
 o:h[id]? =some (.cells (some 71) (ec D sp did))
 d:Af.DR h did D.dk
 s:D.is=1→sp= .ptr sid [0] 1∧gY h sid D.st Fs
 ty:sp.ty=none
 so:sp.ax=true
 f:F=id::did::Fs
 n1:id≠did
 n2:id∉Fs
 n3:did∉Fs
 fl:∀j∈F,j < h.length
 kl:D.key.length=16
def kI (h:Hp) (id:Nat) (D:aH) (F:List Nat):Prop:=∃did sp sid Fs,uw h id D F did sp sid Fs
theorem uw.mono {S F Fs:List Nat} {h h':Hp} {id did sid:Nat} {D:aH} {sp:V} (hd:uw h id D F did sp sid Fs) (f:Fw S h h') (hS:∀j∈F,j∉S):uw h' id D F did sp sid Fs:=by
 obtain ⟨o,d,s,ty,so,rfl,n1,n2,n3,fl,kl⟩:=hd
 exact ⟨f.dO _ _ o (hS _ (by simp)),d.mono f (hS _ (by simp)),fun hi=>⟨(s hi).1,(s hi).2.mono f fun j hj=> hS _ (by simp[hj])⟩,ty,so,rfl,n1,n2,n3,fun j hj=> f.lt (fl j hj),kl⟩
theorem kI.mono {S F:List Nat} {h h':Hp} {id:Nat} {D:aH} (hd:kI h id D F) (f:Fw S h h') (hS:∀j∈F,j∉S):kI h' id D F:=by
 obtain ⟨did,sp,sid,Fs,hd⟩:=hd
 exact ⟨did,sp,sid,Fs,hd.mono f hS⟩
theorem kI.lt {F:List Nat} {h:Hp} {id:Nat} {D:aH} (hd:kI h id D F):∀j∈F,j < h.length:=by
 obtain ⟨did,sp,sid,Fs,hd⟩:=hd
 exact hd.fl
theorem kI.mem {F:List Nat} {h:Hp} {id:Nat} {D:aH} (hd:kI h id D F):id∈F:=by
 obtain ⟨did,sp,sid,Fs,hd⟩:=hd
 rw[hd.f];simp
theorem kI.app {F:List Nat} {h:Hp} {id:Nat} {D:aH} (hd:kI h id D F) (X:Hp):kI (h++X) id D F:=hd.mono (Fw.app [] h X) (by simp)
theorem uw.Dn {F Fs:List Nat} {h:Hp} {id did sid:Nat} {D D':aH} {sp:V} (hd:uw h id D F did sp sid Fs) (h1:D'.dk=D.dk) (h2:D'.is=1→D.is=1∧D'.st=D.st) (h3:D'.key.length=16):
 uw (h.set id (.cells (some 71) (ec D' sp did))) id D' F did sp sid Fs∧Fw F h (h.set id (.cells (some 71) (ec D' sp did))):=by
 have f:Fw [id] h (h.set id (.cells (some 71) (ec D' sp did))):=Fw.set (by simp) hd.o
 obtain ⟨o,d,s,ty,so,rfl,n1,n2,n3,fl,kl⟩:=hd
 refine ⟨⟨q9z o,by rw[h1];exact d.mono f (by simp[Ne.symm n1]),fun hi=> ?_,ty,so,rfl,n1,n2,n3,fun j hj=> f.lt (fl j hj),h3⟩,f.mono (by simp)⟩
 obtain ⟨a,b⟩:=h2 hi
 obtain ⟨c,e⟩:=s a
 exact ⟨c,by rw[b];exact e.mono f (fun j hj=> by simp;rintro rfl;exact n2 hj)⟩
theorem uw.Pz {F Fs:List Nat} {h h':Hp} {id did sid:Nat} {D:aH} {sp:V} {K:Dk} (hd:uw h id D F did sp sid Fs) (hk:Af.DR h' did K) (f:Fw [did] h h'):
 uw h' id {D with dk:=K} F did sp sid Fs∧Fw F h h':=by
 obtain ⟨o,d,s,ty,so,rfl,n1,n2,n3,fl,kl⟩:=hd
 exact ⟨⟨f.dO _ _ o (by simp[n1]),hk,fun hi=>⟨(s hi).1,(s hi).2.mono f (fun j hj=> by simp;rintro rfl;exact n3 hj)⟩,ty,so,rfl,n1,n2,n3,fun j hj=> f.lt (fl j hj),kl⟩,f.mono (by simp)⟩
theorem BV (b:Nat) (h:Hp) (id:Nat) (D:aH) (F:List Nat) (t:Int) (hF:∀j∈F,b≤j) (hd:kI h id D F):
 ∃v h',run fns pr b 43 [.ptr id [0] 1,.s (.int .i64 t)] h=some (v,h')∧v= .bI []∧kI h' id (D.down t) F∧Fw F h h':=by
 obtain ⟨did,sp,sid,Fs,hd⟩:=hd
 refine Vm.dZ (nt:=16) rfl SP (by simp) ?_
 obtain ⟨h1,f1⟩:=hd.Dn (D':= {D with is:=2,aO:= -1}) rfl (fun h=> by cases h) hd.kl
 have lW:b≤id:=hF _ (by rw[hd.f];simp)
 have xA:b≤did:=hF _ (by rw[hd.f];simp)
 obtain ⟨v2,H2,hc,rfl,d2,f2⟩:=Af.HM b _ did D.dk t xA h1.d
 obtain ⟨h3,f3⟩:=h1.Pz d2 f2
 have hg:=hd.o
 have iq:∀B,(h.set id B)[id]? =some B:=fun B=> q9z hg
 have bW:=q6z hg
 have du:=hd.ty
 have jE:=hd.so
 simp only[ec,Af.R] at hg hc
 simp only[B43,hg,iq,lW,bW,List.set_set,du,jE,hc,go_sem,↓reduceIte,Nat.reduceEqDiff,Nat.reduceBEq,Nat.reduceAdd,Nat.reduceSub,Nat.reduceLT,Nat.reduceLeDiff,Int.reduceLT,Int.reduceLE,Int.reduceEq,Int.reduceToNat]
 exact ⟨⟨did,sp,sid,Fs,h3⟩,f1.trans f3⟩
theorem rz (b:Nat) (h:Hp) (id:Nat) (D:aH) (F:List Nat) (hF:∀j∈F,b≤j) (hd:kI h id D F) (hs:0≤D.steps∧D.steps < 4611686018427387904) (hfu:D.aO≤9223372036854775807):
 ∃v h',run fns pr b 32 [.ptr id [0] 1] h=some (v,h')∧v= .s (.bool D.step.1)∧kI h' id D.step.2 F∧Fw F h h':=by
 have Ho:=BV b h id D F D.eB hF hd
 obtain ⟨did,sp,sid,Fs,hd⟩:=hd
 refine Vm.dZ (nt:=33) rfl Ss (by simp) ?_
 have hg:=hd.o
 have iq:∀B,(h.set id B)[id]? =some B:=fun B=> q9z hg
 have bW:=q6z hg
 have du:=hd.ty
 have jE:=hd.so
 have lW:b≤id:=hF _ (by rw[hd.f];simp)
 have w1:IntKind.i64.wrap (D.steps+1)=D.steps+1:=wrap_i64 (by omega) (by omega)
 simp only[ec] at hg
 unfold aH.step
 by_cases c0:D.aO=0
 ·rw[if_pos c0]
  obtain ⟨v2,H2,e2,rfl,d2,f2⟩:=Ho
  simp only[B32,hg,iq,lW,bW,List.set_set,du,jE,c0,e2,go_sem,↓reduceIte,Nat.reduceEqDiff,Nat.reduceBEq,Nat.reduceAdd,Nat.reduceSub,Nat.reduceLT,Nat.reduceLeDiff,Int.reduceLT,Int.reduceLE,Int.reduceEq,Int.reduceToNat]
  exact ⟨d2,f2⟩
 ·rw[if_neg c0]
  obtain ⟨h1,f1⟩:=hd.Dn (D':= {D with aO:=if 0 < D.aO then D.aO - 1 else D.aO,steps:=D.steps+1}) rfl (fun h=>⟨h,rfl⟩) hd.kl
  by_cases c1:0 < D.aO
  ·have w2:IntKind.i64.wrap (D.aO - 1)=D.aO - 1:=wrap_i64 (by omega) (by omega)
   simp only[c1,if_true,ec] at h1 f1 ⊢
   simp only[B32,hg,iq,lW,bW,List.set_set,du,jE,c0,c1,w1,w2,go_sem,↓reduceIte,Nat.reduceEqDiff,Nat.reduceBEq,Nat.reduceAdd,Nat.reduceSub,Nat.reduceLT,Nat.reduceLeDiff,Int.reduceLT,Int.reduceLE,Int.reduceEq,Int.reduceToNat]
   exact ⟨⟨did,sp,sid,Fs,h1⟩,f1⟩
  ·simp only[c1,if_false,ec] at h1 f1 ⊢
   simp only[B32,hg,iq,lW,bW,List.set_set,du,jE,c0,c1,w1,go_sem,↓reduceIte,Nat.reduceEqDiff,Nat.reduceBEq,Nat.reduceAdd,Nat.reduceSub,Nat.reduceLT,Nat.reduceLeDiff,Int.reduceLT,Int.reduceLE,Int.reduceEq,Int.reduceToNat]
   exact ⟨⟨did,sp,sid,Fs,h1⟩,f1⟩
theorem Vv (b:Nat) (h:Hp) (id:Nat) (D:aH) (F:List Nat) (hd:kI h id D F):run fns pr b 18 [.ptr id [0] 1] h=some (.s (.int .i64 D.is),h):=by
 obtain ⟨did,sp,sid,Fs,hd⟩:=hd
 have hg:=hd.o
 simp only[ec] at hg
 refine Vm.aT (nt:=7) rfl RZ (by simp) ?_
 simp only[B18,hg,go_sem,↓reduceIte,Nat.reduceEqDiff,Nat.reduceBEq,Nat.reduceAdd,Nat.reduceSub,Nat.reduceLT,Nat.reduceLeDiff,Int.reduceLT,Int.reduceLE,Int.reduceEq,Int.reduceToNat]
theorem mu (b:Nat) (h:Hp) (id:Nat) (D:aH) (F:List Nat) (hd:kI h id D F):run fns pr b 19 [.ptr id [0] 1] h=some (.s (.int .i64 D.steps),h):=by
 obtain ⟨did,sp,sid,Fs,hd⟩:=hd
 have hg:=hd.o
 simp only[ec] at hg
 refine Vm.aT (nt:=7) rfl R1 (by simp) ?_
 simp only[B19,hg,go_sem,↓reduceIte,Nat.reduceEqDiff,Nat.reduceBEq,Nat.reduceAdd,Nat.reduceSub,Nat.reduceLT,Nat.reduceLeDiff,Int.reduceLT,Int.reduceLE,Int.reduceEq,Int.reduceToNat]
theorem jt (b:Nat) (h:Hp) (id:Nat) (D:aH) (F:List Nat) (hd:kI h id D F):run fns pr b 12 [.ptr id [0] 1] h=some (D.r.enc,h):=by
 obtain ⟨did,sp,sid,Fs,hd⟩:=hd
 have hg:=fun X=> q10z hd.o X
 simp only[ec] at hg
 refine Vm.aT (nt:=7) rfl RL (by simp) ?_
 simp only[B12,hg,ae.cG,ae.cH,ae.pX,List.take_left,go_sem,↓reduceIte,Nat.reduceEqDiff,Nat.reduceBEq,Nat.reduceAdd,Nat.reduceSub,Nat.reduceLT,Nat.reduceLeDiff,Int.reduceLT,Int.reduceLE,Int.reduceEq,Int.reduceToNat]
def fK (D:aH):Int:=if D.is=2 then 29 else if D.is=3 then 28 else 0
theorem HO (b:Nat) (h:Hp) (id:Nat) (D:aH) (F:List Nat) (hd:kI h id D F):run fns pr b 25 [.ptr id [0] 1] h=some (.s (.int .i64 (fK D)),h):=by
 obtain ⟨did,sp,sid,Fs,hd⟩:=hd
 have hg:=hd.o
 simp only[ec] at hg
 refine Vm.aT (nt:=11) rfl Se (by simp) ?_
 unfold fK
 by_cases c2:D.is=2
 ·simp only[B25,hg,c2,go_sem,↓reduceIte,Nat.reduceEqDiff,Nat.reduceBEq,Nat.reduceAdd,Nat.reduceSub,Nat.reduceLT,Nat.reduceLeDiff,Int.reduceLT,Int.reduceLE,Int.reduceEq,Int.reduceToNat]
  all_goals rfl
 ·by_cases c3:D.is=3
  ·simp only[B25,hg,c2,c3,go_sem,↓reduceIte,Nat.reduceEqDiff,Nat.reduceBEq,Nat.reduceAdd,Nat.reduceSub,Nat.reduceLT,Nat.reduceLeDiff,Int.reduceLT,Int.reduceLE,Int.reduceEq,Int.reduceToNat]
   all_goals rfl
  ·simp only[B25,hg,c2,c3,go_sem,↓reduceIte,Nat.reduceEqDiff,Nat.reduceBEq,Nat.reduceAdd,Nat.reduceSub,Nat.reduceLT,Nat.reduceLeDiff,Int.reduceLT,Int.reduceLE,Int.reduceEq,Int.reduceToNat]
   all_goals rfl
def aH.dV (D:aH) (n t:Int):aH:= {D with aO:=max n (-1),eB:=t}
theorem BW (b:Nat) (h:Hp) (id:Nat) (D:aH) (F:List Nat) (n t:Int) (hF:∀j∈F,b≤j) (hd:kI h id D F):
 ∃v h',run fns pr b 9 [.ptr id [0] 1,.s (.int .i64 n),.s (.int .i64 t)] h=some (v,h')∧v= .bI []∧kI h' id (D.dV n t) F∧Fw F h h':=by
 obtain ⟨did,sp,sid,Fs,hd⟩:=hd
 refine Vm.dZ (nt:=15) rfl XZ (by simp) ?_
 have hg:=hd.o
 have iq:∀B,(h.set id B)[id]? =some B:=fun B=> q9z hg
 have bW:=q6z hg
 have lW:b≤id:=hF _ (by rw[hd.f];simp)
 have du:=hd.ty
 have jE:=hd.so
 obtain ⟨h1,f1⟩:=hd.Dn (D':=D.dV n t) rfl (fun h=>⟨h,rfl⟩) hd.kl
 simp only[ec] at hg
 simp only[ec,aH.dV] at h1 f1
 simp only[B9,hg,iq,lW,bW,List.set_set,du,jE,go_sem,↓reduceIte,Nat.reduceEqDiff,Nat.reduceBEq,Nat.reduceAdd,Nat.reduceSub,Nat.reduceLT,Nat.reduceLeDiff,Int.reduceLT,Int.reduceLE,Int.reduceEq,Int.reduceToNat]
 exact ⟨⟨did,sp,sid,Fs,h1⟩,f1⟩
def aH.stop (D:aH):aH:=if D.is=1 then D.down 0 else D
theorem K8 (b:Nat) (h:Hp) (id:Nat) (D:aH) (F:List Nat) (hF:∀j∈F,b≤j) (hd:kI h id D F):
 ∃v h',run fns pr b 17 [.ptr id [0] 1] h=some (v,h')∧v= .bI []∧kI h' id D.stop F∧Fw F h h':=by
 have Ho:=BV b h id D F 0 hF hd
 have HN:=hd
 obtain ⟨did,sp,sid,Fs,hd⟩:=hd
 have hg:=hd.o
 simp only[ec] at hg
 refine Vm.dZ (nt:=9) rfl RX (by simp) ?_
 unfold aH.stop
 by_cases c:D.is=1
 ·rw[if_pos c]
  obtain ⟨v2,H2,e2,rfl,d2,f2⟩:=Ho
  simp only[B17,hg,c,e2,go_sem,↓reduceIte,Nat.reduceEqDiff,Nat.reduceBEq,Nat.reduceAdd,Nat.reduceSub,Nat.reduceLT,Nat.reduceLeDiff,Int.reduceLT,Int.reduceLE,Int.reduceEq,Int.reduceToNat]
  exact ⟨d2,f2⟩
 ·rw[if_neg c]
  simp only[B17,hg,c,go_sem,↓reduceIte,Nat.reduceEqDiff,Nat.reduceBEq,Nat.reduceAdd,Nat.reduceSub,Nat.reduceLT,Nat.reduceLeDiff,Int.reduceLT,Int.reduceLE,Int.reduceEq,Int.reduceToNat]
  exact ⟨HN,Fw.refl _ _⟩
structure nF (p:Nat) (N:Int) (D:aH):Prop where
 dQ:D.dk.dQ≤p
 s0:0≤D.steps
 s1:D.steps≤N
 f1:D.aO≤9223372036854775807
 gr:bc D.r=true
 gw:D.r.wf
 so:D.is=1→j6 D.st
 is:D.is=1∨D.is=2∨D.is=3
theorem nF.wk {p p':Nat} {N N':Int} {D:aH} (hk:nF p N D) (h1:p≤p') (h2:N≤N'):nF p' N' D:=
 ⟨Nat.le_trans hk.dQ h1,hk.s0,Int.le_trans hk.s1 h2,hk.f1,hk.gr,hk.gw,hk.so,hk.is⟩
theorem nF.down {p:Nat} {N:Int} {D:aH} (hk:nF p N D) (t:Int):nF 0 N (D.down t):=
 ⟨Nat.le_refl _,hk.s0,hk.s1,by simp[aH.down],hk.gr,hk.gw,fun h=> by simp[aH.down] at h,.inr (.inl rfl)⟩
theorem nF.step {p:Nat} {N:Int} {D:aH} (hk:nF p N D):nF p (N+1) D.step.2:=by
 unfold aH.step
 by_cases c:D.aO=0
 ·rw[if_pos c]
  exact (hk.down D.eB).wk (by omega) (by omega)
 ·rw[if_neg c]
  obtain ⟨h1,h2,h3,h4,h5,h6,h7,h8⟩:=hk
  exact ⟨h1,by simp only;omega,by simp only;omega,by simp only;split <;> omega,h5,h6,h7,h8⟩
theorem nF.put {p:Nat} {N:Int} {D:aH} (hk:nF p N D) (n:Int) (l:Bs):nF (p+1) N (D.put n l):=by
 obtain ⟨h1,h2,h3,h4,h5,h6,h7,h8⟩:=hk
 refine ⟨?_,h2,h3,h4,h5,h6,h7,h8⟩
 unfold aH.put
 simp only
 split
 ·simp only[Dk.put];omega
 ·omega
theorem nF.sync {p:Nat} {N:Int} {D:aH} (hk:nF p N D):nF 0 N {D with dk:=D.dk.sync}:=by
 obtain ⟨h1,h2,h3,h4,h5,h6,h7,h8⟩:=hk
 exact ⟨Nat.le_refl _,h2,h3,h4,h5,h6,h7,h8⟩
theorem nF.Vw {p:Nat} {N:Int} {D:aH} (hk:nF p N D) (hf:D.step.1=false):nF 0 N D.step.2:=by
 unfold aH.step at hf ⊢
 by_cases c:D.aO=0
 ·rw[if_pos c]
  exact hk.down D.eB
 ·rw[if_neg c] at hf;cases hf
theorem nF.lay {N:Int} {D:aH} (hk:nF 0 N D) (n:Int) (l:Bs):nF 0 (N+2) (D.lay n l).2:=by
 unfold aH.lay
 have k1:=hk.step
 cases c1:D.step.1 with
 | false=>
   rw[if_pos rfl]
   exact k1.wk (by omega) (by omega)
 | true=>
   rw[if_neg (by simp)]
   have k2:=k1.put n l
   have k3:=k2.step
   cases c3:(D.step.2.put n l).step.1 with
   | false=>
     rw[if_pos rfl]
     exact (k2.Vw c3).wk (by omega) (by omega)
   | true=>
     rw[if_neg (by simp)]
     have:=k3.sync
     rwa [show N+1+1=N+2 by omega] at this
def aH.same (D E:aH):Prop:=E.mem=D.mem∧E.bb=D.bb∧E.key=D.key∧E.st=D.st∧E.r=D.r
theorem aH.iK (D:aH):D.same D.step.2∧(D.step.1=true→D.step.2.is=D.is):=by
 unfold aH.step aH.same
 by_cases c:D.aO=0
 ·simp[c,aH.down]
 ·simp[c]
theorem aH.pc (D:aH) (n:Int) (l:Bs):D.same (D.lay n l).2∧((D.lay n l).1=true→(D.lay n l).2.is=D.is):=by
 unfold aH.lay
 obtain ⟨⟨a1,a2,a3,a4,a5⟩,a6⟩:=aH.iK D
 cases c1:D.step.1 with
 | false=>
   rw[if_pos rfl]
   exact ⟨⟨a1,a2,a3,a4,a5⟩,fun h=> by cases h⟩
 | true=>
   rw[if_neg (by simp)]
   obtain ⟨⟨b1,b2,b3,b4,b5⟩,b6⟩:=aH.iK (D.step.2.put n l)
   have hs:D.same (D.step.2.put n l).step.2:=⟨b1.trans a1,b2.trans a2,b3.trans a3,b4.trans a4,b5.trans a5⟩
   cases c3:(D.step.2.put n l).step.1 with
   | false=>
     rw[if_pos rfl]
     exact ⟨hs,fun h=> by cases h⟩
   | true=>
     rw[if_neg (by simp)]
     exact ⟨hs,fun _=>(b6 c3).trans (a6 c1)⟩
theorem K9 (b:Nat) (h:Hp) (id:Nat) (D:aH) (F:List Nat) (did:Nat) (sp:V) (sid:Nat) (Fs:List Nat) (n:Int) (y:V) (l:Bs) (hF:∀j∈F,b≤j) (hd:uw h id D F did sp sid Fs) (hy:BR h y l) (hl:l.length≤140737488355328) (hp:D.dk.dQ < 4611686018427387904):
 ∃h',run fns pr b 61 [.ptr did [0] 1,.s (.int .i64 n),y] h=some (.s (.bool (Dk.js n l)),h')∧uw h' id (D.put n l) F did sp sid Fs∧Fw F h h':=by
 have xA:b≤did:=hF _ (by rw[hd.f];simp)
 obtain ⟨v,h',e,rfl,d,f⟩:=Af.Pv b h did D.dk n y l xA hd.d hy hl hp
 obtain ⟨h3,f3⟩:=hd.Pz d f
 exact ⟨h',e,h3,f3⟩
theorem HP (b:Nat) (h:Hp) (id:Nat) (D:aH) (F:List Nat) (did:Nat) (sp:V) (sid:Nat) (Fs:List Nat) (hF:∀j∈F,b≤j) (hd:uw h id D F did sp sid Fs):
 ∃h',run fns pr b 62 [.ptr did [0] 1] h=some (.bI [],h')∧uw h' id {D with dk:=D.dk.sync} F did sp sid Fs∧Fw F h h':=by
 have xA:b≤did:=hF _ (by rw[hd.f];simp)
 obtain ⟨v,h',e,rfl,d,f⟩:=Af.ry b h did D.dk xA hd.d
 obtain ⟨h3,f3⟩:=hd.Pz d f
 exact ⟨h',e,h3,f3⟩
theorem HQ (b:Nat) (h:Hp) (id:Nat) (D:aH) (F:List Nat) (n:Int) (y:V) (l:Bs) (hF:∀j∈F,b≤j) (hd:kI h id D F) (N:Int) (hN:N < 1000000000) (hk:nF 0 N D) (hy:BR h y l) (hl:l.length≤140737488355328):
 ∃v h',run fns pr b 30 [.ptr id [0] 1,.s (.int .i64 n),y] h=some (v,h')∧v= .s (.bool (D.lay n l).1)∧kI h' id (D.lay n l).2 F∧Fw F h h':=by
 refine Vm.dZ (nt:=25) rfl So (by simp) ?_
 have k1:=hk.step
 obtain ⟨v1,H1,e1,rfl,d1,f1⟩:=rz b h id D F hF hd ⟨hk.s0,by have:=hk.s1;omega⟩ hk.f1
 unfold aH.lay
 cases c1:D.step.1 with
 | false=>
   rw[c1] at e1
   rw[if_pos rfl]
   simp only[B30,e1,go_sem,↓reduceIte,Nat.reduceEqDiff,Nat.reduceBEq,Nat.reduceAdd,Nat.reduceSub,Nat.reduceLT,Nat.reduceLeDiff,Int.reduceLT,Int.reduceLE,Int.reduceEq,Int.reduceToNat]
   exact ⟨d1,f1⟩
 | true=>
   rw[c1] at e1
   rw[if_neg (by simp)]
   generalize D.step.2=D1 at *
   obtain ⟨did,sp,sid,Fs,p1⟩:=d1
   have cI:=p1.o
   simp only[ec] at cI
   obtain ⟨H2,e2,p2,f2⟩:=K9 b H1 id D1 F did sp sid Fs n y l hF p1 (hy.mono f1) hl (by have:=k1.dQ;omega)
   obtain ⟨v3,H3,e3,rfl,d3,f3⟩:=rz b H2 id (D1.put n l) F hF ⟨did,sp,sid,Fs,p2⟩ ⟨k1.s0,by have:=k1.s1;show D1.steps < _;omega⟩ k1.f1
   cases c3:(D1.put n l).step.1 with
   | false=>
     rw[c3] at e3
     rw[if_pos rfl]
     simp only[B30,e1,cI,e2,e3,go_sem,↓reduceIte,Nat.reduceEqDiff,Nat.reduceBEq,Nat.reduceAdd,Nat.reduceSub,Nat.reduceLT,Nat.reduceLeDiff,Int.reduceLT,Int.reduceLE,Int.reduceEq,Int.reduceToNat]
     exact ⟨d3,f1.trans (f2.trans f3)⟩
   | true=>
     rw[c3] at e3
     rw[if_neg (by simp)]
     generalize (D1.put n l).step.2=D3 at *
     obtain ⟨did3,sp3,sid3,Fs3,p3⟩:=d3
     have xj:=p3.o
     simp only[ec] at xj
     obtain ⟨H4,e4,p4,f4⟩:=HP b H3 id D3 F did3 sp3 sid3 Fs3 hF p3
     simp only[B30,e1,cI,e2,e3,xj,e4,go_sem,↓reduceIte,Nat.reduceEqDiff,Nat.reduceBEq,Nat.reduceAdd,Nat.reduceSub,Nat.reduceLT,Nat.reduceLeDiff,Int.reduceLT,Int.reduceLE,Int.reduceEq,Int.reduceToNat]
     exact ⟨⟨_,_,_,_,p4⟩,f1.trans (f2.trans (f3.trans f4))⟩
def aH.lY (D:aH):Bs:=(jI D.key D.r (ib D.st)).1
def aH.fold (D:aH):Bool×aH:=
 if (D.lay (1 - D.r.aF) D.lY).1=false then (false,(D.lay (1 - D.r.aF) D.lY).2)
 else if (D.lay (1 - D.r.aF) D.lY).2.step.1=false then (false,(D.lay (1 - D.r.aF) D.lY).2.step.2)
 else (true, {(D.lay (1 - D.r.aF) D.lY).2.step.2 with r:=(gT (D.lay (1 - D.r.aF) D.lY).2.step.2.r (cT D.lY)).1})
theorem sj (k:Bs) (r:ae) (l:Bs):(jI k r l).1.length≤8192:=by
 unfold jI
 split
 ·simp
 ·rw[pR _ _ _ _ (by omega) (by decide)];omega
theorem BX (b:Nat) (h:Hp) (id:Nat) (D:aH) (F:List Nat) (hF:∀j∈F,b≤j) (hd:kI h id D F) (N:Int) (hN:N < 1000000000 - 10) (hk:nF 0 N D) (hi:D.is=1):
 ∃v h',run fns pr b 35 [.ptr id [0] 1] h=some (v,h')∧v= .s (.bool D.fold.1)∧kI h' id D.fold.2 F∧Fw F h h':=by
 have HN:=hd
 obtain ⟨did,sp,sid,Fs,hd⟩:=hd
 obtain ⟨uA,aP⟩:=hd.s hi
 have m0:=fun b=> xz b h sid D.st Fs aP (hk.so hi)
 have hjs:=fun b=> HF b h (.al false none ((ib D.st).map aa)) D.key (ib D.st) D.r hd.kl hk.gw (dj _ _ _)
 have hpt:D.r.aF=0∨D.r.aF=1:=(q11z hk.gr).2.2.2.2.1
 have ou:=fun b H=> K6 b H D.r hpt
 have hil:=sj D.key D.r (ib D.st)
 obtain ⟨v1,H1,e1,rfl,d1,f1⟩:=HQ b h id D F (1 - D.r.aF) (.al false none (D.lY.map aa)) D.lY hF HN N (by omega) hk (dj _ _ _) (by unfold aH.lY;omega)
 have k1:=hk.lay (1 - D.r.aF) D.lY
 obtain ⟨v2,H2,e2,rfl,d2,f2⟩:=rz b H1 id _ F hF d1 ⟨k1.s0,by have:=k1.s1;omega⟩ k1.f1
 have k2:=k1.step
 have s1:=(aH.pc D (1 - D.r.aF) D.lY).1
 have s2:=(aH.iK (D.lay (1 - D.r.aF) D.lY).2).1
 have hg:=hd.o
 have fV:(D.key.map aa).length=16:=by simp[hd.kl]
 refine Vm.dZ (nt:=49) rfl Sz (by simp) ?_
 unfold aH.fold
 have him:(jI D.key D.r (ib D.st)).1=D.lY:=rfl
 rw[him] at hjs
 simp only[ec,uA] at hg
 generalize (D.lay (1 - D.r.aF) D.lY)=L at *
 cases c1:L.1 with
 | false=>
   rw[c1] at e1
   rw[if_pos rfl]
   simp only[B35,hg,m0,hjs,ou,e1,bG,ae.cG,ae.cH,go_sem,↓reduceIte,Nat.reduceEqDiff,Nat.reduceBEq,Nat.reduceAdd,Nat.reduceSub,Nat.reduceLT,Nat.reduceLeDiff,Int.reduceLT,Int.reduceLE,Int.reduceEq,Int.reduceToNat]
   exact ⟨d1,f1⟩
 | true=>
   rw[c1] at e1
   rw[if_neg (by simp)]
   cases c2:L.2.step.1 with
   | false=>
     rw[c2] at e2
     rw[if_pos rfl]
     simp only[B35,hg,m0,hjs,ou,e1,bG,ae.cG,ae.cH,e2,go_sem,↓reduceIte,Nat.reduceEqDiff,Nat.reduceBEq,Nat.reduceAdd,Nat.reduceSub,Nat.reduceLT,Nat.reduceLeDiff,Int.reduceLT,Int.reduceLE,Int.reduceEq,Int.reduceToNat]
     exact ⟨d2,f1.trans f2⟩
   | true=>
     rw[c2] at e2
     rw[if_neg (by simp)]
     generalize L.2.step.2=D3 at *
     obtain ⟨did3,sp3,sid3,Fs3,p3⟩:=d2
     have xj:=p3.o
     have iq:∀B,(H2.set id B)[id]? =some B:=fun B=> q9z xj
     have bW:=q6z xj
     have lW:b≤id:=hF _ (by rw[hd.f];simp)
     have du:=p3.ty
     have jE:=p3.so
     have hfi:=fun b=> uv b H2 (.al false none (D.lY.map aa)) D.lY (dj _ _ _) (by unfold aH.lY;omega)
     have pY:=fun b=> K5 b H2 D3.r (cT D.lY) k2.gw (bm _)
     obtain ⟨h4,f4⟩:=p3.Dn (D':= {D3 with r:=(gT D3.r (cT D.lY)).1}) rfl (fun h=>⟨h,rfl⟩) p3.kl
     simp only[ec] at xj h4 f4
     simp only[B35,hg,m0,hjs,ou,e1,bG,ae.cG,ae.cH,e2,xj,iq,lW,bW,du,jE,hfi,pY,go_sem,↓reduceIte,Nat.reduceEqDiff,Nat.reduceBEq,Nat.reduceAdd,Nat.reduceSub,Nat.reduceLT,Nat.reduceLeDiff,Int.reduceLT,Int.reduceLE,Int.reduceEq,Int.reduceToNat]
     exact ⟨⟨_,_,_,_,h4⟩,f1.trans (f2.trans f4)⟩
def aH.frame (D:aH) (r:aq):Bs:=(kV D.key (D.r.count.toNat+1) D.r.head r).1
def aH.next (D:aH) (r:aq):ae×Bool:=ej D.r (dp D.r.head (D.frame r))
def aH.xB (D:aH) (r:aq):aH:= {(D.lay (aX D.r) (D.frame r)).2.step.2 with r:=(D.next r).1,st:=(bE (D.lay (aX D.r) (D.frame r)).2.step.2.st r).2}
def aH.do (D:aH) (r:aq):Int×aH:=
 if fK D≠0 then (fK D,D)
 else if bK D.st r≠0 then (bK D.st r,D)
 else if (D.next r).2=false then (31,D)
 else if (D.lay (aX D.r) (D.frame r)).1=false then (29,(D.lay (aX D.r) (D.frame r)).2)
 else if (D.lay (aX D.r) (D.frame r)).2.step.1=false then (29,(D.lay (aX D.r) (D.frame r)).2.step.2)
 else if aV (D.xB r).r=8 then (if (D.xB r).fold.1=false then 29 else 0,(D.xB r).fold.2)
 else (0,D.xB r)
theorem xC {r:aq} (hr:aS r=true) (hw:r.wf) (hv:∀v∈r.ai,v.wf):(mg r).length≤1000:=by
 have h4:=pW hr
 have r9:r.kind=3→∀v∈r.ai,aQ v=true∧v.wf:=fun k3 v hm=> by
   have:rising r.ai=true:=by
     unfold aS at hr
     rw[k3] at hr
     simp at hr
     exact q32z hr.2
   unfold rising at this
   simp only[Bool.and_eq_true,decide_eq_true_eq,List.all_eq_true] at this
   exact ⟨this.1.2 v hm,hv v hm⟩
 have hv1:r.kind=1→(ba r.av).length≤112:=fun k1=> q38z hw.av (by unfold aS at hr;rw[if_pos k1] at hr;simp at hr;simp[hr])
 unfold mg
 split
 ·have:=hv1 (by assumption)
  simp only[List.length_cons];omega
 ·split
  ·simp only[List.length_cons,bF];omega
  ·split
   ·have:=q37z (r9 (by assumption))
    simp only[List.length_cons,List.length_append,bF];omega
   ·simp only[List.length_cons,bF];omega
theorem uB (D:aH) {r:aq} (hw:r.wf) (hv:∀v∈r.ai,v.wf) (hh:D.r.head.length=16):(D.frame r).length≤8192:=by
 unfold aH.frame kV
 split
 ·have:=xC (by assumption) hw hv
  rw[pR _ _ _ _ (by omega) (by omega)];omega
 ·simp
theorem uw.nE {F Fs Fs':List Nat} {h h':Hp} {id did sid:Nat} {D:aH} {sp:V} {S:bh} (hd:uw h id D F did sp sid Fs) (hi:D.is=1) (hs:gY h' sid S Fs') (f:Fw Fs h h') (hn:∀j∈Fs',j∈Fs∨h.length≤j):
 uw h' id {D with st:=S} (id::did::Fs') did sp sid Fs'∧Fw F h h'∧∀j∈id::did::Fs',j∈F∨h.length≤j:=by
 obtain ⟨o,d,s,ty,so,rfl,n1,n2,n3,fl,kl⟩:=hd
 have l1:=fl id (by simp)
 have l2:=fl did (by simp)
 refine ⟨⟨f.dO _ _ o n2,d.mono f n3,fun _=>⟨(s hi).1,hs⟩,ty,so,rfl,n1,fun hm=> ?_,fun hm=> ?_,fun j hj=> ?_,kl⟩,f.mono (fun j hj=> by simp[hj]),fun j hj=> ?_⟩
 ·rcases hn _ hm with h1 | h1
  ·exact n2 h1
  ·omega
 ·rcases hn _ hm with h1 | h1
  ·exact n3 h1
  ·omega
 ·simp only[List.mem_cons] at hj
  rcases hj with rfl | rfl | hj
  ·exact f.lt l1
  ·exact f.lt l2
  ·exact hs.lt _ hj
 ·simp only[List.mem_cons] at hj ⊢
  rcases hj with rfl | rfl | hj
  ·exact .inl (.inl rfl)
  ·exact .inl (.inr (.inl rfl))
  ·rcases hn _ hj with h1 | h1
   ·exact .inl (.inr (.inr h1))
   ·exact .inr h1
theorem q30z {r:ae} {hd:Bs} (hw:r.wf) (hl:hd.length=16) (h:(ej r hd).2=true):(ej r hd).1=⟨r.bq,r.count+1,r.base,hd,r.aF⟩∧bc r=true∧bc (ej r hd).1=true∧(ej r hd).1.wf:=by
 unfold ej vG at h ⊢
 split at h
 ·rename_i c
  rw[if_pos c]
  have:=q11z c.1
  obtain ⟨w1,w2,w3,w4,w5⟩:=hw
  exact ⟨rfl,c.1,c.2,⟨w1,by simp only;omega,w3,hl,w5⟩⟩
 ·cases h
theorem xD (b:Nat) (h:Hp) (id:Nat) (D:aH) (F:List Nat) (r:aq) (hF:∀j∈F,b≤j) (hd:kI h id D F) (N:Int) (hN:N < 1000000000 - 20) (hk:nF 0 N D) (hw:r.wf) (hv:∀v∈r.ai,v.wf):
 ∃v h',run fns pr b 13 [.ptr id [0] 1,r.enc] h=some (v,h')∧v= .s (.int .i64 (D.do r).1)∧∃F',kI h' id (D.do r).2 F'∧Fw F h h'∧∀j∈F',j∈F∨h.length≤j:=by
 have HN:=hd
 have nD:=fun b X=> HO b (h++X) id D F (hd.app X)
 have du:r.enc.ty=some 41:=rfl
 have jE:r.enc.ax=true:=rfl
 refine Vm.dZ (nt:=97) rfl RN (by simp) ?_
 unfold aH.do
 by_cases c0:fK D=0
 case neg=>
   rw[if_pos c0]
   simp only[B13,nD,c0,du,jE,go_sem,↓reduceIte,Nat.reduceEqDiff,Nat.reduceBEq,Nat.reduceAdd,Nat.reduceSub,Nat.reduceLT,Nat.reduceLeDiff,Int.reduceLT,Int.reduceLE,Int.reduceEq,Int.reduceToNat]
   exact ⟨F,HN.app _,Fw.app _ _ _,fun j hj=> .inl hj⟩
 rw[if_neg (by simp[c0])]
 have hi:D.is=1:=by
   unfold fK at c0
   have:=hk.is
   split at c0
   ·cases c0
   ·split at c0
    ·cases c0
    ·omega
 obtain ⟨did,sp,sid,Fs,hd⟩:=hd
 have hid:=hd.fl id (by rw[hd.f];simp)
 have hbh:b≤h.length:=by have:=hF id (by rw[hd.f];simp);omega
 have hFl:=hd.fl
 have fA:Fw [] h (h++[aW.cells (some 41) [r.enc]]):=Fw.app [] h _
 have dA:=hd.mono fA (by simp)
 have gA:(h++[aW.cells (some 41) [r.enc]])[h.length]? =some (aW.cells (some 41) [r.enc]):=aM _ _
 have lA:(h++[aW.cells (some 41) [r.enc]]).length=h.length+1:=by simp
 have nD:=fun b=> nD b [aW.cells (some 41) [r.enc]]
 generalize hHA:h++[aW.cells (some 41) [r.enc]]=HA at *
 have hgA:=dA.o
 obtain ⟨uA,aP⟩:=dA.s hi
 subst uA
 have y0:=fun b=> xq b HA sid D.st Fs r aP (hk.so hi) hw hv
 simp only[ec] at hgA
 by_cases c1:bK D.st r=0
 case neg=>
   rw[if_pos c1]
   simp only[B13,hHA,nD,c0,du,jE,hgA,gA,y0,c1,go_sem,↓reduceIte,Nat.reduceEqDiff,Nat.reduceBEq,Nat.reduceAdd,Nat.reduceSub,Nat.reduceLT,Nat.reduceLeDiff,Int.reduceLT,Int.reduceLE,Int.reduceEq,Int.reduceToNat]
   exact ⟨F,⟨_,_,_,_,dA⟩,fA.mono (by simp),fun j hj=> .inl hj⟩
 rw[if_neg (by simp[c1])]
 have hhl:=hk.gw.head
 have nw:=q11z hk.gr
 have hcw:=hk.gw.count
 have xE:=fun b=> HG b HA D.key D.r.head (D.r.count.toNat+1) r hd.kl hhl (by omega) hw hv
 have lV:IntKind.u64.wrap (D.r.count+1)=((D.r.count.toNat+1:Nat):Int):=by rw[wrap_u64 (by omega) (by omega)];omega
 have mb:=uB D hw hv hhl
 have Yg:(kV D.key (D.r.count.toNat+1) D.r.head r).1=D.frame r:=rfl
 rw[Yg] at xE
 have hhd:=fun b H=> xw b H (.al false none ((D.frame r).map aa)) D.r.head (D.frame r) hhl (dj _ _ _) (by omega)
 have Vx:(dp D.r.head (D.frame r)).length=16:=by simp[dp,dn,bm]
 have gP:=fun b H=> K3 b H D.r (dp D.r.head (D.frame r)) hk.gw Vx
 have Vy:ej D.r (dp D.r.head (D.frame r))=D.next r:=rfl
 have Vz:=q30z (hd:=dp D.r.head (D.frame r)) hk.gw Vx
 rw[Vy] at Vz
 simp only[Vy] at gP
 have VA:∀q:ae,q.enc=V.st 53 [.s (.int .u64 q.bq),.s (.int .u64 q.count),.s (.int .u64 q.base),.arr 25 (q.head.map aa),.s (.int .i64 q.aF)]:=fun q=> rfl
 have hDr:=VA D.r
 have Y6:(D.key.map aa).length=16:=by simp[hd.kl]
 have pa:∀x,(decide (b≤HA.length) || x)=true:=fun x=> by rw[decide_eq_true (by omega)];rfl
 by_cases c2:(D.next r).2=true
 case neg=>
   have c2':(D.next r).2=false:=by simpa using c2
   rw[if_pos c2']
   rw[c2'] at gP
   rw[hDr] at hgA gP
   have hgAX:=fun X=> q10z hgA X
   simp only[B13,hHA,nD,c0,du,jE,hgA,gA,y0,c1,xE,lV,hhd,gP,bG,ae.cG,ae.cH,pa,hgAX,go_sem,↓reduceIte,Nat.reduceEqDiff,Nat.reduceBEq,Nat.reduceAdd,Nat.reduceSub,Nat.reduceLT,Nat.reduceLeDiff,Int.reduceLT,Int.reduceLE,Int.reduceEq,Int.reduceToNat]
   exact ⟨F,⟨_,_,_,_,dA.mono (Fw.app [] HA _) (by simp)⟩,(fA.trans (Fw.app [] HA _)).mono (by simp),fun j hj=> .inl hj⟩
 rw[if_neg (by simp[c2])]
 obtain ⟨hn1,hn2,Hz,hn4⟩:=Vz c2
 rw[c2] at gP
 have fB:Fw [] HA (HA++[aW.cells (some 53) [(D.next r).1.enc]]):=Fw.app [] HA _
 have dB:kI _ id D F:=⟨_,_,_,_,dA.mono fB (by simp)⟩
 have gB0:=fB.dO _ _ gA (by simp)
 have gB1:(HA++[aW.cells (some 53) [(D.next r).1.enc]])[HA.length]? =some (aW.cells (some 53) [(D.next r).1.enc]):=aM _ _
 have hgB:=(dA.mono fB (by simp)).o
 simp only[ec] at hgB
 have rh:=fun b H=> HE b H D.r hk.gw
 obtain ⟨v1,H1,e1,rfl,d1,f1⟩:=HQ b _ id D F (aX D.r) (.al false none ((D.frame r).map aa)) (D.frame r) hF dB N (by omega) hk (dj _ _ _) (by omega)
 have k1:=hk.lay (aX D.r) (D.frame r)
 obtain ⟨v2,H2,e2,rfl,d2,f2⟩:=rz b H1 id _ F hF d1 ⟨k1.s0,by have:=k1.s1;omega⟩ k1.f1
 have k2:=k1.step
 have s1:=aH.pc D (aX D.r) (D.frame r)
 have s2:=aH.iK (D.lay (aX D.r) (D.frame r)).2
 have fAB:=fA.trans fB
 have fh2:Fw F h H2:=(fAB.mono (by simp)).trans (f1.trans f2)
 have VB:D.xB r= {(D.lay (aX D.r) (D.frame r)).2.step.2 with r:=(D.next r).1,st:=(bE (D.lay (aX D.r) (D.frame r)).2.step.2.st r).2}:=rfl
 rw[VB]
 rw[hDr] at hgA hgB gP rh
 have hgAX:=fun X=> q10z hgA X
 have hnF:∀j,h.length≤j→j∉F:=fun j hj hm=> by have:=hFl j hm;omega
 have g10:=f1.dO _ _ gB0 (hnF _ (Nat.le_refl _))
 have g11:=f1.dO _ _ gB1 (hnF _ (by omega))
 have g20:=f2.dO _ _ g10 (hnF _ (Nat.le_refl _))
 have g21:=f2.dO _ _ g11 (hnF _ (by omega))
 generalize (D.lay (aX D.r) (D.frame r))=L at *
 generalize hHB:HA++[aW.cells (some 53) [(D.next r).1.enc]]=HB at *
 have Y7:=fun n H=> ae.pX n H (D.next r).1
 generalize (D.next r).1=nx at *
 cases c3:L.1 with
 | false=>
   rw[c3] at e1
   rw[if_pos rfl]
   simp only[B13,hHA,nD,c0,du,jE,hgA,gA,y0,c1,xE,lV,hhd,gP,bG,ae.cG,ae.cH,pa,hHB,hgB,rh,e1,hgAX,go_sem,↓reduceIte,Nat.reduceEqDiff,Nat.reduceBEq,Nat.reduceAdd,Nat.reduceSub,Nat.reduceLT,Nat.reduceLeDiff,Int.reduceLT,Int.reduceLE,Int.reduceEq,Int.reduceToNat]
   exact ⟨F,d1,(fAB.mono (by simp)).trans f1,fun j hj=> .inl hj⟩
 | true=>
   rw[c3] at e1
   rw[if_neg (by simp)]
   cases c4:L.2.step.1 with
   | false=>
     rw[c4] at e2
     rw[if_pos rfl]
     simp only[B13,hHA,nD,c0,du,jE,hgA,gA,y0,c1,xE,lV,hhd,gP,bG,ae.cG,ae.cH,pa,hHB,hgB,rh,e1,hgAX,e2,go_sem,↓reduceIte,Nat.reduceEqDiff,Nat.reduceBEq,Nat.reduceAdd,Nat.reduceSub,Nat.reduceLT,Nat.reduceLeDiff,Int.reduceLT,Int.reduceLE,Int.reduceEq,Int.reduceToNat]
     exact ⟨F,d2,fh2,fun j hj=> .inl hj⟩
   | true=>
     rw[c4] at e2
     rw[if_neg (by simp)]
     have i3:L.2.step.2.is=1:=by rw[s2.2 c4,s1.2 c3,hi]
     generalize L.2.step.2=D3 at *
     obtain ⟨did3,sp3,sid3,Fs3,p3⟩:=d2
     obtain ⟨Yh,xk⟩:=p3.s i3
     subst Yh
     have xj:=p3.o
     have iq:∀B,(H2.set id B)[id]? =some B:=fun B=> q9z xj
     have bW:=q6z xj
     have lW:b≤id:=hF _ (by rw[hd.f];simp)
     obtain ⟨p4,f4⟩:=p3.Dn (D':= {D3 with r:=nx}) rfl (fun h=>⟨h,rfl⟩) p3.kl
     have k3:nF 0 (N+3) {D3 with r:=nx}:=by
       obtain ⟨z1,z2,z3,z4,z5,z6,z7,z8⟩:=k2
       exact ⟨z1,z2,by simp only;omega,z4,Hz,hn4,z7,z8⟩
     have g31:=f4.dO _ _ g20 (hnF _ (Nat.le_refl _))
     obtain ⟨Y8,HR⟩:=p4.s i3
     have hFs3:∀j∈Fs3,b≤j:=fun j hj=> hF _ (by rw[p3.f];simp[hj])
     obtain ⟨v5,H5,e5,rfl,Fs5,Yi,f5,hn5⟩:=sf b _ sid3 D3.st Fs3 r hFs3 HR (k2.so i3) hw hv
     obtain ⟨p5,f5',VC⟩:=p4.nE i3 Yi f5 hn5
     have k5:nF 0 (N+3) {D3 with r:=nx,st:=(bE D3.st r).2}:=by
       obtain ⟨z1,z2,z3,z4,z5,z6,z7,z8⟩:=k3
       exact ⟨z1,z2,z3,z4,z5,z6,fun h=> mn (z7 h) hw hv,z8⟩
     have hF5:∀j∈id::did3::Fs5,b≤j:=fun j hj=> by
       rcases VC j hj with h1 | h1
       ·exact hF j h1
       ·rw[List.length_set] at h1;omega
     have By:=fh2.len
     have hn5h:∀j∈id::did3::Fs5,j∈F∨h.length≤j:=fun j hj=> by
       rcases VC j hj with h1 | h1
       ·exact .inl h1
       ·rw[List.length_set] at h1;exact .inr (by omega)
     have fh5:=fh2.trans (f4.trans f5')
     have FI:=fun b=> ru b H5 nx hn4
     have hg5:=p5.o
     simp only[ec] at xj hg5 e5
     simp only[ec] at g31
     by_cases c8:aV nx=8
     ·rw[if_pos c8]
      obtain ⟨v6,H6,e6,rfl,d6,f6⟩:=BX b H5 id _ _ hF5 ⟨_,_,_,_,p5⟩ (N+3) (by omega) k5 i3
      generalize ({D3 with r:=nx,st:=(bE D3.st r).2}:aH).fold=Z at *
      have fin:∃F',kI H6 id Z.2 F'∧Fw F h H6∧∀j∈F',j∈F∨h.length≤j:=⟨_,d6,fh5.new f6 (fun j hj=>(hn5h j hj).symm),hn5h⟩
      cases c9:Z.1 with
      | false=>
        rw[c9] at e6
        simp only[B13,hHA,nD,c0,du,jE,hgA,gA,y0,c1,xE,lV,hhd,gP,bG,ae.cG,ae.cH,pa,hHB,hgB,rh,e1,hgAX,e2,xj,iq,lW,bW,g20,g21,g31,e5,hg5,FI,c8,e6,go_sem,↓reduceIte,Nat.reduceEqDiff,Nat.reduceBEq,Nat.reduceAdd,Nat.reduceSub,Nat.reduceLT,Nat.reduceLeDiff,Int.reduceLT,Int.reduceLE,Int.reduceEq,Int.reduceToNat]
        exact fin
      | true=>
        rw[c9] at e6
        simp only[B13,hHA,nD,c0,du,jE,hgA,gA,y0,c1,xE,lV,hhd,gP,bG,ae.cG,ae.cH,pa,hHB,hgB,rh,e1,hgAX,e2,xj,iq,lW,bW,g20,g21,g31,e5,hg5,FI,c8,e6,go_sem,↓reduceIte,Nat.reduceEqDiff,Nat.reduceBEq,Nat.reduceAdd,Nat.reduceSub,Nat.reduceLT,Nat.reduceLeDiff,Int.reduceLT,Int.reduceLE,Int.reduceEq,Int.reduceToNat]
        exact fin
     ·rw[if_neg c8]
      simp only[B13,hHA,nD,c0,du,jE,hgA,gA,y0,c1,xE,lV,hhd,gP,bG,ae.cG,ae.cH,pa,hHB,hgB,rh,e1,hgAX,e2,xj,iq,lW,bW,g20,g21,g31,e5,hg5,FI,c8,go_sem,↓reduceIte,Nat.reduceEqDiff,Nat.reduceBEq,Nat.reduceAdd,Nat.reduceSub,Nat.reduceLT,Nat.reduceLeDiff,Int.reduceLT,Int.reduceLE,Int.reduceEq,Int.reduceToNat]
      exact ⟨_,⟨_,_,_,_,p5⟩,fh5,hn5h⟩
theorem iC {n:Nat} {m:Bs} (hm:m.length=n) (rest:Bs) (bad:Bool):aE n (m++rest,bad)=(m,(rest,bad)):=by
 subst hm
 unfold aE
 rw[if_pos (by simp)]
 simp
theorem pd (x:UInt8) (rest:Bs) (bad:Bool):aE 1 (x::rest,bad)=([x],(rest,bad)):=iC (m:=[x]) rfl rest bad
theorem pe (x:UInt8):aG [x]=x.toNat:=rfl
theorem iS {n:Int} (h0:0≤n) (h1:n < 256):(((bt n).toNat:Nat):Int)=n:=by
 obtain ⟨m,rfl⟩:∃m:Nat,n=m:=⟨n.toNat,by omega⟩
 have:∀m:Nat,m < 256→(bt (m:Int)).toNat=m:=by decide+kernel
 rw[this m (by omega)]
theorem VD (x:Nat):(UInt8.ofNat (x % 256)).toNat=x % 256:=by simp
theorem mw (n:Nat) (hn:n < 18446744073709551616):jo (bC n)=n:=by
 have s:∀j,n / 256 ^ j=256 *(n / 256 ^(j+1))+n / 256 ^ j % 256:=fun j=> by
   rw[Nat.pow_succ,←Nat.div_div_eq_div_mul];omega
 have e8:n / 256 ^ 8=0:=Nat.div_eq_of_lt (by omega)
 have e0:n / 256 ^ 0=n:=by simp
 simp only[jo,bC,List.range_succ,List.range_zero,List.nil_append,List.map_append,List.map_cons,List.map_nil,List.cons_append,List.foldl_cons,List.foldl_nil,VD,Nat.reduceSub]
 have s0:=s 0
 have s1:=s 1
 have s2:=s 2
 have s3:=s 3
 have s4:=s 4
 have s5:=s 5
 have s6:=s 6
 have s7:=s 7
 clear s hn
 simp only[Nat.reduceAdd] at s0 s1 s2 s3 s4 s5 s6 s7
 rw[e8] at s7
 generalize n / 256 ^ 0=d0 at *
 generalize n / 256 ^ 1=d1 at *
 generalize n / 256 ^ 2=d2 at *
 generalize n / 256 ^ 3=d3 at *
 generalize n / 256 ^ 4=d4 at *
 generalize n / 256 ^ 5=d5 at *
 generalize n / 256 ^ 6=d6 at *
 generalize n / 256 ^ 7=d7 at *
 omega
theorem HS (v:ag) (hr:aQ v=true):mh (ug v).toNat=false∧(!decide ((ug v).toNat=0))=v.gone∧decide ((ug v).toNat=3)=v.qu:=by
 unfold aQ at hr
 unfold ug mh
 cases hg:v.gone <;> cases hw:v.qu <;> simp_all <;> decide
theorem sn (v:ag) (hw:v.wf) (hr:aQ v=true) (rest:Bs) (bad:Bool):cB (ba v++rest,bad)=(v,(rest,bad)):=by
 obtain ⟨f1,f2,f3⟩:=HS v hr
 have hr0:=hr
 unfold aQ at hr
 obtain ⟨w1,w2,w3,w4,w5,w6,w7,w8,w9⟩:=hw
 have Ah:0≤v.bX∧v.bX < 256∧0≤v.used∧v.used < 256∧0≤v.gen∧v.gen < 18446744073709551616∧v.bY.length < 256:=by
   cases hg:v.gone <;> simp_all <;> omega
 obtain ⟨l1,l2,l3,l4,l5,l6,l7⟩:=Ah
 have e1:(((bt v.bX).toNat:Nat):Int)=v.bX:=iS l1 l2
 have e2:(((bt v.used).toNat:Nat):Int)=v.used:=iS l3 l4
 have e3:(bt (v.bY.length:Int)).toNat=v.bY.length:=by have:=iS (n:=(v.bY.length:Int)) (by omega) (by omega);omega
 have e4:((jo (bC v.gen.toNat):Nat):Int)=v.gen:=by rw[mw _ (by omega)];omega
 have q1:=iC (n:=4) (m:=v.iD) (by simpa using w1)
 have q3:=iC (n:=16) (m:=v.q9) (by simpa using w3)
 have q7:=iC (n:=16) (m:=v.owner) (by simpa using w7)
 unfold cB ba
 simp only[List.append_assoc,List.cons_append,List.nil_append,q1,iC (bF _),pd,pe,f1,Bool.or_false,q3,q7,lJ,e3,iC (m:=v.bY) rfl,e1,e2,e4,f2,f3]
 rw[hr0]
 simp
theorem Ng (l:List ag) (hw:∀v∈l,v.wf) (hr:∀v∈l,aQ v=true) (rest:Bs) (bad:Bool):∀n,n≤l.length→rn n (l.flatMap ba++rest,bad)=(l.take n,((l.drop n).flatMap ba++rest,bad))
 | 0,_=> rfl
 | n+1,hn=> by
   have ih:=Ng l hw hr rest bad n (by omega)
   have hd:l.drop n=l[n]::l.drop (n+1):=List.drop_eq_getElem_cons (by omega)
   have hm:l[n]∈l:=List.getElem_mem _
   simp only[rn]
   rw[ih,hd,List.flatMap_cons,List.append_assoc,sn _ (hw _ hm) (hr _ hm),List.take_succ_eq_append_getElem (by omega)]
theorem PA (r:aq) (hw:r.wf) (Hc:∀v∈r.ai,v.wf) (hr:aS r=true):nA (mg r,false)=(r,([],false)):=by
 have hr0:=hr
 obtain ⟨kind,aA,dy,aD,av,ai⟩:=r
 obtain ⟨w1,w2,w3,w4,w5,w6⟩:=hw
 simp only at w1 w2 w3 w4 w5 w6 Hc
 rcases q33z hr with hk | hk | hk | hk
 all_goals simp only at hk;subst hk
 all_goals simp only[aS,kN,Int.reduceEq,if_true,if_false,Bool.and_eq_true,decide_eq_true_eq] at hr
 ·obtain ⟨⟨⟨⟨h1,h2⟩,h3⟩,h4⟩,h5⟩:=hr
  obtain rfl:ai=[]:=List.eq_nil_of_length_eq_zero h5
  subst h2 h3 h4
  have hv:=sn av w5 h1 [] false
  rw[List.append_nil] at hv
  simp only[nA,mg,pd,pe,if_true,hv,show (bt 1).toNat=1 from rfl]
 ·obtain ⟨⟨⟨⟨⟨⟨⟨h1,h2⟩,h3⟩,h4⟩,h5⟩,h6⟩,h7⟩,h8⟩:=hr
  obtain rfl:ai=[]:=List.eq_nil_of_length_eq_zero h8
  subst h5
  have e1:(((bt aA).toNat:Nat):Int)=aA:=iS h3 (by omega)
  have e2:(((bt dy).toNat:Nat):Int)=dy:=iS h6 (by omega)
  have e3:((jo (bC aD.toNat):Nat):Int)=aD:=by rw[mw _ (by omega)];omega
  have hn:=iC (bF aD.toNat) [] false
  rw[List.append_nil] at hn
  simp only[nA,mg,pd,pe,if_true,show (bt 2).toNat=2 from rfl,hn,e1,e2,e3,show ((2:Int)=1)=False from by simp,show ((2:Nat)=1)=False from by simp,if_false]
 ·obtain ⟨⟨⟨⟨⟨⟨h1,h2⟩,h3⟩,h4⟩,h5⟩,h6⟩,h8⟩:=hr
  subst h5 h6
  have jF:∀v∈ai,aQ v=true:=fun v hv=> by
    unfold dd at h8
    rw[Bool.and_eq_true,List.all_eq_true] at h8
    obtain ⟨i,hi,rfl⟩:=List.getElem_of_mem hv
    have:=h8.2 i (List.mem_range.2 hi)
    unfold g9 at this
    rw[Bool.and_eq_true,List.getD,List.getElem?_eq_getElem hi] at this
    exact this.1
  have hl4:ai.length≤4:=by
    unfold dd at h8
    rw[Bool.and_eq_true,decide_eq_true_eq] at h8
    exact h8.1
  have e1:(((bt aA).toNat:Nat):Int)=aA:=iS h3 (by omega)
  have e2:(bt (ai.length:Int)).toNat=ai.length:=by have:=iS (n:=(ai.length:Int)) (by omega) (by omega);omega
  have e3:((jo (bC aD.toNat):Nat):Int)=aD:=by rw[mw _ (by omega)];omega
  have hm:min ai.length 5=ai.length:=by omega
  have hv:=Ng ai Hc jF [] false ai.length (Nat.le_refl _)
  rw[List.append_nil,List.take_length,List.drop_length] at hv
  simp only[nA,mg,pd,pe,if_true,show (bt 3).toNat=3 from rfl,iC (bF aD.toNat),e1,e2,e3,hm,hv,show ((3:Int)=1)=False from by simp,show ((3:Nat)=1)=False from by simp,show ((3:Int)=2)=False from by simp,show ((3:Nat)=2)=False from by simp,if_false,List.flatMap_nil,List.append_nil]
 ·obtain ⟨⟨⟨⟨⟨⟨h1,h2⟩,h3⟩,h4⟩,h5⟩,h6⟩,h8⟩:=hr
  obtain rfl:ai=[]:=List.eq_nil_of_length_eq_zero h8
  subst h5 h6
  have e1:(((bt aA).toNat:Nat):Int)=aA:=iS h3 (by omega)
  have e3:((jo (bC aD.toNat):Nat):Int)=aD:=by rw[mw _ (by omega)];omega
  have hn:=iC (bF aD.toNat) [] false
  rw[List.append_nil] at hn
  simp only[nA,mg,pd,pe,if_true,show (bt 4).toNat=4 from rfl,hn,e1,e3,show ((4:Int)=1)=False from by simp,show ((4:Nat)=1)=False from by simp,show ((4:Int)=2)=False from by simp,show ((4:Nat)=2)=False from by simp,show ((4:Int)=3)=False from by simp,show ((4:Nat)=3)=False from by simp,if_false]
theorem HT (r:aq) (hw:r.wf) (Hc:∀v∈r.ai,v.wf) (hr:aS r=true):mi (mg r)=(r,0):=by
 unfold mi
 rw[PA r hw Hc hr]
 simp[hr]
theorem Ai (v:ag):v.enc.plain=true:=by simp only[ag.enc,go_sem]
theorem pZ (r:aq):r.enc.plain=true:=by
 have h1:=Ai r.av
 have h2:=kT r.ai
 simp only[aq.enc,go_sem,h1,h2]
theorem Aj (l:List aq):V.plain.all (l.map aq.enc)=true:=by
 rw[eL]
 intro v hv
 obtain ⟨w,_,rfl⟩:=List.mem_map.1 hv
 exact pZ w
theorem La (n:Nat) (h:Hp) (r:aq):bB n h r.enc=some r.enc:=p6 n h _ (pZ r)
theorem jJ (r:aq):r.enc.ty=some 41:=rfl
theorem jK (r:aq):r.enc.ax=true:=rfl
theorem p7 (r:aq):r.enc.ground=true:=kO _ (pZ r)
def j8 (k:Bs) (n:Nat) (prev l:Bs):aq×Int:=match nJ k n prev l with
 | none=>(jq,30)
 | some t=> mi t
theorem HU (b:Nat) (h:Hp) (k prev l:Bs) (n:Nat) (hk:k.length=16) (hp:prev.length=16) (hn:n < 18446744073709551616):run fns pr b 101 [.arr 25 (k.map aa),.s (.int .u64 n),.arr 25 (prev.map aa),.al false none (l.map aa)] h=some (.bI [(j8 k n prev l).1.enc,.s (.int .i64 (j8 k n prev l).2)],h):=by
 refine Vm.aT (nt:=28) rfl NJ (by simp) ?_
 have fV:(k.map aa).length=16:=by simp[hk]
 have rh:(prev.map aa).length=16:=by simp[hp]
 generalize hZ:(aW.cells (some 41) [V.st 41 [.s (.int .i64 0),.s (.int .i64 0),.s (.int .i64 0),.s (.int .u64 0),V.st 31 [z4 27,ku,bz 25,kx,ki,ki,bz 25,.s (.bool false),.s (.bool false)],.al false (some 31) []]])=Z
 generalize hGd:h++[aW.cells (some 25) [V.arr 25 (k.map aa)],aW.cells (some 25) [V.arr 25 (prev.map aa)],Z]=G
 have g1:G[h.length+1]? =some (aW.cells (some 25) [V.arr 25 (prev.map aa)]):=by rw[←hGd];exact aK _ _ 1
 have FH:=Rd.mk' (h:=G) (x:= .ref (h.length+1) [0] none 0 prev.length 1) (l:=prev) (zX g1) rfl
 rw[hp] at FH
 have ah:=fun b=> BD b G (.ref (h.length+1) [0] none 0 16 1) (.al false none (l.map aa)) k prev l n hk hn FH (dj _ _ _)
 have g0:G[h.length]? =some (aW.cells (some 25) [V.arr 25 (k.map aa)]):=by rw[←hGd];exact aK _ _ 0
 have g2:G[h.length+2]? =some Z:=by rw[←hGd];exact aK _ _ 2
 have eI:∀B,(G.set (h.length+2) B).take h.length=h:=fun B=> by rw[List.take_set_of_le (by omega),←hGd,List.take_left]
 have Y9:G.take h.length=h:=by rw[←hGd,List.take_left]
 have iq:∀B,(G.set (h.length+2) B)[h.length+2]? =some B:=fun B=> q9z g2
 subst hZ
 unfold j8
 cases hq:nJ k n prev l with
 | none=>
   rw[hq] at ah
   simp only[nK] at ah
   simp only[Ke,fV,rh,hGd,g0,g1,g2,ah,bG,iq,eI,go_sem,↓reduceIte,Nat.reduceEqDiff,Nat.reduceBEq,Nat.reduceAdd,Nat.reduceSub,Nat.reduceLT,Nat.reduceLeDiff,Int.reduceLT,Int.reduceLE,Int.reduceEq,Int.reduceToNat]
   all_goals rfl
 | some t=>
   rw[hq] at ah
   simp only[nK] at ah
   have htr:=fun b H=> xf b H false t
   simp only[Ke,fV,rh,hGd,g0,g1,g2,ah,bG,iq,eI,htr,jJ,jK,La,go_sem,↓reduceIte,Nat.reduceEqDiff,Nat.reduceBEq,Nat.reduceAdd,Nat.reduceSub,Nat.reduceLT,Nat.reduceLeDiff,Int.reduceLT,Int.reduceLE,Int.reduceEq,Int.reduceToNat]
def iu (k:Bs) (K:Dk) (r:ae):Bs×Bs×Int:=
 if r.base=0 then ([],bO,0) else match K.get r.aF with
  | none=>([],bO,30)
  | some l=> match nJ k r.base.toNat mq l with
    | some t=>(t,cT l,0)
    | none=>([],cT l,30)
theorem BY {K:Dk} (hk:K.OK) {n:Int} {l:Bs} (h:K.get n=some l):l.length≤8192:=by
 unfold Dk.get at h
 split at h
 ·have:=hk.ns n.toNat
  rw[h] at this
  exact this
 ·cases h
theorem Lb (b:Nat) (h:Hp) (did:Nat) (k:Bs) (K:Dk) (r:ae) (hk:k.length=16) (hw:r.wf) (hd:Af.DR h did K):run fns pr b 99 [.arr 25 (k.map aa),.ptr did [0] 1,r.enc] h=some (.bI [.al false none ((iu k K r).1.map aa),.arr 25 ((iu k K r).2.1.map aa),.s (.int .i64 (iu k K r).2.2)],h):=by
 refine Vm.aT (nt:=41) rfl UD (by simp) ?_
 have fV:(k.map aa).length=16:=by simp[hk]
 have tY:=hd.lt
 have dD:=fun b X=> Af.HL b (h++X) did K r.aF (hd.mono (Fw.app [] h X) (by simp))
 have him:∀f H,Rd H (.al f none (mq.map aa)) mq:=fun f H=> BR.rd (dj H f mq)
 have hiw:mq.map aa=[.s (.int .u8 105),.s (.int .u8 109),.s (.int .u8 97),.s (.int .u8 103),.s (.int .u8 101)]:=rfl
 have ah:=fun b f X l=> BD b (h++X) (.al f none (mq.map aa)) (.al false none (l.map aa)) k mq l r.base.toNat hk (by have:=hw.base;omega) (him f _) (dj _ _ _)
 have hc:((r.base.toNat:Nat):Int)=r.base:=by have:=hw.base;omega
 rw[hc,hiw] at ah
 have hz:V.arr 25 (bO.map aa)=bz 25:=rfl
 have tL:(bO.map aa).length=16:=rfl
 unfold iu
 obtain ⟨bq,count,base,head,aF⟩:=r
 simp only[Af.R] at *
 by_cases c0:base=0
 ·rw[if_pos c0]
  simp only[B99,ae.enc,fV,c0,List.take_left,List.map_nil,go_sem,↓reduceIte,Nat.reduceEqDiff,Nat.reduceBEq,Nat.reduceAdd,Nat.reduceSub,Nat.reduceLT,Nat.reduceLeDiff,Int.reduceLT,Int.reduceLE,Int.reduceEq,Int.reduceToNat]
  all_goals rfl
 rw[if_neg c0]
 cases hq:K.get aF with
 | none=>
   rw[hq] at dD
   simp only[Option.getD_none,Option.isSome_none,List.map_nil] at dD
   simp only[B99,ae.enc,fV,c0,dD,List.take_left,List.map_nil,go_sem,↓reduceIte,Nat.reduceEqDiff,Nat.reduceBEq,Nat.reduceAdd,Nat.reduceSub,Nat.reduceLT,Nat.reduceLeDiff,Int.reduceLT,Int.reduceLE,Int.reduceEq,Int.reduceToNat]
   all_goals rfl
 | some l=>
   rw[hq] at dD
   simp only[Option.getD_some,Option.isSome_some] at dD
   have ah:=fun b f X=> ah b f X l
   have od:=BY hd.ok hq
   have hfi:=fun b X=> uv b (h++X) (.al false none (l.map aa)) l (dj _ _ _) (by omega)
   have hsl:((cT l).map aa).length=16:=by simp[bm]
   cases ho:nJ k base.toNat mq l with
   | none=>
     rw[ho] at ah
     simp only[nK] at ah
     simp only[B99,ae.enc,fV,c0,dD,ah,hfi,hsl,bG,List.take_left,go_sem,↓reduceIte,Nat.reduceEqDiff,Nat.reduceBEq,Nat.reduceAdd,Nat.reduceSub,Nat.reduceLT,Nat.reduceLeDiff,Int.reduceLT,Int.reduceLE,Int.reduceEq,Int.reduceToNat]
     all_goals first | (rw[ho];done) | (rw[ho];rfl)
   | some t=>
     rw[ho] at ah
     simp only[nK] at ah
     simp only[B99,ae.enc,fV,c0,dD,ah,hfi,hsl,bG,List.take_left,go_sem,↓reduceIte,Nat.reduceEqDiff,Nat.reduceBEq,Nat.reduceAdd,Nat.reduceSub,Nat.reduceLT,Nat.reduceLeDiff,Int.reduceLT,Int.reduceLE,Int.reduceEq,Int.reduceToNat]
     all_goals first | (rw[ho];done) | (rw[ho];rfl)
def bN (k:Bs) (K:Dk) (base:Nat) (h:Bs):Nat→Option (List aq×Bs)
 | 0=> some ([],h)
 | n+1=> match bN k K base h n with
   | none=> none
   | some (l,h1)=> if (K.get (2+(n:Nat))).isSome=false∨(j8 k (base+n+1) h1 ((K.get (2+(n:Nat))).getD [])).2≠0 then none
     else some (l++[(j8 k (base+n+1) h1 ((K.get (2+(n:Nat))).getD [])).1],dp h1 ((K.get (2+(n:Nat))).getD []))
theorem q28z {k:Bs} {K:Dk} {base:Nat} {h:Bs} {n:Nat} (hn:bN k K base h n=none):∀m,bN k K base h (n+m)=none
 | 0=> hn
 | m+1=> by rw[←Nat.add_assoc,bN,q28z hn m]
theorem my {k:Bs} {K:Dk} {base:Nat} {h:Bs}:∀ {n:Nat} {l:List aq} {h1:Bs},bN k K base h n=some (l,h1)→l.length=n
 | 0,l,h1,e=> by cases e;rfl
 | n+1,l,h1,e=> by
   rw[bN] at e
   split at e
   ·cases e
   ·rename_i l2 h2 e2
    have:=my e2
    split at e
    ·cases e
    ·cases e;simp[this]
theorem Ak {k:Bs} {K:Dk} {base:Nat} {h:Bs} (hh:h.length=16):∀ {n:Nat} {l:List aq} {h1:Bs},bN k K base h n=some (l,h1)→h1.length=16
 | 0,l,h1,e=> by cases e;exact hh
 | n+1,l,h1,e=> by
   rw[bN] at e
   split at e
   ·cases e
   ·split at e
    ·cases e
    ·cases e;simp[dp,dn,bm]
def ju (k:Bs) (K:Dk) (r:ae):Bs×List aq×Int:=
 if bc r=false then ([],[],1) else if (iu k K r).2.2≠0 then ([],[],(iu k K r).2.2)
 else match bN k K r.base.toNat (iu k K r).2.1 (aV r).toNat with
   | none=>([],[],30)
   | some (l,h)=> if h=r.head then ((iu k K r).1,l,0) else ([],[],30)
theorem HV (k:Bs) (K:Dk) (r:ae):(iu k K r).2.1.length=16:=by
 unfold iu
 split
 ·rfl
 ·split
  ·rfl
  ·split
   ·exact bm _
   ·exact bm _
def qE (x:Bs×List aq×Int):V:= .bI [.al false none (x.1.map aa),.al false (some 41) (x.2.1.map aq.enc),.s (.int .i64 x.2.2)]
theorem Lc (b:Nat) (h:Hp) (did:Nat) (k:Bs) (K:Dk) (r:ae) (hk:k.length=16) (hw:r.wf) (hd:Af.DR h did K):run fns pr b 72 [.arr 25 (k.map aa),.ptr did [0] 1,r.enc] h=some (qE (ju k K r),h):=by
 refine Vm.aT (nt:=81) rfl TS (by simp) ?_
 have fV:(k.map aa).length=16:=by simp[hk]
 have wK:=fun b H=> pb b H r hw
 have FI:=fun b H=> ru b H r hw
 have hba:=fun b X=> Lb b (h++X) did k K r hk hw (hd.mono (Fw.app [] h X) (by simp))
 have tI:=HV k K r
 unfold ju
 cases hr:bc r with
 | false=>
   rw[if_pos rfl]
   simp only[B72,Bp,Bo,ae.cG,ae.cH,fV,wK,hr,List.take_left,qE,List.map_nil,go_sem,↓reduceIte,Nat.reduceEqDiff,Nat.reduceBEq,Nat.reduceAdd,Nat.reduceSub,Nat.reduceLT,Nat.reduceLeDiff,Int.reduceLT,Int.reduceLE,Int.reduceEq,Int.reduceToNat]
 | true=>
   rw[if_neg (by simp)]
   rw[hr] at wK
   generalize hB:iu k K r=B at *
   obtain ⟨im,h0,why⟩:=B
   simp only at tI hba ⊢
   have hbm:(h0.map aa).length=16:=by simp[tI]
   by_cases c0:why=0
   case neg=>
     rw[if_pos c0]
     simp only[B72,Bp,Bo,ae.cG,ae.cH,fV,wK,hba,bG,c0,List.take_left,qE,List.map_nil,go_sem,↓reduceIte,Nat.reduceEqDiff,Nat.reduceBEq,Nat.reduceAdd,Nat.reduceSub,Nat.reduceLT,Nat.reduceLeDiff,Int.reduceLT,Int.reduceLE,Int.reduceEq,Int.reduceToNat]
   rw[if_neg (by simp[c0])]
   have Ah:=q11z hr
   obtain ⟨w1,w2,w3,w4,w5⟩:=hw
   obtain ⟨N,hN⟩:∃N:Nat,aV r=N:=⟨(aV r).toNat,by have:=iR r ⟨w1,w2,w3,w4,w5⟩;omega⟩
   have hN8:N≤8:=by have:=iR r ⟨w1,w2,w3,w4,w5⟩;omega
   rw[hN] at FI ⊢
   simp only[Int.toNat_natCast]
   have hDr:r.enc=V.st 53 [.s (.int .u64 r.bq),.s (.int .u64 r.count),.s (.int .u64 r.base),.arr 25 (r.head.map aa),.s (.int .i64 r.aF)]:=rfl
   rw[hDr] at wK FI hba ⊢
   simp only[B72,Bp,Bo,fV,wK,hba,bG,c0,FI,go_sem,↓reduceIte,Nat.reduceEqDiff,Nat.reduceBEq,Nat.reduceAdd,Nat.reduceSub,Nat.reduceLT,Nat.reduceLeDiff,Int.reduceLT,Int.reduceLE,Int.reduceEq,Int.reduceToNat]
   have mb:∀i,i < N→bN k K r.base.toNat h0 (i+1)=none→bN k K r.base.toNat h0 N=none:=fun i hi hn=> by
     have:=q28z hn (N - (i+1))
     rwa [show i+1+(N - (i+1))=N by omega] at this
   refine bj (fun q e H=>∃(i:Nat) (l:List aq) (hd:Bs) (ko:Nat) (out:V),q=N - i∧i≤N∧e 38= .s (.int .i64 (i:Nat))∧e 37= .s (.int .i64 (N:Nat))∧e 1= .ptr did [0] 1∧e 3= .ptr h.length [0] 1∧e 5= .ptr (h.length+1) [0] 1∧e 10= .ptr (h.length+2) [0] 1∧e 9= .al false none (im.map aa)∧e 12=out∧
       bN k K r.base.toNat h0 i=some (l,hd)∧H[h.length]? =some (.cells (some 25) [.arr 25 (k.map aa)])∧H[h.length+1]? =some (.cells (some 53) [V.st 53 [.s (.int .u64 r.bq),.s (.int .u64 r.count),.s (.int .u64 r.base),.arr 25 (r.head.map aa),.s (.int .i64 r.aF)]])∧H[h.length+2]? =some (.cells (some 25) [.arr 25 (hd.map aa)])∧XR H (some 41) ko out (l.map aq.enc)∧h.length+3≤ko∧Fw [] h H∧h.length+3≤H.length)
     (fun e H=>∃(l:List aq) (hd:Bs) (ko:Nat) (out:V),e 5= .ptr (h.length+1) [0] 1∧e 10= .ptr (h.length+2) [0] 1∧e 9= .al false none (im.map aa)∧e 12=out∧
       bN k K r.base.toNat h0 N=some (l,hd)∧H[h.length+1]? =some (.cells (some 53) [V.st 53 [.s (.int .u64 r.bq),.s (.int .u64 r.count),.s (.int .u64 r.base),.arr 25 (r.head.map aa),.s (.int .i64 r.aF)]])∧H[h.length+2]? =some (.cells (some 25) [.arr 25 (hd.map aa)])∧XR H (some 41) ko out (l.map aq.enc)∧h.length+3≤ko∧Fw [] h H)
     N _ _ ⟨0,[],h0,h.length+3,_,rfl,by omega,rfl,rfl,rfl,rfl,rfl,rfl,rfl,rfl,rfl,aK _ _ 0,aK _ _ 1,aK _ _ 2,XR.nil _ _ _,Nat.le_refl _,Fw.app _ _ _,by simp⟩ ?_ ?_
   ·rintro q e H ⟨i,l,mz,ko,out,rfl,hi,e38,e37,e1,e3,e5,e10,e9,e12,xE,g0,g1,g2,xr,wJ,fw,hHl⟩
    have tY:=Ak tI xE
    have od:=my xE
    by_cases ci:i < N
    ·have ci':(i:Int)<((N:Nat):Int):=by omega
     have w1:IntKind.i64.wrap ((i:Int)+1)=((i+1:Nat):Int):=q18z (by omega)
     have w2:IntKind.i64.wrap (2+(i:Int))=2+(i:Nat):=wrap_i64 (by omega) (by omega)
     have w3:IntKind.u64.wrap (i:Int)=(i:Nat):=wrap_u64 (by omega) (by omega)
     have w4:IntKind.u64.wrap (r.base+(i:Nat))=r.base+(i:Nat):=wrap_u64 (by omega) (by omega)
     have w5:IntKind.u64.wrap (r.base+(i:Nat)+1)=((r.base.toNat+i+1:Nat):Int):=by rw[wrap_u64 (by omega) (by omega)];omega
     have dD:=fun b=> Af.HL b H did K (2+(i:Nat)) (hd.mono fw (by simp))
     simp only[Af.R] at dD
     have ah:=fun b=> HU b H k mz ((K.get (2+(i:Nat))).getD []) (r.base.toNat+i+1) hk tY (by omega)
     have gP:bN k K r.base.toNat h0 (i+1)=if (K.get (2+(i:Nat))).isSome=false∨(j8 k (r.base.toNat+i+1) mz ((K.get (2+(i:Nat))).getD [])).2≠0 then none
      else some (l++[(j8 k (r.base.toNat+i+1) mz ((K.get (2+(i:Nat))).getD [])).1],dp mz ((K.get (2+(i:Nat))).getD [])):=by rw[bN,xE]
     have hgl:((K.get (2+(i:Nat))).getD []).length≤8192:=by
       cases hq:K.get (2+(i:Nat)) with
       | none=> simp
       | some x=> exact BY hd.ok hq
     have hhd:=fun b H'=> xw b H' (.al false none (((K.get (2+(i:Nat))).getD []).map aa)) mz ((K.get (2+(i:Nat))).getD []) tY (dj _ _ _) (by omega)
     generalize K.get (2+(i:Nat))=G at *
     generalize hX:j8 k (r.base.toNat+i+1) mz (G.getD [])=X at *
     obtain ⟨x,why⟩:=X
     simp only at gP ah
     have tkr:∀Y,(H++Y).take h.length=h:=fun Y=>(fw.trans (Fw.app [] H Y)).take
     cases hs:G.isSome with
     | false=>
       rw[hs] at dD gP
       have iP:=mb i ci (by rw[gP];simp)
       simp only[e38,e37,e1,e3,e5,e10,e9,e12,ci',w2,w3,w4,w5,dD,g0,g1,g2,ah,jJ,jK,p7,Bool.or_true,bG,iP,qE,List.map_nil,tkr,go_sem,↓reduceIte,Nat.reduceEqDiff,Nat.reduceBEq,Nat.reduceAdd,Nat.reduceSub,Nat.reduceLT,Nat.reduceLeDiff,Int.reduceLT,Int.reduceLE,Int.reduceEq,Int.reduceToNat]
     | true=>
       rw[hs] at dD gP
       by_cases cw:why=0
       case neg=>
         have iP:=mb i ci (by rw[gP];simp[cw])
         simp only[e38,e37,e1,e3,e5,e10,e9,e12,ci',w2,w3,w4,w5,dD,g0,g1,g2,ah,jJ,jK,p7,Bool.or_true,bG,iP,qE,List.map_nil,tkr,cw,go_sem,↓reduceIte,Nat.reduceEqDiff,Nat.reduceBEq,Nat.reduceAdd,Nat.reduceSub,Nat.reduceLT,Nat.reduceLeDiff,Int.reduceLT,Int.reduceLE,Int.reduceEq,Int.reduceToNat]
       rw[if_neg (by simp[cw])] at gP
       have xr1:=xr.mono (H:=H++[.cells (some 41) [x.enc]]) (fun b hb=> q10z hb _)
       obtain ⟨out2,H2,ko2,je,xr2,zT,hH2,BQ,hH2l,hold⟩:=xr1.uq (n:=h.length+3) (bytes:=152) (ys:=[x.enc]) (m:=1) wJ (by simp;omega) rfl (by simp[p7]) (by simp;omega)
       rw[List.append_assoc] at je
       simp only[List.length_append,List.length_cons,List.length_nil,Nat.zero_add,List.cons_append,List.nil_append] at je
       have n2:∀j b,j≠ko→H[j]? =some b→H2[j]? =some b:=fun j b hj hb=> hold j b hj (q10z hb _)
       have g02:=n2 _ _ (by omega) g0
       have g12:=n2 _ _ (by omega) g1
       have g22:=n2 _ _ (by omega) g2
       have fw2:Fw [] h H2:=(fw.trans (Fw.app [] H _)).trans' (n:=0) hH2l hold (by omega)
       have vy:decide (h.length≤h.length+2)=true:=by simp
       have iP:∃m,m < N - i∧∃(i':Nat) (l':List aq) (hd2:Bs) (ko:Nat) (out:V),m=N - i'∧i'≤N∧Value.int IntKind.i64 ((i+1:Nat):Int)=Value.int IntKind.i64 (i':Int)∧out2=out∧bN k K r.base.toNat h0 i'=some (l',hd2)∧
         (H2.set (h.length+2) (.cells (some 25) [.arr 25 ((dp mz (G.getD [])).map aa)]))[h.length]? =some (.cells (some 25) [.arr 25 (k.map aa)])∧
         (H2.set (h.length+2) (.cells (some 25) [.arr 25 ((dp mz (G.getD [])).map aa)]))[h.length+1]? =some (.cells (some 53) [V.st 53 [.s (.int .u64 r.bq),.s (.int .u64 r.count),.s (.int .u64 r.base),.arr 25 (r.head.map aa),.s (.int .i64 r.aF)]])∧
         (H2.set (h.length+2) (.cells (some 25) [.arr 25 ((dp mz (G.getD [])).map aa)]))[h.length+2]? =some (.cells (some 25) [.arr 25 (hd2.map aa)])∧
         XR (H2.set (h.length+2) (.cells (some 25) [.arr 25 ((dp mz (G.getD [])).map aa)])) (some 41) ko out (l'.map aq.enc)∧h.length+3≤ko∧Fw [] h (H2.set (h.length+2) (.cells (some 25) [.arr 25 ((dp mz (G.getD [])).map aa)]))∧h.length+3≤H2.length:=by
         refine ⟨N - (i+1),by omega,i+1,_,_,ko2,out2,rfl,by omega,rfl,rfl,gP,?_,?_,q9z g22,?_,zT,fw2.cL (by omega) _,hH2⟩
         ·rw[List.getElem?_set_ne (by omega)];exact g02
         ·rw[List.getElem?_set_ne (by omega)];exact g12
         ·rw[List.map_append];exact xr2.set (by omega) _
       simp only[e38,e37,e1,e3,e5,e10,e9,e12,ci',w1,w2,w3,w4,w5,dD,g0,g1,g2,ah,jJ,jK,p7,Bool.or_true,bG,cw,je,hhd,g22,g02,g12,vy,go_sem,↓reduceIte,Nat.reduceEqDiff,Nat.reduceBEq,Nat.reduceAdd,Nat.reduceSub,Nat.reduceLT,Nat.reduceLeDiff,Int.reduceLT,Int.reduceLE,Int.reduceEq,Int.reduceToNat]
       exact iP
    ·have ci':¬(i:Int)<((N:Nat):Int):=by omega
     obtain rfl:i=N:=by omega
     simp only[e38,e37,e1,e3,e5,e10,e9,e12,ci',go_sem,↓reduceIte,Nat.reduceEqDiff,Nat.reduceBEq,Nat.reduceAdd,Nat.reduceSub,Nat.reduceLT,Nat.reduceLeDiff,Int.reduceLT,Int.reduceLE,Int.reduceEq,Int.reduceToNat]
     exact ⟨l,mz,ko,out,rfl,xE,g1,g2,xr,wJ,fw⟩
   ·rintro e H ⟨l,mz,ko,out,e5,e10,e9,e12,xE,g1,g2,xr,wJ,fw⟩
    have eI:=fw.take
    have df:=xr.q8 (n:=h.length) (by omega) (Aj l)
    by_cases ch:mz=r.head
    ·simp only[e5,e10,e9,e12,g1,g2,bG,cZ,ch,df,eI,qE,xE,go_sem,↓reduceIte,Nat.reduceEqDiff,Nat.reduceBEq,Nat.reduceAdd,Nat.reduceSub,Nat.reduceLT,Nat.reduceLeDiff,Int.reduceLT,Int.reduceLE,Int.reduceEq,Int.reduceToNat]
    ·simp only[e5,e10,e9,e12,g1,g2,bG,cZ,ch,df,eI,qE,xE,go_sem,↓reduceIte,Nat.reduceEqDiff,Nat.reduceBEq,Nat.reduceAdd,Nat.reduceSub,Nat.reduceLT,Nat.reduceLeDiff,Int.reduceLT,Int.reduceLE,Int.reduceEq,Int.reduceToNat]
theorem vI (cf:CF) (base:Nat) (h:Hp) (f:Bool) (l:Bs) (k:IntKind) (n:Nat) (hn:n≤l.length):aB cf base h (.ji none true false false) [.al f none (l.map aa),.s (.int k (n:Nat))]=some (.al f none ((l.drop n).map aa),h):=by
 rw[SR.Pg (cf:=cf) (base:=base) (h:=h) (x:= .al f none (l.map aa)) (g:=none) (vs:=l.map aa) (.inl ⟨f,rfl⟩) (k:=k) (l:=n) (by simpa using hn)]
 simp only[oy,List.length_map,BEq.rfl,Bool.and_true,←List.map_drop]
 rw[List.take_of_length_le (by simp)]
theorem zS (cf:CF) (base:Nat) (h:Hp) (f:Bool) (l:Bs) (k:IntKind) (n:Nat) (hn:n≤l.length):aB cf base h (.ji none false true false) [.al f none (l.map aa),.s (.int k (n:Nat))]=some (.al (f && n==l.length) none ((l.take n).map aa),h):=by
 rw[SR.Yj (cf:=cf) (base:=base) (h:=h) (x:= .al f none (l.map aa)) (g:=none) (vs:=l.map aa) (.inl ⟨f,rfl⟩) (k:=k) (r:=n) (by simpa using hn)]
 simp only[oy,List.length_map,List.drop_zero,Nat.sub_zero,List.map_take]
theorem Al (b:Nat) (h:Hp) (f:Bool) (l:Bs) (hl:8≤l.length):run fns pr b 119 [.al f none (l.map aa)] h=some (.s (.int .u64 (jo (l.take 8):Nat)),h):=by
 refine Vm.aT (nt:=20) rfl Oo (by simp) ?_
 have hc:=fun cf base H=> zS cf base H f l .i64 8 hl
 have hml:(l.take 8).length=8:=by rw[List.length_take];omega
 have tk:∀X,(h++X).take h.length=h:=fun X=> List.take_left
 generalize (f && 8==l.length)=g at hc
 generalize hm:l.take 8=m at *
 have gN:∀H,SR H (.al g none (m.map aa)) none (m.map aa):=fun H=> .inl ⟨g,rfl⟩
 have tk2:m.take 8=m:=List.take_of_length_le (by omega)
 generalize hx:V.al g none (m.map aa)=x at hc gN
 have il:∀cf base h,aB cf base h .len [x]=some (.s (.int .i64 8),h):=fun cf base h=> by rw[(gN h).cF];simp[hml]
 simp only[Om,GA,Gz,show (V.s (.int .i64 8))=V.s (.int .i64 ((8:Nat):Int)) from rfl,hc,il,go_sem,↓reduceIte,Nat.reduceEqDiff,Nat.reduceBEq,Nat.reduceAdd,Nat.reduceSub,Nat.reduceLT,Nat.reduceLeDiff,Int.reduceLT,Int.reduceLE,Int.reduceEq,Int.reduceToNat]
 refine bj (fun q e H=>∃j,q=8 - j∧j≤8∧e 9= .s (.int .i64 (j:Nat))∧e 8= .s (.int .i64 8)∧e 7=x∧e 3= .s (.int .u64 (jo (m.take j):Nat))∧H=h)
   (fun e H=> e 3= .s (.int .u64 (jo m:Nat))∧H=h) 8 _ _ ?_ ?_ ?_
 ·exact ⟨0,rfl,by omega,rfl,rfl,rfl,rfl,rfl⟩
 ·rintro q e H ⟨j,rfl,hj,e9,e8,e7,e3,rfl⟩
  by_cases cd:j < 8
  ·have cj:(j:Int)< 8:=by omega
   have i1:=fun cf base=>(gN H).cY (cf:=cf) (base:=base) (k:= .i64) (i:=j) (by simp;omega)
   have i2:=fun cf base=>(gN H).g8 (cf:=cf) (base:=base) (i:=j) (v:=aa (m.getD j 0)) (by rw[List.getElem?_map,List.getD,List.getElem?_eq_getElem (by omega)];rfl) rfl
   have w3:IntKind.i64.wrap ((j:Int)+1)=((j+1:Nat):Int):=q17z (by omega)
   have hb:=rZ m j (by omega)
   have hy:=(m.getD j 0).toNat_lt
   have hp:256 ^ j * 256≤18446744073709551616:=by rw[←Nat.pow_succ];exact Nat.pow_le_pow_right (by omega) (show j+1≤8 by omega)
   have s1:=Nb (a:=jo (m.take j)) (by omega)
   have s2:=Vh (a:=jo (m.take j)) (y:=(m.getD j 0).toNat) (by omega) hy
   have hw:=oj (n:=(m.getD j 0).toNat) (by omega)
   have h1:∀cf base h,aB cf base h (.bin .num .shl) [.s (.int .u64 (jo (m.take j):Nat)),.s (.int .i64 8)]=some (.s (.int .u64 ((jo (m.take j)* 256:Nat):Int)),h):=fun cf base h=> by rw[←s1];exact tW cf base h .u64 .i64 _ 8 (by omega)
   have h2:∀cf base h,aB cf base h (.bin .num .shl) [.s (.int .u64 (jo (m.take j):Nat)),.s (.int .u64 8)]=some (.s (.int .u64 ((jo (m.take j)* 256:Nat):Int)),h):=fun cf base h=> by rw[←s1];exact tW cf base h .u64 .u64 _ 8 (by omega)
   simp only[e9,e8,e7,e3,cj,i1,i2,aa,w3,h1,h2,hw,s2,go_sem,↓reduceIte,Nat.reduceEqDiff,Nat.reduceBEq,Nat.reduceAdd,Nat.reduceSub,Nat.reduceLT,Nat.reduceLeDiff,Int.reduceLT,Int.reduceLE,Int.reduceEq,Int.reduceToNat]
   refine ⟨8 - (j+1),by omega,j+1,rfl,by omega,rfl,?_⟩
   rw[rY (by omega)]
  ·have cj:¬(j:Int)< 8:=by omega
   obtain rfl:j=8:=by omega
   simp only[e9,e8,e7,e3,cj,tk2,go_sem,↓reduceIte,Nat.reduceEqDiff,Nat.reduceBEq,Nat.reduceAdd,Nat.reduceSub,Nat.reduceLT,Nat.reduceLeDiff,Int.reduceLT,Int.reduceLE,Int.reduceEq,Int.reduceToNat]
 ·rintro e H ⟨e3,rfl⟩
  simp only[e3,List.take_length,go_sem,↓reduceIte,Nat.reduceEqDiff,Nat.reduceBEq,Nat.reduceAdd,Nat.reduceSub,Nat.reduceLT,Nat.reduceLeDiff,Int.reduceLT,Int.reduceLE,Int.reduceEq,Int.reduceToNat]
def dq :Nat→Bs→Option (List ag×Bs)
 | 0,l=> some ([],l)
 | n+1,l=> match dq n l with
   | none=> none
   | some (vs,m)=> if (bT m).2.2≠0 then none else some (vs++[(bT m).1],m.drop (bT m).2.1.toNat)
theorem q27z {l:Bs} {n:Nat} (hn:dq n l=none):∀m,dq (n+m) l=none
 | 0=> hn
 | m+1=> by rw[←Nat.add_assoc,dq,q27z hn m]
theorem q21z (m:Bs) (h:(bT m).2.2=0):(bT m).1.wf:=by
 have hw:=m7 (m,false)
 unfold bT at h ⊢
 generalize cB (m,false)=x at *
 by_cases c:x.2.2=true
 ·rw[if_pos c] at h
  exact absurd h (by decide)
 ·rw[if_neg c]
  exact hw
theorem Am (m:Bs):∃n:Nat,(bT m).2.1=n∧n≤m.length:=by
 unfold bT
 generalize cB (m,false)=x at *
 by_cases c:x.2.2=true
 ·rw[if_pos c];exact ⟨0,rfl,by omega⟩
 ·rw[if_neg c];exact ⟨_,rfl,Nat.sub_le _ _⟩
theorem oz {l:Bs}:∀ {n:Nat} {vs:List ag} {m:Bs},dq n l=some (vs,m)→m.length≤l.length∧vs.length=n∧∀v∈vs,v.wf
 | 0,vs,m,e=> by cases e;simp
 | n+1,vs,m,e=> by
   rw[dq] at e
   split at e
   ·cases e
   ·rename_i vs2 m2 e2
    obtain ⟨h1,h2,h3⟩:=oz e2
    have hw:=q21z m2
    generalize bT m2=X at *
    by_cases c:X.2.2≠0
    ·rw[if_pos c] at e;cases e
    ·rw[if_neg c] at e
     simp only[Option.some.injEq,Prod.mk.injEq] at e
     obtain ⟨rfl,rfl⟩:=e
     refine ⟨by simp;omega,by simp[h2],fun v hv=> ?_⟩
     rcases List.mem_append.1 hv with hv | hv
     ·exact h3 v hv
     ·simp only[List.mem_singleton] at hv
      subst hv
      exact hw (Decidable.not_not.1 c)
def pf (x:Option (List ag×Bs)):V:=match x with
 | none=> .bI [.al false (some 31) [],.al false none [],.s (.bool false)]
 | some (vs,m)=> .bI [.al false (some 31) (vs.map ag.enc),.al false none (m.map aa),.s (.bool true)]
theorem An (b:Nat) (h:Hp) (f:Bool) (l:Bs) (N:Nat) (hl:l.length≤100000) (hN:N≤255):run fns pr b 118 [.al f none (l.map aa),.s (.int .i64 (N:Nat))] h=some (pf (dq N l),h):=by
 refine Vm.aT (nt:=32) rfl Ol (by simp) ?_
 simp only[Oj,Gy,Gx,go_sem,↓reduceIte,Nat.reduceEqDiff,Nat.reduceBEq,Nat.reduceAdd,Nat.reduceSub,Nat.reduceLT,Nat.reduceLeDiff,Int.reduceLT,Int.reduceLE,Int.reduceEq,Int.reduceToNat]
 refine bj (fun q e H=>∃(i:Nat) (vs:List ag) (m:Bs) (f:Bool) (ko:Nat) (out:V),q=N - i∧i≤N∧e 12= .s (.int .i64 (i:Nat))∧e 11= .s (.int .i64 (N:Nat))∧e 0= .al f none (m.map aa)∧e 7=out∧dq i l=some (vs,m)∧XR H (some 31) ko out (vs.map ag.enc)∧h.length≤ko∧Fw [] h H)
   (fun e H=>∃(vs:List ag) (m:Bs) (f:Bool) (ko:Nat) (out:V),e 0= .al f none (m.map aa)∧e 7=out∧dq N l=some (vs,m)∧XR H (some 31) ko out (vs.map ag.enc)∧h.length≤ko∧Fw [] h H)
   N _ _ ⟨0,[],l,f,h.length,_,rfl,by omega,rfl,rfl,rfl,rfl,rfl,XR.nil _ _ _,Nat.le_refl _,Fw.refl _ _⟩ ?_ ?_
 ·rintro q e H ⟨i,vs,m,f,ko,out,rfl,hi,e12,e11,e0,e7,hvi,xr,wJ,fw⟩
  obtain ⟨hml,FC,_⟩:=oz hvi
  by_cases ci:i < N
  ·have ci':(i:Int)<((N:Nat):Int):=by omega
   have w1:IntKind.i64.wrap ((i:Int)+1)=((i+1:Nat):Int):=q18z (by omega)
   have htv:=fun b H=> zV b H f m (by omega)
   have gP:dq (i+1) l=if (bT m).2.2≠0 then none else some (vs++[(bT m).1],m.drop (bT m).2.1.toNat):=by rw[dq,hvi]
   obtain ⟨n,hn1,hn2⟩:=Am m
   generalize bT m=X at *
   obtain ⟨x,n',why⟩:=X
   simp only at hn1 htv gP
   subst hn1
   rw[Int.toNat_natCast] at gP
   have hle:=fw.len
   have pa:∀y,(decide (h.length≤H.length) || y)=true:=fun y=> by rw[decide_eq_true hle];rfl
   have tkr:∀Y,(H++Y).take h.length=h:=fun Y=>(fw.trans (Fw.app [] H Y)).take
   by_cases cw:why=0
   case neg=>
     rw[if_pos cw] at gP
     have iP:dq N l=none:=by
       have:=q27z gP (N - (i+1))
       rwa [show i+1+(N - (i+1))=N by omega] at this
     simp only[e12,e11,e0,e7,ci',htv,cw,aY,aZ,pa,tkr,iP,pf,go_sem,↓reduceIte,Nat.reduceEqDiff,Nat.reduceBEq,Nat.reduceAdd,Nat.reduceSub,Nat.reduceLT,Nat.reduceLeDiff,Int.reduceLT,Int.reduceLE,Int.reduceEq,Int.reduceToNat]
   rw[if_neg (by simp[cw])] at gP
   have xr1:=xr.mono (H:=H++[.cells (some 31) [x.enc]]) (fun b hb=> q10z hb _)
   obtain ⟨out2,H2,ko2,je,xr2,zT,hH2,BQ,hH2l,hold⟩:=xr1.uq (n:=h.length) (bytes:=96) (ys:=[x.enc]) (m:=1) wJ (by simp;omega) rfl (by simp[iQ]) (by simp;omega)
   rw[List.append_assoc] at je
   simp only[List.length_append,List.length_cons,List.length_nil,Nat.zero_add,List.cons_append,List.nil_append] at je
   have fw2:Fw [] h H2:=(fw.trans (Fw.app [] H _)).trans' (n:=0) hH2l hold wJ
   have hsl:=fun cf base H=> vI cf base H f m .i64 n hn2
   rw[show vs.map ag.enc++[x.enc]=(vs++[x]).map ag.enc by simp] at xr2
   simp only[e12,e11,e0,e7,ci',htv,cw,aY,aZ,pa,je,hsl,w1,go_sem,↓reduceIte,Nat.reduceEqDiff,Nat.reduceBEq,Nat.reduceAdd,Nat.reduceSub,Nat.reduceLT,Nat.reduceLeDiff,Int.reduceLT,Int.reduceLE,Int.reduceEq,Int.reduceToNat]
   exact ⟨N - (i+1),by omega,i+1,_,_,f,ko2,out2,rfl,by omega,rfl,rfl,rfl,gP,xr2,zT,fw2⟩
  ·have ci':¬(i:Int)<((N:Nat):Int):=by omega
   obtain rfl:i=N:=by omega
   simp only[e12,e11,e0,e7,ci',go_sem,↓reduceIte,Nat.reduceEqDiff,Nat.reduceBEq,Nat.reduceAdd,Nat.reduceSub,Nat.reduceLT,Nat.reduceLeDiff,Int.reduceLT,Int.reduceLE,Int.reduceEq,Int.reduceToNat]
   exact ⟨vs,m,f,ko,out,rfl,rfl,hvi,xr,wJ,fw⟩
 ·rintro e H ⟨vs,m,f,ko,out,e0,e7,hvi,xr,wJ,fw⟩
  have eI:=fw.take
  have df:=xr.q8 (n:=h.length) wJ (kT vs)
  simp only[e0,e7,df,eI,hvi,pf,go_sem,↓reduceIte,Nat.reduceEqDiff,Nat.reduceBEq,Nat.reduceAdd,Nat.reduceSub,Nat.reduceLT,Nat.reduceLeDiff,Int.reduceLT,Int.reduceLE,Int.reduceEq,Int.reduceToNat]
def nN (l:Bs):Option (kH×Bs):=if l.length < 11 then none else match dq (l.getD 10 0).toNat (l.drop 11) with
 | none=> none
 | some (vs,m)=> some (⟨((l.getD 0 0).toNat:Nat),(jo ((l.drop 1).take 8):Nat),((l.getD 9 0).toNat:Nat),vs⟩,m)
def j9 (s0:bh) (l:Bs):Nat→Option (bh×Bs)
 | 0=> some (s0,l)
 | n+1=> match j9 s0 l n with
   | none=> none
   | some (s,m)=> match nN m with
     | none=> none
     | some (q,rest)=> if (nE s n q).1≠0 then none else some ((nE s n q).2,rest)
theorem q26z {s0:bh} {l:Bs} {n:Nat} (hn:j9 s0 l n=none):∀m,j9 s0 l (n+m)=none
 | 0=> hn
 | m+1=> by rw[←Nat.add_assoc,j9,q26z hn m]
def uC (a b:Int) (l:Bs):Option bh:=if l.length < 2 then none else (j9 (bh.new a b) (l.drop 2) 16).map (·.1)
theorem Dp {s:bh} {n:Nat} {q:kH} (h1:mo s n q=true) (h2:rising q.vs=true) (hw:∀v∈q.vs,v.wf):POk s n q:=by
 unfold mo at h1
 split at h1
 ·cases h1
 ·rename_i c1
  split at h1
  ·cases h1
  ·rename_i c2
   split at h1
   ·cases h1
   ·rename_i c3
    unfold rising at h2
    simp only[Bool.and_eq_true,decide_eq_true_eq,List.all_eq_true] at h2
    simp only[Bool.not_eq_true',List.any_eq_false,decide_eq_true_eq,Decidable.not_not] at h1
    obtain ⟨⟨h4,h5⟩,h6⟩:=h2
    refine ⟨by omega,by omega,by omega,fun h=> by omega,fun h=> by omega,fun h=> ?_,h6,h4,fun v hv=>⟨h5 v hv,hw v hv,?_⟩⟩
    ·exact List.eq_nil_of_length_eq_zero (by omega)
    ·have:=h1 v hv;omega
theorem xF {l:Bs} {q:kH} {m:Bs} (h:nN l=some (q,m)):11≤l.length∧m.length≤l.length∧(∀v∈q.vs,v.wf)∧q.vs.length≤255:=by
 unfold nN at h
 split at h
 ·cases h
 ·split at h
  ·cases h
  ·rename_i vs m2 e2
   obtain ⟨h1,h2,h3⟩:=oz e2
   simp only[Option.some.injEq,Prod.mk.injEq] at h
   obtain ⟨rfl,rfl⟩:=h
   have:=(l.getD 10 0).toNat_lt
   refine ⟨by omega,by rw[List.length_drop] at h1;omega,h3,by simp only;omega⟩
theorem Ld {s:bh} {n:Nat} {q:kH} (hk:j6 s) (hw:∀v∈q.vs,v.wf):j6 (nE s n q).2:=by
 unfold nE
 split
 ·rename_i c
  exact hk.o8 fun hi=> Dp c.1 c.2 hw
 ·exact hk
def VE (h:Hp) (v:V) (h':Hp):Option bh→Prop
 | none=> v= .bI [.s (.pointer none),.s (.bool false)]∧Fw [] h h'
 | some s=> j6 s∧∃F,v= .bI [.ptr h.length [0] 1,.s (.bool true)]∧gY h' h.length s F∧Fw [] h h'∧∀j∈F,h.length≤j
theorem rA (b:Nat) (h:Hp) (x z:Int) (f:Bool) (l:Bs) (hl:l.length≤100000) (hb:b≤h.length) (h1:1≤z) (h2:z≤8) (h3:0≤x) (h4:x < z):
 ∃v h',run fns pr b 102 [.s (.int .i64 x),.s (.int .i64 z),.al f none (l.map aa)] h=some (v,h')∧VE h v h' (uC x z l):=by
 refine Vm.dZ (nt:=65) rfl NL (by simp) ?_
 obtain ⟨v1,H1,e1,F1,rfl,s1,f1,n1⟩:=rr b h x z hb h1 h2 h3 h4
 have il:∀cf base H f (l:Bs),aB cf base H .len [.al f none (l.map aa)]=some (.s (.int .i64 (l.length:Nat)),H):=fun cf base H f l=> by rw[oi];simp
 unfold uC
 by_cases c0:l.length < 2
 ·have c0':((l.length:Nat):Int)< 2:=by omega
  rw[if_pos c0]
  simp only[Kf,zi,zh,e1,il,c0',go_sem,↓reduceIte,Nat.reduceEqDiff,Nat.reduceBEq,Nat.reduceAdd,Nat.reduceSub,Nat.reduceLT,Nat.reduceLeDiff,Int.reduceLT,Int.reduceLE,Int.reduceEq,Int.reduceToNat]
  exact ⟨rfl,f1⟩
 have c0':¬((l.length:Nat):Int)< 2:=by omega
 rw[if_neg c0]
 have CS:∀cf base H,aB cf base H (.ji none true false false) [.al f none (l.map aa),.s (.int .i64 2)]=some (.al f none ((l.drop 2).map aa),H):=fun cf base H=> vI cf base H f l .i64 2 (by omega)
 simp only[Kf,zi,zh,e1,il,c0',CS,go_sem,↓reduceIte,Nat.reduceEqDiff,Nat.reduceBEq,Nat.reduceAdd,Nat.reduceSub,Nat.reduceLT,Nat.reduceLeDiff,Int.reduceLT,Int.reduceLE,Int.reduceEq,Int.reduceToNat]
 have tY:(l.drop 2).length≤100000:=by rw[List.length_drop];omega
 generalize l.drop 2=l2 at *
 have k0:=j6.new h1 h2 h3 h4
 generalize bh.new x z=S0 at *
 refine bj (fun q e H=>∃(i:Nat) (s:bh) (m:Bs) (F':List Nat) (f:Bool),q=16 - i∧i≤16∧e 25= .s (.int .i64 (i:Nat))∧e 8= .ptr h.length [0] 1∧e 2= .al f none (m.map aa)∧j9 S0 l2 i=some (s,m)∧m.length≤l2.length∧j6 s∧gY H h.length s F'∧Fw [] h H∧∀j∈F',h.length≤j)
   (fun e H=>∃(s:bh) (m:Bs) (F':List Nat),e 8= .ptr h.length [0] 1∧j9 S0 l2 16=some (s,m)∧j6 s∧gY H h.length s F'∧Fw [] h H∧∀j∈F',h.length≤j)
   16 _ _ ⟨0,S0,l2,F1,f,rfl,by omega,rfl,rfl,rfl,rfl,Nat.le_refl _,k0,s1,f1,n1⟩ ?_ ?_
 ·rintro q e H ⟨i,s,m,F',f,rfl,hi,e25,e8,e2,wK,hml,hk,hs,fw,hn⟩
  by_cases ci:i < 16
  ·have ci':(i:Int)< 16:=by omega
   have w1:IntKind.i64.wrap ((i:Int)+1)=((i+1:Nat):Int):=q18z (by omega)
   have BZ:j9 S0 l2 (i+1)=none→j9 S0 l2 16=none:=fun hh=> by
     have:=q26z hh (16 - (i+1))
     rwa [show i+1+(16 - (i+1))=16 by omega] at this
   have gP:j9 S0 l2 (i+1)=match nN m with
     | none=> none
     | some (q,rest)=> if (nE s i q).1≠0 then none else some ((nE s i q).2,rest):=by rw[j9,wK]
   by_cases c11:m.length < 11
   ·have c11':((m.length:Nat):Int)< 11:=by omega
    have hp:nN m=none:=by unfold nN;rw[if_pos c11]
    rw[hp] at gP
    have hz:=BZ gP
    simp only[e25,e8,e2,ci',il,c11',hz,Option.map_none,go_sem,↓reduceIte,Nat.reduceEqDiff,Nat.reduceBEq,Nat.reduceAdd,Nat.reduceSub,Nat.reduceLT,Nat.reduceLeDiff,Int.reduceLT,Int.reduceLE,Int.reduceEq,Int.reduceToNat]
    exact ⟨rfl,fw⟩
   have c11':¬((m.length:Nat):Int)< 11:=by omega
   have PB:∀cf base H,aB cf base H (.ji none true false false) [.al f none (m.map aa),.s (.int .i64 11)]=some (.al f none ((m.drop 11).map aa),H):=fun cf base H=> vI cf base H f m .i64 11 (by omega)
   have tG:∀cf base H,aB cf base H (.ji none true false false) [.al f none (m.map aa),.s (.int .i64 1)]=some (.al f none ((m.drop 1).map aa),H):=fun cf base H=> vI cf base H f m .i64 1 (by omega)
   have gN:∀H,SR H (.al f none (m.map aa)) none (m.map aa):=fun H=> .inl ⟨f,rfl⟩
   have i1:=fun cf base H (n:Nat) (hn:n < m.length)=>(gN H).cY (cf:=cf) (base:=base) (k:= .i64) (i:=n) (by simpa using hn)
   have i2:=fun cf base H (n:Nat) (hn:n < m.length)=>(gN H).g8 (cf:=cf) (base:=base) (i:=n) (v:=aa (m.getD n 0)) (by rw[List.getElem?_map,List.getD,List.getElem?_eq_getElem hn];rfl) rfl
   have a10:∀cf base H,aB cf base H (.di none) [.al f none (m.map aa),.s (.int .i64 10)]=some (jj (.al f none (m.map aa)) 10,H):=fun cf base H=> i1 cf base H 10 (by omega)
   have b10:=fun cf base H=> i2 cf base H 10 (by omega)
   have a0:∀cf base H,aB cf base H (.di none) [.al f none (m.map aa),.s (.int .i64 0)]=some (jj (.al f none (m.map aa)) 0,H):=fun cf base H=> i1 cf base H 0 (by omega)
   have b0:=fun cf base H=> i2 cf base H 0 (by omega)
   have a9:∀cf base H,aB cf base H (.di none) [.al f none (m.map aa),.s (.int .i64 9)]=some (jj (.al f none (m.map aa)) 9,H):=fun cf base H=> i1 cf base H 9 (by omega)
   have b9:=fun cf base H=> i2 cf base H 9 (by omega)
   have m0:∀y:UInt8,IntKind.i64.wrap (y.toNat:Int)=(y.toNat:Nat):=fun y=> wrap_i64 (by omega) (by have:=y.toNat_lt;omega)
   have hiv:=fun b H=> An b H f (m.drop 11) (m.getD 10 0).toNat (by rw[List.length_drop];omega) (by have:=(m.getD 10 0).toNat_lt;omega)
   have hnu:=fun b H=> Al b H f (m.drop 1) (by rw[List.length_drop];omega)
   have hpm:nN m=match dq (m.getD 10 0).toNat (m.drop 11) with
     | none=> none
     | some (vs,r)=> some (⟨((m.getD 0 0).toNat:Nat),(jo ((m.drop 1).take 8):Nat),((m.getD 9 0).toNat:Nat),vs⟩,r):=by unfold nN;rw[if_neg c11]
   have hpf:=fun q r=> xF (l:=m) (q:=q) (m:=r)
   generalize dq (m.getD 10 0).toNat (m.drop 11)=W at *
   cases W with
   | none=>
     simp only at hpm
     rw[hpm] at gP
     have hz:=BZ gP
     simp only[e25,e8,e2,ci',il,c11',PB,a10,b10,aa,m0,hiv,pf,hz,Option.map_none,go_sem,↓reduceIte,Nat.reduceEqDiff,Nat.reduceBEq,Nat.reduceAdd,Nat.reduceSub,Nat.reduceLT,Nat.reduceLeDiff,Int.reduceLT,Int.reduceLE,Int.reduceEq,Int.reduceToNat]
     exact ⟨rfl,fw⟩
   | some W=>
     obtain ⟨vs,r⟩:=W
     simp only at hpm
     obtain ⟨p1,p2,p3,p4⟩:=hpf _ _ hpm
     rw[hpm] at gP
     simp only[pf] at hiv
     have VF:∀b H,run fns pr b 119 [.al f none ((m.drop 1).map aa)] H=some (.s (.int .u64 (jo ((m.drop 1).take 8):Nat)),H):=hnu
     generalize hq:(⟨((m.getD 0 0).toNat:Nat),(jo ((m.drop 1).take 8):Nat),((m.getD 9 0).toNat:Nat),vs⟩:kH)=q at *
     obtain ⟨v2,H2,e2',rfl,F2,s2,f2,n2⟩:=Hv b H h.length i s F' q (fun j hj=> Nat.le_trans hb (hn j hj)) hs ci (by omega) p3
     have k2:=Ld (n:=i) hk p3
     simp only at gP
     have hqr:q.role=((m.getD 0 0).toNat:Nat)∧q.aD=(jo ((m.drop 1).take 8):Nat)∧q.to=((m.getD 9 0).toNat:Nat)∧q.vs=vs:=by rw[←hq];exact ⟨rfl,rfl,rfl,rfl⟩
     obtain ⟨q1,q2,q3,q4⟩:=hqr
     rw[q1,q2,q3,q4] at e2'
     generalize nE s i q=Z at *
     have fw2:Fw [] h H2:=fw.new f2 (fun j hj=> .inl (hn j hj))
     have n3:∀j∈F2,h.length≤j:=fun j hj=>(n2 j hj).elim (hn j) fun h1=> by have:=fw.len;omega
     by_cases cz:Z.1=0
     ·rw[if_neg (by simp[cz])] at gP
      rw[cz] at e2'
      simp only[e25,e8,e2,ci',il,c11',PB,a10,b10,aa,m0,hiv,tG,VF,a0,b0,a9,b9,e2',w1,go_sem,↓reduceIte,Nat.reduceEqDiff,Nat.reduceBEq,Nat.reduceAdd,Nat.reduceSub,Nat.reduceLT,Nat.reduceLeDiff,Int.reduceLT,Int.reduceLE,Int.reduceEq,Int.reduceToNat]
      exact ⟨16 - (i+1),by omega,i+1,_,r,F2,false,rfl,by omega,rfl,rfl,gP,by omega,k2,s2,fw2,n3⟩
     ·rw[if_pos cz] at gP
      have hz:=BZ gP
      simp only[e25,e8,e2,ci',il,c11',PB,a10,b10,aa,m0,hiv,tG,VF,a0,b0,a9,b9,e2',cz,hz,Option.map_none,go_sem,↓reduceIte,Nat.reduceEqDiff,Nat.reduceBEq,Nat.reduceAdd,Nat.reduceSub,Nat.reduceLT,Nat.reduceLeDiff,Int.reduceLT,Int.reduceLE,Int.reduceEq,Int.reduceToNat]
      exact ⟨rfl,fw2⟩
  ·have ci':¬(i:Int)< 16:=by omega
   obtain rfl:i=16:=by omega
   simp only[e25,e8,e2,ci',go_sem,↓reduceIte,Nat.reduceEqDiff,Nat.reduceBEq,Nat.reduceAdd,Nat.reduceSub,Nat.reduceLT,Nat.reduceLeDiff,Int.reduceLT,Int.reduceLE,Int.reduceEq,Int.reduceToNat]
   exact ⟨s,m,F',wK,hk,hs,fw,hn⟩
 ·rintro e H ⟨s,m,F',e8,wK,hk,hs,fw,hn⟩
  simp only[e8,wK,Option.map_some,go_sem,↓reduceIte,Nat.reduceEqDiff,Nat.reduceBEq,Nat.reduceAdd,Nat.reduceSub,Nat.reduceLT,Nat.reduceLeDiff,Int.reduceLT,Int.reduceLE,Int.reduceEq,Int.reduceToNat]
  exact ⟨hk,F',rfl,hs,fw,hn⟩
def ofI (a b:Int) (l:Bs):Option bh:=match uC a b l with
 | none=> none
 | some s=> if ib s=l then some s else none
def ofR (h:Hp) (v:V) (h':Hp):Option bh→Prop
 | none=> v= .bI [.s (.pointer none),.s (.int .i64 12)]∧Fw [] h h'
 | some s=> j6 s∧∃F,v= .bI [.ptr h.length [0] 1,.s (.int .i64 0)]∧gY h' h.length s F∧Fw [] h h'∧∀j∈F,h.length≤j
theorem VG (b:Nat) (h:Hp) (x z:Int) (f:Bool) (l:Bs) (hl:l.length≤100000) (hb:b≤h.length) (h1:1≤z) (h2:z≤8) (h3:0≤x) (h4:x < z):
 ∃v h',run fns pr b 73 [.s (.int .i64 x),.s (.int .i64 z),.al f none (l.map aa)] h=some (v,h')∧ofR h v h' (ofI x z l):=by
 obtain ⟨v1,H1,e1,r1⟩:=rA b h x z f l hl hb h1 h2 h3 h4
 refine Vm.dZ (nt:=27) rfl TU (by simp) ?_
 unfold ofI
 cases hr:uC x z l with
 | none=>
   rw[hr] at r1
   obtain ⟨rfl,f1⟩:=r1
   simp only[B73,e1,go_sem,↓reduceIte,Nat.reduceEqDiff,Nat.reduceBEq,Nat.reduceAdd,Nat.reduceSub,Nat.reduceLT,Nat.reduceLeDiff,Int.reduceLT,Int.reduceLE,Int.reduceEq,Int.reduceToNat]
   exact ⟨rfl,f1⟩
 | some s=>
   rw[hr] at r1
   obtain ⟨hk,F,rfl,hs,f1,hn⟩:=r1
   have m0:=fun b=> xz b H1 h.length s F hs hk
   have heq:=fun b f=> wY b H1 (.al false none ((ib s).map aa)) (.al f none (l.map aa)) (ib s) l (dj _ _ _) (dj _ _ _)
   simp only
   by_cases c:ib s=l
   ·rw[if_pos c]
    have cd:decide (ib s=l)=true:=decide_eq_true c
    simp only[B73,e1,m0,heq,cd,go_sem,↓reduceIte,Nat.reduceEqDiff,Nat.reduceBEq,Nat.reduceAdd,Nat.reduceSub,Nat.reduceLT,Nat.reduceLeDiff,Int.reduceLT,Int.reduceLE,Int.reduceEq,Int.reduceToNat]
    exact ⟨hk,F,rfl,hs,f1,hn⟩
   ·rw[if_neg c]
    have cd:decide (ib s=l)=false:=decide_eq_false c
    simp only[B73,e1,m0,heq,cd,go_sem,↓reduceIte,Nat.reduceEqDiff,Nat.reduceBEq,Nat.reduceAdd,Nat.reduceSub,Nat.reduceLT,Nat.reduceLeDiff,Int.reduceLT,Int.reduceLE,Int.reduceEq,Int.reduceToNat]
    exact ⟨rfl,f1⟩
theorem PC {m:Bs} (hm:m.length=8):jo m < 18446744073709551616:=by
 have:=rZ m 8 (by omega)
 rwa [List.take_of_length_le (by omega)] at this
theorem HW (s:Bs×Bool):∀n,∀v∈(rn n s).1,v.wf
 | 0=> by simp[rn]
 | n+1=> by
   have ih:=HW s n
   have hw:=m7 (rn n s).2
   intro v hv
   simp only[rn] at hv
   generalize rn n s=x at *
   rcases List.mem_append.1 hv with h | h
   ·exact ih v h
   ·simp only[List.mem_singleton] at h
    rw[h];exact hw
theorem ke :zeroV.wf:=by
 refine ⟨?_,?_,?_,?_,?_,?_,?_,?_,?_⟩<;> first | trivial | decide
theorem Le (s:Bs×Bool):(nA s).1.wf:=by
 unfold nA
 have b0:=fun l=> o3 l
 generalize aE 1 s=s1
 obtain ⟨k,s1⟩:=s1
 simp only
 have hk:=b0 k
 split
 ·have hw:=m7 s1
  generalize cB s1=x at *
  obtain ⟨v,x⟩:=x
  exact ⟨by simp,by simp,by simp,by simp,hw,by simp⟩
 ·split
  ·generalize aE 1 s1=s2
   obtain ⟨a,s2⟩:=s2
   simp only
   generalize aE 1 s2=s3
   obtain ⟨t,s3⟩:=s3
   simp only
   have hl:=q20z 8 s3
   generalize aE 8 s3=s4 at *
   obtain ⟨e,s4⟩:=s4
   simp only at hl ⊢
   have h1:=b0 a
   have h2:=b0 t
   have h3:=PC hl
   exact ⟨by simp,by simp only;omega,by simp only;omega,by simp only;omega,ke,by simp⟩
  ·split
   ·generalize aE 1 s1=s2
    obtain ⟨a,s2⟩:=s2
    simp only
    have hl:=q20z 8 s2
    generalize aE 8 s2=s3 at *
    obtain ⟨e,s3⟩:=s3
    simp only at hl ⊢
    generalize aE 1 s3=s4
    obtain ⟨n,s4⟩:=s4
    simp only
    have hv:=HW s4 (min (aG n) 5)
    have FC:=BG (min (aG n) 5) s4
    generalize rn (min (aG n) 5) s4=s5 at *
    obtain ⟨vs,s5⟩:=s5
    simp only at hv FC ⊢
    have h1:=b0 a
    have h3:=PC hl
    exact ⟨by simp,by simp only;omega,by simp,by simp only;omega,ke,by simp only;omega,hv⟩
   ·split
    ·generalize aE 1 s1=s2
     obtain ⟨a,s2⟩:=s2
     simp only
     have hl:=q20z 8 s2
     generalize aE 8 s2=s3 at *
     obtain ⟨e,s3⟩:=s3
     simp only at hl ⊢
     have h1:=b0 a
     have h3:=PC hl
     exact ⟨by simp,by simp only;omega,by simp,by simp only;omega,ke,by simp⟩
    ·exact ⟨by simp only;omega,by simp,by simp,by simp,ke,by simp⟩
theorem sq :jq.wf:=⟨by simp[jq],by simp[jq],by simp[jq],by simp[jq],ke,by simp[jq]⟩
theorem Dq (l:Bs):(mi l).1.wf:=by
 have hw:=Le (l,false)
 unfold mi
 generalize nA (l,false)=x at *
 split
 ·exact sq
 ·exact hw
theorem HX (k:Bs) (n:Nat) (prev l:Bs):(j8 k n prev l).1.wf:=by
 unfold j8
 split
 ·exact sq
 ·exact Dq _
theorem sv {k:Bs} {K:Dk} {base:Nat} {h:Bs}:∀ {n:Nat} {l:List aq} {h1:Bs},bN k K base h n=some (l,h1)→∀r∈l,r.wf
 | 0,l,h1,e=> by cases e;simp
 | n+1,l,h1,e=> by
   rw[bN] at e
   split at e
   ·cases e
   ·rename_i l2 h2 e2
    have ih:=sv e2
    have hw:=HX k (base+n+1) h2 ((K.get (2+(n:Nat))).getD [])
    generalize j8 k (base+n+1) h2 ((K.get (2+(n:Nat))).getD [])=x at *
    split at e
    ·cases e
    ·simp only[Option.some.injEq,Prod.mk.injEq] at e
     obtain ⟨rfl,rfl⟩:=e
     intro r hr
     rcases List.mem_append.1 hr with h | h
     ·exact ih r h
     ·simp only[List.mem_singleton] at h
      rw[h];exact hw
theorem HY (k:Bs) (K:Dk) (r:ae):∀x∈(ju k K r).2.1,x.wf:=by
 unfold ju
 split
 ·simp
 ·split
  ·simp
  ·split
   ·simp
   ·rename_i l h e
    have:=sv e
    split
    ·exact this
    ·simp
theorem Dr {k:Bs} {n:Nat} {ad b t:Bs} (h:nJ k n ad b=some t):t.length≤8192:=by
 unfold nJ at h
 split at h
 ·simp only at h
  split at h
  ·cases h
   rw[j4,List.length_take];omega
  ·cases h
 ·cases h
theorem Ds (k:Bs) (K:Dk) (r:ae):(iu k K r).1.length≤8192:=by
 unfold iu
 split
 ·simp
 ·split
  ·simp
  ·split
   ·exact Dr (by assumption)
   ·simp
theorem Dt (k:Bs) (K:Dk) (r:ae):(ju k K r).1.length≤8192:=by
 have hb:=Ds k K r
 unfold ju
 split
 ·simp
 ·split
  ·simp
  ·split
   ·simp
   ·split
    ·exact hb
    ·simp
theorem Du (k:Bs) (K:Dk) (r:ae) (hw:r.wf):(ju k K r).2.1.length≤8:=by
 have:=iR r hw
 unfold ju
 split
 ·simp
 ·split
  ·simp
  ·split
   ·simp
   ·rename_i l h e
    have:=my e
    split
    ·simp only;omega
    ·simp
def iT :bh→List aq→Option bh
 | s,[]=> some s
 | s,r::l=> if (bE s r).1≠0 then none else iT (bE s r).2 l
def aH.begin (D:aH):Option bh:=if 0 < D.r.base then ofI D.mem D.bb (ju D.key D.dk D.r).1 else some (bh.new D.mem D.bb)
def aH.load (D:aH):Option bh:=if (ju D.key D.dk D.r).2.2≠0 then none else match D.begin with
 | none=> none
 | some s=> iT s (ju D.key D.dk D.r).2.1
def VH (h:Hp) (v:V) (h':Hp):Option bh→Prop
 | none=> v= .bI [.s (.pointer none),.s (.bool false)]∧Fw [] h h'
 | some s=> j6 s∧∃sid F,v= .bI [.ptr sid [0] 1,.s (.bool true)]∧gY h' sid s F∧Fw [] h h'∧∀j∈F,h.length≤j
structure DM (D:aH):Prop where
 m1:1≤D.bb
 m2:D.bb≤8
 m3:0≤D.mem
 m4:D.mem < D.bb
theorem HZ (b:Nat) (h:Hp) (id:Nat) (D:aH) (F:List Nat) (hb:b≤h.length) (hd:kI h id D F) (hm:DM D) (hw:D.r.wf):
 ∃v h',run fns pr b 37 [.ptr id [0] 1] h=some (v,h')∧VH h v h' D.load:=by
 obtain ⟨did,sp,sid,Fs,hd⟩:=hd
 have hg:=hd.o
 have gh:=fun b=> Lc b h did D.key D.dk D.r hd.kl hw hd.d
 have uk:=Dt D.key D.dk D.r
 have hjw:=HY D.key D.dk D.r
 have hjc:=Du D.key D.dk D.r hw
 refine Vm.dZ (nt:=71) rfl SD (by simp) ?_
 unfold aH.load aH.begin
 simp only[ec] at hg
 generalize ju D.key D.dk D.r=J at *
 obtain ⟨im,L,why⟩:=J
 simp only[qE] at gh uk hjw hjc ⊢
 have hDr:D.r.enc=V.st 53 [.s (.int .u64 D.r.bq),.s (.int .u64 D.r.count),.s (.int .u64 D.r.base),.arr 25 (D.r.head.map aa),.s (.int .i64 D.r.aF)]:=rfl
 rw[hDr] at hg gh
 by_cases c0:why=0
 case neg=>
   rw[if_pos c0]
   simp only[B37,wO,wN,hg,gh,bG,c0,go_sem,↓reduceIte,Nat.reduceEqDiff,Nat.reduceBEq,Nat.reduceAdd,Nat.reduceSub,Nat.reduceLT,Nat.reduceLeDiff,Int.reduceLT,Int.reduceLE,Int.reduceEq,Int.reduceToNat]
   exact ⟨rfl,Fw.refl _ _⟩
 rw[if_neg (by simp[c0])]
 obtain ⟨v1,H1,e1,F1,rfl,s1,f1,n1⟩:=rr b h D.mem D.bb hb hm.m1 hm.m2 hm.m3 hm.m4
 have cI:=(hd.mono f1 (by simp)).o
 simp only[ec] at cI
 rw[hDr] at cI
 have il:∀cf base H,aB cf base H .len [.al false (some 41) (L.map aq.enc)]=some (.s (.int .i64 (L.length:Nat)),H):=fun cf base H=> by rw[oi];simp
 by_cases cb:0 < D.r.base
 ·rw[if_pos cb]
  obtain ⟨v2,H2,e2,r2⟩:=VG b H1 D.mem D.bb false im (by omega) (Nat.le_trans hb f1.len) hm.m1 hm.m2 hm.m3 hm.m4
  cases ho:ofI D.mem D.bb im with
  | none=>
    rw[ho] at r2
    obtain ⟨rfl,f2⟩:=r2
    simp only[B37,wO,wN,hg,gh,bG,c0,e1,cI,cb,e2,go_sem,↓reduceIte,Nat.reduceEqDiff,Nat.reduceBEq,Nat.reduceAdd,Nat.reduceSub,Nat.reduceLT,Nat.reduceLeDiff,Int.reduceLT,Int.reduceLE,Int.reduceEq,Int.reduceToNat]
    exact ⟨rfl,f1.trans f2⟩
  | some S0=>
    rw[ho] at r2
    obtain ⟨k0,F0,rfl,s0,f2,n2⟩:=r2
    simp only[B37,wO,wN,hg,gh,bG,c0,e1,cI,cb,e2,il,go_sem,↓reduceIte,Nat.reduceEqDiff,Nat.reduceBEq,Nat.reduceAdd,Nat.reduceSub,Nat.reduceLT,Nat.reduceLeDiff,Int.reduceLT,Int.reduceLE,Int.reduceEq,Int.reduceToNat]
    refine bj (fun q e H=>∃(i:Nat) (s:bh) (F':List Nat),q=L.length - i∧i≤L.length∧e 61= .s (.int .i64 (i:Nat))∧e 60= .s (.int .i64 (L.length:Nat))∧e 59= .al false (some 41) (L.map aq.enc)∧e 7= .ptr H1.length [0] 1∧iT S0 L=iT s (L.drop i)∧j6 s∧gY H H1.length s F'∧Fw [] h H∧∀j∈F',h.length≤j)
      (fun e H=>∃(s:bh) (F':List Nat),e 7= .ptr H1.length [0] 1∧iT S0 L=some s∧j6 s∧gY H H1.length s F'∧Fw [] h H∧∀j∈F',h.length≤j)
      L.length _ _ ⟨0,S0,F0,by omega,by omega,rfl,rfl,rfl,rfl,rfl,k0,s0,(f1.trans f2),(fun j hj=> Nat.le_trans f1.len (n2 j hj))⟩ ?_ ?_
    ·rintro q e H ⟨i,s,F',rfl,hi,e61,e60,e59,e7,pY,hk,hs,fw,hn⟩
     by_cases ci:i < L.length
     ·have ci':(i:Int)<((L.length:Nat):Int):=by omega
      have w1:IntKind.i64.wrap ((i:Int)+1)=((i+1:Nat):Int):=q18z (by omega)
      have hv:L[i]? =some L[i]:=List.getElem?_eq_getElem ci
      have hdr:L.drop i=L[i]::L.drop (i+1):=List.drop_eq_getElem_cons ci
      have pg:=hjw _ (List.getElem_mem ci)
      generalize L[i]=x at hv hdr pg
      rw[hdr] at pY
      have gN:SR H (.al false (some 41) (L.map aq.enc)) (some 41) (L.map aq.enc):= .inl ⟨false,rfl⟩
      have i1:=fun cf base=> gN.cY (cf:=cf) (base:=base) (k:= .i64) (i:=i) (by simpa using ci)
      have i2:=fun cf base=> gN.g8 (cf:=cf) (base:=base) (i:=i) (v:=x.enc) (by rw[List.getElem?_map,hv];rfl) rfl
      have fP:Fw [] H (H++[aW.cells (some 41) [x.enc]]):=Fw.app [] H _
      have hbH:b≤H.length:=Nat.le_trans hb fw.len
      have pa:∀y,(decide (b≤H.length) || y)=true:=fun y=> by rw[decide_eq_true hbH];rfl
      obtain ⟨v3,H3,e3,rfl,F3,s3,f3,n3⟩:=sf b _ H1.length s F' x (fun j hj=> Nat.le_trans hb (hn j hj)) (hs.mono fP (by simp)) hk pg pg.ai.2
      have k3:=mn hk pg pg.ai.2
      simp only[iT] at pY
      generalize bE s x=Z at *
      have fw3:Fw [] h H3:=(fw.trans fP).new f3 (fun j hj=> .inl (hn j hj))
      have Hz:∀j∈F3,h.length≤j:=fun j hj=>(n3 j hj).elim (hn j) fun h1=> by have:=fw.len;have:=fP.len;omega
      by_cases cz:Z.1=0
      ·rw[if_neg (by simp[cz])] at pY
       rw[cz] at e3
       simp only[e61,e60,e59,e7,ci',i1,i2,jJ,jK,pa,e3,w1,go_sem,↓reduceIte,Nat.reduceEqDiff,Nat.reduceBEq,Nat.reduceAdd,Nat.reduceSub,Nat.reduceLT,Nat.reduceLeDiff,Int.reduceLT,Int.reduceLE,Int.reduceEq,Int.reduceToNat]
       exact ⟨L.length - (i+1),by omega,i+1,_,F3,rfl,by omega,rfl,pY,k3,s3,fw3,Hz⟩
      ·rw[if_pos cz] at pY
       simp only[e61,e60,e59,e7,ci',i1,i2,jJ,jK,pa,e3,cz,pY,go_sem,↓reduceIte,Nat.reduceEqDiff,Nat.reduceBEq,Nat.reduceAdd,Nat.reduceSub,Nat.reduceLT,Nat.reduceLeDiff,Int.reduceLT,Int.reduceLE,Int.reduceEq,Int.reduceToNat]
       exact ⟨rfl,fw3⟩
     ·have ci':¬(i:Int)<((L.length:Nat):Int):=by omega
      obtain rfl:i=L.length:=by omega
      rw[List.drop_length] at pY
      simp only[e61,e60,e59,e7,ci',go_sem,↓reduceIte,Nat.reduceEqDiff,Nat.reduceBEq,Nat.reduceAdd,Nat.reduceSub,Nat.reduceLT,Nat.reduceLeDiff,Int.reduceLT,Int.reduceLE,Int.reduceEq,Int.reduceToNat]
      exact ⟨s,F',pY,hk,hs,fw,hn⟩
    ·rintro e H ⟨s,F',e7,pY,hk,hs,fw,hn⟩
     simp only[e7,pY,go_sem,↓reduceIte,Nat.reduceEqDiff,Nat.reduceBEq,Nat.reduceAdd,Nat.reduceSub,Nat.reduceLT,Nat.reduceLeDiff,Int.reduceLT,Int.reduceLE,Int.reduceEq,Int.reduceToNat]
     exact ⟨hk,_,F',rfl,hs,fw,hn⟩
 ·rw[if_neg cb]
  simp only[B37,wO,wN,hg,gh,bG,c0,e1,cI,cb,il,go_sem,↓reduceIte,Nat.reduceEqDiff,Nat.reduceBEq,Nat.reduceAdd,Nat.reduceSub,Nat.reduceLT,Nat.reduceLeDiff,Int.reduceLT,Int.reduceLE,Int.reduceEq,Int.reduceToNat]
  have k0:=j6.new hm.m1 hm.m2 hm.m3 hm.m4
  refine bj (fun q e H=>∃(i:Nat) (s:bh) (F':List Nat),q=L.length - i∧i≤L.length∧e 61= .s (.int .i64 (i:Nat))∧e 60= .s (.int .i64 (L.length:Nat))∧e 59= .al false (some 41) (L.map aq.enc)∧e 7= .ptr h.length [0] 1∧iT (bh.new D.mem D.bb) L=iT s (L.drop i)∧j6 s∧gY H h.length s F'∧Fw [] h H∧∀j∈F',h.length≤j)
    (fun e H=>∃(s:bh) (F':List Nat),e 7= .ptr h.length [0] 1∧iT (bh.new D.mem D.bb) L=some s∧j6 s∧gY H h.length s F'∧Fw [] h H∧∀j∈F',h.length≤j)
    L.length _ _ ⟨0,(bh.new D.mem D.bb),F1,by omega,by omega,rfl,rfl,rfl,rfl,rfl,k0,s1,f1,n1⟩ ?_ ?_
  ·rintro q e H ⟨i,s,F',rfl,hi,e61,e60,e59,e7,pY,hk,hs,fw,hn⟩
   by_cases ci:i < L.length
   ·have ci':(i:Int)<((L.length:Nat):Int):=by omega
    have w1:IntKind.i64.wrap ((i:Int)+1)=((i+1:Nat):Int):=q18z (by omega)
    have hv:L[i]? =some L[i]:=List.getElem?_eq_getElem ci
    have hdr:L.drop i=L[i]::L.drop (i+1):=List.drop_eq_getElem_cons ci
    have pg:=hjw _ (List.getElem_mem ci)
    generalize L[i]=x at hv hdr pg
    rw[hdr] at pY
    have gN:SR H (.al false (some 41) (L.map aq.enc)) (some 41) (L.map aq.enc):= .inl ⟨false,rfl⟩
    have i1:=fun cf base=> gN.cY (cf:=cf) (base:=base) (k:= .i64) (i:=i) (by simpa using ci)
    have i2:=fun cf base=> gN.g8 (cf:=cf) (base:=base) (i:=i) (v:=x.enc) (by rw[List.getElem?_map,hv];rfl) rfl
    have fP:Fw [] H (H++[aW.cells (some 41) [x.enc]]):=Fw.app [] H _
    have hbH:b≤H.length:=Nat.le_trans hb fw.len
    have pa:∀y,(decide (b≤H.length) || y)=true:=fun y=> by rw[decide_eq_true hbH];rfl
    obtain ⟨v3,H3,e3,rfl,F3,s3,f3,n3⟩:=sf b _ h.length s F' x (fun j hj=> Nat.le_trans hb (hn j hj)) (hs.mono fP (by simp)) hk pg pg.ai.2
    have k3:=mn hk pg pg.ai.2
    simp only[iT] at pY
    generalize bE s x=Z at *
    have fw3:Fw [] h H3:=(fw.trans fP).new f3 (fun j hj=> .inl (hn j hj))
    have Hz:∀j∈F3,h.length≤j:=fun j hj=>(n3 j hj).elim (hn j) fun h1=> by have:=fw.len;have:=fP.len;omega
    by_cases cz:Z.1=0
    ·rw[if_neg (by simp[cz])] at pY
     rw[cz] at e3
     simp only[e61,e60,e59,e7,ci',i1,i2,jJ,jK,pa,e3,w1,go_sem,↓reduceIte,Nat.reduceEqDiff,Nat.reduceBEq,Nat.reduceAdd,Nat.reduceSub,Nat.reduceLT,Nat.reduceLeDiff,Int.reduceLT,Int.reduceLE,Int.reduceEq,Int.reduceToNat]
     exact ⟨L.length - (i+1),by omega,i+1,_,F3,rfl,by omega,rfl,pY,k3,s3,fw3,Hz⟩
    ·rw[if_pos cz] at pY
     simp only[e61,e60,e59,e7,ci',i1,i2,jJ,jK,pa,e3,cz,pY,go_sem,↓reduceIte,Nat.reduceEqDiff,Nat.reduceBEq,Nat.reduceAdd,Nat.reduceSub,Nat.reduceLT,Nat.reduceLeDiff,Int.reduceLT,Int.reduceLE,Int.reduceEq,Int.reduceToNat]
     exact ⟨rfl,fw3⟩
   ·have ci':¬(i:Int)<((L.length:Nat):Int):=by omega
    obtain rfl:i=L.length:=by omega
    rw[List.drop_length] at pY
    simp only[e61,e60,e59,e7,ci',go_sem,↓reduceIte,Nat.reduceEqDiff,Nat.reduceBEq,Nat.reduceAdd,Nat.reduceSub,Nat.reduceLT,Nat.reduceLeDiff,Int.reduceLT,Int.reduceLE,Int.reduceEq,Int.reduceToNat]
    exact ⟨s,F',pY,hk,hs,fw,hn⟩
  ·rintro e H ⟨s,F',e7,pY,hk,hs,fw,hn⟩
   simp only[e7,pY,go_sem,↓reduceIte,Nat.reduceEqDiff,Nat.reduceBEq,Nat.reduceAdd,Nat.reduceSub,Nat.reduceLT,Nat.reduceLeDiff,Int.reduceLT,Int.reduceLE,Int.reduceEq,Int.reduceToNat]
   exact ⟨hk,_,F',rfl,hs,fw,hn⟩
theorem uw.KO {F Fs Fs':List Nat} {h:Hp} {id did sid sid':Nat} {D D':aH} {sp sp':V} (hd:uw h id D F did sp sid Fs) (h1:D'.dk=D.dk) (h2:D'.is=1→sp'= .ptr sid' [0] 1∧gY h sid' D'.st Fs') (h3:D'.key.length=16)
 (ty:sp'.ty=none) (so:sp'.ax=true) (n2:id∉Fs') (n3:did∉Fs') (fl:∀j∈Fs',j < h.length):
 uw (h.set id (.cells (some 71) (ec D' sp' did))) id D' (id::did::Fs') did sp' sid' Fs'∧Fw F h (h.set id (.cells (some 71) (ec D' sp' did))):=by
 have f:Fw [id] h (h.set id (.cells (some 71) (ec D' sp' did))):=Fw.set (by simp) hd.o
 obtain ⟨o,d,s,_,_,rfl,n1,_,_,fl0,kl⟩:=hd
 refine ⟨⟨q9z o,by rw[h1];exact d.mono f (by simp[Ne.symm n1]),fun hi=> ?_,ty,so,rfl,n1,n2,n3,fun j hj=> ?_,h3⟩,f.mono (by simp)⟩
 ·obtain ⟨c,e⟩:=h2 hi
  exact ⟨c,e.mono f (fun j hj=> by simp;rintro rfl;exact n2 hj)⟩
 ·simp only[List.mem_cons] at hj
  rcases hj with rfl | rfl | hj
  ·exact f.lt (fl0 _ (by simp))
  ·exact f.lt (fl0 _ (by simp))
  ·exact f.lt (fl j hj)
def aH.new (a b:Int) (k:Bs):aH:=⟨a,b,dn k [bt a],1,bh.new a b,Dk.new,gS,0, -1,0⟩
theorem H9 :gS.wf:=⟨by simp[gS],by simp[gS],by simp[gS],rfl,by simp[gS]⟩
theorem nF.new {a b:Int} (k:Bs) (h1:1≤b) (h2:b≤8) (h3:0≤a) (h4:a < b):nF 0 0 (aH.new a b k):=
 ⟨Nat.le_refl _,by simp[aH.new],by simp[aH.new],by simp[aH.new],by rfl,H9,fun _=> j6.new h1 h2 h3 h4,.inl rfl⟩
theorem Lf (b:Nat) (h:Hp) (x z:Int) (k:Bs) (hb:b≤h.length) (hk:k.length=16) (h1:1≤z) (h2:z≤8) (h3:0≤x) (h4:x < z):
 ∃v h',run fns pr b 20 [.s (.int .i64 x),.s (.int .i64 z),.arr 25 (k.map aa)] h=some (v,h')∧∃id F,v= .bI [.ptr id [0] 1,.s (.int .i64 0)]∧kI h' id (aH.new x z k) F∧Fw [] h h'∧∀j∈F,h.length≤j:=by
 refine Vm.dZ (nt:=23) rfl R3 (by simp) ?_
 have fV:(k.map aa).length=16:=by simp[hk]
 have fA:Fw [] h (h++[aW.cells (some 25) [.arr 25 (k.map aa)]]):=Fw.app [] h _
 have gA:(h++[aW.cells (some 25) [.arr 25 (k.map aa)]])[h.length]? =some (aW.cells (some 25) [.arr 25 (k.map aa)]):=aM _ _
 have lA:=fA.len
 generalize hHA:h++[aW.cells (some 25) [.arr 25 (k.map aa)]]=HA at *
 obtain ⟨v1,H1,e1,F1,rfl,s1,f1,n1⟩:=rr b HA x z (Nat.le_trans hb lA) h1 h2 h3 h4
 have g1:=f1.dO _ _ gA (by simp)
 have yY:=fun b=> K7 b H1 k x hk
 obtain ⟨v2,H2,e2,rfl,d2,f2⟩:=Af.sg b H1
 simp only[Af.R] at e2
 have s2:=s1.mono f2 (by simp)
 have tX:=f1.len
 have By:=f2.len
 simp only[B20,hHA,fV,e1,g1,yY,bG,e2,go_sem,↓reduceIte,Nat.reduceEqDiff,Nat.reduceBEq,Nat.reduceAdd,Nat.reduceSub,Nat.reduceLT,Nat.reduceLeDiff,Int.reduceLT,Int.reduceLE,Int.reduceEq,Int.reduceToNat]
 have f3:Fw [] H2 (H2++[aW.cells (some 71) (ec (aH.new x z k) (.ptr HA.length [0] 1) H1.length)]):=Fw.app [] H2 _
 have wL:=d2.lt
 have hF1:=s1.lt
 refine ⟨H2.length,H2.length::H1.length::F1,rfl,⟨H1.length,.ptr HA.length [0] 1,HA.length,F1,?_,d2.mono f3 (by simp),fun _=>⟨rfl,s2.mono f3 (by simp)⟩,rfl,rfl,rfl,by omega,fun hm=> ?_,fun hm=> ?_,fun j hj=> ?_,?_⟩,fA.trans (f1.trans (f2.trans f3)),fun j hj=> ?_⟩
 ·exact aM _ _
 ·have:=hF1 _ hm;omega
 ·have:=hF1 _ hm;omega
 ·simp only[List.mem_cons] at hj
  rcases hj with rfl | rfl | hj
  ·simp
  ·simp;omega
  ·have:=hF1 _ hj;simp;omega
 ·simp[aH.new,dn,bm]
 ·simp only[List.mem_cons] at hj
  rcases hj with rfl | rfl | hj
  ·omega
  ·omega
  ·have:=n1 _ hj;omega
def aH.ic (D:aH):aH:= {D with r:=(cq D.r).1}
def aH.up (D:aH) (s:bh):aH:= {D.ic with is:=1,st:=s}
def aH.start (D:aH):Int×aH:=
 if D.is=1 then (14,D) else if D.is=3 then (28,D) else if (cq D.r).2=false then (31,D)
 else match D.ic.load with
   | none=>(28, {D.ic with is:=3})
   | some s=> if aV (cq D.r).1=8 then (if (D.up s).fold.1=false then 29 else 0,(D.up s).fold.2) else (0,D.up s)
theorem q29z {r:ae} (hw:r.wf) (h:(cq r).2=true):(cq r).1=⟨r.bq+1,r.count,r.base,r.head,r.aF⟩∧bc (cq r).1=true∧(cq r).1.wf:=by
 unfold cq vG at h ⊢
 split at h
 ·rename_i c
  rw[if_pos c]
  have:=q11z c.1
  obtain ⟨w1,w2,w3,w4,w5⟩:=hw
  exact ⟨rfl,c.2,⟨by simp only;omega,w2,w3,w4,w5⟩⟩
 ·cases h
theorem xG (b:Nat) (h:Hp) (id:Nat) (D:aH) (F:List Nat) (hF:∀j∈F,b≤j) (hd:kI h id D F) (N:Int) (hN:N < 1000000000 - 20) (hk:nF 0 N D) (hm:DM D):
 ∃v h',run fns pr b 15 [.ptr id [0] 1] h=some (v,h')∧v= .s (.int .i64 D.start.1)∧∃F',kI h' id D.start.2 F'∧Fw F h h'∧∀j∈F',j∈F∨h.length≤j:=by
 have HN:=hd
 obtain ⟨did,sp,sid,Fs,hd⟩:=hd
 have hg:=hd.o
 have hid:=hd.fl id (by rw[hd.f];simp)
 have lW:b≤id:=hF _ (by rw[hd.f];simp)
 have hbh:b≤h.length:=by omega
 have hbo:=fun b H=> K4 b H D.r hk.gw
 refine Vm.dZ (nt:=54) rfl RR (by simp) ?_
 unfold aH.start
 simp only[ec] at hg
 by_cases i1:D.is=1
 ·rw[if_pos i1]
  simp only[B15,hg,i1,go_sem,↓reduceIte,Nat.reduceEqDiff,Nat.reduceBEq,Nat.reduceAdd,Nat.reduceSub,Nat.reduceLT,Nat.reduceLeDiff,Int.reduceLT,Int.reduceLE,Int.reduceEq,Int.reduceToNat]
  exact ⟨F,HN,Fw.refl _ _,fun j hj=> .inl hj⟩
 rw[if_neg i1]
 by_cases i3:D.is=3
 ·rw[if_pos i3]
  simp only[B15,hg,i1,i3,go_sem,↓reduceIte,Nat.reduceEqDiff,Nat.reduceBEq,Nat.reduceAdd,Nat.reduceSub,Nat.reduceLT,Nat.reduceLeDiff,Int.reduceLT,Int.reduceLE,Int.reduceEq,Int.reduceToNat]
  exact ⟨F,HN,Fw.refl _ _,fun j hj=> .inl hj⟩
 rw[if_neg i3]
 have pa:∀x,(decide (b≤h.length) || x)=true:=fun x=> by rw[decide_eq_true hbh];rfl
 cases c2:(cq D.r).2 with
 | false=>
   rw[if_pos rfl]
   rw[c2] at hbo
   simp only[B15,hg,i1,i3,ae.cG,ae.cH,hbo,pa,go_sem,↓reduceIte,Nat.reduceEqDiff,Nat.reduceBEq,Nat.reduceAdd,Nat.reduceSub,Nat.reduceLT,Nat.reduceLeDiff,Int.reduceLT,Int.reduceLE,Int.reduceEq,Int.reduceToNat]
   exact ⟨F,HN.app _,(Fw.app [] h _).mono (by simp),fun j hj=> .inl hj⟩
 | true=>
   rw[if_neg (by simp)]
   rw[c2] at hbo
   obtain ⟨hn1,hn2,Hz⟩:=q29z hk.gw c2
   have fB:Fw [] h (h++[aW.cells (some 53) [(cq D.r).1.enc]]):=Fw.app [] h _
   have pB:=hd.mono fB (by simp)
   have gB1:(h++[aW.cells (some 53) [(cq D.r).1.enc]])[h.length]? =some (aW.cells (some 53) [(cq D.r).1.enc]):=aM _ _
   have lB:=fB.len
   generalize hHB:h++[aW.cells (some 53) [(cq D.r).1.enc]]=HB at *
   obtain ⟨p1,f1⟩:=pB.Dn (D':=D.ic) rfl (fun h=>⟨h,rfl⟩) hd.kl
   have hgB:=pB.o
   have bW:=q6z hgB
   have iq:∀B,(HB.set id B)[id]? =some B:=fun B=> q9z hgB
   obtain ⟨v2,H2,e2,r2⟩:=HZ b _ id D.ic F (by rw[List.length_set];omega) ⟨_,_,_,_,p1⟩ ⟨hm.m1,hm.m2,hm.m3,hm.m4⟩ Hz
   have du:=hd.ty
   have jE:=hd.so
   cases hL:D.ic.load with
   | none=>
     rw[hL] at r2
     obtain ⟨rfl,f2⟩:=r2
     have p2:=p1.mono f2 (by simp)
     obtain ⟨p3,f3⟩:=p2.KO (D':= {D.ic with is:=3}) (sp':= .s (.pointer none)) (sid':=0) (Fs':=[]) rfl (fun h=> by cases h) hd.kl rfl rfl (by simp) (by simp) (by simp)
     have jf:=p2.o
     have Ao:∀B,(H2.set id B)[id]? =some B:=fun B=> q9z jf
     have Ag:=q6z jf
     simp only[ec] at hgB e2 jf p3 f3
     simp only[aH.ic] at e2 jf p3 f3 ⊢
     simp only[B15,hg,i1,i3,ae.cG,ae.cH,hbo,pa,hHB,gB1,hgB,iq,lW,bW,List.set_set,du,jE,e2,jf,Ao,Ag,go_sem,↓reduceIte,Nat.reduceEqDiff,Nat.reduceBEq,Nat.reduceAdd,Nat.reduceSub,Nat.reduceLT,Nat.reduceLeDiff,Int.reduceLT,Int.reduceLE,Int.reduceEq,Int.reduceToNat]
     refine ⟨_,⟨_,_,_,_,p3⟩,(fB.mono (by simp)).trans (f1.trans ((f2.mono (by simp)).trans f3)),fun j hj=> ?_⟩
     simp only[List.mem_cons,List.not_mem_nil,or_false] at hj
     left
     rw[hd.f]
     rcases hj with rfl | rfl <;> simp
   | some s=>
     rw[hL] at r2
     obtain ⟨k2,sid2,F2,rfl,s2,f2,n2⟩:=r2
     have p2:=p1.mono f2 (by simp)
     have YW:=hd.fl did (by rw[hd.f];simp)
     have n2':∀j∈F2,h.length≤j:=fun j hj=> by have:=n2 j hj;rw[List.length_set] at this;omega
     obtain ⟨p3,f3⟩:=p2.KO (D':=D.up s) (sp':= .ptr sid2 [0] 1) (sid':=sid2) (Fs':=F2) rfl (fun _=>⟨rfl,s2⟩) hd.kl rfl rfl (fun hm=> by have:=n2' _ hm;omega) (fun hm=> by have:=n2' _ hm;omega) s2.lt
     have k3:nF 0 N (D.up s):=⟨hk.dQ,hk.s0,hk.s1,hk.f1,hn2,Hz,fun _=> k2,.inl rfl⟩
     have Lg:∀j∈id::did::F2,j∈F∨h.length≤j:=fun j hj=> by
       simp only[List.mem_cons] at hj
       rw[hd.f]
       rcases hj with rfl | rfl | hj
       ·left;simp
       ·left;simp
       ·exact .inr (n2' _ hj)
     have hF3:∀j∈id::did::F2,b≤j:=fun j hj=>(Lg j hj).elim (hF j) fun h1=> by omega
     have fh3:=(fB.mono (T:=F) (by simp)).trans (f1.trans ((f2.mono (by simp)).trans f3))
     have FI:=fun b H=> ru b H (cq D.r).1 Hz
     have jf:=p2.o
     have Ao:∀B,(H2.set id B)[id]? =some B:=fun B=> q9z jf
     have Ag:=q6z jf
     have fo:=BX b _ id (D.up s) _ hF3 ⟨_,_,_,_,p3⟩ N (by omega) k3 rfl
     simp only[ec] at hgB e2 jf
     by_cases c8:aV (cq D.r).1=8
     ·simp only
      rw[if_pos c8]
      obtain ⟨v6,H6,e6,rfl,d6,f6⟩:=fo
      generalize (D.up s).fold=Z at *
      have fin:∃F',kI H6 id Z.2 F'∧Fw F h H6∧∀j∈F',j∈F∨h.length≤j:=⟨_,d6,fh3.new f6 (fun j hj=>(Lg j hj).symm),Lg⟩
      simp only[ec,aH.up,aH.ic] at e2 jf e6
      cases c9:Z.1 with
      | false=>
        rw[c9] at e6
        simp only[B15,hg,i1,i3,ae.cG,ae.cH,hbo,pa,hHB,gB1,hgB,iq,lW,bW,List.set_set,du,jE,e2,jf,Ao,Ag,FI,c8,e6,go_sem,↓reduceIte,Nat.reduceEqDiff,Nat.reduceBEq,Nat.reduceAdd,Nat.reduceSub,Nat.reduceLT,Nat.reduceLeDiff,Int.reduceLT,Int.reduceLE,Int.reduceEq,Int.reduceToNat]
        exact fin
      | true=>
        rw[c9] at e6
        simp only[B15,hg,i1,i3,ae.cG,ae.cH,hbo,pa,hHB,gB1,hgB,iq,lW,bW,List.set_set,du,jE,e2,jf,Ao,Ag,FI,c8,e6,go_sem,↓reduceIte,Nat.reduceEqDiff,Nat.reduceBEq,Nat.reduceAdd,Nat.reduceSub,Nat.reduceLT,Nat.reduceLeDiff,Int.reduceLT,Int.reduceLE,Int.reduceEq,Int.reduceToNat]
        exact fin
     ·simp only
      rw[if_neg c8]
      have fin:∃F',kI _ id (D.up s) F'∧Fw F h _∧∀j∈F',j∈F∨h.length≤j:=⟨_,⟨_,_,_,_,p3⟩,fh3,Lg⟩
      simp only[ec,aH.up,aH.ic] at e2 jf fin
      simp only[B15,hg,i1,i3,ae.cG,ae.cH,hbo,pa,hHB,gB1,hgB,iq,lW,bW,List.set_set,du,jE,e2,jf,Ao,Ag,FI,c8,go_sem,↓reduceIte,Nat.reduceEqDiff,Nat.reduceBEq,Nat.reduceAdd,Nat.reduceSub,Nat.reduceLT,Nat.reduceLeDiff,Int.reduceLT,Int.reduceLE,Int.reduceEq,Int.reduceToNat]
      exact fin
theorem Lh (b:Nat) (h:Hp) (id:Nat) (D:aH) (F:List Nat) (hb:b≤h.length) (hd:kI h id D F) (hk:D.is=1→j6 D.st):
 ∃v h',run fns pr b 11 [.ptr id [0] 1] h=some (v,h')∧(if D.is=1 then ∃F',v= .ptr h.length [0] 1∧gY h' h.length D.st F'∧Fw [] h h'∧∀j∈F',h.length≤j else v= .s (.pointer none)∧h'=h):=by
 obtain ⟨did,sp,sid,Fs,hd⟩:=hd
 have hg:=hd.o
 refine Vm.dZ (nt:=13) rfl RJ (by simp) ?_
 by_cases i1:D.is=1
 ·obtain ⟨rfl,hs⟩:=hd.s i1
  obtain ⟨v2,H2,e2,F2,rfl,s2,f2,n2⟩:=Hw b h sid D.st Fs hb hs (hk i1)
  simp only[ec] at hg
  simp only[i1,if_true]
  simp only[B11,hg,i1,e2,go_sem,↓reduceIte,Nat.reduceEqDiff,Nat.reduceBEq,Nat.reduceAdd,Nat.reduceSub,Nat.reduceLT,Nat.reduceLeDiff,Int.reduceLT,Int.reduceLE,Int.reduceEq,Int.reduceToNat]
  exact ⟨F2,s2,f2,n2⟩
 ·simp only[ec] at hg
  simp only[i1,if_false]
  simp only[B11,hg,i1,go_sem,↓reduceIte,Nat.reduceEqDiff,Nat.reduceBEq,Nat.reduceAdd,Nat.reduceSub,Nat.reduceLT,Nat.reduceLeDiff,Int.reduceLT,Int.reduceLE,Int.reduceEq,Int.reduceToNat]
theorem Li (a s:UInt8):s ^^^(s ^^^ a)=a:=by
 apply UInt8.toNat_inj.1
 simp[UInt8.toNat_xor,←Nat.xor_assoc]
theorem uD :∀(s l:Bs),l.length≤s.length→j3 s (j3 s l)=l
 | s,[],_=> by simp[j3]
 | [],a::l,h=> by simp at h
 | b::s,a::l,h=> by
   have:=uD s l (by simpa using h)
   simp only[j3,List.zipWith_cons_cons] at this ⊢
   rw[this,Li]
theorem Lj (k:Bs) (n:Nat) (l:Bs):oe k n (oe k n l)=l:=by
 have h:(j3 (kL k n l.length) l).length=l.length:=j4 k n l
 unfold oe
 rw[h]
 exact uD _ _ (by rw[jn];exact Nat.le_refl _)
theorem uE (k:Bs) (n:Nat) (ad l:Bs) (h1:l.length≤8184) (h2:ad.length≤8192):nJ k n ad (lG k n ad l)=some l:=by
 have hl:=pR k n ad l h1 h2
 have hh:=j4 k n l
 have hc:8≤(lG k n ad l).length∧(lG k n ad l).length≤8192∧ad.length≤8192:=⟨by omega,by omega,h2⟩
 unfold nJ
 rw[if_pos hc,hl,Nat.add_sub_cancel]
 have hs:lG k n ad l=oe k n l++mc k n ad l:=by unfold lG;rw[if_pos ⟨h1,h2⟩]
 rw[hs]
 have e1:(oe k n l++mc k n ad l).take l.length=oe k n l:=by rw[←hh];exact List.take_left
 have e2:(oe k n l++mc k n ad l).drop l.length=mc k n ad l:=by rw[←hh];exact List.drop_left
 simp only[e1,e2,Lj,if_true]
theorem Aq (k:Bs) (n:Nat) (prev:Bs) (r:aq) (hp:prev.length=16) (hw:r.wf) (hr:aS r=true):j8 k n prev (kV k n prev r).1=(r,0):=by
 have hl:=xC hr hw hw.ai.2
 unfold j8 kV
 rw[if_pos hr]
 simp only
 rw[uE k n prev (mg r) (by omega) (by omega)]
 exact HT r hw hw.ai.2 hr
def HD (mem bb:Int) (key:Bs) (K:Dk) (r:ae) (S:bh):Prop:=
 ∃im h0 L S0,iu key K r=(im,h0,0)∧bN key K r.base.toNat h0 (aV r).toNat=some (L,r.head)∧(if 0 < r.base then ofI mem bb im else some (bh.new mem bb))=some S0∧iT S0 L=some S
theorem HD.load {D:aH} {S:bh} (hg:bc D.r=true) (h:HD D.mem D.bb D.key D.dk D.r S):D.load=some S:=by
 obtain ⟨im,h0,L,S0,h1,h2,h3,h4⟩:=h
 have hj:ju D.key D.dk D.r=(im,L,0):=by
   unfold ju
   rw[if_neg (by simp[hg]),h1]
   simp only[ne_eq,not_true_eq_false,if_false,h2,if_true]
 unfold aH.load aH.begin
 rw[hj]
 simp only[ne_eq,not_true_eq_false,if_false]
 rw[h3]
 exact h4
def sw (K K':Dk) (r:ae):Prop:=(0 < r.base→K'.get r.aF=K.get r.aF)∧∀i:Nat,(i:Int)< aV r→K'.get (2+(i:Int))=K.get (2+(i:Int))
theorem qF {k:Bs} {K K':Dk} {base:Nat} {h:Bs}:∀(n:Nat),(∀i:Nat,i < n→K'.get (2+(i:Int))=K.get (2+(i:Int)))→bN k K' base h n=bN k K base h n
 | 0,_=> rfl
 | n+1,hs=> by
   rw[bN,bN,qF n (fun i hi=> hs i (by omega)),hs n (by omega)]
theorem HD.same {mem bb:Int} {key:Bs} {K K':Dk} {r:ae} {S:bh} (h:HD mem bb key K r S) (hb:0≤r.base) (hs:sw K K' r):HD mem bb key K' r S:=by
 obtain ⟨im,h0,L,S0,h1,h2,h3,h4⟩:=h
 refine ⟨im,h0,L,S0,?_,?_,h3,h4⟩
 ·rw[←h1]
  unfold iu
  by_cases c:r.base=0
  ·rw[if_pos c,if_pos c]
  ·rw[if_neg c,if_neg c,hs.1 (by omega)]
 ·rw[←h2]
  exact qF _ fun i hi=> hs.2 i (by omega)
theorem q19z {r:ae} (h:bc r=true):aV r=r.count - r.base:=by unfold aV;rw[if_pos h]
theorem HD.bq {mem bb:Int} {key:Bs} {K:Dk} {r:ae} {S:bh} (h:HD mem bb key K r S) (hw:r.wf) (hb:(cq r).2=true) (hr:bc r=true):HD mem bb key K (cq r).1 S:=by
 obtain ⟨e1,e2,_⟩:=q29z hw hb
 obtain ⟨im,h0,L,S0,h1,h2,h3,h4⟩:=h
 have hh:aV (cq r).1=aV r:=by rw[q19z e2,q19z hr,e1]
 refine ⟨im,h0,L,S0,?_,?_,?_,h4⟩
 ·rw[e1];exact h1
 ·rw[hh,e1];exact h2
 ·rw[e1];exact h3
theorem sx {S0 S:bh} {r:aq}:∀(L:List aq),iT S0 L=some S→(bE S r).1=0→iT S0 (L++[r])=some (bE S r).2
 | [],h,h0=> by
   cases h
   simp[iT,h0]
 | x::L,h,h0=> by
   simp only[iT,List.cons_append] at h ⊢
   split at h
   ·cases h
   ·rename_i c
    rw[if_neg c]
    revert h
    generalize (bE S0 x).2=S1
    intro h
    exact sx L h h0
theorem PD {s:bh} (hk:j6 s) {r:aq} (h:bK s r=0):(bE s r).1=0:=by
 have hr:=vF h
 unfold bE
 rw[if_neg (by simp[h])]
 by_cases k1:r.kind=1
 ·rw[if_pos k1]
  unfold bK at h
  rw[if_neg (by simp[hr]),if_pos k1] at h
  have jF:aQ r.av=true:=by unfold aS at hr;rw[if_pos k1] at hr;simp at hr;simp[hr]
  have ou:=Nf hk h
  simp only
  unfold o7
  rw[if_neg (by simp[jF])]
  by_cases c:((s.p (aI r.av.iD)).vs[pos (s.p (aI r.av.iD)).vs r.av.iD]?).map ag.iD=some r.av.iD
  ·rw[if_pos c]
  ·rw[if_neg c,if_neg]
   have:oo (s.p (aI r.av.iD)).vs r.av.iD=none:=by unfold oo;rw[if_neg c]
   have:=ou this
   omega
 ·rw[if_neg k1]
  split
  ·rfl
  ·split <;> rfl
theorem HD.next {mem bb:Int} {key:Bs} {K:Dk} {r:ae} {S:bh} {x:aq} {l:Bs} (h:HD mem bb key K r S) (hw:r.wf) (hx:x.wf) (hk:j6 S) (hc:bK S x=0)
 (hl:l=(kV key (r.count.toNat+1) r.head x).1) (hn:(ej r (dp r.head l)).2=true) (hg:K.get (2+aV r)=some l):HD mem bb key K (ej r (dp r.head l)).1 (bE S x).2:=by
 have hhl:(dp r.head l).length=16:=by simp[dp,dn,bm]
 obtain ⟨e1,e2,e3,_⟩:=q30z hw hhl hn
 have hr:=vF hc
 obtain ⟨im,h0,L,S0,h1,h2,h3,h4⟩:=h
 have Ah:=q11z e2
 have hh:(aV (ej r (dp r.head l)).1).toNat=(aV r).toNat+1:=by rw[q19z e3,q19z e2,e1];simp only;omega
 have hd2:(2+((aV r).toNat:Nat):Int)=2+aV r:=by rw[q19z e2];omega
 have hcn:r.base.toNat+(aV r).toNat+1=r.count.toNat+1:=by rw[q19z e2];have:=hw.base;omega
 refine ⟨im,h0,L++[x],S0,?_,?_,?_,sx L h4 (PD hk hc)⟩
 ·rw[e1];exact h1
 ·rw[hh,bN,e1]
  simp only[h2,hd2,hg,hcn,Option.getD_some,Option.isSome_some]
  rw[hl,Aq key _ r.head x hw.head hx hr]
  simp
 ·rw[e1];exact h3
theorem Ar (v:ag) (hw:v.wf) (hr:aQ v=true) (rest:Bs):bT (ba v++rest)=(v,((ba v).length:Int),0):=by
 have h:=sn v hw hr rest false
 unfold bT
 rw[h]
 simp only[Bool.false_eq_true,if_false]
 rw[List.length_append,Nat.add_sub_cancel]
theorem uF (l:List ag) (h:∀v∈l,aQ v=true∧v.wf) (rest:Bs):∀n,n≤l.length→dq n (l.flatMap ba++rest)=some (l.take n,(l.drop n).flatMap ba++rest)
 | 0,_=> rfl
 | n+1,hn=> by
   have ih:=uF l h rest n (by omega)
   have hd:l.drop n=l[n]::l.drop (n+1):=List.drop_eq_getElem_cons (by omega)
   obtain ⟨h1,h2⟩:=h _ (List.getElem_mem (show n < l.length by omega))
   rw[dq,ih,hd,List.flatMap_cons,List.append_assoc]
   have ht:=Ar l[n] h2 h1 ((l.drop (n+1)).flatMap ba++rest)
   simp only[ht,Int.toNat_natCast,List.drop_left,ne_eq,not_true_eq_false,if_false,List.take_succ_eq_append_getElem (show n < l.length by omega)]
theorem Lk {s:bh} {i:Nat} {q:kH} (h:POk s i q) (rest:Bs) (hs:s.bb≤8∧0≤s.mem):nN (mr q++rest)=some (q,rest):=by
 obtain ⟨role,aD,to,vs⟩:=q
 obtain ⟨a1,a2,a3,a4,a5,a6,a7,a8,a9⟩:=h
 simp only at a1 a2 a3 a4 a5 a6 a7 a8 a9
 have r1:(((bt role).toNat:Nat):Int)=role:=iS (by omega) (by omega)
 have r2:(((bt to).toNat:Nat):Int)=to:=iS (by rcases a1 with h | h | h <;> first | (have:=a5 (by omega);omega) | (have:=a4 h;omega)) (by rcases a1 with h | h | h <;> first | (have:=a5 (by omega);omega) | (have:=a4 h;omega))
 have r3:(bt (vs.length:Int)).toNat=vs.length:=by have:=iS (n:=(vs.length:Int)) (by omega) (by omega);omega
 have r4:((jo (bC aD.toNat):Nat):Int)=aD:=by rw[mw _ (by omega)];omega
 have hv:=uF vs (fun v hv=>⟨(a9 v hv).1,(a9 v hv).2.1⟩) rest vs.length (Nat.le_refl _)
 rw[List.take_length,List.drop_length,List.flatMap_nil,List.nil_append] at hv
 obtain ⟨n,hn⟩:∃n,bC aD.toNat=n:=⟨_,rfl⟩
 have lX:n.length=8:=by rw[←hn];exact bF _
 rw[hn] at r4
 match n,lX with
 | [n0,n1,n2,n3,n4,n5,n6,n7],_=>
   unfold nN mr
   simp only[hn,List.cons_append,List.nil_append,List.append_assoc]
   rw[if_neg (by simp)]
   simp only[List.getD_cons_zero,List.getD_cons_succ,List.drop_succ_cons,List.drop_zero,r3,hv,List.take_succ_cons,List.take_zero,r1,r2]
   rw[r4]
def mA (s:bh) (n:Nat):Bs:=(List.range (16 - n)).flatMap fun i=> mr (s.p (n+i))
theorem xH (s:bh):mA s 0=fJ s 16:=by simp[mA,fJ]
theorem xI (s:bh) (n:Nat) (h:n < 16):mA s n=mr (s.p n)++mA s (n+1):=by
 unfold mA
 rw[show 16 - n=(16 - (n+1))+1 by omega,List.range_succ_eq_map,List.flatMap_cons,List.flatMap_map]
 have hf:(fun i=> mr (s.p (n+(i+1))))=fun i=> mr (s.p (n+1+i)):=funext fun i=> by rw[show n+(i+1)=n+1+i by omega]
 simp only[Nat.add_zero,Nat.succ_eq_add_one]
 rw[hf]
theorem Dv (s t:bh) (n:Nat):(jH s t n).o8 n (s.p n)=jH s t (n+1):=by
 simp only[jH,bh.o8,bh.mk.injEq,true_and]
 funext j
 by_cases h:j=n
 ·subst h;simp
 ·simp only[h,if_false]
  by_cases h1:j < n
  ·simp[h1,show j < n+1 by omega]
  ·simp[h1,show ¬j < n+1 by omega]
theorem B0 {s:bh} (hk:j6 s):∀n,n≤16→j9 (jH s (bh.new s.mem s.bb) 0) (mA s 0) n=some (jH s (bh.new s.mem s.bb) n,mA s n)
 | 0,_=> rfl
 | n+1,hn=> by
   have ih:=B0 hk n (by omega)
   have ok:=hk.p n (by omega)
   have hp:=Lk ok (mA s (n+1)) ⟨hk.m2,hk.m3⟩
   have aP:nE (jH s (bh.new s.mem s.bb) n) n (s.p n)=(0,jH s (bh.new s.mem s.bb) (n+1)):=by
     unfold nE;rw[if_pos (ok.right (t:=jH s (bh.new s.mem s.bb) n) rfl rfl),Dv]
   rw[j9,ih,xI s n (by omega)]
   simp only[hp,aP,ne_eq,not_true_eq_false,if_false]
def beyond (s:bh):Prop:=∀j,16≤j→s.p j=(bh.new s.mem s.bb).p j
theorem VI {s:bh} (hk:j6 s) (hb:beyond s):ofI s.mem s.bb (ib s)=some s:=by
 have h1:=B0 hk 16 (Nat.le_refl _)
 have h0:jH s (bh.new s.mem s.bb) 0=bh.new s.mem s.bb:=by simp[jH,bh.new]
 have h16:jH s (bh.new s.mem s.bb) 16=s:=by
   obtain ⟨m,ms,p⟩:=s
   simp only[jH,bh.mk.injEq,true_and]
   funext j
   by_cases h:j < 16
   ·simp[h]
   ·simp only[h,if_false]
    exact (hb j (by omega)).symm
 rw[h0,h16,xH] at h1
 have hr:uC s.mem s.bb (ib s)=some s:=by
   unfold uC
   rw[if_neg (by simp[ib])]
   have:(ib s).drop 2=fJ s 16:=by simp[ib]
   rw[this,h1]
   rfl
 unfold ofI
 rw[hr]
 simp
theorem kW {s:bh} (hb:beyond s) {n:Nat} (hn:n < 16) (q:kH):beyond (s.o8 n q):=fun j hj=> by
 rw[Ac _ _ _ _ (by omega)]
 exact hb j hj
theorem vJ {s:bh} (hb:beyond s) {r:aq}:beyond (bE s r).2:=by
 unfold bE
 by_cases c0:bK s r=0
 case neg=> rw[if_pos c0];exact hb
 rw[if_neg (by simp[c0])]
 have hr:=vF c0
 by_cases k1:r.kind=1
 ·rw[if_pos k1];exact kW hb (kQ _) _
 ·rw[if_neg k1]
  have:=nb hr k1
  split
  ·exact kW hb (by omega) _
  ·split
   ·exact kW hb (by omega) _
   ·exact kW hb (by omega) _
theorem Ia {s:bh} (hk:j6 s):(ib s).length≤8184:=by
 have:=q39z hk 16 (Nat.le_refl _)
 simp only[ib,List.length_append,List.length_cons,List.length_nil];omega
theorem HD.fold {key:Bs} {K:Dk} {r:ae} {S:bh} {l:Bs} (hw:r.wf) (hr:bc r=true) (hc:r.base < r.count) (hk:j6 S) (hb:beyond S)
 (hl:l=(jI key r (ib S)).1) (hg:K.get (1 - r.aF)=some l):HD S.mem S.bb key K (gT r (cT l)).1 S∧(gT r (cT l)).2=true∧(gT r (cT l)).1=⟨r.bq,r.count,r.count,cT l,1 - r.aF⟩:=by
 have Ah:=q11z hr
 have him:=Ia hk
 have By:l=lG key r.count.toNat mq (ib S):=by rw[hl];unfold jI;rw[if_neg (by omega)]
 have mB:bc ⟨r.bq,r.count,r.count,cT l,1 - r.aF⟩=true:=by
   unfold bc
   simp only[Bool.and_eq_true,Bool.or_eq_true,decide_eq_true_eq]
   have:=hw.base
   exact ⟨⟨⟨⟨⟨by omega,by omega⟩,by omega⟩,by omega⟩,by omega⟩,.inl (by omega)⟩
 have hf:gT r (cT l)=(⟨r.bq,r.count,r.count,cT l,1 - r.aF⟩,true):=by
   unfold gT vG
   rw[if_neg (by omega),if_pos ⟨hr,mB⟩]
 rw[hf]
 refine ⟨⟨ib S,cT l,[],S,?_,?_,?_,rfl⟩,rfl,rfl⟩
 ·unfold iu
  simp only
  have:=hw.base
  rw[if_neg (by omega),hg,By]
  simp only[uE key r.count.toNat mq (ib S) him (by decide)]
 ·have hh:aV ⟨r.bq,r.count,r.count,cT l,1 - r.aF⟩=0:=by rw[q19z mB];simp
  rw[hh];rfl
 ·have:=hw.base
  rw[if_pos (by simp only;omega)]
  exact VI hk hb
theorem mC {D:aH} (h:D.step.1=false):D.step.2=D.down D.eB:=by
 unfold aH.step at h ⊢
 by_cases c:D.aO=0
 ·rw[if_pos c]
 ·rw[if_neg c] at h;cases h
theorem vK {D:aH} (h:D.step.1=true):D.step.2= {D with aO:=if 0 < D.aO then D.aO - 1 else D.aO,steps:=D.steps+1}:=by
 unfold aH.step at h ⊢
 by_cases c:D.aO=0
 ·rw[if_pos c] at h;cases h
 ·rw[if_neg c]
theorem vL {K:Dk} (hp:K.dQ=0) (t:Int):K.ir t= {K with now:=K.bA,bA:=K.bA,dQ:=0}:=by
 unfold Dk.ir Dk.eB
 rw[if_neg (by omega)]
theorem get_eq {K K':Dk} (h:K'.now=K.now) (i:Int):K'.get i=K.get i:=by unfold Dk.get;rw[h]
theorem B1 {K K':Dk} {n:Nat} {x:Option Bs} (h:K'.now=K.now.set n x) (i:Int) (hi:i≠n):K'.get i=K.get i:=by
 unfold Dk.get
 split
 ·rw[h,sh,if_neg (by omega)]
 ·rfl
theorem Ib {K K':Dk} {n:Nat} {x:Bs} (h:K'.now=K.now.set n (some x)) (hk:K.now.length=10) (hn:n < 10):K'.get (n:Int)=some x:=by
 unfold Dk.get
 rw[if_pos (by omega),h,sh,if_pos (by omega)]
structure LD (K K':Dk) (n:Int):Prop where
 nl:K'.now=K'.bA
 p0:K'.dQ=0
 ne:∀i:Int,i≠n→K'.get i=K.get i
 ok:K'.OK
theorem Ic {D:aH} (hp:D.dk.dQ=0) (lX:D.dk.now=D.dk.bA) (hk:D.dk.OK) (n:Int) (l:Bs):
 LD D.dk (D.lay n l).2.dk n∧((D.lay n l).1=true→Dk.js n l=true→(D.lay n l).2.dk.get n=some l):=by
 have hc0:LD D.dk (D.dk.ir D.eB) n:=by
   rw[vL hp]
   exact ⟨rfl,rfl,fun i _=> get_eq lX.symm i,⟨hk.bA,hk.bA,hk.at_,hk.ls,hk.ls,hk.last⟩⟩
 unfold aH.lay
 cases c1:D.step.1 with
 | false=>
   rw[if_pos rfl,mC c1]
   exact ⟨hc0,fun h=> by cases h⟩
 | true=>
   rw[if_neg (by simp),vK c1]
   generalize hD1:({D with aO:=if 0 < D.aO then D.aO - 1 else D.aO,steps:=D.steps+1}:aH)=D1
   have hdk:D1.dk=D.dk:=by rw[←hD1]
   have htn:D1.eB=D.eB:=by rw[←hD1]
   by_cases ct:Dk.js n l=true
   ·have ct':=ct
    simp only[Dk.js,Bool.and_eq_true,decide_eq_true_eq] at ct'
    obtain ⟨⟨t1,t2⟩,t3⟩:=ct'
    obtain ⟨m,rfl⟩:∃m:Nat,n=m:=⟨n.toNat,by omega⟩
    have fk:(D1.put m l).dk=D.dk.put m l:=by unfold aH.put;simp only[ct,if_true,hdk,Int.toNat_natCast]
    have gR:=Dk.HH hk (n:=m) (l:=l) (by omega) t3
    cases c3:(D1.put m l).step.1 with
    | false=>
      rw[if_pos rfl,mC c3]
      refine ⟨?_,fun h=> by cases h⟩
      have e:((D1.put m l).down (D1.put m l).eB).dk=(D.dk.put m l).ir (D1.put m l).eB:=by simp only[aH.down,fk]
      rw[e]
      refine ⟨rfl,rfl,fun i hi=> ?_,Dk.HJ gR _⟩
      by_cases ctn:0 <(D.dk.put m l).dQ∧0 <(D1.put m l).eB
      ·exact B1 (K:=D.dk) (n:=m) (x:=some (l.take (D1.put m l).eB.toNat)) (by simp only[Dk.ir,Dk.eB,ctn,and_self,if_true];simp only[Dk.put,lX]) i hi
      ·exact get_eq (by simp only[Dk.ir,Dk.eB,ctn,if_false];simp only[Dk.put,lX]) i
    | true=>
      rw[if_neg (by simp),vK c3]
      have e:(D1.put m l).dk.sync=(D.dk.put m l).sync:=by rw[fk]
      simp only[e]
      refine ⟨⟨rfl,rfl,fun i hi=> B1 (K:=D.dk) (n:=m) (x:=some l) (by simp only[Dk.sync,Dk.put]) i hi,Dk.vH gR⟩,fun _ _=> Ib (K:=D.dk) (by simp only[Dk.sync,Dk.put]) hk.now (by omega)⟩
   ·have fk:(D1.put n l).dk=D.dk:=by unfold aH.put;simp only[ct,Bool.false_eq_true,if_false,hdk]
    cases c3:(D1.put n l).step.1 with
    | false=>
      rw[if_pos rfl,mC c3]
      refine ⟨?_,fun h=> by cases h⟩
      have e:((D1.put n l).down (D1.put n l).eB).dk=D.dk.ir (D1.put n l).eB:=by simp only[aH.down,fk]
      rw[e,vL hp]
      exact ⟨rfl,rfl,fun i _=> get_eq lX.symm i,⟨hk.bA,hk.bA,hk.at_,hk.ls,hk.ls,hk.last⟩⟩
    | true=>
      rw[if_neg (by simp),vK c3]
      have e:(D1.put n l).dk.sync=D.dk.sync:=by rw[fk]
      simp only[e]
      exact ⟨⟨rfl,rfl,fun i _=> get_eq rfl i,Dk.vH hk⟩,fun _ h=> absurd h ct⟩
theorem B2 {D:aH} (hp:D.dk.dQ=0) (lX:D.dk.now=D.dk.bA) (hk:D.dk.OK):D.step.2.dk.now=D.step.2.dk.bA∧D.step.2.dk.dQ=0∧(∀i,D.step.2.dk.get i=D.dk.get i)∧D.step.2.dk.OK:=by
 cases c1:D.step.1 with
 | false=>
   rw[mC c1]
   simp only[aH.down,vL hp]
   exact ⟨trivial,trivial,fun i=> get_eq lX.symm i,⟨hk.bA,hk.bA,hk.at_,hk.ls,hk.ls,hk.last⟩⟩
 | true=>
   rw[vK c1]
   exact ⟨lX,hp,fun i=> rfl,hk⟩
structure HI0 (N:Int) (D:aH):Prop where
 ok:nF 0 N D
 dm:DM D
 dko:D.dk.OK
 nl:D.dk.now=D.dk.bA
 sm:D.st.mem=D.mem∧D.st.bb=D.bb
 sk:j6 D.st
 bey:beyond D.st
 hd:HD D.mem D.bb D.key D.dk D.r D.st
 is:D.is=1∨D.is=2
 cn:D.r.count≤N∧D.r.bq≤N
structure HI (N:Int) (D:aH):Prop extends HI0 N D where
 hl:D.is=1→aV D.r < 8
theorem HI.new {a b:Int} (k:Bs) (h1:1≤b) (h2:b≤8) (h3:0≤a) (h4:a < b):HI 0 (aH.new a b k):=by
 refine ⟨⟨nF.new k h1 h2 h3 h4,⟨h1,h2,h3,h4⟩,Dk.sg,rfl,⟨rfl,rfl⟩,j6.new h1 h2 h3 h4,fun j _=> rfl,⟨[],bO,[],bh.new a b,rfl,rfl,?_,rfl⟩,.inl rfl,show gS.count≤0∧gS.bq≤0 by decide⟩,fun _=> show aV gS < 8 by decide⟩
 rw[if_neg (show ¬0 <(aH.new a b k).r.base from (by decide:¬0 < gS.base))];rfl
theorem vM {r:ae} {hd:Bs} (hw:r.wf) (hr:bc r=true) (hl:aV r < 8) (hc:r.count < 1099511627776):(ej r hd).2=true:=by
 have:=q11z hr
 rw[q19z hr] at hl
 have mB:bc ⟨r.bq,r.count+1,r.base,hd,r.aF⟩=true:=by
   unfold bc
   simp only[Bool.and_eq_true,Bool.or_eq_true,decide_eq_true_eq]
   have:=hw.base
   exact ⟨⟨⟨⟨⟨by omega,by omega⟩,by omega⟩,by omega⟩,by omega⟩,.inl (by omega)⟩
 unfold ej vG
 rw[if_pos ⟨hr,mB⟩]
theorem As {r:ae} (hl:aV r < 8):aX r=2+aV r:=by unfold aX;rw[if_neg (by omega)]
theorem HI0.mk' {N M:Int} {D E:aH} (h:HI0 N D) (hs:D.same E) (hl:(E.dk.now=E.dk.bA∧E.dk.OK∧sw D.dk E.dk D.r)) (gR:nF 0 M E) (hN:N≤M) (hi:E.is=D.is∨E.is=2):HI0 M E:=by
 obtain ⟨m1,m2,m3,m4,m5⟩:=hs
 obtain ⟨l1,l2,l3⟩:=hl
 refine ⟨gR,⟨by rw[m2];exact h.dm.m1,by rw[m2];exact h.dm.m2,by rw[m1];exact h.dm.m3,by rw[m1,m2];exact h.dm.m4⟩,l2,l1,by rw[m1,m2,m4];exact h.sm,by rw[m4];exact h.sk,by rw[m4];exact h.bey,?_,?_,?_⟩
 ·rw[m1,m2,m3,m4,m5]
  exact h.hd.same h.ok.gw.base.1 l3
 ·rcases hi with hi | hi
  ·rw[hi];exact h.is
  ·exact .inr hi
 ·rw[m5];have:=h.cn;omega
theorem Nh {D:aH} {n:Int} {l:Bs} (h:(D.lay n l).1=false):(D.lay n l).2.is=2:=by
 unfold aH.lay at h ⊢
 cases c1:D.step.1 with
 | false=>
   rw[if_pos rfl,mC c1];rfl
 | true=>
   rw[c1,if_neg (by simp)] at h
   rw[if_neg (by simp)]
   cases c3:(D.step.2.put n l).step.1 with
   | false=> rw[if_pos rfl,mC c3];rfl
   | true=> rw[c3,if_neg (by simp)] at h;cases h
theorem aH.same.trans {A B C:aH} (h:A.same B) (k:B.same C):A.same C:=by
 obtain ⟨a1,a2,a3,a4,a5⟩:=h
 obtain ⟨b1,b2,b3,b4,b5⟩:=k
 exact ⟨b1.trans a1,b2.trans a2,b3.trans a3,b4.trans a4,b5.trans a5⟩
theorem uG {K K':Dk} {r:ae} {n:Int} (hl:LD K K' n) (h1:n≠r.aF) (h2:n < 2∨2+aV r≤n):sw K K' r:=
 ⟨fun _=> hl.ne _ (fun e=> h1 e.symm),fun i hi=> hl.ne _ (fun e=> by omega)⟩
theorem qG {A B C:Dk} {r:ae} (h:sw A B r) (hg:∀i,C.get i=B.get i):sw A C r:=
 ⟨fun hb=>(hg _).trans (h.1 hb),fun i hi=>(hg _).trans (h.2 i hi)⟩
theorem HI0.fold {N:Int} {D:aH} (h:HI0 N D) (hi:D.is=1) (h8:aV D.r=8):
 HI (N+3) D.fold.2∧D.fold.2.st=D.st∧D.fold.2.r.count=D.r.count∧D.fold.2.r.bq=D.r.bq∧(D.fold.1=true→D.fold.2.is=1)∧(D.fold.1=false→D.fold.2.is=2):=by
 have Ah:=q11z h.ok.gr
 have hp0:D.dk.dQ=0:=Nat.le_zero.1 h.ok.dQ
 obtain ⟨hL,hG⟩:=Ic hp0 h.nl h.dko (1 - D.r.aF) D.lY
 have ok1:=h.ok.lay (1 - D.r.aF) D.lY
 obtain ⟨s1,i1⟩:=aH.pc D (1 - D.r.aF) D.lY
 have sk1:sw D.dk (D.lay (1 - D.r.aF) D.lY).2.dk D.r:=uG hL (by omega) (.inl (by omega))
 have hil:D.lY.length≤8192:=sj _ _ _
 have eI:Dk.js (1 - D.r.aF) D.lY=true:=by
   simp only[Dk.js,Bool.and_eq_true,decide_eq_true_eq];omega
 have hf:=Nh (D:=D) (n:=1 - D.r.aF) (l:=D.lY)
 unfold aH.fold
 generalize (D.lay (1 - D.r.aF) D.lY)=L at *
 cases c1:L.1 with
 | false=>
   rw[if_pos rfl]
   obtain ⟨m1,m2,m3,m4,m5⟩:=s1
   have pP:=hf c1
   have h0:=h.mk' ⟨m1,m2,m3,m4,m5⟩ ⟨hL.nl,hL.ok,sk1⟩ (ok1.wk (p':=0) (N':=N+3) (by omega) (by omega)) (by omega) (.inr pP)
   exact ⟨⟨h0,fun h1=> by rw[show (false,L.2).2=L.2 from rfl,pP] at h1;cases h1⟩,m4,by rw[m5],by rw[m5],(fun h=> by cases h),fun _=> pP⟩
 | true=>
   rw[if_neg (by simp)]
   obtain ⟨t1,t2,t3,t4⟩:=B2 hL.p0 hL.nl hL.ok
   have ok2:=ok1.step
   obtain ⟨s2,i2⟩:=aH.iK L.2
   have sk2:=qG sk1 t3
   have s12:=s1.trans s2
   cases c2:L.2.step.1 with
   | false=>
     rw[if_pos rfl]
     have pP:L.2.step.2.is=2:=by rw[mC c2];rfl
     obtain ⟨m1,m2,m3,m4,m5⟩:=s12
     have h0:=h.mk' ⟨m1,m2,m3,m4,m5⟩ ⟨t1,t4,sk2⟩ (ok2.wk (p':=0) (N':=N+3) (by omega) (by omega)) (by omega) (.inr pP)
     exact ⟨⟨h0,fun h1=> by rw[show (false,L.2.step.2).2=L.2.step.2 from rfl,pP] at h1;cases h1⟩,m4,by rw[m5],by rw[m5],(fun h=> by cases h),fun _=> pP⟩
   | true=>
     rw[if_neg (by simp)]
     have is2:L.2.step.2.is=1:=by rw[i2 c2,i1 c1,hi]
     have zR:=(t3 (1 - D.r.aF)).trans (hG c1 eI)
     generalize L.2.step.2=E at *
     obtain ⟨m1,m2,m3,m4,m5⟩:=s12
     have hcb:D.r.base < D.r.count:=by rw[q19z h.ok.gr] at h8;omega
     obtain ⟨f1,f2,f3⟩:=HD.fold (key:=D.key) (K:=E.dk) h.ok.gw h.ok.gr hcb h.sk h.bey rfl zR
     have him:(jI D.key D.r (ib D.st)).1=D.lY:=rfl
     rw[him] at f1 f2 f3
     simp only[m5]
     have jf:bc (gT D.r (cT D.lY)).1=true:=by
       have:=f2
       unfold gT vG at this ⊢
       rw[if_neg (by omega)] at this ⊢
       split at this
       ·rename_i c;rw[if_pos c];exact c.2
       ·cases this
     have vw:(gT D.r (cT D.lY)).1.wf:=by
       rw[f3]
       obtain ⟨w1,w2,w3,w4,w5⟩:=h.ok.gw
       exact ⟨w1,w2,w2,bm _,by simp only;omega⟩
     have hh0:aV (gT D.r (cT D.lY)).1=0:=by rw[q19z jf,f3];simp
     refine ⟨⟨⟨⟨ok2.dQ,ok2.s0,by have:=ok2.s1;simp only;omega,ok2.f1,jf,vw,fun _=> by simp only[m4];exact h.sk,.inl is2⟩,⟨by simp only[m2];exact h.dm.m1,by simp only[m2];exact h.dm.m2,by simp only[m1];exact h.dm.m3,by simp only[m1,m2];exact h.dm.m4⟩,t4,t1,by simp only[m1,m2,m4];exact h.sm,by simp only[m4];exact h.sk,by simp only[m4];exact h.bey,?_,.inl is2,?_⟩,fun _=> by simp only;omega⟩,m4,by simp only[f3],by simp only[f3],fun _=> is2,(fun h=> by cases h)⟩
     ·simp only[m1,m2,m3,m4]
      have:=h.sm
      rw[this.1,this.2] at f1
      exact f1
     ·simp only[f3];have:=h.cn;omega
theorem HI.wk {N M:Int} {D:aH} (h:HI N D) (hm:N≤M):HI M D:=
 ⟨⟨h.ok.wk (Nat.le_refl _) hm,h.dm,h.dko,h.nl,h.sm,h.sk,h.bey,h.hd,h.is,by have:=h.cn;omega⟩,h.hl⟩
theorem Ie {D:aH} (h:D.is=1) {r:aq} (hc:bK D.st r≠0):D.do r=(bK D.st r,D):=by
 have:fK D=0:=by unfold fK;rw[if_neg (by omega),if_neg (by omega)]
 unfold aH.do
 rw[if_neg (by omega),if_pos hc]
def Kept (D E:aH) (e:Int) (r:aq):Prop:=
 (E.r=D.r∧E.st=D.st∧e=29∧E.is=2)∨(E.r.count=D.r.count+1∧E.r.bq=D.r.bq∧E.st=(bE D.st r).2∧(e=0∧E.is=1∨e=29∧E.is=2))
theorem HI.do {N:Int} {D:aH} (h:HI N D) (hN:N < 1000000000) {r:aq} (hw:r.wf) (hi:D.is=1) (hc:bK D.st r=0):HI (N+6) (D.do r).2∧Kept D (D.do r).2 (D.do r).1 r:=by
 have FH:fK D=0:=by unfold fK;rw[if_neg (by omega),if_neg (by omega)]
 have Ah:=q11z h.ok.gr
 have hp0:D.dk.dQ=0:=Nat.le_zero.1 h.ok.dQ
 have hh:=h.hl hi
 have hh0:=iR D.r h.ok.gw
 have rh:=As hh
 have hcn:=h.cn
 have gP:(D.next r).2=true:=vM h.ok.gw h.ok.gr hh (by omega)
 have hhl:(dp D.r.head (D.frame r)).length=16:=by simp[dp,dn,bm]
 obtain ⟨n1,n2,n3,n4⟩:=q30z (hd:=dp D.r.head (D.frame r)) h.ok.gw hhl gP
 obtain ⟨hL,hG⟩:=Ic hp0 h.nl h.dko (aX D.r) (D.frame r)
 have ok1:=h.ok.lay (aX D.r) (D.frame r)
 obtain ⟨s1,i1⟩:=aH.pc D (aX D.r) (D.frame r)
 have sk1:sw D.dk (D.lay (aX D.r) (D.frame r)).2.dk D.r:=uG hL (by omega) (.inr (by omega))
 have mb:=uB D hw hw.ai.2 h.ok.gw.head
 have eI:Dk.js (aX D.r) (D.frame r)=true:=by
   simp only[Dk.js,Bool.and_eq_true,decide_eq_true_eq];omega
 have hf:=Nh (D:=D) (n:=aX D.r) (l:=D.frame r)
 have hpd:D.xB r= {(D.lay (aX D.r) (D.frame r)).2.step.2 with r:=(D.next r).1,st:=(bE (D.lay (aX D.r) (D.frame r)).2.step.2.st r).2}:=rfl
 unfold aH.do
 rw[if_neg (by omega),if_neg (by omega),if_neg (by simp[gP]),hpd]
 generalize (D.lay (aX D.r) (D.frame r))=L at *
 cases c1:L.1 with
 | false=>
   rw[if_pos rfl]
   obtain ⟨m1,m2,m3,m4,m5⟩:=s1
   have pP:=hf c1
   have h0:=h.toHI0.mk' ⟨m1,m2,m3,m4,m5⟩ ⟨hL.nl,hL.ok,sk1⟩ (ok1.wk (p':=0) (N':=N+6) (by omega) (by omega)) (by omega) (.inr pP)
   exact ⟨⟨h0,fun h1=> by rw[show ((29:Int),L.2).2=L.2 from rfl,pP] at h1;cases h1⟩,.inl ⟨m5,m4,rfl,pP⟩⟩
 | true=>
   rw[if_neg (by simp)]
   obtain ⟨t1,t2,t3,t4⟩:=B2 hL.p0 hL.nl hL.ok
   have ok2:=ok1.step
   obtain ⟨s2,i2⟩:=aH.iK L.2
   have sk2:=qG sk1 t3
   have s12:=s1.trans s2
   cases c2:L.2.step.1 with
   | false=>
     rw[if_pos rfl]
     have pP:L.2.step.2.is=2:=by rw[mC c2];rfl
     obtain ⟨m1,m2,m3,m4,m5⟩:=s12
     have h0:=h.toHI0.mk' ⟨m1,m2,m3,m4,m5⟩ ⟨t1,t4,sk2⟩ (ok2.wk (p':=0) (N':=N+6) (by omega) (by omega)) (by omega) (.inr pP)
     exact ⟨⟨h0,fun h1=> by rw[show ((29:Int),L.2.step.2).2=L.2.step.2 from rfl,pP] at h1;cases h1⟩,.inl ⟨m5,m4,rfl,pP⟩⟩
   | true=>
     rw[if_neg (by simp)]
     have is2:L.2.step.2.is=1:=by rw[i2 c2,i1 c1,hi]
     have zR:=(t3 (aX D.r)).trans (hG c1 eI)
     rw[rh] at zR
     generalize L.2.step.2=E at *
     obtain ⟨m1,m2,m3,m4,m5⟩:=s12
     have f1:=HD.next (x:=r) (l:=D.frame r) (h.hd.same h.ok.gw.base.1 sk2) h.ok.gw hw h.sk hc rfl gP zR
     have cE:ej D.r (dp D.r.head (D.frame r))=D.next r:=rfl
     rw[cE] at n1 n3 n4 f1
     have hA:HI0 (N+3) {E with r:=(D.next r).1,st:=(bE E.st r).2}:=by
       refine ⟨⟨ok2.dQ,ok2.s0,by have:=ok2.s1;simp only;omega,ok2.f1,n3,n4,fun _=> by simp only[m4];exact mn h.sk hw hw.ai.2,.inl is2⟩,⟨by simp only[m2];exact h.dm.m1,by simp only[m2];exact h.dm.m2,by simp only[m1];exact h.dm.m3,by simp only[m1,m2];exact h.dm.m4⟩,t4,t1,?_,by simp only[m4];exact mn h.sk hw hw.ai.2,by simp only[m4];exact vJ h.bey,?_,.inl is2,?_⟩
       ·simp only[m1,m2,m4]
        have:=h.sm
        rw[←this.1,←this.2]
        unfold bE
        split
        ·exact ⟨rfl,rfl⟩
        ·split
         ·exact ⟨rfl,rfl⟩
         ·split
          ·exact ⟨rfl,rfl⟩
          ·split <;> exact ⟨rfl,rfl⟩
       ·simp only[m1,m2,m3,m4]
        exact f1
       ·simp only[n1];omega
     have cn:(D.next r).1.count=D.r.count+1:=by rw[n1]
     have bn:(D.next r).1.bq=D.r.bq:=by rw[n1]
     by_cases c8:aV (D.next r).1=8
     ·rw[if_pos c8]
      obtain ⟨g1,g2,g3,g4,g5,g6⟩:=hA.fold is2 c8
      generalize ({E with r:=(D.next r).1,st:=(bE E.st r).2}:aH).fold=Z at *
      refine ⟨g1.wk (by omega),.inr ⟨g3.trans cn,g4.trans bn,by rw[g2,m4],?_⟩⟩
      cases c9:Z.1 with
      | false=> exact .inr ⟨rfl,g6 c9⟩
      | true=> exact .inl ⟨rfl,g5 c9⟩
     ·rw[if_neg c8]
      have hn8:=iR (D.next r).1 n4
      exact ⟨HI.wk ⟨hA,fun _=> by simp only;omega⟩ (by omega),.inr ⟨cn,bn,by simp only[m4],.inl ⟨rfl,is2⟩⟩⟩
theorem Ll {r:ae} (hr:bc r=true) (hb:r.bq < 1099511627776):(cq r).2=true:=by
 have mB:bc ⟨r.bq+1,r.count,r.base,r.head,r.aF⟩=true:=by
   have:=q11z hr
   unfold bc at hr ⊢
   simp only[Bool.and_eq_true,Bool.or_eq_true,decide_eq_true_eq] at hr ⊢
   obtain ⟨⟨⟨⟨⟨h1,h2⟩,h3⟩,h4⟩,h5⟩,h6⟩:=hr
   exact ⟨⟨⟨⟨⟨by omega,h2⟩,h3⟩,h4⟩,h5⟩,h6⟩
 unfold cq vG
 rw[if_pos ⟨hr,mB⟩]
theorem HI.start {N:Int} {D:aH} (h:HI N D) (hN:N < 1000000000) (hi:D.is=2):HI (N+4) D.start.2∧D.start.2.st=D.st∧D.start.2.r.count=D.r.count∧D.start.2.r.bq=D.r.bq+1∧
 (D.start.1=0∧D.start.2.is=1∨D.start.1=29∧D.start.2.is=2)∧(aV D.r < 8→D.start=(0, {D.up D.st with r:=⟨D.r.bq+1,D.r.count,D.r.base,D.r.head,D.r.aF⟩})):=by
 have hcn:=h.cn
 have hb:=Ll h.ok.gr (by omega)
 obtain ⟨b1,b2,b3⟩:=q29z h.ok.gw hb
 have hd2:=h.hd.bq h.ok.gw hb h.ok.gr
 have GX:D.ic.load=some D.st:=HD.load (D:=D.ic) b2 hd2
 have FI:aV (cq D.r).1=aV D.r:=by rw[q19z b2,q19z h.ok.gr,b1]
 have hup:D.up D.st= {D.up D.st with r:=⟨D.r.bq+1,D.r.count,D.r.base,D.r.head,D.r.aF⟩}:=by
   rw[←b1];rfl
 have hU:HI0 (N+1) (D.up D.st):=
   ⟨⟨h.ok.dQ,h.ok.s0,by have:=h.ok.s1;show D.steps≤_;omega,h.ok.f1,b2,b3,fun _=> h.sk,.inl rfl⟩,⟨h.dm.m1,h.dm.m2,h.dm.m3,h.dm.m4⟩,h.dko,h.nl,h.sm,h.sk,h.bey,hd2,.inl rfl,by show (cq D.r).1.count≤_∧(cq D.r).1.bq≤_;rw[b1];simp only;omega⟩
 have fp:(D.up D.st).r.count=D.r.count:=by show (cq D.r).1.count=_;rw[b1]
 have hrb:(D.up D.st).r.bq=D.r.bq+1:=by show (cq D.r).1.bq=_;rw[b1]
 have aP:(D.up D.st).st=D.st:=rfl
 have hui:(D.up D.st).is=1:=rfl
 have hur:(D.up D.st).r=(cq D.r).1:=rfl
 unfold aH.start
 rw[if_neg (by omega),if_neg (by omega),if_neg (by simp[hb]),GX]
 simp only
 rw[←hup]
 generalize D.up D.st=U at *
 by_cases c8:aV (cq D.r).1=8
 ·rw[if_pos c8]
  obtain ⟨g1,g2,g3,g4,g5,g6⟩:=hU.fold hui (by rw[hur];exact c8)
  generalize U.fold=Z at *
  refine ⟨?_,g2.trans aP,g3.trans fp,g4.trans hrb,?_,fun hc=> by omega⟩
  ·exact g1.wk (by omega)
  ·cases c9:Z.1 with
   | false=> exact .inr ⟨rfl,g6 c9⟩
   | true=> exact .inl ⟨rfl,g5 c9⟩
 ·rw[if_neg c8]
  have h8:=iR (cq D.r).1 b3
  exact ⟨HI.wk ⟨hU,fun _=> by rw[hur];omega⟩ (by omega),aP,fp,hrb,.inl ⟨rfl,hui⟩,fun _=> rfl⟩
theorem kf {D:aH} (h:D.aO < 0):D.step=(true, {D with steps:=D.steps+1}):=by
 unfold aH.step
 rw[if_neg (by omega),if_neg (by omega)]
theorem sA {D:aH} (h:D.aO < 0) (n:Int) (l:Bs):D.lay n l=(true, {D with steps:=D.steps+1+1,dk:=(D.put n l).dk.sync}):=by
 have e:({D with steps:=D.steps+1}:aH).put n l= {D.put n l with steps:=D.steps+1}:=rfl
 have h2:({D.put n l with steps:=D.steps+1}:aH).aO < 0:=h
 unfold aH.lay
 rw[kf h]
 simp only[e,kf h2]
 simp only[Bool.true_eq_false,if_false]
 rfl
theorem Dw {D:aH} (h:D.aO < 0):D.fold=(true, {D with steps:=D.steps+1+1+1,dk:=(D.put (1 - D.r.aF) D.lY).dk.sync,r:=(gT D.r (cT D.lY)).1}):=by
 have h2:({D with steps:=D.steps+1+1,dk:=(D.put (1 - D.r.aF) D.lY).dk.sync}:aH).aO < 0:=h
 unfold aH.fold
 rw[sA h]
 simp only[kf h2,Bool.true_eq_false,if_false]
theorem Ca {N:Int} {D:aH} (h:HI N D) (hN:N < 1000000000) {r:aq} (hw:r.wf) (hi:D.is=1) (hc:bK D.st r=0) (hf:D.aO < 0):
 (D.do r).1=0∧(D.do r).2.is=1∧(D.do r).2.aO=D.aO∧(D.do r).2.steps=D.steps+(if aV D.r=7 then 6 else 3)∧aV (D.do r).2.r=(if aV D.r=7 then 0 else aV D.r+1):=by
 have FH:fK D=0:=by unfold fK;rw[if_neg (by omega),if_neg (by omega)]
 have hh:=h.hl hi
 have hcn:=h.cn
 have gP:(D.next r).2=true:=vM h.ok.gw h.ok.gr hh (by omega)
 have hhl:(dp D.r.head (D.frame r)).length=16:=by simp[dp,dn,bm]
 obtain ⟨n1,n2,n3,n4⟩:=q30z (hd:=dp D.r.head (D.frame r)) h.ok.gw hhl gP
 have cE:ej D.r (dp D.r.head (D.frame r))=D.next r:=rfl
 rw[cE] at n1 n3 n4
 have h2:({D with steps:=D.steps+1+1,dk:=(D.put (aX D.r) (D.frame r)).dk.sync}:aH).aO < 0:=hf
 have hp:D.xB r= {D with steps:=D.steps+1+1+1,dk:=(D.put (aX D.r) (D.frame r)).dk.sync,r:=(D.next r).1,st:=(bE D.st r).2}:=by
   unfold aH.xB
   rw[sA hf]
   simp only[kf h2]
 have Ni:aV (D.next r).1=aV D.r+1:=by rw[q19z n3,q19z h.ok.gr,n1];simp only;omega
 unfold aH.do
 rw[if_neg (by omega),if_neg (by omega),if_neg (by simp[gP]),sA hf]
 simp only[kf h2,Bool.true_eq_false,if_false,hp]
 by_cases c7:aV D.r=7
 ·rw[if_pos (by omega),if_pos c7,if_pos c7]
  have h3:({D with steps:=D.steps+1+1+1,dk:=(D.put (aX D.r) (D.frame r)).dk.sync,r:=(D.next r).1,st:=(bE D.st r).2}:aH).aO < 0:=hf
  rw[Dw h3]
  simp only[Bool.true_eq_false,if_false]
  refine ⟨trivial,hi,trivial,by omega,?_⟩
  have hcb:¬(D.next r).1.count≤(D.next r).1.base:=by rw[q19z n3] at Ni;omega
  have Ah:=q11z n3
  generalize hb:(cT (aH.lY {D with steps:=D.steps+1+1+1,dk:=(D.put (aX D.r) (D.frame r)).dk.sync,r:=(D.next r).1,st:=(bE D.st r).2}))=sm
  have mB:bc ⟨(D.next r).1.bq,(D.next r).1.count,(D.next r).1.count,sm,1 - (D.next r).1.aF⟩=true:=by
    unfold bc
    simp only[Bool.and_eq_true,Bool.or_eq_true,decide_eq_true_eq]
    have:=n4.base
    exact ⟨⟨⟨⟨⟨by omega,by omega⟩,by omega⟩,by omega⟩,by omega⟩,.inl (by omega)⟩
  have:(gT (D.next r).1 sm).1=⟨(D.next r).1.bq,(D.next r).1.count,(D.next r).1.count,sm,1 - (D.next r).1.aF⟩:=by
    unfold gT vG
    rw[if_neg hcb,if_pos ⟨n3,mB⟩]
  rw[this,q19z mB]
  simp only;omega
 ·rw[if_neg (by omega),if_neg c7,if_neg c7]
  exact ⟨rfl,hi,rfl,by simp only;omega,Ni⟩
theorem xJ {N:Int} {D:aH} (h:HI N D) (hN:N < 1000000000) {r:aq} (hi:D.is=1) (hc:bK D.st r=0) (h0:0≤D.aO) (h2:D.aO≤2):
 (D.do r).1=29∧(D.do r).2.is=2∧(D.do r).2.steps=D.steps+D.aO∧(D.do r).2.r=D.r∧(D.do r).2.st=D.st∧(D.do r).2.aO= -1:=by
 have FH:fK D=0:=by unfold fK;rw[if_neg (by omega),if_neg (by omega)]
 have hh:=h.hl hi
 have hcn:=h.cn
 have gP:(D.next r).2=true:=vM h.ok.gw h.ok.gr hh (by omega)
 unfold aH.do
 rw[if_neg (by omega),if_neg (by omega),if_neg (by simp[gP])]
 by_cases f0:D.aO=0
 ·have e1:D.step=(false,D.down D.eB):=by unfold aH.step;rw[if_pos f0]
  have e2:D.lay (aX D.r) (D.frame r)=(false,D.down D.eB):=by unfold aH.lay;rw[e1];simp
  rw[e2]
  simp only[if_true]
  exact ⟨trivial,rfl,by simp only[aH.down];omega,rfl,rfl,rfl⟩
 ·have e1:D.step=(true, {D with aO:=D.aO - 1,steps:=D.steps+1}):=by
    unfold aH.step
    rw[if_neg f0,if_pos (by omega)]
  by_cases f1:D.aO=1
  ·have e2:(({D with aO:=D.aO - 1,steps:=D.steps+1}:aH).put (aX D.r) (D.frame r)).step=(false,(({D with aO:=D.aO - 1,steps:=D.steps+1}:aH).put (aX D.r) (D.frame r)).down D.eB):=by
     unfold aH.step
     rw[if_pos (by show D.aO - 1=0;omega)]
     rfl
   have e3:D.lay (aX D.r) (D.frame r)=(false,(({D with aO:=D.aO - 1,steps:=D.steps+1}:aH).put (aX D.r) (D.frame r)).down D.eB):=by
     unfold aH.lay
     rw[e1]
     simp only[e2,Bool.true_eq_false,if_false,if_true]
   rw[e3]
   simp only[if_true]
   exact ⟨trivial,rfl,by simp only[aH.down,aH.put];omega,rfl,rfl,rfl⟩
  ·have f2:D.aO=2:=by omega
   have e2:(({D with aO:=D.aO - 1,steps:=D.steps+1}:aH).put (aX D.r) (D.frame r)).step=(true, {({D with aO:=D.aO - 1,steps:=D.steps+1}:aH).put (aX D.r) (D.frame r) with aO:=D.aO - 1 - 1,steps:=D.steps+1+1}):=by
     unfold aH.step
     rw[if_neg (by show ¬D.aO - 1=0;omega),if_pos (by show 0 < D.aO - 1;omega)]
     rfl
   have e3:D.lay (aX D.r) (D.frame r)=(true, {({D with aO:=D.aO - 1,steps:=D.steps+1}:aH).put (aX D.r) (D.frame r) with aO:=D.aO - 1 - 1,steps:=D.steps+1+1,dk:=(({D with aO:=D.aO - 1,steps:=D.steps+1}:aH).put (aX D.r) (D.frame r)).dk.sync}):=by
     unfold aH.lay
     rw[e1]
     simp only[e2,Bool.true_eq_false,if_false]
   rw[e3]
   simp only[Bool.true_eq_false,if_false]
   generalize hE:({({D with aO:=D.aO - 1,steps:=D.steps+1}:aH).put (aX D.r) (D.frame r) with aO:=D.aO - 1 - 1,steps:=D.steps+1+1,dk:=(({D with aO:=D.aO - 1,steps:=D.steps+1}:aH).put (aX D.r) (D.frame r)).dk.sync}:aH)=E
   have q1:E.aO=0:=by rw[←hE];simp only;omega
   have q2:E.steps=D.steps+2:=by rw[←hE];simp only;omega
   have q3:E.r=D.r∧E.st=D.st:=by rw[←hE];exact ⟨rfl,rfl⟩
   have e4:E.step=(false,E.down E.eB):=by unfold aH.step;rw[if_pos q1]
   rw[e4]
   simp only[if_true]
   exact ⟨trivial,rfl,by simp only[aH.down];omega,q3.1,q3.2,rfl⟩
def jL (s:bh):Prop:=∀j,j < 16→(s.p j).role=1
theorem Lm (k:Bs):jL (aH.new 0 1 k).st:=fun j _=> by simp[aH.new,bh.new,Int.emod_one]
theorem uH {s:bh} (h:jL s) {r:aq} (hr:aS r=true) (hk:r.kind=1):bK s r=0∨bK s r=13:=by
 have h1:=h _ (kQ r.av.iD)
 unfold bK ml
 rw[if_neg (by simp[hr]),if_pos hk,if_neg (by omega),if_neg (by omega)]
 split
 ·exact .inr rfl
 ·exact .inl rfl
theorem Dx {s:bh} (h:jL s) {r:aq} (hk:r.kind=1):jL (bE s r).2:=by
 unfold bE
 by_cases c0:bK s r≠0
 ·rw[if_pos c0];exact h
 ·rw[if_neg c0,if_pos hk]
  intro j hj
  by_cases c:j=aI r.av.iD
  ·subst c;rw[xv];exact h _ hj
  ·rw[Ac _ _ _ _ c];exact h j hj
def cN (v:ag):aq:=⟨1,0,0,0,v,[]⟩
theorem kX {v:ag} (h:aQ v=true):aS (cN v)=true:=by
 unfold aS cN
 simp[h]
theorem vN {v:ag} (h:v.wf):(cN v).wf:=⟨by simp[cN],by simp[cN],by simp[cN],by simp[cN],h,by simp[cN]⟩
theorem HI.aO {N:Int} {D:aH} (h:HI N D) (n t:Int) (hn:n≤9223372036854775807):HI N (D.dV n t):=by
 obtain ⟨⟨⟨a1,a2,a3,a4,a5,a6,a7,a8⟩,b,c,d,e,f,g,i,j,k⟩,l⟩:=h
 exact ⟨⟨⟨a1,a2,a3,by simp only[aH.dV];omega,a5,a6,a7,a8⟩,⟨b.m1,b.m2,b.m3,b.m4⟩,c,d,e,f,g,i,j,k⟩,l⟩
theorem HI.down {N:Int} {D:aH} (h:HI N D) (t:Int):HI N (D.down t):=by
 have hp0:D.dk.dQ=0:=Nat.le_zero.1 h.ok.dQ
 have hd:(D.down t).dk= {D.dk with now:=D.dk.bA,bA:=D.dk.bA,dQ:=0}:=by simp only[aH.down,vL hp0]
 have hk:=h.dko
 refine ⟨h.toHI0.mk' ⟨rfl,rfl,rfl,rfl,rfl⟩ ⟨by rw[hd],by rw[hd];exact ⟨hk.bA,hk.bA,hk.at_,hk.ls,hk.ls,hk.last⟩,⟨fun _=> by rw[hd];exact get_eq h.nl.symm _,fun i _=> by rw[hd];exact get_eq h.nl.symm _⟩⟩ (h.ok.down t) (Int.le_refl _) (.inr rfl),fun hi=> by cases hi⟩
theorem HI.stop {N:Int} {D:aH} (h:HI N D):HI N D.stop:=by
 unfold aH.stop
 split
 ·exact h.down 0
 ·exact h
structure Lw (h H:Hp) (id:Nat) (D:aH) (F:List Nat) (P:Nat→Prop):Prop where
 d:kI H id D F
 fw:Fw [] h H
 fn:∀j∈F,h.length≤j
 pn:∀j,P j→j∉F∧j < H.length
theorem Lw.op {h H H':Hp} {id:Nat} {D D':aH} {F F':List Nat} {P:Nat→Prop} (l:Lw h H id D F P) (hd:kI H' id D' F') (f:Fw F H H') (hn:∀j∈F',j∈F∨H.length≤j):
 Lw h H' id D' F' P∧∀j b,P j→H[j]? =some b→H'[j]? =some b:=by
 refine ⟨⟨hd,l.fw.new f (fun j hj=> .inl (l.fn j hj)),fun j hj=> ?_,fun j hj=> ?_⟩,fun j b hj hb=> f.dO _ _ hb (l.pn j hj).1⟩
 ·rcases hn j hj with h1 | h1
  ·exact l.fn j h1
  ·have:=l.fw.len;omega
 ·obtain ⟨p1,p2⟩:=l.pn j hj
  refine ⟨fun hm=> ?_,f.lt p2⟩
  rcases hn j hm with h1 | h1
  ·exact p1 h1
  ·omega
theorem Lw.ext {h H H':Hp} {id:Nat} {D:aH} {F:List Nat} {P Q:Nat→Prop} (l:Lw h H id D F P) (f:Fw [] H H') (hq:∀j,Q j→P j∨(H.length≤j∧j < H'.length)):Lw h H' id D F Q:=by
 refine ⟨l.d.mono f (by simp),l.fw.trans f,l.fn,fun j hj=> ?_⟩
 rcases hq j hj with h1 | h1
 ·obtain ⟨p1,p2⟩:=l.pn j h1
  exact ⟨p1,f.lt p2⟩
 ·exact ⟨fun hm=> by have:=l.d.lt j hm;omega,h1.2⟩
theorem Dy (v:ag) (hv:aQ v=true):bK (bh.new 0 1) (cN v)=0:=by
 unfold bK ml
 rw[if_neg (by simp[kX hv]),if_pos (show (cN v).kind=1 from rfl)]
 simp[cN,bh.new,Int.emod_one]
def dOf (n:Int):Bs:=[bt n,bt (pI .i64 n 8),3,0,0,0,0,0,0,0,0,0,0,0,0,0]
def Ig (n:Int):Bs:=[bt (within n 0 255),7,0,0]
theorem Nj (x:Int) (t:Nat):V.arr t [aa (bt x),aa (bt (pI .i64 x 8)),.s (.int .u8 3),.s (.int .u8 0),.s (.int .u8 0),.s (.int .u8 0),.s (.int .u8 0),.s (.int .u8 0),.s (.int .u8 0),.s (.int .u8 0),.s (.int .u8 0),.s (.int .u8 0),.s (.int .u8 0),.s (.int .u8 0),.s (.int .u8 0),.s (.int .u8 0)]= .arr t ((dOf x).map aa):=rfl
theorem Ih (x:Int) (t:Nat):V.arr t [aa (bt (within x 0 255)),.s (.int .u8 7),.s (.int .u8 0),.s (.int .u8 0)]= .arr t ((Ig x).map aa):=rfl
theorem Yk (b:Nat) (h:Hp) (n:Int):run fns pr b 22 [.s (.int .i64 n)] h=some (.arr 25 ((dOf n).map aa),h):=by
 refine Vm.aT (nt:=9) rfl R8 (by simp) ?_
 have hs:=fun cf base h=> oS (cf:=cf) (base:=base) (h:=h) .i64 .u64 n 8 (by decide)
 have dh:=fun cf base h=> oS (cf:=cf) (base:=base) (h:=h) .i64 .i64 n 8 (by decide)
 have au:(0:Nat)=0:=rfl
 try simp only[B22,hs,dh,oh,Nj,go_sem,↓reduceIte,Nat.reduceEqDiff,Nat.reduceBEq,Nat.reduceAdd,Nat.reduceSub,Nat.reduceLT,Nat.reduceLeDiff,Int.reduceLT,Int.reduceLE,Int.reduceEq,Int.reduceToNat]
 repeat' (
   first | refine q5z ?_ ?_ | refine q3z ?_ ?_ | refine q4z ?_ ?_
   all_goals intro aj
   all_goals first | replace aj:=q2z aj | replace aj:=q1z aj | skip
   all_goals first | subst aj | replace au:=And.intro aj au
   all_goals try simp only[au,B22,hs,dh,oh,Nj,go_sem,↓reduceIte,Nat.reduceEqDiff,Nat.reduceBEq,Nat.reduceAdd,Nat.reduceSub,Nat.reduceLT,Nat.reduceLeDiff,Int.reduceLT,Int.reduceLE,Int.reduceEq,Int.reduceToNat])
theorem VJ (b:Nat) (h:Hp) (n:Int) (h0: -9223372036854775808≤n) (h1:n≤9223372036854775807):run fns pr b 8 [.s (.int .i64 n)] h=some (.arr 27 ((Ig n).map aa),h):=by
 refine Vm.aT (nt:=7) rfl XX (by simp) ?_
 have hw:=fun h'=> mZ h.length h' n 0 255 (by omega) (by omega) (by omega) h0 h1
 have au:(0:Nat)=0:=rfl
 try simp only[B8,hw,oh,Ih,go_sem,↓reduceIte,Nat.reduceEqDiff,Nat.reduceBEq,Nat.reduceAdd,Nat.reduceSub,Nat.reduceLT,Nat.reduceLeDiff,Int.reduceLT,Int.reduceLE,Int.reduceEq,Int.reduceToNat]
 repeat' (
   first | refine q5z ?_ ?_ | refine q3z ?_ ?_ | refine q4z ?_ ?_
   all_goals intro aj
   all_goals first | replace aj:=q2z aj | replace aj:=q1z aj | skip
   all_goals first | subst aj | replace au:=And.intro aj au
   all_goals try simp only[au,B8,hw,oh,Ih,go_sem,↓reduceIte,Nat.reduceEqDiff,Nat.reduceBEq,Nat.reduceAdd,Nat.reduceSub,Nat.reduceLT,Nat.reduceLeDiff,Int.reduceLT,Int.reduceLE,Int.reduceEq,Int.reduceToNat])
theorem Ln (b:Nat) (h:Hp) (f:Bool) (l:Bs) (n:Nat):run fns pr b 23 [.al f none (l.map aa),.s (.int .i64 n)] h=some (.al false none ((l.take n).map aa),h):=by
 refine Vm.aT (nt:=13) rfl Sa (by simp) ?_
 by_cases c:n < l.length
 ·have c':(n:Int)< l.length:=by omega
  obtain ⟨y,h1,h2⟩:=(dj h f l).hi (k:= .i64) (r:=n) (by omega)
  have:y= .al (f && n==l.length) none ((l.take n).map aa):=by
    have:=h1 (run fns pr 0) 0
    simp only[aB,fZ,fq,aL,cM,dw,List.length_map] at this
    simp[show n≤l.length by omega,←List.map_take] at this
    exact this.symm
  subst this
  simp only[B23,go_sem,↓reduceIte,Nat.reduceEqDiff,Nat.reduceBEq,Nat.reduceAdd,Nat.reduceSub,Nat.reduceLT,Nat.reduceLeDiff,Int.reduceLT,Int.reduceLE,Int.reduceEq,Int.reduceToNat,c',h1]
 ·have c':¬(n:Int)< l.length:=by omega
  have:l.take n=l:=List.take_of_length_le (by omega)
  simp only[B23,go_sem,↓reduceIte,Nat.reduceEqDiff,Nat.reduceBEq,Nat.reduceAdd,Nat.reduceSub,Nat.reduceLT,Nat.reduceLeDiff,Int.reduceLT,Int.reduceLE,Int.reduceEq,Int.reduceToNat,c',this]
theorem PE (b:Nat) (h:Hp) (f:Bool) (l:Bs) (n:Int) (hn:0≤n):run fns pr b 23 [.al f none (l.map aa),.s (.int .i64 n)] h=some (.al false none ((l.take n.toNat).map aa),h):=by
 have:=Ln b h f l n.toNat
 rw[Int.toNat_of_nonneg hn] at this;exact this
def qH (x:KV) (id:Bs):ag:=
 if x.nq.tmod 4=3 then ⟨id,1+x.gen.tmod 1099511627776,bO,[],0,0,bO,true,decide ((x.nq.tdiv 4).tmod 2=1)⟩
 else ⟨id,1+x.gen.tmod 1099511627776,dOf x.q9,x.bY.take 64,within x.bX 1 32,within x.used 0 (within x.bX 1 32 - 1),dOf x.owner,false,false⟩
theorem Dz (b:Nat) (h:Hp) (x:KV) (id:Bs) (hx:x.wf):run fns pr b 7 [x.enc,.arr 27 (id.map aa)] h=some ((qH x id).enc,h):=by
 refine Vm.aT (nt:=46) rfl XV (by simp) ?_
 obtain ⟨w0,w1,w2,w3,w4,w5,w6,w7⟩:=hx
 have g4:=iF (n:=x.bX) (lo:=1) (hi:=32) (by omega)
 have g5:=iG (n:=x.bX) (lo:=1) (hi:=32) (by omega)
 have e1:=fun h'=> mZ h.length h' x.bX 1 32 (by omega) (by omega) (by omega) w3.1 w3.2
 have e2:=fun h'=> mZ h.length h' x.used 0 (within x.bX 1 32 - 1) (by omega) (by omega) (by omega) w4.1 w4.2
 have e7:=fun h' n=> Yk h.length h' n
 have e8:=fun h' f=> PE h.length h' f x.bY 64 (by omega)
 have r1:=fun cf base h x=> lC (cf:=cf) (base:=base) (h:=h) .i64 x 4 (by decide)
 have r2:=fun cf base h x=> lC (cf:=cf) (base:=base) (h:=h) .i64 x 2 (by decide)
 have r4:=fun cf base h x=> lC (cf:=cf) (base:=base) (h:=h) .u64 x 1099511627776 (by decide)
 have r5:=fun cf base h x=> xd (cf:=cf) (base:=base) (h:=h) .i64 x 4 (by decide)
 have h3:=Int.tmod_nonneg 1099511627776 w6.1
 have h4:=Int.tmod_lt_of_pos x.gen (show (0:Int)< 1099511627776 by decide)
 have lV:IntKind.u64.wrap (1+x.gen.tmod 1099511627776)=1+x.gen.tmod 1099511627776:=wrap_u64 (by omega) (by omega)
 have vw:IntKind.i64.wrap (within x.bX 1 32 - 1)=within x.bX 1 32 - 1:=wrap_i64 (by omega) (by omega)
 have hw3:IntKind.i64.wrap (x.nq.tdiv 4)=x.nq.tdiv 4:=by
   have: -9223372036854775808≤x.nq.tdiv 4∧x.nq.tdiv 4 < 9223372036854775808:=by
     rcases Int.le_total 0 x.nq with h0 | h0
     ·rw[Int.tdiv_eq_ediv_of_nonneg h0];omega
     ·have e:x.nq.tdiv 4= -((-x.nq).tdiv 4):=by rw[Int.neg_tdiv];simp
      rw[e,Int.tdiv_eq_ediv_of_nonneg (by omega)];omega
   exact wrap_i64 this.1 this.2
 simp only[show Int.toNat 64=64 from rfl] at e8
 have hlen:(x.bY.take 64).length≤140737488355328:=by simp;omega
 generalize hs:x.bY.take 64=l at e8 hlen
 unfold qH
 rw[hs]
 by_cases hh:x.nq.tmod 4=3
 ·rw[if_pos hh]
  have au:(0:Nat)=0:=rfl
  try simp only[B7,KV.enc,ag.enc,r1,r2,r4,r5,lV,hw3,hh,iB,ef,go_sem,↓reduceIte,Nat.reduceEqDiff,Nat.reduceBEq,Nat.reduceAdd,Nat.reduceSub,Nat.reduceLT,Nat.reduceLeDiff,Int.reduceLT,Int.reduceLE,Int.reduceEq,Int.reduceToNat]
  repeat' (
    first | refine q5z ?_ ?_ | refine q3z ?_ ?_ | refine q4z ?_ ?_
    all_goals intro aj
    all_goals first | replace aj:=q2z aj | replace aj:=q1z aj | skip
    all_goals first | subst aj | replace au:=And.intro aj au
    all_goals try simp only[au,B7,KV.enc,ag.enc,r1,r2,r4,r5,lV,hw3,hh,iB,ef,go_sem,↓reduceIte,Nat.reduceEqDiff,Nat.reduceBEq,Nat.reduceAdd,Nat.reduceSub,Nat.reduceLT,Nat.reduceLeDiff,Int.reduceLT,Int.reduceLE,Int.reduceEq,Int.reduceToNat])
 ·rw[if_neg hh]
  by_cases cE:l=[]
  ·subst cE
   simp only[List.map_nil] at e8
   have au:(0:Nat)=0:=rfl
   try simp only[B7,KV.enc,ag.enc,e1,e2,e7,e8,r1,r4,lV,vw,hh,iB,ef,List.map_nil,go_sem,↓reduceIte,Nat.reduceEqDiff,Nat.reduceBEq,Nat.reduceAdd,Nat.reduceSub,Nat.reduceLT,Nat.reduceLeDiff,Int.reduceLT,Int.reduceLE,Int.reduceEq,Int.reduceToNat]
   repeat' (
     first | refine q5z ?_ ?_ | refine q3z ?_ ?_ | refine q4z ?_ ?_
     all_goals intro aj
     all_goals first | replace aj:=q2z aj | replace aj:=q1z aj | skip
     all_goals first | subst aj | replace au:=And.intro aj au
     all_goals try simp only[au,B7,KV.enc,ag.enc,e1,e2,e7,e8,r1,r4,lV,vw,hh,iB,ef,List.map_nil,go_sem,↓reduceIte,Nat.reduceEqDiff,Nat.reduceBEq,Nat.reduceAdd,Nat.reduceSub,Nat.reduceLT,Nat.reduceLeDiff,Int.reduceLT,Int.reduceLE,Int.reduceEq,Int.reduceToNat])
  ·have ha:=fun cf base h f=> DA (cf:=cf) (base:=base) (h:=h) (f:=f) cE hlen
   have au:(0:Nat)=0:=rfl
   try simp only[B7,KV.enc,ag.enc,e1,e2,e7,e8,r1,r4,lV,vw,hh,ha,iB,ef,go_sem,↓reduceIte,Nat.reduceEqDiff,Nat.reduceBEq,Nat.reduceAdd,Nat.reduceSub,Nat.reduceLT,Nat.reduceLeDiff,Int.reduceLT,Int.reduceLE,Int.reduceEq,Int.reduceToNat]
   repeat' (
     first | refine q5z ?_ ?_ | refine q3z ?_ ?_ | refine q4z ?_ ?_
     all_goals intro aj
     all_goals first | replace aj:=q2z aj | replace aj:=q1z aj | skip
     all_goals first | subst aj | replace au:=And.intro aj au
     all_goals try simp only[au,B7,KV.enc,ag.enc,e1,e2,e7,e8,r1,r4,lV,vw,hh,ha,iB,ef,go_sem,↓reduceIte,Nat.reduceEqDiff,Nat.reduceBEq,Nat.reduceAdd,Nat.reduceSub,Nat.reduceLT,Nat.reduceLeDiff,Int.reduceLT,Int.reduceLE,Int.reduceEq,Int.reduceToNat])
theorem q34z (x:KV) (id:Bs) (hx:x.wf):aQ (qH x id)=true:=by
 have h3:=Int.tmod_nonneg 1099511627776 hx.gen.1
 have h4:=Int.tmod_lt_of_pos x.gen (show (0:Int)< 1099511627776 by decide)
 have g4:=iF (n:=x.bX) (lo:=1) (hi:=32) (by omega)
 have g5:=iG (n:=x.bX) (lo:=1) (hi:=32) (by omega)
 have g6:=iF (n:=x.used) (lo:=0) (hi:=within x.bX 1 32 - 1) (by omega)
 have g7:=iG (n:=x.used) (lo:=0) (hi:=within x.bX 1 32 - 1) (by omega)
 unfold qH
 split
 ·simp[aQ];omega
 ·simp[aQ];omega
def Za (n c:Nat):List V:=List.replicate c (.s (.int .u8 0))++((bC n).drop c).map aa
theorem DB (b:Nat) (h:Hp) (x:V) (k l:Bs) (hk:k.length=16) (hr:Rd h x l) (hl:l.length≤900000):run fns pr b 80 [.arr 25 (k.map aa),x] h=some (.arr 25 ((dn k l).map aa),h):=by
 refine Vm.aT (nt:=11) rfl T9 (by simp) ?_
 have fV:(k.map aa).length=16:=by simp[hk]
 generalize hGd:h++[aW.cells (some 25) [V.arr 25 (k.map aa)],aW.cells (some 25) [bz 25]]=G
 have hG:G.length=h.length+2:=by rw[←hGd];simp
 have fG:Fw [] h G:=by rw[←hGd];exact Fw.app [] h _
 have g0:G[h.length]? =some (.cells (some 25) [.arr 25 (k.map aa)]):=by rw[←hGd];exact (xb h _ _).1
 have g1:G[h.length+1]? =some (.cells (some 25) [bz 25]):=by rw[←hGd];exact (xb h _ _).2
 have hsk:source G (.ref h.length [0] none 0 16 1)=some (none,k.map aa):=by
   have:elems G (.ref h.length [0] none 0 16 1)=some (none,k.map aa):=by
     simp only[dS,go_sem,↓reduceIte,Nat.reduceEqDiff,Nat.reduceBEq,Nat.reduceAdd,Nat.reduceSub,Nat.reduceLT,Nat.reduceLeDiff,Int.reduceLT,Int.reduceLE,Int.reduceEq,Int.reduceToNat,List.append_assoc,List.length_append,Vm.aK,Vm.ca,Vm.bw,Vm.bo,Vm.bJ,Vm.bp,Nat.le_refl,Nat.le_add_right,g0,fD,List.drop_zero,List.take_of_length_le (Nat.le_of_eq fV)]
   exact this
 obtain ⟨v,H,je,hN⟩:=(kK.nil G).app hsk (by simp;omega)
 obtain ⟨w,H2,xe,hN2⟩:=hN.app ((hr.fw (fG.trans hN.fw)).source) (by simp;omega)
 rw[List.nil_append] at hN2
 have CT:=fun b=> KM b H2 w (k++l) (BR.rd hN2.br) (by simp;omega)
 have g2:H2[h.length+1]? =some (.cells (some 25) [bz 25]):=hN2.fw.dO _ _ g1 (by simp)
 have zN:((dn k l).map aa).length=16:=by simp[oZ]
 have tk:∀b,(H2.set (h.length+1) b).take h.length=h:=fun b=> by
   rw[List.take_set_of_le (by omega)];exact (fG.trans hN2.fw).take
 simp only[B80,xK,fV,hGd,g0,je,xe,CT,g2,tk,q9z g2,show cT (k++l)=dn k l from rfl,zN,pO,go_sem,↓reduceIte,Nat.reduceEqDiff,Nat.reduceBEq,Nat.reduceAdd,Nat.reduceSub,Nat.reduceLT,Nat.reduceLeDiff,Int.reduceLT,Int.reduceLE,Int.reduceEq,Int.reduceToNat]
def xL (q:kH) (x:V):V:= .st 135 [.s (.int .i64 q.role),.s (.int .u64 q.aD),.s (.int .i64 q.to),x]
def iU (p:Nat→kH) (xs:Nat→V):List V:=(List.range 16).map fun i=> xL (p i) (xs i)
theorem nc (p:Nat→kH) (xs:Nat→V):(iU p xs).length=16:=by simp[iU]
theorem p8 (p:Nat→kH) (xs:Nat→V) (i:Nat) (h:i < 16):(iU p xs)[i]? =some (xL (p i) (xs i)):=by simp[iU,h]
theorem DC (p:Nat→kH) (xs:Nat→V) (i:Nat) (q:kH) (x:V):(iU p xs).set i (xL q x)=iU (fun j=> if j=i then q else p j) (fun j=> if j=i then x else xs j):=by
 apply List.ext_getElem?
 intro j
 rw[List.getElem?_set,nc]
 by_cases hj:j < 16
 ·rw[p8 _ _ _ hj,p8 _ _ _ hj]
  by_cases tF:i=j
  ·subst tF;simp[hj]
  ·simp[tF,Ne.symm tF]
 ·rw[List.getElem?_eq_none (by rw[nc];omega),List.getElem?_eq_none (by rw[nc];omega)]
  simp;omega
def DD (s:bh) (xs:Nat→V):List V:=[.st 138 [.s (.int .i64 s.mem),.s (.int .i64 s.bb),.arr 137 (iU s.p xs)]]
def RST (h:Hp) (m:Nat) (s:bh):Prop:=∃xs:Nat→V,h[m]? =some (.cells (some 138) (DD s xs))∧∀i,i < 16→SR h (xs i) (some 31) ((s.p i).vs.map ag.enc)
theorem RST.lt {h:Hp} {m:Nat} {s:bh} (hs:RST h m s):m < h.length:=by
 obtain ⟨xs,h1,_⟩:=hs
 exact q6z h1
theorem DE (b:Nat) (h:Hp) (x z:Int) (hb:b≤h.length) (h1:1≤z) (h2:z≤8) (h3:0≤x) (h4:x < z):∃v h',run fns pr b 47 [.s (.int .i64 x),.s (.int .i64 z)] h=some (v,h')∧v= .ptr h.length [0] 1∧RST h' h.length (bh.new x z)∧Fw [] h h':=by
 refine Vm.dZ (nt:=48) rfl SZ (by simp) ?_
 have q1:¬z < 1:=by omega
 have q2:¬8 < z:=by omega
 have q3:¬x < 0:=by omega
 have q4:¬z≤x:=by omega
 simp only[B47,MZ,MY,q1,q2,q3,q4,go_sem,↓reduceIte,Nat.reduceEqDiff,Nat.reduceBEq,Nat.reduceAdd,Nat.reduceSub,Nat.reduceLT,Nat.reduceLeDiff,Int.reduceLT,Int.reduceLE,Int.reduceEq,Int.reduceToNat]
 let X:Nat→V:=fun _=> .al true (some 31) []
 let P:Nat→Nat→kH:=fun i j=> if j < i then (bh.new x z).p j else ⟨0,0,0,[]⟩
 refine bj (fun q e H=>∃i:Nat,q=16 - i∧i≤16∧e 6= .s (.int .i64 (i:Nat))∧e 5= .ptr h.length [0] 1∧e 0= .s (.int .i64 x)∧e 1= .s (.int .i64 z)∧H=h++[.cells (some 138) (DD ⟨x,z,P i⟩ X)])
   (fun e H=> e 5= .ptr h.length [0] 1∧H=h++[.cells (some 138) (DD ⟨x,z,P 16⟩ X)]) 16 _ _ ⟨0,rfl,by omega,rfl,rfl,rfl,rfl,rfl⟩ ?_ ?_
 ·rintro q e H ⟨i,rfl,hi,e6,e5,e0,e1,rfl⟩
  by_cases c:i < 16
  ·have c':(i:Int)< 16:=by omega
   have i0:(0:Int)≤(i:Int):=by omega
   have c16:(i:Int)<((16:Nat):Int):=by omega
   have wr:IntKind.i64.wrap ((i:Int)+1)=((i+1:Nat):Int):=q18z (by omega)
   have hq:=fun cf base h=> lC cf base h .i64 (i:Int) z (by omega)
   have hm:(i:Int).tmod z=(i:Int) % z:=Int.tmod_eq_emod_of_nonneg i0
   have hPl:=nc (P i) X
   have hPn:(iU (P i) X)[i]? =some (.st 135 [.s (.int .i64 0),.s (.int .u64 0),.s (.int .i64 0),.al true (some 31) []]):=by
     rw[p8 _ _ _ c]
     simp[P,X,xL]
   have hPs:∀y,((iU (P i) X).set i y)[i]? =some y:=fun y=> by rw[List.getElem?_set_self (by rw[hPl];exact c)]
   have gP:∀k,(k=if (i:Int) % z=x then 1 else 0)→(iU (P i) X).set i (.st 135 [.s (.int .i64 k),.s (.int .u64 1),.s (.int .i64 0),.al true (some 31) []])=iU (P (i+1)) X:=fun k hk=> by
     have:=DC (P i) X i ⟨k,1,0,[]⟩ (.al true (some 31) [])
     simp only[xL] at this
     rw[this]
     unfold iU
     apply List.map_congr_left
     intro j _
     simp only[P,X]
     by_cases hj:j=i
     ·subst hj;simp[bh.new,hk]
     ·simp only[hj,if_false]
      by_cases h5:j < i
      ·simp[h5,show j < i+1 by omega]
      ·simp[h5,show ¬j < i+1 by omega]
   have gr0:decide (b≤h.length)=true:=by simpa using hb
   by_cases cf:(i:Int) % z=x
   ·have hn:=gP 1 (by rw[if_pos cf])
    simp only[e6,e5,e0,e1,c',c16,i0,wr,hq,hm,cf,DD,hPl,hPn,hPs,c,hb,gr0,List.set_set,hn,go_sem,↓reduceIte,Nat.reduceEqDiff,Nat.reduceBEq,Nat.reduceAdd,Nat.reduceSub,Nat.reduceLT,Nat.reduceLeDiff,Int.reduceLT,Int.reduceLE,Int.reduceEq,Int.reduceToNat]
    exact ⟨16 - (i+1),by omega,i+1,rfl,by omega,rfl,rfl⟩
   ·have hn:=gP 0 (by rw[if_neg cf])
    simp only[e6,e5,e0,e1,c',c16,i0,wr,hq,hm,cf,DD,hPl,hPn,hPs,c,hb,gr0,List.set_set,hn,go_sem,↓reduceIte,Nat.reduceEqDiff,Nat.reduceBEq,Nat.reduceAdd,Nat.reduceSub,Nat.reduceLT,Nat.reduceLeDiff,Int.reduceLT,Int.reduceLE,Int.reduceEq,Int.reduceToNat]
    exact ⟨16 - (i+1),by omega,i+1,rfl,by omega,rfl,rfl⟩
  ·have c':¬(i:Int)< 16:=by omega
   obtain rfl:i=16:=by omega
   simp only[e6,e5,e0,e1,c',go_sem,↓reduceIte,Nat.reduceEqDiff,Nat.reduceBEq,Nat.reduceAdd,Nat.reduceSub,Nat.reduceLT,Nat.reduceLeDiff,Int.reduceLT,Int.reduceLE,Int.reduceEq,Int.reduceToNat]
 ·rintro e H ⟨e5,rfl⟩
  simp only[e5,go_sem,↓reduceIte,Nat.reduceEqDiff,Nat.reduceBEq,Nat.reduceAdd,Nat.reduceSub,Nat.reduceLT,Nat.reduceLeDiff,Int.reduceLT,Int.reduceLE,Int.reduceEq,Int.reduceToNat]
  refine ⟨⟨X,?_,fun i hi=> ?_⟩,Fw.app _ _ _⟩
  ·rw[aM]
   have:iU (P 16) X=iU (bh.new x z).p X:=by
     unfold iU
     apply List.map_congr_left
     intro j hj
     simp[P,List.mem_range.1 hj]
   simp only[DD,this]
   rfl
  ·exact .inl ⟨true,by simp[X,bh.new]⟩
def Sl7 (h:Hp) (v:V) (s:Option Bs):Prop:=∃x,v= .st 140 [.s (.bool s.isSome),x]∧BR h x (s.getD [])
def Ii (h:Hp) (vs:List V) (ss:List (Option Bs)):Prop:=vs.length=ss.length∧∀(i:Nat) v s,vs[i]? =some v→ss[i]? =some s→Sl7 h v s
theorem Sl7.mono {S:List Nat} {h h':Hp} {v:V} {s:Option Bs} (hs:Sl7 h v s) (f:Fw S h h'):Sl7 h' v s:=by
 obtain ⟨x,h1,h2⟩:=hs;exact ⟨x,h1,h2.mono f⟩
theorem Ii.mono {S:List Nat} {h h':Hp} {v:List V} {s:List (Option Bs)} (hs:Ii h v s) (f:Fw S h h'):Ii h' v s:=
 ⟨hs.1,fun i v s h1 h2=>(hs.2 i v s h1 h2).mono f⟩
def R7 (h:Hp) (id:Nat) (K:Dk):Prop:=∃nv ov x last n,h[id]? =some (.cells (some 143) [.st 143 [.arr 142 nv,.arr 142 ov,.s (.int .i64 last),x,.s (.int .i64 n)]])∧
 Ii h nv K.now∧Ii h ov K.bA∧(K.dQ=0→last= -1)∧(0 < K.dQ→last=K.at_∧BR h x K.last)∧x.ty=none∧x.ax=true∧K.OK
theorem R7.mono {S:List Nat} {h h':Hp} {id:Nat} {K:Dk} (hd:R7 h id K) (f:Fw S h h') (hi:id∉S):R7 h' id K:=by
 obtain ⟨nv,ov,x,last,n,h1,h2,h3,h4,h5,h6,h7,h8⟩:=hd
 exact ⟨nv,ov,x,last,n,f.dO _ _ h1 hi,h2.mono f,h3.mono f,h4,fun hp=>⟨(h5 hp).1,(h5 hp).2.mono f⟩,h6,h7,h8⟩
theorem R7.lt {h:Hp} {id:Nat} {K:Dk} (hd:R7 h id K):id < h.length:=by
 obtain ⟨nv,ov,x,last,n,h1,_⟩:=hd;exact q6z h1
def Z7 :V:= .st 140 [.s (.bool false),.al true none []]
theorem Ij (b:Nat) (h:Hp):∃v h',run fns pr b 49 [] h=some (v,h')∧v= .ptr h.length [0] 1∧R7 h' h.length Dk.new∧Fw [] h h':=by
 refine Vm.dZ (nt:=3) rfl S5 (by simp) ?_
 simp only[B49,go_sem,↓reduceIte,Nat.reduceEqDiff,Nat.reduceBEq,Nat.reduceAdd,Nat.reduceSub,Nat.reduceLT,Nat.reduceLeDiff,Int.reduceLT,Int.reduceLE,Int.reduceEq,Int.reduceToNat]
 refine ⟨⟨List.replicate 10 Z7,List.replicate 10 Z7,_,_,_,aM _ _,?_,?_,fun _=> rfl,fun h=> by simp[Dk.new] at h,rfl,rfl,Dk.sg⟩,Fw.app _ _ _⟩
 all_goals
   refine ⟨by simp[Dk.new],fun i v s h1 h2=> ?_⟩
   simp only[Dk.new,List.getElem?_replicate] at h1 h2
   split at h1
   ·rename_i hi
    rw[if_pos hi] at h2
    cases h1;cases h2
    exact ⟨_,rfl,ox _ _⟩
   ·cases h1
theorem DF (b:Nat) (h:Hp) (k:Bs) (m:Int) (hk:k.length=16):run fns pr b 48 [.arr 25 (k.map aa),.s (.int .i64 m)] h=some (.arr 25 ((dn k [bt m]).map aa),h):=by
 refine Vm.aT (nt:=10) rfl S3 (by simp) ?_
 have fV:(k.map aa).length=16:=by simp[hk]
 have FH:∀A B,Rd (h++[A,B,aW.cells none [aa (bt m)]]) (.ref (h.length+2) [] none 0 1 1) [bt m]:=fun A B=> BR.rd (dG (aK _ _ 2) rfl)
 have yY:=fun b A B=> DB b (h++[A,B,aW.cells none [aa (bt m)]]) (.ref (h.length+2) [] none 0 1 1) k [bt m] hk (FH A B) (by simp)
 have lE:((dn k [bt m]).map aa).length=16:=by simp[dn,bm]
 simp only[B48,fV,oh,lE,bG,List.take_left,yY,go_sem,↓reduceIte,Nat.reduceEqDiff,Nat.reduceBEq,Nat.reduceAdd,Nat.reduceSub,Nat.reduceLT,Nat.reduceLeDiff,Int.reduceLT,Int.reduceLE,Int.reduceEq,Int.reduceToNat]
def Nk (D:aH) (sp:V) (did:Nat):List V:=[.st 97 [.s (.int .i64 D.mem),.s (.int .i64 D.bb),.arr 25 (D.key.map aa),.s (.int .i64 D.is),sp,.ptr did [0] 1,D.r.enc,.s (.int .i64 D.aO),.s (.int .i64 D.eB),.s (.int .i64 D.steps)]]
structure RDP (h:Hp) (id:Nat) (D:aH) (did:Nat) (sp:V) (sid:Nat):Prop where
 o:h[id]? =some (.cells (some 97) (Nk D sp did))
 d:R7 h did D.dk
 s1:D.is=1→sp= .ptr sid [0] 1∧RST h sid D.st∧sid≠id∧sid≠did
 s2:D.is≠1→sp= .s (.pointer none)
 n1:id≠did
 kl:D.key.length=16
theorem DG (b:Nat) (h:Hp) (x z:Int) (k:Bs) (hb:b≤h.length) (hk:k.length=16) (h1:1≤z) (h2:z≤8) (h3:0≤x) (h4:x < z):
 ∃v h',run fns pr b 21 [.s (.int .i64 x),.s (.int .i64 z),.arr 25 (k.map aa)] h=some (v,h')∧∃id did sp sid,v= .ptr id [0] 1∧RDP h' id (aH.new x z k) did sp sid∧Fw [] h h'∧h.length≤id∧h.length≤did∧h.length≤sid:=by
 refine Vm.dZ (nt:=22) rfl R5 (by simp) ?_
 have fV:(k.map aa).length=16:=by simp[hk]
 have fA:Fw [] h (h++[aW.cells (some 25) [.arr 25 (k.map aa)]]):=Fw.app [] h _
 have gA:(h++[aW.cells (some 25) [.arr 25 (k.map aa)]])[h.length]? =some (aW.cells (some 25) [.arr 25 (k.map aa)]):=aM _ _
 have lA:=fA.len
 generalize hHA:h++[aW.cells (some 25) [.arr 25 (k.map aa)]]=HA at *
 obtain ⟨v1,H1,e1,rfl,s1,f1⟩:=DE b HA x z (Nat.le_trans hb lA) h1 h2 h3 h4
 have g1:=f1.dO _ _ gA (by simp)
 have yY:=fun b=> DF b H1 k x hk
 obtain ⟨v2,H2,e2,rfl,d2,f2⟩:=Ij b H1
 have tX:=s1.lt
 have By:=d2.lt
 simp only[B21,hHA,fV,e1,g1,yY,bG,e2,go_sem,↓reduceIte,Nat.reduceEqDiff,Nat.reduceBEq,Nat.reduceAdd,Nat.reduceSub,Nat.reduceLT,Nat.reduceLeDiff,Int.reduceLT,Int.reduceLE,Int.reduceEq,Int.reduceToNat]
 have f3:Fw [] H2 (H2++[aW.cells (some 97) (Nk (aH.new x z k) (.ptr HA.length [0] 1) H1.length)]):=Fw.app [] H2 _
 have m1:=f1.len
 have m2:=f2.len
 refine ⟨H2.length,H1.length,.ptr HA.length [0] 1,HA.length,rfl,⟨aM _ _,d2.mono f3 (by simp),fun _=>⟨rfl,?_,by omega,by omega⟩,fun hh=> absurd rfl hh,by omega,by simp[aH.new,dn,bm]⟩,fA.trans (f1.trans (f2.trans f3)),by omega,by omega,by omega⟩
 obtain ⟨xs,a1,a2⟩:=s1
 exact ⟨xs,f3.dO _ _ (f2.dO _ _ a1 (by simp)) (by simp),fun i hi=>((a2 i hi).fw f2).fw f3⟩
theorem xM (b:Nat) (h:Hp) (x z:Int) (k:Bs) (hb:b≤h.length) (hk:k.length=16) (h1:1≤z) (h2:z≤8) (h3:0≤x) (h4:x < z):
 ∃v h',run fns pr b 6 [.s (.int .i64 x),.s (.int .i64 z),.arr 25 (k.map aa)] h=some (v,h')∧∃t id F mid did sp sid,v= .ptr t [0] 1∧h'[t]? =some (.cells (some 47) [.st 47 [.ptr id [0] 1,.ptr mid [0] 1,.s (.pointer none),.s (.pointer none)]])∧
  kI h' id (aH.new x z k) F∧RDP h' mid (aH.new x z k) did sp sid∧Fw [] h h'∧(∀j∈F,h.length≤j∧j < mid∧j < did∧j < sid∧j < t)∧h.length≤t∧h.length≤mid∧h.length≤did∧h.length≤sid∧mid < t∧did < t∧sid < t:=by
 refine Vm.dZ (nt:=35) rfl XS (by simp) ?_
 have fV:(k.map aa).length=16:=by simp[hk]
 have fA:Fw [] h (h++[aW.cells (some 25) [.arr 25 (k.map aa)]]):=Fw.app [] h _
 have gA:(h++[aW.cells (some 25) [.arr 25 (k.map aa)]])[h.length]? =some (aW.cells (some 25) [.arr 25 (k.map aa)]):=aM _ _
 have lA:=fA.len
 generalize hHA:h++[aW.cells (some 25) [.arr 25 (k.map aa)]]=HA at *
 obtain ⟨v1,H1,e1,id,F,rfl,d1,f1,n1⟩:=Lf b HA x z k (Nat.le_trans hb lA) hk h1 h2 h3 h4
 have g1:=f1.dO _ _ gA (by simp)
 have m1:=f1.len
 obtain ⟨v2,H2,e2,mid,did,sp,sid,rfl,p2,f2,l1,l2,l3⟩:=DG b H1 x z k (by omega) hk h1 h2 h3 h4
 have bW:=d1.lt
 have By:=q6z p2.o
 have wL:=p2.d.lt
 simp only[B6,hHA,fV,gA,e1,g1,bG,e2,go_sem,↓reduceIte,Nat.reduceEqDiff,Nat.reduceBEq,Nat.reduceAdd,Nat.reduceSub,Nat.reduceLT,Nat.reduceLeDiff,Int.reduceLT,Int.reduceLE,Int.reduceEq,Int.reduceToNat]
 have f3:Fw [] H2 (H2++[aW.cells (some 47) [.st 47 [.ptr id [0] 1,.ptr mid [0] 1,.s (.pointer none),.s (.pointer none)]]]):=Fw.app [] H2 _
 obtain ⟨q1,q2,q3,q4⟩:=p2.s1 rfl
 have hl4:=q2.lt
 refine ⟨H2.length,id,F,mid,did,sp,sid,rfl,aM _ _,(d1.mono f2 (by simp)).mono f3 (by simp),?_,fA.trans (f1.trans (f2.trans f3)),fun j hj=> ?_,by omega,by omega,by omega,by omega,by omega,by omega,by omega⟩
 ·obtain ⟨a1,a2,a3,a4,a5,a6⟩:=p2
  refine ⟨f3.dO _ _ a1 (by simp),a2.mono f3 (by simp),fun hi=> ?_,a4,a5,a6⟩
  obtain ⟨c1,⟨xs,c2,c3⟩,c4,c5⟩:=a3 hi
  exact ⟨c1,⟨xs,f3.dO _ _ c2 (by simp),fun i hi=>(c3 i hi).fw f3⟩,c4,c5⟩
 ·have:=n1 j hj
  have:=bW j hj
  exact ⟨by omega,by omega,by omega,by omega,by omega⟩
def dg (n:UInt8):Bs:=[n,0,0,0,0,0,0,0,0,0,0,0,0,0,0,0]
def gq (id:Bs):ag:=⟨id,1,bO,[],0,0,bO,true,false⟩
theorem sB (id:Bs):aQ (gq id)=true:=rfl
theorem Cb {id:Bs} (h:id.length=4):(gq id).wf:=by
 refine ⟨?_,?_,?_,?_,?_,?_,?_,?_,?_⟩<;> first | exact h | trivial | (simp[gq];done) | (simp[gq,bO];done)
theorem At (b:Nat) (h:Hp):run fns pr b 14 [] h=some (.s (.bool true),h):=by
 refine Vm.aT (nt:=88) rfl RP (by simp) ?_
 obtain ⟨v0,H0,e0',t,id,F0,mid,did,sp,sid,rfl,ht,d0,p0,f0,n0,l1,l2,l3,l4,l5,l6,l7⟩:=xM h.length h 0 1 (dg 1) (Nat.le_refl _) rfl (by decide) (by decide) (by decide) (by decide)
 have vD:=HI.new (dg 1) (a:=0) (b:=1) (by decide) (by decide) (by decide) (by decide)
 have Db:=q6z ht
 generalize hD0:aH.new 0 1 (dg 1)=D0 at *
 have st0:D0.st=bh.new 0 1∧D0.is=1∧D0.r=gS:=by rw[←hD0];exact ⟨rfl,rfl,rfl⟩
 have w0:Lw h H0 id D0 F0 (fun j=> j=t):=⟨d0,f0,fun j hj=>(n0 j hj).1,fun j hj=> by subst hj;exact ⟨fun hm=> by have:=n0 _ hm;omega,Db⟩⟩
 have nD:(cN (gq [1,0,0,0])).enc=V.st 41 [.s (.int .i64 1),ki,ki,ku,.st 31 [.arr 27 [.s (.int .u8 1),.s (.int .u8 0),.s (.int .u8 0),.s (.int .u8 0)],.s (.int .u64 1),bz 25,kx,ki,ki,bz 25,.s (.bool true),.s (.bool false)],.al false (some 31) []]:=rfl
 have wI:=kX (sB [1,0,0,0])
 have pg:=vN (Cb (id:=[1,0,0,0]) rfl)
 have DH:=Dy (gq [1,0,0,0]) rfl
 have xE:=jJ (cN (gq [1,0,0,0]))
 have jE:=jK (cN (gq [1,0,0,0]))
 have vy:=p7 (cN (gq [1,0,0,0]))
 generalize hR:cN (gq [1,0,0,0])=R at *
 have fA:Fw [] H0 (H0++[aW.cells (some 41) [R.enc]]):=Fw.app [] H0 _
 have w1:Lw h (H0++[aW.cells (some 41) [R.enc]]) id D0 F0 (fun j=> j=t∨j=H0.length):=w0.ext fA (fun j hj=> by
   rcases hj with rfl | rfl
   ·exact .inl rfl
   ·exact .inr ⟨Nat.le_refl _,by simp⟩)
 have t1:=q10z ht [aW.cells (some 41) [R.enc]]
 have r1:(H0++[aW.cells (some 41) [R.enc]])[H0.length]? =some (aW.cells (some 41) [R.enc]):=aM _ _
 have yZ:=f0.len
 generalize hH1:H0++[aW.cells (some 41) [R.enc]]=H1 at *
 obtain ⟨v2,H2,e2,rfl,d2,f2⟩:=BW h.length H1 id D0 F0 2 0 w1.fn w1.d
 obtain ⟨w2,k2⟩:=w1.op d2 f2 (fun j hj=> .inl hj)
 have t2:=k2 _ _ (.inl rfl) t1
 have r2:=k2 _ _ (.inr rfl) r1
 have hi1:=vD.aO 2 0 (by decide)
 have PF:(D0.dV 2 0).st=bh.new 0 1:=st0.1
 have q1:=xJ hi1 (by decide) (r:=R) st0.2.1 (by rw[PF];exact DH) (show (0:Int)≤max 2 (-1) by decide) (show max (2:Int) (-1)≤2 by decide)
 have pP:=(hi1.do (by decide) pg st0.2.1 (by rw[PF];exact DH)).1
 obtain ⟨v3,H3,e3,rfl,F3,d3,f3,n3⟩:=xD h.length H2 id _ F0 R w2.fn w2.d 0 (by decide) hi1.ok pg pg.ai.2
 obtain ⟨w3,k3⟩:=w2.op d3 f3 n3
 have t3:=k3 _ _ (.inl rfl) t2
 have r3:=k3 _ _ (.inr rfl) r2
 have rq1:(D0.dV 2 0).r=gS:=st0.2.2
 obtain ⟨q11,q12,q13,q14,q15,q16⟩:=q1
 rw[q11] at e3
 rw[rq1] at q14
 rw[PF] at q15
 generalize ((D0.dV 2 0).do R).2=D3 at *
 have hs3:=pP.start (by decide) q12
 obtain ⟨v4,H4,e4,rfl,F4,d4,f4,n4⟩:=xG h.length H3 id D3 F3 w3.fn w3.d 6 (by decide) pP.ok pP.dm
 obtain ⟨w4,k4⟩:=w3.op d4 f4 n4
 have t4:=k4 _ _ (.inl rfl) t3
 have r4:=k4 _ _ (.inr rfl) r3
 obtain ⟨hi3,s31,s32,s33,s34,s35⟩:=hs3
 have s35:=s35 (by rw[q14];decide)
 have s36:D3.start.1=0:=by rw[s35]
 have s37:D3.start.2.is=1:=by rw[s35];rfl
 have s38:D3.start.2.aO= -1:=by rw[s35];exact q16
 have s39:D3.start.2.r.count=0:=by rw[s32,q14];rfl
 have s310:aV D3.start.2.r=0:=by rw[q19z hi3.ok.gr,s39];have:=q11z hi3.ok.gr;have:=hi3.ok.gw.base;omega
 rw[s36] at e4
 rw[q15] at s31
 generalize D3.start.2=D4 at *
 obtain ⟨u1,u2,u3,u4,u5⟩:=Ca hi3 (by decide) pg s37 (by rw[s31];exact DH) (by omega)
 obtain ⟨hi4,kp⟩:=hi3.do (by decide) pg s37 (by rw[s31];exact DH)
 obtain ⟨v5,H5,e5,rfl,F5,d5,f5,n5⟩:=xD h.length H4 id D4 F4 R w4.fn w4.d _ (by decide) hi3.ok pg pg.ai.2
 obtain ⟨w5,k5⟩:=w4.op d5 f5 n5
 have t5:=k5 _ _ (.inl rfl) t4
 have c5:(D4.do R).2.r.count=1:=by
   rcases kp with ⟨_,_,z,_⟩ | ⟨z,_,_,_⟩
   ·omega
   ·rw[z,s39];rfl
 rw[u1] at e5
 have Nl:=fun b=> jt b H4 id D4 F4 w4.d
 generalize (D4.do R).2=D5 at *
 obtain ⟨v6,H6,e6,rfl,d6,f6⟩:=K8 h.length H5 id D5 F5 w5.fn w5.d
 obtain ⟨w6,k6⟩:=w5.op d6 f6 (fun j hj=> .inl hj)
 have t6:=k6 _ _ (.inl rfl) t5
 have hi5:=hi4.stop
 have i6:D5.stop.is=2:=by unfold aH.stop;rw[if_pos u2];rfl
 have rr6:D5.stop.r=D5.r:=by unfold aH.stop;rw[if_pos u2];rfl
 obtain ⟨v7,H7,e7,rfl,F7,d7,f7,n7⟩:=xG h.length H6 id D5.stop F5 w6.fn w6.d _ (by decide) hi5.ok hi5.dm
 obtain ⟨w7,k7⟩:=w6.op d7 f7 n7
 have t7:=k7 _ _ (.inl rfl) t6
 obtain ⟨hi6,z1,z2,z3,z4,z5⟩:=hi5.start (by decide) i6
 have z5:=z5 (by rw[rr6,u5,s310];decide)
 have z6:D5.stop.start.1=0:=by rw[z5]
 have z7:D5.stop.start.2.is=1:=by rw[z5];rfl
 have z8:D5.stop.start.2.r.count=1:=by rw[z2,rr6,c5]
 rw[z6] at e7
 have Nm:=fun b=> jt b H7 id D5.stop.start.2 F7 w7.d
 obtain ⟨v8,H8,e8,hv8⟩:=Lh h.length H7 id D5.stop.start.2 F7 w7.fw.len w7.d hi6.ok.so
 rw[if_pos z7] at hv8
 obtain ⟨F8,rfl,s8,f8,n8⟩:=hv8
 generalize D5.stop.start.2=D7 at *
 have eI:=(w7.fw.trans f8).take
 have hd1:(dg 1).map aa=[.s (.int .u8 1),.s (.int .u8 0),.s (.int .u8 0),.s (.int .u8 0),.s (.int .u8 0),.s (.int .u8 0),.s (.int .u8 0),.s (.int .u8 0),.s (.int .u8 0),.s (.int .u8 0),.s (.int .u8 0),.s (.int .u8 0),.s (.int .u8 0),.s (.int .u8 0),.s (.int .u8 0),.s (.int .u8 0)]:=rfl
 rw[hd1] at e0'
 have Lo:D4.r.enc=V.st 53 [.s (.int .u64 D4.r.bq),.s (.int .u64 D4.r.count),.s (.int .u64 D4.r.base),.arr 25 (D4.r.head.map aa),.s (.int .i64 D4.r.aF)]:=rfl
 have Yl:D7.r.enc=V.st 53 [.s (.int .u64 D7.r.bq),.s (.int .u64 D7.r.count),.s (.int .u64 D7.r.base),.arr 25 (D7.r.head.map aa),.s (.int .i64 D7.r.aF)]:=rfl
 rw[Lo,s39] at Nl
 rw[Yl,z8] at Nm
 have pa:∀x,(decide (h.length≤H0.length) || x)=true:=fun x=> by rw[decide_eq_true yZ];rfl
 simp only[B14,e0',nD.symm,pa,hH1,t1,r1,e2,t2,r2,xE,jE,e3,t3,r3,e4,t4,r4,Nl,e5,t5,e6,t6,e7,t7,Nm,e8,eI,go_sem,↓reduceIte,Nat.reduceEqDiff,Nat.reduceBEq,Nat.reduceAdd,Nat.reduceSub,Nat.reduceLT,Nat.reduceLeDiff,Int.reduceLT,Int.reduceLE,Int.reduceEq,Int.reduceToNat]
end Go.Proofs.YtannfageakbpmaaGreat
