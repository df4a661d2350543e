/- Texts for DeviceTorn, part 4. Conditions: none. -/
import Derived.Test.YtannfageakbpmaaGreatCTc
set_option linter.unusedSimpArgs false
set_option linter.unusedVariables false
set_option linter.unusedSectionVars false
namespace Go.Proofs.YtannfageakbpmaaGreat.Ad
open Go Go.Vm Go.Proofs Go.Cl Go.Proofs.YtannfageakbpmaaGreat
noncomputable abbrev R (b:Nat):CF:=run fns pr b
theorem Di (b:Nat) (vs:List V) (h:Hp):R b 91 vs h=dG vs h:=iG b h vs
theorem BQ {b:Nat} {h:Hp} {x:V} {l:Bs} (hb:BR h x l) (hl:l.length≤140737488355328):run fns pr b 91 [x] h=some (cv h l,h++ct l):=by
 rw[iG];exact xj hb hl
theorem xy (b:Nat) (h:Hp) (n:Int):R b 94 [.s (.int .i64 n)] h=some (.s (.bool (decide (0≤n)&& decide (n < 10))),h):=by
 refine Vm.aU (nt:=9) rfl Ut (by simp) ?_
 by_cases h0:0≤n
 ·simp only[B94,go_sem,↓reduceIte,Nat.reduceEqDiff,Nat.reduceBEq,Nat.reduceAdd,Nat.reduceSub,Nat.reduceLT,Nat.reduceLeDiff,Int.reduceLT,Int.reduceLE,Int.reduceEq,Int.reduceToNat,h0]
 ·simp only[B94,go_sem,↓reduceIte,Nat.reduceEqDiff,Nat.reduceBEq,Nat.reduceAdd,Nat.reduceSub,Nat.reduceLT,Nat.reduceLeDiff,Int.reduceLT,Int.reduceLE,Int.reduceEq,Int.reduceToNat,h0]
def SlR (h:Hp) (v:V) (s:Option Bs):Prop:=∃x,v= .st 130 [.s (.bool s.isSome),x]∧BR h x (s.getD [])
def tK (h:Hp) (vs:List V) (ss:List (Option Bs)):Prop:=vs.length=ss.length∧∀(i:Nat) v s,vs[i]? =some v→ss[i]? =some s→SlR h v s
theorem SlR.mono {S:List Nat} {h h':Hp} {v:V} {s:Option Bs} (hs:SlR h v s) (f:Fw S h h'):SlR h' v s:=by
 obtain ⟨x,h1,h2⟩:=hs;exact ⟨x,h1,h2.mono f⟩
theorem tK.mono {S:List Nat} {h h':Hp} {v:List V} {s:List (Option Bs)} (hs:tK h v s) (f:Fw S h h'):tK h' v s:=
 ⟨hs.1,fun i v s h1 h2=>(hs.2 i v s h1 h2).mono f⟩
theorem tK.set {h:Hp} {vs:List V} {ss:List (Option Bs)} {v:V} {s:Option Bs} (hs:tK h vs ss) (hv:SlR h v s) (i:Nat):tK h (vs.set i v) (ss.set i s):=by
 refine ⟨by simp[hs.1],fun j w t h1 h2=> ?_⟩
 rw[List.getElem?_set] at h1 h2
 split at h1
 ·rename_i he;subst he
  rw[if_pos rfl] at h2
  split at h1
  ·cases h1;rw[if_pos (by rw[←hs.1];assumption)] at h2;cases h2;exact hv
  ·cases h1
 ·rename_i he
  rw[if_neg he] at h2
  exact hs.2 j w t h1 h2
theorem tK.get {h:Hp} {vs:List V} {ss:List (Option Bs)} (hs:tK h vs ss) {i:Nat} (hi:i < ss.length):∃x,vs[i]? =some (.st 130 [.s (.bool (ss.getD i none).isSome),x])∧BR h x ((ss.getD i none).getD []):=by
 have h1:vs[i]? =some (vs[i]'(by rw[hs.1];exact hi)):=List.getElem?_eq_getElem (by rw[hs.1];exact hi)
 have h2:ss[i]? =some ss[i]:=List.getElem?_eq_getElem hi
 obtain ⟨x,h3,h4⟩:=hs.2 i _ _ h1 h2
 rw[List.getD_eq_getElem?_getD,h2]
 exact ⟨x,by rw[h1,h3];rfl,h4⟩
def DR (h:Hp) (id:Nat) (D:Dk):Prop:=∃nv lv x,h[id]? =some (.cells (some 133) [.st 133 [.arr 132 nv,.arr 132 lv,.s (.int .i64 D.dR),.s (.int .i64 D.at_),x]])∧
 tK h nv D.now∧tK h lv D.bz∧BR h x D.last∧D.OK
theorem DR.mono {S:List Nat} {h h':Hp} {id:Nat} {D:Dk} (hd:DR h id D) (f:Fw S h h') (hi:id∉S):DR h' id D:=by
 obtain ⟨nv,lv,x,h1,h2,h3,h4,h5⟩:=hd
 exact ⟨nv,lv,x,f.dw _ _ h1 hi,h2.mono f,h3.mono f,h4.mono f,h5⟩
theorem DR.lt {h:Hp} {id:Nat} {D:Dk} (hd:DR h id D):id < h.length:=by
 obtain ⟨nv,lv,x,h1,_⟩:=hd;exact q6z h1
theorem DR.ok {h:Hp} {id:Nat} {D:Dk} (hd:DR h id D):D.OK:=by
 obtain ⟨nv,lv,x,_,_,_,_,h⟩:=hd;exact h
def Z60 :V:= .st 130 [.s (.bool false),.al false none []]
def Z61 :V:= .st 130 [.s (.bool false),.al true none []]
theorem sh (b:Nat) (h:Hp):∃v h',R b 46 [] h=some (v,h')∧v= .ptr h.length [0] 1∧DR h' h.length Dk.new∧Fw [] h h':=by
 refine Vm.dZ (nt:=3) rfl SS (by simp) ?_
 simp only[B46,go_sem,↓reduceIte,Nat.reduceEqDiff,Nat.reduceBEq,Nat.reduceAdd,Nat.reduceSub,Nat.reduceLT,Nat.reduceLeDiff,Int.reduceLT,Int.reduceLE,Int.reduceEq,Int.reduceToNat]
 refine ⟨⟨List.replicate 10 Z61,List.replicate 10 Z61,_,aM _ _,?_,?_,oo _ _,Dk.sh⟩,Fw.app _ _ _⟩
 all_goals
   refine ⟨by simp[Dk.new],fun i v s h1 h2=> ?_⟩
   simp only[Dk.new,List.getElem?_replicate] at h1 h2
   split at h1
   ·rename_i hi
    rw[if_pos hi] at h2
    cases h1;cases h2
    exact ⟨_,rfl,oo _ _⟩
   ·cases h1
theorem BS (b:Nat) (h:Hp) (y:V) (l:Bs) (hb:b≤h.length) (hy:BR h y l) (hl:l.length≤140737488355328):∃v h',R b 95 [y] h=some (v,h')∧SlR h' v (some l)∧Fw [] h h'∧
 (l≠[]→∃k,h.length≤k∧v= .st 130 [.s (.bool true),.ref k [] none 0 l.length l.length]∧h'[k]? =some (.cells none (l.map aa))):=by
 refine Vm.dZ (nt:=6) rfl Uv (by simp) ?_
 obtain ⟨x,t,hc,hx,fy⟩:=HH (h:=h++[.cells (some 130) [Z60]]) (hy.mono (Fw.app [] _ _)) hl
 have bb:=Di b [y] (h++[.cells (some 130) [Z60]])
 rw[hc] at bb
 unfold Z60 at bb
 simp only[B95,go_sem,↓reduceIte,Nat.reduceEqDiff,Nat.reduceBEq,Nat.reduceAdd,Nat.reduceSub,Nat.reduceLT,Nat.reduceLeDiff,Int.reduceLT,Int.reduceLE,Int.reduceEq,Int.reduceToNat,bb,List.append_assoc,hx.ty,hx.ax,hb]
 refine ⟨⟨x,rfl,?_⟩,Fw.app _ _ _,fun cD=> ?_⟩
 ·rcases fy with ⟨rfl,rfl,rfl⟩ | ⟨rfl,rfl⟩
  ·exact oo _ _
  ·refine dH ?_ rfl
   rw[List.length_append,aK];rfl
 ·rcases fy with ⟨rfl,rfl,rfl⟩ | ⟨rfl,rfl⟩
  ·exact absurd rfl cD
  ·refine ⟨_,?_,rfl,?_⟩
   ·simp
   ·rw[List.length_append,aK];rfl
theorem DR.fw {h:Hp} {id:Nat} {D:Dk} (hd:DR h id D) (es:List V):Fw [id] h (h.set id (.cells (some 133) es)):=by
 obtain ⟨nv,lv,x,hg,_⟩:=hd
 exact Fw.set (by simp) hg
theorem Ps (b:Nat) (h:Hp) (id:Nat) (D:Dk) (n:Int) (y:V) (l:Bs) (hb:b≤id) (hd:DR h id D) (hy:BR h y l) (hl:l.length≤140737488355328) (hp:D.dR < 4611686018427387904):
 ∃v h',R b 61 [.ptr id [0] 1,.s (.int .i64 n),y] h=some (v,h')∧v= .s (.bool (Dk.jq n l))∧DR h' id (if Dk.jq n l=true then D.put n.toNat l else D)∧Fw [id] h h':=by
 have hr:=xy b h n
 have hly:=fun h0=> hy.cE (cf:=run fns pr b) (base:=b) (h:=h0)
 refine Vm.dZ (nt:=38) rfl Tp (by simp) ?_
 by_cases ht:Dk.jq n l=true
 ·have ht':=ht
  simp only[Dk.jq,Bool.and_eq_true,decide_eq_true_eq] at ht'
  obtain ⟨⟨h0,h1⟩,h2⟩:=ht'
  obtain ⟨m,rfl⟩:∃m:Nat,n=m:=⟨n.toNat,by omega⟩
  have hle:¬(8192:Int)< l.length:=by omega
  obtain ⟨v1,k1,e1,uv,f1,_⟩:=BS b h y l (by have:=hd.lt;omega) hy hl
  have hd1:=hd.mono f1 (by simp)
  have mY:=hd1.fw
  obtain ⟨nv,lv,x,hg,r1,r2,r3,r4⟩:=hd
  have cH:=f1.dw _ _ hg (by simp)
  obtain ⟨x0,hx0,_⟩:=r1.get (i:=m) (by rw[r4.now];omega)
  have lV:(m:Int)< nv.length:=by rw[r1.1,r4.now];omega
  obtain ⟨xs,rfl,nw⟩:=uv
  have hw:=q18z hp
  have Pk:=q6z cH
  have Pt:=r3.ty
  have nq:=fun es=> BQ (b:=b) (h:=k1.set id (.cells (some 133) es)) (x:=y) ((hy.mono f1).mono (mY es)) hl
  simp only[B61,go_sem,↓reduceIte,Nat.reduceEqDiff,Nat.reduceBEq,Nat.reduceAdd,Nat.reduceSub,Nat.reduceLT,Nat.reduceLeDiff,Int.reduceLT,Int.reduceLE,Int.reduceEq,Int.reduceToNat,hr,hly,h0,h1,hle,e1,hg,y9,cH,lV,hx0,hb,hw,Pk,nq,M8,xk,Pt]
  have F:=fun es=> f1.mono (T:=[id]) (by simp) |>.trans ((mY es).trans (Fw.app [id] _ (ct l)))
  have F1:=fun es=>((mY es).trans (Fw.app [id] _ (ct l)))
  refine ⟨by rw[ht],?_,F _⟩
  rw[if_pos ht]
  refine ⟨_,_,_,q10z (q9z cH) _,((r1.mono (F _)).set ⟨xs,rfl,nw.mono (F1 _)⟩ m),r2.mono (F _),?_,Dk.HF r4 (by omega) h2⟩
  exact Pu (by rw[List.length_set,List.length_set]) l
 ·have ht':=ht
  simp only[Bool.not_eq_true] at ht'
  simp only[ht',Bool.false_eq_true,if_false]
  by_cases h0:0≤n
  ·by_cases h1:n < 10
   ·have hle:(8192:Int)< l.length:=by simp[Dk.jq,h0,h1] at ht';omega
    simp only[B61,go_sem,↓reduceIte,Nat.reduceEqDiff,Nat.reduceBEq,Nat.reduceAdd,Nat.reduceSub,Nat.reduceLT,Nat.reduceLeDiff,Int.reduceLT,Int.reduceLE,Int.reduceEq,Int.reduceToNat,hr,hly,h0,h1,hle]
    exact ⟨hd,Fw.refl _ _⟩
   ·simp only[B61,go_sem,↓reduceIte,Nat.reduceEqDiff,Nat.reduceBEq,Nat.reduceAdd,Nat.reduceSub,Nat.reduceLT,Nat.reduceLeDiff,Int.reduceLT,Int.reduceLE,Int.reduceEq,Int.reduceToNat,hr,hly,h0,h1]
    exact ⟨hd,Fw.refl _ _⟩
  ·simp only[B61,go_sem,↓reduceIte,Nat.reduceEqDiff,Nat.reduceBEq,Nat.reduceAdd,Nat.reduceSub,Nat.reduceLT,Nat.reduceLeDiff,Int.reduceLT,Int.reduceLE,Int.reduceEq,Int.reduceToNat,hr,hly,h0]
   exact ⟨hd,Fw.refl _ _⟩
theorem ru (b:Nat) (h:Hp) (id:Nat) (D:Dk) (hb:b≤id) (hd:DR h id D):∃v h',R b 62 [.ptr id [0] 1] h=some (v,h')∧v= .bI []∧DR h' id D.sync∧Fw [id] h h':=by
 refine Vm.dZ (nt:=12) rfl Tt (by simp) ?_
 have mY:=hd.fw
 obtain ⟨nv,lv,x,hg,r1,r2,r3,r4⟩:=hd
 have bW:=q6z hg
 simp only[B62,go_sem,↓reduceIte,Nat.reduceEqDiff,Nat.reduceBEq,Nat.reduceAdd,Nat.reduceSub,Nat.reduceLT,Nat.reduceLeDiff,Int.reduceLT,Int.reduceLE,Int.reduceEq,Int.reduceToNat,hg,hb,bW]
 exact ⟨⟨_,_,_,q9z hg,r1.mono (mY _),r1.mono (mY _),r3.mono (mY _),Dk.vH r4⟩,mY _⟩
theorem HJ (b:Nat) (h:Hp) (id:Nat) (D:Dk) (n:Int) (hd:DR h id D):
 R b 100 [.ptr id [0] 1,.s (.int .i64 n)] h=some (.bI [.al false none (((D.get n).getD []).map aa),.s (.bool (D.get n).isSome)],h):=by
 have hr:=xy (h.length) h n
 refine Vm.aU (nt:=27) rfl NC (by simp) ?_
 obtain ⟨nv,lv,x,hg,r1,r2,r3,r4⟩:=hd
 by_cases h0:0≤n
 ·by_cases h1:n < 10
  ·obtain ⟨m,rfl⟩:∃m:Nat,n=m:=⟨n.toNat,by omega⟩
   obtain ⟨x0,hx0,yY⟩:=r1.get (i:=m) (by rw[r4.now];omega)
   have lV:(m:Int)< nv.length:=by rw[r1.1,r4.now];omega
   have dE:D.get m=D.now.getD m none:=by simp[Dk.get];omega
   have CR:=r4.ns m
   rw[dE]
   have hx0t:=yY.ty
   cases hc:D.now.getD m none with
   | none=>
     rw[hc] at hx0
     simp only[CM,go_sem,↓reduceIte,Nat.reduceEqDiff,Nat.reduceBEq,Nat.reduceAdd,Nat.reduceSub,Nat.reduceLT,Nat.reduceLeDiff,Int.reduceLT,Int.reduceLE,Int.reduceEq,Int.reduceToNat,hr,h0,h1,hg,hx0,lV]
   | some l=>
     rw[hc] at hx0 yY CR
     have nq:=BQ (b:=h.length) yY (by omega)
     have fj:=Pv h.length h l (Nat.le_refl _)
     simp only[CM,go_sem,↓reduceIte,Nat.reduceEqDiff,Nat.reduceBEq,Nat.reduceAdd,Nat.reduceSub,Nat.reduceLT,Nat.reduceLeDiff,Int.reduceLT,Int.reduceLE,Int.reduceEq,Int.reduceToNat,hr,h0,h1,hg,hx0,lV,hx0t,nq,fj]
  ·have dE:D.get n=none:=by simp[Dk.get];omega
   rw[dE]
   simp only[CM,go_sem,↓reduceIte,Nat.reduceEqDiff,Nat.reduceBEq,Nat.reduceAdd,Nat.reduceSub,Nat.reduceLT,Nat.reduceLeDiff,Int.reduceLT,Int.reduceLE,Int.reduceEq,Int.reduceToNat,hr,h0,h1,hg]
 ·have dE:D.get n=none:=by simp[Dk.get];omega
  rw[dE]
  simp only[CM,go_sem,↓reduceIte,Nat.reduceEqDiff,Nat.reduceBEq,Nat.reduceAdd,Nat.reduceSub,Nat.reduceLT,Nat.reduceLeDiff,Int.reduceLT,Int.reduceLE,Int.reduceEq,Int.reduceToNat,hr,h0,hg]
theorem HK (b:Nat) (h:Hp) (id:Nat) (D:Dk) (t:Int) (hb:b≤id) (hd:DR h id D):∃v h',R b 77 [.ptr id [0] 1,.s (.int .i64 t)] h=some (v,h')∧v= .bI []∧DR h' id (D.il t)∧Fw [id] h h':=by
 refine Vm.dZ (nt:=43) rfl TY (by simp) ?_
 have mY:=hd.fw
 have HL:=hd
 obtain ⟨nv,lv,x,hg,r1,r2,r3,r4⟩:=hd
 have bW:=q6z hg
 have Pt:=r3.ty
 let es:List V:=[.st 133 [.arr 132 lv,.arr 132 lv,.s (.int .i64 D.dR),.s (.int .i64 D.at_),x]]
 let h1:=h.set id (.cells (some 133) es)
 have d1:DR h1 id {D with now:=D.bz}:=⟨_,_,_,q9z hg,r2.mono (mY _),r2.mono (mY _),r3.mono (mY _),⟨r4.bz,r4.bz,r4.at_,r4.ls,r4.ls,r4.last⟩⟩
 by_cases hp:0 < D.dR
 ·by_cases ht:0 < t
  ·obtain ⟨m,rfl⟩:∃m:Nat,t=m:=⟨t.toNat,by omega⟩
   have m7:(0:Int)< D.dR:=by omega
   have xh:min (m:Int) (D.last.length:Int)=((min m D.last.length:Nat):Int):=by omega
   have lU:BR h1 x D.last:=r3.mono (mY es)
   have tX:=fun h0=> lU.cE (cf:=run fns pr b) (base:=b) (h:=h0)
   obtain ⟨y,hy,hyb⟩:=lU.hi (k:= .i64) (r:=min m D.last.length) (Nat.min_le_right _ _)
   have n9:=r4.last
   obtain ⟨v2,h2,e2,⟨xs,rfl,nw⟩,f2,_⟩:=BS b h1 y _ (by have:=HL.lt;simp[h1];omega) hyb (by simp;omega)
   have d2:=d1.mono f2 (by simp)
   have Vq:=d2.fw
   have jc:=f2.dw _ _ (q9z hg) (by simp)
   have Ae:=q6z jc
   have hat:=r4.at_
   obtain ⟨x0,hx0,_⟩:=r2.get (i:=D.at_) (by rw[r4.bz];omega)
   have lV:(D.at_:Int)< lv.length:=by rw[r2.1,r4.bz];omega
   have CP:(0:Int)≤D.at_:=by omega
   simp only[h1,es] at hy e2 jc
   simp only[B77,go_sem,↓reduceIte,Nat.reduceEqDiff,Nat.reduceBEq,Nat.reduceAdd,Nat.reduceSub,Nat.reduceLT,Nat.reduceLeDiff,Int.reduceLT,Int.reduceLE,Int.reduceEq,Int.reduceToNat,hg,hb,bW,m7,ht,Pt,tX,xh,hy,e2,y9,jc,hx0,lV,Ae,CP]
   have G:=fun es'=>((mY es).trans (f2.mono (T:=[id]) (by simp))).trans (Vq es')
   have d3:=(⟨_,_,_,q9z jc,((r2.mono (G _)).set ⟨xs,rfl,nw.mono (Vq _)⟩ D.at_),r2.mono (G _),r3.mono (G _),
     ⟨by simp[r4.bz],r4.bz,r4.at_,j6 r4.ls _ (by simp;omega),r4.ls,r4.last⟩⟩:DR (h2.set id (.cells (some 133) [.st 133 [.arr 132 (lv.set D.at_ (.st 130 [.s (.bool true),xs])),.arr 132 lv,.s (.int .i64 D.dR),.s (.int .i64 D.at_),x]])) id ⟨D.bz.set D.at_ (some (D.last.take (min m D.last.length))),D.bz,D.dR,D.at_,D.last⟩)
   obtain ⟨v4,h4,e4,rfl,d4,f4⟩:=ru b _ id _ hb d3
   simp only[go_sem,↓reduceIte,Nat.reduceEqDiff,Nat.reduceBEq,Nat.reduceAdd,Nat.reduceSub,Nat.reduceLT,Nat.reduceLeDiff,Int.reduceLT,Int.reduceLE,Int.reduceEq,Int.reduceToNat,e4]
   refine ⟨?_,(G _).trans f4⟩
   have:D.il m=Dk.sync ⟨D.bz.set D.at_ (some (D.last.take (min m D.last.length))),D.bz,D.dR,D.at_,D.last⟩:=by
     have:D.last.take (min m D.last.length)=D.last.take m:=by rw[←List.take_eq_take_min]
     simp only[Dk.il,Dk.dJ,Dk.sync,hp,ht,and_self,if_true,Int.toNat_natCast,this]
   rw[this];exact d4
  ·obtain ⟨v2,h2,e2,rfl,d2,f2⟩:=ru b h1 id _ hb d1
   have m7:(0:Int)< D.dR:=by omega
   simp only[h1,es] at e2
   simp only[B77,go_sem,↓reduceIte,Nat.reduceEqDiff,Nat.reduceBEq,Nat.reduceAdd,Nat.reduceSub,Nat.reduceLT,Nat.reduceLeDiff,Int.reduceLT,Int.reduceLE,Int.reduceEq,Int.reduceToNat,hg,hb,bW,m7,ht,e2]
   refine ⟨?_,(mY es).trans f2⟩
   have:D.il t=Dk.sync {D with now:=D.bz}:=by simp[Dk.il,Dk.dJ,Dk.sync,ht]
   rw[this];exact d2
 ·obtain ⟨v2,h2,e2,rfl,d2,f2⟩:=ru b h1 id _ hb d1
  have m7:¬(0:Int)< D.dR:=by omega
  simp only[h1,es] at e2
  simp only[B77,go_sem,↓reduceIte,Nat.reduceEqDiff,Nat.reduceBEq,Nat.reduceAdd,Nat.reduceSub,Nat.reduceLT,Nat.reduceLeDiff,Int.reduceLT,Int.reduceLE,Int.reduceEq,Int.reduceToNat,hg,hb,bW,m7,e2]
  refine ⟨?_,(mY es).trans f2⟩
  have:D.il t=Dk.sync {D with now:=D.bz}:=by simp[Dk.il,Dk.dJ,Dk.sync,hp]
  rw[this];exact d2
end Go.Proofs.YtannfageakbpmaaGreat.Ad
namespace Go.Proofs.YtannfageakbpmaaGreat
open Go Go.Vm Go.Proofs Go.Cl
set_option maxRecDepth 100000
def mo (q:kF):Bs:=[bt q.role]++bB q.aD.toNat++[bt q.to,bt q.vs.length]++q.vs.flatMap aZ
def fJ (s:bg) (n:Nat):Bs:=(List.range n).flatMap fun i=> mo (s.p i)
def gR (s:bg):Bs:=[bt s.mem,bt s.bm]++fJ s 16
theorem qA (s:bg) (n:Nat):fJ s (n+1)=fJ s n++mo (s.p n):=by simp[fJ,List.range_succ]
theorem q38z {v:ag} (hw:v.wf) (hr:aP v=true):(aZ v).length≤112:=by
 have h1:=q14z hr
 obtain ⟨w1,w2,w3,w4,w5,w6,w7,w8,w9⟩:=hw
 simp[aZ];omega
theorem q37z {l:List ag} (h:∀v∈l,aP v=true∧v.wf):(l.flatMap aZ).length≤112 * l.length:=by
 induction l with
 | nil=> simp
 | cons v l ih=>
   have h1:=ih fun w hw=> h w (by simp[hw])
   have h2:=q38z (h v (by simp)).2 (h v (by simp)).1
   simp only[List.flatMap_cons,List.length_append,List.length_cons];omega
theorem Dj {s:bg} {i:Nat} {q:kF} (h:POk s i q):(mo q).length≤459:=by
 have:=q37z (l:=q.vs) fun v hv=>⟨(h.vs v hv).1,(h.vs v hv).2.1⟩
 have:=h.len
 simp only[mo,List.length_append,List.length_cons,List.length_nil,bF];omega
theorem q39z {s:bg} (hk:j5 s):∀n,n≤16→(fJ s n).length≤459 * n
 | 0,_=> by simp[fJ]
 | n+1,hn=> by
   have h1:=q39z hk n (by omega)
   have h2:=Dj (hk.p n (by omega))
   rw[qA,List.length_append];omega
theorem pa (b:Nat) (h:Hp) (m:Nat) (s:bg) (F:List Nat) (hs:gY h m s F) (hk:j5 s):run fns pr b 16 [.ptr m [0] 1] h=some (.al false none ((gR s).map aa),h):=by
 refine Vm.aU (nt:=72) rfl RR (by simp) ?_
 have X6:=fun b=> Pq b h m s F hs
 have N0:kH h (h++[.cells none [aa (bt s.mem),aa (bt s.bm)]]) (.ref h.length [] none 0 2 2) ([bt s.mem,bt s.bm]++fJ s 0):=⟨h.length,.inr ⟨rfl,aM _ _⟩,Nat.le_refl _,Fw.app _ _ _⟩
 simp only[B16,MO,MN,MM,X6,od,go_sem,↓reduceIte,Nat.reduceEqDiff,Nat.reduceBEq,Nat.reduceAdd,Nat.reduceSub,Nat.reduceLT,Nat.reduceLeDiff,Int.reduceLT,Int.reduceLE,Int.reduceEq,Int.reduceToNat]
 refine bh (fun q e H=>∃(i:Nat) (v:V),q=16 - i∧i≤16∧e 27= .s (.int .i64 (i:Nat))∧e 0= .ptr m [0] 1∧e 5=v∧kH h H v ([bt s.mem,bt s.bm]++fJ s i))
   (fun e H=>∃v,e 5=v∧kH h H v ([bt s.mem,bt s.bm]++fJ s 16)) 16 _ _ ⟨0,_,rfl,by omega,rfl,rfl,rfl,N0⟩ ?_ ?_
 ·rintro q e H ⟨i,v,rfl,hi,e27,e0,e5,N⟩
  by_cases cd:i < 16
  ·have cj:(i:Int)< 16:=by omega
   have w3:IntKind.i64.wrap ((i:Int)+1)=((i+1:Nat):Int):=q18z (by omega)
   have ok:=hk.p i cd
   have ra:=q39z hk i (by omega)
   have tI:=q37z (l:=(s.p i).vs) fun v hv=>⟨(ok.vs v hv).1,(ok.vs v hv).2.1⟩
   have ho4:=ok.len
   have hsH:gY H m s F:=hs.mono N.fw (by simp)
   have r1:=fun b=> KS b H m i s F hsH cd
   have r2:=fun b=> zX b H m i s F hsH hk cd
   obtain ⟨ep,hep⟩:∃n:Nat,(s.p i).aD=n:=⟨(s.p i).aD.toNat,by have:=ok.e1;omega⟩
   have X7:ep < 18446744073709551616:=by have:=ok.e2;omega
   have hle:=N.fw.len
   obtain ⟨v1,H1,a1,N1⟩:=(N.mono (Fw.app [] H [.cells none [aa (bt (s.p i).role)]])).app (y:= .ref H.length [] none 0 1 1) (m:=[bt (s.p i).role]) (BR.src (dH (by simp) rfl)) (by simp;omega)
   have tX:h.length≤H1.length:=N1.fw.len
   have n1:=eB h.length H1 ep X7 tX
   obtain ⟨v2,H2,a2,N2⟩:=(N1.mono (Fw.app [] H1 [.cells none ((bB ep).map aa)])).app (y:= .ref H1.length [] none 0 8 8) (m:=bB ep) (BR.src (dH (by simp) (bF _))) (by simp;omega)
   obtain ⟨v3,H3,a3,N3⟩:=(N2.mono (Fw.app [] H2 [.cells none [aa (bt (s.p i).to),aa (bt (s.p i).vs.length)]])).app (y:= .ref H2.length [] none 0 2 2) (m:=[bt (s.p i).to,bt (s.p i).vs.length]) (BR.src (dH (by simp) rfl)) (by simp;omega)
   have jd:∀cf base H,aB cf base H .len [.al false (some 31) ((s.p i).vs.map ag.enc)]=some (.s (.int .i64 ((s.p i).vs.length:Nat)),H):=fun cf base H=> by rw[oe];simp
   rw[hep] at r1
   simp only[e27,e0,e5,cj,r1,r2,od,a1,n1,a2,a3,jd,go_sem,↓reduceIte,Nat.reduceEqDiff,Nat.reduceBEq,Nat.reduceAdd,Nat.reduceSub,Nat.reduceLT,Nat.reduceLeDiff,Int.reduceLT,Int.reduceLE,Int.reduceEq,Int.reduceToNat]
   generalize yY:[bt s.mem,bt s.bm]++fJ s i++[bt (s.p i).role]++bB ep++[bt (s.p i).to,bt (s.p i).vs.length]=base0 at N3
   have hb0l:base0.length≤8000:=by rw[←yY];simp;omega
   have X8:base0++(s.p i).vs.flatMap aZ=[bt s.mem,bt s.bm]++fJ s (i+1):=by
     rw[←yY,qA,mo,hep]
     simp
   have sa:=ok.vs
   generalize (s.p i).vs=ai at *
   refine bh (fun q e H=>∃(j:Nat) (v:V),q=ai.length - j∧j≤ai.length∧e 57= .s (.int .i64 (j:Nat))∧e 56= .s (.int .i64 (ai.length:Nat))∧e 55= .al false (some 31) (ai.map ag.enc)∧e 27= .s (.int .i64 (i:Nat))∧e 0= .ptr m [0] 1∧e 5=v∧kH h H v (base0++(ai.take j).flatMap aZ))
     (fun e H=>∃v,e 27= .s (.int .i64 (i:Nat))∧e 0= .ptr m [0] 1∧e 5=v∧kH h H v (base0++ai.flatMap aZ)) ai.length _ _ ⟨0,v3,rfl,by omega,rfl,rfl,rfl,e27,e0,rfl,by simpa using N3⟩ ?_ ?_
   ·rintro q e H ⟨j,v,rfl,hj,e57,e56,e55,e27,e0,e5,N⟩
    by_cases cv:j < ai.length
    ·have cj:(j:Int)<((ai.length:Nat):Int):=by omega
     have hjv:ai[j]? =some ai[j]:=List.getElem?_eq_getElem cv
     have gW:SR H (.al false (some 31) (ai.map ag.enc)) (some 31) (ai.map ag.enc):= .inl ⟨false,rfl⟩
     have i1:=fun cf base=> gW.cX (cf:=cf) (base:=base) (k:= .i64) (i:=j) (by simpa using cv)
     have i2:=fun cf base=> gW.g8 (cf:=cf) (base:=base) (i:=j) (v:=ai[j].enc) (by rw[List.getElem?_map,hjv];rfl) rfl
     have hle:=N.fw.len
     obtain ⟨m1,m2,_⟩:=sa _ (List.getElem_mem cv)
     have au:=q38z m2 m1
     have hp:=fun h0=> G7 h.length h0 false ai[j] m2
     rw[←ag.lE,m1,if_pos rfl] at hp
     have hfj:=q37z (l:=ai.take j) fun v hv=>⟨(sa v (List.mem_of_mem_take hv)).1,(sa v (List.mem_of_mem_take hv)).2.1⟩
     obtain ⟨v5,H5,a5,N5⟩:=(N.mono (Fw.app [] H [.cells (some 31) [ai[j].enc]])).app (y:= .al false none ((aZ ai[j]).map aa)) (m:=aZ ai[j]) rfl (by rw[List.length_take] at hfj;simp only[List.length_append];omega)
     have gN:base0++(ai.take j).flatMap aZ++aZ ai[j]=base0++(ai.take (j+1)).flatMap aZ:=by
       rw[List.take_succ_eq_append_getElem cv,List.flatMap_append];simp
     rw[gN] at N5
     have w3:IntKind.i64.wrap ((j:Int)+1)=((j+1:Nat):Int):=q17z (by omega)
     simp only[e57,e56,e55,e27,e0,e5,cj,i1,i2,hle,aX,aY,hp,a5,w3,go_sem,↓reduceIte,Nat.reduceEqDiff,Nat.reduceBEq,Nat.reduceAdd,Nat.reduceSub,Nat.reduceLT,Nat.reduceLeDiff,Int.reduceLT,Int.reduceLE,Int.reduceEq,Int.reduceToNat]
     exact ⟨ai.length - (j+1),by omega,j+1,v5,rfl,by omega,rfl,rfl,N5⟩
    ·have cj:¬(j:Int)<((ai.length:Nat):Int):=by omega
     obtain rfl:j=ai.length:=by omega
     rw[List.take_of_length_le (Nat.le_refl _)] at N
     simp only[e57,e56,e55,e27,e0,e5,cj,go_sem,↓reduceIte,Nat.reduceEqDiff,Nat.reduceBEq,Nat.reduceAdd,Nat.reduceSub,Nat.reduceLT,Nat.reduceLeDiff,Int.reduceLT,Int.reduceLE,Int.reduceEq,Int.reduceToNat]
     exact ⟨v,rfl,N⟩
   ·rintro e H ⟨v,e27,e0,e5,N⟩
    rw[X8] at N
    simp only[e27,e0,e5,w3,go_sem,↓reduceIte,Nat.reduceEqDiff,Nat.reduceBEq,Nat.reduceAdd,Nat.reduceSub,Nat.reduceLT,Nat.reduceLeDiff,Int.reduceLT,Int.reduceLE,Int.reduceEq,Int.reduceToNat]
    exact ⟨16 - (i+1),by omega,i+1,v,rfl,by omega,rfl,rfl,N⟩
  ·have cj:¬(i:Int)< 16:=by omega
   obtain rfl:i=16:=by omega
   simp only[e27,e0,e5,cj,go_sem,↓reduceIte,Nat.reduceEqDiff,Nat.reduceBEq,Nat.reduceAdd,Nat.reduceSub,Nat.reduceLT,Nat.reduceLeDiff,Int.reduceLT,Int.reduceLE,Int.reduceEq,Int.reduceToNat]
   exact ⟨v,rfl,N⟩
 ·rintro e H ⟨v,e5,N⟩
  have df:=N.qX (n:=h.length) (by simp)
  have eA:=N.fw.take
  simp only[e5,df,eA,gR,go_sem,↓reduceIte,Nat.reduceEqDiff,Nat.reduceBEq,Nat.reduceAdd,Nat.reduceSub,Nat.reduceLT,Nat.reduceLeDiff,Int.reduceLT,Int.reduceLE,Int.reduceEq,Int.reduceToNat]
structure aI where
 mem:Int
 bm:Int
 key:Bs
 is:Int
 st:bg
 dk:Dk
 r:ae
 steps:Int
 aO:Int
 dJ:Int
def aI.down (D:aI) (t:Int):aI:= {D with is:=2,aO:= -1,dk:=D.dk.il t}
def aI.step (D:aI):Bool×aI:=if D.aO=0 then (false,D.down D.dJ) else (true, {D with aO:=if 0 < D.aO then D.aO - 1 else D.aO,steps:=D.steps+1})
def aI.put (D:aI) (n:Int) (l:Bs):aI:= {D with dk:=if Dk.jq n l=true then D.dk.put n.toNat l else D.dk}
def aI.lay (D:aI) (n:Int) (l:Bs):Bool×aI:=
 if D.step.1=false then (false,D.step.2) else if (D.step.2.put n l).step.1=false then (false,(D.step.2.put n l).step.2)
 else (true, {(D.step.2.put n l).step.2 with dk:=(D.step.2.put n l).step.2.dk.sync})
def eC (D:aI) (sp:V) (did:Nat):List V:=[.st 71 [.s (.int .i64 D.mem),.s (.int .i64 D.bm),.arr 25 (D.key.map aa),.s (.int .i64 D.is),sp,.ptr did [0] 1,D.r.enc,.s (.int .i64 D.steps),.s (.int .i64 D.aO),.s (.int .i64 D.dJ)]]
structure uA (h:Hp) (id:Nat) (D:aI) (F:List Nat) (did:Nat) (sp:V) (sid:Nat) (Fs:List Nat):Prop where
 o:h[id]? =some (.cells (some 71) (eC D sp did))
 d:Ad.DR h did D.dk
 s:D.is=1→sp= .ptr sid [0] 1∧gY h sid D.st Fs
 ty:sp.ty=none
 so:sp.ax=true
 f:F=id::did::Fs
 n1:id≠did
 n2:id∉Fs
 n3:did∉Fs
 fl:∀j∈F,j < h.length
 kl:D.key.length=16
def lJ (h:Hp) (id:Nat) (D:aI) (F:List Nat):Prop:=∃did sp sid Fs,uA h id D F did sp sid Fs
theorem uA.mono {S F Fs:List Nat} {h h':Hp} {id did sid:Nat} {D:aI} {sp:V} (hd:uA h id D F did sp sid Fs) (f:Fw S h h') (hS:∀j∈F,j∉S):uA h' id D F did sp sid Fs:=by
 obtain ⟨o,d,s,ty,so,rfl,n1,n2,n3,fl,kl⟩:=hd
 exact ⟨f.dw _ _ o (hS _ (by simp)),d.mono f (hS _ (by simp)),fun hi=>⟨(s hi).1,(s hi).2.mono f fun j hj=> hS _ (by simp[hj])⟩,ty,so,rfl,n1,n2,n3,fun j hj=> f.lt (fl j hj),kl⟩
theorem lJ.mono {S F:List Nat} {h h':Hp} {id:Nat} {D:aI} (hd:lJ h id D F) (f:Fw S h h') (hS:∀j∈F,j∉S):lJ h' id D F:=by
 obtain ⟨did,sp,sid,Fs,hd⟩:=hd
 exact ⟨did,sp,sid,Fs,hd.mono f hS⟩
theorem lJ.lt {F:List Nat} {h:Hp} {id:Nat} {D:aI} (hd:lJ h id D F):∀j∈F,j < h.length:=by
 obtain ⟨did,sp,sid,Fs,hd⟩:=hd
 exact hd.fl
theorem lJ.mem {F:List Nat} {h:Hp} {id:Nat} {D:aI} (hd:lJ h id D F):id∈F:=by
 obtain ⟨did,sp,sid,Fs,hd⟩:=hd
 rw[hd.f];simp
theorem lJ.app {F:List Nat} {h:Hp} {id:Nat} {D:aI} (hd:lJ h id D F) (X:Hp):lJ (h++X) id D F:=hd.mono (Fw.app [] h X) (by simp)
theorem uA.Dl {F Fs:List Nat} {h:Hp} {id did sid:Nat} {D D':aI} {sp:V} (hd:uA h id D F did sp sid Fs) (h1:D'.dk=D.dk) (h2:D'.is=1→D.is=1∧D'.st=D.st) (h3:D'.key.length=16):
 uA (h.set id (.cells (some 71) (eC D' sp did))) id D' F did sp sid Fs∧Fw F h (h.set id (.cells (some 71) (eC D' sp did))):=by
 have f:Fw [id] h (h.set id (.cells (some 71) (eC D' sp did))):=Fw.set (by simp) hd.o
 obtain ⟨o,d,s,ty,so,rfl,n1,n2,n3,fl,kl⟩:=hd
 refine ⟨⟨q9z o,by rw[h1];exact d.mono f (by simp[Ne.symm n1]),fun hi=> ?_,ty,so,rfl,n1,n2,n3,fun j hj=> f.lt (fl j hj),h3⟩,f.mono (by simp)⟩
 obtain ⟨a,b⟩:=h2 hi
 obtain ⟨c,e⟩:=s a
 exact ⟨c,by rw[b];exact e.mono f (fun j hj=> by simp;rintro rfl;exact n2 hj)⟩
theorem uA.Pw {F Fs:List Nat} {h h':Hp} {id did sid:Nat} {D:aI} {sp:V} {K:Dk} (hd:uA h id D F did sp sid Fs) (hk:Ad.DR h' did K) (f:Fw [did] h h'):
 uA h' id {D with dk:=K} F did sp sid Fs∧Fw F h h':=by
 obtain ⟨o,d,s,ty,so,rfl,n1,n2,n3,fl,kl⟩:=hd
 exact ⟨⟨f.dw _ _ o (by simp[n1]),hk,fun hi=>⟨(s hi).1,(s hi).2.mono f (fun j hj=> by simp;rintro rfl;exact n3 hj)⟩,ty,so,rfl,n1,n2,n3,fun j hj=> f.lt (fl j hj),kl⟩,f.mono (by simp)⟩
theorem BT (b:Nat) (h:Hp) (id:Nat) (D:aI) (F:List Nat) (t:Int) (hF:∀j∈F,b≤j) (hd:lJ h id D F):
 ∃v h',run fns pr b 43 [.ptr id [0] 1,.s (.int .i64 t)] h=some (v,h')∧v= .bI []∧lJ h' id (D.down t) F∧Fw F h h':=by
 obtain ⟨did,sp,sid,Fs,hd⟩:=hd
 refine Vm.dZ (nt:=16) rfl SL (by simp) ?_
 obtain ⟨h1,f1⟩:=hd.Dl (D':= {D with is:=2,aO:= -1}) rfl (fun h=> by cases h) hd.kl
 have lU:b≤id:=hF _ (by rw[hd.f];simp)
 have xz:b≤did:=hF _ (by rw[hd.f];simp)
 obtain ⟨v2,H2,hc,rfl,d2,f2⟩:=Ad.HK b _ did D.dk t xz h1.d
 obtain ⟨h3,f3⟩:=h1.Pw d2 f2
 have hg:=hd.o
 have ij:∀B,(h.set id B)[id]? =some B:=fun B=> q9z hg
 have bW:=q6z hg
 have du:=hd.ty
 have jB:=hd.so
 simp only[eC,Ad.R] at hg hc
 simp only[B43,hg,ij,lU,bW,List.set_set,du,jB,hc,go_sem,↓reduceIte,Nat.reduceEqDiff,Nat.reduceBEq,Nat.reduceAdd,Nat.reduceSub,Nat.reduceLT,Nat.reduceLeDiff,Int.reduceLT,Int.reduceLE,Int.reduceEq,Int.reduceToNat]
 exact ⟨⟨did,sp,sid,Fs,h3⟩,f1.trans f3⟩
theorem rv (b:Nat) (h:Hp) (id:Nat) (D:aI) (F:List Nat) (hF:∀j∈F,b≤j) (hd:lJ h id D F) (hs:0≤D.steps∧D.steps < 4611686018427387904) (hfu:D.aO≤9223372036854775807):
 ∃v h',run fns pr b 32 [.ptr id [0] 1] h=some (v,h')∧v= .s (.bool D.step.1)∧lJ h' id D.step.2 F∧Fw F h h':=by
 have Hm:=BT b h id D F D.dJ hF hd
 obtain ⟨did,sp,sid,Fs,hd⟩:=hd
 refine Vm.dZ (nt:=33) rfl So (by simp) ?_
 have hg:=hd.o
 have ij:∀B,(h.set id B)[id]? =some B:=fun B=> q9z hg
 have bW:=q6z hg
 have du:=hd.ty
 have jB:=hd.so
 have lU:b≤id:=hF _ (by rw[hd.f];simp)
 have w1:IntKind.i64.wrap (D.steps+1)=D.steps+1:=wrap_i64 (by omega) (by omega)
 simp only[eC] at hg
 unfold aI.step
 by_cases c0:D.aO=0
 ·rw[if_pos c0]
  obtain ⟨v2,H2,e2,rfl,d2,f2⟩:=Hm
  simp only[B32,hg,ij,lU,bW,List.set_set,du,jB,c0,e2,go_sem,↓reduceIte,Nat.reduceEqDiff,Nat.reduceBEq,Nat.reduceAdd,Nat.reduceSub,Nat.reduceLT,Nat.reduceLeDiff,Int.reduceLT,Int.reduceLE,Int.reduceEq,Int.reduceToNat]
  exact ⟨d2,f2⟩
 ·rw[if_neg c0]
  obtain ⟨h1,f1⟩:=hd.Dl (D':= {D with aO:=if 0 < D.aO then D.aO - 1 else D.aO,steps:=D.steps+1}) rfl (fun h=>⟨h,rfl⟩) hd.kl
  by_cases c1:0 < D.aO
  ·have w2:IntKind.i64.wrap (D.aO - 1)=D.aO - 1:=wrap_i64 (by omega) (by omega)
   simp only[c1,if_true,eC] at h1 f1 ⊢
   simp only[B32,hg,ij,lU,bW,List.set_set,du,jB,c0,c1,w1,w2,go_sem,↓reduceIte,Nat.reduceEqDiff,Nat.reduceBEq,Nat.reduceAdd,Nat.reduceSub,Nat.reduceLT,Nat.reduceLeDiff,Int.reduceLT,Int.reduceLE,Int.reduceEq,Int.reduceToNat]
   exact ⟨⟨did,sp,sid,Fs,h1⟩,f1⟩
  ·simp only[c1,if_false,eC] at h1 f1 ⊢
   simp only[B32,hg,ij,lU,bW,List.set_set,du,jB,c0,c1,w1,go_sem,↓reduceIte,Nat.reduceEqDiff,Nat.reduceBEq,Nat.reduceAdd,Nat.reduceSub,Nat.reduceLT,Nat.reduceLeDiff,Int.reduceLT,Int.reduceLE,Int.reduceEq,Int.reduceToNat]
   exact ⟨⟨did,sp,sid,Fs,h1⟩,f1⟩
theorem gS (b:Nat) (h:Hp) (id:Nat) (D:aI) (F:List Nat) (hd:lJ h id D F):run fns pr b 12 [.ptr id [0] 1] h=some (D.r.enc,h):=by
 obtain ⟨did,sp,sid,Fs,hd⟩:=hd
 have hg:=fun X=> q10z hd.o X
 simp only[eC] at hg
 refine Vm.aU (nt:=7) rfl RJ (by simp) ?_
 simp only[B12,hg,ae.cF,ae.cG,ae.pV,List.take_left,go_sem,↓reduceIte,Nat.reduceEqDiff,Nat.reduceBEq,Nat.reduceAdd,Nat.reduceSub,Nat.reduceLT,Nat.reduceLeDiff,Int.reduceLT,Int.reduceLE,Int.reduceEq,Int.reduceToNat]
def fK (D:aI):Int:=if D.is=2 then 29 else if D.is=3 then 28 else 0
theorem HM (b:Nat) (h:Hp) (id:Nat) (D:aI) (F:List Nat) (hd:lJ h id D F):run fns pr b 25 [.ptr id [0] 1] h=some (.s (.int .i64 (fK D)),h):=by
 obtain ⟨did,sp,sid,Fs,hd⟩:=hd
 have hg:=hd.o
 simp only[eC] at hg
 refine Vm.aU (nt:=11) rfl Sa (by simp) ?_
 unfold fK
 by_cases c2:D.is=2
 ·simp only[B25,hg,c2,go_sem,↓reduceIte,Nat.reduceEqDiff,Nat.reduceBEq,Nat.reduceAdd,Nat.reduceSub,Nat.reduceLT,Nat.reduceLeDiff,Int.reduceLT,Int.reduceLE,Int.reduceEq,Int.reduceToNat]
  all_goals rfl
 ·by_cases c3:D.is=3
  ·simp only[B25,hg,c2,c3,go_sem,↓reduceIte,Nat.reduceEqDiff,Nat.reduceBEq,Nat.reduceAdd,Nat.reduceSub,Nat.reduceLT,Nat.reduceLeDiff,Int.reduceLT,Int.reduceLE,Int.reduceEq,Int.reduceToNat]
   all_goals rfl
  ·simp only[B25,hg,c2,c3,go_sem,↓reduceIte,Nat.reduceEqDiff,Nat.reduceBEq,Nat.reduceAdd,Nat.reduceSub,Nat.reduceLT,Nat.reduceLeDiff,Int.reduceLT,Int.reduceLE,Int.reduceEq,Int.reduceToNat]
   all_goals rfl
def aI.eR (D:aI) (n t:Int):aI:= {D with aO:=max n (-1),dJ:=t}
theorem BU (b:Nat) (h:Hp) (id:Nat) (D:aI) (F:List Nat) (n t:Int) (hF:∀j∈F,b≤j) (hd:lJ h id D F):
 ∃v h',run fns pr b 9 [.ptr id [0] 1,.s (.int .i64 n),.s (.int .i64 t)] h=some (v,h')∧v= .bI []∧lJ h' id (D.eR n t) F∧Fw F h h':=by
 obtain ⟨did,sp,sid,Fs,hd⟩:=hd
 refine Vm.dZ (nt:=15) rfl XQ (by simp) ?_
 have hg:=hd.o
 have ij:∀B,(h.set id B)[id]? =some B:=fun B=> q9z hg
 have bW:=q6z hg
 have lU:b≤id:=hF _ (by rw[hd.f];simp)
 have du:=hd.ty
 have jB:=hd.so
 obtain ⟨h1,f1⟩:=hd.Dl (D':=D.eR n t) rfl (fun h=>⟨h,rfl⟩) hd.kl
 simp only[eC] at hg
 simp only[eC,aI.eR] at h1 f1
 simp only[B9,hg,ij,lU,bW,List.set_set,du,jB,go_sem,↓reduceIte,Nat.reduceEqDiff,Nat.reduceBEq,Nat.reduceAdd,Nat.reduceSub,Nat.reduceLT,Nat.reduceLeDiff,Int.reduceLT,Int.reduceLE,Int.reduceEq,Int.reduceToNat]
 exact ⟨⟨did,sp,sid,Fs,h1⟩,f1⟩
def aI.stop (D:aI):aI:=if D.is=1 then D.down 0 else D
theorem K3 (b:Nat) (h:Hp) (id:Nat) (D:aI) (F:List Nat) (hF:∀j∈F,b≤j) (hd:lJ h id D F):
 ∃v h',run fns pr b 17 [.ptr id [0] 1] h=some (v,h')∧v= .bI []∧lJ h' id D.stop F∧Fw F h h':=by
 have Hm:=BT b h id D F 0 hF hd
 have HL:=hd
 obtain ⟨did,sp,sid,Fs,hd⟩:=hd
 have hg:=hd.o
 simp only[eC] at hg
 refine Vm.dZ (nt:=9) rfl RT (by simp) ?_
 unfold aI.stop
 by_cases c:D.is=1
 ·rw[if_pos c]
  obtain ⟨v2,H2,e2,rfl,d2,f2⟩:=Hm
  simp only[B17,hg,c,e2,go_sem,↓reduceIte,Nat.reduceEqDiff,Nat.reduceBEq,Nat.reduceAdd,Nat.reduceSub,Nat.reduceLT,Nat.reduceLeDiff,Int.reduceLT,Int.reduceLE,Int.reduceEq,Int.reduceToNat]
  exact ⟨d2,f2⟩
 ·rw[if_neg c]
  simp only[B17,hg,c,go_sem,↓reduceIte,Nat.reduceEqDiff,Nat.reduceBEq,Nat.reduceAdd,Nat.reduceSub,Nat.reduceLT,Nat.reduceLeDiff,Int.reduceLT,Int.reduceLE,Int.reduceEq,Int.reduceToNat]
  exact ⟨HL,Fw.refl _ _⟩
structure nB (p:Nat) (N:Int) (D:aI):Prop where
 dR:D.dk.dR≤p
 s0:0≤D.steps
 s1:D.steps≤N
 f1:D.aO≤9223372036854775807
 gr:ba D.r=true
 gw:D.r.wf
 so:D.is=1→j5 D.st
 is:D.is=1∨D.is=2∨D.is=3
theorem nB.wk {p p':Nat} {N N':Int} {D:aI} (hk:nB p N D) (h1:p≤p') (h2:N≤N'):nB p' N' D:=
 ⟨Nat.le_trans hk.dR h1,hk.s0,Int.le_trans hk.s1 h2,hk.f1,hk.gr,hk.gw,hk.so,hk.is⟩
theorem nB.down {p:Nat} {N:Int} {D:aI} (hk:nB p N D) (t:Int):nB 0 N (D.down t):=
 ⟨Nat.le_refl _,hk.s0,hk.s1,by simp[aI.down],hk.gr,hk.gw,fun h=> by simp[aI.down] at h,.inr (.inl rfl)⟩
theorem nB.step {p:Nat} {N:Int} {D:aI} (hk:nB p N D):nB p (N+1) D.step.2:=by
 unfold aI.step
 by_cases c:D.aO=0
 ·rw[if_pos c]
  exact (hk.down D.dJ).wk (by omega) (by omega)
 ·rw[if_neg c]
  obtain ⟨h1,h2,h3,h4,h5,h6,h7,h8⟩:=hk
  exact ⟨h1,by simp only;omega,by simp only;omega,by simp only;split <;> omega,h5,h6,h7,h8⟩
theorem nB.put {p:Nat} {N:Int} {D:aI} (hk:nB p N D) (n:Int) (l:Bs):nB (p+1) N (D.put n l):=by
 obtain ⟨h1,h2,h3,h4,h5,h6,h7,h8⟩:=hk
 refine ⟨?_,h2,h3,h4,h5,h6,h7,h8⟩
 unfold aI.put
 simp only
 split
 ·simp only[Dk.put];omega
 ·omega
theorem nB.sync {p:Nat} {N:Int} {D:aI} (hk:nB p N D):nB 0 N {D with dk:=D.dk.sync}:=by
 obtain ⟨h1,h2,h3,h4,h5,h6,h7,h8⟩:=hk
 exact ⟨Nat.le_refl _,h2,h3,h4,h5,h6,h7,h8⟩
theorem nB.Vr {p:Nat} {N:Int} {D:aI} (hk:nB p N D) (hf:D.step.1=false):nB 0 N D.step.2:=by
 unfold aI.step at hf ⊢
 by_cases c:D.aO=0
 ·rw[if_pos c]
  exact hk.down D.dJ
 ·rw[if_neg c] at hf;cases hf
theorem nB.lay {N:Int} {D:aI} (hk:nB 0 N D) (n:Int) (l:Bs):nB 0 (N+2) (D.lay n l).2:=by
 unfold aI.lay
 have k1:=hk.step
 cases c1:D.step.1 with
 | false=>
   rw[if_pos rfl]
   exact k1.wk (by omega) (by omega)
 | true=>
   rw[if_neg (by simp)]
   have k2:=k1.put n l
   have k3:=k2.step
   cases c3:(D.step.2.put n l).step.1 with
   | false=>
     rw[if_pos rfl]
     exact (k2.Vr c3).wk (by omega) (by omega)
   | true=>
     rw[if_neg (by simp)]
     have:=k3.sync
     rwa [show N+1+1=N+2 by omega] at this
def aI.same (D E:aI):Prop:=E.mem=D.mem∧E.bm=D.bm∧E.key=D.key∧E.st=D.st∧E.r=D.r
theorem aI.iI (D:aI):D.same D.step.2∧(D.step.1=true→D.step.2.is=D.is):=by
 unfold aI.step aI.same
 by_cases c:D.aO=0
 ·simp[c,aI.down]
 ·simp[c]
theorem aI.pb (D:aI) (n:Int) (l:Bs):D.same (D.lay n l).2∧((D.lay n l).1=true→(D.lay n l).2.is=D.is):=by
 unfold aI.lay
 obtain ⟨⟨a1,a2,a3,a4,a5⟩,a6⟩:=aI.iI D
 cases c1:D.step.1 with
 | false=>
   rw[if_pos rfl]
   exact ⟨⟨a1,a2,a3,a4,a5⟩,fun h=> by cases h⟩
 | true=>
   rw[if_neg (by simp)]
   obtain ⟨⟨b1,b2,b3,b4,b5⟩,b6⟩:=aI.iI (D.step.2.put n l)
   have hs:D.same (D.step.2.put n l).step.2:=⟨b1.trans a1,b2.trans a2,b3.trans a3,b4.trans a4,b5.trans a5⟩
   cases c3:(D.step.2.put n l).step.1 with
   | false=>
     rw[if_pos rfl]
     exact ⟨hs,fun h=> by cases h⟩
   | true=>
     rw[if_neg (by simp)]
     exact ⟨hs,fun _=>(b6 c3).trans (a6 c1)⟩
theorem K4 (b:Nat) (h:Hp) (id:Nat) (D:aI) (F:List Nat) (did:Nat) (sp:V) (sid:Nat) (Fs:List Nat) (n:Int) (y:V) (l:Bs) (hF:∀j∈F,b≤j) (hd:uA h id D F did sp sid Fs) (hy:BR h y l) (hl:l.length≤140737488355328) (hp:D.dk.dR < 4611686018427387904):
 ∃h',run fns pr b 61 [.ptr did [0] 1,.s (.int .i64 n),y] h=some (.s (.bool (Dk.jq n l)),h')∧uA h' id (D.put n l) F did sp sid Fs∧Fw F h h':=by
 have xz:b≤did:=hF _ (by rw[hd.f];simp)
 obtain ⟨v,h',e,rfl,d,f⟩:=Ad.Ps b h did D.dk n y l xz hd.d hy hl hp
 obtain ⟨h3,f3⟩:=hd.Pw d f
 exact ⟨h',e,h3,f3⟩
theorem HN (b:Nat) (h:Hp) (id:Nat) (D:aI) (F:List Nat) (did:Nat) (sp:V) (sid:Nat) (Fs:List Nat) (hF:∀j∈F,b≤j) (hd:uA h id D F did sp sid Fs):
 ∃h',run fns pr b 62 [.ptr did [0] 1] h=some (.bI [],h')∧uA h' id {D with dk:=D.dk.sync} F did sp sid Fs∧Fw F h h':=by
 have xz:b≤did:=hF _ (by rw[hd.f];simp)
 obtain ⟨v,h',e,rfl,d,f⟩:=Ad.ru b h did D.dk xz hd.d
 obtain ⟨h3,f3⟩:=hd.Pw d f
 exact ⟨h',e,h3,f3⟩
theorem HO (b:Nat) (h:Hp) (id:Nat) (D:aI) (F:List Nat) (n:Int) (y:V) (l:Bs) (hF:∀j∈F,b≤j) (hd:lJ h id D F) (N:Int) (hN:N < 1000000000) (hk:nB 0 N D) (hy:BR h y l) (hl:l.length≤140737488355328):
 ∃v h',run fns pr b 30 [.ptr id [0] 1,.s (.int .i64 n),y] h=some (v,h')∧v= .s (.bool (D.lay n l).1)∧lJ h' id (D.lay n l).2 F∧Fw F h h':=by
 refine Vm.dZ (nt:=25) rfl Sk (by simp) ?_
 have k1:=hk.step
 obtain ⟨v1,H1,e1,rfl,d1,f1⟩:=rv b h id D F hF hd ⟨hk.s0,by have:=hk.s1;omega⟩ hk.f1
 unfold aI.lay
 cases c1:D.step.1 with
 | false=>
   rw[c1] at e1
   rw[if_pos rfl]
   simp only[B30,e1,go_sem,↓reduceIte,Nat.reduceEqDiff,Nat.reduceBEq,Nat.reduceAdd,Nat.reduceSub,Nat.reduceLT,Nat.reduceLeDiff,Int.reduceLT,Int.reduceLE,Int.reduceEq,Int.reduceToNat]
   exact ⟨d1,f1⟩
 | true=>
   rw[c1] at e1
   rw[if_neg (by simp)]
   generalize D.step.2=D1 at *
   obtain ⟨did,sp,sid,Fs,p1⟩:=d1
   have cH:=p1.o
   simp only[eC] at cH
   obtain ⟨H2,e2,p2,f2⟩:=K4 b H1 id D1 F did sp sid Fs n y l hF p1 (hy.mono f1) hl (by have:=k1.dR;omega)
   obtain ⟨v3,H3,e3,rfl,d3,f3⟩:=rv b H2 id (D1.put n l) F hF ⟨did,sp,sid,Fs,p2⟩ ⟨k1.s0,by have:=k1.s1;show D1.steps < _;omega⟩ k1.f1
   cases c3:(D1.put n l).step.1 with
   | false=>
     rw[c3] at e3
     rw[if_pos rfl]
     simp only[B30,e1,cH,e2,e3,go_sem,↓reduceIte,Nat.reduceEqDiff,Nat.reduceBEq,Nat.reduceAdd,Nat.reduceSub,Nat.reduceLT,Nat.reduceLeDiff,Int.reduceLT,Int.reduceLE,Int.reduceEq,Int.reduceToNat]
     exact ⟨d3,f1.trans (f2.trans f3)⟩
   | true=>
     rw[c3] at e3
     rw[if_neg (by simp)]
     generalize (D1.put n l).step.2=D3 at *
     obtain ⟨did3,sp3,sid3,Fs3,p3⟩:=d3
     have xl:=p3.o
     simp only[eC] at xl
     obtain ⟨H4,e4,p4,f4⟩:=HN b H3 id D3 F did3 sp3 sid3 Fs3 hF p3
     simp only[B30,e1,cH,e2,e3,xl,e4,go_sem,↓reduceIte,Nat.reduceEqDiff,Nat.reduceBEq,Nat.reduceAdd,Nat.reduceSub,Nat.reduceLT,Nat.reduceLeDiff,Int.reduceLT,Int.reduceLE,Int.reduceEq,Int.reduceToNat]
     exact ⟨⟨_,_,_,_,p4⟩,f1.trans (f2.trans (f3.trans f4))⟩
def aI.lW (D:aI):Bs:=(jF D.key D.r (gR D.st)).1
def aI.fold (D:aI):Bool×aI:=
 if (D.lay (1 - D.r.aF) D.lW).1=false then (false,(D.lay (1 - D.r.aF) D.lW).2)
 else if (D.lay (1 - D.r.aF) D.lW).2.step.1=false then (false,(D.lay (1 - D.r.aF) D.lW).2.step.2)
 else (true, {(D.lay (1 - D.r.aF) D.lW).2.step.2 with r:=(gQ (D.lay (1 - D.r.aF) D.lW).2.step.2.r (cS D.lW)).1})
theorem sn (k:Bs) (r:ae) (l:Bs):(jF k r l).1.length≤8192:=by
 unfold jF
 split
 ·simp
 ·rw[pP _ _ _ _ (by omega) (by decide)];omega
theorem BV (b:Nat) (h:Hp) (id:Nat) (D:aI) (F:List Nat) (hF:∀j∈F,b≤j) (hd:lJ h id D F) (N:Int) (hN:N < 1000000000 - 10) (hk:nB 0 N D) (hi:D.is=1):
 ∃v h',run fns pr b 35 [.ptr id [0] 1] h=some (v,h')∧v= .s (.bool D.fold.1)∧lJ h' id D.fold.2 F∧Fw F h h':=by
 have HL:=hd
 obtain ⟨did,sp,sid,Fs,hd⟩:=hd
 obtain ⟨uB,aR⟩:=hd.s hi
 have mX:=fun b=> pa b h sid D.st Fs aR (hk.so hi)
 have hjs:=fun b=> HC b h (.al false none ((gR D.st).map aa)) D.key (gR D.st) D.r hd.kl hk.gw (cY _ _ _)
 have hpt:D.r.aF=0∨D.r.aF=1:=(q11z hk.gr).2.2.2.2.1
 have oj:=fun b H=> KZ b H D.r hpt
 have hil:=sn D.key D.r (gR D.st)
 obtain ⟨v1,H1,e1,rfl,d1,f1⟩:=HO b h id D F (1 - D.r.aF) (.al false none (D.lW.map aa)) D.lW hF HL N (by omega) hk (cY _ _ _) (by unfold aI.lW;omega)
 have k1:=hk.lay (1 - D.r.aF) D.lW
 obtain ⟨v2,H2,e2,rfl,d2,f2⟩:=rv b H1 id _ F hF d1 ⟨k1.s0,by have:=k1.s1;omega⟩ k1.f1
 have k2:=k1.step
 have s1:=(aI.pb D (1 - D.r.aF) D.lW).1
 have s2:=(aI.iI (D.lay (1 - D.r.aF) D.lW).2).1
 have hg:=hd.o
 have fV:(D.key.map aa).length=16:=by simp[hd.kl]
 refine Vm.dZ (nt:=49) rfl Sv (by simp) ?_
 unfold aI.fold
 have him:(jF D.key D.r (gR D.st)).1=D.lW:=rfl
 rw[him] at hjs
 simp only[eC,uB] at hg
 generalize (D.lay (1 - D.r.aF) D.lW)=L at *
 cases c1:L.1 with
 | false=>
   rw[c1] at e1
   rw[if_pos rfl]
   simp only[B35,hg,mX,hjs,oj,e1,bG,ae.cF,ae.cG,go_sem,↓reduceIte,Nat.reduceEqDiff,Nat.reduceBEq,Nat.reduceAdd,Nat.reduceSub,Nat.reduceLT,Nat.reduceLeDiff,Int.reduceLT,Int.reduceLE,Int.reduceEq,Int.reduceToNat]
   exact ⟨d1,f1⟩
 | true=>
   rw[c1] at e1
   rw[if_neg (by simp)]
   cases c2:L.2.step.1 with
   | false=>
     rw[c2] at e2
     rw[if_pos rfl]
     simp only[B35,hg,mX,hjs,oj,e1,bG,ae.cF,ae.cG,e2,go_sem,↓reduceIte,Nat.reduceEqDiff,Nat.reduceBEq,Nat.reduceAdd,Nat.reduceSub,Nat.reduceLT,Nat.reduceLeDiff,Int.reduceLT,Int.reduceLE,Int.reduceEq,Int.reduceToNat]
     exact ⟨d2,f1.trans f2⟩
   | true=>
     rw[c2] at e2
     rw[if_neg (by simp)]
     generalize L.2.step.2=D3 at *
     obtain ⟨did3,sp3,sid3,Fs3,p3⟩:=d2
     have xl:=p3.o
     have ij:∀B,(H2.set id B)[id]? =some B:=fun B=> q9z xl
     have bW:=q6z xl
     have lU:b≤id:=hF _ (by rw[hd.f];simp)
     have du:=p3.ty
     have jB:=p3.so
     have hfi:=fun b=> uw b H2 (.al false none (D.lW.map aa)) D.lW (cY _ _ _) (by unfold aI.lW;omega)
     have pW:=fun b=> KY b H2 D3.r (cS D.lW) k2.gw (bj _)
     obtain ⟨h4,f4⟩:=p3.Dl (D':= {D3 with r:=(gQ D3.r (cS D.lW)).1}) rfl (fun h=>⟨h,rfl⟩) p3.kl
     simp only[eC] at xl h4 f4
     simp only[B35,hg,mX,hjs,oj,e1,bG,ae.cF,ae.cG,e2,xl,ij,lU,bW,du,jB,hfi,pW,go_sem,↓reduceIte,Nat.reduceEqDiff,Nat.reduceBEq,Nat.reduceAdd,Nat.reduceSub,Nat.reduceLT,Nat.reduceLeDiff,Int.reduceLT,Int.reduceLE,Int.reduceEq,Int.reduceToNat]
     exact ⟨⟨_,_,_,_,h4⟩,f1.trans (f2.trans f4)⟩
def aI.frame (D:aI) (r:aq):Bs:=(kS D.key (D.r.count.toNat+1) D.r.head r).1
def aI.next (D:aI) (r:aq):ae×Bool:=ej D.r (dn D.r.head (D.frame r))
def aI.xA (D:aI) (r:aq):aI:= {(D.lay (aW D.r) (D.frame r)).2.step.2 with r:=(D.next r).1,st:=(bE (D.lay (aW D.r) (D.frame r)).2.step.2.st r).2}
def aI.do (D:aI) (r:aq):Int×aI:=
 if fK D≠0 then (fK D,D)
 else if bU D.st r≠0 then (bU D.st r,D)
 else if (D.next r).2=false then (31,D)
 else if (D.lay (aW D.r) (D.frame r)).1=false then (29,(D.lay (aW D.r) (D.frame r)).2)
 else if (D.lay (aW D.r) (D.frame r)).2.step.1=false then (29,(D.lay (aW D.r) (D.frame r)).2.step.2)
 else if bf (D.xA r).r=8 then (if (D.xA r).fold.1=false then 29 else 0,(D.xA r).fold.2)
 else (0,D.xA r)
theorem xB {r:aq} (hr:aS r=true) (hw:r.wf) (hv:∀v∈r.ai,v.wf):(mf r).length≤1000:=by
 have h4:=pU hr
 have sa:r.kind=3→∀v∈r.ai,aP v=true∧v.wf:=fun k3 v hm=> by
   have:rising r.ai=true:=by
     unfold aS at hr
     rw[k3] at hr
     simp at hr
     exact q32z hr.2
   unfold rising at this
   simp only[Bool.and_eq_true,decide_eq_true_eq,List.all_eq_true] at this
   exact ⟨this.1.2 v hm,hv v hm⟩
 have hv1:r.kind=1→(aZ r.av).length≤112:=fun k1=> q38z hw.av (by unfold aS at hr;rw[if_pos k1] at hr;simp at hr;simp[hr])
 unfold mf
 split
 ·have:=hv1 (by assumption)
  simp only[List.length_cons];omega
 ·split
  ·simp only[List.length_cons,bF];omega
  ·split
   ·have:=q37z (sa (by assumption))
    simp only[List.length_cons,List.length_append,bF];omega
   ·simp only[List.length_cons,bF];omega
theorem uC (D:aI) {r:aq} (hw:r.wf) (hv:∀v∈r.ai,v.wf) (hh:D.r.head.length=16):(D.frame r).length≤8192:=by
 unfold aI.frame kS
 split
 ·have:=xB (by assumption) hw hv
  rw[pP _ _ _ _ (by omega) (by omega)];omega
 ·simp
theorem uA.nA {F Fs Fs':List Nat} {h h':Hp} {id did sid:Nat} {D:aI} {sp:V} {S:bg} (hd:uA h id D F did sp sid Fs) (hi:D.is=1) (hs:gY h' sid S Fs') (f:Fw Fs h h') (hn:∀j∈Fs',j∈Fs∨h.length≤j):
 uA h' id {D with st:=S} (id::did::Fs') did sp sid Fs'∧Fw F h h'∧∀j∈id::did::Fs',j∈F∨h.length≤j:=by
 obtain ⟨o,d,s,ty,so,rfl,n1,n2,n3,fl,kl⟩:=hd
 have l1:=fl id (by simp)
 have l2:=fl did (by simp)
 refine ⟨⟨f.dw _ _ o n2,d.mono f n3,fun _=>⟨(s hi).1,hs⟩,ty,so,rfl,n1,fun hm=> ?_,fun hm=> ?_,fun j hj=> ?_,kl⟩,f.mono (fun j hj=> by simp[hj]),fun j hj=> ?_⟩
 ·rcases hn _ hm with h1 | h1
  ·exact n2 h1
  ·omega
 ·rcases hn _ hm with h1 | h1
  ·exact n3 h1
  ·omega
 ·simp only[List.mem_cons] at hj
  rcases hj with rfl | rfl | hj
  ·exact f.lt l1
  ·exact f.lt l2
  ·exact hs.lt _ hj
 ·simp only[List.mem_cons] at hj ⊢
  rcases hj with rfl | rfl | hj
  ·exact .inl (.inl rfl)
  ·exact .inl (.inr (.inl rfl))
  ·rcases hn _ hj with h1 | h1
   ·exact .inl (.inr (.inr h1))
   ·exact .inr h1
theorem q30z {r:ae} {hd:Bs} (hw:r.wf) (hl:hd.length=16) (h:(ej r hd).2=true):(ej r hd).1=⟨r.bw,r.count+1,r.base,hd,r.aF⟩∧ba r=true∧ba (ej r hd).1=true∧(ej r hd).1.wf:=by
 unfold ej vG at h ⊢
 split at h
 ·rename_i c
  rw[if_pos c]
  have:=q11z c.1
  obtain ⟨w1,w2,w3,w4,w5⟩:=hw
  exact ⟨rfl,c.1,c.2,⟨w1,by simp only;omega,w3,hl,w5⟩⟩
 ·cases h
theorem xC (b:Nat) (h:Hp) (id:Nat) (D:aI) (F:List Nat) (r:aq) (hF:∀j∈F,b≤j) (hd:lJ h id D F) (N:Int) (hN:N < 1000000000 - 20) (hk:nB 0 N D) (hw:r.wf) (hv:∀v∈r.ai,v.wf):
 ∃v h',run fns pr b 13 [.ptr id [0] 1,r.enc] h=some (v,h')∧v= .s (.int .i64 (D.do r).1)∧∃F',lJ h' id (D.do r).2 F'∧Fw F h h'∧∀j∈F',j∈F∨h.length≤j:=by
 have HL:=hd
 have nz:=fun b X=> HM b (h++X) id D F (hd.app X)
 have du:r.enc.ty=some 41:=rfl
 have jB:r.enc.ax=true:=rfl
 refine Vm.dZ (nt:=97) rfl RL (by simp) ?_
 unfold aI.do
 by_cases c0:fK D=0
 case neg=>
   rw[if_pos c0]
   simp only[B13,nz,c0,du,jB,go_sem,↓reduceIte,Nat.reduceEqDiff,Nat.reduceBEq,Nat.reduceAdd,Nat.reduceSub,Nat.reduceLT,Nat.reduceLeDiff,Int.reduceLT,Int.reduceLE,Int.reduceEq,Int.reduceToNat]
   exact ⟨F,HL.app _,Fw.app _ _ _,fun j hj=> .inl hj⟩
 rw[if_neg (by simp[c0])]
 have hi:D.is=1:=by
   unfold fK at c0
   have:=hk.is
   split at c0
   ·cases c0
   ·split at c0
    ·cases c0
    ·omega
 obtain ⟨did,sp,sid,Fs,hd⟩:=hd
 have hid:=hd.fl id (by rw[hd.f];simp)
 have hbh:b≤h.length:=by have:=hF id (by rw[hd.f];simp);omega
 have hFl:=hd.fl
 have fA:Fw [] h (h++[aV.cells (some 41) [r.enc]]):=Fw.app [] h _
 have dA:=hd.mono fA (by simp)
 have gA:(h++[aV.cells (some 41) [r.enc]])[h.length]? =some (aV.cells (some 41) [r.enc]):=aM _ _
 have lA:(h++[aV.cells (some 41) [r.enc]]).length=h.length+1:=by simp
 have nz:=fun b=> nz b [aV.cells (some 41) [r.enc]]
 generalize hHA:h++[aV.cells (some 41) [r.enc]]=HA at *
 have hgA:=dA.o
 obtain ⟨uB,aR⟩:=dA.s hi
 subst uB
 have yZ:=fun b=> xq b HA sid D.st Fs r aR (hk.so hi) hw hv
 simp only[eC] at hgA
 by_cases c1:bU D.st r=0
 case neg=>
   rw[if_pos c1]
   simp only[B13,hHA,nz,c0,du,jB,hgA,gA,yZ,c1,go_sem,↓reduceIte,Nat.reduceEqDiff,Nat.reduceBEq,Nat.reduceAdd,Nat.reduceSub,Nat.reduceLT,Nat.reduceLeDiff,Int.reduceLT,Int.reduceLE,Int.reduceEq,Int.reduceToNat]
   exact ⟨F,⟨_,_,_,_,dA⟩,fA.mono (by simp),fun j hj=> .inl hj⟩
 rw[if_neg (by simp[c1])]
 have hhl:=hk.gw.head
 have nq:=q11z hk.gr
 have hcw:=hk.gw.count
 have xD:=fun b=> HE b HA D.key D.r.head (D.r.count.toNat+1) r hd.kl hhl (by omega) hw hv
 have lT:IntKind.u64.wrap (D.r.count+1)=((D.r.count.toNat+1:Nat):Int):=by rw[wrap_u64 (by omega) (by omega)];omega
 have ma:=uC D hw hv hhl
 have X9:(kS D.key (D.r.count.toNat+1) D.r.head r).1=D.frame r:=rfl
 rw[X9] at xD
 have hhd:=fun b H=> xw b H (.al false none ((D.frame r).map aa)) D.r.head (D.frame r) hhl (cY _ _ _) (by omega)
 have Vs:(dn D.r.head (D.frame r)).length=16:=by simp[dn,dj,bj]
 have gN:=fun b H=> KW b H D.r (dn D.r.head (D.frame r)) hk.gw Vs
 have Vt:ej D.r (dn D.r.head (D.frame r))=D.next r:=rfl
 have Vu:=q30z (hd:=dn D.r.head (D.frame r)) hk.gw Vs
 rw[Vt] at Vu
 simp only[Vt] at gN
 have Vv:∀q:ae,q.enc=V.st 53 [.s (.int .u64 q.bw),.s (.int .u64 q.count),.s (.int .u64 q.base),.arr 25 (q.head.map aa),.s (.int .i64 q.aF)]:=fun q=> rfl
 have hDr:=Vv D.r
 have Y1:(D.key.map aa).length=16:=by simp[hd.kl]
 have o8:∀x,(decide (b≤HA.length) || x)=true:=fun x=> by rw[decide_eq_true (by omega)];rfl
 by_cases c2:(D.next r).2=true
 case neg=>
   have c2':(D.next r).2=false:=by simpa using c2
   rw[if_pos c2']
   rw[c2'] at gN
   rw[hDr] at hgA gN
   have hgAX:=fun X=> q10z hgA X
   simp only[B13,hHA,nz,c0,du,jB,hgA,gA,yZ,c1,xD,lT,hhd,gN,bG,ae.cF,ae.cG,o8,hgAX,go_sem,↓reduceIte,Nat.reduceEqDiff,Nat.reduceBEq,Nat.reduceAdd,Nat.reduceSub,Nat.reduceLT,Nat.reduceLeDiff,Int.reduceLT,Int.reduceLE,Int.reduceEq,Int.reduceToNat]
   exact ⟨F,⟨_,_,_,_,dA.mono (Fw.app [] HA _) (by simp)⟩,(fA.trans (Fw.app [] HA _)).mono (by simp),fun j hj=> .inl hj⟩
 rw[if_neg (by simp[c2])]
 obtain ⟨hn1,hn2,Hx,hn4⟩:=Vu c2
 rw[c2] at gN
 have fB:Fw [] HA (HA++[aV.cells (some 53) [(D.next r).1.enc]]):=Fw.app [] HA _
 have dB:lJ _ id D F:=⟨_,_,_,_,dA.mono fB (by simp)⟩
 have gB0:=fB.dw _ _ gA (by simp)
 have gB1:(HA++[aV.cells (some 53) [(D.next r).1.enc]])[HA.length]? =some (aV.cells (some 53) [(D.next r).1.enc]):=aM _ _
 have hgB:=(dA.mono fB (by simp)).o
 simp only[eC] at hgB
 have ra:=fun b H=> Hz b H D.r hk.gw
 obtain ⟨v1,H1,e1,rfl,d1,f1⟩:=HO b _ id D F (aW D.r) (.al false none ((D.frame r).map aa)) (D.frame r) hF dB N (by omega) hk (cY _ _ _) (by omega)
 have k1:=hk.lay (aW D.r) (D.frame r)
 obtain ⟨v2,H2,e2,rfl,d2,f2⟩:=rv b H1 id _ F hF d1 ⟨k1.s0,by have:=k1.s1;omega⟩ k1.f1
 have k2:=k1.step
 have s1:=aI.pb D (aW D.r) (D.frame r)
 have s2:=aI.iI (D.lay (aW D.r) (D.frame r)).2
 have fAB:=fA.trans fB
 have fh2:Fw F h H2:=(fAB.mono (by simp)).trans (f1.trans f2)
 have Vw:D.xA r= {(D.lay (aW D.r) (D.frame r)).2.step.2 with r:=(D.next r).1,st:=(bE (D.lay (aW D.r) (D.frame r)).2.step.2.st r).2}:=rfl
 rw[Vw]
 rw[hDr] at hgA hgB gN ra
 have hgAX:=fun X=> q10z hgA X
 have hnF:∀j,h.length≤j→j∉F:=fun j hj hm=> by have:=hFl j hm;omega
 have g10:=f1.dw _ _ gB0 (hnF _ (Nat.le_refl _))
 have g11:=f1.dw _ _ gB1 (hnF _ (by omega))
 have g20:=f2.dw _ _ g10 (hnF _ (Nat.le_refl _))
 have g21:=f2.dw _ _ g11 (hnF _ (by omega))
 generalize (D.lay (aW D.r) (D.frame r))=L at *
 generalize hHB:HA++[aV.cells (some 53) [(D.next r).1.enc]]=HB at *
 have Y2:=fun n H=> ae.pV n H (D.next r).1
 generalize (D.next r).1=nx at *
 cases c3:L.1 with
 | false=>
   rw[c3] at e1
   rw[if_pos rfl]
   simp only[B13,hHA,nz,c0,du,jB,hgA,gA,yZ,c1,xD,lT,hhd,gN,bG,ae.cF,ae.cG,o8,hHB,hgB,ra,e1,hgAX,go_sem,↓reduceIte,Nat.reduceEqDiff,Nat.reduceBEq,Nat.reduceAdd,Nat.reduceSub,Nat.reduceLT,Nat.reduceLeDiff,Int.reduceLT,Int.reduceLE,Int.reduceEq,Int.reduceToNat]
   exact ⟨F,d1,(fAB.mono (by simp)).trans f1,fun j hj=> .inl hj⟩
 | true=>
   rw[c3] at e1
   rw[if_neg (by simp)]
   cases c4:L.2.step.1 with
   | false=>
     rw[c4] at e2
     rw[if_pos rfl]
     simp only[B13,hHA,nz,c0,du,jB,hgA,gA,yZ,c1,xD,lT,hhd,gN,bG,ae.cF,ae.cG,o8,hHB,hgB,ra,e1,hgAX,e2,go_sem,↓reduceIte,Nat.reduceEqDiff,Nat.reduceBEq,Nat.reduceAdd,Nat.reduceSub,Nat.reduceLT,Nat.reduceLeDiff,Int.reduceLT,Int.reduceLE,Int.reduceEq,Int.reduceToNat]
     exact ⟨F,d2,fh2,fun j hj=> .inl hj⟩
   | true=>
     rw[c4] at e2
     rw[if_neg (by simp)]
     have i3:L.2.step.2.is=1:=by rw[s2.2 c4,s1.2 c3,hi]
     generalize L.2.step.2=D3 at *
     obtain ⟨did3,sp3,sid3,Fs3,p3⟩:=d2
     obtain ⟨Ya,Pn⟩:=p3.s i3
     subst Ya
     have xl:=p3.o
     have ij:∀B,(H2.set id B)[id]? =some B:=fun B=> q9z xl
     have bW:=q6z xl
     have lU:b≤id:=hF _ (by rw[hd.f];simp)
     obtain ⟨p4,f4⟩:=p3.Dl (D':= {D3 with r:=nx}) rfl (fun h=>⟨h,rfl⟩) p3.kl
     have k3:nB 0 (N+3) {D3 with r:=nx}:=by
       obtain ⟨z1,z2,z3,z4,z5,z6,z7,z8⟩:=k2
       exact ⟨z1,z2,by simp only;omega,z4,Hx,hn4,z7,z8⟩
     have g31:=f4.dw _ _ g20 (hnF _ (Nat.le_refl _))
     obtain ⟨Y3,Yb⟩:=p4.s i3
     have hFs3:∀j∈Fs3,b≤j:=fun j hj=> hF _ (by rw[p3.f];simp[hj])
     obtain ⟨v5,H5,e5,rfl,Fs5,Yc,f5,hn5⟩:=sg b _ sid3 D3.st Fs3 r hFs3 Yb (k2.so i3) hw hv
     obtain ⟨p5,f5',Vx⟩:=p4.nA i3 Yc f5 hn5
     have k5:nB 0 (N+3) {D3 with r:=nx,st:=(bE D3.st r).2}:=by
       obtain ⟨z1,z2,z3,z4,z5,z6,z7,z8⟩:=k3
       exact ⟨z1,z2,z3,z4,z5,z6,fun h=> ml (z7 h) hw hv,z8⟩
     have hF5:∀j∈id::did3::Fs5,b≤j:=fun j hj=> by
       rcases Vx j hj with h1 | h1
       ·exact hF j h1
       ·rw[List.length_set] at h1;omega
     have Bw:=fh2.len
     have hn5h:∀j∈id::did3::Fs5,j∈F∨h.length≤j:=fun j hj=> by
       rcases Vx j hj with h1 | h1
       ·exact .inl h1
       ·rw[List.length_set] at h1;exact .inr (by omega)
     have fh5:=fh2.trans (f4.trans f5')
     have FF:=fun b=> rq b H5 nx hn4
     have hg5:=p5.o
     simp only[eC] at xl hg5 e5
     simp only[eC] at g31
     by_cases c8:bf nx=8
     ·rw[if_pos c8]
      obtain ⟨v6,H6,e6,rfl,d6,f6⟩:=BV b H5 id _ _ hF5 ⟨_,_,_,_,p5⟩ (N+3) (by omega) k5 i3
      generalize ({D3 with r:=nx,st:=(bE D3.st r).2}:aI).fold=Z at *
      have fin:∃F',lJ H6 id Z.2 F'∧Fw F h H6∧∀j∈F',j∈F∨h.length≤j:=⟨_,d6,fh5.new f6 (fun j hj=>(hn5h j hj).symm),hn5h⟩
      cases c9:Z.1 with
      | false=>
        rw[c9] at e6
        simp only[B13,hHA,nz,c0,du,jB,hgA,gA,yZ,c1,xD,lT,hhd,gN,bG,ae.cF,ae.cG,o8,hHB,hgB,ra,e1,hgAX,e2,xl,ij,lU,bW,g20,g21,g31,e5,hg5,FF,c8,e6,go_sem,↓reduceIte,Nat.reduceEqDiff,Nat.reduceBEq,Nat.reduceAdd,Nat.reduceSub,Nat.reduceLT,Nat.reduceLeDiff,Int.reduceLT,Int.reduceLE,Int.reduceEq,Int.reduceToNat]
        exact fin
      | true=>
        rw[c9] at e6
        simp only[B13,hHA,nz,c0,du,jB,hgA,gA,yZ,c1,xD,lT,hhd,gN,bG,ae.cF,ae.cG,o8,hHB,hgB,ra,e1,hgAX,e2,xl,ij,lU,bW,g20,g21,g31,e5,hg5,FF,c8,e6,go_sem,↓reduceIte,Nat.reduceEqDiff,Nat.reduceBEq,Nat.reduceAdd,Nat.reduceSub,Nat.reduceLT,Nat.reduceLeDiff,Int.reduceLT,Int.reduceLE,Int.reduceEq,Int.reduceToNat]
        exact fin
     ·rw[if_neg c8]
      simp only[B13,hHA,nz,c0,du,jB,hgA,gA,yZ,c1,xD,lT,hhd,gN,bG,ae.cF,ae.cG,o8,hHB,hgB,ra,e1,hgAX,e2,xl,ij,lU,bW,g20,g21,g31,e5,hg5,FF,c8,go_sem,↓reduceIte,Nat.reduceEqDiff,Nat.reduceBEq,Nat.reduceAdd,Nat.reduceSub,Nat.reduceLT,Nat.reduceLeDiff,Int.reduceLT,Int.reduceLE,Int.reduceEq,Int.reduceToNat]
      exact ⟨_,⟨_,_,_,_,p5⟩,fh5,hn5h⟩
theorem iA {n:Nat} {m:Bs} (hm:m.length=n) (rest:Bs) (bad:Bool):aE n (m++rest,bad)=(m,(rest,bad)):=by
 subst hm
 unfold aE
 rw[if_pos (by simp)]
 simp
theorem pc (x:UInt8) (rest:Bs) (bad:Bool):aE 1 (x::rest,bad)=([x],(rest,bad)):=iA (m:=[x]) rfl rest bad
theorem pd (x:UInt8):aG [x]=x.toNat:=rfl
theorem iP {n:Int} (h0:0≤n) (h1:n < 256):(((bt n).toNat:Nat):Int)=n:=by
 obtain ⟨m,rfl⟩:∃m:Nat,n=m:=⟨n.toNat,by omega⟩
 have:∀m:Nat,m < 256→(bt (m:Int)).toNat=m:=by decide+kernel
 rw[this m (by omega)]
theorem Vy (x:Nat):(UInt8.ofNat (x % 256)).toNat=x % 256:=by simp
theorem mq (n:Nat) (hn:n < 18446744073709551616):jm (bB n)=n:=by
 have s:∀j,n / 256 ^ j=256 *(n / 256 ^(j+1))+n / 256 ^ j % 256:=fun j=> by
   rw[Nat.pow_succ,←Nat.div_div_eq_div_mul];omega
 have e8:n / 256 ^ 8=0:=Nat.div_eq_of_lt (by omega)
 have e0:n / 256 ^ 0=n:=by simp
 simp only[jm,bB,List.range_succ,List.range_zero,List.nil_append,List.map_append,List.map_cons,List.map_nil,List.cons_append,List.foldl_cons,List.foldl_nil,Vy,Nat.reduceSub]
 have s0:=s 0
 have s1:=s 1
 have s2:=s 2
 have s3:=s 3
 have s4:=s 4
 have s5:=s 5
 have s6:=s 6
 have s7:=s 7
 clear s hn
 simp only[Nat.reduceAdd] at s0 s1 s2 s3 s4 s5 s6 s7
 rw[e8] at s7
 generalize n / 256 ^ 0=d0 at *
 generalize n / 256 ^ 1=d1 at *
 generalize n / 256 ^ 2=d2 at *
 generalize n / 256 ^ 3=d3 at *
 generalize n / 256 ^ 4=d4 at *
 generalize n / 256 ^ 5=d5 at *
 generalize n / 256 ^ 6=d6 at *
 generalize n / 256 ^ 7=d7 at *
 omega
theorem HP (v:ag) (hr:aP v=true):mg (ug v).toNat=false∧(!decide ((ug v).toNat=0))=v.gone∧decide ((ug v).toNat=3)=v.qq:=by
 unfold aP at hr
 unfold ug mg
 cases hg:v.gone <;> cases hw:v.qq <;> simp_all <;> decide
theorem sq (v:ag) (hw:v.wf) (hr:aP v=true) (rest:Bs) (bad:Bool):cA (aZ v++rest,bad)=(v,(rest,bad)):=by
 obtain ⟨f1,f2,f3⟩:=HP v hr
 have hr0:=hr
 unfold aP at hr
 obtain ⟨w1,w2,w3,w4,w5,w6,w7,w8,w9⟩:=hw
 have Af:0≤v.bX∧v.bX < 256∧0≤v.used∧v.used < 256∧0≤v.gen∧v.gen < 18446744073709551616∧v.bY.length < 256:=by
   cases hg:v.gone <;> simp_all <;> omega
 obtain ⟨l1,l2,l3,l4,l5,l6,l7⟩:=Af
 have e1:(((bt v.bX).toNat:Nat):Int)=v.bX:=iP l1 l2
 have e2:(((bt v.used).toNat:Nat):Int)=v.used:=iP l3 l4
 have e3:(bt (v.bY.length:Int)).toNat=v.bY.length:=by have:=iP (n:=(v.bY.length:Int)) (by omega) (by omega);omega
 have e4:((jm (bB v.gen.toNat):Nat):Int)=v.gen:=by rw[mq _ (by omega)];omega
 have q1:=iA (n:=4) (m:=v.iD) (by simpa using w1)
 have q3:=iA (n:=16) (m:=v.qY) (by simpa using w3)
 have q7:=iA (n:=16) (m:=v.owner) (by simpa using w7)
 unfold cA aZ
 simp only[List.append_assoc,List.cons_append,List.nil_append,q1,iA (bF _),pc,pd,f1,Bool.or_false,q3,q7,lG,e3,iA (m:=v.bY) rfl,e1,e2,e4,f2,f3]
 rw[hr0]
 simp
theorem Na (l:List ag) (hw:∀v∈l,v.wf) (hr:∀v∈l,aP v=true) (rest:Bs) (bad:Bool):∀n,n≤l.length→rl n (l.flatMap aZ++rest,bad)=(l.take n,((l.drop n).flatMap aZ++rest,bad))
 | 0,_=> rfl
 | n+1,hn=> by
   have ih:=Na l hw hr rest bad n (by omega)
   have hd:l.drop n=l[n]::l.drop (n+1):=List.drop_eq_getElem_cons (by omega)
   have hm:l[n]∈l:=List.getElem_mem _
   simp only[rl]
   rw[ih,hd,List.flatMap_cons,List.append_assoc,sq _ (hw _ hm) (hr _ hm),List.take_succ_eq_append_getElem (by omega)]
theorem Px (r:aq) (hw:r.wf) (G9:∀v∈r.ai,v.wf) (hr:aS r=true):nu (mf r,false)=(r,([],false)):=by
 have hr0:=hr
 obtain ⟨kind,aA,dz,aD,av,ai⟩:=r
 obtain ⟨w1,w2,w3,w4,w5,w6⟩:=hw
 simp only at w1 w2 w3 w4 w5 w6 G9
 rcases q33z hr with hk | hk | hk | hk
 all_goals simp only at hk;subst hk
 all_goals simp only[aS,kK,Int.reduceEq,if_true,if_false,Bool.and_eq_true,decide_eq_true_eq] at hr
 ·obtain ⟨⟨⟨⟨h1,h2⟩,h3⟩,h4⟩,h5⟩:=hr
  obtain rfl:ai=[]:=List.eq_nil_of_length_eq_zero h5
  subst h2 h3 h4
  have hv:=sq av w5 h1 [] false
  rw[List.append_nil] at hv
  simp only[nu,mf,pc,pd,if_true,hv,show (bt 1).toNat=1 from rfl]
 ·obtain ⟨⟨⟨⟨⟨⟨⟨h1,h2⟩,h3⟩,h4⟩,h5⟩,h6⟩,h7⟩,h8⟩:=hr
  obtain rfl:ai=[]:=List.eq_nil_of_length_eq_zero h8
  subst h5
  have e1:(((bt aA).toNat:Nat):Int)=aA:=iP h3 (by omega)
  have e2:(((bt dz).toNat:Nat):Int)=dz:=iP h6 (by omega)
  have e3:((jm (bB aD.toNat):Nat):Int)=aD:=by rw[mq _ (by omega)];omega
  have hn:=iA (bF aD.toNat) [] false
  rw[List.append_nil] at hn
  simp only[nu,mf,pc,pd,if_true,show (bt 2).toNat=2 from rfl,hn,e1,e2,e3,show ((2:Int)=1)=False from by simp,show ((2:Nat)=1)=False from by simp,if_false]
 ·obtain ⟨⟨⟨⟨⟨⟨h1,h2⟩,h3⟩,h4⟩,h5⟩,h6⟩,h8⟩:=hr
  subst h5 h6
  have jC:∀v∈ai,aP v=true:=fun v hv=> by
    unfold dd at h8
    rw[Bool.and_eq_true,List.all_eq_true] at h8
    obtain ⟨i,hi,rfl⟩:=List.getElem_of_mem hv
    have:=h8.2 i (List.mem_range.2 hi)
    unfold g9 at this
    rw[Bool.and_eq_true,List.getD,List.getElem?_eq_getElem hi] at this
    exact this.1
  have hl4:ai.length≤4:=by
    unfold dd at h8
    rw[Bool.and_eq_true,decide_eq_true_eq] at h8
    exact h8.1
  have e1:(((bt aA).toNat:Nat):Int)=aA:=iP h3 (by omega)
  have e2:(bt (ai.length:Int)).toNat=ai.length:=by have:=iP (n:=(ai.length:Int)) (by omega) (by omega);omega
  have e3:((jm (bB aD.toNat):Nat):Int)=aD:=by rw[mq _ (by omega)];omega
  have hm:min ai.length 5=ai.length:=by omega
  have hv:=Na ai G9 jC [] false ai.length (Nat.le_refl _)
  rw[List.append_nil,List.take_length,List.drop_length] at hv
  simp only[nu,mf,pc,pd,if_true,show (bt 3).toNat=3 from rfl,iA (bF aD.toNat),e1,e2,e3,hm,hv,show ((3:Int)=1)=False from by simp,show ((3:Nat)=1)=False from by simp,show ((3:Int)=2)=False from by simp,show ((3:Nat)=2)=False from by simp,if_false,List.flatMap_nil,List.append_nil]
 ·obtain ⟨⟨⟨⟨⟨⟨h1,h2⟩,h3⟩,h4⟩,h5⟩,h6⟩,h8⟩:=hr
  obtain rfl:ai=[]:=List.eq_nil_of_length_eq_zero h8
  subst h5 h6
  have e1:(((bt aA).toNat:Nat):Int)=aA:=iP h3 (by omega)
  have e3:((jm (bB aD.toNat):Nat):Int)=aD:=by rw[mq _ (by omega)];omega
  have hn:=iA (bF aD.toNat) [] false
  rw[List.append_nil] at hn
  simp only[nu,mf,pc,pd,if_true,show (bt 4).toNat=4 from rfl,hn,e1,e3,show ((4:Int)=1)=False from by simp,show ((4:Nat)=1)=False from by simp,show ((4:Int)=2)=False from by simp,show ((4:Nat)=2)=False from by simp,show ((4:Int)=3)=False from by simp,show ((4:Nat)=3)=False from by simp,if_false]
theorem HQ (r:aq) (hw:r.wf) (G9:∀v∈r.ai,v.wf) (hr:aS r=true):mh (mf r)=(r,0):=by
 unfold mh
 rw[Px r hw G9 hr]
 simp[hr]
theorem Ag (v:ag):v.enc.plain=true:=by simp only[ag.enc,go_sem]
theorem pX (r:aq):r.enc.plain=true:=by
 have h1:=Ag r.av
 have h2:=kQ r.ai
 simp only[aq.enc,go_sem,h1,h2]
theorem Ah (l:List aq):V.plain.all (l.map aq.enc)=true:=by
 rw[eK]
 intro v hv
 obtain ⟨w,_,rfl⟩:=List.mem_map.1 hv
 exact pX w
theorem K5 (n:Nat) (h:Hp) (r:aq):bA n h r.enc=some r.enc:=pY n h _ (pX r)
theorem jG (r:aq):r.enc.ty=some 41:=rfl
theorem jH (r:aq):r.enc.ax=true:=rfl
theorem pZ (r:aq):r.enc.ground=true:=kL _ (pX r)
def j7 (k:Bs) (n:Nat) (prev l:Bs):aq×Int:=match nG k n prev l with
 | none=>(jn,30)
 | some t=> mh t
theorem HR (b:Nat) (h:Hp) (k prev l:Bs) (n:Nat) (hk:k.length=16) (hp:prev.length=16) (hn:n < 18446744073709551616):run fns pr b 101 [.arr 25 (k.map aa),.s (.int .u64 n),.arr 25 (prev.map aa),.al false none (l.map aa)] h=some (.bI [(j7 k n prev l).1.enc,.s (.int .i64 (j7 k n prev l).2)],h):=by
 refine Vm.aU (nt:=28) rfl NF (by simp) ?_
 have fV:(k.map aa).length=16:=by simp[hk]
 have ra:(prev.map aa).length=16:=by simp[hp]
 generalize hZ:(aV.cells (some 41) [V.st 41 [.s (.int .i64 0),.s (.int .i64 0),.s (.int .i64 0),.s (.int .u64 0),V.st 31 [z4 27,ku,bC 25,kx,ki,ki,bC 25,.s (.bool false),.s (.bool false)],.al false (some 31) []]])=Z
 generalize hGd:h++[aV.cells (some 25) [V.arr 25 (k.map aa)],aV.cells (some 25) [V.arr 25 (prev.map aa)],Z]=G
 have g1:G[h.length+1]? =some (aV.cells (some 25) [V.arr 25 (prev.map aa)]):=by rw[←hGd];exact aK _ _ 1
 have FE:=Rd.mk' (h:=G) (x:= .ref (h.length+1) [0] none 0 prev.length 1) (l:=prev) (zU g1) rfl
 rw[hp] at FE
 have ah:=fun b=> BB b G (.ref (h.length+1) [0] none 0 16 1) (.al false none (l.map aa)) k prev l n hk hn FE (cY _ _ _)
 have g0:G[h.length]? =some (aV.cells (some 25) [V.arr 25 (k.map aa)]):=by rw[←hGd];exact aK _ _ 0
 have g2:G[h.length+2]? =some Z:=by rw[←hGd];exact aK _ _ 2
 have eA:∀B,(G.set (h.length+2) B).take h.length=h:=fun B=> by rw[List.take_set_of_le (by omega),←hGd,List.take_left]
 have Y4:G.take h.length=h:=by rw[←hGd,List.take_left]
 have ij:∀B,(G.set (h.length+2) B)[h.length+2]? =some B:=fun B=> q9z g2
 subst hZ
 unfold j7
 cases hq:nG k n prev l with
 | none=>
   rw[hq] at ah
   simp only[nH] at ah
   simp only[J9,fV,ra,hGd,g0,g1,g2,ah,bG,ij,eA,go_sem,↓reduceIte,Nat.reduceEqDiff,Nat.reduceBEq,Nat.reduceAdd,Nat.reduceSub,Nat.reduceLT,Nat.reduceLeDiff,Int.reduceLT,Int.reduceLE,Int.reduceEq,Int.reduceToNat]
   all_goals rfl
 | some t=>
   rw[hq] at ah
   simp only[nH] at ah
   have htr:=fun b H=> xg b H false t
   simp only[J9,fV,ra,hGd,g0,g1,g2,ah,bG,ij,eA,htr,jG,jH,K5,go_sem,↓reduceIte,Nat.reduceEqDiff,Nat.reduceBEq,Nat.reduceAdd,Nat.reduceSub,Nat.reduceLT,Nat.reduceLeDiff,Int.reduceLT,Int.reduceLE,Int.reduceEq,Int.reduceToNat]
def iq (k:Bs) (K:Dk) (r:ae):Bs×Bs×Int:=
 if r.base=0 then ([],bN,0) else match K.get r.aF with
  | none=>([],bN,30)
  | some l=> match nG k r.base.toNat mn l with
    | some t=>(t,cS l,0)
    | none=>([],cS l,30)
theorem BW {K:Dk} (hk:K.OK) {n:Int} {l:Bs} (h:K.get n=some l):l.length≤8192:=by
 unfold Dk.get at h
 split at h
 ·have:=hk.ns n.toNat
  rw[h] at this
  exact this
 ·cases h
theorem K6 (b:Nat) (h:Hp) (did:Nat) (k:Bs) (K:Dk) (r:ae) (hk:k.length=16) (hw:r.wf) (hd:Ad.DR h did K):run fns pr b 99 [.arr 25 (k.map aa),.ptr did [0] 1,r.enc] h=some (.bI [.al false none ((iq k K r).1.map aa),.arr 25 ((iq k K r).2.1.map aa),.s (.int .i64 (iq k K r).2.2)],h):=by
 refine Vm.aU (nt:=41) rfl Uz (by simp) ?_
 have fV:(k.map aa).length=16:=by simp[hk]
 have tY:=hd.lt
 have dE:=fun b X=> Ad.HJ b (h++X) did K r.aF (hd.mono (Fw.app [] h X) (by simp))
 have him:∀f H,Rd H (.al f none (mn.map aa)) mn:=fun f H=> BR.rd (cY H f mn)
 have hiw:mn.map aa=[.s (.int .u8 105),.s (.int .u8 109),.s (.int .u8 97),.s (.int .u8 103),.s (.int .u8 101)]:=rfl
 have ah:=fun b f X l=> BB b (h++X) (.al f none (mn.map aa)) (.al false none (l.map aa)) k mn l r.base.toNat hk (by have:=hw.base;omega) (him f _) (cY _ _ _)
 have hc:((r.base.toNat:Nat):Int)=r.base:=by have:=hw.base;omega
 rw[hc,hiw] at ah
 have hz:V.arr 25 (bN.map aa)=bC 25:=rfl
 have tL:(bN.map aa).length=16:=rfl
 unfold iq
 obtain ⟨bw,count,base,head,aF⟩:=r
 simp only[Ad.R] at *
 by_cases c0:base=0
 ·rw[if_pos c0]
  simp only[B99,ae.enc,fV,c0,List.take_left,List.map_nil,go_sem,↓reduceIte,Nat.reduceEqDiff,Nat.reduceBEq,Nat.reduceAdd,Nat.reduceSub,Nat.reduceLT,Nat.reduceLeDiff,Int.reduceLT,Int.reduceLE,Int.reduceEq,Int.reduceToNat]
  all_goals rfl
 rw[if_neg c0]
 cases hq:K.get aF with
 | none=>
   rw[hq] at dE
   simp only[Option.getD_none,Option.isSome_none,List.map_nil] at dE
   simp only[B99,ae.enc,fV,c0,dE,List.take_left,List.map_nil,go_sem,↓reduceIte,Nat.reduceEqDiff,Nat.reduceBEq,Nat.reduceAdd,Nat.reduceSub,Nat.reduceLT,Nat.reduceLeDiff,Int.reduceLT,Int.reduceLE,Int.reduceEq,Int.reduceToNat]
   all_goals rfl
 | some l=>
   rw[hq] at dE
   simp only[Option.getD_some,Option.isSome_some] at dE
   have ah:=fun b f X=> ah b f X l
   have n9:=BW hd.ok hq
   have hfi:=fun b X=> uw b (h++X) (.al false none (l.map aa)) l (cY _ _ _) (by omega)
   have hsl:((cS l).map aa).length=16:=by simp[bj]
   cases ho:nG k base.toNat mn l with
   | none=>
     rw[ho] at ah
     simp only[nH] at ah
     simp only[B99,ae.enc,fV,c0,dE,ah,hfi,hsl,bG,List.take_left,go_sem,↓reduceIte,Nat.reduceEqDiff,Nat.reduceBEq,Nat.reduceAdd,Nat.reduceSub,Nat.reduceLT,Nat.reduceLeDiff,Int.reduceLT,Int.reduceLE,Int.reduceEq,Int.reduceToNat]
     all_goals first | (rw[ho];done) | (rw[ho];rfl)
   | some t=>
     rw[ho] at ah
     simp only[nH] at ah
     simp only[B99,ae.enc,fV,c0,dE,ah,hfi,hsl,bG,List.take_left,go_sem,↓reduceIte,Nat.reduceEqDiff,Nat.reduceBEq,Nat.reduceAdd,Nat.reduceSub,Nat.reduceLT,Nat.reduceLeDiff,Int.reduceLT,Int.reduceLE,Int.reduceEq,Int.reduceToNat]
     all_goals first | (rw[ho];done) | (rw[ho];rfl)
def bM (k:Bs) (K:Dk) (base:Nat) (h:Bs):Nat→Option (List aq×Bs)
 | 0=> some ([],h)
 | n+1=> match bM k K base h n with
   | none=> none
   | some (l,h1)=> if (K.get (2+(n:Nat))).isSome=false∨(j7 k (base+n+1) h1 ((K.get (2+(n:Nat))).getD [])).2≠0 then none
     else some (l++[(j7 k (base+n+1) h1 ((K.get (2+(n:Nat))).getD [])).1],dn h1 ((K.get (2+(n:Nat))).getD []))
theorem q28z {k:Bs} {K:Dk} {base:Nat} {h:Bs} {n:Nat} (hn:bM k K base h n=none):∀m,bM k K base h (n+m)=none
 | 0=> hn
 | m+1=> by rw[←Nat.add_assoc,bM,q28z hn m]
theorem mr {k:Bs} {K:Dk} {base:Nat} {h:Bs}:∀ {n:Nat} {l:List aq} {h1:Bs},bM k K base h n=some (l,h1)→l.length=n
 | 0,l,h1,e=> by cases e;rfl
 | n+1,l,h1,e=> by
   rw[bM] at e
   split at e
   ·cases e
   ·rename_i l2 h2 e2
    have:=mr e2
    split at e
    ·cases e
    ·cases e;simp[this]
theorem Ai {k:Bs} {K:Dk} {base:Nat} {h:Bs} (hh:h.length=16):∀ {n:Nat} {l:List aq} {h1:Bs},bM k K base h n=some (l,h1)→h1.length=16
 | 0,l,h1,e=> by cases e;exact hh
 | n+1,l,h1,e=> by
   rw[bM] at e
   split at e
   ·cases e
   ·split at e
    ·cases e
    ·cases e;simp[dn,dj,bj]
def jr (k:Bs) (K:Dk) (r:ae):Bs×List aq×Int:=
 if ba r=false then ([],[],1) else if (iq k K r).2.2≠0 then ([],[],(iq k K r).2.2)
 else match bM k K r.base.toNat (iq k K r).2.1 (bf r).toNat with
   | none=>([],[],30)
   | some (l,h)=> if h=r.head then ((iq k K r).1,l,0) else ([],[],30)
theorem HS (k:Bs) (K:Dk) (r:ae):(iq k K r).2.1.length=16:=by
 unfold iq
 split
 ·rfl
 ·split
  ·rfl
  ·split
   ·exact bj _
   ·exact bj _
def qB (x:Bs×List aq×Int):V:= .bI [.al false none (x.1.map aa),.al false (some 41) (x.2.1.map aq.enc),.s (.int .i64 x.2.2)]
theorem K7 (b:Nat) (h:Hp) (did:Nat) (k:Bs) (K:Dk) (r:ae) (hk:k.length=16) (hw:r.wf) (hd:Ad.DR h did K):run fns pr b 72 [.arr 25 (k.map aa),.ptr did [0] 1,r.enc] h=some (qB (jr k K r),h):=by
 refine Vm.aU (nt:=81) rfl TN (by simp) ?_
 have fV:(k.map aa).length=16:=by simp[hk]
 have wK:=fun b H=> o9 b H r hw
 have FF:=fun b H=> rq b H r hw
 have hba:=fun b X=> K6 b (h++X) did k K r hk hw (hd.mono (Fw.app [] h X) (by simp))
 have tI:=HS k K r
 unfold jr
 cases hr:ba r with
 | false=>
   rw[if_pos rfl]
   simp only[B72,Bo,Bn,ae.cF,ae.cG,fV,wK,hr,List.take_left,qB,List.map_nil,go_sem,↓reduceIte,Nat.reduceEqDiff,Nat.reduceBEq,Nat.reduceAdd,Nat.reduceSub,Nat.reduceLT,Nat.reduceLeDiff,Int.reduceLT,Int.reduceLE,Int.reduceEq,Int.reduceToNat]
 | true=>
   rw[if_neg (by simp)]
   rw[hr] at wK
   generalize hB:iq k K r=B at *
   obtain ⟨im,h0,why⟩:=B
   simp only at tI hba ⊢
   have hbm:(h0.map aa).length=16:=by simp[tI]
   by_cases c0:why=0
   case neg=>
     rw[if_pos c0]
     simp only[B72,Bo,Bn,ae.cF,ae.cG,fV,wK,hba,bG,c0,List.take_left,qB,List.map_nil,go_sem,↓reduceIte,Nat.reduceEqDiff,Nat.reduceBEq,Nat.reduceAdd,Nat.reduceSub,Nat.reduceLT,Nat.reduceLeDiff,Int.reduceLT,Int.reduceLE,Int.reduceEq,Int.reduceToNat]
   rw[if_neg (by simp[c0])]
   have Af:=q11z hr
   obtain ⟨w1,w2,w3,w4,w5⟩:=hw
   obtain ⟨N,hN⟩:∃N:Nat,bf r=N:=⟨(bf r).toNat,by have:=iO r ⟨w1,w2,w3,w4,w5⟩;omega⟩
   have hN8:N≤8:=by have:=iO r ⟨w1,w2,w3,w4,w5⟩;omega
   rw[hN] at FF ⊢
   simp only[Int.toNat_natCast]
   have hDr:r.enc=V.st 53 [.s (.int .u64 r.bw),.s (.int .u64 r.count),.s (.int .u64 r.base),.arr 25 (r.head.map aa),.s (.int .i64 r.aF)]:=rfl
   rw[hDr] at wK FF hba ⊢
   simp only[B72,Bo,Bn,fV,wK,hba,bG,c0,FF,go_sem,↓reduceIte,Nat.reduceEqDiff,Nat.reduceBEq,Nat.reduceAdd,Nat.reduceSub,Nat.reduceLT,Nat.reduceLeDiff,Int.reduceLT,Int.reduceLE,Int.reduceEq,Int.reduceToNat]
   have ma:∀i,i < N→bM k K r.base.toNat h0 (i+1)=none→bM k K r.base.toNat h0 N=none:=fun i hi hn=> by
     have:=q28z hn (N - (i+1))
     rwa [show i+1+(N - (i+1))=N by omega] at this
   refine bh (fun q e H=>∃(i:Nat) (l:List aq) (hd:Bs) (ko:Nat) (out:V),q=N - i∧i≤N∧e 38= .s (.int .i64 (i:Nat))∧e 37= .s (.int .i64 (N:Nat))∧e 1= .ptr did [0] 1∧e 3= .ptr h.length [0] 1∧e 5= .ptr (h.length+1) [0] 1∧e 10= .ptr (h.length+2) [0] 1∧e 9= .al false none (im.map aa)∧e 12=out∧
       bM k K r.base.toNat h0 i=some (l,hd)∧H[h.length]? =some (.cells (some 25) [.arr 25 (k.map aa)])∧H[h.length+1]? =some (.cells (some 53) [V.st 53 [.s (.int .u64 r.bw),.s (.int .u64 r.count),.s (.int .u64 r.base),.arr 25 (r.head.map aa),.s (.int .i64 r.aF)]])∧H[h.length+2]? =some (.cells (some 25) [.arr 25 (hd.map aa)])∧XR H (some 41) ko out (l.map aq.enc)∧h.length+3≤ko∧Fw [] h H∧h.length+3≤H.length)
     (fun e H=>∃(l:List aq) (hd:Bs) (ko:Nat) (out:V),e 5= .ptr (h.length+1) [0] 1∧e 10= .ptr (h.length+2) [0] 1∧e 9= .al false none (im.map aa)∧e 12=out∧
       bM k K r.base.toNat h0 N=some (l,hd)∧H[h.length+1]? =some (.cells (some 53) [V.st 53 [.s (.int .u64 r.bw),.s (.int .u64 r.count),.s (.int .u64 r.base),.arr 25 (r.head.map aa),.s (.int .i64 r.aF)]])∧H[h.length+2]? =some (.cells (some 25) [.arr 25 (hd.map aa)])∧XR H (some 41) ko out (l.map aq.enc)∧h.length+3≤ko∧Fw [] h H)
     N _ _ ⟨0,[],h0,h.length+3,_,rfl,by omega,rfl,rfl,rfl,rfl,rfl,rfl,rfl,rfl,rfl,aK _ _ 0,aK _ _ 1,aK _ _ 2,XR.nil _ _ _,Nat.le_refl _,Fw.app _ _ _,by simp⟩ ?_ ?_
   ·rintro q e H ⟨i,l,mu,ko,out,rfl,hi,e38,e37,e1,e3,e5,e10,e9,e12,xD,g0,g1,g2,xr,wJ,fw,hHl⟩
    have tY:=Ai tI xD
    have n9:=mr xD
    by_cases ci:i < N
    ·have ci':(i:Int)<((N:Nat):Int):=by omega
     have w1:IntKind.i64.wrap ((i:Int)+1)=((i+1:Nat):Int):=q18z (by omega)
     have w2:IntKind.i64.wrap (2+(i:Int))=2+(i:Nat):=wrap_i64 (by omega) (by omega)
     have w3:IntKind.u64.wrap (i:Int)=(i:Nat):=wrap_u64 (by omega) (by omega)
     have w4:IntKind.u64.wrap (r.base+(i:Nat))=r.base+(i:Nat):=wrap_u64 (by omega) (by omega)
     have w5:IntKind.u64.wrap (r.base+(i:Nat)+1)=((r.base.toNat+i+1:Nat):Int):=by rw[wrap_u64 (by omega) (by omega)];omega
     have dE:=fun b=> Ad.HJ b H did K (2+(i:Nat)) (hd.mono fw (by simp))
     simp only[Ad.R] at dE
     have ah:=fun b=> HR b H k mu ((K.get (2+(i:Nat))).getD []) (r.base.toNat+i+1) hk tY (by omega)
     have gN:bM k K r.base.toNat h0 (i+1)=if (K.get (2+(i:Nat))).isSome=false∨(j7 k (r.base.toNat+i+1) mu ((K.get (2+(i:Nat))).getD [])).2≠0 then none
      else some (l++[(j7 k (r.base.toNat+i+1) mu ((K.get (2+(i:Nat))).getD [])).1],dn mu ((K.get (2+(i:Nat))).getD [])):=by rw[bM,xD]
     have hgl:((K.get (2+(i:Nat))).getD []).length≤8192:=by
       cases hq:K.get (2+(i:Nat)) with
       | none=> simp
       | some x=> exact BW hd.ok hq
     have hhd:=fun b H'=> xw b H' (.al false none (((K.get (2+(i:Nat))).getD []).map aa)) mu ((K.get (2+(i:Nat))).getD []) tY (cY _ _ _) (by omega)
     generalize K.get (2+(i:Nat))=G at *
     generalize hX:j7 k (r.base.toNat+i+1) mu (G.getD [])=X at *
     obtain ⟨x,why⟩:=X
     simp only at gN ah
     have tkr:∀Y,(H++Y).take h.length=h:=fun Y=>(fw.trans (Fw.app [] H Y)).take
     cases hs:G.isSome with
     | false=>
       rw[hs] at dE gN
       have j4:=ma i ci (by rw[gN];simp)
       simp only[e38,e37,e1,e3,e5,e10,e9,e12,ci',w2,w3,w4,w5,dE,g0,g1,g2,ah,jG,jH,pZ,Bool.or_true,bG,j4,qB,List.map_nil,tkr,go_sem,↓reduceIte,Nat.reduceEqDiff,Nat.reduceBEq,Nat.reduceAdd,Nat.reduceSub,Nat.reduceLT,Nat.reduceLeDiff,Int.reduceLT,Int.reduceLE,Int.reduceEq,Int.reduceToNat]
     | true=>
       rw[hs] at dE gN
       by_cases cw:why=0
       case neg=>
         have j4:=ma i ci (by rw[gN];simp[cw])
         simp only[e38,e37,e1,e3,e5,e10,e9,e12,ci',w2,w3,w4,w5,dE,g0,g1,g2,ah,jG,jH,pZ,Bool.or_true,bG,j4,qB,List.map_nil,tkr,cw,go_sem,↓reduceIte,Nat.reduceEqDiff,Nat.reduceBEq,Nat.reduceAdd,Nat.reduceSub,Nat.reduceLT,Nat.reduceLeDiff,Int.reduceLT,Int.reduceLE,Int.reduceEq,Int.reduceToNat]
       rw[if_neg (by simp[cw])] at gN
       have xr1:=xr.mono (H:=H++[.cells (some 41) [x.enc]]) (fun b hb=> q10z hb _)
       obtain ⟨out2,H2,ko2,jb,xr2,zQ,hH2,Dd,hH2l,hold⟩:=xr1.uq (n:=h.length+3) (bytes:=152) (ys:=[x.enc]) (m:=1) wJ (by simp;omega) rfl (by simp[pZ]) (by simp;omega)
       rw[List.append_assoc] at jb
       simp only[List.length_append,List.length_cons,List.length_nil,Nat.zero_add,List.cons_append,List.nil_append] at jb
       have n2:∀j b,j≠ko→H[j]? =some b→H2[j]? =some b:=fun j b hj hb=> hold j b hj (q10z hb _)
       have g02:=n2 _ _ (by omega) g0
       have g12:=n2 _ _ (by omega) g1
       have g22:=n2 _ _ (by omega) g2
       have fw2:Fw [] h H2:=(fw.trans (Fw.app [] H _)).trans' (n:=0) hH2l hold (by omega)
       have vy:decide (h.length≤h.length+2)=true:=by simp
       have j4:∃m,m < N - i∧∃(i':Nat) (l':List aq) (hd2:Bs) (ko:Nat) (out:V),m=N - i'∧i'≤N∧Value.int IntKind.i64 ((i+1:Nat):Int)=Value.int IntKind.i64 (i':Int)∧out2=out∧bM k K r.base.toNat h0 i'=some (l',hd2)∧
         (H2.set (h.length+2) (.cells (some 25) [.arr 25 ((dn mu (G.getD [])).map aa)]))[h.length]? =some (.cells (some 25) [.arr 25 (k.map aa)])∧
         (H2.set (h.length+2) (.cells (some 25) [.arr 25 ((dn mu (G.getD [])).map aa)]))[h.length+1]? =some (.cells (some 53) [V.st 53 [.s (.int .u64 r.bw),.s (.int .u64 r.count),.s (.int .u64 r.base),.arr 25 (r.head.map aa),.s (.int .i64 r.aF)]])∧
         (H2.set (h.length+2) (.cells (some 25) [.arr 25 ((dn mu (G.getD [])).map aa)]))[h.length+2]? =some (.cells (some 25) [.arr 25 (hd2.map aa)])∧
         XR (H2.set (h.length+2) (.cells (some 25) [.arr 25 ((dn mu (G.getD [])).map aa)])) (some 41) ko out (l'.map aq.enc)∧h.length+3≤ko∧Fw [] h (H2.set (h.length+2) (.cells (some 25) [.arr 25 ((dn mu (G.getD [])).map aa)]))∧h.length+3≤H2.length:=by
         refine ⟨N - (i+1),by omega,i+1,_,_,ko2,out2,rfl,by omega,rfl,rfl,gN,?_,?_,q9z g22,?_,zQ,fw2.cK (by omega) _,hH2⟩
         ·rw[List.getElem?_set_ne (by omega)];exact g02
         ·rw[List.getElem?_set_ne (by omega)];exact g12
         ·rw[List.map_append];exact xr2.set (by omega) _
       simp only[e38,e37,e1,e3,e5,e10,e9,e12,ci',w1,w2,w3,w4,w5,dE,g0,g1,g2,ah,jG,jH,pZ,Bool.or_true,bG,cw,jb,hhd,g22,g02,g12,vy,go_sem,↓reduceIte,Nat.reduceEqDiff,Nat.reduceBEq,Nat.reduceAdd,Nat.reduceSub,Nat.reduceLT,Nat.reduceLeDiff,Int.reduceLT,Int.reduceLE,Int.reduceEq,Int.reduceToNat]
       exact j4
    ·have ci':¬(i:Int)<((N:Nat):Int):=by omega
     obtain rfl:i=N:=by omega
     simp only[e38,e37,e1,e3,e5,e10,e9,e12,ci',go_sem,↓reduceIte,Nat.reduceEqDiff,Nat.reduceBEq,Nat.reduceAdd,Nat.reduceSub,Nat.reduceLT,Nat.reduceLeDiff,Int.reduceLT,Int.reduceLE,Int.reduceEq,Int.reduceToNat]
     exact ⟨l,mu,ko,out,rfl,xD,g1,g2,xr,wJ,fw⟩
   ·rintro e H ⟨l,mu,ko,out,e5,e10,e9,e12,xD,g1,g2,xr,wJ,fw⟩
    have eA:=fw.take
    have df:=xr.qX (n:=h.length) (by omega) (Ah l)
    by_cases ch:mu=r.head
    ·simp only[e5,e10,e9,e12,g1,g2,bG,cZ,ch,df,eA,qB,xD,go_sem,↓reduceIte,Nat.reduceEqDiff,Nat.reduceBEq,Nat.reduceAdd,Nat.reduceSub,Nat.reduceLT,Nat.reduceLeDiff,Int.reduceLT,Int.reduceLE,Int.reduceEq,Int.reduceToNat]
    ·simp only[e5,e10,e9,e12,g1,g2,bG,cZ,ch,df,eA,qB,xD,go_sem,↓reduceIte,Nat.reduceEqDiff,Nat.reduceBEq,Nat.reduceAdd,Nat.reduceSub,Nat.reduceLT,Nat.reduceLeDiff,Int.reduceLT,Int.reduceLE,Int.reduceEq,Int.reduceToNat]
theorem vI (cf:CF) (base:Nat) (h:Hp) (f:Bool) (l:Bs) (k:IntKind) (n:Nat) (hn:n≤l.length):aB cf base h (.jg none true false false) [.al f none (l.map aa),.s (.int k (n:Nat))]=some (.al f none ((l.drop n).map aa),h):=by
 rw[SR.Pc (cf:=cf) (base:=base) (h:=h) (x:= .al f none (l.map aa)) (g:=none) (vs:=l.map aa) (.inl ⟨f,rfl⟩) (k:=k) (l:=n) (by simpa using hn)]
 simp only[oq,List.length_map,BEq.rfl,Bool.and_true,←List.map_drop]
 rw[List.take_of_length_le (by simp)]
theorem zP (cf:CF) (base:Nat) (h:Hp) (f:Bool) (l:Bs) (k:IntKind) (n:Nat) (hn:n≤l.length):aB cf base h (.jg none false true false) [.al f none (l.map aa),.s (.int k (n:Nat))]=some (.al (f && n==l.length) none ((l.take n).map aa),h):=by
 rw[SR.Yd (cf:=cf) (base:=base) (h:=h) (x:= .al f none (l.map aa)) (g:=none) (vs:=l.map aa) (.inl ⟨f,rfl⟩) (k:=k) (r:=n) (by simpa using hn)]
 simp only[oq,List.length_map,List.drop_zero,Nat.sub_zero,List.map_take]
theorem Aj (b:Nat) (h:Hp) (f:Bool) (l:Bs) (hl:8≤l.length):run fns pr b 119 [.al f none (l.map aa)] h=some (.s (.int .u64 (jm (l.take 8):Nat)),h):=by
 refine Vm.aU (nt:=20) rfl Ok (by simp) ?_
 have hc:=fun cf base H=> zP cf base H f l .i64 8 hl
 have hml:(l.take 8).length=8:=by rw[List.length_take];omega
 have tk:∀X,(h++X).take h.length=h:=fun X=> List.take_left
 generalize (f && 8==l.length)=g at hc
 generalize hm:l.take 8=m at *
 have gW:∀H,SR H (.al g none (m.map aa)) none (m.map aa):=fun H=> .inl ⟨g,rfl⟩
 have tk2:m.take 8=m:=List.take_of_length_le (by omega)
 generalize hx:V.al g none (m.map aa)=x at hc gW
 have jd:∀cf base h,aB cf base h .len [x]=some (.s (.int .i64 8),h):=fun cf base h=> by rw[(gW h).cE];simp[hml]
 simp only[Oi,Gx,Gw,show (V.s (.int .i64 8))=V.s (.int .i64 ((8:Nat):Int)) from rfl,hc,jd,go_sem,↓reduceIte,Nat.reduceEqDiff,Nat.reduceBEq,Nat.reduceAdd,Nat.reduceSub,Nat.reduceLT,Nat.reduceLeDiff,Int.reduceLT,Int.reduceLE,Int.reduceEq,Int.reduceToNat]
 refine bh (fun q e H=>∃j,q=8 - j∧j≤8∧e 9= .s (.int .i64 (j:Nat))∧e 8= .s (.int .i64 8)∧e 7=x∧e 3= .s (.int .u64 (jm (m.take j):Nat))∧H=h)
   (fun e H=> e 3= .s (.int .u64 (jm m:Nat))∧H=h) 8 _ _ ?_ ?_ ?_
 ·exact ⟨0,rfl,by omega,rfl,rfl,rfl,rfl,rfl⟩
 ·rintro q e H ⟨j,rfl,hj,e9,e8,e7,e3,rfl⟩
  by_cases cd:j < 8
  ·have cj:(j:Int)< 8:=by omega
   have i1:=fun cf base=>(gW H).cX (cf:=cf) (base:=base) (k:= .i64) (i:=j) (by simp;omega)
   have i2:=fun cf base=>(gW H).g8 (cf:=cf) (base:=base) (i:=j) (v:=aa (m.getD j 0)) (by rw[List.getElem?_map,List.getD,List.getElem?_eq_getElem (by omega)];rfl) rfl
   have w3:IntKind.i64.wrap ((j:Int)+1)=((j+1:Nat):Int):=q17z (by omega)
   have hb:=r0 m j (by omega)
   have hy:=(m.getD j 0).toNat_lt
   have hp:256 ^ j * 256≤18446744073709551616:=by rw[←Nat.pow_succ];exact Nat.pow_le_pow_right (by omega) (show j+1≤8 by omega)
   have s1:=M6 (a:=jm (m.take j)) (by omega)
   have s2:=Vd (a:=jm (m.take j)) (y:=(m.getD j 0).toNat) (by omega) hy
   have hw:=og (n:=(m.getD j 0).toNat) (by omega)
   have h1:∀cf base h,aB cf base h (.bin .num .shl) [.s (.int .u64 (jm (m.take j):Nat)),.s (.int .i64 8)]=some (.s (.int .u64 ((jm (m.take j)* 256:Nat):Int)),h):=fun cf base h=> by rw[←s1];exact tW cf base h .u64 .i64 _ 8 (by omega)
   have h2:∀cf base h,aB cf base h (.bin .num .shl) [.s (.int .u64 (jm (m.take j):Nat)),.s (.int .u64 8)]=some (.s (.int .u64 ((jm (m.take j)* 256:Nat):Int)),h):=fun cf base h=> by rw[←s1];exact tW cf base h .u64 .u64 _ 8 (by omega)
   simp only[e9,e8,e7,e3,cj,i1,i2,aa,w3,h1,h2,hw,s2,go_sem,↓reduceIte,Nat.reduceEqDiff,Nat.reduceBEq,Nat.reduceAdd,Nat.reduceSub,Nat.reduceLT,Nat.reduceLeDiff,Int.reduceLT,Int.reduceLE,Int.reduceEq,Int.reduceToNat]
   refine ⟨8 - (j+1),by omega,j+1,rfl,by omega,rfl,?_⟩
   rw[rZ (by omega)]
  ·have cj:¬(j:Int)< 8:=by omega
   obtain rfl:j=8:=by omega
   simp only[e9,e8,e7,e3,cj,tk2,go_sem,↓reduceIte,Nat.reduceEqDiff,Nat.reduceBEq,Nat.reduceAdd,Nat.reduceSub,Nat.reduceLT,Nat.reduceLeDiff,Int.reduceLT,Int.reduceLE,Int.reduceEq,Int.reduceToNat]
 ·rintro e H ⟨e3,rfl⟩
  simp only[e3,List.take_length,go_sem,↓reduceIte,Nat.reduceEqDiff,Nat.reduceBEq,Nat.reduceAdd,Nat.reduceSub,Nat.reduceLT,Nat.reduceLeDiff,Int.reduceLT,Int.reduceLE,Int.reduceEq,Int.reduceToNat]
def dp :Nat→Bs→Option (List ag×Bs)
 | 0,l=> some ([],l)
 | n+1,l=> match dp n l with
   | none=> none
   | some (vs,m)=> if (bS m).2.2≠0 then none else some (vs++[(bS m).1],m.drop (bS m).2.1.toNat)
theorem q27z {l:Bs} {n:Nat} (hn:dp n l=none):∀m,dp (n+m) l=none
 | 0=> hn
 | m+1=> by rw[←Nat.add_assoc,dp,q27z hn m]
theorem q21z (m:Bs) (h:(bS m).2.2=0):(bS m).1.wf:=by
 have hw:=mZ (m,false)
 unfold bS at h ⊢
 generalize cA (m,false)=x at *
 by_cases c:x.2.2=true
 ·rw[if_pos c] at h
  exact absurd h (by decide)
 ·rw[if_neg c]
  exact hw
theorem Ak (m:Bs):∃n:Nat,(bS m).2.1=n∧n≤m.length:=by
 unfold bS
 generalize cA (m,false)=x at *
 by_cases c:x.2.2=true
 ·rw[if_pos c];exact ⟨0,rfl,by omega⟩
 ·rw[if_neg c];exact ⟨_,rfl,Nat.sub_le _ _⟩
theorem ou {l:Bs}:∀ {n:Nat} {vs:List ag} {m:Bs},dp n l=some (vs,m)→m.length≤l.length∧vs.length=n∧∀v∈vs,v.wf
 | 0,vs,m,e=> by cases e;simp
 | n+1,vs,m,e=> by
   rw[dp] at e
   split at e
   ·cases e
   ·rename_i vs2 m2 e2
    obtain ⟨h1,h2,h3⟩:=ou e2
    have hw:=q21z m2
    generalize bS m2=X at *
    by_cases c:X.2.2≠0
    ·rw[if_pos c] at e;cases e
    ·rw[if_neg c] at e
     simp only[Option.some.injEq,Prod.mk.injEq] at e
     obtain ⟨rfl,rfl⟩:=e
     refine ⟨by simp;omega,by simp[h2],fun v hv=> ?_⟩
     rcases List.mem_append.1 hv with hv | hv
     ·exact h3 v hv
     ·simp only[List.mem_singleton] at hv
      subst hv
      exact hw (Decidable.not_not.1 c)
def pe (x:Option (List ag×Bs)):V:=match x with
 | none=> .bI [.al false (some 31) [],.al false none [],.s (.bool false)]
 | some (vs,m)=> .bI [.al false (some 31) (vs.map ag.enc),.al false none (m.map aa),.s (.bool true)]
theorem Al (b:Nat) (h:Hp) (f:Bool) (l:Bs) (N:Nat) (hl:l.length≤100000) (hN:N≤255):run fns pr b 118 [.al f none (l.map aa),.s (.int .i64 (N:Nat))] h=some (pe (dp N l),h):=by
 refine Vm.aU (nt:=32) rfl Oh (by simp) ?_
 simp only[Of,Gv,Gu,go_sem,↓reduceIte,Nat.reduceEqDiff,Nat.reduceBEq,Nat.reduceAdd,Nat.reduceSub,Nat.reduceLT,Nat.reduceLeDiff,Int.reduceLT,Int.reduceLE,Int.reduceEq,Int.reduceToNat]
 refine bh (fun q e H=>∃(i:Nat) (vs:List ag) (m:Bs) (f:Bool) (ko:Nat) (out:V),q=N - i∧i≤N∧e 12= .s (.int .i64 (i:Nat))∧e 11= .s (.int .i64 (N:Nat))∧e 0= .al f none (m.map aa)∧e 7=out∧dp i l=some (vs,m)∧XR H (some 31) ko out (vs.map ag.enc)∧h.length≤ko∧Fw [] h H)
   (fun e H=>∃(vs:List ag) (m:Bs) (f:Bool) (ko:Nat) (out:V),e 0= .al f none (m.map aa)∧e 7=out∧dp N l=some (vs,m)∧XR H (some 31) ko out (vs.map ag.enc)∧h.length≤ko∧Fw [] h H)
   N _ _ ⟨0,[],l,f,h.length,_,rfl,by omega,rfl,rfl,rfl,rfl,rfl,XR.nil _ _ _,Nat.le_refl _,Fw.refl _ _⟩ ?_ ?_
 ·rintro q e H ⟨i,vs,m,f,ko,out,rfl,hi,e12,e11,e0,e7,hvi,xr,wJ,fw⟩
  obtain ⟨hml,Fz,_⟩:=ou hvi
  by_cases ci:i < N
  ·have ci':(i:Int)<((N:Nat):Int):=by omega
   have w1:IntKind.i64.wrap ((i:Int)+1)=((i+1:Nat):Int):=q18z (by omega)
   have htv:=fun b H=> zS b H f m (by omega)
   have gN:dp (i+1) l=if (bS m).2.2≠0 then none else some (vs++[(bS m).1],m.drop (bS m).2.1.toNat):=by rw[dp,hvi]
   obtain ⟨n,hn1,hn2⟩:=Ak m
   generalize bS m=X at *
   obtain ⟨x,n',why⟩:=X
   simp only at hn1 htv gN
   subst hn1
   rw[Int.toNat_natCast] at gN
   have hle:=fw.len
   have o8:∀y,(decide (h.length≤H.length) || y)=true:=fun y=> by rw[decide_eq_true hle];rfl
   have tkr:∀Y,(H++Y).take h.length=h:=fun Y=>(fw.trans (Fw.app [] H Y)).take
   by_cases cw:why=0
   case neg=>
     rw[if_pos cw] at gN
     have j4:dp N l=none:=by
       have:=q27z gN (N - (i+1))
       rwa [show i+1+(N - (i+1))=N by omega] at this
     simp only[e12,e11,e0,e7,ci',htv,cw,aX,aY,o8,tkr,j4,pe,go_sem,↓reduceIte,Nat.reduceEqDiff,Nat.reduceBEq,Nat.reduceAdd,Nat.reduceSub,Nat.reduceLT,Nat.reduceLeDiff,Int.reduceLT,Int.reduceLE,Int.reduceEq,Int.reduceToNat]
   rw[if_neg (by simp[cw])] at gN
   have xr1:=xr.mono (H:=H++[.cells (some 31) [x.enc]]) (fun b hb=> q10z hb _)
   obtain ⟨out2,H2,ko2,jb,xr2,zQ,hH2,Dd,hH2l,hold⟩:=xr1.uq (n:=h.length) (bytes:=96) (ys:=[x.enc]) (m:=1) wJ (by simp;omega) rfl (by simp[iN]) (by simp;omega)
   rw[List.append_assoc] at jb
   simp only[List.length_append,List.length_cons,List.length_nil,Nat.zero_add,List.cons_append,List.nil_append] at jb
   have fw2:Fw [] h H2:=(fw.trans (Fw.app [] H _)).trans' (n:=0) hH2l hold wJ
   have hsl:=fun cf base H=> vI cf base H f m .i64 n hn2
   rw[show vs.map ag.enc++[x.enc]=(vs++[x]).map ag.enc by simp] at xr2
   simp only[e12,e11,e0,e7,ci',htv,cw,aX,aY,o8,jb,hsl,w1,go_sem,↓reduceIte,Nat.reduceEqDiff,Nat.reduceBEq,Nat.reduceAdd,Nat.reduceSub,Nat.reduceLT,Nat.reduceLeDiff,Int.reduceLT,Int.reduceLE,Int.reduceEq,Int.reduceToNat]
   exact ⟨N - (i+1),by omega,i+1,_,_,f,ko2,out2,rfl,by omega,rfl,rfl,rfl,gN,xr2,zQ,fw2⟩
  ·have ci':¬(i:Int)<((N:Nat):Int):=by omega
   obtain rfl:i=N:=by omega
   simp only[e12,e11,e0,e7,ci',go_sem,↓reduceIte,Nat.reduceEqDiff,Nat.reduceBEq,Nat.reduceAdd,Nat.reduceSub,Nat.reduceLT,Nat.reduceLeDiff,Int.reduceLT,Int.reduceLE,Int.reduceEq,Int.reduceToNat]
   exact ⟨vs,m,f,ko,out,rfl,rfl,hvi,xr,wJ,fw⟩
 ·rintro e H ⟨vs,m,f,ko,out,e0,e7,hvi,xr,wJ,fw⟩
  have eA:=fw.take
  have df:=xr.qX (n:=h.length) wJ (kQ vs)
  simp only[e0,e7,df,eA,hvi,pe,go_sem,↓reduceIte,Nat.reduceEqDiff,Nat.reduceBEq,Nat.reduceAdd,Nat.reduceSub,Nat.reduceLT,Nat.reduceLeDiff,Int.reduceLT,Int.reduceLE,Int.reduceEq,Int.reduceToNat]
def nK (l:Bs):Option (kF×Bs):=if l.length < 11 then none else match dp (l.getD 10 0).toNat (l.drop 11) with
 | none=> none
 | some (vs,m)=> some (⟨((l.getD 0 0).toNat:Nat),(jm ((l.drop 1).take 8):Nat),((l.getD 9 0).toNat:Nat),vs⟩,m)
def j8 (s0:bg) (l:Bs):Nat→Option (bg×Bs)
 | 0=> some (s0,l)
 | n+1=> match j8 s0 l n with
   | none=> none
   | some (s,m)=> match nK m with
     | none=> none
     | some (q,rest)=> if (nA s n q).1≠0 then none else some ((nA s n q).2,rest)
theorem q26z {s0:bg} {l:Bs} {n:Nat} (hn:j8 s0 l n=none):∀m,j8 s0 l (n+m)=none
 | 0=> hn
 | m+1=> by rw[←Nat.add_assoc,j8,q26z hn m]
def uD (a b:Int) (l:Bs):Option bg:=if l.length < 2 then none else (j8 (bg.new a b) (l.drop 2) 16).map (·.1)
theorem Dm {s:bg} {n:Nat} {q:kF} (h1:mm s n q=true) (h2:rising q.vs=true) (hw:∀v∈q.vs,v.wf):POk s n q:=by
 unfold mm at h1
 split at h1
 ·cases h1
 ·rename_i c1
  split at h1
  ·cases h1
  ·rename_i c2
   split at h1
   ·cases h1
   ·rename_i c3
    unfold rising at h2
    simp only[Bool.and_eq_true,decide_eq_true_eq,List.all_eq_true] at h2
    simp only[Bool.not_eq_true',List.any_eq_false,decide_eq_true_eq,Decidable.not_not] at h1
    obtain ⟨⟨h4,h5⟩,h6⟩:=h2
    refine ⟨by omega,by omega,by omega,fun h=> by omega,fun h=> by omega,fun h=> ?_,h6,h4,fun v hv=>⟨h5 v hv,hw v hv,?_⟩⟩
    ·exact List.eq_nil_of_length_eq_zero (by omega)
    ·have:=h1 v hv;omega
theorem xE {l:Bs} {q:kF} {m:Bs} (h:nK l=some (q,m)):11≤l.length∧m.length≤l.length∧(∀v∈q.vs,v.wf)∧q.vs.length≤255:=by
 unfold nK at h
 split at h
 ·cases h
 ·split at h
  ·cases h
  ·rename_i vs m2 e2
   obtain ⟨h1,h2,h3⟩:=ou e2
   simp only[Option.some.injEq,Prod.mk.injEq] at h
   obtain ⟨rfl,rfl⟩:=h
   have:=(l.getD 10 0).toNat_lt
   refine ⟨by omega,by rw[List.length_drop] at h1;omega,h3,by simp only;omega⟩
theorem K8 {s:bg} {n:Nat} {q:kF} (hk:j5 s) (hw:∀v∈q.vs,v.wf):j5 (nA s n q).2:=by
 unfold nA
 split
 ·rename_i c
  exact hk.o6 fun hi=> Dm c.1 c.2 hw
 ·exact hk
def Vz (h:Hp) (v:V) (h':Hp):Option bg→Prop
 | none=> v= .bI [.s (.pointer none),.s (.bool false)]∧Fw [] h h'
 | some s=> j5 s∧∃F,v= .bI [.ptr h.length [0] 1,.s (.bool true)]∧gY h' h.length s F∧Fw [] h h'∧∀j∈F,h.length≤j
theorem ry (b:Nat) (h:Hp) (x z:Int) (f:Bool) (l:Bs) (hl:l.length≤100000) (hb:b≤h.length) (h1:1≤z) (h2:z≤8) (h3:0≤x) (h4:x < z):
 ∃v h',run fns pr b 102 [.s (.int .i64 x),.s (.int .i64 z),.al f none (l.map aa)] h=some (v,h')∧Vz h v h' (uD x z l):=by
 refine Vm.dZ (nt:=65) rfl NH (by simp) ?_
 obtain ⟨v1,H1,e1,F1,rfl,s1,f1,n1⟩:=rp b h x z hb h1 h2 h3 h4
 have jd:∀cf base H f (l:Bs),aB cf base H .len [.al f none (l.map aa)]=some (.s (.int .i64 (l.length:Nat)),H):=fun cf base H f l=> by rw[oe];simp
 unfold uD
 by_cases c0:l.length < 2
 ·have c0':((l.length:Nat):Int)< 2:=by omega
  rw[if_pos c0]
  simp only[Ka,zf,ze,e1,jd,c0',go_sem,↓reduceIte,Nat.reduceEqDiff,Nat.reduceBEq,Nat.reduceAdd,Nat.reduceSub,Nat.reduceLT,Nat.reduceLeDiff,Int.reduceLT,Int.reduceLE,Int.reduceEq,Int.reduceToNat]
  exact ⟨rfl,f1⟩
 have c0':¬((l.length:Nat):Int)< 2:=by omega
 rw[if_neg c0]
 have CQ:∀cf base H,aB cf base H (.jg none true false false) [.al f none (l.map aa),.s (.int .i64 2)]=some (.al f none ((l.drop 2).map aa),H):=fun cf base H=> vI cf base H f l .i64 2 (by omega)
 simp only[Ka,zf,ze,e1,jd,c0',CQ,go_sem,↓reduceIte,Nat.reduceEqDiff,Nat.reduceBEq,Nat.reduceAdd,Nat.reduceSub,Nat.reduceLT,Nat.reduceLeDiff,Int.reduceLT,Int.reduceLE,Int.reduceEq,Int.reduceToNat]
 have tY:(l.drop 2).length≤100000:=by rw[List.length_drop];omega
 generalize l.drop 2=l2 at *
 have k0:=j5.new h1 h2 h3 h4
 generalize bg.new x z=S0 at *
 refine bh (fun q e H=>∃(i:Nat) (s:bg) (m:Bs) (F':List Nat) (f:Bool),q=16 - i∧i≤16∧e 25= .s (.int .i64 (i:Nat))∧e 8= .ptr h.length [0] 1∧e 2= .al f none (m.map aa)∧j8 S0 l2 i=some (s,m)∧m.length≤l2.length∧j5 s∧gY H h.length s F'∧Fw [] h H∧∀j∈F',h.length≤j)
   (fun e H=>∃(s:bg) (m:Bs) (F':List Nat),e 8= .ptr h.length [0] 1∧j8 S0 l2 16=some (s,m)∧j5 s∧gY H h.length s F'∧Fw [] h H∧∀j∈F',h.length≤j)
   16 _ _ ⟨0,S0,l2,F1,f,rfl,by omega,rfl,rfl,rfl,rfl,Nat.le_refl _,k0,s1,f1,n1⟩ ?_ ?_
 ·rintro q e H ⟨i,s,m,F',f,rfl,hi,e25,e8,e2,wK,hml,hk,hs,fw,hn⟩
  by_cases ci:i < 16
  ·have ci':(i:Int)< 16:=by omega
   have w1:IntKind.i64.wrap ((i:Int)+1)=((i+1:Nat):Int):=q18z (by omega)
   have BX:j8 S0 l2 (i+1)=none→j8 S0 l2 16=none:=fun hh=> by
     have:=q26z hh (16 - (i+1))
     rwa [show i+1+(16 - (i+1))=16 by omega] at this
   have gN:j8 S0 l2 (i+1)=match nK m with
     | none=> none
     | some (q,rest)=> if (nA s i q).1≠0 then none else some ((nA s i q).2,rest):=by rw[j8,wK]
   by_cases c11:m.length < 11
   ·have c11':((m.length:Nat):Int)< 11:=by omega
    have hp:nK m=none:=by unfold nK;rw[if_pos c11]
    rw[hp] at gN
    have hz:=BX gN
    simp only[e25,e8,e2,ci',jd,c11',hz,Option.map_none,go_sem,↓reduceIte,Nat.reduceEqDiff,Nat.reduceBEq,Nat.reduceAdd,Nat.reduceSub,Nat.reduceLT,Nat.reduceLeDiff,Int.reduceLT,Int.reduceLE,Int.reduceEq,Int.reduceToNat]
    exact ⟨rfl,fw⟩
   have c11':¬((m.length:Nat):Int)< 11:=by omega
   have Py:∀cf base H,aB cf base H (.jg none true false false) [.al f none (m.map aa),.s (.int .i64 11)]=some (.al f none ((m.drop 11).map aa),H):=fun cf base H=> vI cf base H f m .i64 11 (by omega)
   have uv:∀cf base H,aB cf base H (.jg none true false false) [.al f none (m.map aa),.s (.int .i64 1)]=some (.al f none ((m.drop 1).map aa),H):=fun cf base H=> vI cf base H f m .i64 1 (by omega)
   have gW:∀H,SR H (.al f none (m.map aa)) none (m.map aa):=fun H=> .inl ⟨f,rfl⟩
   have i1:=fun cf base H (n:Nat) (hn:n < m.length)=>(gW H).cX (cf:=cf) (base:=base) (k:= .i64) (i:=n) (by simpa using hn)
   have i2:=fun cf base H (n:Nat) (hn:n < m.length)=>(gW H).g8 (cf:=cf) (base:=base) (i:=n) (v:=aa (m.getD n 0)) (by rw[List.getElem?_map,List.getD,List.getElem?_eq_getElem hn];rfl) rfl
   have a10:∀cf base H,aB cf base H (.di none) [.al f none (m.map aa),.s (.int .i64 10)]=some (jh (.al f none (m.map aa)) 10,H):=fun cf base H=> i1 cf base H 10 (by omega)
   have b10:=fun cf base H=> i2 cf base H 10 (by omega)
   have a0:∀cf base H,aB cf base H (.di none) [.al f none (m.map aa),.s (.int .i64 0)]=some (jh (.al f none (m.map aa)) 0,H):=fun cf base H=> i1 cf base H 0 (by omega)
   have b0:=fun cf base H=> i2 cf base H 0 (by omega)
   have a9:∀cf base H,aB cf base H (.di none) [.al f none (m.map aa),.s (.int .i64 9)]=some (jh (.al f none (m.map aa)) 9,H):=fun cf base H=> i1 cf base H 9 (by omega)
   have b9:=fun cf base H=> i2 cf base H 9 (by omega)
   have mX:∀y:UInt8,IntKind.i64.wrap (y.toNat:Int)=(y.toNat:Nat):=fun y=> wrap_i64 (by omega) (by have:=y.toNat_lt;omega)
   have hiv:=fun b H=> Al b H f (m.drop 11) (m.getD 10 0).toNat (by rw[List.length_drop];omega) (by have:=(m.getD 10 0).toNat_lt;omega)
   have hnu:=fun b H=> Aj b H f (m.drop 1) (by rw[List.length_drop];omega)
   have hpm:nK m=match dp (m.getD 10 0).toNat (m.drop 11) with
     | none=> none
     | some (vs,r)=> some (⟨((m.getD 0 0).toNat:Nat),(jm ((m.drop 1).take 8):Nat),((m.getD 9 0).toNat:Nat),vs⟩,r):=by unfold nK;rw[if_neg c11]
   have hpf:=fun q r=> xE (l:=m) (q:=q) (m:=r)
   generalize dp (m.getD 10 0).toNat (m.drop 11)=W at *
   cases W with
   | none=>
     simp only at hpm
     rw[hpm] at gN
     have hz:=BX gN
     simp only[e25,e8,e2,ci',jd,c11',Py,a10,b10,aa,mX,hiv,pe,hz,Option.map_none,go_sem,↓reduceIte,Nat.reduceEqDiff,Nat.reduceBEq,Nat.reduceAdd,Nat.reduceSub,Nat.reduceLT,Nat.reduceLeDiff,Int.reduceLT,Int.reduceLE,Int.reduceEq,Int.reduceToNat]
     exact ⟨rfl,fw⟩
   | some W=>
     obtain ⟨vs,r⟩:=W
     simp only at hpm
     obtain ⟨p1,p2,p3,p4⟩:=hpf _ _ hpm
     rw[hpm] at gN
     simp only[pe] at hiv
     have VA:∀b H,run fns pr b 119 [.al f none ((m.drop 1).map aa)] H=some (.s (.int .u64 (jm ((m.drop 1).take 8):Nat)),H):=hnu
     generalize hq:(⟨((m.getD 0 0).toNat:Nat),(jm ((m.drop 1).take 8):Nat),((m.getD 9 0).toNat:Nat),vs⟩:kF)=q at *
     obtain ⟨v2,H2,e2',rfl,F2,s2,f2,n2⟩:=Ht b H h.length i s F' q (fun j hj=> Nat.le_trans hb (hn j hj)) hs ci (by omega) p3
     have k2:=K8 (n:=i) hk p3
     simp only at gN
     have hqr:q.role=((m.getD 0 0).toNat:Nat)∧q.aD=(jm ((m.drop 1).take 8):Nat)∧q.to=((m.getD 9 0).toNat:Nat)∧q.vs=vs:=by rw[←hq];exact ⟨rfl,rfl,rfl,rfl⟩
     obtain ⟨q1,q2,q3,q4⟩:=hqr
     rw[q1,q2,q3,q4] at e2'
     generalize nA s i q=Z at *
     have fw2:Fw [] h H2:=fw.new f2 (fun j hj=> .inl (hn j hj))
     have n3:∀j∈F2,h.length≤j:=fun j hj=>(n2 j hj).elim (hn j) fun h1=> by have:=fw.len;omega
     by_cases cz:Z.1=0
     ·rw[if_neg (by simp[cz])] at gN
      rw[cz] at e2'
      simp only[e25,e8,e2,ci',jd,c11',Py,a10,b10,aa,mX,hiv,uv,VA,a0,b0,a9,b9,e2',w1,go_sem,↓reduceIte,Nat.reduceEqDiff,Nat.reduceBEq,Nat.reduceAdd,Nat.reduceSub,Nat.reduceLT,Nat.reduceLeDiff,Int.reduceLT,Int.reduceLE,Int.reduceEq,Int.reduceToNat]
      exact ⟨16 - (i+1),by omega,i+1,_,r,F2,false,rfl,by omega,rfl,rfl,gN,by omega,k2,s2,fw2,n3⟩
     ·rw[if_pos cz] at gN
      have hz:=BX gN
      simp only[e25,e8,e2,ci',jd,c11',Py,a10,b10,aa,mX,hiv,uv,VA,a0,b0,a9,b9,e2',cz,hz,Option.map_none,go_sem,↓reduceIte,Nat.reduceEqDiff,Nat.reduceBEq,Nat.reduceAdd,Nat.reduceSub,Nat.reduceLT,Nat.reduceLeDiff,Int.reduceLT,Int.reduceLE,Int.reduceEq,Int.reduceToNat]
      exact ⟨rfl,fw2⟩
  ·have ci':¬(i:Int)< 16:=by omega
   obtain rfl:i=16:=by omega
   simp only[e25,e8,e2,ci',go_sem,↓reduceIte,Nat.reduceEqDiff,Nat.reduceBEq,Nat.reduceAdd,Nat.reduceSub,Nat.reduceLT,Nat.reduceLeDiff,Int.reduceLT,Int.reduceLE,Int.reduceEq,Int.reduceToNat]
   exact ⟨s,m,F',wK,hk,hs,fw,hn⟩
 ·rintro e H ⟨s,m,F',e8,wK,hk,hs,fw,hn⟩
  simp only[e8,wK,Option.map_some,go_sem,↓reduceIte,Nat.reduceEqDiff,Nat.reduceBEq,Nat.reduceAdd,Nat.reduceSub,Nat.reduceLT,Nat.reduceLeDiff,Int.reduceLT,Int.reduceLE,Int.reduceEq,Int.reduceToNat]
  exact ⟨hk,F',rfl,hs,fw,hn⟩
def ofI (a b:Int) (l:Bs):Option bg:=match uD a b l with
 | none=> none
 | some s=> if gR s=l then some s else none
def ofR (h:Hp) (v:V) (h':Hp):Option bg→Prop
 | none=> v= .bI [.s (.pointer none),.s (.int .i64 12)]∧Fw [] h h'
 | some s=> j5 s∧∃F,v= .bI [.ptr h.length [0] 1,.s (.int .i64 0)]∧gY h' h.length s F∧Fw [] h h'∧∀j∈F,h.length≤j
theorem VB (b:Nat) (h:Hp) (x z:Int) (f:Bool) (l:Bs) (hl:l.length≤100000) (hb:b≤h.length) (h1:1≤z) (h2:z≤8) (h3:0≤x) (h4:x < z):
 ∃v h',run fns pr b 73 [.s (.int .i64 x),.s (.int .i64 z),.al f none (l.map aa)] h=some (v,h')∧ofR h v h' (ofI x z l):=by
 obtain ⟨v1,H1,e1,r1⟩:=ry b h x z f l hl hb h1 h2 h3 h4
 refine Vm.dZ (nt:=27) rfl TP (by simp) ?_
 unfold ofI
 cases hr:uD x z l with
 | none=>
   rw[hr] at r1
   obtain ⟨rfl,f1⟩:=r1
   simp only[B73,e1,go_sem,↓reduceIte,Nat.reduceEqDiff,Nat.reduceBEq,Nat.reduceAdd,Nat.reduceSub,Nat.reduceLT,Nat.reduceLeDiff,Int.reduceLT,Int.reduceLE,Int.reduceEq,Int.reduceToNat]
   exact ⟨rfl,f1⟩
 | some s=>
   rw[hr] at r1
   obtain ⟨hk,F,rfl,hs,f1,hn⟩:=r1
   have mX:=fun b=> pa b H1 h.length s F hs hk
   have heq:=fun b f=> wX b H1 (.al false none ((gR s).map aa)) (.al f none (l.map aa)) (gR s) l (cY _ _ _) (cY _ _ _)
   simp only
   by_cases c:gR s=l
   ·rw[if_pos c]
    have cd:decide (gR s=l)=true:=decide_eq_true c
    simp only[B73,e1,mX,heq,cd,go_sem,↓reduceIte,Nat.reduceEqDiff,Nat.reduceBEq,Nat.reduceAdd,Nat.reduceSub,Nat.reduceLT,Nat.reduceLeDiff,Int.reduceLT,Int.reduceLE,Int.reduceEq,Int.reduceToNat]
    exact ⟨hk,F,rfl,hs,f1,hn⟩
   ·rw[if_neg c]
    have cd:decide (gR s=l)=false:=decide_eq_false c
    simp only[B73,e1,mX,heq,cd,go_sem,↓reduceIte,Nat.reduceEqDiff,Nat.reduceBEq,Nat.reduceAdd,Nat.reduceSub,Nat.reduceLT,Nat.reduceLeDiff,Int.reduceLT,Int.reduceLE,Int.reduceEq,Int.reduceToNat]
    exact ⟨rfl,f1⟩
theorem Pz {m:Bs} (hm:m.length=8):jm m < 18446744073709551616:=by
 have:=r0 m 8 (by omega)
 rwa [List.take_of_length_le (by omega)] at this
theorem HT (s:Bs×Bool):∀n,∀v∈(rl n s).1,v.wf
 | 0=> by simp[rl]
 | n+1=> by
   have ih:=HT s n
   have hw:=mZ (rl n s).2
   intro v hv
   simp only[rl] at hv
   generalize rl n s=x at *
   rcases List.mem_append.1 hv with h | h
   ·exact ih v h
   ·simp only[List.mem_singleton] at h
    rw[h];exact hw
theorem mw :zeroV.wf:=by
 refine ⟨?_,?_,?_,?_,?_,?_,?_,?_,?_⟩<;> first | trivial | decide
theorem K9 (s:Bs×Bool):(nu s).1.wf:=by
 unfold nu
 have b0:=fun l=> oZ l
 generalize aE 1 s=s1
 obtain ⟨k,s1⟩:=s1
 simp only
 have hk:=b0 k
 split
 ·have hw:=mZ s1
  generalize cA s1=x at *
  obtain ⟨v,x⟩:=x
  exact ⟨by simp,by simp,by simp,by simp,hw,by simp⟩
 ·split
  ·generalize aE 1 s1=s2
   obtain ⟨a,s2⟩:=s2
   simp only
   generalize aE 1 s2=s3
   obtain ⟨t,s3⟩:=s3
   simp only
   have hl:=q20z 8 s3
   generalize aE 8 s3=s4 at *
   obtain ⟨e,s4⟩:=s4
   simp only at hl ⊢
   have h1:=b0 a
   have h2:=b0 t
   have h3:=Pz hl
   exact ⟨by simp,by simp only;omega,by simp only;omega,by simp only;omega,mw,by simp⟩
  ·split
   ·generalize aE 1 s1=s2
    obtain ⟨a,s2⟩:=s2
    simp only
    have hl:=q20z 8 s2
    generalize aE 8 s2=s3 at *
    obtain ⟨e,s3⟩:=s3
    simp only at hl ⊢
    generalize aE 1 s3=s4
    obtain ⟨n,s4⟩:=s4
    simp only
    have hv:=HT s4 (min (aG n) 5)
    have Fz:=BE (min (aG n) 5) s4
    generalize rl (min (aG n) 5) s4=s5 at *
    obtain ⟨vs,s5⟩:=s5
    simp only at hv Fz ⊢
    have h1:=b0 a
    have h3:=Pz hl
    exact ⟨by simp,by simp only;omega,by simp,by simp only;omega,mw,by simp only;omega,hv⟩
   ·split
    ·generalize aE 1 s1=s2
     obtain ⟨a,s2⟩:=s2
     simp only
     have hl:=q20z 8 s2
     generalize aE 8 s2=s3 at *
     obtain ⟨e,s3⟩:=s3
     simp only at hl ⊢
     have h1:=b0 a
     have h3:=Pz hl
     exact ⟨by simp,by simp only;omega,by simp,by simp only;omega,mw,by simp⟩
    ·exact ⟨by simp only;omega,by simp,by simp,by simp,mw,by simp⟩
theorem sv :jn.wf:=⟨by simp[jn],by simp[jn],by simp[jn],by simp[jn],mw,by simp[jn]⟩
theorem Dn (l:Bs):(mh l).1.wf:=by
 have hw:=K9 (l,false)
 unfold mh
 generalize nu (l,false)=x at *
 split
 ·exact sv
 ·exact hw
theorem HU (k:Bs) (n:Nat) (prev l:Bs):(j7 k n prev l).1.wf:=by
 unfold j7
 split
 ·exact sv
 ·exact Dn _
theorem sw {k:Bs} {K:Dk} {base:Nat} {h:Bs}:∀ {n:Nat} {l:List aq} {h1:Bs},bM k K base h n=some (l,h1)→∀r∈l,r.wf
 | 0,l,h1,e=> by cases e;simp
 | n+1,l,h1,e=> by
   rw[bM] at e
   split at e
   ·cases e
   ·rename_i l2 h2 e2
    have ih:=sw e2
    have hw:=HU k (base+n+1) h2 ((K.get (2+(n:Nat))).getD [])
    generalize j7 k (base+n+1) h2 ((K.get (2+(n:Nat))).getD [])=x at *
    split at e
    ·cases e
    ·simp only[Option.some.injEq,Prod.mk.injEq] at e
     obtain ⟨rfl,rfl⟩:=e
     intro r hr
     rcases List.mem_append.1 hr with h | h
     ·exact ih r h
     ·simp only[List.mem_singleton] at h
      rw[h];exact hw
theorem HV (k:Bs) (K:Dk) (r:ae):∀x∈(jr k K r).2.1,x.wf:=by
 unfold jr
 split
 ·simp
 ·split
  ·simp
  ·split
   ·simp
   ·rename_i l h e
    have:=sw e
    split
    ·exact this
    ·simp
theorem Dp {k:Bs} {n:Nat} {ad b t:Bs} (h:nG k n ad b=some t):t.length≤8192:=by
 unfold nG at h
 split at h
 ·simp only at h
  split at h
  ·cases h
   rw[j2,List.length_take];omega
  ·cases h
 ·cases h
theorem Dq (k:Bs) (K:Dk) (r:ae):(iq k K r).1.length≤8192:=by
 unfold iq
 split
 ·simp
 ·split
  ·simp
  ·split
   ·exact Dp (by assumption)
   ·simp
theorem Dr (k:Bs) (K:Dk) (r:ae):(jr k K r).1.length≤8192:=by
 have hb:=Dq k K r
 unfold jr
 split
 ·simp
 ·split
  ·simp
  ·split
   ·simp
   ·split
    ·exact hb
    ·simp
theorem Ds (k:Bs) (K:Dk) (r:ae) (hw:r.wf):(jr k K r).2.1.length≤8:=by
 have:=iO r hw
 unfold jr
 split
 ·simp
 ·split
  ·simp
  ·split
   ·simp
   ·rename_i l h e
    have:=mr e
    split
    ·simp only;omega
    ·simp
def iQ :bg→List aq→Option bg
 | s,[]=> some s
 | s,r::l=> if (bE s r).1≠0 then none else iQ (bE s r).2 l
def aI.begin (D:aI):Option bg:=if 0 < D.r.base then ofI D.mem D.bm (jr D.key D.dk D.r).1 else some (bg.new D.mem D.bm)
def aI.load (D:aI):Option bg:=if (jr D.key D.dk D.r).2.2≠0 then none else match D.begin with
 | none=> none
 | some s=> iQ s (jr D.key D.dk D.r).2.1
def VC (h:Hp) (v:V) (h':Hp):Option bg→Prop
 | none=> v= .bI [.s (.pointer none),.s (.bool false)]∧Fw [] h h'
 | some s=> j5 s∧∃sid F,v= .bI [.ptr sid [0] 1,.s (.bool true)]∧gY h' sid s F∧Fw [] h h'∧∀j∈F,h.length≤j
structure DM (D:aI):Prop where
 m1:1≤D.bm
 m2:D.bm≤8
 m3:0≤D.mem
 m4:D.mem < D.bm
theorem HW (b:Nat) (h:Hp) (id:Nat) (D:aI) (F:List Nat) (hb:b≤h.length) (hd:lJ h id D F) (hm:DM D) (hw:D.r.wf):
 ∃v h',run fns pr b 37 [.ptr id [0] 1] h=some (v,h')∧VC h v h' D.load:=by
 obtain ⟨did,sp,sid,Fs,hd⟩:=hd
 have hg:=hd.o
 have gh:=fun b=> K7 b h did D.key D.dk D.r hd.kl hw hd.d
 have uk:=Dr D.key D.dk D.r
 have hjw:=HV D.key D.dk D.r
 have hjc:=Ds D.key D.dk D.r hw
 refine Vm.dZ (nt:=71) rfl Sz (by simp) ?_
 unfold aI.load aI.begin
 simp only[eC] at hg
 generalize jr D.key D.dk D.r=J at *
 obtain ⟨im,L,why⟩:=J
 simp only[qB] at gh uk hjw hjc ⊢
 have hDr:D.r.enc=V.st 53 [.s (.int .u64 D.r.bw),.s (.int .u64 D.r.count),.s (.int .u64 D.r.base),.arr 25 (D.r.head.map aa),.s (.int .i64 D.r.aF)]:=rfl
 rw[hDr] at hg gh
 by_cases c0:why=0
 case neg=>
   rw[if_pos c0]
   simp only[B37,wN,wM,hg,gh,bG,c0,go_sem,↓reduceIte,Nat.reduceEqDiff,Nat.reduceBEq,Nat.reduceAdd,Nat.reduceSub,Nat.reduceLT,Nat.reduceLeDiff,Int.reduceLT,Int.reduceLE,Int.reduceEq,Int.reduceToNat]
   exact ⟨rfl,Fw.refl _ _⟩
 rw[if_neg (by simp[c0])]
 obtain ⟨v1,H1,e1,F1,rfl,s1,f1,n1⟩:=rp b h D.mem D.bm hb hm.m1 hm.m2 hm.m3 hm.m4
 have cH:=(hd.mono f1 (by simp)).o
 simp only[eC] at cH
 rw[hDr] at cH
 have jd:∀cf base H,aB cf base H .len [.al false (some 41) (L.map aq.enc)]=some (.s (.int .i64 (L.length:Nat)),H):=fun cf base H=> by rw[oe];simp
 by_cases cb:0 < D.r.base
 ·rw[if_pos cb]
  obtain ⟨v2,H2,e2,r2⟩:=VB b H1 D.mem D.bm false im (by omega) (Nat.le_trans hb f1.len) hm.m1 hm.m2 hm.m3 hm.m4
  cases ho:ofI D.mem D.bm im with
  | none=>
    rw[ho] at r2
    obtain ⟨rfl,f2⟩:=r2
    simp only[B37,wN,wM,hg,gh,bG,c0,e1,cH,cb,e2,go_sem,↓reduceIte,Nat.reduceEqDiff,Nat.reduceBEq,Nat.reduceAdd,Nat.reduceSub,Nat.reduceLT,Nat.reduceLeDiff,Int.reduceLT,Int.reduceLE,Int.reduceEq,Int.reduceToNat]
    exact ⟨rfl,f1.trans f2⟩
  | some S0=>
    rw[ho] at r2
    obtain ⟨k0,F0,rfl,s0,f2,n2⟩:=r2
    simp only[B37,wN,wM,hg,gh,bG,c0,e1,cH,cb,e2,jd,go_sem,↓reduceIte,Nat.reduceEqDiff,Nat.reduceBEq,Nat.reduceAdd,Nat.reduceSub,Nat.reduceLT,Nat.reduceLeDiff,Int.reduceLT,Int.reduceLE,Int.reduceEq,Int.reduceToNat]
    refine bh (fun q e H=>∃(i:Nat) (s:bg) (F':List Nat),q=L.length - i∧i≤L.length∧e 61= .s (.int .i64 (i:Nat))∧e 60= .s (.int .i64 (L.length:Nat))∧e 59= .al false (some 41) (L.map aq.enc)∧e 7= .ptr H1.length [0] 1∧iQ S0 L=iQ s (L.drop i)∧j5 s∧gY H H1.length s F'∧Fw [] h H∧∀j∈F',h.length≤j)
      (fun e H=>∃(s:bg) (F':List Nat),e 7= .ptr H1.length [0] 1∧iQ S0 L=some s∧j5 s∧gY H H1.length s F'∧Fw [] h H∧∀j∈F',h.length≤j)
      L.length _ _ ⟨0,S0,F0,by omega,by omega,rfl,rfl,rfl,rfl,rfl,k0,s0,(f1.trans f2),(fun j hj=> Nat.le_trans f1.len (n2 j hj))⟩ ?_ ?_
    ·rintro q e H ⟨i,s,F',rfl,hi,e61,e60,e59,e7,pW,hk,hs,fw,hn⟩
     by_cases ci:i < L.length
     ·have ci':(i:Int)<((L.length:Nat):Int):=by omega
      have w1:IntKind.i64.wrap ((i:Int)+1)=((i+1:Nat):Int):=q18z (by omega)
      have hv:L[i]? =some L[i]:=List.getElem?_eq_getElem ci
      have hdr:L.drop i=L[i]::L.drop (i+1):=List.drop_eq_getElem_cons ci
      have nC:=hjw _ (List.getElem_mem ci)
      generalize L[i]=x at hv hdr nC
      rw[hdr] at pW
      have gW:SR H (.al false (some 41) (L.map aq.enc)) (some 41) (L.map aq.enc):= .inl ⟨false,rfl⟩
      have i1:=fun cf base=> gW.cX (cf:=cf) (base:=base) (k:= .i64) (i:=i) (by simpa using ci)
      have i2:=fun cf base=> gW.g8 (cf:=cf) (base:=base) (i:=i) (v:=x.enc) (by rw[List.getElem?_map,hv];rfl) rfl
      have fP:Fw [] H (H++[aV.cells (some 41) [x.enc]]):=Fw.app [] H _
      have hbH:b≤H.length:=Nat.le_trans hb fw.len
      have o8:∀y,(decide (b≤H.length) || y)=true:=fun y=> by rw[decide_eq_true hbH];rfl
      obtain ⟨v3,H3,e3,rfl,F3,s3,f3,n3⟩:=sg b _ H1.length s F' x (fun j hj=> Nat.le_trans hb (hn j hj)) (hs.mono fP (by simp)) hk nC nC.ai.2
      have k3:=ml hk nC nC.ai.2
      simp only[iQ] at pW
      generalize bE s x=Z at *
      have fw3:Fw [] h H3:=(fw.trans fP).new f3 (fun j hj=> .inl (hn j hj))
      have Hx:∀j∈F3,h.length≤j:=fun j hj=>(n3 j hj).elim (hn j) fun h1=> by have:=fw.len;have:=fP.len;omega
      by_cases cz:Z.1=0
      ·rw[if_neg (by simp[cz])] at pW
       rw[cz] at e3
       simp only[e61,e60,e59,e7,ci',i1,i2,jG,jH,o8,e3,w1,go_sem,↓reduceIte,Nat.reduceEqDiff,Nat.reduceBEq,Nat.reduceAdd,Nat.reduceSub,Nat.reduceLT,Nat.reduceLeDiff,Int.reduceLT,Int.reduceLE,Int.reduceEq,Int.reduceToNat]
       exact ⟨L.length - (i+1),by omega,i+1,_,F3,rfl,by omega,rfl,pW,k3,s3,fw3,Hx⟩
      ·rw[if_pos cz] at pW
       simp only[e61,e60,e59,e7,ci',i1,i2,jG,jH,o8,e3,cz,pW,go_sem,↓reduceIte,Nat.reduceEqDiff,Nat.reduceBEq,Nat.reduceAdd,Nat.reduceSub,Nat.reduceLT,Nat.reduceLeDiff,Int.reduceLT,Int.reduceLE,Int.reduceEq,Int.reduceToNat]
       exact ⟨rfl,fw3⟩
     ·have ci':¬(i:Int)<((L.length:Nat):Int):=by omega
      obtain rfl:i=L.length:=by omega
      rw[List.drop_length] at pW
      simp only[e61,e60,e59,e7,ci',go_sem,↓reduceIte,Nat.reduceEqDiff,Nat.reduceBEq,Nat.reduceAdd,Nat.reduceSub,Nat.reduceLT,Nat.reduceLeDiff,Int.reduceLT,Int.reduceLE,Int.reduceEq,Int.reduceToNat]
      exact ⟨s,F',pW,hk,hs,fw,hn⟩
    ·rintro e H ⟨s,F',e7,pW,hk,hs,fw,hn⟩
     simp only[e7,pW,go_sem,↓reduceIte,Nat.reduceEqDiff,Nat.reduceBEq,Nat.reduceAdd,Nat.reduceSub,Nat.reduceLT,Nat.reduceLeDiff,Int.reduceLT,Int.reduceLE,Int.reduceEq,Int.reduceToNat]
     exact ⟨hk,_,F',rfl,hs,fw,hn⟩
 ·rw[if_neg cb]
  simp only[B37,wN,wM,hg,gh,bG,c0,e1,cH,cb,jd,go_sem,↓reduceIte,Nat.reduceEqDiff,Nat.reduceBEq,Nat.reduceAdd,Nat.reduceSub,Nat.reduceLT,Nat.reduceLeDiff,Int.reduceLT,Int.reduceLE,Int.reduceEq,Int.reduceToNat]
  have k0:=j5.new hm.m1 hm.m2 hm.m3 hm.m4
  refine bh (fun q e H=>∃(i:Nat) (s:bg) (F':List Nat),q=L.length - i∧i≤L.length∧e 61= .s (.int .i64 (i:Nat))∧e 60= .s (.int .i64 (L.length:Nat))∧e 59= .al false (some 41) (L.map aq.enc)∧e 7= .ptr h.length [0] 1∧iQ (bg.new D.mem D.bm) L=iQ s (L.drop i)∧j5 s∧gY H h.length s F'∧Fw [] h H∧∀j∈F',h.length≤j)
    (fun e H=>∃(s:bg) (F':List Nat),e 7= .ptr h.length [0] 1∧iQ (bg.new D.mem D.bm) L=some s∧j5 s∧gY H h.length s F'∧Fw [] h H∧∀j∈F',h.length≤j)
    L.length _ _ ⟨0,(bg.new D.mem D.bm),F1,by omega,by omega,rfl,rfl,rfl,rfl,rfl,k0,s1,f1,n1⟩ ?_ ?_
  ·rintro q e H ⟨i,s,F',rfl,hi,e61,e60,e59,e7,pW,hk,hs,fw,hn⟩
   by_cases ci:i < L.length
   ·have ci':(i:Int)<((L.length:Nat):Int):=by omega
    have w1:IntKind.i64.wrap ((i:Int)+1)=((i+1:Nat):Int):=q18z (by omega)
    have hv:L[i]? =some L[i]:=List.getElem?_eq_getElem ci
    have hdr:L.drop i=L[i]::L.drop (i+1):=List.drop_eq_getElem_cons ci
    have nC:=hjw _ (List.getElem_mem ci)
    generalize L[i]=x at hv hdr nC
    rw[hdr] at pW
    have gW:SR H (.al false (some 41) (L.map aq.enc)) (some 41) (L.map aq.enc):= .inl ⟨false,rfl⟩
    have i1:=fun cf base=> gW.cX (cf:=cf) (base:=base) (k:= .i64) (i:=i) (by simpa using ci)
    have i2:=fun cf base=> gW.g8 (cf:=cf) (base:=base) (i:=i) (v:=x.enc) (by rw[List.getElem?_map,hv];rfl) rfl
    have fP:Fw [] H (H++[aV.cells (some 41) [x.enc]]):=Fw.app [] H _
    have hbH:b≤H.length:=Nat.le_trans hb fw.len
    have o8:∀y,(decide (b≤H.length) || y)=true:=fun y=> by rw[decide_eq_true hbH];rfl
    obtain ⟨v3,H3,e3,rfl,F3,s3,f3,n3⟩:=sg b _ h.length s F' x (fun j hj=> Nat.le_trans hb (hn j hj)) (hs.mono fP (by simp)) hk nC nC.ai.2
    have k3:=ml hk nC nC.ai.2
    simp only[iQ] at pW
    generalize bE s x=Z at *
    have fw3:Fw [] h H3:=(fw.trans fP).new f3 (fun j hj=> .inl (hn j hj))
    have Hx:∀j∈F3,h.length≤j:=fun j hj=>(n3 j hj).elim (hn j) fun h1=> by have:=fw.len;have:=fP.len;omega
    by_cases cz:Z.1=0
    ·rw[if_neg (by simp[cz])] at pW
     rw[cz] at e3
     simp only[e61,e60,e59,e7,ci',i1,i2,jG,jH,o8,e3,w1,go_sem,↓reduceIte,Nat.reduceEqDiff,Nat.reduceBEq,Nat.reduceAdd,Nat.reduceSub,Nat.reduceLT,Nat.reduceLeDiff,Int.reduceLT,Int.reduceLE,Int.reduceEq,Int.reduceToNat]
     exact ⟨L.length - (i+1),by omega,i+1,_,F3,rfl,by omega,rfl,pW,k3,s3,fw3,Hx⟩
    ·rw[if_pos cz] at pW
     simp only[e61,e60,e59,e7,ci',i1,i2,jG,jH,o8,e3,cz,pW,go_sem,↓reduceIte,Nat.reduceEqDiff,Nat.reduceBEq,Nat.reduceAdd,Nat.reduceSub,Nat.reduceLT,Nat.reduceLeDiff,Int.reduceLT,Int.reduceLE,Int.reduceEq,Int.reduceToNat]
     exact ⟨rfl,fw3⟩
   ·have ci':¬(i:Int)<((L.length:Nat):Int):=by omega
    obtain rfl:i=L.length:=by omega
    rw[List.drop_length] at pW
    simp only[e61,e60,e59,e7,ci',go_sem,↓reduceIte,Nat.reduceEqDiff,Nat.reduceBEq,Nat.reduceAdd,Nat.reduceSub,Nat.reduceLT,Nat.reduceLeDiff,Int.reduceLT,Int.reduceLE,Int.reduceEq,Int.reduceToNat]
    exact ⟨s,F',pW,hk,hs,fw,hn⟩
  ·rintro e H ⟨s,F',e7,pW,hk,hs,fw,hn⟩
   simp only[e7,pW,go_sem,↓reduceIte,Nat.reduceEqDiff,Nat.reduceBEq,Nat.reduceAdd,Nat.reduceSub,Nat.reduceLT,Nat.reduceLeDiff,Int.reduceLT,Int.reduceLE,Int.reduceEq,Int.reduceToNat]
   exact ⟨hk,_,F',rfl,hs,fw,hn⟩
theorem uA.KJ {F Fs Fs':List Nat} {h:Hp} {id did sid sid':Nat} {D D':aI} {sp sp':V} (hd:uA h id D F did sp sid Fs) (h1:D'.dk=D.dk) (h2:D'.is=1→sp'= .ptr sid' [0] 1∧gY h sid' D'.st Fs') (h3:D'.key.length=16)
 (ty:sp'.ty=none) (so:sp'.ax=true) (n2:id∉Fs') (n3:did∉Fs') (fl:∀j∈Fs',j < h.length):
 uA (h.set id (.cells (some 71) (eC D' sp' did))) id D' (id::did::Fs') did sp' sid' Fs'∧Fw F h (h.set id (.cells (some 71) (eC D' sp' did))):=by
 have f:Fw [id] h (h.set id (.cells (some 71) (eC D' sp' did))):=Fw.set (by simp) hd.o
 obtain ⟨o,d,s,_,_,rfl,n1,_,_,fl0,kl⟩:=hd
 refine ⟨⟨q9z o,by rw[h1];exact d.mono f (by simp[Ne.symm n1]),fun hi=> ?_,ty,so,rfl,n1,n2,n3,fun j hj=> ?_,h3⟩,f.mono (by simp)⟩
 ·obtain ⟨c,e⟩:=h2 hi
  exact ⟨c,e.mono f (fun j hj=> by simp;rintro rfl;exact n2 hj)⟩
 ·simp only[List.mem_cons] at hj
  rcases hj with rfl | rfl | hj
  ·exact f.lt (fl0 _ (by simp))
  ·exact f.lt (fl0 _ (by simp))
  ·exact f.lt (fl j hj)
def aI.new (a b:Int) (k:Bs):aI:=⟨a,b,dj k [bt a],1,bg.new a b,Dk.new,ik,0, -1,0⟩
theorem HX :ik.wf:=⟨by simp[ik],by simp[ik],by simp[ik],rfl,by simp[ik]⟩
theorem nB.new {a b:Int} (k:Bs) (h1:1≤b) (h2:b≤8) (h3:0≤a) (h4:a < b):nB 0 0 (aI.new a b k):=
 ⟨Nat.le_refl _,by simp[aI.new],by simp[aI.new],by simp[aI.new],by rfl,HX,fun _=> j5.new h1 h2 h3 h4,.inl rfl⟩
theorem La (b:Nat) (h:Hp) (x z:Int) (k:Bs) (hb:b≤h.length) (hk:k.length=16) (h1:1≤z) (h2:z≤8) (h3:0≤x) (h4:x < z):
 ∃v h',run fns pr b 20 [.s (.int .i64 x),.s (.int .i64 z),.arr 25 (k.map aa)] h=some (v,h')∧∃id F,v= .bI [.ptr id [0] 1,.s (.int .i64 0)]∧lJ h' id (aI.new x z k) F∧Fw [] h h'∧∀j∈F,h.length≤j:=by
 refine Vm.dZ (nt:=23) rfl RZ (by simp) ?_
 have fV:(k.map aa).length=16:=by simp[hk]
 have fA:Fw [] h (h++[aV.cells (some 25) [.arr 25 (k.map aa)]]):=Fw.app [] h _
 have gA:(h++[aV.cells (some 25) [.arr 25 (k.map aa)]])[h.length]? =some (aV.cells (some 25) [.arr 25 (k.map aa)]):=aM _ _
 have lA:=fA.len
 generalize hHA:h++[aV.cells (some 25) [.arr 25 (k.map aa)]]=HA at *
 obtain ⟨v1,H1,e1,F1,rfl,s1,f1,n1⟩:=rp b HA x z (Nat.le_trans hb lA) h1 h2 h3 h4
 have g1:=f1.dw _ _ gA (by simp)
 have yX:=fun b=> K0 b H1 k x hk
 obtain ⟨v2,H2,e2,rfl,d2,f2⟩:=Ad.sh b H1
 simp only[Ad.R] at e2
 have s2:=s1.mono f2 (by simp)
 have tX:=f1.len
 have Bw:=f2.len
 simp only[B20,hHA,fV,e1,g1,yX,bG,e2,go_sem,↓reduceIte,Nat.reduceEqDiff,Nat.reduceBEq,Nat.reduceAdd,Nat.reduceSub,Nat.reduceLT,Nat.reduceLeDiff,Int.reduceLT,Int.reduceLE,Int.reduceEq,Int.reduceToNat]
 have f3:Fw [] H2 (H2++[aV.cells (some 71) (eC (aI.new x z k) (.ptr HA.length [0] 1) H1.length)]):=Fw.app [] H2 _
 have wL:=d2.lt
 have hF1:=s1.lt
 refine ⟨H2.length,H2.length::H1.length::F1,rfl,⟨H1.length,.ptr HA.length [0] 1,HA.length,F1,?_,d2.mono f3 (by simp),fun _=>⟨rfl,s2.mono f3 (by simp)⟩,rfl,rfl,rfl,by omega,fun hm=> ?_,fun hm=> ?_,fun j hj=> ?_,?_⟩,fA.trans (f1.trans (f2.trans f3)),fun j hj=> ?_⟩
 ·exact aM _ _
 ·have:=hF1 _ hm;omega
 ·have:=hF1 _ hm;omega
 ·simp only[List.mem_cons] at hj
  rcases hj with rfl | rfl | hj
  ·simp
  ·simp;omega
  ·have:=hF1 _ hj;simp;omega
 ·simp[aI.new,dj,bj]
 ·simp only[List.mem_cons] at hj
  rcases hj with rfl | rfl | hj
  ·omega
  ·omega
  ·have:=n1 _ hj;omega
def aI.ib (D:aI):aI:= {D with r:=(cm D.r).1}
def aI.up (D:aI) (s:bg):aI:= {D.ib with is:=1,st:=s}
def aI.start (D:aI):Int×aI:=
 if D.is=1 then (14,D) else if D.is=3 then (28,D) else if (cm D.r).2=false then (31,D)
 else match D.ib.load with
   | none=>(28, {D.ib with is:=3})
   | some s=> if bf (cm D.r).1=8 then (if (D.up s).fold.1=false then 29 else 0,(D.up s).fold.2) else (0,D.up s)
theorem q29z {r:ae} (hw:r.wf) (h:(cm r).2=true):(cm r).1=⟨r.bw+1,r.count,r.base,r.head,r.aF⟩∧ba (cm r).1=true∧(cm r).1.wf:=by
 unfold cm vG at h ⊢
 split at h
 ·rename_i c
  rw[if_pos c]
  have:=q11z c.1
  obtain ⟨w1,w2,w3,w4,w5⟩:=hw
  exact ⟨rfl,c.2,⟨by simp only;omega,w2,w3,w4,w5⟩⟩
 ·cases h
theorem sx (b:Nat) (h:Hp) (id:Nat) (D:aI) (F:List Nat) (hF:∀j∈F,b≤j) (hd:lJ h id D F) (N:Int) (hN:N < 1000000000 - 20) (hk:nB 0 N D) (hm:DM D):
 ∃v h',run fns pr b 15 [.ptr id [0] 1] h=some (v,h')∧v= .s (.int .i64 D.start.1)∧∃F',lJ h' id D.start.2 F'∧Fw F h h'∧∀j∈F',j∈F∨h.length≤j:=by
 have HL:=hd
 obtain ⟨did,sp,sid,Fs,hd⟩:=hd
 have hg:=hd.o
 have hid:=hd.fl id (by rw[hd.f];simp)
 have lU:b≤id:=hF _ (by rw[hd.f];simp)
 have hbh:b≤h.length:=by omega
 have hbo:=fun b H=> KX b H D.r hk.gw
 refine Vm.dZ (nt:=54) rfl RP (by simp) ?_
 unfold aI.start
 simp only[eC] at hg
 by_cases i1:D.is=1
 ·rw[if_pos i1]
  simp only[B15,hg,i1,go_sem,↓reduceIte,Nat.reduceEqDiff,Nat.reduceBEq,Nat.reduceAdd,Nat.reduceSub,Nat.reduceLT,Nat.reduceLeDiff,Int.reduceLT,Int.reduceLE,Int.reduceEq,Int.reduceToNat]
  exact ⟨F,HL,Fw.refl _ _,fun j hj=> .inl hj⟩
 rw[if_neg i1]
 by_cases i3:D.is=3
 ·rw[if_pos i3]
  simp only[B15,hg,i1,i3,go_sem,↓reduceIte,Nat.reduceEqDiff,Nat.reduceBEq,Nat.reduceAdd,Nat.reduceSub,Nat.reduceLT,Nat.reduceLeDiff,Int.reduceLT,Int.reduceLE,Int.reduceEq,Int.reduceToNat]
  exact ⟨F,HL,Fw.refl _ _,fun j hj=> .inl hj⟩
 rw[if_neg i3]
 have o8:∀x,(decide (b≤h.length) || x)=true:=fun x=> by rw[decide_eq_true hbh];rfl
 cases c2:(cm D.r).2 with
 | false=>
   rw[if_pos rfl]
   rw[c2] at hbo
   simp only[B15,hg,i1,i3,ae.cF,ae.cG,hbo,o8,go_sem,↓reduceIte,Nat.reduceEqDiff,Nat.reduceBEq,Nat.reduceAdd,Nat.reduceSub,Nat.reduceLT,Nat.reduceLeDiff,Int.reduceLT,Int.reduceLE,Int.reduceEq,Int.reduceToNat]
   exact ⟨F,HL.app _,(Fw.app [] h _).mono (by simp),fun j hj=> .inl hj⟩
 | true=>
   rw[if_neg (by simp)]
   rw[c2] at hbo
   obtain ⟨hn1,hn2,Hx⟩:=q29z hk.gw c2
   have fB:Fw [] h (h++[aV.cells (some 53) [(cm D.r).1.enc]]):=Fw.app [] h _
   have pB:=hd.mono fB (by simp)
   have gB1:(h++[aV.cells (some 53) [(cm D.r).1.enc]])[h.length]? =some (aV.cells (some 53) [(cm D.r).1.enc]):=aM _ _
   have lB:=fB.len
   generalize hHB:h++[aV.cells (some 53) [(cm D.r).1.enc]]=HB at *
   obtain ⟨p1,f1⟩:=pB.Dl (D':=D.ib) rfl (fun h=>⟨h,rfl⟩) hd.kl
   have hgB:=pB.o
   have bW:=q6z hgB
   have ij:∀B,(HB.set id B)[id]? =some B:=fun B=> q9z hgB
   obtain ⟨v2,H2,e2,r2⟩:=HW b _ id D.ib F (by rw[List.length_set];omega) ⟨_,_,_,_,p1⟩ ⟨hm.m1,hm.m2,hm.m3,hm.m4⟩ Hx
   have du:=hd.ty
   have jB:=hd.so
   cases hL:D.ib.load with
   | none=>
     rw[hL] at r2
     obtain ⟨rfl,f2⟩:=r2
     have p2:=p1.mono f2 (by simp)
     obtain ⟨p3,f3⟩:=p2.KJ (D':= {D.ib with is:=3}) (sp':= .s (.pointer none)) (sid':=0) (Fs':=[]) rfl (fun h=> by cases h) hd.kl rfl rfl (by simp) (by simp) (by simp)
     have jc:=p2.o
     have Am:∀B,(H2.set id B)[id]? =some B:=fun B=> q9z jc
     have Ae:=q6z jc
     simp only[eC] at hgB e2 jc p3 f3
     simp only[aI.ib] at e2 jc p3 f3 ⊢
     simp only[B15,hg,i1,i3,ae.cF,ae.cG,hbo,o8,hHB,gB1,hgB,ij,lU,bW,List.set_set,du,jB,e2,jc,Am,Ae,go_sem,↓reduceIte,Nat.reduceEqDiff,Nat.reduceBEq,Nat.reduceAdd,Nat.reduceSub,Nat.reduceLT,Nat.reduceLeDiff,Int.reduceLT,Int.reduceLE,Int.reduceEq,Int.reduceToNat]
     refine ⟨_,⟨_,_,_,_,p3⟩,(fB.mono (by simp)).trans (f1.trans ((f2.mono (by simp)).trans f3)),fun j hj=> ?_⟩
     simp only[List.mem_cons,List.not_mem_nil,or_false] at hj
     left
     rw[hd.f]
     rcases hj with rfl | rfl <;> simp
   | some s=>
     rw[hL] at r2
     obtain ⟨k2,sid2,F2,rfl,s2,f2,n2⟩:=r2
     have p2:=p1.mono f2 (by simp)
     have YR:=hd.fl did (by rw[hd.f];simp)
     have n2':∀j∈F2,h.length≤j:=fun j hj=> by have:=n2 j hj;rw[List.length_set] at this;omega
     obtain ⟨p3,f3⟩:=p2.KJ (D':=D.up s) (sp':= .ptr sid2 [0] 1) (sid':=sid2) (Fs':=F2) rfl (fun _=>⟨rfl,s2⟩) hd.kl rfl rfl (fun hm=> by have:=n2' _ hm;omega) (fun hm=> by have:=n2' _ hm;omega) s2.lt
     have k3:nB 0 N (D.up s):=⟨hk.dR,hk.s0,hk.s1,hk.f1,hn2,Hx,fun _=> k2,.inl rfl⟩
     have Lb:∀j∈id::did::F2,j∈F∨h.length≤j:=fun j hj=> by
       simp only[List.mem_cons] at hj
       rw[hd.f]
       rcases hj with rfl | rfl | hj
       ·left;simp
       ·left;simp
       ·exact .inr (n2' _ hj)
     have hF3:∀j∈id::did::F2,b≤j:=fun j hj=>(Lb j hj).elim (hF j) fun h1=> by omega
     have fh3:=(fB.mono (T:=F) (by simp)).trans (f1.trans ((f2.mono (by simp)).trans f3))
     have FF:=fun b H=> rq b H (cm D.r).1 Hx
     have jc:=p2.o
     have Am:∀B,(H2.set id B)[id]? =some B:=fun B=> q9z jc
     have Ae:=q6z jc
     have fo:=BV b _ id (D.up s) _ hF3 ⟨_,_,_,_,p3⟩ N (by omega) k3 rfl
     simp only[eC] at hgB e2 jc
     by_cases c8:bf (cm D.r).1=8
     ·simp only
      rw[if_pos c8]
      obtain ⟨v6,H6,e6,rfl,d6,f6⟩:=fo
      generalize (D.up s).fold=Z at *
      have fin:∃F',lJ H6 id Z.2 F'∧Fw F h H6∧∀j∈F',j∈F∨h.length≤j:=⟨_,d6,fh3.new f6 (fun j hj=>(Lb j hj).symm),Lb⟩
      simp only[eC,aI.up,aI.ib] at e2 jc e6
      cases c9:Z.1 with
      | false=>
        rw[c9] at e6
        simp only[B15,hg,i1,i3,ae.cF,ae.cG,hbo,o8,hHB,gB1,hgB,ij,lU,bW,List.set_set,du,jB,e2,jc,Am,Ae,FF,c8,e6,go_sem,↓reduceIte,Nat.reduceEqDiff,Nat.reduceBEq,Nat.reduceAdd,Nat.reduceSub,Nat.reduceLT,Nat.reduceLeDiff,Int.reduceLT,Int.reduceLE,Int.reduceEq,Int.reduceToNat]
        exact fin
      | true=>
        rw[c9] at e6
        simp only[B15,hg,i1,i3,ae.cF,ae.cG,hbo,o8,hHB,gB1,hgB,ij,lU,bW,List.set_set,du,jB,e2,jc,Am,Ae,FF,c8,e6,go_sem,↓reduceIte,Nat.reduceEqDiff,Nat.reduceBEq,Nat.reduceAdd,Nat.reduceSub,Nat.reduceLT,Nat.reduceLeDiff,Int.reduceLT,Int.reduceLE,Int.reduceEq,Int.reduceToNat]
        exact fin
     ·simp only
      rw[if_neg c8]
      have fin:∃F',lJ _ id (D.up s) F'∧Fw F h _∧∀j∈F',j∈F∨h.length≤j:=⟨_,⟨_,_,_,_,p3⟩,fh3,Lb⟩
      simp only[eC,aI.up,aI.ib] at e2 jc fin
      simp only[B15,hg,i1,i3,ae.cF,ae.cG,hbo,o8,hHB,gB1,hgB,ij,lU,bW,List.set_set,du,jB,e2,jc,Am,Ae,FF,c8,go_sem,↓reduceIte,Nat.reduceEqDiff,Nat.reduceBEq,Nat.reduceAdd,Nat.reduceSub,Nat.reduceLT,Nat.reduceLeDiff,Int.reduceLT,Int.reduceLE,Int.reduceEq,Int.reduceToNat]
      exact fin
theorem rz (b:Nat) (h:Hp) (id:Nat) (D:aI) (F:List Nat) (hb:b≤h.length) (hd:lJ h id D F) (hk:D.is=1→j5 D.st):
 ∃v h',run fns pr b 11 [.ptr id [0] 1] h=some (v,h')∧(if D.is=1 then ∃F',v= .ptr h.length [0] 1∧gY h' h.length D.st F'∧Fw [] h h'∧∀j∈F',h.length≤j else v= .s (.pointer none)∧h'=h):=by
 obtain ⟨did,sp,sid,Fs,hd⟩:=hd
 have hg:=hd.o
 refine Vm.dZ (nt:=13) rfl RH (by simp) ?_
 by_cases i1:D.is=1
 ·obtain ⟨rfl,hs⟩:=hd.s i1
  obtain ⟨v2,H2,e2,F2,rfl,s2,f2,n2⟩:=Hu b h sid D.st Fs hb hs (hk i1)
  simp only[eC] at hg
  simp only[i1,if_true]
  simp only[B11,hg,i1,e2,go_sem,↓reduceIte,Nat.reduceEqDiff,Nat.reduceBEq,Nat.reduceAdd,Nat.reduceSub,Nat.reduceLT,Nat.reduceLeDiff,Int.reduceLT,Int.reduceLE,Int.reduceEq,Int.reduceToNat]
  exact ⟨F2,s2,f2,n2⟩
 ·simp only[eC] at hg
  simp only[i1,if_false]
  simp only[B11,hg,i1,go_sem,↓reduceIte,Nat.reduceEqDiff,Nat.reduceBEq,Nat.reduceAdd,Nat.reduceSub,Nat.reduceLT,Nat.reduceLeDiff,Int.reduceLT,Int.reduceLE,Int.reduceEq,Int.reduceToNat]
theorem Lc (a s:UInt8):s ^^^(s ^^^ a)=a:=by
 apply UInt8.toNat_inj.1
 simp[UInt8.toNat_xor,←Nat.xor_assoc]
theorem uE :∀(s l:Bs),l.length≤s.length→j1 s (j1 s l)=l
 | s,[],_=> by simp[j1]
 | [],a::l,h=> by simp at h
 | b::s,a::l,h=> by
   have:=uE s l (by simpa using h)
   simp only[j1,List.zipWith_cons_cons] at this ⊢
   rw[this,Lc]
theorem Ld (k:Bs) (n:Nat) (l:Bs):oa k n (oa k n l)=l:=by
 have h:(j1 (kI k n l.length) l).length=l.length:=j2 k n l
 unfold oa
 rw[h]
 exact uE _ _ (by rw[jl];exact Nat.le_refl _)
theorem uF (k:Bs) (n:Nat) (ad l:Bs) (h1:l.length≤8184) (h2:ad.length≤8192):nG k n ad (lD k n ad l)=some l:=by
 have hl:=pP k n ad l h1 h2
 have hh:=j2 k n l
 have hc:8≤(lD k n ad l).length∧(lD k n ad l).length≤8192∧ad.length≤8192:=⟨by omega,by omega,h2⟩
 unfold nG
 rw[if_pos hc,hl,Nat.add_sub_cancel]
 have hs:lD k n ad l=oa k n l++mb k n ad l:=by unfold lD;rw[if_pos ⟨h1,h2⟩]
 rw[hs]
 have e1:(oa k n l++mb k n ad l).take l.length=oa k n l:=by rw[←hh];exact List.take_left
 have e2:(oa k n l++mb k n ad l).drop l.length=mb k n ad l:=by rw[←hh];exact List.drop_left
 simp only[e1,e2,Ld,if_true]
theorem An (k:Bs) (n:Nat) (prev:Bs) (r:aq) (hp:prev.length=16) (hw:r.wf) (hr:aS r=true):j7 k n prev (kS k n prev r).1=(r,0):=by
 have hl:=xB hr hw hw.ai.2
 unfold j7 kS
 rw[if_pos hr]
 simp only
 rw[uF k n prev (mf r) (by omega) (by omega)]
 exact HQ r hw hw.ai.2 hr
def HD (mem bm:Int) (key:Bs) (K:Dk) (r:ae) (S:bg):Prop:=
 ∃im h0 L S0,iq key K r=(im,h0,0)∧bM key K r.base.toNat h0 (bf r).toNat=some (L,r.head)∧(if 0 < r.base then ofI mem bm im else some (bg.new mem bm))=some S0∧iQ S0 L=some S
theorem HD.load {D:aI} {S:bg} (hg:ba D.r=true) (h:HD D.mem D.bm D.key D.dk D.r S):D.load=some S:=by
 obtain ⟨im,h0,L,S0,h1,h2,h3,h4⟩:=h
 have hj:jr D.key D.dk D.r=(im,L,0):=by
   unfold jr
   rw[if_neg (by simp[hg]),h1]
   simp only[ne_eq,not_true_eq_false,if_false,h2,if_true]
 unfold aI.load aI.begin
 rw[hj]
 simp only[ne_eq,not_true_eq_false,if_false]
 rw[h3]
 exact h4
def sA (K K':Dk) (r:ae):Prop:=(0 < r.base→K'.get r.aF=K.get r.aF)∧∀i:Nat,(i:Int)< bf r→K'.get (2+(i:Int))=K.get (2+(i:Int))
theorem qC {k:Bs} {K K':Dk} {base:Nat} {h:Bs}:∀(n:Nat),(∀i:Nat,i < n→K'.get (2+(i:Int))=K.get (2+(i:Int)))→bM k K' base h n=bM k K base h n
 | 0,_=> rfl
 | n+1,hs=> by
   rw[bM,bM,qC n (fun i hi=> hs i (by omega)),hs n (by omega)]
theorem HD.same {mem bm:Int} {key:Bs} {K K':Dk} {r:ae} {S:bg} (h:HD mem bm key K r S) (hb:0≤r.base) (hs:sA K K' r):HD mem bm key K' r S:=by
 obtain ⟨im,h0,L,S0,h1,h2,h3,h4⟩:=h
 refine ⟨im,h0,L,S0,?_,?_,h3,h4⟩
 ·rw[←h1]
  unfold iq
  by_cases c:r.base=0
  ·rw[if_pos c,if_pos c]
  ·rw[if_neg c,if_neg c,hs.1 (by omega)]
 ·rw[←h2]
  exact qC _ fun i hi=> hs.2 i (by omega)
theorem q19z {r:ae} (h:ba r=true):bf r=r.count - r.base:=by unfold bf;rw[if_pos h]
theorem HD.bw {mem bm:Int} {key:Bs} {K:Dk} {r:ae} {S:bg} (h:HD mem bm key K r S) (hw:r.wf) (hb:(cm r).2=true) (hr:ba r=true):HD mem bm key K (cm r).1 S:=by
 obtain ⟨e1,e2,_⟩:=q29z hw hb
 obtain ⟨im,h0,L,S0,h1,h2,h3,h4⟩:=h
 have hh:bf (cm r).1=bf r:=by rw[q19z e2,q19z hr,e1]
 refine ⟨im,h0,L,S0,?_,?_,?_,h4⟩
 ·rw[e1];exact h1
 ·rw[hh,e1];exact h2
 ·rw[e1];exact h3
theorem sB {S0 S:bg} {r:aq}:∀(L:List aq),iQ S0 L=some S→(bE S r).1=0→iQ S0 (L++[r])=some (bE S r).2
 | [],h,h0=> by
   cases h
   simp[iQ,h0]
 | x::L,h,h0=> by
   simp only[iQ,List.cons_append] at h ⊢
   split at h
   ·cases h
   ·rename_i c
    rw[if_neg c]
    revert h
    generalize (bE S0 x).2=S1
    intro h
    exact sB L h h0
theorem PA {s:bg} (hk:j5 s) {r:aq} (h:bU s r=0):(bE s r).1=0:=by
 have hr:=vF h
 unfold bE
 rw[if_neg (by simp[h])]
 by_cases k1:r.kind=1
 ·rw[if_pos k1]
  unfold bU at h
  rw[if_neg (by simp[hr]),if_pos k1] at h
  have jC:aP r.av=true:=by unfold aS at hr;rw[if_pos k1] at hr;simp at hr;simp[hr]
  have oj:=M9 hk h
  simp only
  unfold o5
  rw[if_neg (by simp[jC])]
  by_cases c:((s.p (aH r.av.iD)).vs[pos (s.p (aH r.av.iD)).vs r.av.iD]?).map ag.iD=some r.av.iD
  ·rw[if_pos c]
  ·rw[if_neg c,if_neg]
   have:oh (s.p (aH r.av.iD)).vs r.av.iD=none:=by unfold oh;rw[if_neg c]
   have:=oj this
   omega
 ·rw[if_neg k1]
  split
  ·rfl
  ·split <;> rfl
theorem HD.next {mem bm:Int} {key:Bs} {K:Dk} {r:ae} {S:bg} {x:aq} {l:Bs} (h:HD mem bm key K r S) (hw:r.wf) (hx:x.wf) (hk:j5 S) (hc:bU S x=0)
 (hl:l=(kS key (r.count.toNat+1) r.head x).1) (hn:(ej r (dn r.head l)).2=true) (hg:K.get (2+bf r)=some l):HD mem bm key K (ej r (dn r.head l)).1 (bE S x).2:=by
 have hhl:(dn r.head l).length=16:=by simp[dn,dj,bj]
 obtain ⟨e1,e2,e3,_⟩:=q30z hw hhl hn
 have hr:=vF hc
 obtain ⟨im,h0,L,S0,h1,h2,h3,h4⟩:=h
 have Af:=q11z e2
 have hh:(bf (ej r (dn r.head l)).1).toNat=(bf r).toNat+1:=by rw[q19z e3,q19z e2,e1];simp only;omega
 have hd2:(2+((bf r).toNat:Nat):Int)=2+bf r:=by rw[q19z e2];omega
 have hcn:r.base.toNat+(bf r).toNat+1=r.count.toNat+1:=by rw[q19z e2];have:=hw.base;omega
 refine ⟨im,h0,L++[x],S0,?_,?_,?_,sB L h4 (PA hk hc)⟩
 ·rw[e1];exact h1
 ·rw[hh,bM,e1]
  simp only[h2,hd2,hg,hcn,Option.getD_some,Option.isSome_some]
  rw[hl,An key _ r.head x hw.head hx hr]
  simp
 ·rw[e1];exact h3
theorem Ao (v:ag) (hw:v.wf) (hr:aP v=true) (rest:Bs):bS (aZ v++rest)=(v,((aZ v).length:Int),0):=by
 have h:=sq v hw hr rest false
 unfold bS
 rw[h]
 simp only[Bool.false_eq_true,if_false]
 rw[List.length_append,Nat.add_sub_cancel]
theorem uG (l:List ag) (h:∀v∈l,aP v=true∧v.wf) (rest:Bs):∀n,n≤l.length→dp n (l.flatMap aZ++rest)=some (l.take n,(l.drop n).flatMap aZ++rest)
 | 0,_=> rfl
 | n+1,hn=> by
   have ih:=uG l h rest n (by omega)
   have hd:l.drop n=l[n]::l.drop (n+1):=List.drop_eq_getElem_cons (by omega)
   obtain ⟨h1,h2⟩:=h _ (List.getElem_mem (show n < l.length by omega))
   rw[dp,ih,hd,List.flatMap_cons,List.append_assoc]
   have ht:=Ao l[n] h2 h1 ((l.drop (n+1)).flatMap aZ++rest)
   simp only[ht,Int.toNat_natCast,List.drop_left,ne_eq,not_true_eq_false,if_false,List.take_succ_eq_append_getElem (show n < l.length by omega)]
theorem Le {s:bg} {i:Nat} {q:kF} (h:POk s i q) (rest:Bs) (hs:s.bm≤8∧0≤s.mem):nK (mo q++rest)=some (q,rest):=by
 obtain ⟨role,aD,to,vs⟩:=q
 obtain ⟨a1,a2,a3,a4,a5,a6,a7,a8,a9⟩:=h
 simp only at a1 a2 a3 a4 a5 a6 a7 a8 a9
 have r1:(((bt role).toNat:Nat):Int)=role:=iP (by omega) (by omega)
 have r2:(((bt to).toNat:Nat):Int)=to:=iP (by rcases a1 with h | h | h <;> first | (have:=a5 (by omega);omega) | (have:=a4 h;omega)) (by rcases a1 with h | h | h <;> first | (have:=a5 (by omega);omega) | (have:=a4 h;omega))
 have r3:(bt (vs.length:Int)).toNat=vs.length:=by have:=iP (n:=(vs.length:Int)) (by omega) (by omega);omega
 have r4:((jm (bB aD.toNat):Nat):Int)=aD:=by rw[mq _ (by omega)];omega
 have hv:=uG vs (fun v hv=>⟨(a9 v hv).1,(a9 v hv).2.1⟩) rest vs.length (Nat.le_refl _)
 rw[List.take_length,List.drop_length,List.flatMap_nil,List.nil_append] at hv
 obtain ⟨n,hn⟩:∃n,bB aD.toNat=n:=⟨_,rfl⟩
 have lV:n.length=8:=by rw[←hn];exact bF _
 rw[hn] at r4
 match n,lV with
 | [n0,n1,n2,n3,n4,n5,n6,n7],_=>
   unfold nK mo
   simp only[hn,List.cons_append,List.nil_append,List.append_assoc]
   rw[if_neg (by simp)]
   simp only[List.getD_cons_zero,List.getD_cons_succ,List.drop_succ_cons,List.drop_zero,r3,hv,List.take_succ_cons,List.take_zero,r1,r2]
   rw[r4]
def my (s:bg) (n:Nat):Bs:=(List.range (16 - n)).flatMap fun i=> mo (s.p (n+i))
theorem xF (s:bg):my s 0=fJ s 16:=by simp[my,fJ]
theorem xG (s:bg) (n:Nat) (h:n < 16):my s n=mo (s.p n)++my s (n+1):=by
 unfold my
 rw[show 16 - n=(16 - (n+1))+1 by omega,List.range_succ_eq_map,List.flatMap_cons,List.flatMap_map]
 have hf:(fun i=> mo (s.p (n+(i+1))))=fun i=> mo (s.p (n+1+i)):=funext fun i=> by rw[show n+(i+1)=n+1+i by omega]
 simp only[Nat.add_zero,Nat.succ_eq_add_one]
 rw[hf]
theorem Dt (s t:bg) (n:Nat):(jE s t n).o6 n (s.p n)=jE s t (n+1):=by
 simp only[jE,bg.o6,bg.mk.injEq,true_and]
 funext j
 by_cases h:j=n
 ·subst h;simp
 ·simp only[h,if_false]
  by_cases h1:j < n
  ·simp[h1,show j < n+1 by omega]
  ·simp[h1,show ¬j < n+1 by omega]
theorem BY {s:bg} (hk:j5 s):∀n,n≤16→j8 (jE s (bg.new s.mem s.bm) 0) (my s 0) n=some (jE s (bg.new s.mem s.bm) n,my s n)
 | 0,_=> rfl
 | n+1,hn=> by
   have ih:=BY hk n (by omega)
   have ok:=hk.p n (by omega)
   have hp:=Le ok (my s (n+1)) ⟨hk.m2,hk.m3⟩
   have aR:nA (jE s (bg.new s.mem s.bm) n) n (s.p n)=(0,jE s (bg.new s.mem s.bm) (n+1)):=by
     unfold nA;rw[if_pos (ok.right (t:=jE s (bg.new s.mem s.bm) n) rfl rfl),Dt]
   rw[j8,ih,xG s n (by omega)]
   simp only[hp,aR,ne_eq,not_true_eq_false,if_false]
def beyond (s:bg):Prop:=∀j,16≤j→s.p j=(bg.new s.mem s.bm).p j
theorem VD {s:bg} (hk:j5 s) (hb:beyond s):ofI s.mem s.bm (gR s)=some s:=by
 have h1:=BY hk 16 (Nat.le_refl _)
 have h0:jE s (bg.new s.mem s.bm) 0=bg.new s.mem s.bm:=by simp[jE,bg.new]
 have h16:jE s (bg.new s.mem s.bm) 16=s:=by
   obtain ⟨m,ms,p⟩:=s
   simp only[jE,bg.mk.injEq,true_and]
   funext j
   by_cases h:j < 16
   ·simp[h]
   ·simp only[h,if_false]
    exact (hb j (by omega)).symm
 rw[h0,h16,xF] at h1
 have hr:uD s.mem s.bm (gR s)=some s:=by
   unfold uD
   rw[if_neg (by simp[gR])]
   have:(gR s).drop 2=fJ s 16:=by simp[gR]
   rw[this,h1]
   rfl
 unfold ofI
 rw[hr]
 simp
theorem kT {s:bg} (hb:beyond s) {n:Nat} (hn:n < 16) (q:kF):beyond (s.o6 n q):=fun j hj=> by
 rw[Aa _ _ _ _ (by omega)]
 exact hb j hj
theorem vJ {s:bg} (hb:beyond s) {r:aq}:beyond (bE s r).2:=by
 unfold bE
 by_cases c0:bU s r=0
 case neg=> rw[if_pos c0];exact hb
 rw[if_neg (by simp[c0])]
 have hr:=vF c0
 by_cases k1:r.kind=1
 ·rw[if_pos k1];exact kT hb (kN _) _
 ·rw[if_neg k1]
  have:=m8 hr k1
  split
  ·exact kT hb (by omega) _
  ·split
   ·exact kT hb (by omega) _
   ·exact kT hb (by omega) _
theorem HY {s:bg} (hk:j5 s):(gR s).length≤8184:=by
 have:=q39z hk 16 (Nat.le_refl _)
 simp only[gR,List.length_append,List.length_cons,List.length_nil];omega
theorem HD.fold {key:Bs} {K:Dk} {r:ae} {S:bg} {l:Bs} (hw:r.wf) (hr:ba r=true) (hc:r.base < r.count) (hk:j5 S) (hb:beyond S)
 (hl:l=(jF key r (gR S)).1) (hg:K.get (1 - r.aF)=some l):HD S.mem S.bm key K (gQ r (cS l)).1 S∧(gQ r (cS l)).2=true∧(gQ r (cS l)).1=⟨r.bw,r.count,r.count,cS l,1 - r.aF⟩:=by
 have Af:=q11z hr
 have him:=HY hk
 have Bw:l=lD key r.count.toNat mn (gR S):=by rw[hl];unfold jF;rw[if_neg (by omega)]
 have mz:ba ⟨r.bw,r.count,r.count,cS l,1 - r.aF⟩=true:=by
   unfold ba
   simp only[Bool.and_eq_true,Bool.or_eq_true,decide_eq_true_eq]
   have:=hw.base
   exact ⟨⟨⟨⟨⟨by omega,by omega⟩,by omega⟩,by omega⟩,by omega⟩,.inl (by omega)⟩
 have hf:gQ r (cS l)=(⟨r.bw,r.count,r.count,cS l,1 - r.aF⟩,true):=by
   unfold gQ vG
   rw[if_neg (by omega),if_pos ⟨hr,mz⟩]
 rw[hf]
 refine ⟨⟨gR S,cS l,[],S,?_,?_,?_,rfl⟩,rfl,rfl⟩
 ·unfold iq
  simp only
  have:=hw.base
  rw[if_neg (by omega),hg,Bw]
  simp only[uF key r.count.toNat mn (gR S) him (by decide)]
 ·have hh:bf ⟨r.bw,r.count,r.count,cS l,1 - r.aF⟩=0:=by rw[q19z mz];simp
  rw[hh];rfl
 ·have:=hw.base
  rw[if_pos (by simp only;omega)]
  exact VD hk hb
theorem mA {D:aI} (h:D.step.1=false):D.step.2=D.down D.dJ:=by
 unfold aI.step at h ⊢
 by_cases c:D.aO=0
 ·rw[if_pos c]
 ·rw[if_neg c] at h;cases h
theorem vK {D:aI} (h:D.step.1=true):D.step.2= {D with aO:=if 0 < D.aO then D.aO - 1 else D.aO,steps:=D.steps+1}:=by
 unfold aI.step at h ⊢
 by_cases c:D.aO=0
 ·rw[if_pos c] at h;cases h
 ·rw[if_neg c]
theorem vL {K:Dk} (hp:K.dR=0) (t:Int):K.il t= {K with now:=K.bz,bz:=K.bz,dR:=0}:=by
 unfold Dk.il Dk.dJ
 rw[if_neg (by omega)]
theorem get_eq {K K':Dk} (h:K'.now=K.now) (i:Int):K'.get i=K.get i:=by unfold Dk.get;rw[h]
theorem BZ {K K':Dk} {n:Nat} {x:Option Bs} (h:K'.now=K.now.set n x) (i:Int) (hi:i≠n):K'.get i=K.get i:=by
 unfold Dk.get
 split
 ·rw[h,sj,if_neg (by omega)]
 ·rfl
theorem HZ {K K':Dk} {n:Nat} {x:Bs} (h:K'.now=K.now.set n (some x)) (hk:K.now.length=10) (hn:n < 10):K'.get (n:Int)=some x:=by
 unfold Dk.get
 rw[if_pos (by omega),h,sj,if_pos (by omega)]
structure LD (K K':Dk) (n:Int):Prop where
 nl:K'.now=K'.bz
 p0:K'.dR=0
 ne:∀i:Int,i≠n→K'.get i=K.get i
 ok:K'.OK
theorem H9 {D:aI} (hp:D.dk.dR=0) (lV:D.dk.now=D.dk.bz) (hk:D.dk.OK) (n:Int) (l:Bs):
 LD D.dk (D.lay n l).2.dk n∧((D.lay n l).1=true→Dk.jq n l=true→(D.lay n l).2.dk.get n=some l):=by
 have hc0:LD D.dk (D.dk.il D.dJ) n:=by
   rw[vL hp]
   exact ⟨rfl,rfl,fun i _=> get_eq lV.symm i,⟨hk.bz,hk.bz,hk.at_,hk.ls,hk.ls,hk.last⟩⟩
 unfold aI.lay
 cases c1:D.step.1 with
 | false=>
   rw[if_pos rfl,mA c1]
   exact ⟨hc0,fun h=> by cases h⟩
 | true=>
   rw[if_neg (by simp),vK c1]
   generalize hD1:({D with aO:=if 0 < D.aO then D.aO - 1 else D.aO,steps:=D.steps+1}:aI)=D1
   have hdk:D1.dk=D.dk:=by rw[←hD1]
   have htn:D1.dJ=D.dJ:=by rw[←hD1]
   by_cases ct:Dk.jq n l=true
   ·have ct':=ct
    simp only[Dk.jq,Bool.and_eq_true,decide_eq_true_eq] at ct'
    obtain ⟨⟨t1,t2⟩,t3⟩:=ct'
    obtain ⟨m,rfl⟩:∃m:Nat,n=m:=⟨n.toNat,by omega⟩
    have fk:(D1.put m l).dk=D.dk.put m l:=by unfold aI.put;simp only[ct,if_true,hdk,Int.toNat_natCast]
    have gP:=Dk.HF hk (n:=m) (l:=l) (by omega) t3
    cases c3:(D1.put m l).step.1 with
    | false=>
      rw[if_pos rfl,mA c3]
      refine ⟨?_,fun h=> by cases h⟩
      have e:((D1.put m l).down (D1.put m l).dJ).dk=(D.dk.put m l).il (D1.put m l).dJ:=by simp only[aI.down,fk]
      rw[e]
      refine ⟨rfl,rfl,fun i hi=> ?_,Dk.HG gP _⟩
      by_cases ctn:0 <(D.dk.put m l).dR∧0 <(D1.put m l).dJ
      ·exact BZ (K:=D.dk) (n:=m) (x:=some (l.take (D1.put m l).dJ.toNat)) (by simp only[Dk.il,Dk.dJ,ctn,and_self,if_true];simp only[Dk.put,lV]) i hi
      ·exact get_eq (by simp only[Dk.il,Dk.dJ,ctn,if_false];simp only[Dk.put,lV]) i
    | true=>
      rw[if_neg (by simp),vK c3]
      have e:(D1.put m l).dk.sync=(D.dk.put m l).sync:=by rw[fk]
      simp only[e]
      refine ⟨⟨rfl,rfl,fun i hi=> BZ (K:=D.dk) (n:=m) (x:=some l) (by simp only[Dk.sync,Dk.put]) i hi,Dk.vH gP⟩,fun _ _=> HZ (K:=D.dk) (by simp only[Dk.sync,Dk.put]) hk.now (by omega)⟩
   ·have fk:(D1.put n l).dk=D.dk:=by unfold aI.put;simp only[ct,Bool.false_eq_true,if_false,hdk]
    cases c3:(D1.put n l).step.1 with
    | false=>
      rw[if_pos rfl,mA c3]
      refine ⟨?_,fun h=> by cases h⟩
      have e:((D1.put n l).down (D1.put n l).dJ).dk=D.dk.il (D1.put n l).dJ:=by simp only[aI.down,fk]
      rw[e,vL hp]
      exact ⟨rfl,rfl,fun i _=> get_eq lV.symm i,⟨hk.bz,hk.bz,hk.at_,hk.ls,hk.ls,hk.last⟩⟩
    | true=>
      rw[if_neg (by simp),vK c3]
      have e:(D1.put n l).dk.sync=D.dk.sync:=by rw[fk]
      simp only[e]
      exact ⟨⟨rfl,rfl,fun i _=> get_eq rfl i,Dk.vH hk⟩,fun _ h=> absurd h ct⟩
theorem B0 {D:aI} (hp:D.dk.dR=0) (lV:D.dk.now=D.dk.bz) (hk:D.dk.OK):D.step.2.dk.now=D.step.2.dk.bz∧D.step.2.dk.dR=0∧(∀i,D.step.2.dk.get i=D.dk.get i)∧D.step.2.dk.OK:=by
 cases c1:D.step.1 with
 | false=>
   rw[mA c1]
   simp only[aI.down,vL hp]
   exact ⟨trivial,trivial,fun i=> get_eq lV.symm i,⟨hk.bz,hk.bz,hk.at_,hk.ls,hk.ls,hk.last⟩⟩
 | true=>
   rw[vK c1]
   exact ⟨lV,hp,fun i=> rfl,hk⟩
structure HI0 (N:Int) (D:aI):Prop where
 ok:nB 0 N D
 dm:DM D
 dko:D.dk.OK
 nl:D.dk.now=D.dk.bz
 sm:D.st.mem=D.mem∧D.st.bm=D.bm
 sk:j5 D.st
 bey:beyond D.st
 hd:HD D.mem D.bm D.key D.dk D.r D.st
 is:D.is=1∨D.is=2
 cn:D.r.count≤N∧D.r.bw≤N
structure HI (N:Int) (D:aI):Prop extends HI0 N D where
 hl:D.is=1→bf D.r < 8
theorem HI.new {a b:Int} (k:Bs) (h1:1≤b) (h2:b≤8) (h3:0≤a) (h4:a < b):HI 0 (aI.new a b k):=by
 refine ⟨⟨nB.new k h1 h2 h3 h4,⟨h1,h2,h3,h4⟩,Dk.sh,rfl,⟨rfl,rfl⟩,j5.new h1 h2 h3 h4,fun j _=> rfl,⟨[],bN,[],bg.new a b,rfl,rfl,?_,rfl⟩,.inl rfl,show ik.count≤0∧ik.bw≤0 by decide⟩,fun _=> show bf ik < 8 by decide⟩
 rw[if_neg (show ¬0 <(aI.new a b k).r.base from (by decide:¬0 < ik.base))];rfl
theorem vM {r:ae} {hd:Bs} (hw:r.wf) (hr:ba r=true) (hl:bf r < 8) (hc:r.count < 1099511627776):(ej r hd).2=true:=by
 have:=q11z hr
 rw[q19z hr] at hl
 have mz:ba ⟨r.bw,r.count+1,r.base,hd,r.aF⟩=true:=by
   unfold ba
   simp only[Bool.and_eq_true,Bool.or_eq_true,decide_eq_true_eq]
   have:=hw.base
   exact ⟨⟨⟨⟨⟨by omega,by omega⟩,by omega⟩,by omega⟩,by omega⟩,.inl (by omega)⟩
 unfold ej vG
 rw[if_pos ⟨hr,mz⟩]
theorem Aq {r:ae} (hl:bf r < 8):aW r=2+bf r:=by unfold aW;rw[if_neg (by omega)]
theorem HI0.mk' {N M:Int} {D E:aI} (h:HI0 N D) (hs:D.same E) (hl:(E.dk.now=E.dk.bz∧E.dk.OK∧sA D.dk E.dk D.r)) (gP:nB 0 M E) (hN:N≤M) (hi:E.is=D.is∨E.is=2):HI0 M E:=by
 obtain ⟨m1,m2,m3,m4,m5⟩:=hs
 obtain ⟨l1,l2,l3⟩:=hl
 refine ⟨gP,⟨by rw[m2];exact h.dm.m1,by rw[m2];exact h.dm.m2,by rw[m1];exact h.dm.m3,by rw[m1,m2];exact h.dm.m4⟩,l2,l1,by rw[m1,m2,m4];exact h.sm,by rw[m4];exact h.sk,by rw[m4];exact h.bey,?_,?_,?_⟩
 ·rw[m1,m2,m3,m4,m5]
  exact h.hd.same h.ok.gw.base.1 l3
 ·rcases hi with hi | hi
  ·rw[hi];exact h.is
  ·exact .inr hi
 ·rw[m5];have:=h.cn;omega
theorem Nb {D:aI} {n:Int} {l:Bs} (h:(D.lay n l).1=false):(D.lay n l).2.is=2:=by
 unfold aI.lay at h ⊢
 cases c1:D.step.1 with
 | false=>
   rw[if_pos rfl,mA c1];rfl
 | true=>
   rw[c1,if_neg (by simp)] at h
   rw[if_neg (by simp)]
   cases c3:(D.step.2.put n l).step.1 with
   | false=> rw[if_pos rfl,mA c3];rfl
   | true=> rw[c3,if_neg (by simp)] at h;cases h
theorem aI.same.trans {A B C:aI} (h:A.same B) (k:B.same C):A.same C:=by
 obtain ⟨a1,a2,a3,a4,a5⟩:=h
 obtain ⟨b1,b2,b3,b4,b5⟩:=k
 exact ⟨b1.trans a1,b2.trans a2,b3.trans a3,b4.trans a4,b5.trans a5⟩
theorem uH {K K':Dk} {r:ae} {n:Int} (hl:LD K K' n) (h1:n≠r.aF) (h2:n < 2∨2+bf r≤n):sA K K' r:=
 ⟨fun _=> hl.ne _ (fun e=> h1 e.symm),fun i hi=> hl.ne _ (fun e=> by omega)⟩
theorem qD {A B C:Dk} {r:ae} (h:sA A B r) (hg:∀i,C.get i=B.get i):sA A C r:=
 ⟨fun hb=>(hg _).trans (h.1 hb),fun i hi=>(hg _).trans (h.2 i hi)⟩
theorem HI0.fold {N:Int} {D:aI} (h:HI0 N D) (hi:D.is=1) (h8:bf D.r=8):
 HI (N+3) D.fold.2∧D.fold.2.st=D.st∧D.fold.2.r.count=D.r.count∧D.fold.2.r.bw=D.r.bw∧(D.fold.1=true→D.fold.2.is=1)∧(D.fold.1=false→D.fold.2.is=2):=by
 have Af:=q11z h.ok.gr
 have hp0:D.dk.dR=0:=Nat.le_zero.1 h.ok.dR
 obtain ⟨hL,hG⟩:=H9 hp0 h.nl h.dko (1 - D.r.aF) D.lW
 have ok1:=h.ok.lay (1 - D.r.aF) D.lW
 obtain ⟨s1,i1⟩:=aI.pb D (1 - D.r.aF) D.lW
 have sk1:sA D.dk (D.lay (1 - D.r.aF) D.lW).2.dk D.r:=uH hL (by omega) (.inl (by omega))
 have hil:D.lW.length≤8192:=sn _ _ _
 have eA:Dk.jq (1 - D.r.aF) D.lW=true:=by
   simp only[Dk.jq,Bool.and_eq_true,decide_eq_true_eq];omega
 have hf:=Nb (D:=D) (n:=1 - D.r.aF) (l:=D.lW)
 unfold aI.fold
 generalize (D.lay (1 - D.r.aF) D.lW)=L at *
 cases c1:L.1 with
 | false=>
   rw[if_pos rfl]
   obtain ⟨m1,m2,m3,m4,m5⟩:=s1
   have pN:=hf c1
   have h0:=h.mk' ⟨m1,m2,m3,m4,m5⟩ ⟨hL.nl,hL.ok,sk1⟩ (ok1.wk (p':=0) (N':=N+3) (by omega) (by omega)) (by omega) (.inr pN)
   exact ⟨⟨h0,fun h1=> by rw[show (false,L.2).2=L.2 from rfl,pN] at h1;cases h1⟩,m4,by rw[m5],by rw[m5],(fun h=> by cases h),fun _=> pN⟩
 | true=>
   rw[if_neg (by simp)]
   obtain ⟨t1,t2,t3,t4⟩:=B0 hL.p0 hL.nl hL.ok
   have ok2:=ok1.step
   obtain ⟨s2,i2⟩:=aI.iI L.2
   have sk2:=qD sk1 t3
   have s12:=s1.trans s2
   cases c2:L.2.step.1 with
   | false=>
     rw[if_pos rfl]
     have pN:L.2.step.2.is=2:=by rw[mA c2];rfl
     obtain ⟨m1,m2,m3,m4,m5⟩:=s12
     have h0:=h.mk' ⟨m1,m2,m3,m4,m5⟩ ⟨t1,t4,sk2⟩ (ok2.wk (p':=0) (N':=N+3) (by omega) (by omega)) (by omega) (.inr pN)
     exact ⟨⟨h0,fun h1=> by rw[show (false,L.2.step.2).2=L.2.step.2 from rfl,pN] at h1;cases h1⟩,m4,by rw[m5],by rw[m5],(fun h=> by cases h),fun _=> pN⟩
   | true=>
     rw[if_neg (by simp)]
     have is2:L.2.step.2.is=1:=by rw[i2 c2,i1 c1,hi]
     have zO:=(t3 (1 - D.r.aF)).trans (hG c1 eA)
     generalize L.2.step.2=E at *
     obtain ⟨m1,m2,m3,m4,m5⟩:=s12
     have hcb:D.r.base < D.r.count:=by rw[q19z h.ok.gr] at h8;omega
     obtain ⟨f1,f2,f3⟩:=HD.fold (key:=D.key) (K:=E.dk) h.ok.gw h.ok.gr hcb h.sk h.bey rfl zO
     have him:(jF D.key D.r (gR D.st)).1=D.lW:=rfl
     rw[him] at f1 f2 f3
     simp only[m5]
     have jc:ba (gQ D.r (cS D.lW)).1=true:=by
       have:=f2
       unfold gQ vG at this ⊢
       rw[if_neg (by omega)] at this ⊢
       split at this
       ·rename_i c;rw[if_pos c];exact c.2
       ·cases this
     have vw:(gQ D.r (cS D.lW)).1.wf:=by
       rw[f3]
       obtain ⟨w1,w2,w3,w4,w5⟩:=h.ok.gw
       exact ⟨w1,w2,w2,bj _,by simp only;omega⟩
     have hh0:bf (gQ D.r (cS D.lW)).1=0:=by rw[q19z jc,f3];simp
     refine ⟨⟨⟨⟨ok2.dR,ok2.s0,by have:=ok2.s1;simp only;omega,ok2.f1,jc,vw,fun _=> by simp only[m4];exact h.sk,.inl is2⟩,⟨by simp only[m2];exact h.dm.m1,by simp only[m2];exact h.dm.m2,by simp only[m1];exact h.dm.m3,by simp only[m1,m2];exact h.dm.m4⟩,t4,t1,by simp only[m1,m2,m4];exact h.sm,by simp only[m4];exact h.sk,by simp only[m4];exact h.bey,?_,.inl is2,?_⟩,fun _=> by simp only;omega⟩,m4,by simp only[f3],by simp only[f3],fun _=> is2,(fun h=> by cases h)⟩
     ·simp only[m1,m2,m3,m4]
      have:=h.sm
      rw[this.1,this.2] at f1
      exact f1
     ·simp only[f3];have:=h.cn;omega
theorem HI.wk {N M:Int} {D:aI} (h:HI N D) (hm:N≤M):HI M D:=
 ⟨⟨h.ok.wk (Nat.le_refl _) hm,h.dm,h.dko,h.nl,h.sm,h.sk,h.bey,h.hd,h.is,by have:=h.cn;omega⟩,h.hl⟩
theorem Nc {D:aI} (h:D.is=1) {r:aq} (hc:bU D.st r≠0):D.do r=(bU D.st r,D):=by
 have:fK D=0:=by unfold fK;rw[if_neg (by omega),if_neg (by omega)]
 unfold aI.do
 rw[if_neg (by omega),if_pos hc]
def Kept (D E:aI) (e:Int) (r:aq):Prop:=
 (E.r=D.r∧E.st=D.st∧e=29∧E.is=2)∨(E.r.count=D.r.count+1∧E.r.bw=D.r.bw∧E.st=(bE D.st r).2∧(e=0∧E.is=1∨e=29∧E.is=2))
theorem HI.do {N:Int} {D:aI} (h:HI N D) (hN:N < 1000000000) {r:aq} (hw:r.wf) (hi:D.is=1) (hc:bU D.st r=0):HI (N+6) (D.do r).2∧Kept D (D.do r).2 (D.do r).1 r:=by
 have FE:fK D=0:=by unfold fK;rw[if_neg (by omega),if_neg (by omega)]
 have Af:=q11z h.ok.gr
 have hp0:D.dk.dR=0:=Nat.le_zero.1 h.ok.dR
 have hh:=h.hl hi
 have hh0:=iO D.r h.ok.gw
 have ra:=Aq hh
 have hcn:=h.cn
 have gN:(D.next r).2=true:=vM h.ok.gw h.ok.gr hh (by omega)
 have hhl:(dn D.r.head (D.frame r)).length=16:=by simp[dn,dj,bj]
 obtain ⟨n1,n2,n3,n4⟩:=q30z (hd:=dn D.r.head (D.frame r)) h.ok.gw hhl gN
 obtain ⟨hL,hG⟩:=H9 hp0 h.nl h.dko (aW D.r) (D.frame r)
 have ok1:=h.ok.lay (aW D.r) (D.frame r)
 obtain ⟨s1,i1⟩:=aI.pb D (aW D.r) (D.frame r)
 have sk1:sA D.dk (D.lay (aW D.r) (D.frame r)).2.dk D.r:=uH hL (by omega) (.inr (by omega))
 have ma:=uC D hw hw.ai.2 h.ok.gw.head
 have eA:Dk.jq (aW D.r) (D.frame r)=true:=by
   simp only[Dk.jq,Bool.and_eq_true,decide_eq_true_eq];omega
 have hf:=Nb (D:=D) (n:=aW D.r) (l:=D.frame r)
 have hpd:D.xA r= {(D.lay (aW D.r) (D.frame r)).2.step.2 with r:=(D.next r).1,st:=(bE (D.lay (aW D.r) (D.frame r)).2.step.2.st r).2}:=rfl
 unfold aI.do
 rw[if_neg (by omega),if_neg (by omega),if_neg (by simp[gN]),hpd]
 generalize (D.lay (aW D.r) (D.frame r))=L at *
 cases c1:L.1 with
 | false=>
   rw[if_pos rfl]
   obtain ⟨m1,m2,m3,m4,m5⟩:=s1
   have pN:=hf c1
   have h0:=h.toHI0.mk' ⟨m1,m2,m3,m4,m5⟩ ⟨hL.nl,hL.ok,sk1⟩ (ok1.wk (p':=0) (N':=N+6) (by omega) (by omega)) (by omega) (.inr pN)
   exact ⟨⟨h0,fun h1=> by rw[show ((29:Int),L.2).2=L.2 from rfl,pN] at h1;cases h1⟩,.inl ⟨m5,m4,rfl,pN⟩⟩
 | true=>
   rw[if_neg (by simp)]
   obtain ⟨t1,t2,t3,t4⟩:=B0 hL.p0 hL.nl hL.ok
   have ok2:=ok1.step
   obtain ⟨s2,i2⟩:=aI.iI L.2
   have sk2:=qD sk1 t3
   have s12:=s1.trans s2
   cases c2:L.2.step.1 with
   | false=>
     rw[if_pos rfl]
     have pN:L.2.step.2.is=2:=by rw[mA c2];rfl
     obtain ⟨m1,m2,m3,m4,m5⟩:=s12
     have h0:=h.toHI0.mk' ⟨m1,m2,m3,m4,m5⟩ ⟨t1,t4,sk2⟩ (ok2.wk (p':=0) (N':=N+6) (by omega) (by omega)) (by omega) (.inr pN)
     exact ⟨⟨h0,fun h1=> by rw[show ((29:Int),L.2.step.2).2=L.2.step.2 from rfl,pN] at h1;cases h1⟩,.inl ⟨m5,m4,rfl,pN⟩⟩
   | true=>
     rw[if_neg (by simp)]
     have is2:L.2.step.2.is=1:=by rw[i2 c2,i1 c1,hi]
     have zO:=(t3 (aW D.r)).trans (hG c1 eA)
     rw[ra] at zO
     generalize L.2.step.2=E at *
     obtain ⟨m1,m2,m3,m4,m5⟩:=s12
     have f1:=HD.next (x:=r) (l:=D.frame r) (h.hd.same h.ok.gw.base.1 sk2) h.ok.gw hw h.sk hc rfl gN zO
     have cD:ej D.r (dn D.r.head (D.frame r))=D.next r:=rfl
     rw[cD] at n1 n3 n4 f1
     have hA:HI0 (N+3) {E with r:=(D.next r).1,st:=(bE E.st r).2}:=by
       refine ⟨⟨ok2.dR,ok2.s0,by have:=ok2.s1;simp only;omega,ok2.f1,n3,n4,fun _=> by simp only[m4];exact ml h.sk hw hw.ai.2,.inl is2⟩,⟨by simp only[m2];exact h.dm.m1,by simp only[m2];exact h.dm.m2,by simp only[m1];exact h.dm.m3,by simp only[m1,m2];exact h.dm.m4⟩,t4,t1,?_,by simp only[m4];exact ml h.sk hw hw.ai.2,by simp only[m4];exact vJ h.bey,?_,.inl is2,?_⟩
       ·simp only[m1,m2,m4]
        have:=h.sm
        rw[←this.1,←this.2]
        unfold bE
        split
        ·exact ⟨rfl,rfl⟩
        ·split
         ·exact ⟨rfl,rfl⟩
         ·split
          ·exact ⟨rfl,rfl⟩
          ·split <;> exact ⟨rfl,rfl⟩
       ·simp only[m1,m2,m3,m4]
        exact f1
       ·simp only[n1];omega
     have cn:(D.next r).1.count=D.r.count+1:=by rw[n1]
     have bn:(D.next r).1.bw=D.r.bw:=by rw[n1]
     by_cases c8:bf (D.next r).1=8
     ·rw[if_pos c8]
      obtain ⟨g1,g2,g3,g4,g5,g6⟩:=hA.fold is2 c8
      generalize ({E with r:=(D.next r).1,st:=(bE E.st r).2}:aI).fold=Z at *
      refine ⟨g1.wk (by omega),.inr ⟨g3.trans cn,g4.trans bn,by rw[g2,m4],?_⟩⟩
      cases c9:Z.1 with
      | false=> exact .inr ⟨rfl,g6 c9⟩
      | true=> exact .inl ⟨rfl,g5 c9⟩
     ·rw[if_neg c8]
      have hn8:=iO (D.next r).1 n4
      exact ⟨HI.wk ⟨hA,fun _=> by simp only;omega⟩ (by omega),.inr ⟨cn,bn,by simp only[m4],.inl ⟨rfl,is2⟩⟩⟩
theorem Lf {r:ae} (hr:ba r=true) (hb:r.bw < 1099511627776):(cm r).2=true:=by
 have mz:ba ⟨r.bw+1,r.count,r.base,r.head,r.aF⟩=true:=by
   have:=q11z hr
   unfold ba at hr ⊢
   simp only[Bool.and_eq_true,Bool.or_eq_true,decide_eq_true_eq] at hr ⊢
   obtain ⟨⟨⟨⟨⟨h1,h2⟩,h3⟩,h4⟩,h5⟩,h6⟩:=hr
   exact ⟨⟨⟨⟨⟨by omega,h2⟩,h3⟩,h4⟩,h5⟩,h6⟩
 unfold cm vG
 rw[if_pos ⟨hr,mz⟩]
theorem HI.start {N:Int} {D:aI} (h:HI N D) (hN:N < 1000000000) (hi:D.is=2):HI (N+4) D.start.2∧D.start.2.st=D.st∧D.start.2.r.count=D.r.count∧D.start.2.r.bw=D.r.bw+1∧
 (D.start.1=0∧D.start.2.is=1∨D.start.1=29∧D.start.2.is=2)∧(bf D.r < 8→D.start=(0, {D.up D.st with r:=⟨D.r.bw+1,D.r.count,D.r.base,D.r.head,D.r.aF⟩})):=by
 have hcn:=h.cn
 have hb:=Lf h.ok.gr (by omega)
 obtain ⟨b1,b2,b3⟩:=q29z h.ok.gw hb
 have hd2:=h.hd.bw h.ok.gw hb h.ok.gr
 have GU:D.ib.load=some D.st:=HD.load (D:=D.ib) b2 hd2
 have FF:bf (cm D.r).1=bf D.r:=by rw[q19z b2,q19z h.ok.gr,b1]
 have hup:D.up D.st= {D.up D.st with r:=⟨D.r.bw+1,D.r.count,D.r.base,D.r.head,D.r.aF⟩}:=by
   rw[←b1];rfl
 have hU:HI0 (N+1) (D.up D.st):=
   ⟨⟨h.ok.dR,h.ok.s0,by have:=h.ok.s1;show D.steps≤_;omega,h.ok.f1,b2,b3,fun _=> h.sk,.inl rfl⟩,⟨h.dm.m1,h.dm.m2,h.dm.m3,h.dm.m4⟩,h.dko,h.nl,h.sm,h.sk,h.bey,hd2,.inl rfl,by show (cm D.r).1.count≤_∧(cm D.r).1.bw≤_;rw[b1];simp only;omega⟩
 have fp:(D.up D.st).r.count=D.r.count:=by show (cm D.r).1.count=_;rw[b1]
 have hrb:(D.up D.st).r.bw=D.r.bw+1:=by show (cm D.r).1.bw=_;rw[b1]
 have aR:(D.up D.st).st=D.st:=rfl
 have hui:(D.up D.st).is=1:=rfl
 have hur:(D.up D.st).r=(cm D.r).1:=rfl
 unfold aI.start
 rw[if_neg (by omega),if_neg (by omega),if_neg (by simp[hb]),GU]
 simp only
 rw[←hup]
 generalize D.up D.st=U at *
 by_cases c8:bf (cm D.r).1=8
 ·rw[if_pos c8]
  obtain ⟨g1,g2,g3,g4,g5,g6⟩:=hU.fold hui (by rw[hur];exact c8)
  generalize U.fold=Z at *
  refine ⟨?_,g2.trans aR,g3.trans fp,g4.trans hrb,?_,fun hc=> by omega⟩
  ·exact g1.wk (by omega)
  ·cases c9:Z.1 with
   | false=> exact .inr ⟨rfl,g6 c9⟩
   | true=> exact .inl ⟨rfl,g5 c9⟩
 ·rw[if_neg c8]
  have h8:=iO (cm D.r).1 b3
  exact ⟨HI.wk ⟨hU,fun _=> by rw[hur];omega⟩ (by omega),aR,fp,hrb,.inl ⟨rfl,hui⟩,fun _=> rfl⟩
theorem j9 {D:aI} (h:D.aO < 0):D.step=(true, {D with steps:=D.steps+1}):=by
 unfold aI.step
 rw[if_neg (by omega),if_neg (by omega)]
theorem sC {D:aI} (h:D.aO < 0) (n:Int) (l:Bs):D.lay n l=(true, {D with steps:=D.steps+1+1,dk:=(D.put n l).dk.sync}):=by
 have e:({D with steps:=D.steps+1}:aI).put n l= {D.put n l with steps:=D.steps+1}:=rfl
 have h2:({D.put n l with steps:=D.steps+1}:aI).aO < 0:=h
 unfold aI.lay
 rw[j9 h]
 simp only[e,j9 h2]
 simp only[Bool.true_eq_false,if_false]
 rfl
theorem Du {D:aI} (h:D.aO < 0):D.fold=(true, {D with steps:=D.steps+1+1+1,dk:=(D.put (1 - D.r.aF) D.lW).dk.sync,r:=(gQ D.r (cS D.lW)).1}):=by
 have h2:({D with steps:=D.steps+1+1,dk:=(D.put (1 - D.r.aF) D.lW).dk.sync}:aI).aO < 0:=h
 unfold aI.fold
 rw[sC h]
 simp only[j9 h2,Bool.true_eq_false,if_false]
theorem vN {N:Int} {D:aI} (h:HI N D) (hN:N < 1000000000) {r:aq} (hw:r.wf) (hi:D.is=1) (hc:bU D.st r=0) (hf:D.aO < 0):
 (D.do r).1=0∧(D.do r).2.is=1∧(D.do r).2.aO=D.aO∧(D.do r).2.steps=D.steps+(if bf D.r=7 then 6 else 3)∧bf (D.do r).2.r=(if bf D.r=7 then 0 else bf D.r+1):=by
 have FE:fK D=0:=by unfold fK;rw[if_neg (by omega),if_neg (by omega)]
 have hh:=h.hl hi
 have hcn:=h.cn
 have gN:(D.next r).2=true:=vM h.ok.gw h.ok.gr hh (by omega)
 have hhl:(dn D.r.head (D.frame r)).length=16:=by simp[dn,dj,bj]
 obtain ⟨n1,n2,n3,n4⟩:=q30z (hd:=dn D.r.head (D.frame r)) h.ok.gw hhl gN
 have cD:ej D.r (dn D.r.head (D.frame r))=D.next r:=rfl
 rw[cD] at n1 n3 n4
 have h2:({D with steps:=D.steps+1+1,dk:=(D.put (aW D.r) (D.frame r)).dk.sync}:aI).aO < 0:=hf
 have hp:D.xA r= {D with steps:=D.steps+1+1+1,dk:=(D.put (aW D.r) (D.frame r)).dk.sync,r:=(D.next r).1,st:=(bE D.st r).2}:=by
   unfold aI.xA
   rw[sC hf]
   simp only[j9 h2]
 have Nd:bf (D.next r).1=bf D.r+1:=by rw[q19z n3,q19z h.ok.gr,n1];simp only;omega
 unfold aI.do
 rw[if_neg (by omega),if_neg (by omega),if_neg (by simp[gN]),sC hf]
 simp only[j9 h2,Bool.true_eq_false,if_false,hp]
 by_cases c7:bf D.r=7
 ·rw[if_pos (by omega),if_pos c7,if_pos c7]
  have h3:({D with steps:=D.steps+1+1+1,dk:=(D.put (aW D.r) (D.frame r)).dk.sync,r:=(D.next r).1,st:=(bE D.st r).2}:aI).aO < 0:=hf
  rw[Du h3]
  simp only[Bool.true_eq_false,if_false]
  refine ⟨trivial,hi,trivial,by omega,?_⟩
  have hcb:¬(D.next r).1.count≤(D.next r).1.base:=by rw[q19z n3] at Nd;omega
  have Af:=q11z n3
  generalize hb:(cS (aI.lW {D with steps:=D.steps+1+1+1,dk:=(D.put (aW D.r) (D.frame r)).dk.sync,r:=(D.next r).1,st:=(bE D.st r).2}))=sm
  have mz:ba ⟨(D.next r).1.bw,(D.next r).1.count,(D.next r).1.count,sm,1 - (D.next r).1.aF⟩=true:=by
    unfold ba
    simp only[Bool.and_eq_true,Bool.or_eq_true,decide_eq_true_eq]
    have:=n4.base
    exact ⟨⟨⟨⟨⟨by omega,by omega⟩,by omega⟩,by omega⟩,by omega⟩,.inl (by omega)⟩
  have:(gQ (D.next r).1 sm).1=⟨(D.next r).1.bw,(D.next r).1.count,(D.next r).1.count,sm,1 - (D.next r).1.aF⟩:=by
    unfold gQ vG
    rw[if_neg hcb,if_pos ⟨n3,mz⟩]
  rw[this,q19z mz]
  simp only;omega
 ·rw[if_neg (by omega),if_neg c7,if_neg c7]
  exact ⟨rfl,hi,rfl,by simp only;omega,Nd⟩
theorem xH {N:Int} {D:aI} (h:HI N D) (hN:N < 1000000000) {r:aq} (hi:D.is=1) (hc:bU D.st r=0) (h0:0≤D.aO) (h2:D.aO≤2):
 (D.do r).1=29∧(D.do r).2.is=2∧(D.do r).2.steps=D.steps+D.aO∧(D.do r).2.r=D.r∧(D.do r).2.st=D.st∧(D.do r).2.aO= -1:=by
 have FE:fK D=0:=by unfold fK;rw[if_neg (by omega),if_neg (by omega)]
 have hh:=h.hl hi
 have hcn:=h.cn
 have gN:(D.next r).2=true:=vM h.ok.gw h.ok.gr hh (by omega)
 unfold aI.do
 rw[if_neg (by omega),if_neg (by omega),if_neg (by simp[gN])]
 by_cases f0:D.aO=0
 ·have e1:D.step=(false,D.down D.dJ):=by unfold aI.step;rw[if_pos f0]
  have e2:D.lay (aW D.r) (D.frame r)=(false,D.down D.dJ):=by unfold aI.lay;rw[e1];simp
  rw[e2]
  simp only[if_true]
  exact ⟨trivial,rfl,by simp only[aI.down];omega,rfl,rfl,rfl⟩
 ·have e1:D.step=(true, {D with aO:=D.aO - 1,steps:=D.steps+1}):=by
    unfold aI.step
    rw[if_neg f0,if_pos (by omega)]
  by_cases f1:D.aO=1
  ·have e2:(({D with aO:=D.aO - 1,steps:=D.steps+1}:aI).put (aW D.r) (D.frame r)).step=(false,(({D with aO:=D.aO - 1,steps:=D.steps+1}:aI).put (aW D.r) (D.frame r)).down D.dJ):=by
     unfold aI.step
     rw[if_pos (by show D.aO - 1=0;omega)]
     rfl
   have e3:D.lay (aW D.r) (D.frame r)=(false,(({D with aO:=D.aO - 1,steps:=D.steps+1}:aI).put (aW D.r) (D.frame r)).down D.dJ):=by
     unfold aI.lay
     rw[e1]
     simp only[e2,Bool.true_eq_false,if_false,if_true]
   rw[e3]
   simp only[if_true]
   exact ⟨trivial,rfl,by simp only[aI.down,aI.put];omega,rfl,rfl,rfl⟩
  ·have f2:D.aO=2:=by omega
   have e2:(({D with aO:=D.aO - 1,steps:=D.steps+1}:aI).put (aW D.r) (D.frame r)).step=(true, {({D with aO:=D.aO - 1,steps:=D.steps+1}:aI).put (aW D.r) (D.frame r) with aO:=D.aO - 1 - 1,steps:=D.steps+1+1}):=by
     unfold aI.step
     rw[if_neg (by show ¬D.aO - 1=0;omega),if_pos (by show 0 < D.aO - 1;omega)]
     rfl
   have e3:D.lay (aW D.r) (D.frame r)=(true, {({D with aO:=D.aO - 1,steps:=D.steps+1}:aI).put (aW D.r) (D.frame r) with aO:=D.aO - 1 - 1,steps:=D.steps+1+1,dk:=(({D with aO:=D.aO - 1,steps:=D.steps+1}:aI).put (aW D.r) (D.frame r)).dk.sync}):=by
     unfold aI.lay
     rw[e1]
     simp only[e2,Bool.true_eq_false,if_false]
   rw[e3]
   simp only[Bool.true_eq_false,if_false]
   generalize hE:({({D with aO:=D.aO - 1,steps:=D.steps+1}:aI).put (aW D.r) (D.frame r) with aO:=D.aO - 1 - 1,steps:=D.steps+1+1,dk:=(({D with aO:=D.aO - 1,steps:=D.steps+1}:aI).put (aW D.r) (D.frame r)).dk.sync}:aI)=E
   have q1:E.aO=0:=by rw[←hE];simp only;omega
   have q2:E.steps=D.steps+2:=by rw[←hE];simp only;omega
   have q3:E.r=D.r∧E.st=D.st:=by rw[←hE];exact ⟨rfl,rfl⟩
   have e4:E.step=(false,E.down E.dJ):=by unfold aI.step;rw[if_pos q1]
   rw[e4]
   simp only[if_true]
   exact ⟨trivial,rfl,by simp only[aI.down];omega,q3.1,q3.2,rfl⟩
def kU (s:bg):Prop:=∀j,j < 16→(s.p j).role=1
theorem Lg (k:Bs):kU (aI.new 0 1 k).st:=fun j _=> by simp[aI.new,bg.new,Int.emod_one]
theorem uI {s:bg} (h:kU s) {r:aq} (hr:aS r=true) (hk:r.kind=1):bU s r=0∨bU s r=13:=by
 have h1:=h _ (kN r.av.iD)
 unfold bU mj
 rw[if_neg (by simp[hr]),if_pos hk,if_neg (by omega),if_neg (by omega)]
 split
 ·exact .inr rfl
 ·exact .inl rfl
theorem Dv {s:bg} (h:kU s) {r:aq} (hk:r.kind=1):kU (bE s r).2:=by
 unfold bE
 by_cases c0:bU s r≠0
 ·rw[if_pos c0];exact h
 ·rw[if_neg c0,if_pos hk]
  intro j hj
  by_cases c:j=aH r.av.iD
  ·subst c;rw[xv];exact h _ hj
  ·rw[Aa _ _ _ _ c];exact h j hj
def dq (v:ag):aq:=⟨1,0,0,0,v,[]⟩
theorem ox {v:ag} (h:aP v=true):aS (dq v)=true:=by
 unfold aS dq
 simp[h]
theorem B1 {v:ag} (h:v.wf):(dq v).wf:=⟨by simp[dq],by simp[dq],by simp[dq],by simp[dq],h,by simp[dq]⟩
theorem HI.aO {N:Int} {D:aI} (h:HI N D) (n t:Int) (hn:n≤9223372036854775807):HI N (D.eR n t):=by
 obtain ⟨⟨⟨a1,a2,a3,a4,a5,a6,a7,a8⟩,b,c,d,e,f,g,i,j,k⟩,l⟩:=h
 exact ⟨⟨⟨a1,a2,a3,by simp only[aI.eR];omega,a5,a6,a7,a8⟩,⟨b.m1,b.m2,b.m3,b.m4⟩,c,d,e,f,g,i,j,k⟩,l⟩
theorem HI.down {N:Int} {D:aI} (h:HI N D) (t:Int):HI N (D.down t):=by
 have hp0:D.dk.dR=0:=Nat.le_zero.1 h.ok.dR
 have hd:(D.down t).dk= {D.dk with now:=D.dk.bz,bz:=D.dk.bz,dR:=0}:=by simp only[aI.down,vL hp0]
 have hk:=h.dko
 refine ⟨h.toHI0.mk' ⟨rfl,rfl,rfl,rfl,rfl⟩ ⟨by rw[hd],by rw[hd];exact ⟨hk.bz,hk.bz,hk.at_,hk.ls,hk.ls,hk.last⟩,⟨fun _=> by rw[hd];exact get_eq h.nl.symm _,fun i _=> by rw[hd];exact get_eq h.nl.symm _⟩⟩ (h.ok.down t) (Int.le_refl _) (.inr rfl),fun hi=> by cases hi⟩
theorem HI.stop {N:Int} {D:aI} (h:HI N D):HI N D.stop:=by
 unfold aI.stop
 split
 ·exact h.down 0
 ·exact h
structure Lw (h H:Hp) (id:Nat) (D:aI) (F:List Nat) (P:Nat→Prop):Prop where
 d:lJ H id D F
 fw:Fw [] h H
 fn:∀j∈F,h.length≤j
 pn:∀j,P j→j∉F∧j < H.length
theorem Lw.op {h H H':Hp} {id:Nat} {D D':aI} {F F':List Nat} {P:Nat→Prop} (l:Lw h H id D F P) (hd:lJ H' id D' F') (f:Fw F H H') (hn:∀j∈F',j∈F∨H.length≤j):
 Lw h H' id D' F' P∧∀j b,P j→H[j]? =some b→H'[j]? =some b:=by
 refine ⟨⟨hd,l.fw.new f (fun j hj=> .inl (l.fn j hj)),fun j hj=> ?_,fun j hj=> ?_⟩,fun j b hj hb=> f.dw _ _ hb (l.pn j hj).1⟩
 ·rcases hn j hj with h1 | h1
  ·exact l.fn j h1
  ·have:=l.fw.len;omega
 ·obtain ⟨p1,p2⟩:=l.pn j hj
  refine ⟨fun hm=> ?_,f.lt p2⟩
  rcases hn j hm with h1 | h1
  ·exact p1 h1
  ·omega
theorem Lw.ext {h H H':Hp} {id:Nat} {D:aI} {F:List Nat} {P Q:Nat→Prop} (l:Lw h H id D F P) (f:Fw [] H H') (hq:∀j,Q j→P j∨(H.length≤j∧j < H'.length)):Lw h H' id D F Q:=by
 refine ⟨l.d.mono f (by simp),l.fw.trans f,l.fn,fun j hj=> ?_⟩
 rcases hq j hj with h1 | h1
 ·obtain ⟨p1,p2⟩:=l.pn j h1
  exact ⟨p1,f.lt p2⟩
 ·exact ⟨fun hm=> by have:=l.d.lt j hm;omega,h1.2⟩
theorem Dw (v:ag) (hv:aP v=true):bU (bg.new 0 1) (dq v)=0:=by
 unfold bU mj
 rw[if_neg (by simp[ox hv]),if_pos (show (dq v).kind=1 from rfl)]
 simp[dq,bg.new,Int.emod_one]
def dOf (n:Int):Bs:=[bt n,bt (pG .i64 n 8),3,0,0,0,0,0,0,0,0,0,0,0,0,0]
def Ia (n:Int):Bs:=[bt (within n 0 255),7,0,0]
theorem Nf (x:Int) (t:Nat):V.arr t [aa (bt x),aa (bt (pG .i64 x 8)),.s (.int .u8 3),.s (.int .u8 0),.s (.int .u8 0),.s (.int .u8 0),.s (.int .u8 0),.s (.int .u8 0),.s (.int .u8 0),.s (.int .u8 0),.s (.int .u8 0),.s (.int .u8 0),.s (.int .u8 0),.s (.int .u8 0),.s (.int .u8 0),.s (.int .u8 0)]= .arr t ((dOf x).map aa):=rfl
theorem Ib (x:Int) (t:Nat):V.arr t [aa (bt (within x 0 255)),.s (.int .u8 7),.s (.int .u8 0),.s (.int .u8 0)]= .arr t ((Ia x).map aa):=rfl
theorem Ye (b:Nat) (h:Hp) (n:Int):run fns pr b 22 [.s (.int .i64 n)] h=some (.arr 25 ((dOf n).map aa),h):=by
 refine Vm.aU (nt:=9) rfl R3 (by simp) ?_
 have hs:=fun cf base h=> oQ (cf:=cf) (base:=base) (h:=h) .i64 .u64 n 8 (by decide)
 have dh:=fun cf base h=> oQ (cf:=cf) (base:=base) (h:=h) .i64 .i64 n 8 (by decide)
 have au:(0:Nat)=0:=rfl
 try simp only[B22,hs,dh,od,Nf,go_sem,↓reduceIte,Nat.reduceEqDiff,Nat.reduceBEq,Nat.reduceAdd,Nat.reduceSub,Nat.reduceLT,Nat.reduceLeDiff,Int.reduceLT,Int.reduceLE,Int.reduceEq,Int.reduceToNat]
 repeat' (
   first | refine q5z ?_ ?_ | refine q3z ?_ ?_ | refine q4z ?_ ?_
   all_goals intro aj
   all_goals first | replace aj:=q2z aj | replace aj:=q1z aj | skip
   all_goals first | subst aj | replace au:=And.intro aj au
   all_goals try simp only[au,B22,hs,dh,od,Nf,go_sem,↓reduceIte,Nat.reduceEqDiff,Nat.reduceBEq,Nat.reduceAdd,Nat.reduceSub,Nat.reduceLT,Nat.reduceLeDiff,Int.reduceLT,Int.reduceLE,Int.reduceEq,Int.reduceToNat])
theorem VE (b:Nat) (h:Hp) (n:Int) (h0: -9223372036854775808≤n) (h1:n≤9223372036854775807):run fns pr b 8 [.s (.int .i64 n)] h=some (.arr 27 ((Ia n).map aa),h):=by
 refine Vm.aU (nt:=7) rfl XO (by simp) ?_
 have hw:=fun h'=> jU h.length h' n 0 255 (by omega) (by omega) (by omega) h0 h1
 have au:(0:Nat)=0:=rfl
 try simp only[B8,hw,od,Ib,go_sem,↓reduceIte,Nat.reduceEqDiff,Nat.reduceBEq,Nat.reduceAdd,Nat.reduceSub,Nat.reduceLT,Nat.reduceLeDiff,Int.reduceLT,Int.reduceLE,Int.reduceEq,Int.reduceToNat]
 repeat' (
   first | refine q5z ?_ ?_ | refine q3z ?_ ?_ | refine q4z ?_ ?_
   all_goals intro aj
   all_goals first | replace aj:=q2z aj | replace aj:=q1z aj | skip
   all_goals first | subst aj | replace au:=And.intro aj au
   all_goals try simp only[au,B8,hw,od,Ib,go_sem,↓reduceIte,Nat.reduceEqDiff,Nat.reduceBEq,Nat.reduceAdd,Nat.reduceSub,Nat.reduceLT,Nat.reduceLeDiff,Int.reduceLT,Int.reduceLE,Int.reduceEq,Int.reduceToNat])
theorem Lh (b:Nat) (h:Hp) (f:Bool) (l:Bs) (n:Nat):run fns pr b 23 [.al f none (l.map aa),.s (.int .i64 n)] h=some (.al false none ((l.take n).map aa),h):=by
 refine Vm.aU (nt:=13) rfl R5 (by simp) ?_
 by_cases c:n < l.length
 ·have c':(n:Int)< l.length:=by omega
  obtain ⟨y,h1,h2⟩:=(cY h f l).hi (k:= .i64) (r:=n) (by omega)
  have:y= .al (f && n==l.length) none ((l.take n).map aa):=by
    have:=h1 (run fns pr 0) 0
    simp only[aB,fZ,fq,aL,cL,dx,List.length_map] at this
    simp[show n≤l.length by omega,←List.map_take] at this
    exact this.symm
  subst this
  simp only[B23,go_sem,↓reduceIte,Nat.reduceEqDiff,Nat.reduceBEq,Nat.reduceAdd,Nat.reduceSub,Nat.reduceLT,Nat.reduceLeDiff,Int.reduceLT,Int.reduceLE,Int.reduceEq,Int.reduceToNat,c',h1]
 ·have c':¬(n:Int)< l.length:=by omega
  have:l.take n=l:=List.take_of_length_le (by omega)
  simp only[B23,go_sem,↓reduceIte,Nat.reduceEqDiff,Nat.reduceBEq,Nat.reduceAdd,Nat.reduceSub,Nat.reduceLT,Nat.reduceLeDiff,Int.reduceLT,Int.reduceLE,Int.reduceEq,Int.reduceToNat,c',this]
theorem PB (b:Nat) (h:Hp) (f:Bool) (l:Bs) (n:Int) (hn:0≤n):run fns pr b 23 [.al f none (l.map aa),.s (.int .i64 n)] h=some (.al false none ((l.take n.toNat).map aa),h):=by
 have:=Lh b h f l n.toNat
 rw[Int.toNat_of_nonneg hn] at this;exact this
def qE (x:KV) (id:Bs):ag:=
 if x.nm.tmod 4=3 then ⟨id,1+x.gen.tmod 1099511627776,bN,[],0,0,bN,true,decide ((x.nm.tdiv 4).tmod 2=1)⟩
 else ⟨id,1+x.gen.tmod 1099511627776,dOf x.qY,x.bY.take 64,within x.bX 1 32,within x.used 0 (within x.bX 1 32 - 1),dOf x.owner,false,false⟩
theorem Dx (b:Nat) (h:Hp) (x:KV) (id:Bs) (hx:x.wf):run fns pr b 7 [x.enc,.arr 27 (id.map aa)] h=some ((qE x id).enc,h):=by
 refine Vm.aU (nt:=46) rfl XM (by simp) ?_
 obtain ⟨w0,w1,w2,w3,w4,w5,w6,w7⟩:=hx
 have g4:=iC (n:=x.bX) (lo:=1) (hi:=32) (by omega)
 have g5:=iE (n:=x.bX) (lo:=1) (hi:=32) (by omega)
 have e1:=fun h'=> jU h.length h' x.bX 1 32 (by omega) (by omega) (by omega) w3.1 w3.2
 have e2:=fun h'=> jU h.length h' x.used 0 (within x.bX 1 32 - 1) (by omega) (by omega) (by omega) w4.1 w4.2
 have e7:=fun h' n=> Ye h.length h' n
 have e8:=fun h' f=> PB h.length h' f x.bY 64 (by omega)
 have r1:=fun cf base h x=> lY (cf:=cf) (base:=base) (h:=h) .i64 x 4 (by decide)
 have r2:=fun cf base h x=> lY (cf:=cf) (base:=base) (h:=h) .i64 x 2 (by decide)
 have r4:=fun cf base h x=> lY (cf:=cf) (base:=base) (h:=h) .u64 x 1099511627776 (by decide)
 have r5:=fun cf base h x=> xd (cf:=cf) (base:=base) (h:=h) .i64 x 4 (by decide)
 have h3:=Int.tmod_nonneg 1099511627776 w6.1
 have h4:=Int.tmod_lt_of_pos x.gen (show (0:Int)< 1099511627776 by decide)
 have lT:IntKind.u64.wrap (1+x.gen.tmod 1099511627776)=1+x.gen.tmod 1099511627776:=wrap_u64 (by omega) (by omega)
 have vw:IntKind.i64.wrap (within x.bX 1 32 - 1)=within x.bX 1 32 - 1:=wrap_i64 (by omega) (by omega)
 have hw3:IntKind.i64.wrap (x.nm.tdiv 4)=x.nm.tdiv 4:=by
   have: -9223372036854775808≤x.nm.tdiv 4∧x.nm.tdiv 4 < 9223372036854775808:=by
     rcases Int.le_total 0 x.nm with h0 | h0
     ·rw[Int.tdiv_eq_ediv_of_nonneg h0];omega
     ·have e:x.nm.tdiv 4= -((-x.nm).tdiv 4):=by rw[Int.neg_tdiv];simp
      rw[e,Int.tdiv_eq_ediv_of_nonneg (by omega)];omega
   exact wrap_i64 this.1 this.2
 simp only[show Int.toNat 64=64 from rfl] at e8
 have hlen:(x.bY.take 64).length≤140737488355328:=by simp;omega
 generalize hs:x.bY.take 64=l at e8 hlen
 unfold qE
 rw[hs]
 by_cases hh:x.nm.tmod 4=3
 ·rw[if_pos hh]
  have au:(0:Nat)=0:=rfl
  try simp only[B7,KV.enc,ag.enc,r1,r2,r4,r5,lT,hw3,hh,iz,ef,go_sem,↓reduceIte,Nat.reduceEqDiff,Nat.reduceBEq,Nat.reduceAdd,Nat.reduceSub,Nat.reduceLT,Nat.reduceLeDiff,Int.reduceLT,Int.reduceLE,Int.reduceEq,Int.reduceToNat]
  repeat' (
    first | refine q5z ?_ ?_ | refine q3z ?_ ?_ | refine q4z ?_ ?_
    all_goals intro aj
    all_goals first | replace aj:=q2z aj | replace aj:=q1z aj | skip
    all_goals first | subst aj | replace au:=And.intro aj au
    all_goals try simp only[au,B7,KV.enc,ag.enc,r1,r2,r4,r5,lT,hw3,hh,iz,ef,go_sem,↓reduceIte,Nat.reduceEqDiff,Nat.reduceBEq,Nat.reduceAdd,Nat.reduceSub,Nat.reduceLT,Nat.reduceLeDiff,Int.reduceLT,Int.reduceLE,Int.reduceEq,Int.reduceToNat])
 ·rw[if_neg hh]
  by_cases cD:l=[]
  ·subst cD
   simp only[List.map_nil] at e8
   have au:(0:Nat)=0:=rfl
   try simp only[B7,KV.enc,ag.enc,e1,e2,e7,e8,r1,r4,lT,vw,hh,iz,ef,List.map_nil,go_sem,↓reduceIte,Nat.reduceEqDiff,Nat.reduceBEq,Nat.reduceAdd,Nat.reduceSub,Nat.reduceLT,Nat.reduceLeDiff,Int.reduceLT,Int.reduceLE,Int.reduceEq,Int.reduceToNat]
   repeat' (
     first | refine q5z ?_ ?_ | refine q3z ?_ ?_ | refine q4z ?_ ?_
     all_goals intro aj
     all_goals first | replace aj:=q2z aj | replace aj:=q1z aj | skip
     all_goals first | subst aj | replace au:=And.intro aj au
     all_goals try simp only[au,B7,KV.enc,ag.enc,e1,e2,e7,e8,r1,r4,lT,vw,hh,iz,ef,List.map_nil,go_sem,↓reduceIte,Nat.reduceEqDiff,Nat.reduceBEq,Nat.reduceAdd,Nat.reduceSub,Nat.reduceLT,Nat.reduceLeDiff,Int.reduceLT,Int.reduceLE,Int.reduceEq,Int.reduceToNat])
  ·have ha:=fun cf base h f=> Dy (cf:=cf) (base:=base) (h:=h) (f:=f) cD hlen
   have au:(0:Nat)=0:=rfl
   try simp only[B7,KV.enc,ag.enc,e1,e2,e7,e8,r1,r4,lT,vw,hh,ha,iz,ef,go_sem,↓reduceIte,Nat.reduceEqDiff,Nat.reduceBEq,Nat.reduceAdd,Nat.reduceSub,Nat.reduceLT,Nat.reduceLeDiff,Int.reduceLT,Int.reduceLE,Int.reduceEq,Int.reduceToNat]
   repeat' (
     first | refine q5z ?_ ?_ | refine q3z ?_ ?_ | refine q4z ?_ ?_
     all_goals intro aj
     all_goals first | replace aj:=q2z aj | replace aj:=q1z aj | skip
     all_goals first | subst aj | replace au:=And.intro aj au
     all_goals try simp only[au,B7,KV.enc,ag.enc,e1,e2,e7,e8,r1,r4,lT,vw,hh,ha,iz,ef,go_sem,↓reduceIte,Nat.reduceEqDiff,Nat.reduceBEq,Nat.reduceAdd,Nat.reduceSub,Nat.reduceLT,Nat.reduceLeDiff,Int.reduceLT,Int.reduceLE,Int.reduceEq,Int.reduceToNat])
theorem q34z (x:KV) (id:Bs) (hx:x.wf):aP (qE x id)=true:=by
 have h3:=Int.tmod_nonneg 1099511627776 hx.gen.1
 have h4:=Int.tmod_lt_of_pos x.gen (show (0:Int)< 1099511627776 by decide)
 have g4:=iC (n:=x.bX) (lo:=1) (hi:=32) (by omega)
 have g5:=iE (n:=x.bX) (lo:=1) (hi:=32) (by omega)
 have g6:=iC (n:=x.used) (lo:=0) (hi:=within x.bX 1 32 - 1) (by omega)
 have g7:=iE (n:=x.used) (lo:=0) (hi:=within x.bX 1 32 - 1) (by omega)
 unfold qE
 split
 ·simp[aP];omega
 ·simp[aP];omega
def Y5 (n c:Nat):List V:=List.replicate c (.s (.int .u8 0))++((bB n).drop c).map aa
theorem Dz (b:Nat) (h:Hp) (x:V) (k l:Bs) (hk:k.length=16) (hr:Rd h x l) (hl:l.length≤900000):run fns pr b 80 [.arr 25 (k.map aa),x] h=some (.arr 25 ((dj k l).map aa),h):=by
 refine Vm.aU (nt:=11) rfl T5 (by simp) ?_
 have fV:(k.map aa).length=16:=by simp[hk]
 generalize hGd:h++[aV.cells (some 25) [V.arr 25 (k.map aa)],aV.cells (some 25) [bC 25]]=G
 have hG:G.length=h.length+2:=by rw[←hGd];simp
 have fG:Fw [] h G:=by rw[←hGd];exact Fw.app [] h _
 have g0:G[h.length]? =some (.cells (some 25) [.arr 25 (k.map aa)]):=by rw[←hGd];exact (xb h _ _).1
 have g1:G[h.length+1]? =some (.cells (some 25) [bC 25]):=by rw[←hGd];exact (xb h _ _).2
 have hsk:source G (.ref h.length [0] none 0 16 1)=some (none,k.map aa):=by
   have:elems G (.ref h.length [0] none 0 16 1)=some (none,k.map aa):=by
     simp only[dU,go_sem,↓reduceIte,Nat.reduceEqDiff,Nat.reduceBEq,Nat.reduceAdd,Nat.reduceSub,Nat.reduceLT,Nat.reduceLeDiff,Int.reduceLT,Int.reduceLE,Int.reduceEq,Int.reduceToNat,List.append_assoc,List.length_append,Vm.aK,Vm.ca,Vm.bu,Vm.bo,Vm.bJ,Vm.bp,Nat.le_refl,Nat.le_add_right,g0,fD,List.drop_zero,List.take_of_length_le (Nat.le_of_eq fV)]
   exact this
 obtain ⟨v,H,jb,hN⟩:=(kH.nil G).app hsk (by simp;omega)
 obtain ⟨w,H2,xe,hN2⟩:=hN.app ((hr.fw (fG.trans hN.fw)).source) (by simp;omega)
 rw[List.nil_append] at hN2
 have CR:=fun b=> KH b H2 w (k++l) (BR.rd hN2.br) (by simp;omega)
 have g2:H2[h.length+1]? =some (.cells (some 25) [bC 25]):=hN2.fw.dw _ _ g1 (by simp)
 have zK:((dj k l).map aa).length=16:=by simp[oX]
 have tk:∀b,(H2.set (h.length+1) b).take h.length=h:=fun b=> by
   rw[List.take_set_of_le (by omega)];exact (fG.trans hN2.fw).take
 simp only[B80,xI,fV,hGd,g0,jb,xe,CR,g2,tk,q9z g2,show cS (k++l)=dj k l from rfl,zK,pM,go_sem,↓reduceIte,Nat.reduceEqDiff,Nat.reduceBEq,Nat.reduceAdd,Nat.reduceSub,Nat.reduceLT,Nat.reduceLeDiff,Int.reduceLT,Int.reduceLE,Int.reduceEq,Int.reduceToNat]
def xJ (q:kF) (x:V):V:= .st 135 [.s (.int .i64 q.role),.s (.int .u64 q.aD),.s (.int .i64 q.to),x]
def iR (p:Nat→kF) (xs:Nat→V):List V:=(List.range 16).map fun i=> xJ (p i) (xs i)
theorem m9 (p:Nat→kF) (xs:Nat→V):(iR p xs).length=16:=by simp[iR]
theorem p6 (p:Nat→kF) (xs:Nat→V) (i:Nat) (h:i < 16):(iR p xs)[i]? =some (xJ (p i) (xs i)):=by simp[iR,h]
theorem DA (p:Nat→kF) (xs:Nat→V) (i:Nat) (q:kF) (x:V):(iR p xs).set i (xJ q x)=iR (fun j=> if j=i then q else p j) (fun j=> if j=i then x else xs j):=by
 apply List.ext_getElem?
 intro j
 rw[List.getElem?_set,m9]
 by_cases hj:j < 16
 ·rw[p6 _ _ _ hj,p6 _ _ _ hj]
  by_cases tG:i=j
  ·subst tG;simp[hj]
  ·simp[tG,Ne.symm tG]
 ·rw[List.getElem?_eq_none (by rw[m9];omega),List.getElem?_eq_none (by rw[m9];omega)]
  simp;omega
def DB (s:bg) (xs:Nat→V):List V:=[.st 138 [.s (.int .i64 s.mem),.s (.int .i64 s.bm),.arr 137 (iR s.p xs)]]
def RST (h:Hp) (m:Nat) (s:bg):Prop:=∃xs:Nat→V,h[m]? =some (.cells (some 138) (DB s xs))∧∀i,i < 16→SR h (xs i) (some 31) ((s.p i).vs.map ag.enc)
theorem RST.lt {h:Hp} {m:Nat} {s:bg} (hs:RST h m s):m < h.length:=by
 obtain ⟨xs,h1,_⟩:=hs
 exact q6z h1
theorem DC (b:Nat) (h:Hp) (x z:Int) (hb:b≤h.length) (h1:1≤z) (h2:z≤8) (h3:0≤x) (h4:x < z):∃v h',run fns pr b 47 [.s (.int .i64 x),.s (.int .i64 z)] h=some (v,h')∧v= .ptr h.length [0] 1∧RST h' h.length (bg.new x z)∧Fw [] h h':=by
 refine Vm.dZ (nt:=48) rfl SV (by simp) ?_
 have q1:¬z < 1:=by omega
 have q2:¬8 < z:=by omega
 have q3:¬x < 0:=by omega
 have q4:¬z≤x:=by omega
 simp only[B47,MU,MT,q1,q2,q3,q4,go_sem,↓reduceIte,Nat.reduceEqDiff,Nat.reduceBEq,Nat.reduceAdd,Nat.reduceSub,Nat.reduceLT,Nat.reduceLeDiff,Int.reduceLT,Int.reduceLE,Int.reduceEq,Int.reduceToNat]
 let X:Nat→V:=fun _=> .al true (some 31) []
 let P:Nat→Nat→kF:=fun i j=> if j < i then (bg.new x z).p j else ⟨0,0,0,[]⟩
 refine bh (fun q e H=>∃i:Nat,q=16 - i∧i≤16∧e 6= .s (.int .i64 (i:Nat))∧e 5= .ptr h.length [0] 1∧e 0= .s (.int .i64 x)∧e 1= .s (.int .i64 z)∧H=h++[.cells (some 138) (DB ⟨x,z,P i⟩ X)])
   (fun e H=> e 5= .ptr h.length [0] 1∧H=h++[.cells (some 138) (DB ⟨x,z,P 16⟩ X)]) 16 _ _ ⟨0,rfl,by omega,rfl,rfl,rfl,rfl,rfl⟩ ?_ ?_
 ·rintro q e H ⟨i,rfl,hi,e6,e5,e0,e1,rfl⟩
  by_cases c:i < 16
  ·have c':(i:Int)< 16:=by omega
   have i0:(0:Int)≤(i:Int):=by omega
   have c16:(i:Int)<((16:Nat):Int):=by omega
   have wr:IntKind.i64.wrap ((i:Int)+1)=((i+1:Nat):Int):=q18z (by omega)
   have hq:=fun cf base h=> lY cf base h .i64 (i:Int) z (by omega)
   have hm:(i:Int).tmod z=(i:Int) % z:=Int.tmod_eq_emod_of_nonneg i0
   have hPl:=m9 (P i) X
   have hPn:(iR (P i) X)[i]? =some (.st 135 [.s (.int .i64 0),.s (.int .u64 0),.s (.int .i64 0),.al true (some 31) []]):=by
     rw[p6 _ _ _ c]
     simp[P,X,xJ]
   have hPs:∀y,((iR (P i) X).set i y)[i]? =some y:=fun y=> by rw[List.getElem?_set_self (by rw[hPl];exact c)]
   have gN:∀k,(k=if (i:Int) % z=x then 1 else 0)→(iR (P i) X).set i (.st 135 [.s (.int .i64 k),.s (.int .u64 1),.s (.int .i64 0),.al true (some 31) []])=iR (P (i+1)) X:=fun k hk=> by
     have:=DA (P i) X i ⟨k,1,0,[]⟩ (.al true (some 31) [])
     simp only[xJ] at this
     rw[this]
     unfold iR
     apply List.map_congr_left
     intro j _
     simp only[P,X]
     by_cases hj:j=i
     ·subst hj;simp[bg.new,hk]
     ·simp only[hj,if_false]
      by_cases h5:j < i
      ·simp[h5,show j < i+1 by omega]
      ·simp[h5,show ¬j < i+1 by omega]
   have gr0:decide (b≤h.length)=true:=by simpa using hb
   by_cases cf:(i:Int) % z=x
   ·have hn:=gN 1 (by rw[if_pos cf])
    simp only[e6,e5,e0,e1,c',c16,i0,wr,hq,hm,cf,DB,hPl,hPn,hPs,c,hb,gr0,List.set_set,hn,go_sem,↓reduceIte,Nat.reduceEqDiff,Nat.reduceBEq,Nat.reduceAdd,Nat.reduceSub,Nat.reduceLT,Nat.reduceLeDiff,Int.reduceLT,Int.reduceLE,Int.reduceEq,Int.reduceToNat]
    exact ⟨16 - (i+1),by omega,i+1,rfl,by omega,rfl,rfl⟩
   ·have hn:=gN 0 (by rw[if_neg cf])
    simp only[e6,e5,e0,e1,c',c16,i0,wr,hq,hm,cf,DB,hPl,hPn,hPs,c,hb,gr0,List.set_set,hn,go_sem,↓reduceIte,Nat.reduceEqDiff,Nat.reduceBEq,Nat.reduceAdd,Nat.reduceSub,Nat.reduceLT,Nat.reduceLeDiff,Int.reduceLT,Int.reduceLE,Int.reduceEq,Int.reduceToNat]
    exact ⟨16 - (i+1),by omega,i+1,rfl,by omega,rfl,rfl⟩
  ·have c':¬(i:Int)< 16:=by omega
   obtain rfl:i=16:=by omega
   simp only[e6,e5,e0,e1,c',go_sem,↓reduceIte,Nat.reduceEqDiff,Nat.reduceBEq,Nat.reduceAdd,Nat.reduceSub,Nat.reduceLT,Nat.reduceLeDiff,Int.reduceLT,Int.reduceLE,Int.reduceEq,Int.reduceToNat]
 ·rintro e H ⟨e5,rfl⟩
  simp only[e5,go_sem,↓reduceIte,Nat.reduceEqDiff,Nat.reduceBEq,Nat.reduceAdd,Nat.reduceSub,Nat.reduceLT,Nat.reduceLeDiff,Int.reduceLT,Int.reduceLE,Int.reduceEq,Int.reduceToNat]
  refine ⟨⟨X,?_,fun i hi=> ?_⟩,Fw.app _ _ _⟩
  ·rw[aM]
   have:iR (P 16) X=iR (bg.new x z).p X:=by
     unfold iR
     apply List.map_congr_left
     intro j hj
     simp[P,List.mem_range.1 hj]
   simp only[DB,this]
   rfl
  ·exact .inl ⟨true,by simp[X,bg.new]⟩
def Sl7 (h:Hp) (v:V) (s:Option Bs):Prop:=∃x,v= .st 140 [.s (.bool s.isSome),x]∧BR h x (s.getD [])
def Ic (h:Hp) (vs:List V) (ss:List (Option Bs)):Prop:=vs.length=ss.length∧∀(i:Nat) v s,vs[i]? =some v→ss[i]? =some s→Sl7 h v s
theorem Sl7.mono {S:List Nat} {h h':Hp} {v:V} {s:Option Bs} (hs:Sl7 h v s) (f:Fw S h h'):Sl7 h' v s:=by
 obtain ⟨x,h1,h2⟩:=hs;exact ⟨x,h1,h2.mono f⟩
theorem Ic.mono {S:List Nat} {h h':Hp} {v:List V} {s:List (Option Bs)} (hs:Ic h v s) (f:Fw S h h'):Ic h' v s:=
 ⟨hs.1,fun i v s h1 h2=>(hs.2 i v s h1 h2).mono f⟩
def R7 (h:Hp) (id:Nat) (K:Dk):Prop:=∃nv ov x last n,h[id]? =some (.cells (some 143) [.st 143 [.arr 142 nv,.arr 142 ov,.s (.int .i64 last),x,.s (.int .i64 n)]])∧
 Ic h nv K.now∧Ic h ov K.bz∧(K.dR=0→last= -1)∧(0 < K.dR→last=K.at_∧BR h x K.last)∧x.ty=none∧x.ax=true∧K.OK
theorem R7.mono {S:List Nat} {h h':Hp} {id:Nat} {K:Dk} (hd:R7 h id K) (f:Fw S h h') (hi:id∉S):R7 h' id K:=by
 obtain ⟨nv,ov,x,last,n,h1,h2,h3,h4,h5,h6,h7,h8⟩:=hd
 exact ⟨nv,ov,x,last,n,f.dw _ _ h1 hi,h2.mono f,h3.mono f,h4,fun hp=>⟨(h5 hp).1,(h5 hp).2.mono f⟩,h6,h7,h8⟩
theorem R7.lt {h:Hp} {id:Nat} {K:Dk} (hd:R7 h id K):id < h.length:=by
 obtain ⟨nv,ov,x,last,n,h1,_⟩:=hd;exact q6z h1
def Z7 :V:= .st 140 [.s (.bool false),.al true none []]
theorem Ie (b:Nat) (h:Hp):∃v h',run fns pr b 49 [] h=some (v,h')∧v= .ptr h.length [0] 1∧R7 h' h.length Dk.new∧Fw [] h h':=by
 refine Vm.dZ (nt:=3) rfl SZ (by simp) ?_
 simp only[B49,go_sem,↓reduceIte,Nat.reduceEqDiff,Nat.reduceBEq,Nat.reduceAdd,Nat.reduceSub,Nat.reduceLT,Nat.reduceLeDiff,Int.reduceLT,Int.reduceLE,Int.reduceEq,Int.reduceToNat]
 refine ⟨⟨List.replicate 10 Z7,List.replicate 10 Z7,_,_,_,aM _ _,?_,?_,fun _=> rfl,fun h=> by simp[Dk.new] at h,rfl,rfl,Dk.sh⟩,Fw.app _ _ _⟩
 all_goals
   refine ⟨by simp[Dk.new],fun i v s h1 h2=> ?_⟩
   simp only[Dk.new,List.getElem?_replicate] at h1 h2
   split at h1
   ·rename_i hi
    rw[if_pos hi] at h2
    cases h1;cases h2
    exact ⟨_,rfl,oo _ _⟩
   ·cases h1
theorem DD (b:Nat) (h:Hp) (k:Bs) (m:Int) (hk:k.length=16):run fns pr b 48 [.arr 25 (k.map aa),.s (.int .i64 m)] h=some (.arr 25 ((dj k [bt m]).map aa),h):=by
 refine Vm.aU (nt:=10) rfl SX (by simp) ?_
 have fV:(k.map aa).length=16:=by simp[hk]
 have FE:∀A B,Rd (h++[A,B,aV.cells none [aa (bt m)]]) (.ref (h.length+2) [] none 0 1 1) [bt m]:=fun A B=> BR.rd (dH (aK _ _ 2) rfl)
 have yX:=fun b A B=> Dz b (h++[A,B,aV.cells none [aa (bt m)]]) (.ref (h.length+2) [] none 0 1 1) k [bt m] hk (FE A B) (by simp)
 have lz:((dj k [bt m]).map aa).length=16:=by simp[dj,bj]
 simp only[B48,fV,od,lz,bG,List.take_left,yX,go_sem,↓reduceIte,Nat.reduceEqDiff,Nat.reduceBEq,Nat.reduceAdd,Nat.reduceSub,Nat.reduceLT,Nat.reduceLeDiff,Int.reduceLT,Int.reduceLE,Int.reduceEq,Int.reduceToNat]
def Ng (D:aI) (sp:V) (did:Nat):List V:=[.st 97 [.s (.int .i64 D.mem),.s (.int .i64 D.bm),.arr 25 (D.key.map aa),.s (.int .i64 D.is),sp,.ptr did [0] 1,D.r.enc,.s (.int .i64 D.aO),.s (.int .i64 D.dJ),.s (.int .i64 D.steps)]]
structure RDP (h:Hp) (id:Nat) (D:aI) (did:Nat) (sp:V) (sid:Nat):Prop where
 o:h[id]? =some (.cells (some 97) (Ng D sp did))
 d:R7 h did D.dk
 s1:D.is=1→sp= .ptr sid [0] 1∧RST h sid D.st∧sid≠id∧sid≠did
 s2:D.is≠1→sp= .s (.pointer none)
 n1:id≠did
 kl:D.key.length=16
theorem DE (b:Nat) (h:Hp) (x z:Int) (k:Bs) (hb:b≤h.length) (hk:k.length=16) (h1:1≤z) (h2:z≤8) (h3:0≤x) (h4:x < z):
 ∃v h',run fns pr b 21 [.s (.int .i64 x),.s (.int .i64 z),.arr 25 (k.map aa)] h=some (v,h')∧∃id did sp sid,v= .ptr id [0] 1∧RDP h' id (aI.new x z k) did sp sid∧Fw [] h h'∧h.length≤id∧h.length≤did∧h.length≤sid:=by
 refine Vm.dZ (nt:=22) rfl R1 (by simp) ?_
 have fV:(k.map aa).length=16:=by simp[hk]
 have fA:Fw [] h (h++[aV.cells (some 25) [.arr 25 (k.map aa)]]):=Fw.app [] h _
 have gA:(h++[aV.cells (some 25) [.arr 25 (k.map aa)]])[h.length]? =some (aV.cells (some 25) [.arr 25 (k.map aa)]):=aM _ _
 have lA:=fA.len
 generalize hHA:h++[aV.cells (some 25) [.arr 25 (k.map aa)]]=HA at *
 obtain ⟨v1,H1,e1,rfl,s1,f1⟩:=DC b HA x z (Nat.le_trans hb lA) h1 h2 h3 h4
 have g1:=f1.dw _ _ gA (by simp)
 have yX:=fun b=> DD b H1 k x hk
 obtain ⟨v2,H2,e2,rfl,d2,f2⟩:=Ie b H1
 have tX:=s1.lt
 have Bw:=d2.lt
 simp only[B21,hHA,fV,e1,g1,yX,bG,e2,go_sem,↓reduceIte,Nat.reduceEqDiff,Nat.reduceBEq,Nat.reduceAdd,Nat.reduceSub,Nat.reduceLT,Nat.reduceLeDiff,Int.reduceLT,Int.reduceLE,Int.reduceEq,Int.reduceToNat]
 have f3:Fw [] H2 (H2++[aV.cells (some 97) (Ng (aI.new x z k) (.ptr HA.length [0] 1) H1.length)]):=Fw.app [] H2 _
 have m1:=f1.len
 have m2:=f2.len
 refine ⟨H2.length,H1.length,.ptr HA.length [0] 1,HA.length,rfl,⟨aM _ _,d2.mono f3 (by simp),fun _=>⟨rfl,?_,by omega,by omega⟩,fun hh=> absurd rfl hh,by omega,by simp[aI.new,dj,bj]⟩,fA.trans (f1.trans (f2.trans f3)),by omega,by omega,by omega⟩
 obtain ⟨xs,a1,a2⟩:=s1
 exact ⟨xs,f3.dw _ _ (f2.dw _ _ a1 (by simp)) (by simp),fun i hi=>((a2 i hi).fw f2).fw f3⟩
theorem xK (b:Nat) (h:Hp) (x z:Int) (k:Bs) (hb:b≤h.length) (hk:k.length=16) (h1:1≤z) (h2:z≤8) (h3:0≤x) (h4:x < z):
 ∃v h',run fns pr b 6 [.s (.int .i64 x),.s (.int .i64 z),.arr 25 (k.map aa)] h=some (v,h')∧∃t id F mid did sp sid,v= .ptr t [0] 1∧h'[t]? =some (.cells (some 47) [.st 47 [.ptr id [0] 1,.ptr mid [0] 1,.s (.pointer none),.s (.pointer none)]])∧
  lJ h' id (aI.new x z k) F∧RDP h' mid (aI.new x z k) did sp sid∧Fw [] h h'∧(∀j∈F,h.length≤j∧j < mid∧j < did∧j < sid∧j < t)∧h.length≤t∧h.length≤mid∧h.length≤did∧h.length≤sid∧mid < t∧did < t∧sid < t:=by
 refine Vm.dZ (nt:=35) rfl XK (by simp) ?_
 have fV:(k.map aa).length=16:=by simp[hk]
 have fA:Fw [] h (h++[aV.cells (some 25) [.arr 25 (k.map aa)]]):=Fw.app [] h _
 have gA:(h++[aV.cells (some 25) [.arr 25 (k.map aa)]])[h.length]? =some (aV.cells (some 25) [.arr 25 (k.map aa)]):=aM _ _
 have lA:=fA.len
 generalize hHA:h++[aV.cells (some 25) [.arr 25 (k.map aa)]]=HA at *
 obtain ⟨v1,H1,e1,id,F,rfl,d1,f1,n1⟩:=La b HA x z k (Nat.le_trans hb lA) hk h1 h2 h3 h4
 have g1:=f1.dw _ _ gA (by simp)
 have m1:=f1.len
 obtain ⟨v2,H2,e2,mid,did,sp,sid,rfl,p2,f2,l1,l2,l3⟩:=DE b H1 x z k (by omega) hk h1 h2 h3 h4
 have bW:=d1.lt
 have Bw:=q6z p2.o
 have wL:=p2.d.lt
 simp only[B6,hHA,fV,gA,e1,g1,bG,e2,go_sem,↓reduceIte,Nat.reduceEqDiff,Nat.reduceBEq,Nat.reduceAdd,Nat.reduceSub,Nat.reduceLT,Nat.reduceLeDiff,Int.reduceLT,Int.reduceLE,Int.reduceEq,Int.reduceToNat]
 have f3:Fw [] H2 (H2++[aV.cells (some 47) [.st 47 [.ptr id [0] 1,.ptr mid [0] 1,.s (.pointer none),.s (.pointer none)]]]):=Fw.app [] H2 _
 obtain ⟨q1,q2,q3,q4⟩:=p2.s1 rfl
 have hl4:=q2.lt
 refine ⟨H2.length,id,F,mid,did,sp,sid,rfl,aM _ _,(d1.mono f2 (by simp)).mono f3 (by simp),?_,fA.trans (f1.trans (f2.trans f3)),fun j hj=> ?_,by omega,by omega,by omega,by omega,by omega,by omega,by omega⟩
 ·obtain ⟨a1,a2,a3,a4,a5,a6⟩:=p2
  refine ⟨f3.dw _ _ a1 (by simp),a2.mono f3 (by simp),fun hi=> ?_,a4,a5,a6⟩
  obtain ⟨c1,⟨xs,c2,c3⟩,c4,c5⟩:=a3 hi
  exact ⟨c1,⟨xs,f3.dw _ _ c2 (by simp),fun i hi=>(c3 i hi).fw f3⟩,c4,c5⟩
 ·have:=n1 j hj
  have:=bW j hj
  exact ⟨by omega,by omega,by omega,by omega,by omega⟩
def dg (n:UInt8):Bs:=[n,0,0,0,0,0,0,0,0,0,0,0,0,0,0,0]
def jI (id:Bs):ag:=⟨id,1,bN,[],0,0,bN,true,false⟩
theorem Ar (id:Bs):aP (jI id)=true:=rfl
theorem Li {id:Bs} (h:id.length=4):(jI id).wf:=by
 refine ⟨?_,?_,?_,?_,?_,?_,?_,?_,?_⟩<;> first | exact h | trivial | (simp[jI];done) | (simp[jI,bN];done)
theorem As (b:Nat) (h:Hp):run fns pr b 14 [] h=some (.s (.bool true),h):=by
 refine Vm.aU (nt:=88) rfl RN (by simp) ?_
 obtain ⟨v0,H0,e0',t,id,F0,mid,did,sp,sid,rfl,ht,d0,p0,f0,n0,l1,l2,l3,l4,l5,l6,l7⟩:=xK h.length h 0 1 (dg 1) (Nat.le_refl _) rfl (by decide) (by decide) (by decide) (by decide)
 have vD:=HI.new (dg 1) (a:=0) (b:=1) (by decide) (by decide) (by decide) (by decide)
 have C8:=q6z ht
 generalize hD0:aI.new 0 1 (dg 1)=D0 at *
 have st0:D0.st=bg.new 0 1∧D0.is=1∧D0.r=ik:=by rw[←hD0];exact ⟨rfl,rfl,rfl⟩
 have w0:Lw h H0 id D0 F0 (fun j=> j=t):=⟨d0,f0,fun j hj=>(n0 j hj).1,fun j hj=> by subst hj;exact ⟨fun hm=> by have:=n0 _ hm;omega,C8⟩⟩
 have nz:(dq (jI [1,0,0,0])).enc=V.st 41 [.s (.int .i64 1),ki,ki,ku,.st 31 [.arr 27 [.s (.int .u8 1),.s (.int .u8 0),.s (.int .u8 0),.s (.int .u8 0)],.s (.int .u64 1),bC 25,kx,ki,ki,bC 25,.s (.bool true),.s (.bool false)],.al false (some 31) []]:=rfl
 have xf:=ox (Ar [1,0,0,0])
 have nC:=B1 (Li (id:=[1,0,0,0]) rfl)
 have DF:=Dw (jI [1,0,0,0]) rfl
 have xD:=jG (dq (jI [1,0,0,0]))
 have jB:=jH (dq (jI [1,0,0,0]))
 have vy:=pZ (dq (jI [1,0,0,0]))
 generalize hR:dq (jI [1,0,0,0])=R at *
 have fA:Fw [] H0 (H0++[aV.cells (some 41) [R.enc]]):=Fw.app [] H0 _
 have w1:Lw h (H0++[aV.cells (some 41) [R.enc]]) id D0 F0 (fun j=> j=t∨j=H0.length):=w0.ext fA (fun j hj=> by
   rcases hj with rfl | rfl
   ·exact .inl rfl
   ·exact .inr ⟨Nat.le_refl _,by simp⟩)
 have t1:=q10z ht [aV.cells (some 41) [R.enc]]
 have r1:(H0++[aV.cells (some 41) [R.enc]])[H0.length]? =some (aV.cells (some 41) [R.enc]):=aM _ _
 have yY:=f0.len
 generalize hH1:H0++[aV.cells (some 41) [R.enc]]=H1 at *
 obtain ⟨v2,H2,e2,rfl,d2,f2⟩:=BU h.length H1 id D0 F0 2 0 w1.fn w1.d
 obtain ⟨w2,k2⟩:=w1.op d2 f2 (fun j hj=> .inl hj)
 have t2:=k2 _ _ (.inl rfl) t1
 have r2:=k2 _ _ (.inr rfl) r1
 have hi1:=vD.aO 2 0 (by decide)
 have PC:(D0.eR 2 0).st=bg.new 0 1:=st0.1
 have q1:=xH hi1 (by decide) (r:=R) st0.2.1 (by rw[PC];exact DF) (show (0:Int)≤max 2 (-1) by decide) (show max (2:Int) (-1)≤2 by decide)
 have pN:=(hi1.do (by decide) nC st0.2.1 (by rw[PC];exact DF)).1
 obtain ⟨v3,H3,e3,rfl,F3,d3,f3,n3⟩:=xC h.length H2 id _ F0 R w2.fn w2.d 0 (by decide) hi1.ok nC nC.ai.2
 obtain ⟨w3,k3⟩:=w2.op d3 f3 n3
 have t3:=k3 _ _ (.inl rfl) t2
 have r3:=k3 _ _ (.inr rfl) r2
 have rq1:(D0.eR 2 0).r=ik:=st0.2.2
 obtain ⟨q11,q12,q13,q14,q15,q16⟩:=q1
 rw[q11] at e3
 rw[rq1] at q14
 rw[PC] at q15
 generalize ((D0.eR 2 0).do R).2=D3 at *
 have hs3:=pN.start (by decide) q12
 obtain ⟨v4,H4,e4,rfl,F4,d4,f4,n4⟩:=sx h.length H3 id D3 F3 w3.fn w3.d 6 (by decide) pN.ok pN.dm
 obtain ⟨w4,k4⟩:=w3.op d4 f4 n4
 have t4:=k4 _ _ (.inl rfl) t3
 have r4:=k4 _ _ (.inr rfl) r3
 obtain ⟨hi3,s31,s32,s33,s34,s35⟩:=hs3
 have s35:=s35 (by rw[q14];decide)
 have s36:D3.start.1=0:=by rw[s35]
 have s37:D3.start.2.is=1:=by rw[s35];rfl
 have s38:D3.start.2.aO= -1:=by rw[s35];exact q16
 have s39:D3.start.2.r.count=0:=by rw[s32,q14];rfl
 have s310:bf D3.start.2.r=0:=by rw[q19z hi3.ok.gr,s39];have:=q11z hi3.ok.gr;have:=hi3.ok.gw.base;omega
 rw[s36] at e4
 rw[q15] at s31
 generalize D3.start.2=D4 at *
 obtain ⟨u1,u2,u3,u4,u5⟩:=vN hi3 (by decide) nC s37 (by rw[s31];exact DF) (by omega)
 obtain ⟨hi4,kp⟩:=hi3.do (by decide) nC s37 (by rw[s31];exact DF)
 obtain ⟨v5,H5,e5,rfl,F5,d5,f5,n5⟩:=xC h.length H4 id D4 F4 R w4.fn w4.d _ (by decide) hi3.ok nC nC.ai.2
 obtain ⟨w5,k5⟩:=w4.op d5 f5 n5
 have t5:=k5 _ _ (.inl rfl) t4
 have c5:(D4.do R).2.r.count=1:=by
   rcases kp with ⟨_,_,z,_⟩ | ⟨z,_,_,_⟩
   ·omega
   ·rw[z,s39];rfl
 rw[u1] at e5
 have Nh:=fun b=> gS b H4 id D4 F4 w4.d
 generalize (D4.do R).2=D5 at *
 obtain ⟨v6,H6,e6,rfl,d6,f6⟩:=K3 h.length H5 id D5 F5 w5.fn w5.d
 obtain ⟨w6,k6⟩:=w5.op d6 f6 (fun j hj=> .inl hj)
 have t6:=k6 _ _ (.inl rfl) t5
 have hi5:=hi4.stop
 have i6:D5.stop.is=2:=by unfold aI.stop;rw[if_pos u2];rfl
 have rr6:D5.stop.r=D5.r:=by unfold aI.stop;rw[if_pos u2];rfl
 obtain ⟨v7,H7,e7,rfl,F7,d7,f7,n7⟩:=sx h.length H6 id D5.stop F5 w6.fn w6.d _ (by decide) hi5.ok hi5.dm
 obtain ⟨w7,k7⟩:=w6.op d7 f7 n7
 have t7:=k7 _ _ (.inl rfl) t6
 obtain ⟨hi6,z1,z2,z3,z4,z5⟩:=hi5.start (by decide) i6
 have z5:=z5 (by rw[rr6,u5,s310];decide)
 have z6:D5.stop.start.1=0:=by rw[z5]
 have z7:D5.stop.start.2.is=1:=by rw[z5];rfl
 have z8:D5.stop.start.2.r.count=1:=by rw[z2,rr6,c5]
 rw[z6] at e7
 have Ni:=fun b=> gS b H7 id D5.stop.start.2 F7 w7.d
 obtain ⟨v8,H8,e8,hv8⟩:=rz h.length H7 id D5.stop.start.2 F7 w7.fw.len w7.d hi6.ok.so
 rw[if_pos z7] at hv8
 obtain ⟨F8,rfl,s8,f8,n8⟩:=hv8
 generalize D5.stop.start.2=D7 at *
 have eA:=(w7.fw.trans f8).take
 have hd1:(dg 1).map aa=[.s (.int .u8 1),.s (.int .u8 0),.s (.int .u8 0),.s (.int .u8 0),.s (.int .u8 0),.s (.int .u8 0),.s (.int .u8 0),.s (.int .u8 0),.s (.int .u8 0),.s (.int .u8 0),.s (.int .u8 0),.s (.int .u8 0),.s (.int .u8 0),.s (.int .u8 0),.s (.int .u8 0),.s (.int .u8 0)]:=rfl
 rw[hd1] at e0'
 have Yf:D4.r.enc=V.st 53 [.s (.int .u64 D4.r.bw),.s (.int .u64 D4.r.count),.s (.int .u64 D4.r.base),.arr 25 (D4.r.head.map aa),.s (.int .i64 D4.r.aF)]:=rfl
 have Lj:D7.r.enc=V.st 53 [.s (.int .u64 D7.r.bw),.s (.int .u64 D7.r.count),.s (.int .u64 D7.r.base),.arr 25 (D7.r.head.map aa),.s (.int .i64 D7.r.aF)]:=rfl
 rw[Yf,s39] at Nh
 rw[Lj,z8] at Ni
 have o8:∀x,(decide (h.length≤H0.length) || x)=true:=fun x=> by rw[decide_eq_true yY];rfl
 simp only[B14,e0',nz.symm,o8,hH1,t1,r1,e2,t2,r2,xD,jB,e3,t3,r3,e4,t4,r4,Nh,e5,t5,e6,t6,e7,t7,Ni,e8,eA,go_sem,↓reduceIte,Nat.reduceEqDiff,Nat.reduceBEq,Nat.reduceAdd,Nat.reduceSub,Nat.reduceLT,Nat.reduceLeDiff,Int.reduceLT,Int.reduceLE,Int.reduceEq,Int.reduceToNat]
end Go.Proofs.YtannfageakbpmaaGreat
