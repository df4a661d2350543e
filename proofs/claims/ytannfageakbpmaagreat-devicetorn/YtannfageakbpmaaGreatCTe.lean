/- Texts for DeviceTorn, part 5. Conditions: none. -/
import Derived.Test.YtannfageakbpmaaGreatCTd
import Derived.Test.YtannfageakbpmaaGreatProg
import Derived.Shelf.Spec.SlicesInsertGrow
import Derived.Lib.BytesEntry
import Derived.Lib.Bytealg
import Derived.Laws.Externs
import Derived.ProofKit
set_option linter.unusedSimpArgs false
set_option linter.unusedVariables false
set_option linter.unusedSectionVars false
namespace Go.Proofs.YtannfageakbpmaaGreat
open Go Go.Vm Go.Proofs Go.Cl
set_option maxRecDepth 100000
def Xy :aq:=⟨4,0,0,1,zeroV,[]⟩
theorem Ig (x:KV) {id:Bs} (hx:x.wf) (hid:id.length=4):(qE x id).wf:=by
 have h3:=Int.tmod_nonneg 1099511627776 hx.gen.1
 have h4:=Int.tmod_lt_of_pos x.gen (show (0:Int)< 1099511627776 by decide)
 have g4:=iC (n:=x.bX) (lo:=1) (hi:=32) (by omega)
 have g5:=iE (n:=x.bX) (lo:=1) (hi:=32) (by omega)
 have g6:=iC (n:=x.used) (lo:=0) (hi:=within x.bX 1 32 - 1) (by omega)
 have g7:=iE (n:=x.used) (lo:=0) (hi:=within x.bX 1 32 - 1) (by omega)
 unfold qE
 split
 ·exact ⟨hid,by simp only;omega,rfl,by simp,by simp,by simp,rfl,trivial,trivial⟩
 ·exact ⟨hid,by simp only;omega,rfl,by simp;omega,by simp only;omega,by simp only;omega,rfl,trivial,trivial⟩
def mB (x:KR):aq:=dq (qE x.v (Ia (x.v.iD.tmod 40)))
theorem q35z {x:KR} (hx:x.wf):aS (mB x)=true:=ox (q34z _ _ hx.v)
theorem q36z {x:KR} (hx:x.wf):(mB x).wf:=B1 (Ig _ hx.v rfl)
theorem At (x:KR):(mB x).enc=V.st 41 [.s (.int .i64 1),ki,ki,ku,(qE x.v (Ia (x.v.iD.tmod 40))).enc,.al false (some 31) []]:=rfl
theorem DG (s:bg) (r:aq):(bE s r).2.mem=s.mem∧(bE s r).2.bm=s.bm:=by
 unfold bE
 split
 ·exact ⟨rfl,rfl⟩
 ·split
  ·exact ⟨rfl,rfl⟩
  ·split
   ·exact ⟨rfl,rfl⟩
   ·split <;> exact ⟨rfl,rfl⟩
def Yg :aq:=⟨2,1,0,2,zeroV,[]⟩
theorem DH {s:bg} (h:kU s) {r:aq} (hr:aS r=true) (hk:r.kind=1) {N:Int} {D:aI} (hI:HI N D) (hN:N < 1000000000) (hw:r.wf) (hi:D.is=1) (hf:D.aO= -1) (hs:D.st=s):
 ((D.do r).1=13∧(D.do r).2=D)∨((D.do r).1=0∧HI (N+6) (D.do r).2∧(D.do r).2.is=1∧(D.do r).2.aO= -1∧kU (D.do r).2.st∧((D.do r).2.st.mem=s.mem∧(D.do r).2.st.bm=s.bm)∧(D.do r).2.r.count=D.r.count+1∧
   (D.do r).2.steps=D.steps+(if bf D.r=7 then 6 else 3)∧bf (D.do r).2.r=(if bf D.r=7 then 0 else bf D.r+1)):=by
 subst hs
 rcases uI h hr hk with hc | hc
 ·right
  obtain ⟨u1,u2,u3,u4,u5⟩:=vN hI hN hw hi hc (by omega)
  obtain ⟨hJ,kp⟩:=hI.do hN hw hi hc
  rcases kp with ⟨_,_,z,_⟩ | ⟨z1,z2,z3,_⟩
  ·omega
  ·exact ⟨u1,hJ,u2,by omega,by rw[z3];exact Dv h hk,by rw[z3];exact DG _ _,z1,u4,u5⟩
 ·left
  have:=Nc hi (r:=r) (by omega)
  rw[this,hc]
  exact ⟨rfl,rfl⟩
theorem PD (n:Int): -9223372036854775808≤n.tmod 40∧n.tmod 40≤9223372036854775807:=by
 have h1:=Int.tmod_lt_of_pos n (show (0:Int)< 40 by decide)
 have h2: -40 < n.tmod 40:=by
   rcases Int.le_total 0 n with h0 | h0
   ·have:=Int.tmod_nonneg 40 h0;omega
   ·have h3:n.tmod 40= -((-n).tmod 40):=by rw[Int.neg_tmod];simp
    have:=Int.tmod_lt_of_pos (-n) (show (0:Int)< 40 by decide)
    omega
 omega
theorem DeviceTorn_ok (b:Nat) (h:Hp) (l:List KR) (aO dJ:Int) (hl:l.length≤140737488351232) (hw:∀x∈l,x.wf) (BO: -9223372036854775808≤aO) (hf1:aO≤9223372036854775807) (ht0: -9223372036854775808≤dJ) (Hg:dJ≤9223372036854775807):
 run fns pr b 3 [.al false (some 37) (l.map KR.enc),.s (.int .i64 aO),.s (.int .i64 dJ)] h=some (.s (.bool true),h):=by
 refine Vm.aU (nt:=147) rfl XA (by simp) ?_
 obtain ⟨v0,H0,e0',t,id,F0,mid,did,sp,sid,rfl,ht,d0,p0,f0,n0,l1,l2,l3,l4,l5,l6,l7⟩:=xK h.length h 0 1 (dg 4) (Nat.le_refl _) rfl (by decide) (by decide) (by decide) (by decide)
 have vD:=HI.new (dg 4) (a:=0) (b:=1) (by decide) (by decide) (by decide) (by decide)
 have ow0:=Lg (dg 4)
 have C8:=q6z ht
 have st0:(aI.new 0 1 (dg 4)).is=1∧(aI.new 0 1 (dg 4)).aO= -1:=⟨rfl,rfl⟩
 generalize aI.new 0 1 (dg 4)=D0 at *
 have w0:Lw h H0 id D0 F0 (fun j=> j=t):=⟨d0,f0,fun j hj=>(n0 j hj).1,fun j hj=> by subst hj;exact ⟨fun hm=> by have:=n0 _ hm;omega,C8⟩⟩
 have hd1:(dg 4).map aa=[.s (.int .u8 4),.s (.int .u8 0),.s (.int .u8 0),.s (.int .u8 0),.s (.int .u8 0),.s (.int .u8 0),.s (.int .u8 0),.s (.int .u8 0),.s (.int .u8 0),.s (.int .u8 0),.s (.int .u8 0),.s (.int .u8 0),.s (.int .u8 0),.s (.int .u8 0),.s (.int .u8 0),.s (.int .u8 0)]:=rfl
 rw[hd1] at e0'
 have hwi:=fun b H=> jU b H aO 0 2 (by omega) (by omega) (by omega) BO hf1
 obtain ⟨f,hf,hf2⟩:∃f:Int,within aO 0 2=f∧0≤f∧f≤2:=⟨_,rfl,iC (by omega),iE (by omega)⟩
 rw[hf] at hwi
 have CJ:=fun b H=> jU b H dJ 0 200 (by omega) (by omega) (by omega) ht0 Hg
 generalize within dJ 0 200=g at CJ
 have hkn:=fun b H=> As b H
 have jd:∀cf base H,aB cf base H .len [.al false (some 37) (l.map KR.enc)]=some (.s (.int .i64 (l.length:Nat)),H):=fun cf base H=> by rw[oe];simp
 obtain ⟨TW,Lk⟩:∃TW,aV.cells (some 47) [.st 47 [.ptr id [0] 1,.ptr mid [0] 1,.s (.pointer none),.s (.pointer none)]]=TW:=⟨_,rfl⟩
 obtain ⟨N,hN⟩:∃N:Nat,N=min l.length 25:=⟨_,rfl⟩
 have xh:min ((l.length:Nat):Int) 25=(N:Nat):=by omega
 rw[Lk] at ht
 simp only[B3,RB,RA,e0',jd,xh,go_sem,↓reduceIte,Nat.reduceEqDiff,Nat.reduceBEq,Nat.reduceAdd,Nat.reduceSub,Nat.reduceLT,Nat.reduceLeDiff,Int.reduceLT,Int.reduceLE,Int.reduceEq,Int.reduceToNat]
 refine bh (fun q e H=>∃(i:Nat) (D:aI) (F:List Nat),q=N - i∧i≤N∧e 9= .s (.int .i64 (i:Nat))∧e 8= .s (.int .i64 (N:Nat))∧e 7= .ptr t [0] 1∧e 2= .s (.int .i64 dJ)∧e 1= .s (.int .i64 aO)∧e 0= .al false (some 37) (l.map KR.enc)∧Lw h H id D F (fun j=> j=t)∧H[t]? =some TW∧HI (6 *(i:Nat)) D∧D.is=1∧D.aO= -1∧kU D.st)
   (fun e H=> Fw [] h H)
   N _ _ ⟨0,D0,F0,rfl,by omega,rfl,rfl,rfl,rfl,rfl,rfl,w0,ht,vD.wk (by omega),st0.1,st0.2,ow0⟩ ?_ ?_
 ·rintro q e H ⟨i,D,F,rfl,hi,e9,e8,e7,e2,e1,e0,w,tw,hI,is1,fu,ow⟩
  by_cases ci:i < N
  ·have c1:(i:Int)<((N:Nat):Int):=by omega
   have cl:i < l.length:=by omega
   have wr1:IntKind.i64.wrap ((i:Int)+1)=((i+1:Nat):Int):=q18z (by omega)
   have wr2:IntKind.i64.wrap (((N:Nat):Int) - 1)=((N - 1:Nat):Int):=by rw[wrap_i64 (by omega) (by omega)];omega
   have hv:l[i]? =some l[i]:=List.getElem?_eq_getElem cl
   have hxw:=hw _ (List.getElem_mem cl)
   generalize l[i]=x at hv hxw
   have Au:(l.map KR.enc)[i]? =some (V.st 37 [.s (.int .i64 x.kind),.s (.int .i64 x.aA),.s (.int .i64 x.dz),.s (.int .u64 x.aD),x.v.enc,.al false (some 34) (x.l.map fun z=> KV.enc z)]):=by rw[List.getElem?_map,hv];rfl
   have i0:(0:Int)≤(i:Int):=by omega
   have VF:=PD x.v.iD
   have wI:=fun cf base h=> lY (cf:=cf) (base:=base) (h:=h) .i64 x.v.iD 40 (by decide)
   have hid:=fun b H=> VE b H (x.v.iD.tmod 40) VF.1 VF.2
   have hkv:=fun b H=> Dx b H x.v (Ia (x.v.iD.tmod 40)) hxw.v
   have hve:x.v.enc=V.st 34 [.s (.int .i64 x.v.iD),.s (.int .i64 x.v.qY),.s (.int .i64 x.v.owner),.s (.int .i64 x.v.bX),.s (.int .i64 x.v.used),.s (.int .i64 x.v.nm),.s (.int .u64 x.v.gen),.al false none (x.v.bY.map aa)]:=rfl
   rw[hve] at hkv Au
   have nz:=At x
   have xf:=q35z hxw
   have nC:=q36z hxw
   have Dd:(mB x).kind=1:=rfl
   have r1:=jG (mB x)
   have r2:=jH (mB x)
   have r3:=pZ (mB x)
   generalize mB x=R at *
   have fA:Fw [] H (H++[aV.cells (some 41) [R.enc]]):=Fw.app [] H _
   have wA:Lw h (H++[aV.cells (some 41) [R.enc]]) id D F (fun j=> j=t∨j=H.length):=w.ext fA (fun j hj=> by
     rcases hj with rfl | rfl
     ·exact .inl rfl
     ·exact .inr ⟨Nat.le_refl _,by simp⟩)
   have twA:=q10z tw [aV.cells (some 41) [R.enc]]
   have rgA:(H++[aV.cells (some 41) [R.enc]])[H.length]? =some (aV.cells (some 41) [R.enc]):=aM _ _
   have hle:=w.fw.len
   have o8:∀x,(decide (h.length≤H.length) || x)=true:=fun x=> by rw[decide_eq_true hle];rfl
   by_cases cN:i=N - 1
   case neg=>
     have cN':¬(i:Int)=((N - 1:Nat):Int):=by omega
     obtain ⟨v2,H2,e2',rfl,F2,d2,f2,n2⟩:=xC h.length _ id D F R wA.fn wA.d _ (by omega) hI.ok nC nC.ai.2
     obtain ⟨w2,k2⟩:=wA.op d2 f2 n2
     have tw2:=k2 _ _ (.inl rfl) twA
     have w3:Lw h H2 id (D.do R).2 F2 (fun j=> j=t):=w2.ext (Fw.refl _ _) (fun j hj=> .inl (.inl hj))
     have key:HI (6 *((i+1:Nat):Int)) (D.do R).2∧(D.do R).2.is=1∧(D.do R).2.aO= -1∧kU (D.do R).2.st:=by
       rcases DH ow xf Dd hI (by omega) nC is1 fu rfl with ⟨y1,y2⟩ | ⟨y1,y2,y3,y4,y5,_⟩
       ·rw[y2];exact ⟨hI.wk (by omega),is1,fu,ow⟩
       ·exact ⟨y2.wk (by omega),y3,y4,y5⟩
     obtain ⟨y1,y2,y3,y4⟩:=key
     subst Lk
     simp only[e9,e8,e7,e2,e1,e0,c1,i0,Int.toNat_natCast,Au,wI,hid,hkv,aX,aY,nz.symm,r1,r2,o8,twA,rgA,wr2,cN',e2',tw2,wr1,go_sem,↓reduceIte,Nat.reduceEqDiff,Nat.reduceBEq,Nat.reduceAdd,Nat.reduceSub,Nat.reduceLT,Nat.reduceLeDiff,Int.reduceLT,Int.reduceLE,Int.reduceEq,Int.reduceToNat]
     exact ⟨N - (i+1),by omega,i+1,_,F2,rfl,by omega,rfl,w3,y1,y2,y3,y4⟩
   have wr2':IntKind.i64.wrap (((N:Nat):Int) - 1)=(i:Int):=by rw[wr2];omega
   generalize hqe:H.length=q0 at *
   generalize hHA:H++[aV.cells (some 41) [R.enc]]=HA at *
   obtain ⟨v2,H2,e2',rfl,d2,f2⟩:=BU h.length HA id D F f g wA.fn wA.d
   obtain ⟨w2,k2⟩:=wA.op d2 f2 (fun j hj=> .inl hj)
   have tw2:=k2 _ _ (.inl rfl) twA
   have rg2:=k2 _ _ (.inr rfl) rgA
   have hI2:=hI.aO f g (by omega)
   have is2:(D.eR f g).is=1:=is1
   have ow2:kU (D.eR f g).st:=ow
   have fu2:(D.eR f g).aO=f:=by show max f (-1)=f;omega
   generalize D.eR f g=D2 at *
   obtain ⟨v3,H3,e3,hv3⟩:=rz h.length H2 id D2 F w2.fw.len w2.d hI2.ok.so
   rw[if_pos is2] at hv3
   obtain ⟨F1,rfl,s3,f3,n3⟩:=hv3
   have hF1:=s3.lt
   have w3:Lw h H3 id D2 F (fun j=> j=t∨j=q0∨j∈F1):=w2.ext f3 (fun j hj=> by
     rcases hj with h1 | h1 | h1
     ·exact .inl (.inl h1)
     ·exact .inl (.inr h1)
     ·exact .inr ⟨n3 j h1,hF1 j h1⟩)
   have tw3:=f3.dw _ _ tw2 (by simp)
   have rg3:=f3.dw _ _ rg2 (by simp)
   have PE:=fun b=> gS b H3 id D2 F w3.d
   have hDr:∀E:aI,E.r.enc=V.st 53 [.s (.int .u64 E.r.bw),.s (.int .u64 E.r.count),.s (.int .u64 E.r.base),.arr 25 (E.r.head.map aa),.s (.int .i64 E.r.aF)]:=fun E=> rfl
   rw[hDr] at PE
   obtain ⟨v4,H4,e4,rfl,F4,d4,f4,n4⟩:=xC h.length H3 id D2 F R w3.fn w3.d _ (by omega) hI2.ok nC nC.ai.2
   obtain ⟨w4,k4⟩:=w3.op d4 f4 n4
   have tw4:=k4 _ _ (.inl rfl) tw3
   have rg4:=k4 _ _ (.inr (.inl rfl)) rg3
   have hs4:=s3.mono f4 (fun j hj=>(w3.pn j (.inr (.inr hj))).1)
   rcases uI ow2 xf Dd with hc | hc
   case inr=>
     have hd4:D2.do R=(13,D2):=by
       have:=Nc is2 (r:=R) (by omega)
       rw[this,hc]
     rw[hd4] at e4
     have eA:=w4.fw.take
     subst Lk
     simp only[e9,e8,e7,e2,e1,e0,c1,i0,Int.toNat_natCast,Au,wI,hid,hkv,aX,aY,nz.symm,r1,r2,hqe,o8,hHA,twA,rgA,wr2',hwi,CJ,e2',tw2,e3,tw3,PE,rg3,e4,hkn,eA,go_sem,↓reduceIte,Nat.reduceEqDiff,Nat.reduceBEq,Nat.reduceAdd,Nat.reduceSub,Nat.reduceLT,Nat.reduceLeDiff,Int.reduceLT,Int.reduceLE,Int.reduceEq,Int.reduceToNat]
   obtain ⟨u1,u2,u3,u4,u5,u6⟩:=xH hI2 (by omega) (r:=R) is2 hc (by omega) (by omega)
   have hI4:=(hI2.do (by omega) nC is2 hc).1
   rw[u1] at e4
   have hh2:=hI2.hl is2
   generalize (D2.do R).2=D4 at *
   obtain ⟨v5,H5,e5,rfl,F5,d5,f5,n5⟩:=sx h.length H4 id D4 F4 w4.fn w4.d _ (by omega) hI4.ok hI4.dm
   obtain ⟨w5,k5⟩:=w4.op d5 f5 n5
   have tw5:=k5 _ _ (.inl rfl) tw4
   have rg5:=k5 _ _ (.inr (.inl rfl)) rg4
   have hs5:=hs4.mono f5 (fun j hj=>(w4.pn j (.inr (.inr hj))).1)
   obtain ⟨hI5,z1,z2,z3,z4,z5⟩:=hI4.start (by omega) u2
   have z5:=z5 (by rw[u4];exact hh2)
   have z6:D4.start.1=0:=by rw[z5]
   have z7:D4.start.2.is=1:=by rw[z5];rfl
   have z8:D4.start.2.aO= -1:=by rw[z5];exact u6
   have z9:D4.start.2.r.count=D2.r.count:=by rw[z2,u4]
   have z10:D4.start.2.st=D2.st:=by rw[z1,u5]
   rw[z6] at e5
   generalize D4.start.2=D5 at *
   obtain ⟨v6,H6,e6,hv6⟩:=rz h.length H5 id D5 F5 w5.fw.len w5.d hI5.ok.so
   rw[if_pos z7] at hv6
   obtain ⟨F6,rfl,s6,f6,n6⟩:=hv6
   have w6:Lw h H6 id D5 F5 (fun j=> j=t∨j=q0∨j∈F1):=w5.ext f6 (fun j hj=> .inl hj)
   have tw6:=f6.dw _ _ tw5 (by simp)
   have rg6:=f6.dw _ _ rg5 (by simp)
   obtain ⟨v7,H7,e7',hv7⟩:=rz h.length H6 id D5 F5 w6.fw.len w6.d hI5.ok.so
   rw[if_pos z7] at hv7
   obtain ⟨F7,rfl,s7,f7,n7⟩:=hv7
   have w7:Lw h H7 id D5 F5 (fun j=> j=t∨j=q0∨j∈F1):=w6.ext f7 (fun j hj=> .inl hj)
   have tw7:=f7.dw _ _ tw6 (by simp)
   have rg7:=f7.dw _ _ rg6 (by simp)
   have hs7:=(hs5.mono f6 (by simp)).mono f7 (by simp)
   have by7:=fun b=> pa b H7 H6.length D5.st F7 s7 (hI5.ok.so z7)
   have by8:=fun b=> pa b H7 H2.length D2.st F1 hs7 (hI2.ok.so is2)
   rw[z10] at by7
   have hbs:=fun cf base h=> BR.wY (cf:=cf) (base:=base) (h:=h) (cY h false (gR D2.st))
   have Lj:=fun b=> gS b H7 id D5 F5 w7.d
   rw[hDr,z9] at Lj
   have hc5:bU D5.st R=0:=by rw[z10];exact hc
   obtain ⟨y1,y2,y3,y4,y5⟩:=vN hI5 (by omega) nC z7 hc5 (by omega)
   obtain ⟨hI8,kp⟩:=hI5.do (by omega) nC z7 hc5
   have y6:(D5.do R).2.r.count=D2.r.count+1:=by
     rcases kp with ⟨_,_,z,_⟩ | ⟨z,_,_,_⟩
     ·omega
     ·rw[z,z9]
   obtain ⟨v8,H8,e8',rfl,F8,d8,f8,n8⟩:=xC h.length H7 id D5 F5 R w7.fn w7.d _ (by omega) hI5.ok nC nC.ai.2
   obtain ⟨w8,k8⟩:=w7.op d8 f8 n8
   have tw8:=k8 _ _ (.inl rfl) tw7
   rw[y1] at e8'
   have VG:=fun b=> gS b H8 id _ F8 w8.d
   rw[hDr,y6] at VG
   have wc:IntKind.u64.wrap (D2.r.count+1)=D2.r.count+1:=by have:=hI2.ok.gw.count;have:=hI2.cn;exact wrap_u64 (by omega) (by omega)
   have eA:=w8.fw.take
   subst Lk
   simp only[e9,e8,e7,e2,e1,e0,c1,i0,Int.toNat_natCast,Au,wI,hid,hkv,aX,aY,nz.symm,r1,r2,hqe,o8,hHA,twA,rgA,wr2',hwi,CJ,e2',tw2,e3,tw3,PE,rg3,e4,tw4,e5,tw5,e6,tw6,e7',tw7,by7,by8,hbs,Lj,rg7,e8',tw8,VG,wc,hkn,eA,go_sem,↓reduceIte,Nat.reduceEqDiff,Nat.reduceBEq,Nat.reduceAdd,Nat.reduceSub,Nat.reduceLT,Nat.reduceLeDiff,Int.reduceLT,Int.reduceLE,Int.reduceEq,Int.reduceToNat]
  ·have c1:¬(i:Int)<((N:Nat):Int):=by omega
   simp only[e9,e8,e7,e2,e1,e0,c1,go_sem,↓reduceIte,Nat.reduceEqDiff,Nat.reduceBEq,Nat.reduceAdd,Nat.reduceSub,Nat.reduceLT,Nat.reduceLeDiff,Int.reduceLT,Int.reduceLE,Int.reduceEq,Int.reduceToNat]
   exact w.fw
 ·rintro e H fw
  have eA:=fw.take
  simp only[hkn,eA,go_sem,↓reduceIte,Nat.reduceEqDiff,Nat.reduceBEq,Nat.reduceAdd,Nat.reduceSub,Nat.reduceLT,Nat.reduceLeDiff,Int.reduceLT,Int.reduceLE,Int.reduceEq,Int.reduceToNat]
end Go.Proofs.YtannfageakbpmaaGreat
namespace Go.Proofs.YtannfageakbpmaaGreat
open Go Go.Proofs Go.Shelf Go.RowKit Go.Lib
theorem run_copy_cellsZ {P:Program} (w:World) (dT sT ty elem:TypeId) (b o dLen dCap:Nat) (a:Addr) (sLen sCap:Nat) (cs:List Value) (sz m:Nat)
 (hu:P.underlying dT=some (.slice elem)) (hs:(P.info? elem).map (·.size)=some sz) (hm:Nat.min sLen dLen=m) (hn:cs.length=m * sz)
 (kV:∀j v,cs[j]? =some v→w.cell? (a.add j)=some v) (hc:∀j,j < cs.length→(w.cell? ⟨b,o+j,none⟩).isSome=true) (hf:∀j,j < cs.length→w.frozen? ⟨b,o+j,none⟩=false) (h1:∀v∈cs,v.oneCell'=true):
 (Builtin.copy_ #[dT,sT] ty #[.slice (some ⟨b,o,none⟩) dLen dCap,.slice (some a) sLen sCap]).run P w= .ok (goInt m) (w.setCells b o cs):=by
 have hl:=run_loadCells_list (P:=P) w a cs kV
 have aR:=run_storeCells_cells (P:=P) b o cs 0 w (by simpa using hc) (by simpa using hf) h1
 cases hq:P.info? elem with
 | none=> simp[hq] at hs
 | some i=>
   have hi:i.size=sz:=by simpa[hq] using hs
   simp[Builtin.copy_,run_underlying hu,Builtin.lenOf,Builtin.firstCells,sizeOf,typeInfo,hq,hi,hm,←hn,hl,aR]
set_option maxHeartbeats 4000000 in
set_option maxRecDepth 100000 in
theorem ins_shift (b n c i vb voff vc:Nat) (cs vs:List Value) (w:World) (hi:i < n) (fL:n+1≤c) (Y6:n+1≤9223372036854775807) (au:vb≠b)
 (nq:cs.length=n * 42) (Fz:vs.length=42)
 (xL:∀j v,cs[j]? =some v→w.cell? ⟨b,j,none⟩=some v) (uB:∀j,j <(n+1)* 42→(w.cell? ⟨b,j,none⟩).isSome=true) (df:∀j,j <(n+1)* 42→w.frozen? ⟨b,j,none⟩=false)
 (sa:∀j v,vs[j]? =some v→w.cell? ⟨vb,voff+j,none⟩=some v) (h1c:∀v∈cs,v.oneCell'=true) (h1v:∀v∈vs,v.oneCell'=true)
 (tA tB:TypeId) (kA kB:Nat) (hsa:w.shape? vb=some (tA,kA)) (hsb:w.shape? b=some (tB,kB)) (hkB:kB≠0) (hfa:w.frozen? ⟨vb,voff,none⟩=false) (hfe:w.frozen? ⟨vb,kA,none⟩=false):
 Calls Tryz.prog 97 #[.slice (some ⟨b,0,none⟩) n c,.int .i64 i,.slice (some ⟨vb,voff,none⟩) 1 vc] w fun e w'=>
   e= .returned (.slice (some ⟨b,0,none⟩) (n+1) c)∧w'=(w.drew.setCells b ((i+1)* 42) (cs.drop (i * 42))).setCells b (i * 42) vs:=by
 have hz2:¬((i:Int)=(n:Int)):=by omega
 have cI:(Tryz.prog.info? 32).map (·.size)=some 42:=by kernel_rfl
 have oy:∀w,(Go.sizeOf 32).run Tryz.prog w= .ok 42 w:=fun w=> by
   obtain ⟨i0,h1,h2⟩:=Option.map_eq_some_iff.1 cI
   simp[Go.sizeOf,typeInfo,h1,h2]
 have hov:∀o lb cb,(callFunc 113 #[.slice (some ⟨vb,voff,none⟩) 1 vc,.slice (some ⟨b,o,none⟩) lb cb]).run Tryz.prog w= .ok (.value (.bool false)) w:=fun o lb cb=> by
   rw[run_callFunc_extern Tryz.func113 (by kernel_rfl) (by kernel_rfl) (by kernel_rfl) (e:=Extern.SlicesOverlaps.overlaps #[40,40] #[4]) (by kernel_rfl),
    Lib.run_overlaps_apart w 40 4 32 Tryz.underlying40 42 oy ⟨vb,voff,none⟩ ⟨b,o,none⟩ 1 vc lb cb au tA tB kA kB hsa hsb hkB hfa hfe]
   rfl
 have tY:(cs.drop (i * 42)).length=(n - i)* 42:=by rw[List.length_drop,nq,Nat.sub_mul]
 have mixed:Tryz.prog.follows .mixedOrders=true:=by kernel_rfl
 have lT:IntKind.i64.wrap ((n:Int)+1)=(n:Int)+1:=by rw[IntKind.wrap_i64];omega
 have vw:IntKind.i64.wrap ((i:Int)+1)=(i:Int)+1:=by rw[IntKind.wrap_i64];omega
 have lU:(0:Int)≤(i:Int)+1:=by omega
 have FB:i≤n:=by omega
 have htn:((i:Int)+1).toNat=i+1:=by omega
 have Y7:((n:Int)+1).toNat=n+1:=by omega
 have xz:¬(c=i+1):=by omega
 have hb3:(i:Int)≤(n:Int)+1:=by omega
 have hb4:¬(c=i):=by omega
 have hb5:¬((c:Int)<(n:Int)+1):=by omega
 have VH:∀ty dc sc,(Builtin.copy_ #[40,40] ty #[.slice (some ⟨b,(i+1)* 42,none⟩) (n - i) dc,.slice (some ⟨b,i * 42,none⟩) (n+1 - i) sc]).run Tryz.prog w.drew= .ok (goInt ((n - i:Nat):Int)) (w.drew.setCells b ((i+1)* 42) (cs.drop (i * 42))):=fun ty dc sc=>
   run_copy_cellsZ w.drew _ _ ty 32 b ((i+1)* 42) (n - i) dc ⟨b,i * 42,none⟩ (n+1 - i) sc (cs.drop (i * 42)) 42 (n - i) Tryz.underlying40 cI (by simp only[Nat.min_def];split <;> omega) tY
     (fun j v hj=> by rw[Addr.add_lit];exact xL (i * 42+j) v (by rwa [List.getElem?_drop] at hj))
     (fun j hj=> uB _ (by omega)) (fun j hj=> df _ (by omega)) (fun v hv=> h1c v (List.mem_of_mem_drop hv))
 obtain ⟨W1,hW1⟩:∃W1,W1=w.drew.setCells b ((i+1)* 42) (cs.drop (i * 42)):=⟨_,rfl⟩
 have Yh:∀k,k <(n+1)* 42→(W1.cell? ⟨b,k,none⟩).isSome=true:=fun k hk=> by
   rw[hW1]
   exact isSome_setCells b (cs.drop (i * 42)) ((i+1)* 42) w.drew (fun j hj=> uB _ (by rw[tY] at hj;omega)) k (uB k hk)
 have Yi:∀(W:World),(∀x,W.cell? x=W1.cell? x)→(∀x,W.frozen? x=W1.frozen? x)→∀ty dc,(Builtin.copy_ #[40,40] ty #[.slice (some ⟨b,i * 42,none⟩) (n+1 - i) dc,.slice (some ⟨vb,voff,none⟩) 1 vc]).run Tryz.prog W= .ok (goInt 1) (W.setCells b (i * 42) vs):=fun W hWc hWf ty dc=>
   run_copy_cellsZ W _ _ ty 32 b (i * 42) (n+1 - i) dc ⟨vb,voff,none⟩ 1 vc vs 42 1 Tryz.underlying40 cI (by simp only[Nat.min_def];split <;> omega) (by rw[Fz])
     (fun j v hj=> by
       rw[Addr.add_lit,hWc,hW1,World.cell?_setCells_out b _ _ _ _ (fun h _=> absurd h au)]
       exact sa j v hj)
     (fun j hj=> by rw[hWc];exact Yh _ (by omega)) (fun j hj=> by rw[hWf,hW1,World.frozen?_setCells];exact df _ (by omega)) h1v
 rw[←hW1] at VH
 go_enter Tryz.func97,Tryz.ntmps97
 go_wp2_with (simp only[hov])
 go_region_law_o (refine step_copy_runI rfl _ _ 40 40 rfl _ _ (by simp[Act.eval,Act.put]) (by simp[Act.eval,Act.put]) (VH _ _ _) ?_)
 go_wp2_with (at_builtin;refine wpList_copy_runI _ rfl _ _ 40 40 rfl _ _ rfl rfl (Yi _ (fun _=> rfl) (fun _=> rfl) _ _) ?_)
 go_ret
 first | exact ⟨rfl,rfl⟩ | exact ⟨rfl,by rw[hW1]⟩
set_option maxHeartbeats 4000000 in
set_option maxRecDepth 100000 in
theorem ins_grow (b n c i vb voff vc:Nat) (cs vs:List Value) (w:World) (i0:TypeInfo) (z:Value) (vD:Tryz.prog.info? 32=some i0) (rb:i0.zero=some z) (gZ:i0.size=42) (hzc:z.cells.size=42) (mX:0 < i0.bytes)
 (hi:i < n) (hnc:n≤c) (fL:c < n+1) (vO:(n+1)* i0.bytes≤140737488355328)
 (nq:cs.length=n * 42) (Fz:vs.length=42)
 (xL:∀j v,cs[j]? =some v→w.cell? ⟨b,j,none⟩=some v)
 (sa:∀j v,vs[j]? =some v→w.cell? ⟨vb,voff+j,none⟩=some v) (h1c:∀v∈cs,v.oneCell'=true) (h1v:∀v∈vs,v.oneCell'=true):
 Calls Tryz.prog 97 #[.slice (some ⟨b,0,none⟩) n c,.int .i64 i,.slice (some ⟨vb,voff,none⟩) 1 vc] w fun e w'=>
   e= .returned (.slice (some ⟨w.heap.size,0,none⟩) (n+1) (grownCap w (n+1) c 32))∧
   w'=(((w.alloc (.cells ((cs.take (i * 42)).toArray++Builtin.zeroCells z.cells (n+1 - i)++Builtin.zeroCells z.cells (grownCap w (n+1) c 32 - (n+1))) 32)).drew.setCells w.heap.size (i * 42) vs).drew).setCells w.heap.size ((i+1)* 42) (cs.drop (i * 42)):=by
 have mixed:Tryz.prog.follows .mixedOrders=true:=by kernel_rfl
 have hz2:¬((i:Int)=(n:Int)):=by omega
 have hz3:(c:Int)<(n:Int)+1:=by omega
 have cI:(Tryz.prog.info? 32).map (·.size)=some 42:=by rw[vD];simp[gZ]
 have hbw:b < w.heap.size:=block_lt_of_cell (xL 0 _ (List.getElem?_eq_getElem (by omega)))
 have hvw:vb < w.heap.size:=block_lt_of_cell (sa 0 _ (List.getElem?_eq_getElem (by omega)))
 have hnb:n+1≤140737488355328:=Nat.le_trans (Nat.le_mul_of_pos_right _ mX) vO
 have Dd:(n:Int)+1 - (i:Int)=((n+1 - i:Nat):Int):=by omega
 have hik:i+(n+1 - i)=n+1:=by omega
 have tF:(cs.take (i * 42)).length=i * 42:=by rw[List.length_take,nq];omega
 have hold:(Builtin.firstCells i0.size i (.slice (some ⟨b,0,none⟩) i c)).run Tryz.prog w.drew= .ok (cs.take (i * 42)).toArray w.drew:=by
   rw[gZ]
   exact run_firstCells_some w.drew 42 i ⟨b,0,none⟩ i c (cs.take (i * 42)) tF (fun j v hj=> by
     rw[Addr.add_lit,Nat.zero_add]
     rw[List.getElem?_take] at hj
     split at hj
     ·exact xL j v hj
     ·cases hj)
 have hkb:(n+1 - i)* i0.bytes≤281474976710656:=by
   have:(n+1 - i)* i0.bytes≤(n+1)* i0.bytes:=Nat.mul_le_mul_right _ (by omega)
   omega
 have hrz:∀ty,(Builtin.append_ #[40,3] ty #[.slice (some ⟨b,0,none⟩) i c,.int .i64 ((n:Int)+1 - (i:Int))]).run Tryz.prog w=
  .ok (.slice (some ⟨w.heap.size,0,none⟩) (n+1) (grownCap w (n+1) c 32)) (w.drew.alloc (.cells ((cs.take (i * 42)).toArray++Builtin.zeroCells z.cells (n+1 - i)++Builtin.zeroCells z.cells (grownCap w (n+1) c 32 - (n+1))) 32)):=fun ty=> by
   have h:=Lib.run_append_grow_zeros w 40 3 ty 32 i0 z .i64 .i64 Tryz.underlying40 Tryz.underlying3 vD rb (some ⟨b,0,none⟩) i c (cs.take (i * 42)) hold (n+1 - i) (by omega) (by omega) (by omega) (by omega) hkb (by rw[hik];exact growslice_fits fL vO)
   rw[hik] at h
   rw[Dd]
   exact h
 obtain ⟨G,hG⟩:∃G,G=grownCap w (n+1) c 32:=⟨_,rfl⟩
 obtain ⟨ROW,hROW⟩:∃ROW:Array Value,ROW=(cs.take (i * 42)).toArray++Builtin.zeroCells z.cells (n+1 - i)++Builtin.zeroCells z.cells (G - (n+1)):=⟨_,rfl⟩
 rw[←hG] at hrz ⊢
 rw[←hROW] at hrz ⊢
 have hRl:(n+1)* 42≤ROW.size:=by
   rw[hROW]
   simp[Builtin.zeroCells,hzc]
   omega
 obtain ⟨W1,hW1⟩:∃W1,W1=w.drew.alloc (.cells ROW 32):=⟨_,rfl⟩
 rw[←hW1] at hrz
 have hN:∀j,j <(n+1)* 42→(W1.cell? ⟨w.heap.size,j,none⟩).isSome=true:=fun j hj=> by
   rw[hW1,World.cell?_alloc_at (w:=w.drew) ROW _ w.heap.size j rfl,Array.getElem?_eq_getElem (by omega)];rfl
 have hNf:∀j,W1.frozen? ⟨w.heap.size,j,none⟩=false:=fun j=> by rw[hW1];exact World.frozen?_alloc_at (w:=w.drew) ROW _ w.heap.size j rfl
 have hOb:∀j v,w.cell? ⟨b,j,none⟩=some v→W1.cell? ⟨b,j,none⟩=some v:=fun j v h=> by rw[hW1,World.cell?_alloc_past (w:=w.drew) _ b j hbw];exact h
 have hOv:∀j v,w.cell? ⟨vb,j,none⟩=some v→W1.cell? ⟨vb,j,none⟩=some v:=fun j v h=> by rw[hW1,World.cell?_alloc_past (w:=w.drew) _ vb j hvw];exact h
 have hcpA:∀(W:World),(∀x,W.cell? x=W1.cell? x)→(∀x,W.frozen? x=W1.frozen? x)→∀ty dc,(Builtin.copy_ #[40,40] ty #[.slice (some ⟨w.heap.size,i * 42,none⟩) (n+1 - i) dc,.slice (some ⟨vb,voff,none⟩) 1 vc]).run Tryz.prog W= .ok (goInt 1) (W.setCells w.heap.size (i * 42) vs):=fun W hWc hWf ty dc=>
   run_copy_cellsZ W _ _ ty 32 w.heap.size (i * 42) (n+1 - i) dc ⟨vb,voff,none⟩ 1 vc vs 42 1 Tryz.underlying40 cI (by simp only[Nat.min_def];split <;> omega) (by rw[Fz])
     (fun j v hj=> by rw[Addr.add_lit,hWc];exact hOv _ v (sa j v hj))
     (fun j hj=> by rw[hWc];exact hN _ (by omega)) (fun j hj=> by rw[hWf];exact hNf _) h1v
 have hGn:n+1≤G:=by rw[hG];exact grownCap_ge w _ _ _
 have hG63:G≤9223372036854775807:=by
   have:=grownCap_le_maxLen w (n+1) c 32 (by unfold maxLen;omega)
   rw[←hG] at this
   unfold maxLen at this
   omega
 have hGi:¬(G=i):=by omega
 have hGim:¬(G=i+1):=by omega
 have hci:¬(c=i):=by omega
 have hbN:b≠w.heap.size:=by omega
 have tY:(cs.drop (i * 42)).length=(n - i)* 42:=by rw[List.length_drop,nq,Nat.sub_mul]
 have hcpB:∀(W:World),(∀x,W.cell? x=(W1.setCells w.heap.size (i * 42) vs).cell? x)→(∀x,W.frozen? x=(W1.setCells w.heap.size (i * 42) vs).frozen? x)→∀ty dc sc,(Builtin.copy_ #[40,40] ty #[.slice (some ⟨w.heap.size,(i+1)* 42,none⟩) (n - i) dc,.slice (some ⟨b,i * 42,none⟩) (n - i) sc]).run Tryz.prog W= .ok (goInt ((n - i:Nat):Int)) (W.setCells w.heap.size ((i+1)* 42) (cs.drop (i * 42))):=fun W hWc hWf ty dc sc=>
   run_copy_cellsZ W _ _ ty 32 w.heap.size ((i+1)* 42) (n - i) dc ⟨b,i * 42,none⟩ (n - i) sc (cs.drop (i * 42)) 42 (n - i) Tryz.underlying40 cI (by simp only[Nat.min_def];split <;> omega) tY
     (fun j v hj=> by
       rw[Addr.add_lit,hWc,World.cell?_setCells_out _ _ _ _ _ (fun h _=> absurd h hbN)]
       exact hOb _ v (xL (i * 42+j) v (by rwa [List.getElem?_drop] at hj)))
     (fun j hj=> by rw[hWc];exact isSome_setCells _ _ _ _ (fun t ht=> hN _ (by omega)) _ (hN _ (by omega)))
     (fun j hj=> by rw[hWf,World.frozen?_setCells];exact hNf _) (fun v hv=> h1c v (List.mem_of_mem_drop hv))
 subst hW1
 have hE1:∀x,((w.alloc (.cells ROW 32)).drew).cell? x=(w.drew.alloc (.cells ROW 32)).cell? x:=fun x=> rfl
 have hE2:∀x,((w.alloc (.cells ROW 32)).drew).frozen? x=(w.drew.alloc (.cells ROW 32)).frozen? x:=fun x=> rfl
 have hF1:∀x,(((w.alloc (.cells ROW 32)).drew.setCells w.heap.size (i * 42) vs).drew).cell? x=((w.drew.alloc (.cells ROW 32)).setCells w.heap.size (i * 42) vs).cell? x:=fun x=> rfl
 have hF2:∀x,(((w.alloc (.cells ROW 32)).drew.setCells w.heap.size (i * 42) vs).drew).frozen? x=((w.drew.alloc (.cells ROW 32)).setCells w.heap.size (i * 42) vs).frozen? x:=fun x=> rfl
 have lT:IntKind.i64.wrap ((i:Int)+1)=(i:Int)+1:=by rw[IntKind.wrap_i64];omega
 have lU:(0:Int)≤(i:Int)+1:=by omega
 have FB:i≤n:=by omega
 have htn:((i:Int)+1).toNat=i+1:=by omega
 have hb3:(i:Int)≤(n:Int):=by omega
 clear Dd hik hold hROW hG hRl
 go_enter Tryz.func97,Tryz.ntmps97
 go_wp2_with (first
   | (at_builtin;refine Lib.wpList_append_run _ rfl _ _ _ _ rfl _ _ rfl rfl _ _ (hrz _) ?_)
   | (at_builtin;refine wpList_copy_runI _ rfl _ _ 40 40 rfl _ _ rfl rfl (hcpA _ hE1 hE2 _ _) ?_)
   | (at_builtin;refine wpList_copy_runI _ rfl _ _ 40 40 rfl _ _ rfl rfl (hcpB _ (fun _=> rfl) (fun _=> rfl) _ _ _) ?_))
 go_region_law_o (refine step_copy_runI rfl _ _ 40 40 rfl (.slice (some ⟨w.heap.size,(i+1)* 42,none⟩) (n - i) (G - (i+1))) (.slice (some ⟨b,i * 42,none⟩) (n - i) (c - i)) (by simp[Act.eval,Act.put]) (by simp[Act.eval,Act.put]) (hcpB _ hF1 hF2 3 (G - (i+1)) (c - i)) ?_)
 go_wp2
 go_ret
 exact ⟨rfl,rfl⟩
set_option maxHeartbeats 4000000 in
set_option maxRecDepth 100000 in
theorem ins_end (a:Option Addr) (n c vc:Nat) (ay:Addr) (w w':World) (u:Value) (hnc:n≤c) (np:a=none→n=0)
 (bb:(Builtin.append_ #[40,40] 40 #[.slice a n c,.slice (some ay) 1 vc]).run Tryz.prog w= .ok u w'):
 Calls Tryz.prog 97 #[.slice a n c,.int .i64 n,.slice (some ay) 1 vc] w fun e w2=> e= .returned u∧w2=w':=by
 have mixed:Tryz.prog.follows .mixedOrders=true:=by kernel_rfl
 go_enter Tryz.func97,Tryz.ntmps97
 cases a with
 | none=>
   have h0:=np rfl
   subst h0
   go_wp2_with (at_builtin;refine Lib.wpList_append_run _ rfl _ _ _ _ rfl _ _ rfl rfl _ _ bb ?_)
   go_ret
   exact ⟨rfl,rfl⟩
 | some a=>
   obtain ⟨ab,ao,asp⟩:=a
   go_wp2_with (at_builtin;refine Lib.wpList_append_run _ rfl _ _ _ _ rfl _ _ rfl rfl _ _ bb ?_)
   all_goals (go_ret;exact ⟨rfl,rfl⟩)
end Go.Proofs.YtannfageakbpmaaGreat
namespace Go.Proofs.YtannfageakbpmaaGreat
open Go Go.Vm Go.Proofs Go.Cl
set_option maxRecDepth 100000
theorem csz_V :(ak Tryz.prog).az (some 31)=42:=by kernel_rfl
theorem tag_V :aC Tryz.prog 32=some 31:=by kernel_rfl
theorem TG_V :TG Tryz.prog (ak Tryz.prog) 32 (some 31):=by
 have:=cB (P:=Tryz.prog) (t:=32) (by kernel_rfl)
 rw[tag_V] at this;exact this
theorem shape_of_heap {w:World} {b:Nat} {us:Array Value} {ty:TypeId} {fz:Nat×Nat} (hg:w.heap[b]? =some (.cells us ty fz)):w.shape? b=some (ty,us.size):=by
 simp only[World.shape?,hg]
theorem unfz_of_heap {w:World} {b j:Nat} {us:Array Value} {ty:TypeId} (hg:w.heap[b]? =some (.cells us ty (0,0))):w.frozen? ⟨b,j,none⟩=false:=by
 simp only[World.frozen?,hg];simp
theorem take_lay2 {row a v d:List Value} {o p q:Nat} (h1:o+v.length=p) (h2:p+d.length=q) (hl:q≤row.length) (ha:row.take o=a):(lay (lay row o v) p d).take q=a++v++d:=by
 have h3:(lay row o v).length=row.length:=dW _ _ _ (by omega)
 rw[gI (by omega) h2,gI (by omega) h1,ha]
theorem insert_mid (hL:(ak Tryz.prog).OK) {c:Ctx} {w:World} {h:Hp} (hs:bc (ak Tryz.prog) c h w) {id idy n i:Nat} {es:List V} {e:V} {ux uy:Value}
 (hx:RV (ak Tryz.prog) c (.ref id [] (some 31) 0 n n) ux) (hy:RV (ak Tryz.prog) c (.ref idy [] (some 31) 0 1 1) uy) (hrx:rowOf h id n=some (some 31,es)) (hry:rowOf h idy 1=some (some 31,[e]))
 (cD:id≠idy) (hi:i < n) (vO:(n+1)* Tryz.prog.bytesOf 32≤140737488355328):
 eQ Tryz.prog (ak Tryz.prog) c w 97 [ux,.int .i64 i,uy] (.ref id [] (some 31) 0 (n+1) (n+1)) (h.set id (.cells (some 31) (es.take i++[e]++es.drop i))):=by
 have FG:=csz_V
 obtain ⟨l,hl,cC,bZ,hz,lU,xz,hb3,cM,us0,ty0,fz0,hg,cI,df,fp⟩:=hs.row hrx
 obtain ⟨ly,hly,VI,YS,hzy,Y8,Y9,Yj,Ll,usy,tyy,fzy,hgy,Yk,Yl,DI⟩:=hs.row hry
 have nD:=(q16z hrx).2
 obtain ⟨_,k,rfl,lR,hm⟩:=dK hx hl cC (path:=[]) (o:=0) (e:=l.tag) (m:=none) rfl
 obtain ⟨_,ky,rfl,Za,hmy⟩:=dK hy hly VI (path:=[]) (o:=0) (e:=ly.tag) (m:=none) rfl
 simp only[eL,Nat.zero_add,Nat.zero_mul] at hm hmy ⊢
 obtain ⟨qw,qu,Hw⟩:=hm
 have hU:=df
 have tL:=hz
 have hszU:=cI
 have Ym:=df.2 rfl
 have VJ:=Yl.2 rfl
 subst Ym VJ
 rw[FG] at cI Yk fp DI
 simp only[List.length_cons,List.length_nil,Nat.zero_add,Nat.one_mul] at DI Yj
 have Yn:ly.bq≠l.bq:=fun he=> cD (hs.inj id idy l ly hl hly he.symm)
 have xM:∀y∈es,y.ty=some 31:=fun y hy=>(cM y hy).1
 have Av:=q8z hL fp xM
 have vP:=q8z hL DI (fun y hy=>(Ll y hy).1)
 rw[FG] at Av vP
 simp only[List.length_cons,List.length_nil,Nat.zero_add,Nat.one_mul] at vP
 rw[nD] at Av fp
 have h1c:∀q∈us0.toList.take (n * 42),q.oneCell'=true:=dr (fun v _=> dS v) (fun v hv=>(cM v hv).2) _ fp
 have h1v:∀q∈usy.toList.take 42,q.oneCell'=true:=dr (fun v _=> dS v) (fun v hv=>(Ll v hv).2) _ DI
 have xL:∀j v,(us0.toList.take (n * 42))[j]? =some v→w.cell? ⟨l.bq,j,none⟩=some v:=fun j v hj=> by
   rw[List.getElem?_take] at hj
   split at hj
   ·rw[q15z hg];simpa using hj
   ·cases hj
 have sa:∀j v,(usy.toList.take 42)[j]? =some v→w.cell? ⟨ly.bq,0+j,none⟩=some v:=fun j v hj=> by
   rw[List.getElem?_take] at hj
   split at hj
   ·rw[q15z hgy,Nat.zero_add];simpa using hj
   ·cases hj
 obtain ⟨i0,vD,hi0s⟩:=TG_V.info
 rw[FG] at hi0s
 have mX:Tryz.prog.bytesOf 32=i0.bytes:=by simp[Program.bytesOf,vD]
 rw[mX] at vO
 have VK:0 < i0.bytes:=by rw[←mX];exact of_decide_eq_true (by kernel_rfl)
 have hnb:n+1≤140737488355328:=Nat.le_trans (Nat.le_mul_of_pos_right _ VK) vO
 have cJ:bV (ak Tryz.prog) c (es.take i++[e]++es.drop i) ((us0.toList.take (n * 42)).take (i * 42)++usy.toList.take 42++(us0.toList.take (n * 42)).drop (i * 42)):=by
   have a:=eM hL fp xM i (by omega)
   rw[FG] at a
   exact dX.2 ⟨_,_,rfl,dX.2 ⟨_,_,rfl,a.1,DI⟩,a.2⟩
 have jJ:∀q∈es.take i++[e]++es.drop i,q.ty=some 31∧q.ax=true:=fun q hq=> by
   rcases List.mem_append.1 hq with hq | hq
   ·rcases List.mem_append.1 hq with hq | hq
    ·exact cM q (List.mem_of_mem_take hq)
    ·exact Ll q hq
   ·exact cM q (List.mem_of_mem_drop hq)
 have xN:(es.take i++[e]++es.drop i).length=n+1:=by simp;omega
 by_cases fL:n+1≤k
 ·-- room
  have fM:(n+1)* 42≤us0.size:=by rw[cI];exact Nat.mul_le_mul_right 42 (by omega)
  have tY:((us0.toList.take (n * 42)).drop (i * 42)).length=(n - i)* 42:=by rw[List.length_drop,Av,Nat.sub_mul]
  have hU':Ih (some 31) us0.size (0,0):=hU
  refine Calls.mono (ins_shift l.bq n k i ly.bq 0 ky (us0.toList.take (n * 42)) (usy.toList.take 42) w hi fL (by omega) Yn Av vP xL
    (fun j hj=> by rw[q15z hg,Array.getElem?_eq_getElem (by omega)];rfl) (fun j hj=> unfz_of_heap hg) sa h1c h1v tyy ty0 usy.size us0.size (shape_of_heap hgy) (shape_of_heap hg) (by omega) (unfz_of_heap hgy) (unfz_of_heap hgy)) ?_
  rintro en w' ⟨rfl,rfl⟩
  have e1l:(es.take (i+1)++es.drop i).length=n+1:=by simp;omega
  have r1:bV (ak Tryz.prog) c (es.take (i+1)++es.drop i) ((lay us0.toList ((i+1)* 42) ((us0.toList.take (n * 42)).drop (i * 42))).take ((n+1)* 42)):=by
    rw[gI (by rw[tY];simp;omega) (by rw[tY];omega)]
    have a:=(eM hL fp xM (i+1) (by omega)).1
    have b:=(eM hL fp xM i (by omega)).2
    rw[FG] at a b
    rw[List.take_take,Nat.min_eq_left (by omega)] at a
    exact dX.2 ⟨_,_,rfl,a,b⟩
  have VL:∀q∈es.take (i+1)++es.drop i,q.ty=some 31∧q.ax=true:=fun q hq=> by
    rcases List.mem_append.1 hq with hq | hq
    ·exact cM q (List.mem_of_mem_take hq)
    ·exact cM q (List.mem_of_mem_drop hq)
  obtain ⟨l1,tX,uv,KG,Nj⟩:=iJ hL hs.drew hl bZ hz (w:=w.drew) hg hU' (by rw[FG];exact hszU) (es':=es.take (i+1)++es.drop i) VL (by omega) (by omega) (o:=(i+1)* 42) (vs:=(us0.toList.take (n * 42)).drop (i * 42)) (by rw[tY];omega) (by rw[e1l,FG];exact r1)
  have bW:id < h.length:=(List.getElem?_eq_some_iff.1 (q16z hrx).1).1
  have VM:rowOf (h.set id (.cells (some 31) (es.take (i+1)++es.drop i))) id (n+1)=some (some 31,es.take (i+1)++es.drop i):=by
    simp[rowOf,bW,e1l]
  obtain ⟨l2,Bw,Nk,B2,hz2,Zb,Zc,Zd,Ze,us1,ty1,fz1,cH,VN,hU1,Yo⟩:=uv.row VM
  rw[Nj] at Bw
  cases Bw
  have xO:l1.bq=l.bq:=by rw[tX]
  have Nl:l1.cap=l.cap:=by rw[tX]
  rw[xO] at hz2 cH
  have ir:=mC hL Yo (DI.mono KG) (fun q hq=>(VL q hq).1) (fun q hq=>(Ll q hq).1) (n:=i) (by rw[e1l];simp;omega)
  have ee:(es.take (i+1)++es.drop i).take i++[e]++(es.take (i+1)++es.drop i).drop (i+[e].length)=es.take i++[e]++es.drop i:=by
    have h1:(es.take (i+1)).length=i+1:=by simp;omega
    rw[List.take_append_of_le_length (by omega),List.take_take,Nat.min_eq_left (by omega),List.length_singleton,List.drop_append,h1,Nat.sub_self,List.drop_of_length_le (by omega),List.drop_zero,List.nil_append]
  have VO:us1.size=us0.size:=by rw[VN,Nl,FG,cI]
  rw[ee,FG,e1l,←mD _ _ _ _ (by rw[vP];omega) (by simp;omega)] at ir
  obtain ⟨l3,wL,hs3,Yp,VP⟩:=iJ hL uv Nj B2 (by rw[xO];exact hz2) (by rw[xO];exact cH) hU1 (by rw[VN]) (es':=es.take i++[e]++es.drop i) jJ (by omega) (by omega) (o:=i * 42) (vs:=usy.toList.take 42) (by rw[vP,VO];omega) (by rw[xN,FG];exact ir)
  rw[xO,List.set_set] at hs3
  have j4:=mE hs3 (id:=id) (aw:=n+1) (off:=0) (len:=n+1) (k:=k) (path:=[]) (m:=none) (o:=0) (e:=l3.tag) VP (by rw[wL];exact xN) rfl fL (by rw[wL];simp only[eL,Nl];omega)
  have VQ:l3.bq=l.bq:=by rw[wL];exact xO
  have VR:l3.tag=some 31:=by rw[wL];exact B2
  rw[VQ,VR] at j4
  simp only[Nat.zero_add,Nat.zero_mul] at j4
  exact ⟨_,_,rfl,j4,hs3,KG.trans Yp,(St.drew w).trans ((St.setCells _ _ _ _).trans (St.setCells _ _ _ _))⟩
 ·-- no room
  have hz:((Tryz.prog.info? 32).bind fun i=> i.zero).map (fun z=> z.cells.size)=some 42:=by kernel_rfl
  rw[vD] at hz
  obtain ⟨z,rb,hzc⟩:=Option.map_eq_some_iff.1 hz
  refine Calls.mono (ins_grow l.bq n k i ly.bq 0 ky (us0.toList.take (n * 42)) (usy.toList.take 42) w i0 z vD rb hi0s hzc VK hi (by omega) (by omega) vO Av vP xL sa h1c h1v) ?_
  rintro en w' ⟨rfl,rfl⟩
  have hGn:n+1≤grownCap w (n+1) k 32:=grownCap_ge w _ _ _
  obtain ⟨G,hG⟩:∃G,G=grownCap w (n+1) k 32:=⟨_,rfl⟩
  rw[←hG] at hGn ⊢
  obtain ⟨ROW,hROW⟩:∃ROW:Array Value,ROW=((us0.toList.take (n * 42)).take (i * 42)).toArray++Builtin.zeroCells z.cells (n+1 - i)++Builtin.zeroCells z.cells (G - (n+1)):=⟨_,rfl⟩
  rw[←hROW]
  have tF:((us0.toList.take (n * 42)).take (i * 42)).length=i * 42:=by rw[List.length_take,Av];omega
  have tY:((us0.toList.take (n * 42)).drop (i * 42)).length=(n - i)* 42:=by rw[List.length_drop,Av,Nat.sub_mul]
  have hRs:ROW.size=G * 42:=by
    rw[hROW,Array.size_append,Array.size_append,List.size_toArray,tF,size_zeroCells,size_zeroCells,hzc];omega
  have hRt:ROW.toList.take (i * 42)=(us0.toList.take (n * 42)).take (i * 42):=by
    rw[hROW,Array.toList_append,Array.toList_append,List.append_assoc,List.toList_toArray]
    exact List.take_left' tF
  have nE:(n+1)* 42≤ROW.size:=by rw[hRs];exact Nat.mul_le_mul_right 42 hGn
  have dv:∃l':Vm.Loc,l'=⟨w.heap.size,G,some 31,n+1⟩:=⟨_,rfl⟩
  obtain ⟨l',dv⟩:=dv
  have hle:c.le (c.move id l'):=Ctx.vQ c id l l' hl (by rw[dv,bZ]) (by rw[dv,cC];simp) (fun he=> by rw[dv,cC] at he;simp at he)
  have g1:((w.alloc (.cells ROW 32)).drew).heap[w.heap.size]? =some (.cells ROW 32 (0,0)):=iS (w:=w)
  have g2:=dy w.heap.size 32 (0,0) (usy.toList.take 42) (i * 42) ROW _ g1 (by rw[vP];omega)
  have n9:(lay ROW.toList (i * 42) (usy.toList.take 42)).length=ROW.size:=by rw[dW _ _ _ (by rw[vP];simp;omega)];simp
  have g3:=dy w.heap.size 32 (0,0) ((us0.toList.take (n * 42)).drop (i * 42)) ((i+1)* 42) _ (((w.alloc (.cells ROW 32)).drew.setCells w.heap.size (i * 42) (usy.toList.take 42)).drew) g2 (by rw[tY,List.size_toArray,n9];omega)
  have dh:bc (ak Tryz.prog) (c.move id l') (h.set id (.cells (some 31) (es.take i++[e]++es.drop i))) ((((w.alloc (.cells ROW 32)).drew.setCells w.heap.size (i * 42) (usy.toList.take 42)).drew).setCells w.heap.size ((i+1)* 42) ((us0.toList.take (n * 42)).drop (i * 42))):=by
    refine hs.move hl _ hle (by rw[dv];exact hs.qF) (Or.inr (by rw[dv];exact Nat.le_refl _)) (fun b hb tI=> ?_) (fun o' jK=> by rw[tL] at jK;cases jK) ?_
    ·rw[q13z _ _ _ _ _ (by omega)]
     show ((w.alloc (.cells ROW 32)).drew.setCells w.heap.size (i * 42) (usy.toList.take 42)).heap[b]? =_
     rw[q13z _ _ _ _ _ (by omega)]
     exact gT (w:=w) hb
    ·refine ⟨by rw[dv],by rw[dv,xN],by rw[dv,xN];exact hGn,jJ,_,32,(0,0),by rw[dv];exact g3,?_,⟨by intro j hj;omega,fun _=> rfl⟩,?_⟩
     ·rw[List.size_toArray,dW _ _ _ (by rw[tY];simp only[List.toList_toArray,n9];omega),List.toList_toArray,n9,hRs,dv,FG]
     ·rw[xN,FG,List.toList_toArray,List.toList_toArray,take_lay2 (by rw[vP];omega) (by rw[tY];omega) (by simp;omega) hRt]
      exact cJ.mono hle
  have vR:(c.move id l').loc id=some l':=by simp[Ctx.move]
  have j4:=mE dh (id:=id) (aw:=n+1) (off:=0) (len:=n+1) (k:=G) (path:=[]) (m:=none) (o:=0) (e:=l'.tag) vR (by rw[dv]) rfl hGn (by rw[dv];simp only[eL];omega)
  have VS:l'.bq=w.heap.size:=by rw[dv]
  have xP:l'.tag=some 31:=by rw[dv]
  rw[VS,xP] at j4
  simp only[Nat.zero_add,Nat.zero_mul] at j4
  exact ⟨_,_,rfl,j4,dh,hle,(St.alloc _ _).trans ((St.drew _).trans ((St.setCells _ _ _ _).trans ((St.drew _).trans (St.setCells _ _ _ _))))⟩
theorem insert_app (hL:(ak Tryz.prog).OK) {c:Ctx} {w:World} {h:Hp} (hs:bc (ak Tryz.prog) c h w) {x:V} {idy:Nat} {ux uy:Value} {n:Nat} {v:V} {h':Hp}
 (hx:RV (ak Tryz.prog) c x ux) (hy:RV (ak Tryz.prog) c (.ref idy [] (some 31) 0 1 1) uy) (hux:∃a k,ux= .slice a n k∧n≤k∧(a=none→n=0)) (ah:nF 0 h (some 31) (Tryz.prog.bytesOf 32) x (.ref idy [] (some 31) 0 1 1)=some (v,h')):
 eQ Tryz.prog (ak Tryz.prog) c w 97 [ux,.int .i64 n,uy] v h':=by
 obtain ⟨a,k,rfl,hnk,np⟩:=hux
 obtain ⟨ay,ky,rfl,_⟩:=nX.1 hy
 obtain ⟨rb,iT,gZ⟩:=cO (P:=Tryz.prog) (obj:=ob) (t:=32) (z:= .st 31 [.arr 27 [.s (.int .u8 0),.s (.int .u8 0),.s (.int .u8 0),.s (.int .u8 0)],.s (.int .u64 0),.arr 25 [.s (.int .u8 0),.s (.int .u8 0),.s (.int .u8 0),.s (.int .u8 0),.s (.int .u8 0),.s (.int .u8 0),.s (.int .u8 0),.s (.int .u8 0),.s (.int .u8 0),.s (.int .u8 0),.s (.int .u8 0),.s (.int .u8 0),.s (.int .u8 0),.s (.int .u8 0),.s (.int .u8 0),.s (.int .u8 0)],.al false none [],.s (.int .i64 0),.s (.int .i64 0),.arr 25 [.s (.int .u8 0),.s (.int .u8 0),.s (.int .u8 0),.s (.int .u8 0),.s (.int .u8 0),.s (.int .u8 0),.s (.int .u8 0),.s (.int .u8 0),.s (.int .u8 0),.s (.int .u8 0),.s (.int .u8 0),.s (.int .u8 0),.s (.int .u8 0),.s (.int .u8 0),.s (.int .u8 0),.s (.int .u8 0)],.s (.bool false),.s (.bool false)]) (by kernel_rfl)
 obtain ⟨i,hi,_⟩:=TG_V.info
 have hb:Tryz.prog.bytesOf 32=i.bytes:=by simp[Program.bytesOf,hi]
 have gq:0 < i.bytes:=by rw[←hb];exact of_decide_eq_true (by kernel_rfl)
 rw[hb] at ah
 rw[tag_V] at iT
 obtain ⟨u,c',w',bb,h1,h2,h3,h4⟩:=Aw (P:=Tryz.prog) hL hs (T2:=40) (ty:=40) Tryz.underlying40 TG_V hi rb iT gZ (Or.inl ⟨_,Tryz.underlying40⟩) gq hx hy ah
 refine Calls.mono (ins_end a n k ky ay w w' u hnk np bb) ?_
 rintro e w2 ⟨rfl,rfl⟩
 exact ⟨u,c',rfl,h1,h2,h3,h4⟩
theorem insert_calls (hL:(ak Tryz.prog).OK) {c:Ctx} {w:World} {vs:List V} {us:List Value} {h:Hp} {v:V} {h':Hp} (hc:eP (some 31) (Tryz.prog.bytesOf 32) vs h=some (v,h')) (hv:fC (ak Tryz.prog) c vs us) (hs:bc (ak Tryz.prog) c h w):eQ Tryz.prog (ak Tryz.prog) c w 97 us v h':=by
 unfold eP at hc
 split at hc
 case h_2=> cases hc
 rename_i _ x i idy gy
 match us,hv with
 | [ux,ui,uy],hv=>
 obtain ⟨hx,hi,hy,_⟩:=hv
 obtain ⟨rfl,_⟩:=bx.1 hi
 split at hc
 case h_2=> cases hc
 rename_i gy' e hry
 split at hc
 case isFalse=> cases hc
 rename_i hcc
 obtain ⟨rfl,rfl,vy⟩:=hcc
 have kV:source h (.ref idy [] (some 31) 0 1 1)=some (some 31,[e]):=by simp[source,elems,Vm.rowAt,hry]
 split at hc
 ·rename_i gx
  split at hc
  case isFalse=> cases hc
  rename_i hcc
  obtain ⟨rfl,rfl⟩:=hcc
  cases hc
  obtain ⟨a,k,rfl,h1,h2,h3,h4⟩:=cU.1 hx
  refine insert_app (n:=0) hL hs hx hy ⟨a,k,rfl,by simp,fun _=> rfl⟩ ?_
  have hb:Tryz.prog.bytesOf 32≤140737488355328:=of_decide_eq_true (by kernel_rfl)
  simp[nF,kV,cT,hb]
 ·rename_i id gx n m
  split at hc
  case h_2=> cases hc
  rename_i gx' es hrx
  split at hc
  case isFalse=> cases hc
  rename_i hcc
  obtain ⟨rfl,rfl,rfl,cD,h0i,FB,vO⟩:=hcc
  cases hc
  obtain ⟨j,rfl⟩:∃j:Nat,i=j:=⟨i.toNat,by omega⟩
  have bP:=(q16z hrx).2
  simp only[Int.toNat_natCast]
  by_cases hj:j < n
  ·exact insert_mid hL hs hx hy hrx hry cD hj vO
  ·obtain rfl:j=n:=by omega
   obtain ⟨a,k,rfl,_,hk,_⟩:=nX.1 hx
   refine insert_app (n:=j) hL hs hx hy ⟨some a,k,rfl,hk,fun h=> by cases h⟩ ?_
   have hm:bO 0 id e=true:=by simp[bO]
   have t1:es.take j=es:=List.take_of_length_le (by omega)
   have t2:es.drop j=[]:=List.drop_of_length_le (by omega)
   simp[nF,kV,cT,hrx,hm,vO,t1,t2]
 ·cases hc
theorem load_sound (hL:(ak Tryz.prog).OK) {c:Ctx} {w:World} {h:Hp} (hs:bc (ak Tryz.prog) c h w) {x:V} {ux:Value} (hx:RV (ak Tryz.prog) c x ux) {g:Option Nat} {es:List V} {l:List UInt8} (he:elems h x=some (g,es)) (hl:Vm.bytesOf es=some l):
 (Extern.Bytes.bytesOf ux).run Tryz.prog w= .ok ⟨l.toArray⟩ w:=by
 obtain ⟨a,k,rfl,lR,bP,fy⟩:=pf hL hs hx he
 rcases fy with rfl | ⟨b,o,us,ty,fz,rfl,hg,hr⟩
 ·simp only[Vm.bytesOf,Option.some.injEq] at hl
  subst hl
  cases a <;> simp[Extern.Bytes.bytesOf,Extern.Bytes.loadBytes]<;> rfl
 ·obtain ⟨ns,hns,lV,rfl⟩:=jL es l _ hl hr
  have xQ:=na hL hg hr (fun q hq=>(bP q hq).1)
  rw[hns] at xQ
  have bb:=Lib.run_loadBytesX (P:=Tryz.prog) (w:=w) ns ⟨b,o,none⟩ .empty (fun j x hj=> xQ j (.int .u8 x) (by simp[hj]))
  rw[lV] at bb
  simp only[Extern.Bytes.bytesOf,bb]
  congr 2
  simp[Lib.bytesOf,ByteArray.empty,ByteArray.emptyWithCapacity]
  rfl
theorem cmp_calls (hL:(ak Tryz.prog).OK) {c:Ctx} {w:World} {vs:List V} {us:List Value} {h:Hp} {v:V} {h':Hp} (hc:wW vs h=some (v,h')) (hv:fC (ak Tryz.prog) c vs us) (hs:bc (ak Tryz.prog) c h w):eQ Tryz.prog (ak Tryz.prog) c w 98 us v h':=by
 unfold wW at hc
 split at hc
 case h_2=> cases hc
 match us,hv with
 | [ux,uy],hv=>
 obtain ⟨hx,hy,_⟩:=hv
 split at hc
 case h_2=> cases hc
 rename_i ga a gb b' hea heb
 split at hc
 case h_2=> cases hc
 rename_i l m hla hlb
 cases hc
 have h1:=load_sound hL hs hx hea hla
 have h2:=load_sound hL hs hy heb hlb
 have iu:(callFunc 115 #[ux,uy]).run Tryz.prog w= .ok (.value (.int .i64 (Lib.compareBytes l m))) w:=by
   rw[run_callFunc_extern Tryz.func115 (by kernel_rfl) (by kernel_rfl) (by kernel_rfl) (e:=Extern.BytealgCompare.compare) (by kernel_rfl)]
   have:(Extern.BytealgCompare.compare #[ux,uy]).run Tryz.prog w= .ok (.int .i64 (Lib.compareBytes l m)) w:=by
     change Sem.run Tryz.prog (do pure (goInt (Extern.BytealgCompare.cmp (←Extern.Bytes.bytesOf ux) (←Extern.Bytes.bytesOf uy)))) w=_
     simp only[Sem.run_bind,Sem.run_pure,h1,h2,Result.andThen]
     rw[Lib.cmp_eq]
     rfl
   rw[this];rfl
 refine Calls.mono (R:=fun e w'=> e= .returned (.int .i64 (Lib.compareBytes l m))∧w'=w) ?_ ?_
 ·go_enter Tryz.func98,Tryz.ntmps98
  go_wp2_with (simp only[iu])
  go_ret
  exact ⟨rfl,rfl⟩
 ·rintro e w' ⟨rfl,rfl⟩
  exact ⟨_,c,rfl,bx.2 ⟨rfl,rfl⟩,hs,Ctx.le_refl _,St.refl _⟩
theorem pr_ok :cy Tryz.prog (ak Tryz.prog) pr:=by
 intro f vs h v h' hr
 unfold pr at hr
 split at hr
 ·obtain ⟨x,rfl⟩:=oP hr
  refine ⟨⟨_,Tryz.func91,rfl,by kernel_rfl⟩,fun c w us hv hs=> ?_⟩
  match us,hv with
  | [u],hv=> exact qt nU hr hv.1 hs
 ·refine ⟨⟨_,Tryz.func98,rfl,by kernel_rfl⟩,fun c w us hv hs=> cmp_calls nU hr hv hs⟩
 ·refine ⟨⟨_,Tryz.func97,rfl,by kernel_rfl⟩,fun c w us hv hs=> ?_⟩
  have hb:Tryz.prog.bytesOf 32=96:=by kernel_rfl
  rw[←hb] at hr
  exact insert_calls nU hr hv hs
 ·exact ⟨⟨_,Tryz.func60,rfl,by kernel_rfl⟩,fun c w us hv hs=> CT hr hv hs⟩
 ·cases hr
theorem pr_kp :KpP pr:=by
 intro f vs h v h' hr base
 unfold pr at hr
 split at hr
 ·exact tV hr base
 ·have:=DJ hr;subst this;exact Kp.refl _ _
 ·exact Ax hr base
 ·have:=CO hr;subst this;exact Kp.refl _ _
 ·cases hr
end Go.Proofs.YtannfageakbpmaaGreat
