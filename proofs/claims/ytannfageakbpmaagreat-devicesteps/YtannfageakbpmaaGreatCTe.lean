/- Texts for DeviceSteps, part 5. Conditions: none. -/
import Derived.Test.YtannfageakbpmaaGreatCTd
import Derived.Test.YtannfageakbpmaaGreatProg
import Derived.Shelf.Spec.SlicesInsertGrow
import Derived.Lib.BytesEntry
import Derived.Lib.Bytealg
import Derived.Laws.Externs
import Derived.ProofKit
set_option linter.unusedSimpArgs false
set_option linter.unusedVariables false
set_option linter.unusedSectionVars false
namespace Go.Proofs.YtannfageakbpmaaGreat
open Go Go.Vm Go.Proofs Go.Cl
set_option maxRecDepth 100000
def XF :aq:=⟨4,0,0,1,zeroV,[]⟩
theorem Ik (x:KV) {id:Bs} (hx:x.wf) (hid:id.length=4):(qH x id).wf:=by
 have h3:=Int.tmod_nonneg 1099511627776 hx.gen.1
 have h4:=Int.tmod_lt_of_pos x.gen (show (0:Int)< 1099511627776 by decide)
 have g4:=iF (n:=x.bX) (lo:=1) (hi:=32) (by omega)
 have g5:=iG (n:=x.bX) (lo:=1) (hi:=32) (by omega)
 have g6:=iF (n:=x.used) (lo:=0) (hi:=within x.bX 1 32 - 1) (by omega)
 have g7:=iG (n:=x.used) (lo:=0) (hi:=within x.bX 1 32 - 1) (by omega)
 unfold qH
 split
 ·exact ⟨hid,by simp only;omega,rfl,by simp,by simp,by simp,rfl,trivial,trivial⟩
 ·exact ⟨hid,by simp only;omega,rfl,by simp;omega,by simp only;omega,by simp only;omega,rfl,trivial,trivial⟩
def mD (x:KR):aq:=cN (qH x.v (Ig (x.v.iD.tmod 40)))
theorem q35z {x:KR} (hx:x.wf):aS (mD x)=true:=kX (q34z _ _ hx.v)
theorem q36z {x:KR} (hx:x.wf):(mD x).wf:=vN (Ik _ hx.v rfl)
theorem Au (x:KR):(mD x).enc=V.st 41 [.s (.int .i64 1),ki,ki,ku,(qH x.v (Ig (x.v.iD.tmod 40))).enc,.al false (some 31) []]:=rfl
theorem DI (s:bh) (r:aq):(bE s r).2.mem=s.mem∧(bE s r).2.bb=s.bb:=by
 unfold bE
 split
 ·exact ⟨rfl,rfl⟩
 ·split
  ·exact ⟨rfl,rfl⟩
  ·split
   ·exact ⟨rfl,rfl⟩
   ·split <;> exact ⟨rfl,rfl⟩
theorem Lp {s:bh} (hm:s.mem=0) (hs:s.bb=1):bK s ⟨2,1,0,2,zeroV,[]⟩=1:=by
 unfold bK xp
 rw[if_neg (by decide),if_neg (by decide),if_pos rfl,if_pos (by simp only;omega)]
def ie :aq:=⟨2,1,0,2,zeroV,[]⟩
theorem Il :ie.wf:=⟨by simp[ie],by simp[ie],by simp[ie],by simp[ie],ke,by simp[ie]⟩
theorem DJ {s:bh} (h:jL s) {r:aq} (hr:aS r=true) (hk:r.kind=1) {N:Int} {D:aH} (hI:HI N D) (hN:N < 1000000000) (hw:r.wf) (hi:D.is=1) (hf:D.aO= -1) (hs:D.st=s):
 ((D.do r).1=13∧(D.do r).2=D)∨((D.do r).1=0∧HI (N+6) (D.do r).2∧(D.do r).2.is=1∧(D.do r).2.aO= -1∧jL (D.do r).2.st∧((D.do r).2.st.mem=s.mem∧(D.do r).2.st.bb=s.bb)∧(D.do r).2.r.count=D.r.count+1∧
   (D.do r).2.steps=D.steps+(if aV D.r=7 then 6 else 3)∧aV (D.do r).2.r=(if aV D.r=7 then 0 else aV D.r+1)):=by
 subst hs
 rcases uH h hr hk with hc | hc
 ·right
  obtain ⟨u1,u2,u3,u4,u5⟩:=Ca hI hN hw hi hc (by omega)
  obtain ⟨hJ,kp⟩:=hI.do hN hw hi hc
  rcases kp with ⟨_,_,z,_⟩ | ⟨z1,z2,z3,_⟩
  ·omega
  ·exact ⟨u1,hJ,u2,by omega,by rw[z3];exact Dx h hk,by rw[z3];exact DI _ _,z1,u4,u5⟩
 ·left
  have:=Ie hi (r:=r) (by omega)
  rw[this,hc]
  exact ⟨rfl,rfl⟩
theorem DeviceSteps_ok (b:Nat) (h:Hp) (l:List KR) (aO:Int) (hl:l.length≤140737488351232) (hw:∀x∈l,x.wf) (BS: -9223372036854775808≤aO) (hf1:aO≤9223372036854775807):run fns pr b 5 [.al false (some 37) (l.map KR.enc),.s (.int .i64 aO)] h=some (.s (.bool true),h):=by
 refine Vm.aT (nt:=170) rfl XP (by simp) ?_
 obtain ⟨v0,H0,e0',t,id,F0,mid,did,sp,sid,rfl,ht,d0,p0,f0,n0,l1,l2,l3,l4,l5,l6,l7⟩:=xM h.length h 0 1 (dg 2) (Nat.le_refl _) rfl (by decide) (by decide) (by decide) (by decide)
 have vD:=HI.new (dg 2) (a:=0) (b:=1) (by decide) (by decide) (by decide) (by decide)
 have ow0:=Lm (dg 2)
 have Db:=q6z ht
 have st0:(aH.new 0 1 (dg 2)).is=1∧(aH.new 0 1 (dg 2)).aO= -1∧(aH.new 0 1 (dg 2)).r.count=0∧aV (aH.new 0 1 (dg 2)).r=0∧(aH.new 0 1 (dg 2)).st.mem=0∧(aH.new 0 1 (dg 2)).st.bb=1:=⟨rfl,rfl,rfl,(by decide:aV gS=0),rfl,rfl⟩
 generalize aH.new 0 1 (dg 2)=D0 at *
 have w0:Lw h H0 id D0 F0 (fun j=> j=t):=⟨d0,f0,fun j hj=>(n0 j hj).1,fun j hj=> by subst hj;exact ⟨fun hm=> by have:=n0 _ hm;omega,Db⟩⟩
 have hd1:(dg 2).map aa=[.s (.int .u8 2),.s (.int .u8 0),.s (.int .u8 0),.s (.int .u8 0),.s (.int .u8 0),.s (.int .u8 0),.s (.int .u8 0),.s (.int .u8 0),.s (.int .u8 0),.s (.int .u8 0),.s (.int .u8 0),.s (.int .u8 0),.s (.int .u8 0),.s (.int .u8 0),.s (.int .u8 0),.s (.int .u8 0)]:=rfl
 rw[hd1] at e0'
 have hwi:=fun b H=> mZ b H aO 0 2 (by omega) (by omega) (by omega) BS hf1
 obtain ⟨f,hf,hf2⟩:∃f:Int,within aO 0 2=f∧0≤f∧f≤2:=⟨_,rfl,iF (by omega),iG (by omega)⟩
 rw[hf] at hwi
 have hkn:=fun b H=> At b H
 have il:∀cf base H,aB cf base H .len [.al false (some 37) (l.map KR.enc)]=some (.s (.int .i64 (l.length:Nat)),H):=fun cf base H=> by rw[oi];simp
 have hoe:ie.enc=V.st 41 [.s (.int .i64 2),.s (.int .i64 1),.s (.int .i64 0),.s (.int .u64 2),.st 31 [z4 27,ku,bz 25,kx,ki,ki,bz 25,.s (.bool false),.s (.bool false)],.al false (some 31) []]:=rfl
 have uI:(cN (gq [200,1,0,0])).enc=V.st 41 [.s (.int .i64 1),ki,ki,ku,.st 31 [.arr 27 [.s (.int .u8 200),.s (.int .u8 1),.s (.int .u8 0),.s (.int .u8 0)],.s (.int .u64 1),bz 25,kx,ki,ki,bz 25,.s (.bool true),.s (.bool false)],.al false (some 31) []]:=rfl
 obtain ⟨TW,DK⟩:∃TW,aW.cells (some 47) [.st 47 [.ptr id [0] 1,.ptr mid [0] 1,.s (.pointer none),.s (.pointer none)]]=TW:=⟨_,rfl⟩
 obtain ⟨N,hN⟩:∃N:Nat,N=min l.length 30:=⟨_,rfl⟩
 have ht0:=ht
 rw[DK] at ht
 simp only[B5,RE,RD,e0',go_sem,↓reduceIte,Nat.reduceEqDiff,Nat.reduceBEq,Nat.reduceAdd,Nat.reduceSub,Nat.reduceLT,Nat.reduceLeDiff,Int.reduceLT,Int.reduceLE,Int.reduceEq,Int.reduceToNat]
 refine bj (fun q e H=>∃(i m:Nat) (D:aH) (F:List Nat),q=N - i∧i≤N∧e 7= .s (.int .i64 (i:Nat))∧e 6= .s (.int .i64 (m:Nat))∧e 5= .ptr t [0] 1∧e 1= .s (.int .i64 aO)∧e 0= .al false (some 37) (l.map KR.enc)∧Lw h H id D F (fun j=> j=t)∧H[t]? =some TW∧HI (6 *(i:Nat)) D∧D.is=1∧D.aO= -1∧jL D.st∧(D.st.mem=0∧D.st.bb=1)∧D.r.count=m∧aV D.r=(m % 8:Nat)∧m≤i)
   (fun e H=>∃(m:Nat) (D:aH) (F:List Nat),e 6= .s (.int .i64 (m:Nat))∧e 5= .ptr t [0] 1∧e 1= .s (.int .i64 aO)∧Lw h H id D F (fun j=> j=t)∧H[t]? =some TW∧HI 180 D∧D.is=1∧jL D.st∧(D.st.mem=0∧D.st.bb=1)∧D.r.count=m∧m≤30)
   N _ _ ⟨0,0,D0,F0,rfl,by omega,rfl,rfl,rfl,rfl,rfl,w0,ht,vD.wk (by omega),st0.1,st0.2.1,ow0,st0.2.2.2.2,st0.2.2.1,st0.2.2.2.1,by omega⟩ ?_ ?_
 ·rintro q e H ⟨i,m,D,F,rfl,hi,e7,e6,e5,e1,e0,w,tw,hI,is1,fu,ow,mm,cm,hm,hmi⟩
  by_cases ci:i < N
  ·have c1:(i:Int)<((l.length:Nat):Int):=by omega
   have c2:(i:Int)< 30:=by omega
   have cl:i < l.length:=by omega
   have w1:IntKind.i64.wrap ((i:Int)+1)=((i+1:Nat):Int):=q18z (by omega)
   have wm2:IntKind.i64.wrap ((m:Int)+1)=((m+1:Nat):Int):=q18z (by omega)
   have wm3:IntKind.u64.wrap ((m+1:Nat):Int)=((m+1:Nat):Int):=wrap_u64 (by omega) (by omega)
   have hv:l[i]? =some l[i]:=List.getElem?_eq_getElem cl
   have hxw:=hw _ (List.getElem_mem cl)
   generalize l[i]=x at hv hxw
   have gN:∀H,SR H (.al false (some 37) (l.map KR.enc)) (some 37) (l.map KR.enc):=fun H=> .inl ⟨false,rfl⟩
   have Av:(l.map KR.enc)[i]? =some (V.st 37 [.s (.int .i64 x.kind),.s (.int .i64 x.aA),.s (.int .i64 x.dy),.s (.int .u64 x.aD),x.v.enc,.al false (some 34) (x.l.map fun z=> KV.enc z)]):=by rw[List.getElem?_map,hv];rfl
   have i0:(0:Int)≤(i:Int):=by omega
   have VK: -9223372036854775808≤x.v.iD.tmod 40∧x.v.iD.tmod 40≤9223372036854775807:=by
     have h1:=Int.tmod_lt_of_pos x.v.iD (show (0:Int)< 40 by decide)
     have h2: -40 < x.v.iD.tmod 40:=by
       rcases Int.le_total 0 x.v.iD with h0 | h0
       ·have:=Int.tmod_nonneg 40 h0;omega
       ·have h3:x.v.iD.tmod 40= -((-x.v.iD).tmod 40):=by rw[Int.neg_tmod];simp
        have:=Int.tmod_lt_of_pos (-x.v.iD) (show (0:Int)< 40 by decide)
        omega
     omega
   have wH:=fun cf base h=> lC (cf:=cf) (base:=base) (h:=h) .i64 x.v.iD 40 (by decide)
   have hid:=fun b H=> VJ b H (x.v.iD.tmod 40) VK.1 VK.2
   have hkv:=fun b H=> Dz b H x.v (Ig (x.v.iD.tmod 40)) hxw.v
   have hve:x.v.enc=V.st 34 [.s (.int .i64 x.v.iD),.s (.int .i64 x.v.q9),.s (.int .i64 x.v.owner),.s (.int .i64 x.v.bX),.s (.int .i64 x.v.used),.s (.int .i64 x.v.nq),.s (.int .u64 x.v.gen),.al false none (x.v.bY.map aa)]:=rfl
   rw[hve] at hkv Av
   have nD:=Au x
   have wI:=q35z hxw
   have pg:=q36z hxw
   have BQ:(mD x).kind=1:=rfl
   have r1:=jJ (mD x)
   have r2:=jK (mD x)
   have r3:=p7 (mD x)
   generalize mD x=R at *
   have fA:Fw [] H (H++[aW.cells (some 41) [R.enc]]):=Fw.app [] H _
   have wA:Lw h (H++[aW.cells (some 41) [R.enc]]) id D F (fun j=> j=t):=w.ext fA (fun j hj=> .inl hj)
   have twA:=q10z tw [aW.cells (some 41) [R.enc]]
   have rgA:(H++[aW.cells (some 41) [R.enc]])[H.length]? =some (aW.cells (some 41) [R.enc]):=aM _ _
   have aP:=fun b=> mu b _ id D F wA.d
   obtain ⟨v2,H2,e2,rfl,F2,d2,f2,n2⟩:=xD h.length _ id D F R wA.fn wA.d _ (by omega) hI.ok pg pg.ai.2
   obtain ⟨w2,k2⟩:=wA.op d2 f2 n2
   have tw2:=k2 _ _ rfl twA
   have ny:=fun b=> mu b H2 id _ F2 w2.d
   have PG:=fun b=> jt b H2 id _ F2 w2.d
   have hle:=w.fw.len
   have pa:∀x,(decide (h.length≤H.length) || x)=true:=fun x=> by rw[decide_eq_true hle];rfl
   have eI:=w2.fw.take
   rcases DJ ow wI BQ hI (by omega) pg is1 fu rfl with ⟨y1,y2⟩ | ⟨y1,y2,y3,y4,y5,y6,y7,y8,y9⟩
   ·rw[y1] at e2
    rw[y2] at ny w2
    subst DK
    simp only[e7,e6,e5,e1,e0,il,c1,c2,i0,Int.toNat_natCast,Av,wH,hid,hkv,aY,aZ,nD.symm,r1,r2,pa,twA,rgA,aP,e2,tw2,ny,w1,go_sem,↓reduceIte,Nat.reduceEqDiff,Nat.reduceBEq,Nat.reduceAdd,Nat.reduceSub,Nat.reduceLT,Nat.reduceLeDiff,Int.reduceLT,Int.reduceLE,Int.reduceEq,Int.reduceToNat]
    exact ⟨N - (i+1),by omega,i+1,m,D,F2,rfl,by omega,rfl,rfl,w2,hI.wk (by omega),is1,fu,ow,mm,cm,hm,by omega⟩
   ·rw[y1] at e2
    have VL:=fun cf base h=> lC (cf:=cf) (base:=base) (h:=h) .i64 ((m+1:Nat):Int) 8 (by decide)
    have hm8:((m+1:Nat):Int).tmod 8=(((m+1) % 8:Nat):Int):=by rw[Int.tmod_eq_emod_of_nonneg (by omega)];omega
    have qw:=hI.ok.s0
    have tG:=hI.ok.s1
    generalize (D.do R).2=E at *
    have hEr:E.r.enc=V.st 53 [.s (.int .u64 E.r.bq),.s (.int .u64 ((m+1:Nat):Int)),.s (.int .u64 E.r.base),.arr 25 (E.r.head.map aa),.s (.int .i64 E.r.aF)]:=by
      have:E.r.count=((m+1:Nat):Int):=by rw[y7,cm];omega
      rw[←this];rfl
    rw[hEr] at PG
    have iP:∃k,k < N - i∧∃(i' m':Nat) (D':aH) (F':List Nat),k=N - i'∧i'≤N∧Value.int IntKind.i64 ((i+1:Nat):Int)=Value.int IntKind.i64 (i':Int)∧Value.int IntKind.i64 ((m+1:Nat):Int)=Value.int IntKind.i64 (m':Int)∧Lw h H2 id D' F' (fun j=> j=t)∧HI (6 *(i':Nat)) D'∧D'.is=1∧D'.aO= -1∧jL D'.st∧(D'.st.mem=0∧D'.st.bb=1)∧D'.r.count=m'∧aV D'.r=(m' % 8:Nat)∧m'≤i':=by
      refine ⟨N - (i+1),by omega,i+1,m+1,E,F2,rfl,by omega,rfl,rfl,w2,y2.wk (by omega),y3,y4,y5,⟨y6.1.trans mm.1,y6.2.trans mm.2⟩,by rw[y7,cm];omega,?_,by omega⟩
      rw[y9]
      split
      ·omega
      ·omega
    by_cases c7:m % 8=7
    ·have h7:aV D.r=7:=by omega
     have hz:(((m+1) % 8:Nat):Int)=0:=by omega
     rw[if_pos h7] at y8
     have hwa:IntKind.i64.wrap (D.steps+6)=D.steps+6:=wrap_i64 (by omega) (by omega)
     subst DK
     simp only[e7,e6,e5,e1,e0,il,c1,c2,i0,Int.toNat_natCast,Av,wH,hid,hkv,aY,aZ,nD.symm,r1,r2,pa,twA,rgA,aP,e2,tw2,ny,PG,w1,wm2,wm3,VL,hm8,hz,y8,hwa,go_sem,↓reduceIte,Nat.reduceEqDiff,Nat.reduceBEq,Nat.reduceAdd,Nat.reduceSub,Nat.reduceLT,Nat.reduceLeDiff,Int.reduceLT,Int.reduceLE,Int.reduceEq,Int.reduceToNat]
     exact iP
    ·have h7:¬aV D.r=7:=by omega
     have hz:¬(((m+1) % 8:Nat):Int)=0:=by omega
     rw[if_neg h7] at y8
     have hwa:IntKind.i64.wrap (D.steps+3)=D.steps+3:=wrap_i64 (by omega) (by omega)
     subst DK
     simp only[e7,e6,e5,e1,e0,il,c1,c2,i0,Int.toNat_natCast,Av,wH,hid,hkv,aY,aZ,nD.symm,r1,r2,pa,twA,rgA,aP,e2,tw2,ny,PG,w1,wm2,wm3,VL,hm8,hz,y8,hwa,go_sem,↓reduceIte,Nat.reduceEqDiff,Nat.reduceBEq,Nat.reduceAdd,Nat.reduceSub,Nat.reduceLT,Nat.reduceLeDiff,Int.reduceLT,Int.reduceLE,Int.reduceEq,Int.reduceToNat]
     exact iP
  ·have c1:¬((i:Int)<((l.length:Nat):Int)∧(i:Int)< 30):=by omega
   by_cases c2:(i:Int)<((l.length:Nat):Int)
   ·have c3:¬(i:Int)< 30:=by omega
    simp only[e7,e6,e5,e1,e0,il,c2,c3,go_sem,↓reduceIte,Nat.reduceEqDiff,Nat.reduceBEq,Nat.reduceAdd,Nat.reduceSub,Nat.reduceLT,Nat.reduceLeDiff,Int.reduceLT,Int.reduceLE,Int.reduceEq,Int.reduceToNat]
    exact ⟨m,D,F,rfl,w,tw,hI.wk (by omega),is1,ow,mm,cm,by omega⟩
   ·simp only[e7,e6,e5,e1,e0,il,c2,go_sem,↓reduceIte,Nat.reduceEqDiff,Nat.reduceBEq,Nat.reduceAdd,Nat.reduceSub,Nat.reduceLT,Nat.reduceLeDiff,Int.reduceLT,Int.reduceLE,Int.reduceEq,Int.reduceToNat]
    exact ⟨m,D,F,rfl,w,tw,hI.wk (by omega),is1,ow,mm,cm,by omega⟩
 ·rintro e H ⟨m,D,F,e6,e5,e1,w,tw,hI,is1,ow,mm,cm,Zb⟩
  have VM:=fun b=> mu b H id D F w.d
  obtain ⟨v2,H2,e2,rfl,d2,f2⟩:=BW h.length H id D F f 0 w.fn w.d
  obtain ⟨w2,k2⟩:=w.op d2 f2 (fun j hj=> .inl hj)
  have tw2:=k2 _ _ rfl tw
  have hI2:=hI.aO f 0 (by omega)
  have is2:(D.dV f 0).is=1:=is1
  have ow2:jL (D.dV f 0).st:=ow
  have ck2:=Lp (s:=(D.dV f 0).st) mm.1 mm.2
  have fu2:(D.dV f 0).aO=f:=by show max f (-1)=f;omega
  have sp2:(D.dV f 0).steps=D.steps:=rfl
  have cm2:(D.dV f 0).r.count=m:=cm
  generalize D.dV f 0=D2 at *
  obtain ⟨v3,H3,e3,rfl,F3,d3,f3,n3⟩:=xD h.length H2 id D2 F ie w2.fn w2.d _ (by decide) hI2.ok Il Il.ai.2
  have hd3:D2.do ie=(1,D2):=by
    have:=Ie is2 (r:=ie) (by rw[show bK D2.st ie=1 from ck2];decide)
    rw[this,show bK D2.st ie=1 from ck2]
  rw[hd3] at e3 d3
  obtain ⟨w3,k3⟩:=w2.op d3 f3 n3
  have tw3:=k3 _ _ rfl tw2
  have xk:=fun b=> mu b H3 id D2 F3 w3.d
  have wI:=kX (sB [200,1,0,0])
  have pg:=vN (Cb (id:=[200,1,0,0]) rfl)
  have BQ:(cN (gq [200,1,0,0])).kind=1:=rfl
  generalize cN (gq [200,1,0,0])=R at *
  obtain ⟨v4,H4,e4,rfl,F4,d4,f4,n4⟩:=xD h.length H3 id D2 F3 R w3.fn w3.d _ (by decide) hI2.ok pg pg.ai.2
  obtain ⟨w4,k4⟩:=w3.op d4 f4 n4
  have tw4:=k4 _ _ rfl tw3
  have HR:=fun b=> mu b H4 id _ F4 w4.d
  have Lo:=fun b=> jt b H4 id _ F4 w4.d
  have VN:=fun b=> Vv b H4 id _ F4 w4.d
  have eI:=w4.fw.take
  rcases uH ow2 wI BQ with hc | hc
  ·obtain ⟨u1,u2,u3,u4,u5,u6⟩:=xJ hI2 (by decide) (r:=R) is2 hc (by omega) (by omega)
   rw[u1] at e4
   generalize (D2.do R).2=E at *
   have qw:=hI2.ok.s0
   have tG:=hI2.ok.s1
   have w3':IntKind.u64.wrap (m:Int)=(m:Int):=wrap_u64 (by omega) (by omega)
   have hwa:IntKind.i64.wrap (D2.steps+f)=D2.steps+f:=wrap_i64 (by omega) (by omega)
   have hEr:E.r.enc=V.st 53 [.s (.int .u64 E.r.bq),.s (.int .u64 (m:Int)),.s (.int .u64 E.r.base),.arr 25 (E.r.head.map aa),.s (.int .i64 E.r.aF)]:=by
     have:E.r.count=(m:Int):=by rw[u4,cm2]
     rw[←this];rfl
   rw[hEr] at Lo
   rw[u2] at VN
   rw[u3,fu2] at HR
   rw[sp2] at xk HR hwa
   subst DK
   simp only[e6,e5,e1,hwi,tw,VM,e2,tw2,hoe.symm,e3,tw3,xk,uI.symm,e4,tw4,HR,VN,Lo,w3',hwa,hkn,eI,go_sem,↓reduceIte,Nat.reduceEqDiff,Nat.reduceBEq,Nat.reduceAdd,Nat.reduceSub,Nat.reduceLT,Nat.reduceLeDiff,Int.reduceLT,Int.reduceLE,Int.reduceEq,Int.reduceToNat]
  ·have hd4:D2.do R=(13,D2):=by
     have:=Ie is2 (r:=R) (by omega)
     rw[this,hc]
   rw[hd4] at e4
   rw[sp2] at xk
   subst DK
   simp only[e6,e5,e1,hwi,tw,VM,e2,tw2,hoe.symm,e3,tw3,xk,uI.symm,e4,hkn,eI,go_sem,↓reduceIte,Nat.reduceEqDiff,Nat.reduceBEq,Nat.reduceAdd,Nat.reduceSub,Nat.reduceLT,Nat.reduceLeDiff,Int.reduceLT,Int.reduceLE,Int.reduceEq,Int.reduceToNat]
end Go.Proofs.YtannfageakbpmaaGreat
namespace Go.Proofs.YtannfageakbpmaaGreat
open Go Go.Proofs Go.Shelf Go.RowKit Go.Lib
theorem run_copy_cellsZ {P:Program} (w:World) (dT sT ty elem:TypeId) (b o dLen dCap:Nat) (a:Addr) (sLen sCap:Nat) (cs:List Value) (sz m:Nat)
 (hu:P.underlying dT=some (.slice elem)) (hs:(P.info? elem).map (·.size)=some sz) (hm:Nat.min sLen dLen=m) (hn:cs.length=m * sz)
 (kY:∀j v,cs[j]? =some v→w.cell? (a.add j)=some v) (hc:∀j,j < cs.length→(w.cell? ⟨b,o+j,none⟩).isSome=true) (hf:∀j,j < cs.length→w.frozen? ⟨b,o+j,none⟩=false) (h1:∀v∈cs,v.oneCell'=true):
 (Builtin.copy_ #[dT,sT] ty #[.slice (some ⟨b,o,none⟩) dLen dCap,.slice (some a) sLen sCap]).run P w= .ok (goInt m) (w.setCells b o cs):=by
 have hl:=run_loadCells_list (P:=P) w a cs kY
 have aP:=run_storeCells_cells (P:=P) b o cs 0 w (by simpa using hc) (by simpa using hf) h1
 cases hq:P.info? elem with
 | none=> simp[hq] at hs
 | some i=>
   have hi:i.size=sz:=by simpa[hq] using hs
   simp[Builtin.copy_,run_underlying hu,Builtin.lenOf,Builtin.firstCells,sizeOf,typeInfo,hq,hi,hm,←hn,hl,aP]
set_option maxHeartbeats 4000000 in
set_option maxRecDepth 100000 in
theorem ins_shift (b n c i vb voff vc:Nat) (cs vs:List Value) (w:World) (hi:i < n) (fL:n+1≤c) (Zc:n+1≤9223372036854775807) (au:vb≠b)
 (nw:cs.length=n * 42) (FC:vs.length=42)
 (xN:∀j v,cs[j]? =some v→w.cell? ⟨b,j,none⟩=some v) (uA:∀j,j <(n+1)* 42→(w.cell? ⟨b,j,none⟩).isSome=true) (df:∀j,j <(n+1)* 42→w.frozen? ⟨b,j,none⟩=false)
 (r9:∀j v,vs[j]? =some v→w.cell? ⟨vb,voff+j,none⟩=some v) (h1c:∀v∈cs,v.oneCell'=true) (h1v:∀v∈vs,v.oneCell'=true)
 (tA tB:TypeId) (kA kB:Nat) (hsa:w.shape? vb=some (tA,kA)) (hsb:w.shape? b=some (tB,kB)) (hkB:kB≠0) (hfa:w.frozen? ⟨vb,voff,none⟩=false) (hfe:w.frozen? ⟨vb,kA,none⟩=false):
 Calls Tryz.prog 97 #[.slice (some ⟨b,0,none⟩) n c,.int .i64 i,.slice (some ⟨vb,voff,none⟩) 1 vc] w fun e w'=>
   e= .returned (.slice (some ⟨b,0,none⟩) (n+1) c)∧w'=(w.drew.setCells b ((i+1)* 42) (cs.drop (i * 42))).setCells b (i * 42) vs:=by
 have hz2:¬((i:Int)=(n:Int)):=by omega
 have cJ:(Tryz.prog.info? 32).map (·.size)=some 42:=by kernel_rfl
 have oA:∀w,(Go.sizeOf 32).run Tryz.prog w= .ok 42 w:=fun w=> by
   obtain ⟨i0,h1,h2⟩:=Option.map_eq_some_iff.1 cJ
   simp[Go.sizeOf,typeInfo,h1,h2]
 have hov:∀o lb cb,(callFunc 113 #[.slice (some ⟨vb,voff,none⟩) 1 vc,.slice (some ⟨b,o,none⟩) lb cb]).run Tryz.prog w= .ok (.value (.bool false)) w:=fun o lb cb=> by
   rw[run_callFunc_extern Tryz.func113 (by kernel_rfl) (by kernel_rfl) (by kernel_rfl) (e:=Extern.SlicesOverlaps.overlaps #[40,40] #[4]) (by kernel_rfl),
    Lib.run_overlaps_apart w 40 4 32 Tryz.underlying40 42 oA ⟨vb,voff,none⟩ ⟨b,o,none⟩ 1 vc lb cb au tA tB kA kB hsa hsb hkB hfa hfe]
   rfl
 have tY:(cs.drop (i * 42)).length=(n - i)* 42:=by rw[List.length_drop,nw,Nat.sub_mul]
 have mixed:Tryz.prog.follows .mixedOrders=true:=by kernel_rfl
 have lV:IntKind.i64.wrap ((n:Int)+1)=(n:Int)+1:=by rw[IntKind.wrap_i64];omega
 have vw:IntKind.i64.wrap ((i:Int)+1)=(i:Int)+1:=by rw[IntKind.wrap_i64];omega
 have lW:(0:Int)≤(i:Int)+1:=by omega
 have FE:i≤n:=by omega
 have htn:((i:Int)+1).toNat=i+1:=by omega
 have Zd:((n:Int)+1).toNat=n+1:=by omega
 have xA:¬(c=i+1):=by omega
 have hb3:(i:Int)≤(n:Int)+1:=by omega
 have hb4:¬(c=i):=by omega
 have hb5:¬((c:Int)<(n:Int)+1):=by omega
 have VO:∀ty dc sc,(Builtin.copy_ #[40,40] ty #[.slice (some ⟨b,(i+1)* 42,none⟩) (n - i) dc,.slice (some ⟨b,i * 42,none⟩) (n+1 - i) sc]).run Tryz.prog w.drew= .ok (goInt ((n - i:Nat):Int)) (w.drew.setCells b ((i+1)* 42) (cs.drop (i * 42))):=fun ty dc sc=>
   run_copy_cellsZ w.drew _ _ ty 32 b ((i+1)* 42) (n - i) dc ⟨b,i * 42,none⟩ (n+1 - i) sc (cs.drop (i * 42)) 42 (n - i) Tryz.underlying40 cJ (by simp only[Nat.min_def];split <;> omega) tY
     (fun j v hj=> by rw[Addr.add_lit];exact xN (i * 42+j) v (by rwa [List.getElem?_drop] at hj))
     (fun j hj=> uA _ (by omega)) (fun j hj=> df _ (by omega)) (fun v hv=> h1c v (List.mem_of_mem_drop hv))
 obtain ⟨W1,hW1⟩:∃W1,W1=w.drew.setCells b ((i+1)* 42) (cs.drop (i * 42)):=⟨_,rfl⟩
 have Ym:∀k,k <(n+1)* 42→(W1.cell? ⟨b,k,none⟩).isSome=true:=fun k hk=> by
   rw[hW1]
   exact isSome_setCells b (cs.drop (i * 42)) ((i+1)* 42) w.drew (fun j hj=> uA _ (by rw[tY] at hj;omega)) k (uA k hk)
 have Yn:∀(W:World),(∀x,W.cell? x=W1.cell? x)→(∀x,W.frozen? x=W1.frozen? x)→∀ty dc,(Builtin.copy_ #[40,40] ty #[.slice (some ⟨b,i * 42,none⟩) (n+1 - i) dc,.slice (some ⟨vb,voff,none⟩) 1 vc]).run Tryz.prog W= .ok (goInt 1) (W.setCells b (i * 42) vs):=fun W hWc hWf ty dc=>
   run_copy_cellsZ W _ _ ty 32 b (i * 42) (n+1 - i) dc ⟨vb,voff,none⟩ 1 vc vs 42 1 Tryz.underlying40 cJ (by simp only[Nat.min_def];split <;> omega) (by rw[FC])
     (fun j v hj=> by
       rw[Addr.add_lit,hWc,hW1,World.cell?_setCells_out b _ _ _ _ (fun h _=> absurd h au)]
       exact r9 j v hj)
     (fun j hj=> by rw[hWc];exact Ym _ (by omega)) (fun j hj=> by rw[hWf,hW1,World.frozen?_setCells];exact df _ (by omega)) h1v
 rw[←hW1] at VO
 go_enter Tryz.func97,Tryz.ntmps97
 go_wp2_with (simp only[hov])
 go_region_law_o (refine step_copy_runI rfl _ _ 40 40 rfl _ _ (by simp[Act.eval,Act.put]) (by simp[Act.eval,Act.put]) (VO _ _ _) ?_)
 go_wp2_with (at_builtin;refine wpList_copy_runI _ rfl _ _ 40 40 rfl _ _ rfl rfl (Yn _ (fun _=> rfl) (fun _=> rfl) _ _) ?_)
 go_ret
 first | exact ⟨rfl,rfl⟩ | exact ⟨rfl,by rw[hW1]⟩
set_option maxHeartbeats 4000000 in
set_option maxRecDepth 100000 in
theorem ins_grow (b n c i vb voff vc:Nat) (cs vs:List Value) (w:World) (i0:TypeInfo) (z:Value) (vD:Tryz.prog.info? 32=some i0) (ri:i0.zero=some z) (gZ:i0.size=42) (hzc:z.cells.size=42) (m0:0 < i0.bytes)
 (hi:i < n) (hnc:n≤c) (fL:c < n+1) (vO:(n+1)* i0.bytes≤140737488355328)
 (nw:cs.length=n * 42) (FC:vs.length=42)
 (xN:∀j v,cs[j]? =some v→w.cell? ⟨b,j,none⟩=some v)
 (r9:∀j v,vs[j]? =some v→w.cell? ⟨vb,voff+j,none⟩=some v) (h1c:∀v∈cs,v.oneCell'=true) (h1v:∀v∈vs,v.oneCell'=true):
 Calls Tryz.prog 97 #[.slice (some ⟨b,0,none⟩) n c,.int .i64 i,.slice (some ⟨vb,voff,none⟩) 1 vc] w fun e w'=>
   e= .returned (.slice (some ⟨w.heap.size,0,none⟩) (n+1) (grownCap w (n+1) c 32))∧
   w'=(((w.alloc (.cells ((cs.take (i * 42)).toArray++Builtin.zeroCells z.cells (n+1 - i)++Builtin.zeroCells z.cells (grownCap w (n+1) c 32 - (n+1))) 32)).drew.setCells w.heap.size (i * 42) vs).drew).setCells w.heap.size ((i+1)* 42) (cs.drop (i * 42)):=by
 have mixed:Tryz.prog.follows .mixedOrders=true:=by kernel_rfl
 have hz2:¬((i:Int)=(n:Int)):=by omega
 have hz3:(c:Int)<(n:Int)+1:=by omega
 have cJ:(Tryz.prog.info? 32).map (·.size)=some 42:=by rw[vD];simp[gZ]
 have hbw:b < w.heap.size:=block_lt_of_cell (xN 0 _ (List.getElem?_eq_getElem (by omega)))
 have hvw:vb < w.heap.size:=block_lt_of_cell (r9 0 _ (List.getElem?_eq_getElem (by omega)))
 have hnb:n+1≤140737488355328:=Nat.le_trans (Nat.le_mul_of_pos_right _ m0) vO
 have BQ:(n:Int)+1 - (i:Int)=((n+1 - i:Nat):Int):=by omega
 have hik:i+(n+1 - i)=n+1:=by omega
 have tE:(cs.take (i * 42)).length=i * 42:=by rw[List.length_take,nw];omega
 have hold:(Builtin.firstCells i0.size i (.slice (some ⟨b,0,none⟩) i c)).run Tryz.prog w.drew= .ok (cs.take (i * 42)).toArray w.drew:=by
   rw[gZ]
   exact run_firstCells_some w.drew 42 i ⟨b,0,none⟩ i c (cs.take (i * 42)) tE (fun j v hj=> by
     rw[Addr.add_lit,Nat.zero_add]
     rw[List.getElem?_take] at hj
     split at hj
     ·exact xN j v hj
     ·cases hj)
 have hkb:(n+1 - i)* i0.bytes≤281474976710656:=by
   have:(n+1 - i)* i0.bytes≤(n+1)* i0.bytes:=Nat.mul_le_mul_right _ (by omega)
   omega
 have hrz:∀ty,(Builtin.append_ #[40,3] ty #[.slice (some ⟨b,0,none⟩) i c,.int .i64 ((n:Int)+1 - (i:Int))]).run Tryz.prog w=
  .ok (.slice (some ⟨w.heap.size,0,none⟩) (n+1) (grownCap w (n+1) c 32)) (w.drew.alloc (.cells ((cs.take (i * 42)).toArray++Builtin.zeroCells z.cells (n+1 - i)++Builtin.zeroCells z.cells (grownCap w (n+1) c 32 - (n+1))) 32)):=fun ty=> by
   have h:=Lib.run_append_grow_zeros w 40 3 ty 32 i0 z .i64 .i64 Tryz.underlying40 Tryz.underlying3 vD ri (some ⟨b,0,none⟩) i c (cs.take (i * 42)) hold (n+1 - i) (by omega) (by omega) (by omega) (by omega) hkb (by rw[hik];exact growslice_fits fL vO)
   rw[hik] at h
   rw[BQ]
   exact h
 obtain ⟨G,hG⟩:∃G,G=grownCap w (n+1) c 32:=⟨_,rfl⟩
 obtain ⟨ROW,hROW⟩:∃ROW:Array Value,ROW=(cs.take (i * 42)).toArray++Builtin.zeroCells z.cells (n+1 - i)++Builtin.zeroCells z.cells (G - (n+1)):=⟨_,rfl⟩
 rw[←hG] at hrz ⊢
 rw[←hROW] at hrz ⊢
 have hRl:(n+1)* 42≤ROW.size:=by
   rw[hROW]
   simp[Builtin.zeroCells,hzc]
   omega
 obtain ⟨W1,hW1⟩:∃W1,W1=w.drew.alloc (.cells ROW 32):=⟨_,rfl⟩
 rw[←hW1] at hrz
 have hN:∀j,j <(n+1)* 42→(W1.cell? ⟨w.heap.size,j,none⟩).isSome=true:=fun j hj=> by
   rw[hW1,World.cell?_alloc_at (w:=w.drew) ROW _ w.heap.size j rfl,Array.getElem?_eq_getElem (by omega)];rfl
 have hNf:∀j,W1.frozen? ⟨w.heap.size,j,none⟩=false:=fun j=> by rw[hW1];exact World.frozen?_alloc_at (w:=w.drew) ROW _ w.heap.size j rfl
 have hOb:∀j v,w.cell? ⟨b,j,none⟩=some v→W1.cell? ⟨b,j,none⟩=some v:=fun j v h=> by rw[hW1,World.cell?_alloc_past (w:=w.drew) _ b j hbw];exact h
 have hOv:∀j v,w.cell? ⟨vb,j,none⟩=some v→W1.cell? ⟨vb,j,none⟩=some v:=fun j v h=> by rw[hW1,World.cell?_alloc_past (w:=w.drew) _ vb j hvw];exact h
 have hcpA:∀(W:World),(∀x,W.cell? x=W1.cell? x)→(∀x,W.frozen? x=W1.frozen? x)→∀ty dc,(Builtin.copy_ #[40,40] ty #[.slice (some ⟨w.heap.size,i * 42,none⟩) (n+1 - i) dc,.slice (some ⟨vb,voff,none⟩) 1 vc]).run Tryz.prog W= .ok (goInt 1) (W.setCells w.heap.size (i * 42) vs):=fun W hWc hWf ty dc=>
   run_copy_cellsZ W _ _ ty 32 w.heap.size (i * 42) (n+1 - i) dc ⟨vb,voff,none⟩ 1 vc vs 42 1 Tryz.underlying40 cJ (by simp only[Nat.min_def];split <;> omega) (by rw[FC])
     (fun j v hj=> by rw[Addr.add_lit,hWc];exact hOv _ v (r9 j v hj))
     (fun j hj=> by rw[hWc];exact hN _ (by omega)) (fun j hj=> by rw[hWf];exact hNf _) h1v
 have hGn:n+1≤G:=by rw[hG];exact grownCap_ge w _ _ _
 have hG63:G≤9223372036854775807:=by
   have:=grownCap_le_maxLen w (n+1) c 32 (by unfold maxLen;omega)
   rw[←hG] at this
   unfold maxLen at this
   omega
 have hGi:¬(G=i):=by omega
 have hGim:¬(G=i+1):=by omega
 have hci:¬(c=i):=by omega
 have hbN:b≠w.heap.size:=by omega
 have tY:(cs.drop (i * 42)).length=(n - i)* 42:=by rw[List.length_drop,nw,Nat.sub_mul]
 have hcpB:∀(W:World),(∀x,W.cell? x=(W1.setCells w.heap.size (i * 42) vs).cell? x)→(∀x,W.frozen? x=(W1.setCells w.heap.size (i * 42) vs).frozen? x)→∀ty dc sc,(Builtin.copy_ #[40,40] ty #[.slice (some ⟨w.heap.size,(i+1)* 42,none⟩) (n - i) dc,.slice (some ⟨b,i * 42,none⟩) (n - i) sc]).run Tryz.prog W= .ok (goInt ((n - i:Nat):Int)) (W.setCells w.heap.size ((i+1)* 42) (cs.drop (i * 42))):=fun W hWc hWf ty dc sc=>
   run_copy_cellsZ W _ _ ty 32 w.heap.size ((i+1)* 42) (n - i) dc ⟨b,i * 42,none⟩ (n - i) sc (cs.drop (i * 42)) 42 (n - i) Tryz.underlying40 cJ (by simp only[Nat.min_def];split <;> omega) tY
     (fun j v hj=> by
       rw[Addr.add_lit,hWc,World.cell?_setCells_out _ _ _ _ _ (fun h _=> absurd h hbN)]
       exact hOb _ v (xN (i * 42+j) v (by rwa [List.getElem?_drop] at hj)))
     (fun j hj=> by rw[hWc];exact isSome_setCells _ _ _ _ (fun t ht=> hN _ (by omega)) _ (hN _ (by omega)))
     (fun j hj=> by rw[hWf,World.frozen?_setCells];exact hNf _) (fun v hv=> h1c v (List.mem_of_mem_drop hv))
 subst hW1
 have hE1:∀x,((w.alloc (.cells ROW 32)).drew).cell? x=(w.drew.alloc (.cells ROW 32)).cell? x:=fun x=> rfl
 have hE2:∀x,((w.alloc (.cells ROW 32)).drew).frozen? x=(w.drew.alloc (.cells ROW 32)).frozen? x:=fun x=> rfl
 have hF1:∀x,(((w.alloc (.cells ROW 32)).drew.setCells w.heap.size (i * 42) vs).drew).cell? x=((w.drew.alloc (.cells ROW 32)).setCells w.heap.size (i * 42) vs).cell? x:=fun x=> rfl
 have hF2:∀x,(((w.alloc (.cells ROW 32)).drew.setCells w.heap.size (i * 42) vs).drew).frozen? x=((w.drew.alloc (.cells ROW 32)).setCells w.heap.size (i * 42) vs).frozen? x:=fun x=> rfl
 have lV:IntKind.i64.wrap ((i:Int)+1)=(i:Int)+1:=by rw[IntKind.wrap_i64];omega
 have lW:(0:Int)≤(i:Int)+1:=by omega
 have FE:i≤n:=by omega
 have htn:((i:Int)+1).toNat=i+1:=by omega
 have hb3:(i:Int)≤(n:Int):=by omega
 clear BQ hik hold hROW hG hRl
 go_enter Tryz.func97,Tryz.ntmps97
 go_wp2_with (first
   | (at_builtin;refine Lib.wpList_append_run _ rfl _ _ _ _ rfl _ _ rfl rfl _ _ (hrz _) ?_)
   | (at_builtin;refine wpList_copy_runI _ rfl _ _ 40 40 rfl _ _ rfl rfl (hcpA _ hE1 hE2 _ _) ?_)
   | (at_builtin;refine wpList_copy_runI _ rfl _ _ 40 40 rfl _ _ rfl rfl (hcpB _ (fun _=> rfl) (fun _=> rfl) _ _ _) ?_))
 go_region_law_o (refine step_copy_runI rfl _ _ 40 40 rfl (.slice (some ⟨w.heap.size,(i+1)* 42,none⟩) (n - i) (G - (i+1))) (.slice (some ⟨b,i * 42,none⟩) (n - i) (c - i)) (by simp[Act.eval,Act.put]) (by simp[Act.eval,Act.put]) (hcpB _ hF1 hF2 3 (G - (i+1)) (c - i)) ?_)
 go_wp2
 go_ret
 exact ⟨rfl,rfl⟩
set_option maxHeartbeats 4000000 in
set_option maxRecDepth 100000 in
theorem ins_end (a:Option Addr) (n c vc:Nat) (ay:Addr) (w w':World) (u:Value) (hnc:n≤c) (nu:a=none→n=0)
 (bd:(Builtin.append_ #[40,40] 40 #[.slice a n c,.slice (some ay) 1 vc]).run Tryz.prog w= .ok u w'):
 Calls Tryz.prog 97 #[.slice a n c,.int .i64 n,.slice (some ay) 1 vc] w fun e w2=> e= .returned u∧w2=w':=by
 have mixed:Tryz.prog.follows .mixedOrders=true:=by kernel_rfl
 go_enter Tryz.func97,Tryz.ntmps97
 cases a with
 | none=>
   have h0:=nu rfl
   subst h0
   go_wp2_with (at_builtin;refine Lib.wpList_append_run _ rfl _ _ _ _ rfl _ _ rfl rfl _ _ bd ?_)
   go_ret
   exact ⟨rfl,rfl⟩
 | some a=>
   obtain ⟨ab,ao,asp⟩:=a
   go_wp2_with (at_builtin;refine Lib.wpList_append_run _ rfl _ _ _ _ rfl _ _ rfl rfl _ _ bd ?_)
   all_goals (go_ret;exact ⟨rfl,rfl⟩)
end Go.Proofs.YtannfageakbpmaaGreat
namespace Go.Proofs.YtannfageakbpmaaGreat
open Go Go.Vm Go.Proofs Go.Cl
set_option maxRecDepth 100000
theorem csz_V :(ak Tryz.prog).az (some 31)=42:=by kernel_rfl
theorem tag_V :aC Tryz.prog 32=some 31:=by kernel_rfl
theorem TG_V :TG Tryz.prog (ak Tryz.prog) 32 (some 31):=by
 have:=cC (P:=Tryz.prog) (t:=32) (by kernel_rfl)
 rw[tag_V] at this;exact this
theorem shape_of_heap {w:World} {b:Nat} {us:Array Value} {ty:TypeId} {fz:Nat×Nat} (hg:w.heap[b]? =some (.cells us ty fz)):w.shape? b=some (ty,us.size):=by
 simp only[World.shape?,hg]
theorem unfz_of_heap {w:World} {b j:Nat} {us:Array Value} {ty:TypeId} (hg:w.heap[b]? =some (.cells us ty (0,0))):w.frozen? ⟨b,j,none⟩=false:=by
 simp only[World.frozen?,hg];simp
theorem take_lay2 {row a v d:List Value} {o p q:Nat} (h1:o+v.length=p) (h2:p+d.length=q) (hl:q≤row.length) (ha:row.take o=a):(lay (lay row o v) p d).take q=a++v++d:=by
 have h3:(lay row o v).length=row.length:=dW _ _ _ (by omega)
 rw[gJ (by omega) h2,gJ (by omega) h1,ha]
theorem insert_mid (hL:(ak Tryz.prog).OK) {c:Ctx} {w:World} {h:Hp} (hs:bf (ak Tryz.prog) c h w) {id idy n i:Nat} {es:List V} {e:V} {ux uy:Value}
 (hx:RV (ak Tryz.prog) c (.ref id [] (some 31) 0 n n) ux) (hy:RV (ak Tryz.prog) c (.ref idy [] (some 31) 0 1 1) uy) (hrx:rowOf h id n=some (some 31,es)) (hry:rowOf h idy 1=some (some 31,[e]))
 (cE:id≠idy) (hi:i < n) (vO:(n+1)* Tryz.prog.bytesOf 32≤140737488355328):
 eR Tryz.prog (ak Tryz.prog) c w 97 [ux,.int .i64 i,uy] (.ref id [] (some 31) 0 (n+1) (n+1)) (h.set id (.cells (some 31) (es.take i++[e]++es.drop i))):=by
 have FJ:=csz_V
 obtain ⟨l,hl,cD,bZ,hz,lW,xA,hb3,cO,us0,ty0,fz0,hg,cJ,df,fp⟩:=hs.row hrx
 obtain ⟨ly,hly,VP,YX,hzy,Ze,Zf,Yo,Lq,usy,tyy,fzy,hgy,Yp,Yq,DL⟩:=hs.row hry
 have nG:=(q16z hrx).2
 obtain ⟨_,k,rfl,lT,hm⟩:=dI hx hl cD (path:=[]) (o:=0) (e:=l.tag) (m:=none) rfl
 obtain ⟨_,ky,rfl,Zg,hmy⟩:=dI hy hly VP (path:=[]) (o:=0) (e:=ly.tag) (m:=none) rfl
 simp only[eM,Nat.zero_add,Nat.zero_mul] at hm hmy ⊢
 obtain ⟨qz,qx,Hy⟩:=hm
 have hU:=df
 have tL:=hz
 have hszU:=cJ
 have Yr:=df.2 rfl
 have VQ:=Yq.2 rfl
 subst Yr VQ
 rw[FJ] at cJ Yp fp DL
 simp only[List.length_cons,List.length_nil,Nat.zero_add,Nat.one_mul] at DL Yo
 have Ys:ly.bu≠l.bu:=fun he=> cE (hs.inj id idy l ly hl hly he.symm)
 have uI:∀y∈es,y.ty=some 31:=fun y hy=>(cO y hy).1
 have Aw:=q8z hL fp uI
 have vP:=q8z hL DL (fun y hy=>(Lq y hy).1)
 rw[FJ] at Aw vP
 simp only[List.length_cons,List.length_nil,Nat.zero_add,Nat.one_mul] at vP
 rw[nG] at Aw fp
 have h1c:∀q∈us0.toList.take (n * 42),q.oneCell'=true:=dr (fun v _=> dR v) (fun v hv=>(cO v hv).2) _ fp
 have h1v:∀q∈usy.toList.take 42,q.oneCell'=true:=dr (fun v _=> dR v) (fun v hv=>(Lq v hv).2) _ DL
 have xN:∀j v,(us0.toList.take (n * 42))[j]? =some v→w.cell? ⟨l.bu,j,none⟩=some v:=fun j v hj=> by
   rw[List.getElem?_take] at hj
   split at hj
   ·rw[q15z hg];simpa using hj
   ·cases hj
 have r9:∀j v,(usy.toList.take 42)[j]? =some v→w.cell? ⟨ly.bu,0+j,none⟩=some v:=fun j v hj=> by
   rw[List.getElem?_take] at hj
   split at hj
   ·rw[q15z hgy,Nat.zero_add];simpa using hj
   ·cases hj
 obtain ⟨i0,vD,hi0s⟩:=TG_V.info
 rw[FJ] at hi0s
 have m0:Tryz.prog.bytesOf 32=i0.bytes:=by simp[Program.bytesOf,vD]
 rw[m0] at vO
 have VR:0 < i0.bytes:=by rw[←m0];exact of_decide_eq_true (by kernel_rfl)
 have hnb:n+1≤140737488355328:=Nat.le_trans (Nat.le_mul_of_pos_right _ VR) vO
 have cK:bV (ak Tryz.prog) c (es.take i++[e]++es.drop i) ((us0.toList.take (n * 42)).take (i * 42)++usy.toList.take 42++(us0.toList.take (n * 42)).drop (i * 42)):=by
   have a:=eN hL fp uI i (by omega)
   rw[FJ] at a
   exact dX.2 ⟨_,_,rfl,dX.2 ⟨_,_,rfl,a.1,DL⟩,a.2⟩
 have jM:∀q∈es.take i++[e]++es.drop i,q.ty=some 31∧q.ax=true:=fun q hq=> by
   rcases List.mem_append.1 hq with hq | hq
   ·rcases List.mem_append.1 hq with hq | hq
    ·exact cO q (List.mem_of_mem_take hq)
    ·exact Lq q hq
   ·exact cO q (List.mem_of_mem_drop hq)
 have xO:(es.take i++[e]++es.drop i).length=n+1:=by simp;omega
 by_cases fL:n+1≤k
 ·-- room
  have fM:(n+1)* 42≤us0.size:=by rw[cJ];exact Nat.mul_le_mul_right 42 (by omega)
  have tY:((us0.toList.take (n * 42)).drop (i * 42)).length=(n - i)* 42:=by rw[List.length_drop,Aw,Nat.sub_mul]
  have hU':Im (some 31) us0.size (0,0):=hU
  refine Calls.mono (ins_shift l.bu n k i ly.bu 0 ky (us0.toList.take (n * 42)) (usy.toList.take 42) w hi fL (by omega) Ys Aw vP xN
    (fun j hj=> by rw[q15z hg,Array.getElem?_eq_getElem (by omega)];rfl) (fun j hj=> unfz_of_heap hg) r9 h1c h1v tyy ty0 usy.size us0.size (shape_of_heap hgy) (shape_of_heap hg) (by omega) (unfz_of_heap hgy) (unfz_of_heap hgy)) ?_
  rintro en w' ⟨rfl,rfl⟩
  have e1l:(es.take (i+1)++es.drop i).length=n+1:=by simp;omega
  have r1:bV (ak Tryz.prog) c (es.take (i+1)++es.drop i) ((lay us0.toList ((i+1)* 42) ((us0.toList.take (n * 42)).drop (i * 42))).take ((n+1)* 42)):=by
    rw[gJ (by rw[tY];simp;omega) (by rw[tY];omega)]
    have a:=(eN hL fp uI (i+1) (by omega)).1
    have b:=(eN hL fp uI i (by omega)).2
    rw[FJ] at a b
    rw[List.take_take,Nat.min_eq_left (by omega)] at a
    exact dX.2 ⟨_,_,rfl,a,b⟩
  have VS:∀q∈es.take (i+1)++es.drop i,q.ty=some 31∧q.ax=true:=fun q hq=> by
    rcases List.mem_append.1 hq with hq | hq
    ·exact cO q (List.mem_of_mem_take hq)
    ·exact cO q (List.mem_of_mem_drop hq)
  obtain ⟨l1,tX,tG,KL,Nn⟩:=iL hL hs.drew hl bZ hz (w:=w.drew) hg hU' (by rw[FJ];exact hszU) (es':=es.take (i+1)++es.drop i) VS (by omega) (by omega) (o:=(i+1)* 42) (vs:=(us0.toList.take (n * 42)).drop (i * 42)) (by rw[tY];omega) (by rw[e1l,FJ];exact r1)
  have bW:id < h.length:=(List.getElem?_eq_some_iff.1 (q16z hrx).1).1
  have VT:rowOf (h.set id (.cells (some 31) (es.take (i+1)++es.drop i))) id (n+1)=some (some 31,es.take (i+1)++es.drop i):=by
    simp[rowOf,bW,e1l]
  obtain ⟨l2,By,No,Cc,hz2,Zh,Zi,Zj,Zk,us1,ty1,fz1,cI,VU,hU1,Yt⟩:=tG.row VT
  rw[Nn] at By
  cases By
  have xP:l1.bu=l.bu:=by rw[tX]
  have Np:l1.cap=l.cap:=by rw[tX]
  rw[xP] at hz2 cI
  have iw:=mE hL Yt (DL.mono KL) (fun q hq=>(VS q hq).1) (fun q hq=>(Lq q hq).1) (n:=i) (by rw[e1l];simp;omega)
  have ee:(es.take (i+1)++es.drop i).take i++[e]++(es.take (i+1)++es.drop i).drop (i+[e].length)=es.take i++[e]++es.drop i:=by
    have h1:(es.take (i+1)).length=i+1:=by simp;omega
    rw[List.take_append_of_le_length (by omega),List.take_take,Nat.min_eq_left (by omega),List.length_singleton,List.drop_append,h1,Nat.sub_self,List.drop_of_length_le (by omega),List.drop_zero,List.nil_append]
  have VV:us1.size=us0.size:=by rw[VU,Np,FJ,cJ]
  rw[ee,FJ,e1l,←mF _ _ _ _ (by rw[vP];omega) (by simp;omega)] at iw
  obtain ⟨l3,wL,hs3,Yu,VW⟩:=iL hL tG Nn Cc (by rw[xP];exact hz2) (by rw[xP];exact cI) hU1 (by rw[VU]) (es':=es.take i++[e]++es.drop i) jM (by omega) (by omega) (o:=i * 42) (vs:=usy.toList.take 42) (by rw[vP,VV];omega) (by rw[xO,FJ];exact iw)
  rw[xP,List.set_set] at hs3
  have iP:=mG hs3 (id:=id) (aw:=n+1) (off:=0) (len:=n+1) (k:=k) (path:=[]) (m:=none) (o:=0) (e:=l3.tag) VW (by rw[wL];exact xO) rfl fL (by rw[wL];simp only[eM,Np];omega)
  have VX:l3.bu=l.bu:=by rw[wL];exact xP
  have VY:l3.tag=some 31:=by rw[wL];exact Cc
  rw[VX,VY] at iP
  simp only[Nat.zero_add,Nat.zero_mul] at iP
  exact ⟨_,_,rfl,iP,hs3,KL.trans Yu,(St.drew w).trans ((St.setCells _ _ _ _).trans (St.setCells _ _ _ _))⟩
 ·-- no room
  have hz:((Tryz.prog.info? 32).bind fun i=> i.zero).map (fun z=> z.cells.size)=some 42:=by kernel_rfl
  rw[vD] at hz
  obtain ⟨z,ri,hzc⟩:=Option.map_eq_some_iff.1 hz
  refine Calls.mono (ins_grow l.bu n k i ly.bu 0 ky (us0.toList.take (n * 42)) (usy.toList.take 42) w i0 z vD ri hi0s hzc VR hi (by omega) (by omega) vO Aw vP xN r9 h1c h1v) ?_
  rintro en w' ⟨rfl,rfl⟩
  have hGn:n+1≤grownCap w (n+1) k 32:=grownCap_ge w _ _ _
  obtain ⟨G,hG⟩:∃G,G=grownCap w (n+1) k 32:=⟨_,rfl⟩
  rw[←hG] at hGn ⊢
  obtain ⟨ROW,hROW⟩:∃ROW:Array Value,ROW=((us0.toList.take (n * 42)).take (i * 42)).toArray++Builtin.zeroCells z.cells (n+1 - i)++Builtin.zeroCells z.cells (G - (n+1)):=⟨_,rfl⟩
  rw[←hROW]
  have tE:((us0.toList.take (n * 42)).take (i * 42)).length=i * 42:=by rw[List.length_take,Aw];omega
  have tY:((us0.toList.take (n * 42)).drop (i * 42)).length=(n - i)* 42:=by rw[List.length_drop,Aw,Nat.sub_mul]
  have hRs:ROW.size=G * 42:=by
    rw[hROW,Array.size_append,Array.size_append,List.size_toArray,tE,size_zeroCells,size_zeroCells,hzc];omega
  have hRt:ROW.toList.take (i * 42)=(us0.toList.take (n * 42)).take (i * 42):=by
    rw[hROW,Array.toList_append,Array.toList_append,List.append_assoc,List.toList_toArray]
    exact List.take_left' tE
  have nH:(n+1)* 42≤ROW.size:=by rw[hRs];exact Nat.mul_le_mul_right 42 hGn
  have dv:∃l':Vm.Loc,l'=⟨w.heap.size,G,some 31,n+1⟩:=⟨_,rfl⟩
  obtain ⟨l',dv⟩:=dv
  have hle:c.le (c.move id l'):=Ctx.vQ c id l l' hl (by rw[dv,bZ]) (by rw[dv,cD];simp) (fun he=> by rw[dv,cD] at he;simp at he)
  have g1:((w.alloc (.cells ROW 32)).drew).heap[w.heap.size]? =some (.cells ROW 32 (0,0)):=iV (w:=w)
  have g2:=dx w.heap.size 32 (0,0) (usy.toList.take 42) (i * 42) ROW _ g1 (by rw[vP];omega)
  have od:(lay ROW.toList (i * 42) (usy.toList.take 42)).length=ROW.size:=by rw[dW _ _ _ (by rw[vP];simp;omega)];simp
  have g3:=dx w.heap.size 32 (0,0) ((us0.toList.take (n * 42)).drop (i * 42)) ((i+1)* 42) _ (((w.alloc (.cells ROW 32)).drew.setCells w.heap.size (i * 42) (usy.toList.take 42)).drew) g2 (by rw[tY,List.size_toArray,od];omega)
  have dh:bf (ak Tryz.prog) (c.move id l') (h.set id (.cells (some 31) (es.take i++[e]++es.drop i))) ((((w.alloc (.cells ROW 32)).drew.setCells w.heap.size (i * 42) (usy.toList.take 42)).drew).setCells w.heap.size ((i+1)* 42) ((us0.toList.take (n * 42)).drop (i * 42))):=by
    refine hs.move hl _ hle (by rw[dv];exact hs.qI) (Or.inr (by rw[dv];exact Nat.le_refl _)) (fun b hb tI=> ?_) (fun o' jN=> by rw[tL] at jN;cases jN) ?_
    ·rw[q13z _ _ _ _ _ (by omega)]
     show ((w.alloc (.cells ROW 32)).drew.setCells w.heap.size (i * 42) (usy.toList.take 42)).heap[b]? =_
     rw[q13z _ _ _ _ _ (by omega)]
     exact gU (w:=w) hb
    ·refine ⟨by rw[dv],by rw[dv,xO],by rw[dv,xO];exact hGn,jM,_,32,(0,0),by rw[dv];exact g3,?_,⟨by intro j hj;omega,fun _=> rfl⟩,?_⟩
     ·rw[List.size_toArray,dW _ _ _ (by rw[tY];simp only[List.toList_toArray,od];omega),List.toList_toArray,od,hRs,dv,FJ]
     ·rw[xO,FJ,List.toList_toArray,List.toList_toArray,take_lay2 (by rw[vP];omega) (by rw[tY];omega) (by simp;omega) hRt]
      exact cK.mono hle
  have vR:(c.move id l').loc id=some l':=by simp[Ctx.move]
  have iP:=mG dh (id:=id) (aw:=n+1) (off:=0) (len:=n+1) (k:=G) (path:=[]) (m:=none) (o:=0) (e:=l'.tag) vR (by rw[dv]) rfl hGn (by rw[dv];simp only[eM];omega)
  have VZ:l'.bu=w.heap.size:=by rw[dv]
  have xQ:l'.tag=some 31:=by rw[dv]
  rw[VZ,xQ] at iP
  simp only[Nat.zero_add,Nat.zero_mul] at iP
  exact ⟨_,_,rfl,iP,dh,hle,(St.alloc _ _).trans ((St.drew _).trans ((St.setCells _ _ _ _).trans ((St.drew _).trans (St.setCells _ _ _ _))))⟩
theorem insert_app (hL:(ak Tryz.prog).OK) {c:Ctx} {w:World} {h:Hp} (hs:bf (ak Tryz.prog) c h w) {x:V} {idy:Nat} {ux uy:Value} {n:Nat} {v:V} {h':Hp}
 (hx:RV (ak Tryz.prog) c x ux) (hy:RV (ak Tryz.prog) c (.ref idy [] (some 31) 0 1 1) uy) (hux:∃a k,ux= .slice a n k∧n≤k∧(a=none→n=0)) (ah:nI 0 h (some 31) (Tryz.prog.bytesOf 32) x (.ref idy [] (some 31) 0 1 1)=some (v,h')):
 eR Tryz.prog (ak Tryz.prog) c w 97 [ux,.int .i64 n,uy] v h':=by
 obtain ⟨a,k,rfl,hnk,nu⟩:=hux
 obtain ⟨ay,ky,rfl,_⟩:=n9.1 hy
 obtain ⟨ri,iW,gZ⟩:=cP (P:=Tryz.prog) (obj:=ob) (t:=32) (z:= .st 31 [.arr 27 [.s (.int .u8 0),.s (.int .u8 0),.s (.int .u8 0),.s (.int .u8 0)],.s (.int .u64 0),.arr 25 [.s (.int .u8 0),.s (.int .u8 0),.s (.int .u8 0),.s (.int .u8 0),.s (.int .u8 0),.s (.int .u8 0),.s (.int .u8 0),.s (.int .u8 0),.s (.int .u8 0),.s (.int .u8 0),.s (.int .u8 0),.s (.int .u8 0),.s (.int .u8 0),.s (.int .u8 0),.s (.int .u8 0),.s (.int .u8 0)],.al false none [],.s (.int .i64 0),.s (.int .i64 0),.arr 25 [.s (.int .u8 0),.s (.int .u8 0),.s (.int .u8 0),.s (.int .u8 0),.s (.int .u8 0),.s (.int .u8 0),.s (.int .u8 0),.s (.int .u8 0),.s (.int .u8 0),.s (.int .u8 0),.s (.int .u8 0),.s (.int .u8 0),.s (.int .u8 0),.s (.int .u8 0),.s (.int .u8 0),.s (.int .u8 0)],.s (.bool false),.s (.bool false)]) (by kernel_rfl)
 obtain ⟨i,hi,_⟩:=TG_V.info
 have hb:Tryz.prog.bytesOf 32=i.bytes:=by simp[Program.bytesOf,hi]
 have gu:0 < i.bytes:=by rw[←hb];exact of_decide_eq_true (by kernel_rfl)
 rw[hb] at ah
 rw[tag_V] at iW
 obtain ⟨u,c',w',bd,h1,h2,h3,h4⟩:=Ax (P:=Tryz.prog) hL hs (T2:=40) (ty:=40) Tryz.underlying40 TG_V hi ri iW gZ (Or.inl ⟨_,Tryz.underlying40⟩) gu hx hy ah
 refine Calls.mono (ins_end a n k ky ay w w' u hnk nu bd) ?_
 rintro e w2 ⟨rfl,rfl⟩
 exact ⟨u,c',rfl,h1,h2,h3,h4⟩
theorem insert_calls (hL:(ak Tryz.prog).OK) {c:Ctx} {w:World} {vs:List V} {us:List Value} {h:Hp} {v:V} {h':Hp} (hc:eQ (some 31) (Tryz.prog.bytesOf 32) vs h=some (v,h')) (hv:fC (ak Tryz.prog) c vs us) (hs:bf (ak Tryz.prog) c h w):eR Tryz.prog (ak Tryz.prog) c w 97 us v h':=by
 unfold eQ at hc
 split at hc
 case h_2=> cases hc
 rename_i _ x i idy gy
 match us,hv with
 | [ux,ui,uy],hv=>
 obtain ⟨hx,hi,hy,_⟩:=hv
 obtain ⟨rfl,_⟩:=bx.1 hi
 split at hc
 case h_2=> cases hc
 rename_i gy' e hry
 split at hc
 case isFalse=> cases hc
 rename_i hcc
 obtain ⟨rfl,rfl,vy⟩:=hcc
 have kY:source h (.ref idy [] (some 31) 0 1 1)=some (some 31,[e]):=by simp[source,elems,Vm.rowAt,hry]
 split at hc
 ·rename_i gx
  split at hc
  case isFalse=> cases hc
  rename_i hcc
  obtain ⟨rfl,rfl⟩:=hcc
  cases hc
  obtain ⟨a,k,rfl,h1,h2,h3,h4⟩:=cV.1 hx
  refine insert_app (n:=0) hL hs hx hy ⟨a,k,rfl,by simp,fun _=> rfl⟩ ?_
  have hb:Tryz.prog.bytesOf 32≤140737488355328:=of_decide_eq_true (by kernel_rfl)
  simp[nI,kY,cU,hb]
 ·rename_i id gx n m
  split at hc
  case h_2=> cases hc
  rename_i gx' es hrx
  split at hc
  case isFalse=> cases hc
  rename_i hcc
  obtain ⟨rfl,rfl,rfl,cE,h0i,FE,vO⟩:=hcc
  cases hc
  obtain ⟨j,rfl⟩:∃j:Nat,i=j:=⟨i.toNat,by omega⟩
  have bQ:=(q16z hrx).2
  simp only[Int.toNat_natCast]
  by_cases hj:j < n
  ·exact insert_mid hL hs hx hy hrx hry cE hj vO
  ·obtain rfl:j=n:=by omega
   obtain ⟨a,k,rfl,_,hk,_⟩:=n9.1 hx
   refine insert_app (n:=j) hL hs hx hy ⟨some a,k,rfl,hk,fun h=> by cases h⟩ ?_
   have hm:bP 0 id e=true:=by simp[bP]
   have t1:es.take j=es:=List.take_of_length_le (by omega)
   have t2:es.drop j=[]:=List.drop_of_length_le (by omega)
   simp[nI,kY,cU,hrx,hm,vO,t1,t2]
 ·cases hc
theorem load_sound (hL:(ak Tryz.prog).OK) {c:Ctx} {w:World} {h:Hp} (hs:bf (ak Tryz.prog) c h w) {x:V} {ux:Value} (hx:RV (ak Tryz.prog) c x ux) {g:Option Nat} {es:List V} {l:List UInt8} (he:elems h x=some (g,es)) (hl:Vm.bytesOf es=some l):
 (Extern.Bytes.bytesOf ux).run Tryz.prog w= .ok ⟨l.toArray⟩ w:=by
 obtain ⟨a,k,rfl,lT,bQ,fy⟩:=ph hL hs hx he
 rcases fy with rfl | ⟨b,o,us,ty,fz,rfl,hg,hr⟩
 ·simp only[Vm.bytesOf,Option.some.injEq] at hl
  subst hl
  cases a <;> simp[Extern.Bytes.bytesOf,Extern.Bytes.loadBytes]<;> rfl
 ·obtain ⟨ns,hns,lX,rfl⟩:=jO es l _ hl hr
  have xR:=nd hL hg hr (fun q hq=>(bQ q hq).1)
  rw[hns] at xR
  have bd:=Lib.run_loadBytesX (P:=Tryz.prog) (w:=w) ns ⟨b,o,none⟩ .empty (fun j x hj=> xR j (.int .u8 x) (by simp[hj]))
  rw[lX] at bd
  simp only[Extern.Bytes.bytesOf,bd]
  congr 2
  simp[Lib.bytesOf,ByteArray.empty,ByteArray.emptyWithCapacity]
  rfl
theorem cmp_calls (hL:(ak Tryz.prog).OK) {c:Ctx} {w:World} {vs:List V} {us:List Value} {h:Hp} {v:V} {h':Hp} (hc:wX vs h=some (v,h')) (hv:fC (ak Tryz.prog) c vs us) (hs:bf (ak Tryz.prog) c h w):eR Tryz.prog (ak Tryz.prog) c w 98 us v h':=by
 unfold wX at hc
 split at hc
 case h_2=> cases hc
 match us,hv with
 | [ux,uy],hv=>
 obtain ⟨hx,hy,_⟩:=hv
 split at hc
 case h_2=> cases hc
 rename_i ga a gb b' hea heb
 split at hc
 case h_2=> cases hc
 rename_i l m hla hlb
 cases hc
 have h1:=load_sound hL hs hx hea hla
 have h2:=load_sound hL hs hy heb hlb
 have iy:(callFunc 115 #[ux,uy]).run Tryz.prog w= .ok (.value (.int .i64 (Lib.compareBytes l m))) w:=by
   rw[run_callFunc_extern Tryz.func115 (by kernel_rfl) (by kernel_rfl) (by kernel_rfl) (e:=Extern.BytealgCompare.compare) (by kernel_rfl)]
   have:(Extern.BytealgCompare.compare #[ux,uy]).run Tryz.prog w= .ok (.int .i64 (Lib.compareBytes l m)) w:=by
     change Sem.run Tryz.prog (do pure (goInt (Extern.BytealgCompare.cmp (←Extern.Bytes.bytesOf ux) (←Extern.Bytes.bytesOf uy)))) w=_
     simp only[Sem.run_bind,Sem.run_pure,h1,h2,Result.andThen]
     rw[Lib.cmp_eq]
     rfl
   rw[this];rfl
 refine Calls.mono (R:=fun e w'=> e= .returned (.int .i64 (Lib.compareBytes l m))∧w'=w) ?_ ?_
 ·go_enter Tryz.func98,Tryz.ntmps98
  go_wp2_with (simp only[iy])
  go_ret
  exact ⟨rfl,rfl⟩
 ·rintro e w' ⟨rfl,rfl⟩
  exact ⟨_,c,rfl,bx.2 ⟨rfl,rfl⟩,hs,Ctx.le_refl _,St.refl _⟩
theorem pr_ok :cA Tryz.prog (ak Tryz.prog) pr:=by
 intro f vs h v h' hr
 unfold pr at hr
 split at hr
 ·obtain ⟨x,rfl⟩:=oR hr
  refine ⟨⟨_,Tryz.func91,rfl,by kernel_rfl⟩,fun c w us hv hs=> ?_⟩
  match us,hv with
  | [u],hv=> exact qv nX hr hv.1 hs
 ·refine ⟨⟨_,Tryz.func98,rfl,by kernel_rfl⟩,fun c w us hv hs=> cmp_calls nX hr hv hs⟩
 ·refine ⟨⟨_,Tryz.func97,rfl,by kernel_rfl⟩,fun c w us hv hs=> ?_⟩
  have hb:Tryz.prog.bytesOf 32=96:=by kernel_rfl
  rw[←hb] at hr
  exact insert_calls nX hr hv hs
 ·exact ⟨⟨_,Tryz.func60,rfl,by kernel_rfl⟩,fun c w us hv hs=> CV hr hv hs⟩
 ·cases hr
theorem pr_kp :KpP pr:=by
 intro f vs h v h' hr base
 unfold pr at hr
 split at hr
 ·exact tV hr base
 ·have:=DN hr;subst this;exact Kp.refl _ _
 ·exact Ay hr base
 ·have:=CQ hr;subst this;exact Kp.refl _ _
 ·cases hr
end Go.Proofs.YtannfageakbpmaaGreat
