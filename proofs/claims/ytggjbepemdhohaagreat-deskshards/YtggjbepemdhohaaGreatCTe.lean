/- Texts for DeskShards, part 5. Conditions: none. -/
import Derived.Test.YtggjbepemdhohaaGreatCTd
import Derived.Test.YtggjbepemdhohaaGreatProg
import Derived.Shelf.Spec.SlicesInsertGrow
import Derived.Lib.BytesEntry
import Derived.Lib.Bytealg
import Derived.Laws.Externs
import Derived.ProofKit
set_option linter.unusedSimpArgs false
set_option linter.unusedVariables false
set_option linter.unusedSectionVars false
namespace Go.Proofs.YtggjbepemdhohaaGreat
open Go Go.Vm Go.Proofs Go.Cl
set_option maxRecDepth 100000
def RT (n:Int):Bs:=[bt (within n 0 255),7,0,0]
theorem JM (x:Int) (t:Nat):V.arr t [aa (bt (within x 0 255)),.s (.int .u8 7),.s (.int .u8 0),.s (.int .u8 0)]= .arr t ((RT x).map aa):=rfl
theorem Yg (b:Nat) (h:Hp) (n:Int) (h0: -9223372036854775808≤n) (h1:n≤9223372036854775807):run fns pr b 6 [.s (.int .i64 n)] h=some (.arr 28 ((RT n).map aa),h):=by
 refine Vm.aR (nt:=7) rfl aal (by simp) ?_
 have hw:=fun h'=> Ei h.length h' n 0 255 (by omega) (by omega) (by omega) h0 h1
 have au:(0:Nat)=0:=rfl
 try simp only[B6,hw,j4,JM,go_sem,simprocAttr]
 repeat' (
   first | refine q5z ?_ ?_ | refine q3z ?_ ?_ | refine q4z ?_ ?_
   all_goals intro ai
   all_goals first | replace ai:=q2z ai | replace ai:=q1z ai | skip
   all_goals first | subst ai | replace au:=And.intro ai au
   all_goals try simp only[au,B6,hw,j4,JM,go_sem,simprocAttr])
def qS (id:Bs):Request:=⟨1,id,bd,[115],2,bd,je 5,0,0⟩
def rS (id:Bs):av:=⟨0,id,1,2,[],0,0⟩
def vS (id:Bs):ae:=⟨id,1,bd,[115],2,0,bd,false,false⟩
def AG (w:Int) (id:Bs):av:=⟨w,id,0,0,[],0,0⟩
def gY (s t:Int):aB:=⟨2,s,t,2,zeroV,[]⟩
theorem JN (id:Bs):aQ (vS id)=true:=rfl
theorem Yh {id:Bs} (h:id.length=4):(vS id).wf:=⟨h,by simp[vS],rfl,by simp[vS],by simp[vS],by simp[vS],rfl,trivial,trivial⟩
theorem Yi {id:Bs} (h:id.length=4):(qS id).wf:=⟨by simp[qS],h,rfl,by simp[qS],by simp[qS],rfl,rfl,by simp[qS],by simp[qS]⟩
theorem tU (id:Bs):dg (qS id)=true:=rfl
theorem O7 {id:Bs} (h:id.length=4):(rS id).wf∧bQ (rS id)=true:=⟨⟨by simp[rS],h,by simp[rS],by simp[rS],by simp[rS],by simp[rS],by simp[rS]⟩,rfl⟩
theorem xI {w:Int} {id:Bs} (h:id.length=4) (h1:0≤w∧w≤255):(AG w id).wf∧bQ (AG w id)=true:=by
 refine ⟨⟨by simp[AG];omega,h,by simp[AG],by simp[AG],by simp[AG],by simp[AG],by simp[AG]⟩,?_⟩
 show (rV 0 0 && decide (0≤w)&& decide (w≤255)&& decide ((0:Int)≤1099511627776)&& decide ((0:Int)≤0)&& decide ((0:Int)≤32)&& decide (0≤64))=true
 simp[rV];omega
theorem Yj (id:Bs):doG zeroV (qS id)=(vS id,rS id,true):=rfl
theorem BH {s:bD} {id:Bs} (h:(s.p (al id)).role=0):lP s (qS id)=(zeroV,AG 26 id,false):=by
 unfold lP
 rw[if_neg (by rw[tU];simp),if_pos (show (s.p (al (qS id).iD)).role=0 from h)];rfl
theorem BI {s:bD} {id:Bs} (h:(s.p (al id)).role=2):lP s (qS id)=(zeroV,AG 27 id,false):=by
 unfold lP
 have h':(s.p (al (qS id).iD)).role=2:=h
 rw[if_neg (by rw[tU];simp),if_neg (by omega),if_pos h'];rfl
theorem MY {s t:Int} (h1:0≤s∧s < 16) (h2:0≤t∧t < 8):(gY s t).wf:=⟨by simp[gY],by simp[gY];omega,by simp[gY];omega,by simp[gY],JB,by simp[gY]⟩
theorem ET {S:bD} {j:Nat} {t:Int} (hj:j < 16) (h1:(S.p j).role=1) (h2:(S.p j).aH=1) (h3:S.bF=2) (h4:0≤t∧t < 2) (h5:t≠S.mem):cD S (gY j t)=0:=by
 have hr:bj (gY j t)=true:=by
   unfold bj
   rw[if_neg (by simp[gY]),if_pos (show (gY j t).kind=2 from rfl)]
   show ((decide ((1:Int)≤2)&& decide ((2:Int)≤1099511627776)&& decide ((0:Int)≤j)&& decide ((j:Int)< 16)&& decide (zeroV=zeroV))&& decide (0≤t)&& decide (t < 8)&& decide (0=0))=true
   simp
   omega
 unfold cD
 rw[if_neg (by rw[hr];simp),if_neg (by simp[gY]),if_pos (show (gY j t).kind=2 from rfl)]
 unfold za
 have e1:(gY j t).dS=t:=rfl
 have e2:(gY j t).aC.toNat=j:=rfl
 have e3:(gY j t).aH=2:=rfl
 rw[e1,e2,e3,if_neg (by omega),if_neg (by omega),if_neg (by omega),if_pos (by omega)]
theorem EU {S:bD} {j:Nat} {t:Int} (hc:cD S (gY j t)=0):((bp S (gY j t)).2.p j).role=2∧(bp S (gY j t)).2.mem=S.mem:=by
 refine ⟨?_,(tT _ _).1⟩
 unfold bp
 rw[if_neg (by omega),if_neg (by simp[gY]),if_pos (show (gY j t).kind=2 from rfl)]
 have e2:(gY j t).aC.toNat=j:=rfl
 rw[e2]
 simp only[pM]
theorem zl (a:Int) (k:Bs) (j:Nat) (p:Nat) (hp:j % 2=p):((aY.new a 2 k).st.p j).role=if (p:Int)=a then 1 else 0:=by
 show (if (j:Int) % 2=a then (1:Int) else 0)=_
 rw[show (j:Int) % 2=(p:Int) by omega]
theorem u9 (b:Nat) (h:Hp) (n:Int) (MC:Bool) (yq: -9223372036854775808≤n) (hn1:n≤9223372036854775807):
 run fns pr b 3 [.s (.int .i64 n),.s (.bool MC)] h=some (.s (.bool true),h):=by
 refine Vm.aR (nt:=162) rfl aae (by simp) ?_
 have hid:=fun H=> Yg h.length H n yq hn1
 obtain ⟨I,hI,hIl⟩:∃I,RT n=I∧I.length=4:=⟨_,rfl,rfl⟩
 rw[hI] at hid
 have pv:=fun H=> yX h.length H I (by omega)
 have aaS:=eF I
 obtain ⟨p,hp,GY⟩:∃p,al I % 2=p∧p < 2:=⟨_,rfl,adZ _ (by decide)⟩
 have GZ:(je 3).map aa=[.s (.int .u8 3),.s (.int .u8 0),.s (.int .u8 0),.s (.int .u8 0),.s (.int .u8 0),.s (.int .u8 0),.s (.int .u8 0),.s (.int .u8 0),.s (.int .u8 0),.s (.int .u8 0),.s (.int .u8 0),.s (.int .u8 0),.s (.int .u8 0),.s (.int .u8 0),.s (.int .u8 0),.s (.int .u8 0)]:=rfl
 obtain ⟨K,hK⟩:∃K,aT.cells (some 22) [V.arr 22 ((je 3).map aa)]=K:=⟨_,rfl⟩
 have f0:Fw [] h (h++[K]):=Fw.app [] h _
 have l0:(h++[K]).length=h.length+1:=by simp
 obtain ⟨v1,H1,e1,i1,F1,rfl,d1,f1,n1⟩:=xC h.length (h++[K]) 0 2 (je 3) (by simp) rfl (by decide) (by decide) (by decide) (by decide)
 have l1:=f1.len
 have gk1:H1[h.length]? =some K:=f1.cw _ _ (aO _ _) (by simp)
 obtain ⟨v2,H2,e2,i2,F2,rfl,d2,f2,n2⟩:=xC h.length H1 1 2 (je 3) (by omega) rfl (by decide) (by decide) (by decide) (by decide)
 have l2:=f2.len
 have gk2:H2[h.length]? =some K:=f2.cw _ _ gk1 (by simp)
 have d1':=d1.mono f2 (by simp)
 have hi1:=HI.new (je 3) (a:=0) (b:=2) (by decide) (by decide) (by decide) (by decide)
 have qa:=HI.new (je 3) (a:=1) (b:=2) (by decide) (by decide) (by decide) (by decide)
 have r1:=zl 0 (je 3) (al I) p hp
 have r2:=zl 1 (je 3) (al I) p hp
 have lt1:=d1.lt
 have lt2:=d2.lt
 obtain ⟨io,ix,Do,Dx,Fo,Fx,z0,z1,dO,dX,dis,nO,nX,lO,lX,hIo,oi,of,oR,oV,oE,om,oms,hIx,xi,xf,xR,xm⟩:∃io ix Do Dx Fo Fx,(p=0→io=i1∧ix=i2)∧(p=1→io=i2∧ix=i1)∧my H2 io Do Fo∧my H2 ix Dx Fx∧(∀j∈Fx,j∉Fo)∧(∀j∈Fo,h.length < j)∧(∀j∈Fx,h.length < j)∧(∀j∈Fo,j < H2.length)∧(∀j∈Fx,j < H2.length)∧
     HI 0 Do∧Do.is=1∧Do.cU < 0∧(Do.st.p (al I)).role=1∧(Do.st.p (al I)).vs=[]∧(Do.st.p (al I)).aH=1∧Do.st.mem=(p:Int)∧Do.st.bF=2∧
     HI 0 Dx∧Dx.is=1∧Dx.cU < 0∧(Dx.st.p (al I)).role=0∧Dx.st.mem=1 - (p:Int):=by
   rcases (show p=0∨p=1 by omega) with rfl | rfl
   ·exact ⟨i1,i2,_,_,F1,F2,fun _=>⟨rfl,rfl⟩,fun h=> by omega,d1',d2,fun j h1 h2=> by have:=n2 j h1;have:=lt1 j h2;omega,fun j hj=> by have:=n1 j hj;omega,fun j hj=> by have:=n2 j hj;omega,fun j hj=> by have:=lt1 j hj;omega,lt2,hi1,rfl,by decide,by rw[r1];rfl,rfl,rfl,rfl,rfl,qa,rfl,by decide,by rw[r2];rfl,rfl⟩
   ·exact ⟨i2,i1,_,_,F2,F1,fun h=> by omega,fun _=>⟨rfl,rfl⟩,d2,d1',fun j h1 h2=> by have:=n2 j h2;have:=lt1 j h1;omega,fun j hj=> by have:=n2 j hj;omega,fun j hj=> by have:=n1 j hj;omega,lt2,fun j hj=> by have:=lt1 j hj;omega,qa,rfl,by decide,by rw[r2];rfl,rfl,rfl,rfl,rfl,hi1,rfl,by decide,by rw[r1];rfl,rfl⟩
 obtain ⟨B,hB⟩:∃B,cI (je 3) 1 (bt p) (lG (qS I))=B:=⟨_,rfl⟩
 obtain ⟨C,hC⟩:∃C,cI (je 3) 1 (bt (1 - (p:Int))) (lG (qS I))=C:=⟨_,rfl⟩
 have qw:=Yi hIl
 have qr:=tU I
 have hrl:=tS qw qr
 have rq:=fun H=> rj h.length H false (qS I) qw (by simp[qS])
 have cl:=fun H t=> vO h.length H (.aq false none ((lG (qS I)).map aa)) (je 3) (lG (qS I)) 1 t rfl (by decide) (cm _ _ _)
 unfold oT at cl
 simp only[if_pos (show (lG (qS I)).length≤8176 by omega)] at cl
 have clB:=fun H=> cl H (bt p)
 have clC:=fun H=> cl H (bt (1 - (p:Int)))
 simp only[hB] at clB
 simp only[hC] at clC
 have hopB:gk (je 3) (bt Do.st.mem) B=(qS I,0):=by rw[om,←hB];exact lQ (je 3) 1 _ _ (by decide) qw qr
 have hopC:gk (je 3) (bt Dx.st.mem) C=(qS I,0):=by rw[xm,←hC];exact lQ (je 3) 1 _ _ (by decide) qw qr
 obtain ⟨QB,hQB⟩:∃QB,aT.cells (some 33) [(qS I).enc]=QB:=⟨_,rfl⟩
 have hqf:∀q:Request,q.aI false=q.enc:=fun _=> rfl
 have nB:(qS I).enc= .st 33 [.s (.int .i64 1),.arr 28 (I.map aa),aK 22,.aq false none [.s (.int .u8 115)],.s (.int .i64 2),aK 22,.arr 22 [.s (.int .u8 5),.s (.int .u8 0),.s (.int .u8 0),.s (.int .u8 0),.s (.int .u8 0),.s (.int .u8 0),.s (.int .u8 0),.s (.int .u8 0),.s (.int .u8 0),.s (.int .u8 0),.s (.int .u8 0),.s (.int .u8 0),.s (.int .u8 0),.s (.int .u8 0),.s (.int .u8 0),.s (.int .u8 0)],.s (.int .i64 0),.s (.int .u64 0)]:=rfl
 simp only[hqf] at rq
 simp only[GZ,show ((1:Nat):Int)=1 from rfl] at clB clC
 rw[GZ] at hK e1 e2
 subst hK hQB
 have hkn:=fun H=> BG h.length H
 have ES:h.length≤H1.length:=by omega
 have JO:h.length≤H2.length:=by omega
 have Yk:h.length≤H2.length+1:=by omega
 simp only[nB] at rq
 have rr:=fun cf base H=> qY cf base H .i64 (al I:Nat) 2 (by decide)
 have RU:((al I:Nat):Int).tmod 2=(p:Int):=by rw[acY (by omega)];omega
 have gk2x:=fun X=> q10z gk2 X
 have w1:IntKind.i64.wrap (p:Int)=(p:Int):=wrap_i64 (by omega) (by omega)
 have w2:IntKind.i64.wrap (1 - (p:Int))=1 - (p:Int):=wrap_i64 (by omega) (by omega)
 simp only[B3,e1,gk1,e2,hid,pv,rr,RU,w1,ES,JO,Yk,gk2,gk2x,go_sem,simprocAttr]
 refine JL (fun e H=> e 0= .s (.int .i64 n)∧e 1= .s (.bool MC)∧e 5= .ptr h.length [0] 1∧e 10= .ptr (H2.length+1) [0] 1∧e 11= .s (.int .i64 (al I:Nat))∧e 12= .ptr io [0] 1∧e 13= .ptr ix [0] 1∧H=H2++[.dead,.cells (some 33) [(qS I).enc]]) ?_ ?_
 ·rintro e H ⟨x0,x1,x5,x10,x11,x12,x13,rfl⟩
  have qty:(qS I).enc.ty=some 33:=rfl
  have f3:Fw [] H2 (H2++[aT.dead,aT.cells (some 33) [(qS I).enc]]):=Fw.app _ _ _
  have gq3:(H2++[aT.dead,aT.cells (some 33) [(qS I).enc]])[H2.length+1]? =some (.cells (some 33) [(qS I).enc]):=by rw[aJ];rfl
  have fw3:Fw [] h (H2++[aT.dead,aT.cells (some 33) [(qS I).enc]]):=(((f0.trans f1).trans f2).trans f3)
  have dO3:=dO.mono f3 (by simp)
  have dX3:=dX.mono f3 (by simp)
  have gk3:=gk2x [aT.dead,aT.cells (some 33) [(qS I).enc]]
  have l3:(H2++[aT.dead,aT.cells (some 33) [(qS I).enc]]).length=H2.length+2:=by simp
  have nq:H2.length+1∉Fo∧H2.length+1∉Fx:=⟨fun hj=> by have:=lO _ hj;omega,fun hj=> by have:=lX _ hj;omega⟩
  have nk:h.length∉Fo∧h.length∉Fx:=⟨fun hj=> by have:=nO _ hj;omega,fun hj=> by have:=nX _ hj;omega⟩
  generalize H2++[aT.dead,aT.cells (some 33) [(qS I).enc]]=H3 at *
  rw[nB] at gq3
  have hae:∀(D:aY) (r:av) (c:Bool),(⟨cI (qS I).jJ (qS I).num.toNat (bt (128+(qS I).aM)) (dr r),(qS I).aM,true,c,⟨D.st.mem,qS I,r⟩⟩:Answer).enc= .st 49 [.aq false none ((cI (qS I).jJ (qS I).num.toNat (bt (128+(qS I).aM)) (dr r)).map aa),.s (.int .i64 0),.s (.bool true),.s (.bool c),.st 47 [.s (.int .i64 D.st.mem),(qS I).enc,r.enc]]:=fun _ _ _=> rfl
  have mV:∀w,(AG w I).enc= .st 45 [.s (.int .i64 w),.arr 28 (I.map aa),.s (.int .u64 0),.s (.int .i64 0),.aq false none [],.s (.int .i64 0),.s (.int .u64 0)]:=fun _=> rfl
  have hrs:(rS I).enc= .st 45 [.s (.int .i64 0),.arr 28 (I.map aa),.s (.int .u64 1),.s (.int .i64 2),.aq false none [],.s (.int .i64 0),.s (.int .u64 0)]:=rfl
  have oth:∀(H:Hp),H3.length≤H.length→my H ix Dx Fx→∃a H5,run fns pr h.length 11 [.ptr ix [0] 1,.arr 22 ((je 3).map aa),.aq false none (C.map aa)] H=some (a,H5)∧a= .bM [(⟨cI (qS I).jJ (qS I).num.toNat (bt (128+(qS I).aM)) (dr (AG 26 I)),(qS I).aM,true,false,⟨Dx.st.mem,qS I,AG 26 I⟩⟩:Answer).enc,.s (.int .i64 0)]∧Fw Fx H H5:=fun H hl hd=> by
    obtain ⟨a5,H5,q5,rfl,F5,d5,f5,n5⟩:=BB h.length H ix Dx Fx (.aq false none (C.map aa)) (je 3) C (qS I) zeroV (AG 26 I) false 0 (by omega) (fun j hj=> by have:=nX j hj;omega) hd hIx (by omega) xi xf (cm _ _ _) rfl hopC qw qr (BH xR) (xI hIl (by omega)).2 (xI hIl (by omega)).1 (by simp[qS]) (fun h=> by cases h)
    exact ⟨_,H5,q5,rfl,f5⟩
  cases MC with
  | false=>
    obtain ⟨a4,H4,D4,F4,q4,rfl,d4,f4,n4,_⟩:=Ds h.length H3 io Do Fo (.aq false none (B.map aa)) (je 3) B (qS I) none (vS I) (rS I) true 0 (by omega) (fun j hj=> by have:=nO j hj;omega) dO3 hIo (by omega) oi of (cm _ _ _) rfl hopB qw qr oR (by
        have e:(qS I).iD=I:=rfl
        rw[e,oV];exact tx _) (Yj I) (O7 hIl).2 (O7 hIl).1 (fun _=>⟨Yh hIl,JN I,rfl,.inr (by
        have e:(qS I).iD=I:=rfl
        rw[e,oV];simp)⟩)
    have l4:=f4.len
    have gq4:=f4.cw _ _ gq3 nq.1
    have gk4:=f4.cw _ _ gk3 nk.1
    have dX4:=dX3.mono f4 dis
    rw[hae,hrs] at q4
    obtain ⟨A4,hA4⟩:∃A4,aT.cells (some 49) [V.st 49 [.aq false none ((cI (qS I).jJ (qS I).num.toNat (bt (128+(qS I).aM)) (dr (rS I))).map aa),.s (.int .i64 0),.s (.bool true),.s (.bool true),.st 47 [.s (.int .i64 Do.st.mem),(qS I).enc,.st 45 [.s (.int .i64 0),.arr 28 (I.map aa),.s (.int .u64 1),.s (.int .i64 2),.aq false none [],.s (.int .i64 0),.s (.int .u64 0)]]]]=A4:=⟨_,rfl⟩
    have fA:Fw [] H4 (H4++[A4]):=Fw.app _ _ _
    obtain ⟨a5,H5,q5,rfl,f5⟩:=oth (H4++[A4]) (by simp;omega) (dX4.app _)
    have l5:=f5.len
    simp only[abZ,acj,acz] at l5
    have gA5:H5[H4.length]? =some A4:=f5.cw _ _ (aO _ _) (fun hj=> by have:=lX _ hj;omega)
    have gq5:=f5.cw _ _ (q10z gq4 [A4]) nq.2
    have gk4x:=fun X=> q10z gk4 X
    have gA5x:=fun X=> q10z gA5 X
    rw[hae,mV] at q5
    have fw5:Fw [] h H5:=((fw3.new f4 (fun j hj=> .inl (by have:=nO j hj;omega))).trans fA).new f5 (fun j hj=> .inl (by have:=nX j hj;omega))
    have ftk:=fun X=>(fw5.trans (Fw.app [] H5 X)).take
    simp only[GZ] at q4 q5
    rw[nB] at q4 q5 hA4
    subst hA4
    have h4:h.length≤H4.length:=by omega
    have h5:h.length≤H5.length:=by omega
    simp only[x0,x1,x5,x10,x11,x12,x13,rr,RU,w1,w2,j4,gk3,gq3,qty,nB,rq,clB,clC,or_true,q4,gk4x,gA5x,q5,h4,h5,decide_true,adJ,hkn,ftk,go_sem,simprocAttr]
  | true=>
    have hw0:=MY (s:=(al I:Nat)) (t:=1 - (p:Int)) (by omega) (by omega)
    have hc0:=ET (S:=Do.st) (t:=1 - (p:Int)) aaS oR oE oms (by omega) (by omega)
    obtain ⟨iP,ham⟩:=EU hc0
    obtain ⟨u1,u2,u3,_,_⟩:=xG hIo (by omega) hw0 oi hc0 of
    obtain ⟨hJ,kp⟩:=hIo.do (by omega) hw0 oi hc0
    have z3:(Do.do (gY (al I:Nat) (1 - (p:Int)))).2.st=(bp Do.st (gY (al I:Nat) (1 - (p:Int)))).2:=by
      rcases kp with ⟨_,_,z,_⟩ | ⟨_,_,z3,_⟩
      ·omega
      ·exact z3
    obtain ⟨v4,H4,q4,rfl,F4,d4,f4,n4⟩:=O3 h.length H3 io Do Fo (gY (al I:Nat) (1 - (p:Int))) (fun j hj=> by have:=nO j hj;omega) dO3 0 (by omega) hIo.ok hw0 (by simp[gY])
    rw[u1] at q4
    have hoe:(gY (al I:Nat) (1 - (p:Int))).enc= .st 40 [.s (.int .i64 2),.s (.int .i64 (al I:Nat)),.s (.int .i64 (1 - (p:Int))),.s (.int .u64 2),.st 37 [z4 28,ku,aK 22,kx,ki,ki,aK 22,.s (.bool false),.s (.bool false)],.aq false (some 37) []]:=rfl
    rw[hoe] at q4
    rw[←z3] at iP ham
    generalize (Do.do (gY (al I:Nat) (1 - (p:Int)))).2=D4 at *
    have l4:=f4.len
    have n4':∀j∈F4,h.length < j:=fun j hj=> by
      rcases n4 j hj with h1 | h1
      ·exact nO j h1
      ·omega
    have gq4:=f4.cw _ _ gq3 nq.1
    have gk4:=f4.cw _ _ gk3 nk.1
    have dX4:=dX3.mono f4 dis
    have dis4:∀j∈Fx,j∉F4:=fun j hj h4=> by
      rcases n4 j h4 with h1 | h1
      ·exact dis j hj h1
      ·have:=lX j hj;omega
    have nq4:H2.length+1∉F4:=fun hj=> by
      rcases n4 _ hj with h1 | h1
      ·exact nq.1 h1
      ·omega
    have nk4:h.length∉F4:=fun hj=> by have:=n4' _ hj;omega
    obtain ⟨a5,H5,q5,rfl,F5,d5,f5,n5⟩:=BB h.length H4 io D4 F4 (.aq false none (B.map aa)) (je 3) B (qS I) zeroV (AG 27 I) false (0+6) (by omega) (fun j hj=> by have:=n4' j hj;omega) d4 hJ (by omega) u2 (by omega) (cm _ _ _) rfl (by rw[ham];exact hopB) qw qr (BI iP) (xI hIl (by omega)).2 (xI hIl (by omega)).1 (by simp[qS]) (fun h=> by cases h)
    have l5:=f5.len
    have gq5:=f5.cw _ _ gq4 nq4
    have gk5:=f5.cw _ _ gk4 nk4
    have dX5:=dX4.mono f5 dis4
    rw[hae,mV] at q5
    obtain ⟨A5,hA5⟩:∃A5,aT.cells (some 49) [V.st 49 [.aq false none ((cI (qS I).jJ (qS I).num.toNat (bt (128+(qS I).aM)) (dr (AG 27 I))).map aa),.s (.int .i64 0),.s (.bool true),.s (.bool false),.st 47 [.s (.int .i64 D4.st.mem),(qS I).enc,.st 45 [.s (.int .i64 27),.arr 28 (I.map aa),.s (.int .u64 0),.s (.int .i64 0),.aq false none [],.s (.int .i64 0),.s (.int .u64 0)]]]]=A5:=⟨_,rfl⟩
    have fA:Fw [] H5 (H5++[A5]):=Fw.app _ _ _
    obtain ⟨a6,H6,q6,rfl,f6⟩:=oth (H5++[A5]) (by simp;omega) (dX5.app _)
    have l6:=f6.len
    simp only[abZ,acj,acz] at l6
    have gA6:H6[H5.length]? =some A5:=f6.cw _ _ (aO _ _) (fun hj=> by have:=lX _ hj;omega)
    have gk4x:=fun X=> q10z gk4 X
    have gq4x:=fun X=> q10z gq4 X
    have gk5x:=fun X=> q10z gk5 X
    have gA6x:=fun X=> q10z gA6 X
    rw[hae,mV] at q6
    have fw6:Fw [] h H6:=(((fw3.new f4 (fun j hj=> .inl (by have:=nO j hj;omega))).new f5 (fun j hj=> .inl (by have:=n4' j hj;omega))).trans fA).new f6 (fun j hj=> .inl (by have:=nX j hj;omega))
    have ftk:=fun X=>(fw6.trans (Fw.app [] H6 X)).take
    simp only[GZ] at q5 q6
    rw[nB] at q5 q6 hA5
    subst hA5
    have h3:h.length≤H3.length:=by omega
    have h4:h.length≤H4.length:=by omega
    have h5:h.length≤H5.length:=by omega
    have h6:h.length≤H6.length:=by omega
    simp only[x0,x1,x5,x10,x11,x12,x13,rr,RU,w1,w2,j4,gk3,gq3,qty,nB,q4,gk4,gq4,gk4x,gq4x,rq,clB,clC,or_true,q5,gk5x,gA6x,q6,h3,h4,h5,h6,decide_true,adJ,hkn,ftk,go_sem,simprocAttr]
 ·intro K' hK'
  rcases (show p=0∨p=1 by omega) with rfl | rfl
  ·obtain ⟨rfl,rfl⟩:=z0 rfl
   simp only[JO,go_sem,simprocAttr]
   refine hK' _ _ ?_
   simp only[nB,go_sem,simprocAttr]
  ·obtain ⟨rfl,rfl⟩:=z1 rfl
   simp only[JO,go_sem,simprocAttr]
   refine hK' _ _ ?_
   simp only[nB,go_sem,simprocAttr]
end Go.Proofs.YtggjbepemdhohaaGreat
namespace Go.Proofs.YtggjbepemdhohaaGreat
open Go Go.Proofs Go.Shelf Go.RowKit Go.Lib
theorem fi {P:Program} (w:World) (dT sT ty elem:TypeId) (b o dLen dCap:Nat) (a:Addr) (sLen sCap:Nat) (cs:List Value) (sz m:Nat)
 (hu:P.underlying dT=some (.slice elem)) (hs:(P.info? elem).map (·.size)=some sz) (hm:Nat.min sLen dLen=m) (hn:cs.length=m * sz)
 (lR:∀j v,cs[j]? =some v→w.cell? (a.add j)=some v) (hc:∀j,j < cs.length→(w.cell? ⟨b,o+j,none⟩).isSome=true) (hf:∀j,j < cs.length→w.frozen? ⟨b,o+j,none⟩=false) (h1:∀v∈cs,v.oneCell'=true):
 (Builtin.copy_ #[dT,sT] ty #[.slice (some ⟨b,o,none⟩) dLen dCap,.slice (some a) sLen sCap]).run P w= .ok (goInt m) (w.setCells b o cs):=by
 have hl:=run_loadCells_list (P:=P) w a cs lR
 have aZ:=run_storeCells_cells (P:=P) b o cs 0 w (by simpa using hc) (by simpa using hf) h1
 cases hq:P.info? elem with
 | none=> simp[hq] at hs
 | some i=>
   have hi:i.size=sz:=by simpa[hq] using hs
   simp[Builtin.copy_,run_underlying hu,Builtin.lenOf,Builtin.firstCells,sizeOf,typeInfo,hq,hi,hm,←hn,hl,aZ]
set_option maxHeartbeats 4000000 in
set_option maxRecDepth 100000 in
theorem EV (b n c i vb voff vc:Nat) (cs vs:List Value) (w:World) (hi:i < n) (gp:n+1≤c) (abG:n+1≤9223372036854775807) (au:vb≠b)
 (mH:cs.length=n * 42) (hvl:vs.length=42)
 (zm:∀j v,cs[j]? =some v→w.cell? ⟨b,j,none⟩=some v) (vR:∀j,j <(n+1)* 42→(w.cell? ⟨b,j,none⟩).isSome=true) (df:∀j,j <(n+1)* 42→w.frozen? ⟨b,j,none⟩=false)
 (qb:∀j v,vs[j]? =some v→w.cell? ⟨vb,voff+j,none⟩=some v) (h1c:∀v∈cs,v.oneCell'=true) (h1v:∀v∈vs,v.oneCell'=true)
 (tA tB:TypeId) (kA kB:Nat) (hsa:w.shape? vb=some (tA,kA)) (hsb:w.shape? b=some (tB,kB)) (hkB:kB≠0) (hfa:w.frozen? ⟨vb,voff,none⟩=false) (hfe:w.frozen? ⟨vb,kA,none⟩=false):
 Calls Tryz.prog 109 #[.slice (some ⟨b,0,none⟩) n c,.int .i64 i,.slice (some ⟨vb,voff,none⟩) 1 vc] w fun e w'=>
   e= .returned (.slice (some ⟨b,0,none⟩) (n+1) c)∧w'=(w.drew.setCells b ((i+1)* 42) (cs.drop (i * 42))).setCells b (i * 42) vs:=by
 have hz2:¬((i:Int)=(n:Int)):=by omega
 have cK:(Tryz.prog.info? 38).map (·.size)=some 42:=by kernel_rfl
 have o0:∀w,(Go.sizeOf 38).run Tryz.prog w= .ok 42 w:=fun w=> by
   obtain ⟨i0,h1,h2⟩:=abU.1 cK
   simp[Go.sizeOf,typeInfo,h1,h2]
 have hov:∀o lb cb,(callFunc 140 #[.slice (some ⟨vb,voff,none⟩) 1 vc,.slice (some ⟨b,o,none⟩) lb cb]).run Tryz.prog w= .ok (.value (.bool false)) w:=fun o lb cb=> by
   rw[run_callFunc_extern Tryz.func140 (by kernel_rfl) (by kernel_rfl) (by kernel_rfl) (e:=Extern.SlicesOverlaps.overlaps #[39,39] #[4]) (by kernel_rfl),
    Lib.run_overlaps_apart w 39 4 38 Tryz.underlying39 42 o0 ⟨vb,voff,none⟩ ⟨b,o,none⟩ 1 vc lb cb au tA tB kA kB hsa hsb hkB hfa hfe]
   rfl
 have A7:(cs.drop (i * 42)).length=(n - i)* 42:=by rw[ac0,mH,afi]
 have mixed:Tryz.prog.follows .mixedOrders=true:=by kernel_rfl
 have pz:IntKind.i64.wrap ((n:Int)+1)=(n:Int)+1:=by rw[IntKind.wrap_i64];omega
 have CS:IntKind.i64.wrap ((i:Int)+1)=(i:Int)+1:=by rw[IntKind.wrap_i64];omega
 have pL:(0:Int)≤(i:Int)+1:=by omega
 have GV:i≤n:=by omega
 have htn:((i:Int)+1).toNat=i+1:=by omega
 have abH:((n:Int)+1).toNat=n+1:=by omega
 have vl:¬(c=i+1):=by omega
 have hb3:(i:Int)≤(n:Int)+1:=by omega
 have hb4:¬(c=i):=by omega
 have hb5:¬((c:Int)<(n:Int)+1):=by omega
 have Yl:∀ty dc sc,(Builtin.copy_ #[39,39] ty #[.slice (some ⟨b,(i+1)* 42,none⟩) (n - i) dc,.slice (some ⟨b,i * 42,none⟩) (n+1 - i) sc]).run Tryz.prog w.drew= .ok (goInt ((n - i:Nat):Int)) (w.drew.setCells b ((i+1)* 42) (cs.drop (i * 42))):=fun ty dc sc=>
   fi w.drew _ _ ty 38 b ((i+1)* 42) (n - i) dc ⟨b,i * 42,none⟩ (n+1 - i) sc (cs.drop (i * 42)) 42 (n - i) Tryz.underlying39 cK (by simp only[afj];split <;> omega) A7
     (fun j v hj=> by rw[Addr.add_lit];exact zm (i * 42+j) v (by rwa [adD] at hj))
     (fun j hj=> vR _ (by omega)) (fun j hj=> df _ (by omega)) (fun v hv=> h1c v (acw hv))
 obtain ⟨W1,hW1⟩:∃W1,W1=w.drew.setCells b ((i+1)* 42) (cs.drop (i * 42)):=⟨_,rfl⟩
 have aaT:∀k,k <(n+1)* 42→(W1.cell? ⟨b,k,none⟩).isSome=true:=fun k hk=> by
   rw[hW1]
   exact isSome_setCells b (cs.drop (i * 42)) ((i+1)* 42) w.drew (fun j hj=> vR _ (by rw[A7] at hj;omega)) k (vR k hk)
 have aaU:∀(W:World),(∀x,W.cell? x=W1.cell? x)→(∀x,W.frozen? x=W1.frozen? x)→∀ty dc,(Builtin.copy_ #[39,39] ty #[.slice (some ⟨b,i * 42,none⟩) (n+1 - i) dc,.slice (some ⟨vb,voff,none⟩) 1 vc]).run Tryz.prog W= .ok (goInt 1) (W.setCells b (i * 42) vs):=fun W hWc hWf ty dc=>
   fi W _ _ ty 38 b (i * 42) (n+1 - i) dc ⟨vb,voff,none⟩ 1 vc vs 42 1 Tryz.underlying39 cK (by simp only[afj];split <;> omega) (by rw[hvl])
     (fun j v hj=> by
       rw[Addr.add_lit,hWc,hW1,World.cell?_setCells_out b _ _ _ _ (fun h _=> absurd h au)]
       exact qb j v hj)
     (fun j hj=> by rw[hWc];exact aaT _ (by omega)) (fun j hj=> by rw[hWf,hW1,World.frozen?_setCells];exact df _ (by omega)) h1v
 rw[←hW1] at Yl
 go_enter Tryz.func109,Tryz.ntmps109
 go_wp2_with (simp only[hov])
 go_region_law_o (refine step_copy_runI rfl _ _ 39 39 rfl _ _ (by simp[Act.eval,Act.put]) (by simp[Act.eval,Act.put]) (Yl _ _ _) ?_)
 go_wp2_with (at_builtin;refine wpList_copy_runI _ rfl _ _ 39 39 rfl _ _ rfl rfl (aaU _ (fun _=> rfl) (fun _=> rfl) _ _) ?_)
 go_ret
 first | exact ⟨rfl,rfl⟩ | exact ⟨rfl,by rw[hW1]⟩
set_option maxHeartbeats 4000000 in
set_option maxRecDepth 100000 in
theorem JP (b n c i vb voff vc:Nat) (cs vs:List Value) (w:World) (i0:TypeInfo) (z:Value) (y9:Tryz.prog.info? 38=some i0) (r6:i0.zero=some z) (iO:i0.size=42) (hzc:z.cells.size=42) (pw:0 < i0.bytes)
 (hi:i < n) (hnc:n≤c) (gp:c < n+1) (xJ:(n+1)* i0.bytes≤140737488355328)
 (mH:cs.length=n * 42) (hvl:vs.length=42)
 (zm:∀j v,cs[j]? =some v→w.cell? ⟨b,j,none⟩=some v)
 (qb:∀j v,vs[j]? =some v→w.cell? ⟨vb,voff+j,none⟩=some v) (h1c:∀v∈cs,v.oneCell'=true) (h1v:∀v∈vs,v.oneCell'=true):
 Calls Tryz.prog 109 #[.slice (some ⟨b,0,none⟩) n c,.int .i64 i,.slice (some ⟨vb,voff,none⟩) 1 vc] w fun e w'=>
   e= .returned (.slice (some ⟨w.heap.size,0,none⟩) (n+1) (grownCap w (n+1) c 38))∧
   w'=(((w.alloc (.cells ((cs.take (i * 42)).toArray++Builtin.zeroCells z.cells (n+1 - i)++Builtin.zeroCells z.cells (grownCap w (n+1) c 38 - (n+1))) 38)).drew.setCells w.heap.size (i * 42) vs).drew).setCells w.heap.size ((i+1)* 42) (cs.drop (i * 42)):=by
 have mixed:Tryz.prog.follows .mixedOrders=true:=by kernel_rfl
 have hz2:¬((i:Int)=(n:Int)):=by omega
 have hz3:(c:Int)<(n:Int)+1:=by omega
 have cK:(Tryz.prog.info? 38).map (·.size)=some 42:=by rw[y9];simp[iO]
 have hbw:b < w.heap.size:=block_lt_of_cell (zm 0 _ (abV (by omega)))
 have hvw:vb < w.heap.size:=block_lt_of_cell (qb 0 _ (abV (by omega)))
 have hnb:n+1≤140737488355328:=acE (adE _ pw) xJ
 have hkk:(n:Int)+1 - (i:Int)=((n+1 - i:Nat):Int):=by omega
 have hik:i+(n+1 - i)=n+1:=by omega
 have u4:(cs.take (i * 42)).length=i * 42:=by rw[acg,mH];omega
 have hold:(Builtin.firstCells i0.size i (.slice (some ⟨b,0,none⟩) i c)).run Tryz.prog w.drew= .ok (cs.take (i * 42)).toArray w.drew:=by
   rw[iO]
   exact run_firstCells_some w.drew 42 i ⟨b,0,none⟩ i c (cs.take (i * 42)) u4 (fun j v hj=> by
     rw[Addr.add_lit,acs]
     rw[ac7] at hj
     split at hj
     ·exact zm j v hj
     ·cases hj)
 have hkb:(n+1 - i)* i0.bytes≤281474976710656:=by
   have:(n+1 - i)* i0.bytes≤(n+1)* i0.bytes:=ace _ (by omega)
   omega
 have hrz:∀ty,(Builtin.append_ #[39,3] ty #[.slice (some ⟨b,0,none⟩) i c,.int .i64 ((n:Int)+1 - (i:Int))]).run Tryz.prog w=
  .ok (.slice (some ⟨w.heap.size,0,none⟩) (n+1) (grownCap w (n+1) c 38)) (w.drew.alloc (.cells ((cs.take (i * 42)).toArray++Builtin.zeroCells z.cells (n+1 - i)++Builtin.zeroCells z.cells (grownCap w (n+1) c 38 - (n+1))) 38)):=fun ty=> by
   have h:=Lib.run_append_grow_zeros w 39 3 ty 38 i0 z .i64 .i64 Tryz.underlying39 Tryz.underlying3 y9 r6 (some ⟨b,0,none⟩) i c (cs.take (i * 42)) hold (n+1 - i) (by omega) (by omega) (by omega) (by omega) hkb (by rw[hik];exact growslice_fits gp xJ)
   rw[hik] at h
   rw[hkk]
   exact h
 obtain ⟨G,hG⟩:∃G,G=grownCap w (n+1) c 38:=⟨_,rfl⟩
 obtain ⟨ROW,hROW⟩:∃ROW:Array Value,ROW=(cs.take (i * 42)).toArray++Builtin.zeroCells z.cells (n+1 - i)++Builtin.zeroCells z.cells (G - (n+1)):=⟨_,rfl⟩
 rw[←hG] at hrz ⊢
 rw[←hROW] at hrz ⊢
 have hRl:(n+1)* 42≤ROW.size:=by
   rw[hROW]
   simp[Builtin.zeroCells,hzc]
   omega
 obtain ⟨W1,hW1⟩:∃W1,W1=w.drew.alloc (.cells ROW 38):=⟨_,rfl⟩
 rw[←hW1] at hrz
 have hN:∀j,j <(n+1)* 42→(W1.cell? ⟨w.heap.size,j,none⟩).isSome=true:=fun j hj=> by
   rw[hW1,World.cell?_alloc_at (w:=w.drew) ROW _ w.heap.size j rfl,acm (by omega)];rfl
 have hNf:∀j,W1.frozen? ⟨w.heap.size,j,none⟩=false:=fun j=> by rw[hW1];exact World.frozen?_alloc_at (w:=w.drew) ROW _ w.heap.size j rfl
 have hOb:∀j v,w.cell? ⟨b,j,none⟩=some v→W1.cell? ⟨b,j,none⟩=some v:=fun j v h=> by rw[hW1,World.cell?_alloc_past (w:=w.drew) _ b j hbw];exact h
 have hOv:∀j v,w.cell? ⟨vb,j,none⟩=some v→W1.cell? ⟨vb,j,none⟩=some v:=fun j v h=> by rw[hW1,World.cell?_alloc_past (w:=w.drew) _ vb j hvw];exact h
 have hcpA:∀(W:World),(∀x,W.cell? x=W1.cell? x)→(∀x,W.frozen? x=W1.frozen? x)→∀ty dc,(Builtin.copy_ #[39,39] ty #[.slice (some ⟨w.heap.size,i * 42,none⟩) (n+1 - i) dc,.slice (some ⟨vb,voff,none⟩) 1 vc]).run Tryz.prog W= .ok (goInt 1) (W.setCells w.heap.size (i * 42) vs):=fun W hWc hWf ty dc=>
   fi W _ _ ty 38 w.heap.size (i * 42) (n+1 - i) dc ⟨vb,voff,none⟩ 1 vc vs 42 1 Tryz.underlying39 cK (by simp only[afj];split <;> omega) (by rw[hvl])
     (fun j v hj=> by rw[Addr.add_lit,hWc];exact hOv _ v (qb j v hj))
     (fun j hj=> by rw[hWc];exact hN _ (by omega)) (fun j hj=> by rw[hWf];exact hNf _) h1v
 have hGn:n+1≤G:=by rw[hG];exact grownCap_ge w _ _ _
 have hG63:G≤9223372036854775807:=by
   have:=grownCap_le_maxLen w (n+1) c 38 (by unfold maxLen;omega)
   rw[←hG] at this
   unfold maxLen at this
   omega
 have hGi:¬(G=i):=by omega
 have hGim:¬(G=i+1):=by omega
 have hci:¬(c=i):=by omega
 have hbN:b≠w.heap.size:=by omega
 have A7:(cs.drop (i * 42)).length=(n - i)* 42:=by rw[ac0,mH,afi]
 have hcpB:∀(W:World),(∀x,W.cell? x=(W1.setCells w.heap.size (i * 42) vs).cell? x)→(∀x,W.frozen? x=(W1.setCells w.heap.size (i * 42) vs).frozen? x)→∀ty dc sc,(Builtin.copy_ #[39,39] ty #[.slice (some ⟨w.heap.size,(i+1)* 42,none⟩) (n - i) dc,.slice (some ⟨b,i * 42,none⟩) (n - i) sc]).run Tryz.prog W= .ok (goInt ((n - i:Nat):Int)) (W.setCells w.heap.size ((i+1)* 42) (cs.drop (i * 42))):=fun W hWc hWf ty dc sc=>
   fi W _ _ ty 38 w.heap.size ((i+1)* 42) (n - i) dc ⟨b,i * 42,none⟩ (n - i) sc (cs.drop (i * 42)) 42 (n - i) Tryz.underlying39 cK (by simp only[afj];split <;> omega) A7
     (fun j v hj=> by
       rw[Addr.add_lit,hWc,World.cell?_setCells_out _ _ _ _ _ (fun h _=> absurd h hbN)]
       exact hOb _ v (zm (i * 42+j) v (by rwa [adD] at hj)))
     (fun j hj=> by rw[hWc];exact isSome_setCells _ _ _ _ (fun t ht=> hN _ (by omega)) _ (hN _ (by omega)))
     (fun j hj=> by rw[hWf,World.frozen?_setCells];exact hNf _) (fun v hv=> h1c v (acw hv))
 subst hW1
 have hE1:∀x,((w.alloc (.cells ROW 38)).drew).cell? x=(w.drew.alloc (.cells ROW 38)).cell? x:=fun x=> rfl
 have hE2:∀x,((w.alloc (.cells ROW 38)).drew).frozen? x=(w.drew.alloc (.cells ROW 38)).frozen? x:=fun x=> rfl
 have hF1:∀x,(((w.alloc (.cells ROW 38)).drew.setCells w.heap.size (i * 42) vs).drew).cell? x=((w.drew.alloc (.cells ROW 38)).setCells w.heap.size (i * 42) vs).cell? x:=fun x=> rfl
 have hF2:∀x,(((w.alloc (.cells ROW 38)).drew.setCells w.heap.size (i * 42) vs).drew).frozen? x=((w.drew.alloc (.cells ROW 38)).setCells w.heap.size (i * 42) vs).frozen? x:=fun x=> rfl
 have pz:IntKind.i64.wrap ((i:Int)+1)=(i:Int)+1:=by rw[IntKind.wrap_i64];omega
 have pL:(0:Int)≤(i:Int)+1:=by omega
 have GV:i≤n:=by omega
 have htn:((i:Int)+1).toNat=i+1:=by omega
 have hb3:(i:Int)≤(n:Int):=by omega
 clear hkk hik hold hROW hG hRl
 go_enter Tryz.func109,Tryz.ntmps109
 go_wp2_with (first
   | (at_builtin;refine Lib.wpList_append_run _ rfl _ _ _ _ rfl _ _ rfl rfl _ _ (hrz _) ?_)
   | (at_builtin;refine wpList_copy_runI _ rfl _ _ 39 39 rfl _ _ rfl rfl (hcpA _ hE1 hE2 _ _) ?_)
   | (at_builtin;refine wpList_copy_runI _ rfl _ _ 39 39 rfl _ _ rfl rfl (hcpB _ (fun _=> rfl) (fun _=> rfl) _ _ _) ?_))
 go_region_law_o (refine step_copy_runI rfl _ _ 39 39 rfl (.slice (some ⟨w.heap.size,(i+1)* 42,none⟩) (n - i) (G - (i+1))) (.slice (some ⟨b,i * 42,none⟩) (n - i) (c - i)) (by simp[Act.eval,Act.put]) (by simp[Act.eval,Act.put]) (hcpB _ hF1 hF2 3 (G - (i+1)) (c - i)) ?_)
 go_wp2
 go_ret
 exact ⟨rfl,rfl⟩
set_option maxHeartbeats 4000000 in
set_option maxRecDepth 100000 in
theorem MZ (a:Option Addr) (n c vc:Nat) (ay:Addr) (w w':World) (u:Value) (hnc:n≤c) (nT:a=none→n=0)
 (bk:(Builtin.append_ #[39,39] 39 #[.slice a n c,.slice (some ay) 1 vc]).run Tryz.prog w= .ok u w'):
 Calls Tryz.prog 109 #[.slice a n c,.int .i64 n,.slice (some ay) 1 vc] w fun e w2=> e= .returned u∧w2=w':=by
 have mixed:Tryz.prog.follows .mixedOrders=true:=by kernel_rfl
 go_enter Tryz.func109,Tryz.ntmps109
 cases a with
 | none=>
   have h0:=nT rfl
   subst h0
   go_wp2_with (at_builtin;refine Lib.wpList_append_run _ rfl _ _ _ _ rfl _ _ rfl rfl _ _ bk ?_)
   go_ret
   exact ⟨rfl,rfl⟩
 | some a=>
   obtain ⟨ab,ao,asp⟩:=a
   go_wp2_with (at_builtin;refine Lib.wpList_append_run _ rfl _ _ _ _ rfl _ _ rfl rfl _ _ bk ?_)
   all_goals (go_ret;exact ⟨rfl,rfl⟩)
end Go.Proofs.YtggjbepemdhohaaGreat
namespace Go.Proofs.YtggjbepemdhohaaGreat
open Go Go.Vm Go.Proofs Go.Cl
set_option maxRecDepth 100000
theorem Ym :(ak Tryz.prog).aA (some 37)=42:=by kernel_rfl
theorem O8 :aE Tryz.prog 38=some 37:=by kernel_rfl
theorem RX :TG Tryz.prog (ak Tryz.prog) 38 (some 37):=by
 have:=cE (P:=Tryz.prog) (t:=38) (by kernel_rfl)
 rw[O8] at this;exact this
theorem ox {w:World} {b:Nat} {us:Array Value} {ty:TypeId} {fz:Nat×Nat} (hg:w.heap[b]? =some (.cells us ty fz)):w.shape? b=some (ty,us.size):=by
 simp only[World.shape?,hg]
theorem lS {w:World} {b j:Nat} {us:Array Value} {ty:TypeId} (hg:w.heap[b]? =some (.cells us ty (0,0))):w.frozen? ⟨b,j,none⟩=false:=by
 simp only[World.frozen?,hg];simp
theorem EW {row a v d:List Value} {o p q:Nat} (h1:o+v.length=p) (h2:p+d.length=q) (hl:q≤row.length) (ha:row.take o=a):(lay (lay row o v) p d).take q=a++v++d:=by
 have h3:(lay row o v).length=row.length:=ec _ _ _ (by omega)
 rw[iu (by omega) h2,iu (by omega) h1,ha]
theorem BJ (hL:(ak Tryz.prog).OK) {c:Ctx} {w:World} {h:Hp} (hs:bm (ak Tryz.prog) c h w) {id idy n i:Nat} {es:List V} {e:V} {ux uy:Value}
 (hx:RV (ak Tryz.prog) c (.ref id [] (some 37) 0 n n) ux) (hy:RV (ak Tryz.prog) c (.ref idy [] (some 37) 0 1 1) uy) (hrx:rowOf h id n=some (some 37,es)) (hry:rowOf h idy 1=some (some 37,[e]))
 (da:id≠idy) (hi:i < n) (xJ:(n+1)* Tryz.prog.bytesOf 38≤140737488355328):
 ff Tryz.prog (ak Tryz.prog) c w 109 [ux,.int .i64 i,uy] (.ref id [] (some 37) 0 (n+1) (n+1)) (h.set id (.cells (some 37) (es.take i++[e]++es.drop i))):=by
 have G1:=Ym
 obtain ⟨l,hl,cF,cu,hz,pL,vl,hb3,cN,us0,ty0,fz0,hg,cK,df,fW⟩:=hs.row hrx
 obtain ⟨ly,hly,Yn,abt,hzy,abI,abJ,aaV,M1,usy,tyy,fzy,hgy,aaW,aaX,EX⟩:=hs.row hry
 have n9:=(q16z hrx).2
 obtain ⟨_,k,rfl,mw,hm⟩:=dJ hx hl cF (path:=[]) (o:=0) (e:=l.tag) (m:=none) rfl
 obtain ⟨_,ky,rfl,abK,hmy⟩:=dJ hy hly Yn (path:=[]) (o:=0) (e:=ly.tag) (m:=none) rfl
 simp only[eY,acs,adq] at hm hmy ⊢
 obtain ⟨rb,q8,hm3⟩:=hm
 have hU:=df
 have vZ:=hz
 have hszU:=cK
 have aaY:=df.2 rfl
 have Yo:=aaX.2 rfl
 subst aaY Yo
 rw[G1] at cK aaW fW EX
 simp only[acj,acz,acs,aev] at EX aaV
 have aaZ:ly.bz≠l.bz:=fun he=> da (hs.inj id idy l ly hl hly he.symm)
 have u5:∀y∈es,y.ty=some 37:=fun y hy=>(cN y hy).1
 have BK:=q8z hL fW u5
 have xK:=q8z hL EX (fun y hy=>(M1 y hy).1)
 rw[G1] at BK xK
 simp only[acj,acz,acs,aev] at xK
 rw[n9] at BK fW
 have h1c:∀q∈us0.toList.take (n * 42),q.oneCell'=true:=dw (fun v _=> dV v) (fun v hv=>(cN v hv).2) _ fW
 have h1v:∀q∈usy.toList.take 42,q.oneCell'=true:=dw (fun v _=> dV v) (fun v hv=>(M1 v hv).2) _ EX
 have zm:∀j v,(us0.toList.take (n * 42))[j]? =some v→w.cell? ⟨l.bz,j,none⟩=some v:=fun j v hj=> by
   rw[ac7] at hj
   split at hj
   ·rw[q15z hg];simpa using hj
   ·cases hj
 have qb:∀j v,(usy.toList.take 42)[j]? =some v→w.cell? ⟨ly.bz,0+j,none⟩=some v:=fun j v hj=> by
   rw[ac7] at hj
   split at hj
   ·rw[q15z hgy,acs];simpa using hj
   ·cases hj
 obtain ⟨i0,y9,hi0s⟩:=RX.info
 rw[G1] at hi0s
 have pw:Tryz.prog.bytesOf 38=i0.bytes:=by simp[Program.bytesOf,y9]
 rw[pw] at xJ
 have Yp:0 < i0.bytes:=by rw[←pw];exact of_decide_eq_true (by kernel_rfl)
 have hnb:n+1≤140737488355328:=acE (adE _ Yp) xJ
 have cM:ch (ak Tryz.prog) c (es.take i++[e]++es.drop i) ((us0.toList.take (n * 42)).take (i * 42)++usy.toList.take 42++(us0.toList.take (n * 42)).drop (i * 42)):=by
   have a:=eZ hL fW u5 i (by omega)
   rw[G1] at a
   exact ed.2 ⟨_,_,rfl,ed.2 ⟨_,_,rfl,a.1,EX⟩,a.2⟩
 have j9:∀q∈es.take i++[e]++es.drop i,q.ty=some 37∧q.aw=true:=fun q hq=> by
   rcases acp.1 hq with hq | hq
   ·rcases acp.1 hq with hq | hq
    ·exact cN q (acd hq)
    ·exact M1 q hq
   ·exact cN q (acw hq)
 have zn:(es.take i++[e]++es.drop i).length=n+1:=by simp;omega
 by_cases gp:n+1≤k
 ·-- room
  have gq:(n+1)* 42≤us0.size:=by rw[cK];exact ace 42 (by omega)
  have A7:((us0.toList.take (n * 42)).drop (i * 42)).length=(n - i)* 42:=by rw[ac0,BK,afi]
  have hU':JQ (some 37) us0.size (0,0):=hU
  refine Calls.mono (EV l.bz n k i ly.bz 0 ky (us0.toList.take (n * 42)) (usy.toList.take 42) w hi gp (by omega) aaZ BK xK zm
    (fun j hj=> by rw[q15z hg,acm (by omega)];rfl) (fun j hj=> lS hg) qb h1c h1v tyy ty0 usy.size us0.size (ox hgy) (ox hg) (by omega) (lS hgy) (lS hgy)) ?_
  rintro en w' ⟨rfl,rfl⟩
  have e1l:(es.take (i+1)++es.drop i).length=n+1:=by simp;omega
  have r1:ch (ak Tryz.prog) c (es.take (i+1)++es.drop i) ((lay us0.toList ((i+1)* 42) ((us0.toList.take (n * 42)).drop (i * 42))).take ((n+1)* 42)):=by
    rw[iu (by rw[A7];simp;omega) (by rw[A7];omega)]
    have a:=(eZ hL fW u5 (i+1) (by omega)).1
    have b:=(eZ hL fW u5 i (by omega)).2
    rw[G1] at a b
    rw[acU,acy (by omega)] at a
    exact ed.2 ⟨_,_,rfl,a,b⟩
  have Yq:∀q∈es.take (i+1)++es.drop i,q.ty=some 37∧q.aw=true:=fun q hq=> by
    rcases acp.1 hq with hq | hq
    ·exact cN q (acd hq)
    ·exact cN q (acw hq)
  obtain ⟨l1,va,ze,ES,O9⟩:=jk hL hs.drew hl cu hz (w:=w.drew) hg hU' (by rw[G1];exact hszU) (es':=es.take (i+1)++es.drop i) Yq (by omega) (by omega) (o:=(i+1)* 42) (vs:=(us0.toList.take (n * 42)).drop (i * 42)) (by rw[A7];omega) (by rw[e1l,G1];exact r1)
  have cJ:id < h.length:=(abW.1 (q16z hrx).1).1
  have Yr:rowOf (h.set id (.cells (some 37) (es.take (i+1)++es.drop i))) id (n+1)=some (some 37,es.take (i+1)++es.drop i):=by
    simp[rowOf,cJ,e1l]
  obtain ⟨l2,CU,Pb,Du,hz2,abL,abM,abN,abO,us1,ty1,fz1,cV,Ys,hU1,aa0⟩:=ze.row Yr
  rw[O9] at CU
  cases CU
  have zo:l1.bz=l.bz:=by rw[va]
  have Pc:l1.cap=l.cap:=by rw[va]
  rw[zo] at hz2 cV
  have iY:=m0 hL aa0 (EX.mono ES) (fun q hq=>(Yq q hq).1) (fun q hq=>(M1 q hq).1) (n:=i) (by rw[e1l];simp;omega)
  have ee:(es.take (i+1)++es.drop i).take i++[e]++(es.take (i+1)++es.drop i).drop (i+[e].length)=es.take i++[e]++es.drop i:=by
    have h1:(es.take (i+1)).length=i+1:=by simp;omega
    rw[acq (by omega),acU,acy (by omega),aff,ae1,h1,aen,acO (by omega),acA,acD]
  have Yt:us1.size=us0.size:=by rw[Ys,Pc,G1,cK]
  rw[ee,G1,e1l,←m6 _ _ _ _ (by rw[xK];omega) (by simp;omega)] at iY
  obtain ⟨l3,xv,hs3,RS,Yu⟩:=jk hL ze O9 Du (by rw[zo];exact hz2) (by rw[zo];exact cV) hU1 (by rw[Ys]) (es':=es.take i++[e]++es.drop i) j9 (by omega) (by omega) (o:=i * 42) (vs:=usy.toList.take 42) (by rw[xK,Yt];omega) (by rw[zn,G1];exact iY)
  rw[zo,ac4] at hs3
  have pH:=m7 hs3 (id:=id) (az:=n+1) (off:=0) (len:=n+1) (k:=k) (path:=[]) (m:=none) (o:=0) (e:=l3.tag) Yu (by rw[xv];exact zn) rfl gp (by rw[xv];simp only[eY,Pc];omega)
  have Yv:l3.bz=l.bz:=by rw[xv];exact zo
  have Yw:l3.tag=some 37:=by rw[xv];exact Du
  rw[Yv,Yw] at pH
  simp only[acs,adq] at pH
  exact ⟨_,_,rfl,pH,hs3,ES.trans RS,(St.drew w).trans ((St.setCells _ _ _ _).trans (St.setCells _ _ _ _))⟩
 ·-- no room
  have hz:((Tryz.prog.info? 38).bind fun i=> i.zero).map (fun z=> z.cells.size)=some 42:=by kernel_rfl
  rw[y9] at hz
  obtain ⟨z,r6,hzc⟩:=abU.1 hz
  refine Calls.mono (JP l.bz n k i ly.bz 0 ky (us0.toList.take (n * 42)) (usy.toList.take 42) w i0 z y9 r6 hi0s hzc Yp hi (by omega) (by omega) xJ BK xK zm qb h1c h1v) ?_
  rintro en w' ⟨rfl,rfl⟩
  have hGn:n+1≤grownCap w (n+1) k 38:=grownCap_ge w _ _ _
  obtain ⟨G,hG⟩:∃G,G=grownCap w (n+1) k 38:=⟨_,rfl⟩
  rw[←hG] at hGn ⊢
  obtain ⟨ROW,hROW⟩:∃ROW:Array Value,ROW=((us0.toList.take (n * 42)).take (i * 42)).toArray++Builtin.zeroCells z.cells (n+1 - i)++Builtin.zeroCells z.cells (G - (n+1)):=⟨_,rfl⟩
  rw[←hROW]
  have u4:((us0.toList.take (n * 42)).take (i * 42)).length=i * 42:=by rw[acg,BK];omega
  have A7:((us0.toList.take (n * 42)).drop (i * 42)).length=(n - i)* 42:=by rw[ac0,BK,afi]
  have hRs:ROW.size=G * 42:=by
    rw[hROW,aeT,aeT,aee,u4,size_zeroCells,size_zeroCells,hzc];omega
  have hRt:ROW.toList.take (i * 42)=(us0.toList.take (n * 42)).take (i * 42):=by
    rw[hROW,aeL,aeL,ab5,adk]
    exact aeM u4
  have oa:(n+1)* 42≤ROW.size:=by rw[hRs];exact ace 42 hGn
  have dq:∃l':Vm.Loc,l'=⟨w.heap.size,G,some 37,n+1⟩:=⟨_,rfl⟩
  obtain ⟨l',dq⟩:=dq
  have hle:c.le (c.move id l'):=Ctx.xL c id l l' hl (by rw[dq,cu]) (by rw[dq,cF];simp) (fun he=> by rw[dq,cF] at he;simp at he)
  have g1:((w.alloc (.cells ROW 38)).drew).heap[w.heap.size]? =some (.cells ROW 38 (0,0)):=jv (w:=w)
  have g2:=dC w.heap.size 38 (0,0) (usy.toList.take 42) (i * 42) ROW _ g1 (by rw[xK];omega)
  have mr:(lay ROW.toList (i * 42) (usy.toList.take 42)).length=ROW.size:=by rw[ec _ _ _ (by rw[xK];simp;omega)];simp
  have g3:=dC w.heap.size 38 (0,0) ((us0.toList.take (n * 42)).drop (i * 42)) ((i+1)* 42) _ (((w.alloc (.cells ROW 38)).drew.setCells w.heap.size (i * 42) (usy.toList.take 42)).drew) g2 (by rw[A7,aee,mr];omega)
  have dx:bm (ak Tryz.prog) (c.move id l') (h.set id (.cells (some 37) (es.take i++[e]++es.drop i))) ((((w.alloc (.cells ROW 38)).drew.setCells w.heap.size (i * 42) (usy.toList.take 42)).drew).setCells w.heap.size ((i+1)* 42) ((us0.toList.take (n * 42)).drop (i * 42))):=by
    refine hs.move hl _ hle (by rw[dq];exact hs.rv) (Or.inr (by rw[dq];exact ab0 _)) (fun b hb yv=> ?_) (fun o' kf=> by rw[vZ] at kf;cases kf) ?_
    ·rw[q13z _ _ _ _ _ (by omega)]
     show ((w.alloc (.cells ROW 38)).drew.setCells w.heap.size (i * 42) (usy.toList.take 42)).heap[b]? =_
     rw[q13z _ _ _ _ _ (by omega)]
     exact iL (w:=w) hb
    ·refine ⟨by rw[dq],by rw[dq,zn],by rw[dq,zn];exact hGn,j9,_,38,(0,0),by rw[dq];exact g3,?_,⟨by intro j hj;omega,fun _=> rfl⟩,?_⟩
     ·rw[aee,ec _ _ _ (by rw[A7];simp only[adk,mr];omega),adk,mr,hRs,dq,G1]
     ·rw[zn,G1,adk,adk,EW (by rw[xK];omega) (by rw[A7];omega) (by simp;omega) hRt]
      exact cM.mono hle
  have xM:(c.move id l').loc id=some l':=by simp[Ctx.move]
  have pH:=m7 dx (id:=id) (az:=n+1) (off:=0) (len:=n+1) (k:=G) (path:=[]) (m:=none) (o:=0) (e:=l'.tag) xM (by rw[dq]) rfl hGn (by rw[dq];simp only[eY];omega)
  have Yx:l'.bz=w.heap.size:=by rw[dq]
  have zp:l'.tag=some 37:=by rw[dq]
  rw[Yx,zp] at pH
  simp only[acs,adq] at pH
  exact ⟨_,_,rfl,pH,dx,hle,(St.alloc _ _).trans ((St.drew _).trans ((St.setCells _ _ _ _).trans ((St.drew _).trans (St.setCells _ _ _ _))))⟩
theorem tV (hL:(ak Tryz.prog).OK) {c:Ctx} {w:World} {h:Hp} (hs:bm (ak Tryz.prog) c h w) {x:V} {idy:Nat} {ux uy:Value} {n:Nat} {v:V} {h':Hp}
 (hx:RV (ak Tryz.prog) c x ux) (hy:RV (ak Tryz.prog) c (.ref idy [] (some 37) 0 1 1) uy) (hux:∃a k,ux= .slice a n k∧n≤k∧(a=none→n=0)) (ah:od 0 h (some 37) (Tryz.prog.bytesOf 38) x (.ref idy [] (some 37) 0 1 1)=some (v,h')):
 ff Tryz.prog (ak Tryz.prog) c w 109 [ux,.int .i64 n,uy] v h':=by
 obtain ⟨a,k,rfl,hnk,nT⟩:=hux
 obtain ⟨ay,ky,rfl,_⟩:=oK.1 hy
 obtain ⟨r6,jw,iO⟩:=cO (P:=Tryz.prog) (obj:=ob) (t:=38) (z:= .st 37 [.arr 28 [.s (.int .u8 0),.s (.int .u8 0),.s (.int .u8 0),.s (.int .u8 0)],.s (.int .u64 0),.arr 22 [.s (.int .u8 0),.s (.int .u8 0),.s (.int .u8 0),.s (.int .u8 0),.s (.int .u8 0),.s (.int .u8 0),.s (.int .u8 0),.s (.int .u8 0),.s (.int .u8 0),.s (.int .u8 0),.s (.int .u8 0),.s (.int .u8 0),.s (.int .u8 0),.s (.int .u8 0),.s (.int .u8 0),.s (.int .u8 0)],.aq false none [],.s (.int .i64 0),.s (.int .i64 0),.arr 22 [.s (.int .u8 0),.s (.int .u8 0),.s (.int .u8 0),.s (.int .u8 0),.s (.int .u8 0),.s (.int .u8 0),.s (.int .u8 0),.s (.int .u8 0),.s (.int .u8 0),.s (.int .u8 0),.s (.int .u8 0),.s (.int .u8 0),.s (.int .u8 0),.s (.int .u8 0),.s (.int .u8 0),.s (.int .u8 0)],.s (.bool false),.s (.bool false)]) (by kernel_rfl)
 obtain ⟨i,hi,_⟩:=RX.info
 have hb:Tryz.prog.bytesOf 38=i.bytes:=by simp[Program.bytesOf,hi]
 have gZ:0 < i.bytes:=by rw[←hb];exact of_decide_eq_true (by kernel_rfl)
 rw[hb] at ah
 rw[O8] at jw
 obtain ⟨u,c',w',bk,h1,h2,h3,h4⟩:=BL (P:=Tryz.prog) hL hs (T2:=39) (ty:=39) Tryz.underlying39 RX hi r6 jw iO (Or.inl ⟨_,Tryz.underlying39⟩) gZ hx hy ah
 refine Calls.mono (MZ a n k ky ay w w' u hnk nT bk) ?_
 rintro e w2 ⟨rfl,rfl⟩
 exact ⟨u,c',rfl,h1,h2,h3,h4⟩
theorem xN (hL:(ak Tryz.prog).OK) {c:Ctx} {w:World} {vs:List V} {us:List Value} {h:Hp} {v:V} {h':Hp} (hc:fe (some 37) (Tryz.prog.bytesOf 38) vs h=some (v,h')) (hv:fZ (ak Tryz.prog) c vs us) (hs:bm (ak Tryz.prog) c h w):ff Tryz.prog (ak Tryz.prog) c w 109 us v h':=by
 unfold fe at hc
 split at hc
 case h_2=> cases hc
 rename_i _ x i idy gy
 match us,hv with
 | [ux,ui,uy],hv=>
 obtain ⟨hx,hi,hy,_⟩:=hv
 obtain ⟨rfl,_⟩:=bB.1 hi
 split at hc
 case h_2=> cases hc
 rename_i gy' e hry
 split at hc
 case isFalse=> cases hc
 rename_i hcc
 obtain ⟨rfl,rfl,AA⟩:=hcc
 have lR:source h (.ref idy [] (some 37) 0 1 1)=some (some 37,[e]):=by simp[source,elems,Vm.rowAt,hry]
 split at hc
 ·rename_i gx
  split at hc
  case isFalse=> cases hc
  rename_i hcc
  obtain ⟨rfl,rfl⟩:=hcc
  cases hc
  obtain ⟨a,k,rfl,h1,h2,h3,h4⟩:=cX.1 hx
  refine tV (n:=0) hL hs hx hy ⟨a,k,rfl,by simp,fun _=> rfl⟩ ?_
  have hb:Tryz.prog.bytesOf 38≤140737488355328:=of_decide_eq_true (by kernel_rfl)
  simp[od,lR,cW,hb]
 ·rename_i id gx n m
  split at hc
  case h_2=> cases hc
  rename_i gx' es hrx
  split at hc
  case isFalse=> cases hc
  rename_i hcc
  obtain ⟨rfl,rfl,rfl,da,h0i,GV,xJ⟩:=hcc
  cases hc
  obtain ⟨j,rfl⟩:∃j:Nat,i=j:=⟨i.toNat,by omega⟩
  have ca:=(q16z hrx).2
  simp only[acu]
  by_cases hj:j < n
  ·exact BJ hL hs hx hy hrx hry da hj xJ
  ·obtain rfl:j=n:=by omega
   obtain ⟨a,k,rfl,_,hk,_⟩:=oK.1 hx
   refine tV (n:=j) hL hs hx hy ⟨some a,k,rfl,hk,fun h=> by cases h⟩ ?_
   have hm:bS 0 id e=true:=by simp[bS]
   have t1:es.take j=es:=abX (by omega)
   have t2:es.drop j=[]:=acO (by omega)
   simp[od,lR,cW,hrx,hm,xJ,t1,t2]
 ·cases hc
theorem tW (hL:(ak Tryz.prog).OK) {c:Ctx} {w:World} {h:Hp} (hs:bm (ak Tryz.prog) c h w) {x:V} {ux:Value} (hx:RV (ak Tryz.prog) c x ux) {g:Option Nat} {es:List V} {l:List UInt8} (he:elems h x=some (g,es)) (hl:Vm.bytesOf es=some l):
 (Extern.Bytes.bytesOf ux).run Tryz.prog w= .ok ⟨l.toArray⟩ w:=by
 obtain ⟨a,k,rfl,mw,ca,fY⟩:=pP hL hs hx he
 rcases fY with rfl | ⟨b,o,us,ty,fz,rfl,hg,hr⟩
 ·simp only[Vm.bytesOf,Option.some.injEq] at hl
  subst hl
  cases a <;> simp[Extern.Bytes.bytesOf,Extern.Bytes.loadBytes]<;> rfl
 ·obtain ⟨ns,hns,nZ,rfl⟩:=kg es l _ hl hr
  have zq:=nI hL hg hr (fun q hq=>(ca q hq).1)
  rw[hns] at zq
  have bk:=Lib.run_loadBytesX (P:=Tryz.prog) (w:=w) ns ⟨b,o,none⟩ .empty (fun j x hj=> zq j (.int .u8 x) (by simp[hj]))
  rw[nZ] at bk
  simp only[Extern.Bytes.bytesOf,bk]
  congr 2
  simp[Lib.bytesOf,ByteArray.empty,ByteArray.emptyWithCapacity]
  rfl
theorem EY (hL:(ak Tryz.prog).OK) {c:Ctx} {w:World} {vs:List V} {us:List Value} {h:Hp} {v:V} {h':Hp} (hc:yE vs h=some (v,h')) (hv:fZ (ak Tryz.prog) c vs us) (hs:bm (ak Tryz.prog) c h w):ff Tryz.prog (ak Tryz.prog) c w 110 us v h':=by
 unfold yE at hc
 split at hc
 case h_2=> cases hc
 match us,hv with
 | [ux,uy],hv=>
 obtain ⟨hx,hy,_⟩:=hv
 split at hc
 case h_2=> cases hc
 rename_i ga a gb b' hea heb
 split at hc
 case h_2=> cases hc
 rename_i l m hla hlb
 cases hc
 have h1:=tW hL hs hx hea hla
 have h2:=tW hL hs hy heb hlb
 have iZ:(callFunc 142 #[ux,uy]).run Tryz.prog w= .ok (.value (.int .i64 (Lib.compareBytes l m))) w:=by
   rw[run_callFunc_extern Tryz.func142 (by kernel_rfl) (by kernel_rfl) (by kernel_rfl) (e:=Extern.BytealgCompare.compare) (by kernel_rfl)]
   have:(Extern.BytealgCompare.compare #[ux,uy]).run Tryz.prog w= .ok (.int .i64 (Lib.compareBytes l m)) w:=by
     change Sem.run Tryz.prog (do pure (goInt (Extern.BytealgCompare.cmp (←Extern.Bytes.bytesOf ux) (←Extern.Bytes.bytesOf uy)))) w=_
     simp only[Sem.run_bind,Sem.run_pure,h1,h2,Result.andThen]
     rw[Lib.cmp_eq]
     rfl
   rw[this];rfl
 refine Calls.mono (R:=fun e w'=> e= .returned (.int .i64 (Lib.compareBytes l m))∧w'=w) ?_ ?_
 ·go_enter Tryz.func110,Tryz.ntmps110
  go_wp2_with (simp only[iZ])
  go_ret
  exact ⟨rfl,rfl⟩
 ·rintro e w' ⟨rfl,rfl⟩
  exact ⟨_,c,rfl,bB.2 ⟨rfl,rfl⟩,hs,Ctx.le_refl _,St.refl _⟩
theorem TZ :cC Tryz.prog (ak Tryz.prog) pr:=by
 intro f vs h v h' hr
 unfold pr at hr
 split at hr
 ·obtain ⟨x,rfl⟩:=pq hr
  refine ⟨⟨_,Tryz.func89,rfl,by kernel_rfl⟩,fun c w us hv hs=> ?_⟩
  match us,hv with
  | [u],hv=> exact qZ oI hr hv.1 hs
 ·refine ⟨⟨_,Tryz.func110,rfl,by kernel_rfl⟩,fun c w us hv hs=> EY oI hr hv hs⟩
 ·refine ⟨⟨_,Tryz.func109,rfl,by kernel_rfl⟩,fun c w us hv hs=> ?_⟩
  have hb:Tryz.prog.bytesOf 38=96:=by kernel_rfl
  rw[←hb] at hr
  exact xN oI hr hv hs
 ·exact ⟨⟨_,Tryz.func55,rfl,by kernel_rfl⟩,fun c w us hv hs=> Ek hr hv hs⟩
 ·cases hr
theorem T0 :KpP pr:=by
 intro f vs h v h' hr base
 unfold pr at hr
 split at hr
 ·exact vx hr base
 ·have:=EZ hr;subst this;exact Kp.refl _ _
 ·exact BM hr base
 ·have:=Eh hr;subst this;exact Kp.refl _ _
 ·cases hr
end Go.Proofs.YtggjbepemdhohaaGreat
