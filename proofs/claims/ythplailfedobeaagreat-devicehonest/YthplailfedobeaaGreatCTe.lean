/- Texts for DeviceHonest, part 5. Conditions: none. -/
import Derived.Test.YthplailfedobeaaGreatCTd
import Derived.Test.YthplailfedobeaaGreatProg
import Derived.Shelf.Spec.SlicesInsertGrow
import Derived.Lib.BytesEntry
import Derived.Lib.Bytealg
import Derived.Laws.Externs
import Derived.ProofKit
set_option linter.unusedSimpArgs false
set_option linter.unusedVariables false
set_option linter.unusedSectionVars false
namespace Go.Proofs.YthplailfedobeaaGreat
open Go Go.Vm Go.Proofs Go.Cl
theorem nu {D:aL} (h:D.step.1=false):D.step.2=D.down D.dG:=by
 unfold aL.step at h ⊢
 by_cases c:D.bd=0
 ·rw[if_pos c]
 ·rw[if_neg c] at h;cases h
theorem xE {D:aL} (h:D.step.1=true):D.step.2= {D with bd:=if 0 < D.bd then D.bd - 1 else D.bd,steps:=D.steps+1}:=by
 unfold aL.step at h ⊢
 by_cases c:D.bd=0
 ·rw[if_pos c] at h;cases h
 ·rw[if_neg c]
theorem xF {K:Dk} (hp:K.ec=0) (t:Int):K.jg t= {K with now:=K.bJ,bJ:=K.bJ,ec:=0}:=by
 unfold Dk.jg Dk.dG
 rw[if_neg (by omega)]
theorem get_eq {K K':Dk} (h:K'.now=K.now) (i:Int):K'.get i=K.get i:=by unfold Dk.get;rw[h]
theorem Dr {K K':Dk} {n:Nat} {x:Option Bs} (h:K'.now=K.now.set n x) (i:Int) (hi:i≠n):K'.get i=K.get i:=by
 unfold Dk.get
 split
 ·rw[h,tP,if_neg (by omega)]
 ·rfl
theorem JW {K K':Dk} {n:Nat} {x:Bs} (h:K'.now=K.now.set n (some x)) (hk:K.now.length=10) (hn:n < 10):K'.get (n:Int)=some x:=by
 unfold Dk.get
 rw[if_pos (by omega),h,tP,if_pos (by omega)]
structure LD (K K':Dk) (n:Int):Prop where
 nl:K'.now=K'.bJ
 p0:K'.ec=0
 ne:∀i:Int,i≠n→K'.get i=K.get i
 ok:K'.OK
theorem JX {D:aL} (hp:D.dk.ec=0) (mU:D.dk.now=D.dk.bJ) (hk:D.dk.OK) (n:Int) (l:Bs):
 LD D.dk (D.lay n l).2.dk n∧((D.lay n l).1=true→Dk.kg n l=true→(D.lay n l).2.dk.get n=some l):=by
 have hc0:LD D.dk (D.dk.jg D.dG) n:=by
   rw[xF hp]
   exact ⟨rfl,rfl,fun i _=> get_eq mU.symm i,⟨hk.bJ,hk.bJ,hk.at_,hk.ls,hk.ls,hk.last⟩⟩
 unfold aL.lay
 cases c1:D.step.1 with
 | false=>
   rw[if_pos rfl,nu c1]
   exact ⟨hc0,fun h=> by cases h⟩
 | true=>
   rw[if_neg (by simp),xE c1]
   generalize hD1:({D with bd:=if 0 < D.bd then D.bd - 1 else D.bd,steps:=D.steps+1}:aL)=D1
   have hdk:D1.dk=D.dk:=by rw[←hD1]
   have htn:D1.dG=D.dG:=by rw[←hD1]
   by_cases ct:Dk.kg n l=true
   ·have ct':=ct
    simp only[Dk.kg,acn,decide_eq_true_eq] at ct'
    obtain ⟨⟨t1,t2⟩,t3⟩:=ct'
    obtain ⟨m,rfl⟩:∃m:Nat,n=m:=⟨n.toNat,by omega⟩
    have gj:(D1.put m l).dk=D.dk.put m l:=by unfold aL.put;simp only[ct,if_true,hdk,acC]
    have iM:=Dk.Ju hk (n:=m) (l:=l) (by omega) t3
    cases c3:(D1.put m l).step.1 with
    | false=>
      rw[if_pos rfl,nu c3]
      refine ⟨?_,fun h=> by cases h⟩
      have e:((D1.put m l).down (D1.put m l).dG).dk=(D.dk.put m l).jg (D1.put m l).dG:=by simp only[aL.down,gj]
      rw[e]
      refine ⟨rfl,rfl,fun i hi=> ?_,Dk.Jv iM _⟩
      by_cases ctn:0 <(D.dk.put m l).ec∧0 <(D1.put m l).dG
      ·exact Dr (K:=D.dk) (n:=m) (x:=some (l.take (D1.put m l).dG.toNat)) (by simp only[Dk.jg,Dk.dG,ctn,and_self,if_true];simp only[Dk.put,mU]) i hi
      ·exact get_eq (by simp only[Dk.jg,Dk.dG,ctn,if_false];simp only[Dk.put,mU]) i
    | true=>
      rw[if_neg (by simp),xE c3]
      have e:(D1.put m l).dk.sync=(D.dk.put m l).sync:=by rw[gj]
      simp only[e]
      refine ⟨⟨rfl,rfl,fun i hi=> Dr (K:=D.dk) (n:=m) (x:=some l) (by simp only[Dk.sync,Dk.put]) i hi,Dk.xx iM⟩,fun _ _=> JW (K:=D.dk) (by simp only[Dk.sync,Dk.put]) hk.now (by omega)⟩
   ·have gj:(D1.put n l).dk=D.dk:=by unfold aL.put;simp only[ct,acz,if_false,hdk]
    cases c3:(D1.put n l).step.1 with
    | false=>
      rw[if_pos rfl,nu c3]
      refine ⟨?_,fun h=> by cases h⟩
      have e:((D1.put n l).down (D1.put n l).dG).dk=D.dk.jg (D1.put n l).dG:=by simp only[aL.down,gj]
      rw[e,xF hp]
      exact ⟨rfl,rfl,fun i _=> get_eq mU.symm i,⟨hk.bJ,hk.bJ,hk.at_,hk.ls,hk.ls,hk.last⟩⟩
    | true=>
      rw[if_neg (by simp),xE c3]
      have e:(D1.put n l).dk.sync=D.dk.sync:=by rw[gj]
      simp only[e]
      exact ⟨⟨rfl,rfl,fun i _=> get_eq rfl i,Dk.xx hk⟩,fun _ h=> absurd h ct⟩
theorem Ds {D:aL} (hp:D.dk.ec=0) (mU:D.dk.now=D.dk.bJ) (hk:D.dk.OK):D.step.2.dk.now=D.step.2.dk.bJ∧D.step.2.dk.ec=0∧(∀i,D.step.2.dk.get i=D.dk.get i)∧D.step.2.dk.OK:=by
 cases c1:D.step.1 with
 | false=>
   rw[nu c1]
   simp only[aL.down,xF hp]
   exact ⟨trivial,trivial,fun i=> get_eq mU.symm i,⟨hk.bJ,hk.bJ,hk.at_,hk.ls,hk.ls,hk.last⟩⟩
 | true=>
   rw[xE c1]
   exact ⟨mU,hp,fun i=> rfl,hk⟩
structure HI0 (N:Int) (D:aL):Prop where
 ok:oH 0 N D
 dm:DM D
 dko:D.dk.OK
 nl:D.dk.now=D.dk.bJ
 sm:D.st.mem=D.mem∧D.st.bj=D.bj
 sk:jG D.st
 bey:beyond D.st
 hd:HD D.mem D.bj D.key D.dk D.r D.st
 is:D.is=1∨D.is=2
 cn:D.r.count≤N∧D.r.bD≤N
structure HI (N:Int) (D:aL):Prop extends HI0 N D where
 hl:D.is=1→bz D.r < 8
theorem HI.new {a b:Int} (k:Bs) (h1:1≤b) (h2:b≤8) (h3:0≤a) (h4:a < b):HI 0 (aL.new a b k):=by
 refine ⟨⟨oH.new k h1 h2 h3 h4,⟨h1,h2,h3,h4⟩,Dk.tO,rfl,⟨rfl,rfl⟩,jG.new h1 h2 h3 h4,fun j _=> rfl,⟨[],bY,[],ba.new a b,rfl,rfl,?_,rfl⟩,.inl rfl,show jf.count≤0∧jf.bD≤0 by decide⟩,fun _=> show bz jf < 8 by decide⟩
 rw[if_neg (show ¬0 <(aL.new a b k).r.base from (by decide:¬0 < jf.base))];rfl
theorem xG {r:ah} {hd:Bs} (hw:r.wf) (hr:bm r=true) (hl:bz r < 8) (hc:r.count < 1099511627776):(eK r hd).2=true:=by
 have:=q11z hr
 rw[q19z hr] at hl
 have nr:bm ⟨r.bD,r.count+1,r.base,hd,r.aG⟩=true:=by
   unfold bm
   simp only[acn,adg,decide_eq_true_eq]
   have:=hw.base
   exact ⟨⟨⟨⟨⟨by omega,by omega⟩,by omega⟩,by omega⟩,by omega⟩,.inl (by omega)⟩
 unfold eK xw
 rw[if_pos ⟨hr,nr⟩]
theorem BG {r:ah} (hl:bz r < 8):bg r=2+bz r:=by unfold bg;rw[if_neg (by omega)]
theorem HI0.mk' {N M:Int} {D E:aL} (h:HI0 N D) (hs:D.same E) (hl:(E.dk.now=E.dk.bJ∧E.dk.OK∧tZ D.dk E.dk D.r)) (iM:oH 0 M E) (hN:N≤M) (hi:E.is=D.is∨E.is=2):HI0 M E:=by
 obtain ⟨m1,m2,m3,m4,m5⟩:=hs
 obtain ⟨l1,l2,l3⟩:=hl
 refine ⟨iM,⟨by rw[m2];exact h.dm.m1,by rw[m2];exact h.dm.m2,by rw[m1];exact h.dm.m3,by rw[m1,m2];exact h.dm.m4⟩,l2,l1,by rw[m1,m2,m4];exact h.sm,by rw[m4];exact h.sk,by rw[m4];exact h.bey,?_,?_,?_⟩
 ·rw[m1,m2,m3,m4,m5]
  exact h.hd.same h.ok.gw.base.1 l3
 ·rcases hi with hi | hi
  ·rw[hi];exact h.is
  ·exact .inr hi
 ·rw[m5];have:=h.cn;omega
theorem Pr {D:aL} {n:Int} {l:Bs} (h:(D.lay n l).1=false):(D.lay n l).2.is=2:=by
 unfold aL.lay at h ⊢
 cases c1:D.step.1 with
 | false=>
   rw[if_pos rfl,nu c1];rfl
 | true=>
   rw[c1,if_neg (by simp)] at h
   rw[if_neg (by simp)]
   cases c3:(D.step.2.put n l).step.1 with
   | false=> rw[if_pos rfl,nu c3];rfl
   | true=> rw[c3,if_neg (by simp)] at h;cases h
theorem aL.same.trans {A B C:aL} (h:A.same B) (k:B.same C):A.same C:=by
 obtain ⟨a1,a2,a3,a4,a5⟩:=h
 obtain ⟨b1,b2,b3,b4,b5⟩:=k
 exact ⟨b1.trans a1,b2.trans a2,b3.trans a3,b4.trans a4,b5.trans a5⟩
theorem wg {K K':Dk} {r:ah} {n:Int} (hl:LD K K' n) (h1:n≠r.aG) (h2:n < 2∨2+bz r≤n):tZ K K' r:=
 ⟨fun _=> hl.ne _ (fun e=> h1 e.symm),fun i hi=> hl.ne _ (fun e=> by omega)⟩
theorem rI {A B C:Dk} {r:ah} (h:tZ A B r) (hg:∀i,C.get i=B.get i):tZ A C r:=
 ⟨fun hb=>(hg _).trans (h.1 hb),fun i hi=>(hg _).trans (h.2 i hi)⟩
theorem HI0.fold {N:Int} {D:aL} (h:HI0 N D) (hi:D.is=1) (h8:bz D.r=8):
 HI (N+3) D.fold.2∧D.fold.2.st=D.st∧D.fold.2.r.count=D.r.count∧D.fold.2.r.bD=D.r.bD∧(D.fold.1=true→D.fold.2.is=1)∧(D.fold.1=false→D.fold.2.is=2):=by
 have Br:=q11z h.ok.gr
 have hp0:D.dk.ec=0:=Nat.le_zero.1 h.ok.ec
 obtain ⟨hL,hG⟩:=JX hp0 h.nl h.dko (1 - D.r.aG) D.mV
 have ok1:=h.ok.lay (1 - D.r.aG) D.mV
 obtain ⟨s1,i1⟩:=aL.qe D (1 - D.r.aG) D.mV
 have sk1:tZ D.dk (D.lay (1 - D.r.aG) D.mV).2.dk D.r:=wg hL (by omega) (.inl (by omega))
 have hil:D.mV.length≤8192:=tQ _ _ _
 have fk:Dk.kg (1 - D.r.aG) D.mV=true:=by
   simp only[Dk.kg,acn,decide_eq_true_eq];omega
 have hf:=Pr (D:=D) (n:=1 - D.r.aG) (l:=D.mV)
 unfold aL.fold
 generalize (D.lay (1 - D.r.aG) D.mV)=L at *
 cases c1:L.1 with
 | false=>
   rw[if_pos rfl]
   obtain ⟨m1,m2,m3,m4,m5⟩:=s1
   have qL:=hf c1
   have h0:=h.mk' ⟨m1,m2,m3,m4,m5⟩ ⟨hL.nl,hL.ok,sk1⟩ (ok1.wk (p':=0) (N':=N+3) (by omega) (by omega)) (by omega) (.inr qL)
   exact ⟨⟨h0,fun h1=> by rw[show (false,L.2).2=L.2 from rfl,qL] at h1;cases h1⟩,m4,by rw[m5],by rw[m5],(fun h=> by cases h),fun _=> qL⟩
 | true=>
   rw[if_neg (by simp)]
   obtain ⟨t1,t2,t3,t4⟩:=Ds hL.p0 hL.nl hL.ok
   have ok2:=ok1.step
   obtain ⟨s2,i2⟩:=aL.jA L.2
   have sk2:=rI sk1 t3
   have s12:=s1.trans s2
   cases c2:L.2.step.1 with
   | false=>
     rw[if_pos rfl]
     have qL:L.2.step.2.is=2:=by rw[nu c2];rfl
     obtain ⟨m1,m2,m3,m4,m5⟩:=s12
     have h0:=h.mk' ⟨m1,m2,m3,m4,m5⟩ ⟨t1,t4,sk2⟩ (ok2.wk (p':=0) (N':=N+3) (by omega) (by omega)) (by omega) (.inr qL)
     exact ⟨⟨h0,fun h1=> by rw[show (false,L.2.step.2).2=L.2.step.2 from rfl,qL] at h1;cases h1⟩,m4,by rw[m5],by rw[m5],(fun h=> by cases h),fun _=> qL⟩
   | true=>
     rw[if_neg (by simp)]
     have is2:L.2.step.2.is=1:=by rw[i2 c2,i1 c1,hi]
     have A9:=(t3 (1 - D.r.aG)).trans (hG c1 fk)
     generalize L.2.step.2=E at *
     obtain ⟨m1,m2,m3,m4,m5⟩:=s12
     have hcb:D.r.base < D.r.count:=by rw[q19z h.ok.gr] at h8;omega
     obtain ⟨f1,f2,f3⟩:=HD.fold (key:=D.key) (K:=E.dk) h.ok.gw h.ok.gr hcb h.sk h.bey rfl A9
     have him:(kM D.key D.r (gD D.st)).1=D.mV:=rfl
     rw[him] at f1 f2 f3
     simp only[m5]
     have jZ:bm (iN D.r (cV D.mV)).1=true:=by
       have:=f2
       unfold iN xw at this ⊢
       rw[if_neg (by omega)] at this ⊢
       split at this
       ·rename_i c;rw[if_pos c];exact c.2
       ·cases this
     have xh:(iN D.r (cV D.mV)).1.wf:=by
       rw[f3]
       obtain ⟨w1,w2,w3,w4,w5⟩:=h.ok.gw
       exact ⟨w1,w2,w2,bq _,by simp only;omega⟩
     have hh0:bz (iN D.r (cV D.mV)).1=0:=by rw[q19z jZ,f3];simp
     refine ⟨⟨⟨⟨ok2.ec,ok2.s0,by have:=ok2.s1;simp only;omega,ok2.f1,jZ,xh,fun _=> by simp only[m4];exact h.sk,.inl is2⟩,⟨by simp only[m2];exact h.dm.m1,by simp only[m2];exact h.dm.m2,by simp only[m1];exact h.dm.m3,by simp only[m1,m2];exact h.dm.m4⟩,t4,t1,by simp only[m1,m2,m4];exact h.sm,by simp only[m4];exact h.sk,by simp only[m4];exact h.bey,?_,.inl is2,?_⟩,fun _=> by simp only;omega⟩,m4,by simp only[f3],by simp only[f3],fun _=> is2,(fun h=> by cases h)⟩
     ·simp only[m1,m2,m3,m4]
      have:=h.sm
      rw[this.1,this.2] at f1
      exact f1
     ·simp only[f3];have:=h.cn;omega
theorem HI.wk {N M:Int} {D:aL} (h:HI N D) (hm:N≤M):HI M D:=
 ⟨⟨h.ok.wk (acm _) hm,h.dm,h.dko,h.nl,h.sm,h.sk,h.bey,h.hd,h.is,by have:=h.cn;omega⟩,h.hl⟩
theorem Nb {D:aL} (h:D.is=2) (r:av):D.do r=(29,D):=by
 have:fe D=29:=by unfold fe;rw[if_pos h]
 unfold aL.do
 rw[if_pos (by omega),this]
theorem YK {D:aL} (h:D.is=1) {r:av} (hc:bT D.st r≠0):D.do r=(bT D.st r,D):=by
 have:fe D=0:=by unfold fe;rw[if_neg (by omega),if_neg (by omega)]
 unfold aL.do
 rw[if_neg (by omega),if_pos hc]
def Kept (D E:aL) (e:Int) (r:av):Prop:=
 (E.r=D.r∧E.st=D.st∧e=29∧E.is=2)∨(E.r.count=D.r.count+1∧E.r.bD=D.r.bD∧E.st=(bf D.st r).2∧(e=0∧E.is=1∨e=29∧E.is=2))
theorem HI.do {N:Int} {D:aL} (h:HI N D) (hN:N < 1000000000) {r:av} (hw:r.wf) (hi:D.is=1) (hc:bT D.st r=0):HI (N+6) (D.do r).2∧Kept D (D.do r).2 (D.do r).1 r:=by
 have Hn:fe D=0:=by unfold fe;rw[if_neg (by omega),if_neg (by omega)]
 have Br:=q11z h.ok.gr
 have hp0:D.dk.ec=0:=Nat.le_zero.1 h.ok.ec
 have hh:=h.hl hi
 have hh0:=jH D.r h.ok.gw
 have fE:=BG hh
 have hcn:=h.cn
 have iK:(D.next r).2=true:=xG h.ok.gw h.ok.gr hh (by omega)
 have hhl:(dy D.r.head (D.frame r)).length=16:=by simp[dy,dx,bq]
 obtain ⟨n1,n2,n3,n4⟩:=q30z (hd:=dy D.r.head (D.frame r)) h.ok.gw hhl iK
 obtain ⟨hL,hG⟩:=JX hp0 h.nl h.dko (bg D.r) (D.frame r)
 have ok1:=h.ok.lay (bg D.r) (D.frame r)
 obtain ⟨s1,i1⟩:=aL.qe D (bg D.r) (D.frame r)
 have sk1:tZ D.dk (D.lay (bg D.r) (D.frame r)).2.dk D.r:=wg hL (by omega) (.inr (by omega))
 have m6:=vV D hw hw.ag.2 h.ok.gw.head
 have fk:Dk.kg (bg D.r) (D.frame r)=true:=by
   simp only[Dk.kg,acn,decide_eq_true_eq];omega
 have hf:=Pr (D:=D) (n:=bg D.r) (l:=D.frame r)
 have hpd:D.y9 r= {(D.lay (bg D.r) (D.frame r)).2.step.2 with r:=(D.next r).1,st:=(bf (D.lay (bg D.r) (D.frame r)).2.step.2.st r).2}:=rfl
 unfold aL.do
 rw[if_neg (by omega),if_neg (by omega),if_neg (by simp[iK]),hpd]
 generalize (D.lay (bg D.r) (D.frame r))=L at *
 cases c1:L.1 with
 | false=>
   rw[if_pos rfl]
   obtain ⟨m1,m2,m3,m4,m5⟩:=s1
   have qL:=hf c1
   have h0:=h.toHI0.mk' ⟨m1,m2,m3,m4,m5⟩ ⟨hL.nl,hL.ok,sk1⟩ (ok1.wk (p':=0) (N':=N+6) (by omega) (by omega)) (by omega) (.inr qL)
   exact ⟨⟨h0,fun h1=> by rw[show ((29:Int),L.2).2=L.2 from rfl,qL] at h1;cases h1⟩,.inl ⟨m5,m4,rfl,qL⟩⟩
 | true=>
   rw[if_neg (by simp)]
   obtain ⟨t1,t2,t3,t4⟩:=Ds hL.p0 hL.nl hL.ok
   have ok2:=ok1.step
   obtain ⟨s2,i2⟩:=aL.jA L.2
   have sk2:=rI sk1 t3
   have s12:=s1.trans s2
   cases c2:L.2.step.1 with
   | false=>
     rw[if_pos rfl]
     have qL:L.2.step.2.is=2:=by rw[nu c2];rfl
     obtain ⟨m1,m2,m3,m4,m5⟩:=s12
     have h0:=h.toHI0.mk' ⟨m1,m2,m3,m4,m5⟩ ⟨t1,t4,sk2⟩ (ok2.wk (p':=0) (N':=N+6) (by omega) (by omega)) (by omega) (.inr qL)
     exact ⟨⟨h0,fun h1=> by rw[show ((29:Int),L.2.step.2).2=L.2.step.2 from rfl,qL] at h1;cases h1⟩,.inl ⟨m5,m4,rfl,qL⟩⟩
   | true=>
     rw[if_neg (by simp)]
     have is2:L.2.step.2.is=1:=by rw[i2 c2,i1 c1,hi]
     have A9:=(t3 (bg D.r)).trans (hG c1 fk)
     rw[fE] at A9
     generalize L.2.step.2=E at *
     obtain ⟨m1,m2,m3,m4,m5⟩:=s12
     have f1:=HD.next (x:=r) (l:=D.frame r) (h.hd.same h.ok.gw.base.1 sk2) h.ok.gw hw h.sk hc rfl iK A9
     have cC:eK D.r (dy D.r.head (D.frame r))=D.next r:=rfl
     rw[cC] at n1 n3 n4 f1
     have hA:HI0 (N+3) {E with r:=(D.next r).1,st:=(bf E.st r).2}:=by
       refine ⟨⟨ok2.ec,ok2.s0,by have:=ok2.s1;simp only;omega,ok2.f1,n3,n4,fun _=> by simp only[m4];exact nh h.sk hw hw.ag.2,.inl is2⟩,⟨by simp only[m2];exact h.dm.m1,by simp only[m2];exact h.dm.m2,by simp only[m1];exact h.dm.m3,by simp only[m1,m2];exact h.dm.m4⟩,t4,t1,?_,by simp only[m4];exact nh h.sk hw hw.ag.2,by simp only[m4];exact xD h.bey,?_,.inl is2,?_⟩
       ·simp only[m1,m2,m4]
        have:=h.sm
        rw[←this.1,←this.2]
        unfold bf
        split
        ·exact ⟨rfl,rfl⟩
        ·split
         ·exact ⟨rfl,rfl⟩
         ·split
          ·exact ⟨rfl,rfl⟩
          ·split <;> exact ⟨rfl,rfl⟩
       ·simp only[m1,m2,m3,m4]
        exact f1
       ·simp only[n1];omega
     have cn:(D.next r).1.count=D.r.count+1:=by rw[n1]
     have bn:(D.next r).1.bD=D.r.bD:=by rw[n1]
     by_cases c8:bz (D.next r).1=8
     ·rw[if_pos c8]
      obtain ⟨g1,g2,g3,g4,g5,g6⟩:=hA.fold is2 c8
      generalize ({E with r:=(D.next r).1,st:=(bf E.st r).2}:aL).fold=Z at *
      refine ⟨g1.wk (by omega),.inr ⟨g3.trans cn,g4.trans bn,by rw[g2,m4],?_⟩⟩
      cases c9:Z.1 with
      | false=> exact .inr ⟨rfl,g6 c9⟩
      | true=> exact .inl ⟨rfl,g5 c9⟩
     ·rw[if_neg c8]
      have hn8:=jH (D.next r).1 n4
      exact ⟨HI.wk ⟨hA,fun _=> by simp only;omega⟩ (by omega),.inr ⟨cn,bn,by simp only[m4],.inl ⟨rfl,is2⟩⟩⟩
theorem Nc {r:ah} (hr:bm r=true) (hb:r.bD < 1099511627776):(cF r).2=true:=by
 have nr:bm ⟨r.bD+1,r.count,r.base,r.head,r.aG⟩=true:=by
   have:=q11z hr
   unfold bm at hr ⊢
   simp only[acn,adg,decide_eq_true_eq] at hr ⊢
   obtain ⟨⟨⟨⟨⟨h1,h2⟩,h3⟩,h4⟩,h5⟩,h6⟩:=hr
   exact ⟨⟨⟨⟨⟨by omega,h2⟩,h3⟩,h4⟩,h5⟩,h6⟩
 unfold cF xw
 rw[if_pos ⟨hr,nr⟩]
theorem HI.start {N:Int} {D:aL} (h:HI N D) (hN:N < 1000000000) (hi:D.is=2):HI (N+4) D.start.2∧D.start.2.st=D.st∧D.start.2.r.count=D.r.count∧D.start.2.r.bD=D.r.bD+1∧
 (D.start.1=0∧D.start.2.is=1∨D.start.1=29∧D.start.2.is=2)∧(bz D.r < 8→D.start=(0, {D.up D.st with r:=⟨D.r.bD+1,D.r.count,D.r.base,D.r.head,D.r.aG⟩})):=by
 have hcn:=h.cn
 have hb:=Nc h.ok.gr (by omega)
 obtain ⟨b1,b2,b3⟩:=q29z h.ok.gw hb
 have hd2:=h.hd.bD h.ok.gw hb h.ok.gr
 have hld:D.ja.load=some D.st:=HD.load (D:=D.ja) b2 hd2
 have Ho:bz (cF D.r).1=bz D.r:=by rw[q19z b2,q19z h.ok.gr,b1]
 have hup:D.up D.st= {D.up D.st with r:=⟨D.r.bD+1,D.r.count,D.r.base,D.r.head,D.r.aG⟩}:=by
   rw[←b1];rfl
 have hU:HI0 (N+1) (D.up D.st):=
   ⟨⟨h.ok.ec,h.ok.s0,by have:=h.ok.s1;show D.steps≤_;omega,h.ok.f1,b2,b3,fun _=> h.sk,.inl rfl⟩,⟨h.dm.m1,h.dm.m2,h.dm.m3,h.dm.m4⟩,h.dko,h.nl,h.sm,h.sk,h.bey,hd2,.inl rfl,by show (cF D.r).1.count≤_∧(cF D.r).1.bD≤_;rw[b1];simp only;omega⟩
 have gk:(D.up D.st).r.count=D.r.count:=by show (cF D.r).1.count=_;rw[b1]
 have hrb:(D.up D.st).r.bD=D.r.bD+1:=by show (cF D.r).1.bD=_;rw[b1]
 have aR:(D.up D.st).st=D.st:=rfl
 have hui:(D.up D.st).is=1:=rfl
 have hur:(D.up D.st).r=(cF D.r).1:=rfl
 unfold aL.start
 rw[if_neg (by omega),if_neg (by omega),if_neg (by simp[hb]),hld]
 simp only
 rw[←hup]
 generalize D.up D.st=U at *
 by_cases c8:bz (cF D.r).1=8
 ·rw[if_pos c8]
  obtain ⟨g1,g2,g3,g4,g5,g6⟩:=hU.fold hui (by rw[hur];exact c8)
  generalize U.fold=Z at *
  refine ⟨?_,g2.trans aR,g3.trans gk,g4.trans hrb,?_,fun hc=> by omega⟩
  ·exact g1.wk (by omega)
  ·cases c9:Z.1 with
   | false=> exact .inr ⟨rfl,g6 c9⟩
   | true=> exact .inl ⟨rfl,g5 c9⟩
 ·rw[if_neg c8]
  have h8:=jH (cF D.r).1 b3
  exact ⟨HI.wk ⟨hU,fun _=> by rw[hur];omega⟩ (by omega),aR,gk,hrb,.inl ⟨rfl,hui⟩,fun _=> rfl⟩
theorem lM {D:aL} (h:D.bd < 0):D.step=(true, {D with steps:=D.steps+1}):=by
 unfold aL.step
 rw[if_neg (by omega),if_neg (by omega)]
theorem ub {D:aL} (h:D.bd < 0) (n:Int) (l:Bs):D.lay n l=(true, {D with steps:=D.steps+1+1,dk:=(D.put n l).dk.sync}):=by
 have e:({D with steps:=D.steps+1}:aL).put n l= {D.put n l with steps:=D.steps+1}:=rfl
 have h2:({D.put n l with steps:=D.steps+1}:aL).bd < 0:=h
 unfold aL.lay
 rw[lM h]
 simp only[e,lM h2]
 simp only[adR,if_false]
 rfl
theorem wh {D:aL} (h:D.bd < 0):D.fold=(true, {D with steps:=D.steps+1+1+1,dk:=(D.put (1 - D.r.aG) D.mV).dk.sync,r:=(iN D.r (cV D.mV)).1}):=by
 have h2:({D with steps:=D.steps+1+1,dk:=(D.put (1 - D.r.aG) D.mV).dk.sync}:aL).bd < 0:=h
 unfold aL.fold
 rw[ub h]
 simp only[lM h2,adR,if_false]
theorem Nd {N:Int} {D:aL} (h:HI N D) (hN:N < 1000000000) {r:av} (hw:r.wf) (hi:D.is=1) (hc:bT D.st r=0) (hf:D.bd < 0):
 (D.do r).1=0∧(D.do r).2.is=1∧(D.do r).2.bd=D.bd∧(D.do r).2.steps=D.steps+(if bz D.r=7 then 6 else 3)∧bz (D.do r).2.r=(if bz D.r=7 then 0 else bz D.r+1):=by
 have Hn:fe D=0:=by unfold fe;rw[if_neg (by omega),if_neg (by omega)]
 have hh:=h.hl hi
 have hcn:=h.cn
 have iK:(D.next r).2=true:=xG h.ok.gw h.ok.gr hh (by omega)
 have hhl:(dy D.r.head (D.frame r)).length=16:=by simp[dy,dx,bq]
 obtain ⟨n1,n2,n3,n4⟩:=q30z (hd:=dy D.r.head (D.frame r)) h.ok.gw hhl iK
 have cC:eK D.r (dy D.r.head (D.frame r))=D.next r:=rfl
 rw[cC] at n1 n3 n4
 have h2:({D with steps:=D.steps+1+1,dk:=(D.put (bg D.r) (D.frame r)).dk.sync}:aL).bd < 0:=hf
 have hp:D.y9 r= {D with steps:=D.steps+1+1+1,dk:=(D.put (bg D.r) (D.frame r)).dk.sync,r:=(D.next r).1,st:=(bf D.st r).2}:=by
   unfold aL.y9
   rw[ub hf]
   simp only[lM h2]
 have Ps:bz (D.next r).1=bz D.r+1:=by rw[q19z n3,q19z h.ok.gr,n1];simp only;omega
 unfold aL.do
 rw[if_neg (by omega),if_neg (by omega),if_neg (by simp[iK]),ub hf]
 simp only[lM h2,adR,if_false,hp]
 by_cases c7:bz D.r=7
 ·rw[if_pos (by omega),if_pos c7,if_pos c7]
  have h3:({D with steps:=D.steps+1+1+1,dk:=(D.put (bg D.r) (D.frame r)).dk.sync,r:=(D.next r).1,st:=(bf D.st r).2}:aL).bd < 0:=hf
  rw[wh h3]
  simp only[adR,if_false]
  refine ⟨trivial,hi,trivial,by omega,?_⟩
  have hcb:¬(D.next r).1.count≤(D.next r).1.base:=by rw[q19z n3] at Ps;omega
  have Br:=q11z n3
  generalize hb:(cV (aL.mV {D with steps:=D.steps+1+1+1,dk:=(D.put (bg D.r) (D.frame r)).dk.sync,r:=(D.next r).1,st:=(bf D.st r).2}))=sm
  have nr:bm ⟨(D.next r).1.bD,(D.next r).1.count,(D.next r).1.count,sm,1 - (D.next r).1.aG⟩=true:=by
    unfold bm
    simp only[acn,adg,decide_eq_true_eq]
    have:=n4.base
    exact ⟨⟨⟨⟨⟨by omega,by omega⟩,by omega⟩,by omega⟩,by omega⟩,.inl (by omega)⟩
  have:(iN (D.next r).1 sm).1=⟨(D.next r).1.bD,(D.next r).1.count,(D.next r).1.count,sm,1 - (D.next r).1.aG⟩:=by
    unfold iN xw
    rw[if_neg hcb,if_pos ⟨n3,nr⟩]
  rw[this,q19z nr]
  simp only;omega
 ·rw[if_neg (by omega),if_neg c7,if_neg c7]
  exact ⟨rfl,hi,rfl,by simp only;omega,Ps⟩
theorem JY {N:Int} {D:aL} (h:HI N D) (hN:N < 1000000000) {r:av} (hi:D.is=1) (hc:bT D.st r=0) (h0:0≤D.bd) (h2:D.bd≤2):
 (D.do r).1=29∧(D.do r).2.is=2∧(D.do r).2.steps=D.steps+D.bd∧(D.do r).2.r=D.r∧(D.do r).2.st=D.st∧(D.do r).2.bd= -1:=by
 have Hn:fe D=0:=by unfold fe;rw[if_neg (by omega),if_neg (by omega)]
 have hh:=h.hl hi
 have hcn:=h.cn
 have iK:(D.next r).2=true:=xG h.ok.gw h.ok.gr hh (by omega)
 unfold aL.do
 rw[if_neg (by omega),if_neg (by omega),if_neg (by simp[iK])]
 by_cases f0:D.bd=0
 ·have e1:D.step=(false,D.down D.dG):=by unfold aL.step;rw[if_pos f0]
  have e2:D.lay (bg D.r) (D.frame r)=(false,D.down D.dG):=by unfold aL.lay;rw[e1];simp
  rw[e2]
  simp only[if_true]
  exact ⟨trivial,rfl,by simp only[aL.down];omega,rfl,rfl,rfl⟩
 ·have e1:D.step=(true, {D with bd:=D.bd - 1,steps:=D.steps+1}):=by
    unfold aL.step
    rw[if_neg f0,if_pos (by omega)]
  by_cases f1:D.bd=1
  ·have e2:(({D with bd:=D.bd - 1,steps:=D.steps+1}:aL).put (bg D.r) (D.frame r)).step=(false,(({D with bd:=D.bd - 1,steps:=D.steps+1}:aL).put (bg D.r) (D.frame r)).down D.dG):=by
     unfold aL.step
     rw[if_pos (by show D.bd - 1=0;omega)]
     rfl
   have e3:D.lay (bg D.r) (D.frame r)=(false,(({D with bd:=D.bd - 1,steps:=D.steps+1}:aL).put (bg D.r) (D.frame r)).down D.dG):=by
     unfold aL.lay
     rw[e1]
     simp only[e2,adR,if_false,if_true]
   rw[e3]
   simp only[if_true]
   exact ⟨trivial,rfl,by simp only[aL.down,aL.put];omega,rfl,rfl,rfl⟩
  ·have f2:D.bd=2:=by omega
   have e2:(({D with bd:=D.bd - 1,steps:=D.steps+1}:aL).put (bg D.r) (D.frame r)).step=(true, {({D with bd:=D.bd - 1,steps:=D.steps+1}:aL).put (bg D.r) (D.frame r) with bd:=D.bd - 1 - 1,steps:=D.steps+1+1}):=by
     unfold aL.step
     rw[if_neg (by show ¬D.bd - 1=0;omega),if_pos (by show 0 < D.bd - 1;omega)]
     rfl
   have e3:D.lay (bg D.r) (D.frame r)=(true, {({D with bd:=D.bd - 1,steps:=D.steps+1}:aL).put (bg D.r) (D.frame r) with bd:=D.bd - 1 - 1,steps:=D.steps+1+1,dk:=(({D with bd:=D.bd - 1,steps:=D.steps+1}:aL).put (bg D.r) (D.frame r)).dk.sync}):=by
     unfold aL.lay
     rw[e1]
     simp only[e2,adR,if_false]
   rw[e3]
   simp only[adR,if_false]
   generalize hE:({({D with bd:=D.bd - 1,steps:=D.steps+1}:aL).put (bg D.r) (D.frame r) with bd:=D.bd - 1 - 1,steps:=D.steps+1+1,dk:=(({D with bd:=D.bd - 1,steps:=D.steps+1}:aL).put (bg D.r) (D.frame r)).dk.sync}:aL)=E
   have q1:E.bd=0:=by rw[←hE];simp only;omega
   have q2:E.steps=D.steps+2:=by rw[←hE];simp only;omega
   have q3:E.r=D.r∧E.st=D.st:=by rw[←hE];exact ⟨rfl,rfl⟩
   have e4:E.step=(false,E.down E.dG):=by unfold aL.step;rw[if_pos q1]
   rw[e4]
   simp only[if_true]
   exact ⟨trivial,rfl,by simp only[aL.down];omega,q3.1,q3.2,rfl⟩
def aa8 (s:ba):Prop:=∀j,j < 16→(s.p j).role=1
def dM (v:ae):av:=⟨1,0,0,0,v,[]⟩
theorem uc {v:ae} (h:aP v=true):aS (dM v)=true:=by
 unfold aS dM
 simp[h]
theorem Nf {v:ae} (h:v.wf):(dM v).wf:=⟨by simp[dM],by simp[dM],by simp[dM],by simp[dM],h,by simp[dM]⟩
theorem HI.bd {N:Int} {D:aL} (h:HI N D) (n t:Int) (hn:n≤9223372036854775807):HI N (D.jq n t):=by
 obtain ⟨⟨⟨a1,a2,a3,a4,a5,a6,a7,a8⟩,b,c,d,e,f,g,i,j,k⟩,l⟩:=h
 exact ⟨⟨⟨a1,a2,a3,by simp only[aL.jq];omega,a5,a6,a7,a8⟩,⟨b.m1,b.m2,b.m3,b.m4⟩,c,d,e,f,g,i,j,k⟩,l⟩
theorem HI.down {N:Int} {D:aL} (h:HI N D) (t:Int):HI N (D.down t):=by
 have hp0:D.dk.ec=0:=Nat.le_zero.1 h.ok.ec
 have hd:(D.down t).dk= {D.dk with now:=D.dk.bJ,bJ:=D.dk.bJ,ec:=0}:=by simp only[aL.down,xF hp0]
 have hk:=h.dko
 refine ⟨h.toHI0.mk' ⟨rfl,rfl,rfl,rfl,rfl⟩ ⟨by rw[hd],by rw[hd];exact ⟨hk.bJ,hk.bJ,hk.at_,hk.ls,hk.ls,hk.last⟩,⟨fun _=> by rw[hd];exact get_eq h.nl.symm _,fun i _=> by rw[hd];exact get_eq h.nl.symm _⟩⟩ (h.ok.down t) (Int.le_refl _) (.inr rfl),fun hi=> by cases hi⟩
theorem HI.stop {N:Int} {D:aL} (h:HI N D):HI N D.stop:=by
 unfold aL.stop
 split
 ·exact h.down 0
 ·exact h
structure Lw (h H:Hp) (id:Nat) (D:aL) (F:List Nat) (P:Nat→Prop):Prop where
 d:lY H id D F
 fw:Fw [] h H
 fn:∀j∈F,h.length≤j
 pn:∀j,P j→j∉F∧j < H.length
theorem Lw.op {h H H':Hp} {id:Nat} {D D':aL} {F F':List Nat} {P:Nat→Prop} (l:Lw h H id D F P) (hd:lY H' id D' F') (f:Fw F H H') (hn:∀j∈F',j∈F∨H.length≤j):
 Lw h H' id D' F' P∧∀j b,P j→H[j]? =some b→H'[j]? =some b:=by
 refine ⟨⟨hd,l.fw.new f (fun j hj=> .inl (l.fn j hj)),fun j hj=> ?_,fun j hj=> ?_⟩,fun j b hj hb=> f.db _ _ hb (l.pn j hj).1⟩
 ·rcases hn j hj with h1 | h1
  ·exact l.fn j h1
  ·have:=l.fw.len;omega
 ·obtain ⟨p1,p2⟩:=l.pn j hj
  refine ⟨fun hm=> ?_,f.lt p2⟩
  rcases hn j hm with h1 | h1
  ·exact p1 h1
  ·omega
theorem Lw.ext {h H H':Hp} {id:Nat} {D:aL} {F:List Nat} {P Q:Nat→Prop} (l:Lw h H id D F P) (f:Fw [] H H') (hq:∀j,Q j→P j∨(H.length≤j∧j < H'.length)):Lw h H' id D F Q:=by
 refine ⟨l.d.mono f (by simp),l.fw.trans f,l.fn,fun j hj=> ?_⟩
 rcases hq j hj with h1 | h1
 ·obtain ⟨p1,p2⟩:=l.pn j h1
  exact ⟨p1,f.lt p2⟩
 ·exact ⟨fun hm=> by have:=l.d.lt j hm;omega,h1.2⟩
theorem Fh (v:ae) (hv:aP v=true):bT (ba.new 0 1) (dM v)=0:=by
 unfold bT mg
 rw[if_neg (by simp[uc hv]),if_pos (show (dM v).kind=1 from rfl)]
 simp[dM,ba.new,Int.emod_one]
set_option maxRecDepth 100000
def dOf (n:Int):Bs:=[bt n,bt (qE .i64 n 8),3,0,0,0,0,0,0,0,0,0,0,0,0,0]
def qZ (n:Int):Bs:=[bt (within n 0 255),7,0,0]
theorem Pt (x:Int) (t:Nat):V.arr t [aa (bt x),aa (bt (qE .i64 x 8)),.s (.int .u8 3),.s (.int .u8 0),.s (.int .u8 0),.s (.int .u8 0),.s (.int .u8 0),.s (.int .u8 0),.s (.int .u8 0),.s (.int .u8 0),.s (.int .u8 0),.s (.int .u8 0),.s (.int .u8 0),.s (.int .u8 0),.s (.int .u8 0),.s (.int .u8 0)]= .arr t ((dOf x).map aa):=rfl
theorem JZ (x:Int) (t:Nat):V.arr t [aa (bt (within x 0 255)),.s (.int .u8 7),.s (.int .u8 0),.s (.int .u8 0)]= .arr t ((qZ x).map aa):=rfl
theorem aa9 (b:Nat) (h:Hp) (n:Int):run fns pr b 95 [.s (.int .i64 n)] h=some (.arr 27 ((dOf n).map aa),h):=by
 refine Vm.aQ (nt:=9) rfl Xh (by simp) ?_
 have hs:=fun cf base h=> pR (cf:=cf) (base:=base) (h:=h) .i64 .u64 n 8 (by decide)
 have dv:=fun cf base h=> pR (cf:=cf) (base:=base) (h:=h) .i64 .i64 n 8 (by decide)
 have ax:(0:Nat)=0:=rfl
 try simp only[B95,hs,dv,lz,Pt,go_sem,simprocAttr]
 repeat' (
   first | refine q5z ?_ ?_ | refine q3z ?_ ?_ | refine q4z ?_ ?_
   all_goals intro aj
   all_goals first | replace aj:=q2z aj | replace aj:=q1z aj | skip
   all_goals first | subst aj | replace ax:=And.intro aj ax
   all_goals try simp only[ax,B95,hs,dv,lz,Pt,go_sem,simprocAttr])
theorem Pu (b:Nat) (h:Hp) (n:Int) (h0: -9223372036854775808≤n) (h1:n≤9223372036854775807):run fns pr b 63 [.s (.int .i64 n)] h=some (.arr 54 ((qZ n).map aa),h):=by
 refine Vm.aQ (nt:=7) rfl Wh (by simp) ?_
 have hw:=fun h'=> g8 h.length h' n 0 255 (by omega) (by omega) (by omega) h0 h1
 have ax:(0:Nat)=0:=rfl
 try simp only[B63,hw,lz,JZ,go_sem,simprocAttr]
 repeat' (
   first | refine q5z ?_ ?_ | refine q3z ?_ ?_ | refine q4z ?_ ?_
   all_goals intro aj
   all_goals first | replace aj:=q2z aj | replace aj:=q1z aj | skip
   all_goals first | subst aj | replace ax:=And.intro aj ax
   all_goals try simp only[ax,B63,hw,lz,JZ,go_sem,simprocAttr])
theorem Ng (b:Nat) (h:Hp) (f:Bool) (l:Bs) (n:Nat):run fns pr b 96 [.al f none (l.map aa),.s (.int .i64 n)] h=some (.al false none ((l.take n).map aa),h):=by
 refine Vm.aQ (nt:=13) rfl Xj (by simp) ?_
 by_cases c:n < l.length
 ·have c':(n:Int)< l.length:=by omega
  obtain ⟨y,h1,h2⟩:=(dp h f l).hi (k:= .i64) (r:=n) (by omega)
  have:y= .al (f && n==l.length) none ((l.take n).map aa):=by
    have:=h1 (run fns pr 0) 0
    simp only[aC,gV,fj,aO,cX,dH,acy] at this
    simp[show n≤l.length by omega,←List.map_take] at this
    exact this.symm
  subst this
  simp only[B96,go_sem,simprocAttr,c',h1]
 ·have c':¬(n:Int)< l.length:=by omega
  have:l.take n=l:=ack (by omega)
  simp only[B96,go_sem,simprocAttr,c',this]
theorem Si (b:Nat) (h:Hp) (f:Bool) (l:Bs) (n:Int) (hn:0≤n):run fns pr b 96 [.al f none (l.map aa),.s (.int .i64 n)] h=some (.al false none ((l.take n.toNat).map aa),h):=by
 have:=Ng b h f l n.toNat
 rw[Int.toNat_of_nonneg hn] at this;exact this
def nw (x:KV) (id:Bs):ae:=
 if x.jd.tmod 4=3 then ⟨id,1+x.gen.tmod 1099511627776,bY,[],0,0,bY,true,decide ((x.jd.tdiv 4).tmod 2=1)⟩
 else ⟨id,1+x.gen.tmod 1099511627776,dOf x.mX,x.cx.take 64,within x.cW 1 32,within x.used 0 (within x.cW 1 32 - 1),dOf x.owner,false,false⟩
theorem wm (b:Nat) (h:Hp) (x:KV) (id:Bs) (hx:x.wf):run fns pr b 62 [x.enc,.arr 54 (id.map aa)] h=some ((nw x id).enc,h):=by
 refine Vm.aQ (nt:=46) rfl Wf (by simp) ?_
 obtain ⟨w0,w1,w2,w3,w4,w5,w6,w7⟩:=hx
 have g4:=ju (n:=x.cW) (lo:=1) (hi:=32) (by omega)
 have g5:=gZ (n:=x.cW) (lo:=1) (hi:=32) (by omega)
 have e1:=fun h'=> g8 h.length h' x.cW 1 32 (by omega) (by omega) (by omega) w3.1 w3.2
 have e2:=fun h'=> g8 h.length h' x.used 0 (within x.cW 1 32 - 1) (by omega) (by omega) (by omega) w4.1 w4.2
 have e7:=fun h' n=> aa9 h.length h' n
 have e8:=fun h' f=> Si h.length h' f x.cx 64 (by omega)
 have r1:=fun cf base h x=> iJ (cf:=cf) (base:=base) (h:=h) .i64 x 4 (by decide)
 have r2:=fun cf base h x=> iJ (cf:=cf) (base:=base) (h:=h) .i64 x 2 (by decide)
 have r4:=fun cf base h x=> iJ (cf:=cf) (base:=base) (h:=h) .u64 x 1099511627776 (by decide)
 have r5:=fun cf base h x=> yK (cf:=cf) (base:=base) (h:=h) .i64 x 4 (by decide)
 have h3:=aeg 1099511627776 w6.1
 have h4:=aem x.gen (show (0:Int)< 1099511627776 by decide)
 have mT:IntKind.u64.wrap (1+x.gen.tmod 1099511627776)=1+x.gen.tmod 1099511627776:=wrap_u64 (by omega) (by omega)
 have xh:IntKind.i64.wrap (within x.cW 1 32 - 1)=within x.cW 1 32 - 1:=wrap_i64 (by omega) (by omega)
 have hw3:IntKind.i64.wrap (x.jd.tdiv 4)=x.jd.tdiv 4:=by
   have: -9223372036854775808≤x.jd.tdiv 4∧x.jd.tdiv 4 < 9223372036854775808:=by
     rcases Int.le_total 0 x.jd with h0 | h0
     ·rw[adx h0];omega
     ·have e:x.jd.tdiv 4= -((-x.jd).tdiv 4):=by rw[Int.neg_tdiv];simp
      rw[e,adx (by omega)];omega
   exact wrap_i64 this.1 this.2
 simp only[show Int.toNat 64=64 from rfl] at e8
 have hlen:(x.cx.take 64).length≤140737488355328:=by simp;omega
 generalize hs:x.cx.take 64=l at e8 hlen
 unfold nw
 rw[hs]
 by_cases hh:x.jd.tmod 4=3
 ·rw[if_pos hh]
  have ax:(0:Nat)=0:=rfl
  try simp only[B62,KV.enc,ae.enc,r1,r2,r4,r5,mT,hw3,hh,gv,dR,go_sem,simprocAttr]
  repeat' (
    first | refine q5z ?_ ?_ | refine q3z ?_ ?_ | refine q4z ?_ ?_
    all_goals intro aj
    all_goals first | replace aj:=q2z aj | replace aj:=q1z aj | skip
    all_goals first | subst aj | replace ax:=And.intro aj ax
    all_goals try simp only[ax,B62,KV.enc,ae.enc,r1,r2,r4,r5,mT,hw3,hh,gv,dR,go_sem,simprocAttr])
 ·rw[if_neg hh]
  by_cases cC:l=[]
  ·subst cC
   simp only[acF] at e8
   have ax:(0:Nat)=0:=rfl
   try simp only[B62,KV.enc,ae.enc,e1,e2,e7,e8,r1,r4,mT,xh,hh,gv,dR,acF,go_sem,simprocAttr]
   repeat' (
     first | refine q5z ?_ ?_ | refine q3z ?_ ?_ | refine q4z ?_ ?_
     all_goals intro aj
     all_goals first | replace aj:=q2z aj | replace aj:=q1z aj | skip
     all_goals first | subst aj | replace ax:=And.intro aj ax
     all_goals try simp only[ax,B62,KV.enc,ae.enc,e1,e2,e7,e8,r1,r4,mT,xh,hh,gv,dR,acF,go_sem,simprocAttr])
  ·have ha:=fun cf base h f=> Fi (cf:=cf) (base:=base) (h:=h) (f:=f) cC hlen
   have ax:(0:Nat)=0:=rfl
   try simp only[B62,KV.enc,ae.enc,e1,e2,e7,e8,r1,r4,mT,xh,hh,ha,gv,dR,go_sem,simprocAttr]
   repeat' (
     first | refine q5z ?_ ?_ | refine q3z ?_ ?_ | refine q4z ?_ ?_
     all_goals intro aj
     all_goals first | replace aj:=q2z aj | replace aj:=q1z aj | skip
     all_goals first | subst aj | replace ax:=And.intro aj ax
     all_goals try simp only[ax,B62,KV.enc,ae.enc,e1,e2,e7,e8,r1,r4,mT,xh,hh,ha,gv,dR,go_sem,simprocAttr])
set_option maxRecDepth 100000
theorem J0 (n:Int):(qZ n).length=4:=rfl
def ny (s:Int) (n:Nat):List Bs:=((List.range n).filter fun i=> decide ((az (qZ (i:Nat)):Int)=s)).map fun i=> qZ (i:Nat)
theorem Fj (s:Int) (n:Nat):ny s (n+1)=if (az (qZ (n:Nat)):Int)=s then ny s n++[qZ (n:Nat)] else ny s n:=by
 unfold ny
 rw[adX,List.filter_append]
 split
 ·rename_i c;simp[c]
 ·rename_i c;simp[c]
theorem zi (s:Int) (n:Nat):(ny s n).length≤n:=by
 unfold ny;rw[acy];exact acN (List.length_filter_le _ _) (by simp)
theorem J1 (s:Int) (n:Nat):∀x∈ny s n,x.length=4:=by
 intro x hx;obtain ⟨i,_,rfl⟩:=ac6.1 hx;rfl
def Dt (x:Bs):V:= .arr 54 (x.map aa)
theorem Sj (x:Bs):V.ground (Dt x)=true:=gC _ (by simp[Dt,V.plain,bO])
theorem Nh (b:Nat) (h:Hp) (s:Int):run fns pr b 94 [.s (.int .i64 s)] h=some (.al false (some 54) ((ny s 256).map Dt),h):=by
 refine Vm.aQ (nt:=20) rfl Xf (by simp) ?_
 simp only[B94,Pg,Pf,go_sem,simprocAttr]
 refine aV (fun n e H=>∃(i q:Nat) (x:V),n=256 - i∧i≤256∧e 4= .s (.int .i64 (i:Nat))∧e 0= .s (.int .i64 s)∧e 3=x∧XR H (some 54) q x ((ny s i).map Dt)∧h.length≤q∧Fw [] h H)
   (fun e H=>∃(q:Nat) (x:V),e 3=x∧XR H (some 54) q x ((ny s 256).map Dt)∧h.length≤q∧Fw [] h H) 256 _ _ ⟨0,h.length,_,rfl,by omega,rfl,rfl,rfl,.inl ⟨rfl,rfl⟩,acm _,Fw.refl _ _⟩ ?_ ?_
 ·rintro n e H ⟨i,q,x,rfl,hi,e4,e0,e3,xr,hq,fw⟩
  by_cases c:i < 256
  ·have c':(i:Int)< 256:=by omega
   have hw:IntKind.i64.wrap ((i:Int)+1)=((i+1:Nat):Int):=q18z (by omega)
   have hid:=fun h0=> Pu h.length h0 (i:Nat) (by omega) (by omega)
   have pJ:=fun h0=> kf h.length h0 (qZ (i:Nat)) (by rw[J0];omega)
   have hs:=Fj s i
   by_cases cs:(az (qZ (i:Nat)):Int)=s
   ·rw[if_pos cs] at hs
    obtain ⟨x',H',k',h1,h2,h3,h4,h5⟩:=xr.Em (h:=h) (T:=[.cells (some 54) [Dt (qZ (i:Nat))]]) (idy:=H.length) (z:=Dt (qZ (i:Nat))) (bytes:=4) hq fw (by rw[aH];rfl) (Sj _) (by have:=zi s i;simp;omega)
    have hl:=fw.len
    have h3':Fw [] h H':=h3
    simp only[Dt] at h1
    simp only[e4,e0,e3,c',hid,pJ,cs,hw,h1,go_sem,simprocAttr]
    exact ⟨_,by omega,i+1,k',_,rfl,by omega,rfl,rfl,by rw[hs,adm];exact h2,by rcases h4 with rfl | h4 <;> omega,h3'⟩
   ·rw[if_neg cs] at hs
    simp only[e4,e0,e3,c',hid,pJ,cs,hw,go_sem,simprocAttr]
    exact ⟨_,by omega,i+1,q,_,rfl,by omega,rfl,rfl,by rw[hs];exact xr,hq,fw⟩
  ·have c':¬(i:Int)< 256:=by omega
   obtain rfl:i=256:=by omega
   simp only[e4,e0,e3,c',go_sem,simprocAttr]
   exact ⟨q,x,rfl,xr,hq,fw⟩
 ·rintro e H ⟨q,x,e3,xr,hq,fw⟩
  have hf:=xr.oy (n:=h.length) hq (by rw[cu];intro v hv;obtain ⟨w,_,rfl⟩:=ac6.1 hv;simp[Dt,V.plain,bO])
  simp only[e3,hf,fw.take,go_sem,simprocAttr]
def Du (l:List KV) (s:Int):Nat→List ae
 | 0=> []
 | n+1=> Du l s n++[nw (l.getD n default) ((ny s 256).getD n [])]
theorem xH (l:List KV) (s:Int):∀n,(Du l s n).length=n
 | 0=> rfl
 | n+1=> by simp[Du,xH l s n]
def oI (l:List KV) (s:Int):Nat:=min l.length (min 4 (ny s 256).length)
theorem BH (b:Nat) (h:Hp) (f:Bool) (l:List KV) (s:Int) (hl:∀x∈l,x.wf):run fns pr b 61 [.al f (some 43) (l.map KV.enc),.s (.int .i64 s)] h=some (.al false (some 56) ((Du l s (oI l s)).map ae.enc),h):=by
 refine Vm.aQ (nt:=39) rfl Wd (by simp) ?_
 have hid:=Nh h.length h s
 have hi4:=J1 s 256
 have hn:=zi s 256
 have hcn:oI l s=min l.length (min 4 (ny s 256).length):=rfl
 generalize aba:ny s 256=ids at hid hi4 hn hcn
 simp only[B61,O9,O8,hid,go_sem,simprocAttr]
 refine aV (fun n e H=>∃(i q:Nat) (x:V),n=oI l s - i∧i≤oI l s∧e 7= .s (.int .i64 (i:Nat))∧e 0= .al f (some 43) (l.map KV.enc)∧e 5= .al false (some 54) (ids.map Dt)∧e 6=x∧XR H (some 56) q x ((Du l s i).map ae.enc)∧h.length≤q∧Fw [] h H)
   (fun e H=>∃(q:Nat) (x:V),e 6=x∧XR H (some 56) q x ((Du l s (oI l s)).map ae.enc)∧h.length≤q∧Fw [] h H) (oI l s) _ _ ⟨0,h.length,_,rfl,by omega,rfl,rfl,rfl,rfl,.inl ⟨rfl,rfl⟩,acm _,Fw.refl _ _⟩ ?_ ?_
 ·rintro n e H ⟨i,q,x,rfl,hi,e7,e0,e5,e6,xr,hq,fw⟩
  by_cases c:i < oI l s
  ·have c1:i < l.length:=by omega
   have c2:i < 4:=by omega
   have c3:i < ids.length:=by omega
   have c1':(i:Int)<(l.length:Nat):=by omega
   have c2':(i:Int)< 4:=by omega
   have c3':(i:Int)<(ids.length:Nat):=by omega
   have hw:IntKind.i64.wrap ((i:Int)+1)=((i+1:Nat):Int):=q18z (by omega)
   have y1:l[i]? =some l[i]:=aci c1
   have y2:ids[i]? =some ids[i]:=aci c3
   have hv:=wm h.length H l[i] ids[i] (hl _ (ac3 c1))
   have hsn:Du l s (i+1)=Du l s i++[nw l[i] ids[i]]:=by
     simp only[Du,aba]
     rw[adk,adk,y1,y2];rfl
   generalize l[i]=kv at y1 hv hsn
   generalize ids[i]=id at y2 hv hsn
   have i1:=SR.ck (h:=H) (x:= .al f (some 43) (l.map KV.enc)) (.inl ⟨_,rfl⟩) (cf:=run fns pr h.length) (base:=h.length) (k:= .i64) (i:=i) (by simpa using c1)
   have i2:=SR.fL (h:=H) (x:= .al f (some 43) (l.map KV.enc)) (g:=some 43) (vs:=l.map KV.enc) (.inl ⟨_,rfl⟩) (cf:=run fns pr h.length) (base:=h.length) (i:=i) (v:=kv.enc) (by simp[y1]) rfl
   have i3:=SR.ck (h:=H) (x:= .al false (some 54) (ids.map Dt)) (.inl ⟨_,rfl⟩) (cf:=run fns pr h.length) (base:=h.length) (k:= .i64) (i:=i) (by simpa using c3)
   have i4:=SR.fL (h:=H) (x:= .al false (some 54) (ids.map Dt)) (g:=some 54) (vs:=ids.map Dt) (.inl ⟨_,rfl⟩) (cf:=run fns pr h.length) (base:=h.length) (i:=i) (v:= .arr 54 (id.map aa)) (by simp[y2,Dt]) rfl
   obtain ⟨x',H',k',h1,h2,h3,h4,h5⟩:=xr.Em (h:=h) (T:=[.cells (some 56) [(nw kv id).enc]]) (idy:=H.length) (z:=(nw kv id).enc) (bytes:=96) hq fw (by rw[aH];rfl) (sB _) (by have:=xH l s i;simp;omega)
   have hle:=fw.len
   have ev:(nw kv id).enc.ty=some 56:=rfl
   have es:(nw kv id).enc.aA=true:=rfl
   simp only[e7,e0,e5,e6,c1',c2',c3',hw,i1,i2,i3,i4,hv,ev,es,h1,acy,go_sem,simprocAttr]
   exact ⟨_,by omega,i+1,k',_,rfl,by omega,rfl,rfl,by rw[hsn,adm];exact h2,by rcases h4 with rfl | h4 <;> omega,h3⟩
  ·obtain rfl:i=oI l s:=by omega
   by_cases c1':((oI l s:Nat):Int)<(l.length:Nat)
   ·by_cases c2':((oI l s:Nat):Int)< 4
    ·have c3':¬((oI l s:Nat):Int)<(ids.length:Nat):=by omega
     simp only[e7,e0,e5,e6,c1',c2',c3',acy,go_sem,simprocAttr]
     exact ⟨q,x,rfl,xr,hq,fw⟩
    ·simp only[e7,e0,e5,e6,c1',c2',acy,go_sem,simprocAttr]
     exact ⟨q,x,rfl,xr,hq,fw⟩
   ·simp only[e7,e0,e5,e6,c1',acy,go_sem,simprocAttr]
    exact ⟨q,x,rfl,xr,hq,fw⟩
 ·rintro e H ⟨q,x,e6,xr,hq,fw⟩
  have hf:=xr.oy (n:=h.length) hq (by rw[cu];intro v hv;obtain ⟨w,_,rfl⟩:=ac6.1 hv;simp[ae.enc,V.plain,V.plain.all,bO])
  simp only[e6,hf,fw.take,go_sem,simprocAttr]
set_option maxRecDepth 100000
theorem wo (x:KV) {id:Bs} (hx:x.wf) (hid:id.length=4):(nw x id).wf:=by
 have h3:=aeg 1099511627776 hx.gen.1
 have h4:=aem x.gen (show (0:Int)< 1099511627776 by decide)
 have g4:=ju (n:=x.cW) (lo:=1) (hi:=32) (by omega)
 have g5:=gZ (n:=x.cW) (lo:=1) (hi:=32) (by omega)
 have g6:=ju (n:=x.used) (lo:=0) (hi:=within x.cW 1 32 - 1) (by omega)
 have g7:=gZ (n:=x.used) (lo:=0) (hi:=within x.cW 1 32 - 1) (by omega)
 unfold nw
 split
 ·exact ⟨hid,by simp only;omega,rfl,by simp,by simp,by simp,rfl,trivial,trivial⟩
 ·exact ⟨hid,by simp only;omega,rfl,by simp;omega,by simp only;omega,by simp only;omega,rfl,trivial,trivial⟩
theorem J2 {l:List KV} (s:Int) (hl:∀x∈l,x.wf):∀n,n≤oI l s→∀v∈Du l s n,v.wf
 | 0,_,v,hv=> by simp[Du] at hv
 | n+1,hn,v,hv=> by
   unfold Du at hv
   rcases acG.1 hv with hv | hv
   ·exact J2 s hl n (by omega) v hv
   ·have hc:n < l.length∧n <(ny s 256).length:=by unfold oI at hn;omega
    simp only[adE] at hv;subst hv
    have a:l.getD n default=l[n]:=by simp[List.getD,aci hc.1]
    have b:(ny s 256).getD n []=(ny s 256)[n]:=by simp[List.getD,aci hc.2]
    rw[a,b]
    exact wo _ (hl _ (ac3 _)) (J1 _ _ _ (ac3 _))
def eC (x:KR):av:=
 if (within x.kind 0 1048576).tmod 6=3 then ⟨2,within x.aw 0 15,within x.cg 0 7,1+x.au.tmod 6,zeroV,[]⟩
 else if (within x.kind 0 1048576).tmod 6=4 then ⟨3,within x.aw 0 15,0,1+x.au.tmod 6,zeroV,Du x.l (within x.aw 0 15) (oI x.l (within x.aw 0 15))⟩
 else if (within x.kind 0 1048576).tmod 6=5 then ⟨4,within x.aw 0 15,0,1+x.au.tmod 6,zeroV,[]⟩
 else ⟨1,0,0,0,nw x.v (qZ x.v.iD),[]⟩
theorem BI (b:Nat) (h:Hp) (x:KR) (hx:x.wf):run fns pr b 27 [x.enc] h=some ((eC x).enc,h):=by
 refine Vm.aQ (nt:=46) rfl U5 (by simp) ?_
 have AE:=hx.au
 have w1:=fun h0=> g8 h.length h0 x.aw 0 15 (by omega) (by omega) (by omega) hx.aw.1 hx.aw.2
 have w2:=fun h0=> g8 h.length h0 x.kind 0 1048576 (by omega) (by omega) (by omega) hx.kind.1 hx.kind.2
 have w3:=fun h0=> g8 h.length h0 x.cg 0 7 (by omega) (by omega) (by omega) hx.cg.1 hx.cg.2
 have r1:∀cf base h0,aC cf base h0 (.bin .num .rem) [.s (.int .u64 x.au),.s (.int .u64 6)]=some (.s (.int .u64 (x.au.tmod 6)),h0):=fun cf base h0=> iJ _ _ _ _ _ _ (by decide)
 have r2:∀n cf base h0,aC cf base h0 (.bin .num .rem) [.s (.int .i64 n),.s (.int .i64 6)]=some (.s (.int .i64 (n.tmod 6)),h0):=fun n cf base h0=> iJ _ _ _ _ _ _ (by decide)
 have e0:=aeg 6 AE.1
 have e1:=aem x.au (show (0:Int)< 6 by decide)
 have iA:IntKind.u64.wrap (1+x.au.tmod 6)=1+x.au.tmod 6:=by rw[wrap_u64 (by omega) (by omega)]
 have p9:=fun h0=> BH h.length h0 false x.l (within x.aw 0 15) hx.l.2
 have hkv:=fun h0=> wm h.length h0 x.v (qZ x.v.iD) hx.v
 have hid:=fun h0=> Pu h.length h0 x.v.iD hx.v.iD.1 hx.v.iD.2
 have hze:KR.enc x= .st 46 [.s (.int .i64 x.kind),.s (.int .i64 x.aw),.s (.int .i64 x.cg),.s (.int .u64 x.au),KV.enc x.v,.al false (some 43) (x.l.map KV.enc)]:=rfl
 have xu:(KV.enc x.v).ty=some 43:=rfl
 have vQ:KV.enc x.v= .st 43 [.s (.int .i64 x.v.iD),.s (.int .i64 x.v.mX),.s (.int .i64 x.v.owner),.s (.int .i64 x.v.cW),.s (.int .i64 x.v.used),.s (.int .i64 x.v.jd),.s (.int .u64 x.v.gen),.al false none (x.v.cx.map aa)]:=rfl
 have hg:V.ground (KR.enc x)=true:=gC _ (by simp[KR.enc,KV.enc,V.plain,V.plain.all,bO,cu])
 unfold eC
 have xA:∀(n:Nat) (H:Hp) (r:av),bA n H r.enc=some r.enc:=fun n H r=> lH _ _ _ (by simp only[av.enc,ae.enc,go_sem];simp[cu,ae.enc,V.plain,V.plain.all,bO])
 have hfv:∀(n:Nat) (H:Hp) (l:List ae),bA n H (.al false (some 56) (l.map ae.enc))=some (.al false (some 56) (l.map ae.enc)):=fun n H l=> xI _ _ _ _ _ (by rw[cu];intro v hv;obtain ⟨w,_,rfl⟩:=ac6.1 hv;simp[ae.enc,V.plain,V.plain.all,bO])
 by_cases k3:(within x.kind 0 1048576).tmod 6=3
 ·rw[if_pos k3]
  have hf:=xA h.length
  simp only[B27,hze,xu,w1,w2,w3,r1,r2,iA,k3,go_sem,simprocAttr]
  rfl
 rw[if_neg k3]
 by_cases k4:(within x.kind 0 1048576).tmod 6=4
 ·rw[if_pos k4]
  simp only[B27,hze,xu,w1,w2,w3,r1,r2,iA,k3,k4,p9,hfv,go_sem,simprocAttr]
  rfl
 rw[if_neg k4]
 by_cases k5:(within x.kind 0 1048576).tmod 6=5
 ·rw[if_pos k5]
  simp only[B27,hze,xu,w1,w2,w3,r1,r2,iA,k3,k4,k5,go_sem,simprocAttr]
  rfl
 rw[if_neg k5]
 rw[vQ] at hkv
 have hfe:=fun (n:Nat) (H:Hp) (v:ae)=> lH n H v.enc (by simp[ae.enc,V.plain,V.plain.all,bO])
 simp only[B27,hze,xu,vQ,hfe,aJ,aK,w1,w2,w3,r1,r2,iA,k3,k4,k5,hkv,hid,go_sem,simprocAttr]
 rfl
theorem J3 (l:List KV) (s:Int):(Du l s (oI l s)).length≤4:=by rw[xH];unfold oI;omega
theorem Dv {x:KR} (hx:x.wf):(eC x).wf:=by
 have AE:=hx.au
 have e0:=aeg 6 AE.1
 have e1:=aem x.au (show (0:Int)< 6 by decide)
 have s1:=ju (n:=x.aw) (lo:=0) (hi:=15) (by omega)
 have s2:=gZ (n:=x.aw) (lo:=0) (hi:=15) (by omega)
 have t1:=ju (n:=x.cg) (lo:=0) (hi:=7) (by omega)
 have t2:=gZ (n:=x.cg) (lo:=0) (hi:=7) (by omega)
 have v4:=J3 x.l (within x.aw 0 15)
 unfold eC
 split
 ·exact ⟨by simp,by simp only;omega,by simp only;omega,by simp only;omega,iO,by simp⟩
 ·split
  ·exact ⟨by simp,by simp only;omega,by simp,by simp only;omega,iO,by simp only;omega,J2 _ hx.l.2 _ (acm _)⟩
  ·split
   ·exact ⟨by simp,by simp only;omega,by simp,by simp only;omega,iO,by simp⟩
   ·exact ⟨by simp,by simp,by simp,by simp,wo _ hx.v rfl,by simp⟩
theorem Dw {x:KR}:0≤(eC x).aw∧(eC x).aw < 16:=by
 have s1:=ju (n:=x.aw) (lo:=0) (hi:=15) (by omega)
 have s2:=gZ (n:=x.aw) (lo:=0) (hi:=15) (by omega)
 unfold eC
 split
 ·simp only;omega
 ·split
  ·simp only;omega
  ·split <;> simp only <;> omega
set_option maxRecDepth 100000
def vq (m:Nat):V:= .st 37 [.s (.int .i64 0),.s (.int .i64 2),bC 27,ki,.ptr m [0] 1,.s (.pointer none),.st 35 [ku,ku,ku,bC 27,ki],ki,ki,ki]
def vr (id dd:Nat):V:= .st 40 [.ptr id [0] 1,.ptr dd [0] 1,.s (.pointer none),.s (.pointer none)]
def J4 (s:ba) (x:KR):av:=
 if x.cg.tmod 8=7 then eC x
 else if (eC x).kind=2 then ⟨2,(eC x).aw,1,(s.p (eC x).aw.toNat).au+1,(eC x).aq,(eC x).ag⟩
 else if (eC x).kind=3 then ⟨3,(eC x).aw,(eC x).cg,(s.p (eC x).aw.toNat).au+(eC x).au.tmod 3,(eC x).aq,(eC x).ag⟩
 else if (eC x).kind=4 then ⟨4,(eC x).aw,(eC x).cg,(s.p (eC x).aw.toNat).au,(eC x).aq,(eC x).ag⟩
 else eC x
theorem Ni {s:ba} (hk:jG s) {x:KR} (hx:x.wf):(J4 s x).wf:=by
 have hr:=Dv hx
 have hs:=Dw (x:=x)
 obtain ⟨n,hn⟩:∃n:Nat,(eC x).aw=n:=⟨(eC x).aw.toNat,by omega⟩
 have hp:=hk.p n (by omega)
 have e1:=hp.e1
 have e2:=hp.e2
 have e3:=aeg 3 hr.au.1
 have e4:=aem (eC x).au (show (0:Int)< 3 by decide)
 have ht:(eC x).aw.toNat=n:=by omega
 unfold J4
 rw[ht]
 split
 ·exact hr
 ·split
  ·exact ⟨by simp,hr.aw,by simp,by simp only;omega,hr.aq,hr.ag⟩
  ·split
   ·exact ⟨by simp,hr.aw,hr.cg,by simp only;omega,hr.aq,hr.ag⟩
   ·split
    ·exact ⟨by simp,hr.aw,hr.cg,by simp only;omega,hr.aq,hr.ag⟩
    ·exact hr
theorem Nj (b:Nat) (h:Hp) (tt dd m id:Nat) (s:ba) (x:KR) (ht:h[tt]? =some (.cells (some 40) [vr id dd])) (hd:h[dd]? =some (.cells (some 37) [vq m])) (hs:sM h m s) (hk:jG s) (hx:x.wf) (hb:b≤h.length):
 ∃v h',run fns pr b 11 [.ptr tt [0] 1,x.enc] h=some (v,h')∧v=(J4 s x).enc∧Fw [] h h':=by
 refine Vm.ef (nt:=113) rfl Uy (by simp) ?_
 have hkr:=fun h0=> BI b h0 x hx
 have hwf:=Dv hx
 have pJ:=Dw (x:=x)
 have hkc:(eC x).kind=1∨(eC x).kind=2∨(eC x).kind=3∨(eC x).kind=4:=by
   unfold eC
   split
   ·simp
   ·split
    ·simp
    ·split <;> simp
 obtain ⟨xs,g0,_⟩:=hs
 have gt:=fun X=> q10z ht X
 have gd:=fun X=> q10z hd X
 have gm:=fun X=> q10z g0 X
 have r8:∀cf base h0,aC cf base h0 (.bin .num .rem) [.s (.int .i64 x.cg),.s (.int .i64 8)]=some (.s (.int .i64 (x.cg.tmod 8)),h0):=fun cf base h0=> iJ _ _ _ _ _ _ (by decide)
 have hze:KR.enc x= .st 46 [.s (.int .i64 x.kind),.s (.int .i64 x.aw),.s (.int .i64 x.cg),.s (.int .u64 x.au),KV.enc x.v,.al false (some 43) (x.l.map KV.enc)]:=rfl
 rw[hze] at hkr
 unfold J4
 generalize eC x=r at *
 have ng:r.enc= .st 59 [.s (.int .i64 r.kind),.s (.int .i64 r.aw),.s (.int .i64 r.cg),.s (.int .u64 r.au),r.aq.enc,.al false (some 56) (r.ag.map ae.enc)]:=rfl
 have r1:=iY r
 have r2:=iZ r
 have r3:=ph r
 obtain ⟨n,hn⟩:∃n:Nat,r.aw=n:=⟨r.aw.toNat,by omega⟩
 have YL:n < 16:=by omega
 have hnt:r.aw.toNat=n:=by omega
 have c16:(n:Int)<((16:Nat):Int):=by omega
 have n0:(0:Int)≤(n:Int):=by omega
 have c17:(n:Int)< 16:=by omega
 have fE:=eu s.p xs
 have lD:=iP s.p xs n YL
 have hp:=hk.p n YL
 have e1:=hp.e1
 have e2:=hp.e2
 have e3:=aeg 3 hwf.au.1
 have e4:=aem r.au (show (0:Int)< 3 by decide)
 have jo:b≤h.length+1:=by omega
 have qU:b≤h.length+2:=by omega
 have et:=fun v=> aJ v
 have es:=fun v=> aK v
 have hW1:IntKind.i64.wrap 1=1:=rfl
 have hmx:max (1:Int) 1=1:=rfl
 have rm1:∀a cf base h0,aC cf base h0 (.bin .num .rem) [.s (.int .i64 a),.s (.int .i64 1)]=some (.s (.int .i64 0),h0):=fun a cf base h0=> by rw[iJ _ _ _ _ _ _ (by decide),Int.tmod_one]
 have rm2:∀cf base h0,aC cf base h0 (.bin .num .rem) [.s (.int .i64 1),.s (.int .i64 2)]=some (.s (.int .i64 1),h0):=fun cf base h0=> by rw[iJ _ _ _ _ _ _ (by decide)];rfl
 have rm3:∀cf base h0,aC cf base h0 (.bin .num .rem) [.s (.int .u64 r.au),.s (.int .u64 3)]=some (.s (.int .u64 (r.au.tmod 3)),h0):=fun cf base h0=> iJ _ _ _ _ _ _ (by decide)
 have w2:IntKind.u64.wrap ((s.p n).au+1)=(s.p n).au+1:=wrap_u64 (by omega) (by omega)
 have w3:IntKind.u64.wrap ((s.p n).au+r.au.tmod 3)=(s.p n).au+r.au.tmod 3:=wrap_u64 (by omega) (by omega)
 rw[hnt]
 by_cases c8:x.cg.tmod 8=7
 ·rw[if_pos c8]
  simp only[B11,vB,hze,hkr,gt,gd,gm,vr,vq,r8,c8,ng,hb,jo,qU,et,es,decide_true,adi,go_sem,simprocAttr]
  exact Fw.app _ _ _
 rw[if_neg c8]
 by_cases k2:r.kind=2
 ·rw[if_pos k2]
  simp only[B11,vB,hze,hkr,gt,gd,gm,tV,vr,vq,r8,c8,ng,hb,jo,qU,et,es,k2,hn,fE,lD,c16,c17,n0,acC,hW1,hmx,rm1,rm2,w2,av.enc,decide_true,adi,go_sem,simprocAttr]
  exact Fw.app _ _ _
 rw[if_neg k2]
 by_cases k3:r.kind=3
 ·rw[if_pos k3]
  simp only[B11,vB,hze,hkr,gt,gd,gm,tV,vr,vq,r8,c8,ng,hb,jo,qU,et,es,k3,hn,fE,lD,c16,c17,n0,acC,rm3,w3,av.enc,decide_true,adi,go_sem,simprocAttr]
  exact Fw.app _ _ _
 rw[if_neg k3]
 by_cases k4:r.kind=4
 ·rw[if_pos k4]
  simp only[B11,vB,hze,hkr,gt,gd,gm,tV,vr,vq,r8,c8,ng,hb,jo,qU,et,es,k4,hn,fE,lD,c16,c17,n0,acC,av.enc,decide_true,adi,go_sem,simprocAttr]
  exact Fw.app _ _ _
 rw[if_neg k4]
 simp only[B11,vB,hze,hkr,gt,gd,gm,vr,vq,r8,c8,ng,hb,jo,qU,et,es,k2,k3,k4,decide_true,adi,go_sem,simprocAttr]
 exact Fw.app _ _ _
set_option maxRecDepth 100000
def dg (n:UInt8):Bs:=[n,0,0,0,0,0,0,0,0,0,0,0,0,0,0,0]
def kN (id:Bs):ae:=⟨id,1,bY,[],0,0,bY,true,false⟩
theorem BJ (id:Bs):aP (kN id)=true:=rfl
theorem Nk {id:Bs} (h:id.length=4):(kN id).wf:=by
 refine ⟨?_,?_,?_,?_,?_,?_,?_,?_,?_⟩<;> first | exact h | trivial | (simp[kN];done) | (simp[kN,bY];done)
theorem BK (b:Nat) (h:Hp):run fns pr b 18 [] h=some (.s (.bool true),h):=by
 refine Vm.aQ (nt:=88) rfl UM (by simp) ?_
 obtain ⟨v0,H0,e0',t,id,F0,mid,did,sp,sid,rfl,ht,d0,p0,f0,n0,l1,l2,l3,l4,l5,l6,l7⟩:=JR h.length h 0 1 (dg 1) (acm _) rfl (by decide) (by decide) (by decide) (by decide)
 have xv:=HI.new (dg 1) (a:=0) (b:=1) (by decide) (by decide) (by decide) (by decide)
 have MP:=q6z ht
 generalize hD0:aL.new 0 1 (dg 1)=D0 at *
 have st0:D0.st=ba.new 0 1∧D0.is=1∧D0.r=jf:=by rw[←hD0];exact ⟨rfl,rfl,rfl⟩
 have w0:Lw h H0 id D0 F0 (fun j=> j=t):=⟨d0,f0,fun j hj=>(n0 j hj).1,fun j hj=> by subst hj;exact ⟨fun hm=> by have:=n0 _ hm;omega,MP⟩⟩
 have ng:(dM (kN [1,0,0,0])).enc=V.st 59 [.s (.int .i64 1),ki,ki,ku,.st 56 [.arr 54 [.s (.int .u8 1),.s (.int .u8 0),.s (.int .u8 0),.s (.int .u8 0)],.s (.int .u64 1),bC 27,kx,ki,ki,bC 27,.s (.bool true),.s (.bool false)],.al false (some 56) []]:=rfl
 have jy:=uc (BJ [1,0,0,0])
 have vh:=Nf (Nk (id:=[1,0,0,0]) rfl)
 have vj:=Fh (kN [1,0,0,0]) rfl
 have xA:=iY (dM (kN [1,0,0,0]))
 have jX:=iZ (dM (kN [1,0,0,0]))
 have xk:=ph (dM (kN [1,0,0,0]))
 generalize hR:dM (kN [1,0,0,0])=R at *
 have fA:Fw [] H0 (H0++[bc.cells (some 59) [R.enc]]):=Fw.app [] H0 _
 have w1:Lw h (H0++[bc.cells (some 59) [R.enc]]) id D0 F0 (fun j=> j=t∨j=H0.length):=w0.ext fA (fun j hj=> by
   rcases hj with rfl | rfl
   ·exact .inl rfl
   ·exact .inr ⟨acm _,by simp⟩)
 have t1:=q10z ht [bc.cells (some 59) [R.enc]]
 have r1:(H0++[bc.cells (some 59) [R.enc]])[H0.length]? =some (bc.cells (some 59) [R.enc]):=aH _ _
 have AB:=f0.len
 generalize hH1:H0++[bc.cells (some 59) [R.enc]]=H1 at *
 obtain ⟨v2,H2,e2,rfl,d2,f2⟩:=xy h.length H1 id D0 F0 2 0 w1.fn w1.d
 obtain ⟨w2,k2⟩:=w1.op d2 f2 (fun j hj=> .inl hj)
 have t2:=k2 _ _ (.inl rfl) t1
 have r2:=k2 _ _ (.inr rfl) r1
 have hi1:=xv.bd 2 0 (by decide)
 have Sk:(D0.jq 2 0).st=ba.new 0 1:=st0.1
 have q1:=JY hi1 (by decide) (r:=R) st0.2.1 (by rw[Sk];exact vj) (show (0:Int)≤max 2 (-1) by decide) (show max (2:Int) (-1)≤2 by decide)
 have qL:=(hi1.do (by decide) vh st0.2.1 (by rw[Sk];exact vj)).1
 obtain ⟨v3,H3,e3,rfl,F3,d3,f3,n3⟩:=JC h.length H2 id _ F0 R w2.fn w2.d 0 (by decide) hi1.ok vh vh.ag.2
 obtain ⟨w3,k3⟩:=w2.op d3 f3 n3
 have t3:=k3 _ _ (.inl rfl) t2
 have r3:=k3 _ _ (.inr rfl) r2
 have rq1:(D0.jq 2 0).r=jf:=st0.2.2
 obtain ⟨q11,q12,q13,q14,q15,q16⟩:=q1
 rw[q11] at e3
 rw[rq1] at q14
 rw[Sk] at q15
 generalize ((D0.jq 2 0).do R).2=D3 at *
 have hs3:=qL.start (by decide) q12
 obtain ⟨v4,H4,e4,rfl,F4,d4,f4,n4⟩:=qj h.length H3 id D3 F3 w3.fn w3.d 6 (by decide) qL.ok qL.dm
 obtain ⟨w4,k4⟩:=w3.op d4 f4 n4
 have t4:=k4 _ _ (.inl rfl) t3
 have r4:=k4 _ _ (.inr rfl) r3
 obtain ⟨hi3,s31,s32,s33,s34,s35⟩:=hs3
 have s35:=s35 (by rw[q14];decide)
 have s36:D3.start.1=0:=by rw[s35]
 have s37:D3.start.2.is=1:=by rw[s35];rfl
 have s38:D3.start.2.bd= -1:=by rw[s35];exact q16
 have s39:D3.start.2.r.count=0:=by rw[s32,q14];rfl
 have s310:bz D3.start.2.r=0:=by rw[q19z hi3.ok.gr,s39];have:=q11z hi3.ok.gr;have:=hi3.ok.gw.base;omega
 rw[s36] at e4
 rw[q15] at s31
 generalize D3.start.2=D4 at *
 obtain ⟨u1,u2,u3,u4,u5⟩:=Nd hi3 (by decide) vh s37 (by rw[s31];exact vj) (by omega)
 obtain ⟨hi4,kp⟩:=hi3.do (by decide) vh s37 (by rw[s31];exact vj)
 obtain ⟨v5,H5,e5,rfl,F5,d5,f5,n5⟩:=JC h.length H4 id D4 F4 R w4.fn w4.d _ (by decide) hi3.ok vh vh.ag.2
 obtain ⟨w5,k5⟩:=w4.op d5 f5 n5
 have t5:=k5 _ _ (.inl rfl) t4
 have c5:(D4.do R).2.r.count=1:=by
   rcases kp with ⟨_,_,z,_⟩ | ⟨z,_,_,_⟩
   ·omega
   ·rw[z,s39];rfl
 rw[u1] at e5
 have Pv:=fun b=> kh b H4 id D4 F4 w4.d
 generalize (D4.do R).2=D5 at *
 obtain ⟨v6,H6,e6,rfl,d6,f6⟩:=xz h.length H5 id D5 F5 w5.fn w5.d
 obtain ⟨w6,k6⟩:=w5.op d6 f6 (fun j hj=> .inl hj)
 have t6:=k6 _ _ (.inl rfl) t5
 have hi5:=hi4.stop
 have i6:D5.stop.is=2:=by unfold aL.stop;rw[if_pos u2];rfl
 have rr6:D5.stop.r=D5.r:=by unfold aL.stop;rw[if_pos u2];rfl
 obtain ⟨v7,H7,e7,rfl,F7,d7,f7,n7⟩:=qj h.length H6 id D5.stop F5 w6.fn w6.d _ (by decide) hi5.ok hi5.dm
 obtain ⟨w7,k7⟩:=w6.op d7 f7 n7
 have t7:=k7 _ _ (.inl rfl) t6
 obtain ⟨hi6,z1,z2,z3,z4,z5⟩:=hi5.start (by decide) i6
 have z5:=z5 (by rw[rr6,u5,s310];decide)
 have z6:D5.stop.start.1=0:=by rw[z5]
 have z7:D5.stop.start.2.is=1:=by rw[z5];rfl
 have z8:D5.stop.start.2.r.count=1:=by rw[z2,rr6,c5]
 rw[z6] at e7
 have Pw:=fun b=> kh b H7 id D5.stop.start.2 F7 w7.d
 obtain ⟨v8,H8,e8,hv8⟩:=sL h.length H7 id D5.stop.start.2 F7 w7.fw.len w7.d hi6.ok.so
 rw[if_pos z7] at hv8
 obtain ⟨F8,rfl,s8,f8,n8⟩:=hv8
 generalize D5.stop.start.2=D7 at *
 have fk:=(w7.fw.trans f8).take
 have hd1:(dg 1).map aa=[.s (.int .u8 1),.s (.int .u8 0),.s (.int .u8 0),.s (.int .u8 0),.s (.int .u8 0),.s (.int .u8 0),.s (.int .u8 0),.s (.int .u8 0),.s (.int .u8 0),.s (.int .u8 0),.s (.int .u8 0),.s (.int .u8 0),.s (.int .u8 0),.s (.int .u8 0),.s (.int .u8 0),.s (.int .u8 0)]:=rfl
 rw[hd1] at e0'
 have abb:D4.r.enc=V.st 35 [.s (.int .u64 D4.r.bD),.s (.int .u64 D4.r.count),.s (.int .u64 D4.r.base),.arr 27 (D4.r.head.map aa),.s (.int .i64 D4.r.aG)]:=rfl
 have BL:D7.r.enc=V.st 35 [.s (.int .u64 D7.r.bD),.s (.int .u64 D7.r.count),.s (.int .u64 D7.r.base),.arr 27 (D7.r.head.map aa),.s (.int .i64 D7.r.aG)]:=rfl
 rw[abb,s39] at Pv
 rw[BL,z8] at Pw
 have sd:∀x,(decide (h.length≤H0.length) || x)=true:=fun x=> by rw[decide_eq_true AB];rfl
 simp only[B18,e0',ng.symm,sd,hH1,t1,r1,e2,t2,r2,xA,jX,e3,t3,r3,e4,t4,r4,Pv,e5,t5,e6,t6,e7,t7,Pw,e8,fk,go_sem,simprocAttr]
set_option maxRecDepth 100000
structure nz (h H:Hp) (id m tt dd:Nat) (N:Int) (D:aL) (F:List Nat) (M:ba) (R:List Nat):Prop where
 w:Lw h H id D F (fun j=> j=tt∨j=dd∨j=m∨j∈R)
 tw:H[tt]? =some (.cells (some 40) [vr id dd])
 td:H[dd]? =some (.cells (some 37) [vq m])
 rs:vi H m M R
 hm:h.length≤m
 hi:HI N D
theorem nz.op {h H H':Hp} {id m tt dd:Nat} {N N':Int} {D D':aL} {F F':List Nat} {M:ba} {R:List Nat} (v:nz h H id m tt dd N D F M R) (hd:lY H' id D' F') (f:Fw F H H') (hn:∀j∈F',j∈F∨H.length≤j) (hi:HI N' D'):nz h H' id m tt dd N' D' F' M R:=by
 obtain ⟨w',k⟩:=v.w.op hd f hn
 exact ⟨w',k _ _ (.inl rfl) v.tw,k _ _ (.inr (.inl rfl)) v.td,v.rs.mono f (v.w.pn _ (.inr (.inr (.inl rfl)))).1 (fun j hj=>(v.w.pn _ (.inr (.inr (.inr hj)))).1),v.hm,hi⟩
theorem nz.ext {h H H':Hp} {id m tt dd:Nat} {N:Int} {D:aL} {F:List Nat} {M:ba} {R:List Nat} (v:nz h H id m tt dd N D F M R) (f:Fw [] H H'):nz h H' id m tt dd N D F M R:=
 ⟨v.w.ext f fun j hj=> .inl hj,f.db _ _ v.tw (by simp),f.db _ _ v.td (by simp),v.rs.mono f (by simp) (by simp),v.hm,v.hi⟩
theorem nz.own {h H H':Hp} {id m tt dd:Nat} {N:Int} {D:aL} {F:List Nat} {M M':ba} {R R':List Nat} (v:nz h H id m tt dd N D F M R) (f:Fw [m] H H') (rs:vi H' m M' R') (hR:∀j∈R',j∈R∨H.length≤j):nz h H' id m tt dd N D F M' R':=by
 have hmF:=(v.w.pn m (.inr (.inr (.inl rfl)))).1
 obtain ⟨xs,g0,_⟩:=v.rs
 have n1:tt∉ [m]:=fun e=> by simp at e;subst e;rw[v.tw] at g0;cases g0
 have n2:dd∉ [m]:=fun e=> by simp at e;subst e;rw[v.td] at g0;cases g0
 have hd:=v.w.d.mono f (fun j hj e=> by simp at e;subst e;exact hmF hj)
 refine ⟨⟨hd,v.w.fw.new f (by simp;exact v.hm),v.w.fn,fun j hj=> ?_⟩,f.db _ _ v.tw n1,f.db _ _ v.td n2,rs,v.hm,v.hi⟩
 obtain ⟨_,_,_,_,bR⟩:=rs
 rcases hj with rfl | rfl | rfl | hj
 ·have:=v.w.pn j (.inl rfl);exact ⟨this.1,f.lt this.2⟩
 ·have:=v.w.pn j (.inr (.inl rfl));exact ⟨this.1,f.lt this.2⟩
 ·have:=v.w.pn j (.inr (.inr (.inl rfl)));exact ⟨this.1,f.lt this.2⟩
 ·refine ⟨fun e=> ?_,(bR j hj).1⟩
  rcases hR j hj with h1 | h1
  ·exact (v.w.pn j (.inr (.inr (.inr h1)))).1 e
  ·have:=v.w.d.lt j e;omega
theorem nz.num {h H:Hp} {id m tt dd:Nat} {N N':Int} {D:aL} {F:List Nat} {M:ba} {R:List Nat} (v:nz h H id m tt dd N D F M R) (hi:HI N' D):nz h H id m tt dd N' D F M R:=⟨v.w,v.tw,v.td,v.rs,v.hm,hi⟩
theorem BM {N:Int} {D:aL} (h:HI N D) (hN:N < 1000000000) (hi:D.is=2) (hf:D.bd < 0):D.start.1=0∧D.start.2.is=1:=by
 obtain ⟨_,_,_,_,hs,_⟩:=h.start hN hi
 rcases hs with hs | ⟨h1,h2⟩
 ·exact hs
 ·exfalso
  unfold aL.start at h1
  split at h1
  ·omega
  ·split at h1
   ·omega
   ·split at h1
    ·simp at h1
    ·split at h1
     ·simp at h1
     ·rename_i s _
      split at h1
      ·have:=wh (D:=D.up s) hf
       rw[this] at h1;simp at h1
      ·simp at h1
theorem Dx (D:aL):D.stop.st=D.st:=by unfold aL.stop;split <;> rfl
theorem J5 {D:aL} (h:D.is=1):D.start=(14,D):=by unfold aL.start;rw[if_pos h]
def hoM (h:Hp) (l:List gS) (id m tt dd i:Nat) (e:Env) (H:Hp):Prop:=e 0= .al false (some 48) (l.map gS.enc)∧e 3= .ptr id [0] 1∧e 5= .ptr m [0] 1∧e 6= .ptr tt [0] 1∧e 7= .s (.int .i64 (i:Nat))∧∃D F R,nz h H id m tt dd (10 *(i+1:Nat)) D F D.st R
theorem DeviceHonest_ok (b:Nat) (h:Hp) (l:List gS) (hl:l.length≤140737488351232) (hw:∀x∈l,x.wf):run fns pr b 3 [.al false (some 48) (l.map gS.enc)] h=some (.s (.bool true),h):=by
 refine Vm.aQ (nt:=161) rfl aaD (by simp) ?_
 obtain ⟨v1,H1,e1,id,F1,rfl,d1,f1,n1⟩:=Dp h.length h 0 2 (dg 7) (acm _) rfl (by decide) (by decide) (by decide) (by decide)
 obtain ⟨v2,H2,e2,rfl,rs2,f2⟩:=tW h.length H1 0 2 f1.len (by decide) (by decide) (by decide) (by decide)
 have xv:=HI.new (dg 7) (a:=0) (b:=2) (by decide) (by decide) (by decide) (by decide)
 have hd1:(dg 7).map aa=[.s (.int .u8 7),.s (.int .u8 0),.s (.int .u8 0),.s (.int .u8 0),.s (.int .u8 0),.s (.int .u8 0),.s (.int .u8 0),.s (.int .u8 0),.s (.int .u8 0),.s (.int .u8 0),.s (.int .u8 0),.s (.int .u8 0),.s (.int .u8 0),.s (.int .u8 0),.s (.int .u8 0),.s (.int .u8 0)]:=rfl
 rw[hd1] at e1
 have l1:=f1.len
 have l2:=f2.len
 have abc:(aL.new 0 2 (dg 7)).st=ba.new 0 2:=rfl
 rw[←abc] at rs2
 have c1:=Int.natCast_zero
 generalize aL.new 0 2 (dg 7)=D0 at *
 have fB:Fw [] H2 (H2++[.cells (some 37) [vq H1.length],.cells (some 40) [vr id H2.length]]):=Fw.app _ _ _
 have d3:=(d1.mono f2 (by simp)).mono fB (by simp)
 have mlt:=(rs2.st).lt
 have iv0:nz h (H2++[.cells (some 37) [vq H1.length],.cells (some 40) [vr id H2.length]]) id H1.length (H2.length+1) H2.length 0 D0 F1 D0.st []:=by
   refine ⟨⟨d3,(f1.trans f2).trans fB,n1,fun j hj=> ?_⟩,by rw[aM];rfl,aH _ _,rs2.mono fB (by simp) (by simp),l1,xv⟩
   have bR:=d1.lt
   rcases hj with rfl | rfl | rfl | hj
   ·exact ⟨fun e=> by have:=bR _ e;omega,by simp⟩
   ·exact ⟨fun e=> by have:=bR _ e;omega,by simp⟩
   ·exact ⟨fun e=> by have:=bR _ e;omega,by simp;omega⟩
   ·cases hj
 have hkn:=fun b H=> BK b H
 have dQ:∀cf base H,aC cf base H .len [.al false (some 48) (l.map gS.enc)]=some (.s (.int .i64 (l.length:Nat)),H):=fun cf base H=> by rw[nb];simp
 obtain ⟨m,hmq⟩:∃m,H1.length=m:=⟨_,rfl⟩
 obtain ⟨dd,hdq⟩:∃dd,H2.length=dd:=⟨_,rfl⟩
 obtain ⟨N,hN⟩:∃N:Nat,N=min l.length 60:=⟨_,rfl⟩
 simp only[vq,vr] at iv0
 simp only[B3,Us,Ur,e1,e2,go_sem,simprocAttr]
 rw[hmq,hdq] at iv0 ⊢
 generalize H2++_=H3 at iv0 ⊢
 refine aV (fun q e H=>∃(i:Nat) (D:aL) (F R:List Nat),q=N - i∧i≤N∧e 0= .al false (some 48) (l.map gS.enc)∧e 3= .ptr id [0] 1∧e 5= .ptr m [0] 1∧e 6= .ptr (dd+1) [0] 1∧e 7= .s (.int .i64 (i:Nat))∧nz h H id m (dd+1) dd (10 *(i:Nat)) D F D.st R)
   (fun e H=>∃(D:aL) (F R:List Nat),e 3= .ptr id [0] 1∧e 5= .ptr m [0] 1∧nz h H id m (dd+1) dd 600 D F D.st R)
   N _ _ ⟨0,D0,F1,[],rfl,by omega,rfl,rfl,rfl,rfl,rfl,iv0⟩ ?_ ?_
 ·rintro q e H ⟨i,D,F,R,rfl,hi,e0,e3,e5,e6,e7,iv⟩
  by_cases ci:i < N
  ·have c1:(i:Int)<((l.length:Nat):Int):=by omega
   have c2:(i:Int)< 60:=by omega
   have cl:i < l.length:=by omega
   have w1:IntKind.i64.wrap ((i:Int)+1)=((i+1:Nat):Int):=q18z (by omega)
   have hv:l[i]? =some l[i]:=aci cl
   have hxw:=hw _ (ac3 cl)
   generalize l[i]=x at hv hxw
   have i1:=SR.ck (h:=H) (x:= .al false (some 48) (l.map gS.enc)) (.inl ⟨_,rfl⟩) (cf:=run fns pr h.length) (base:=h.length) (k:= .i64) (i:=i) (by simpa using cl)
   have i2:=SR.fL (h:=H) (x:= .al false (some 48) (l.map gS.enc)) (g:=some 48) (vs:=l.map gS.enc) (.inl ⟨_,rfl⟩) (cf:=run fns pr h.length) (base:=h.length) (i:=i) (v:=x.enc) (by simp[hv]) rfl
   have AE:x.enc= .st 48 [.s (.int .i64 x.kind),.s (.int .i64 x.n),.s (.int .i64 x.dG),x.r.enc]:=rfl
   have hle:=iv.w.fw.len
   have krt:x.r.enc.ty=some 46:=rfl
   have krs:x.r.enc.aA=true:=rfl
   obtain ⟨XB,hXB⟩:∃XB,bc.cells (some 48) [V.st 48 [.s (.int .i64 x.kind),.s (.int .i64 x.n),.s (.int .i64 x.dG),x.r.enc]]=XB:=⟨_,rfl⟩
   have ivA:=iv.ext (Fw.app [] H [XB])
   simp only[e0,e3,e5,e6,e7,dQ,c1,c2,i1,i2,AE,krt,krs,hle,decide_true,adi,go_sem,simprocAttr]
   refine C8 (hoM h l id m (dd+1) dd i) ?_ ?_
   ·rintro e H ⟨e0,e3,e5,e6,e7,D,F,R,iv⟩
    obtain ⟨v3,H3,q3,hv3⟩:=sL h.length H id D F iv.w.fw.len iv.w.d (fun _=> iv.hi.sk)
    by_cases is1:D.is=1
    ·rw[if_pos is1] at hv3
     obtain ⟨F',rfl,st3,f3,n3⟩:=hv3
     have iv3:=iv.ext f3
     have jo:=qd h.length H3 _ D.st F' st3 iv.hi.sk
     have qU:=wc h.length H3 m D.st iv3.rs.st iv.hi.sk
     have hbs:=fun cf base=> oL cf base H3 _ none (gD D.st) (wq H3 false none _)
     simp only[e0,e3,e5,e6,e7,q3,jo,qU,hbs,w1,go_sem,simprocAttr]
     exact ⟨N - (i+1),by omega,i+1,D,F,R,rfl,by omega,rfl,iv3⟩
    ·rw[if_neg is1] at hv3
     obtain ⟨rfl,rfl⟩:=hv3
     simp only[e0,e3,e5,e6,e7,q3,w1,go_sem,simprocAttr]
     exact ⟨N - (i+1),by omega,i+1,D,F,R,rfl,by omega,rfl,iv⟩
   intro K' hK
   have hN5:(10 *(i:Nat):Int)< 1000000000 - 30:=by omega
   by_cases k6:x.kind=6
   ·have Ax:=fun h0=> g8 h.length h0 x.n (-1) 12 (by omega) (by omega) (by omega) hxw.n.1 hxw.n.2
    have wle:=gZ (n:=x.n) (lo:= -1) (hi:=12) (by omega)
    obtain ⟨v4,H4,q4,rfl,d4,f4⟩:=xy h.length _ id D F (within x.n (-1) 12) x.dG ivA.w.fn ivA.w.d
    have iv4:=ivA.op d4 f4 (fun j hj=> .inl hj) (ivA.hi.bd _ x.dG (by omega))
    subst hXB
    simp only[k6] at q4
    simp only[e3,k6,Ax,q4,e0,e5,e6,e7,go_sem,simprocAttr]
    refine hK _ _ ?_
    simp only[hoM,e3,e0,e5,e6,e7,go_sem,simprocAttr]
    exact ⟨_,F,R,iv4.num (iv4.hi.wk (by omega))⟩
   by_cases k7:x.kind=7
   ·obtain ⟨v4,H4,q4,rfl,d4,f4⟩:=xz h.length _ id D F ivA.w.fn ivA.w.d
    have iv4:=ivA.op d4 f4 (fun j hj=> .inl hj) ivA.hi.stop
    subst hXB
    simp only[k7] at q4
    simp only[e3,k6,k7,q4,e0,e5,e6,e7,go_sem,simprocAttr]
    refine hK _ _ ?_
    simp only[hoM,e3,e0,e5,e6,e7,go_sem,simprocAttr]
    exact ⟨_,F,R,by rw[Dx];exact iv4.num (iv4.hi.wk (by omega))⟩
   have aR:∀k9:x.kind=8∨x.kind=9,∃c D' F' H4,run fns pr h.length 9 [.ptr id [0] 1] (H++[XB])=some (.s (.int .i64 c),H4)∧nz h H4 id m (dd+1) dd (10 *(i+1:Nat)) D' F' D'.st R∧D'.is≠3∧(c=0∨c=14∨c=29):=by
     intro _
     obtain ⟨v4,H4,q4,rfl,F4,d4,f4,n4⟩:=qj h.length _ id D F ivA.w.fn ivA.w.d _ (by omega) ivA.hi.ok ivA.hi.dm
     rcases ivA.hi.is with is1 | is2
     ·rw[J5 is1] at q4 d4
      exact ⟨_,D,F4,H4,q4,(ivA.op d4 f4 n4 ivA.hi).num (ivA.hi.wk (by omega)),by omega,.inr (.inl rfl)⟩
     ·obtain ⟨hJ,js,_,_,jc,_⟩:=ivA.hi.start (by omega) is2
      refine ⟨_,_,F4,H4,q4,by have:=ivA.op d4 f4 n4 hJ;rw[js];exact this.num (hJ.wk (by omega)),by omega,by omega⟩
   by_cases k8:x.kind=8
   ·obtain ⟨c,D',F',H4,q4,iv4,hi3,hc⟩:=aR (.inl k8)
    have his:=fun b=> Po b H4 id D' F' iv4.w.d
    subst hXB
    simp only[k8] at q4
    rcases hc with rfl | rfl | rfl <;>
    ·simp only[e3,k6,k7,k8,q4,his,hi3,e0,e5,e6,e7,go_sem,simprocAttr]
     refine hK _ _ ?_
     simp only[hoM,e3,e0,e5,e6,e7,go_sem,simprocAttr]
     exact ⟨_,F',R,iv4⟩
   by_cases k9:x.kind=9
   ·obtain ⟨c,D',F',H4,q4,iv4,hi3,hc⟩:=aR (.inr k9)
    have his:=fun b=> Po b H4 id D' F' iv4.w.d
    subst hXB
    simp only[k9] at q4
    rcases hc with rfl | rfl | rfl <;>
    ·simp only[e3,k6,k7,k8,k9,q4,his,hi3,e0,e5,e6,e7,go_sem,simprocAttr]
     refine hK _ _ ?_
     simp only[hoM,e3,e0,e5,e6,e7,go_sem,simprocAttr]
     exact ⟨_,F',R,iv4⟩
   clear aR
   obtain ⟨v5,H5,q5,rfl,f5⟩:=Nj h.length _ (dd+1) dd m id D.st x.r ivA.tw ivA.td ivA.rs.st ivA.hi.sk hxw.r ivA.w.fw.len
   have iv5:=ivA.ext f5
   have rwf:=Ni ivA.hi.sk hxw.r
   generalize J4 D.st x.r=r at *
   have r1:=iY r
   have r2:=iZ r
   have r3:=ph r
   have f6:Fw [] H5 (H5++[.cells (some 59) [r.enc]]):=Fw.app _ _ _
   have iv6:=iv5.ext f6
   have hrg:=kh h.length _ id D F iv6.w.d
   obtain ⟨v7,H7,q7,rfl,F7,d7,f7,n7⟩:=JC h.length _ id D F r iv6.w.fn iv6.w.d _ (by omega) iv6.hi.ok rwf rwf.ag.2
   have hl5:=iv5.w.fw.len
   have BL:=kh h.length H7 id _ F7 d7
   have g7:H7[H5.length]? =some (.cells (some 59) [r.enc]):=f7.db _ _ (aH _ _) (fun hj=> by have:=iv5.w.d.lt _ hj;omega)
   have hcn:=ivA.hi.cn
   have hc0:0≤D.r.count:=ivA.hi.ok.gw.count.1
   have hde:∀r:ah,r.enc= .st 35 [.s (.int .u64 r.bD),.s (.int .u64 r.count),.s (.int .u64 r.base),.arr 27 (r.head.map aa),.s (.int .i64 r.aG)]:=fun _=> rfl
   have hwc:IntKind.u64.wrap (D.r.count+1)=D.r.count+1:=wrap_u64 (by omega) (by omega)
   have Hj:¬D.r.count+1 < D.r.count:=by omega
   have hn2:¬D.r.count < D.r.count:=by omega
   have Dg:D.r.count < D.r.count+1:=by omega
   have hn4:¬D.r.count+1 < D.r.count+1:=by omega
   have hn5:¬D.r.count=D.r.count+1:=by omega
   obtain ⟨c,E,hce⟩:∃c E,D.do r=(c,E):=⟨_,_,rfl⟩
   have Sl:(c≠0∧E.r=D.r∧E.st=D.st∧HI (10 *(i+1:Nat)) E)∨(bT D.st r=0∧E.r.count=D.r.count+1∧E.st=(bf D.st r).2∧HI (10 *(i+1:Nat)) E):=by
     rcases ivA.hi.is with is1 | is2
     ·by_cases hc:bT D.st r=0
      ·obtain ⟨hJ,kp⟩:=ivA.hi.do (by omega) rwf is1 hc
       rw[hce] at hJ kp
       rcases kp with ⟨y1,y2,y3,_⟩ | ⟨y1,_,y3,_⟩
       ·exact .inl ⟨by rw[show c=29 from y3];decide,y1,y2,hJ.wk (by omega)⟩
       ·exact .inr ⟨hc,y1,y3,hJ.wk (by omega)⟩
      ·have:=YK is1 hc
       rw[hce] at this;cases this
       exact .inl ⟨hc,rfl,rfl,ivA.hi.wk (by omega)⟩
     ·have:=Nb is2 r
      rw[hce] at this;cases this
      exact .inl ⟨by decide,rfl,rfl,ivA.hi.wk (by omega)⟩
   rw[hce] at q7 d7 BL
   rcases Sl with ⟨y1,y2,y3,hJ⟩ | ⟨hc,y2,y3,hJ⟩
   ·have iv7:=iv6.op d7 f7 n7 hJ
    simp only[y2] at BL
    subst hXB
    simp only[e3,k6,k7,k8,k9,krt,krs,q5,hrg,hde,q7,BL,r1,r2,r3,hl5,hwc,Hj,hn2,y1,e0,e5,e6,e7,go_sem,simprocAttr]
    refine hK _ _ ?_
    simp only[hoM,e3,e0,e5,e6,e7,go_sem,simprocAttr]
    exact ⟨E,F7,R,by rw[y3];exact iv7⟩
   ·have iv7:=iv6.op d7 f7 n7 hJ
    obtain ⟨v8,H8,q8,rfl,R',rs8,f8,n8⟩:=Fe h.length H7 m D.st R r iv7.hm iv7.rs ivA.hi.sk rwf rwf.ag.2
    have iv8:=iv7.own f8 rs8 n8
    rw[BE ivA.hi.sk hc] at q8
    have hEr:E.r.enc= .st 35 [.s (.int .u64 E.r.bD),.s (.int .u64 (D.r.count+1)),.s (.int .u64 E.r.base),.arr 27 (E.r.head.map aa),.s (.int .i64 E.r.aG)]:=by rw[←y2];rfl
    subst hXB
    by_cases c0:c=0
    ·subst c0
     simp only[e3,k6,k7,k8,k9,krt,krs,q5,hrg,hde D.r,hEr,q7,BL,g7,q8,r1,r2,r3,hl5,hwc,Hj,Dg,hn4,e0,e5,e6,e7,go_sem,simprocAttr]
     refine hK _ _ ?_
     simp only[hoM,e3,e0,e5,e6,e7,go_sem,simprocAttr]
     exact ⟨E,F7,R',by rw[y3];exact iv8⟩
    ·simp only[e3,k6,k7,k8,k9,krt,krs,q5,hrg,hde D.r,hEr,q7,BL,g7,q8,r1,r2,r3,hl5,hwc,Hj,Dg,hn4,c0,e0,e5,e6,e7,go_sem,simprocAttr]
     refine hK _ _ ?_
     simp only[hoM,e3,e0,e5,e6,e7,go_sem,simprocAttr]
     exact ⟨E,F7,R',by rw[y3];exact iv8⟩
  ·have cN:i=N:=by omega
   by_cases c1:(i:Int)<((l.length:Nat):Int)
   ·have c2:¬(i:Int)< 60:=by omega
    simp only[e0,e3,e5,e6,e7,dQ,c1,c2,go_sem,simprocAttr]
    exact ⟨D,F,R,iv.num (iv.hi.wk (by omega))⟩
   ·simp only[e0,e3,e5,e6,e7,dQ,c1,go_sem,simprocAttr]
    exact ⟨D,F,R,iv.num (iv.hi.wk (by omega))⟩
 ·rintro e H ⟨D,F,R,e3,e5,iv⟩
  obtain ⟨v4,H4,q4,rfl,d4,f4⟩:=xy h.length H id D F (-1) 0 iv.w.fn iv.w.d
  have iv4:=iv.op d4 f4 (fun j hj=> .inl hj) (iv.hi.bd (-1) 0 (by omega))
  obtain ⟨D1,hD1⟩:∃D1,D.jq (-1) 0=D1:=⟨_,rfl⟩
  have s1:D1.st=D.st:=by rw[←hD1];rfl
  have u1:D1.bd < 0:=by rw[←hD1];exact (by decide:max (-1:Int) (-1)< 0)
  rw[hD1] at d4 iv4
  obtain ⟨v5,H5,q5,rfl,d5,f5⟩:=xz h.length H4 id D1 F iv4.w.fn d4
  have iv5:=iv4.op d5 f5 (fun j hj=> .inl hj) iv4.hi.stop
  have s2:=Dx D1
  have u2:D1.stop.bd < 0:=by unfold aL.stop;split;exact (by decide:(-1:Int)< 0);exact u1
  have i2:D1.stop.is=2:=by
    unfold aL.stop
    split
    ·rfl
    ·rcases iv4.hi.is with h | h
     ·contradiction
     ·exact h
  generalize D1.stop=D2 at *
  obtain ⟨v6,H6,q6,rfl,F6,d6,f6,n6⟩:=qj h.length H5 id D2 F iv5.w.fn d5 _ (by omega) iv5.hi.ok iv5.hi.dm
  obtain ⟨hJ,js,_,_,_,_⟩:=iv5.hi.start (by omega) i2
  obtain ⟨c0,c1⟩:=BM iv5.hi (by omega) i2 u2
  rw[c0] at q6
  have iv6:=iv5.op d6 f6 n6 hJ
  generalize D2.start.2=D3 at *
  obtain ⟨v7,H7,q7,hv7⟩:=sL h.length H6 id D3 F6 iv6.w.fw.len d6 (fun _=> iv6.hi.sk)
  rw[if_pos c1] at hv7
  obtain ⟨F',rfl,st7,f7,n7⟩:=hv7
  have iv7:=iv6.ext f7
  obtain ⟨v8,H8,q8,hv8⟩:=sL h.length H7 id D3 F6 iv7.w.fw.len iv7.w.d (fun _=> iv7.hi.sk)
  rw[if_pos c1] at hv8
  obtain ⟨F'',rfl,st8,f8,n8⟩:=hv8
  have iv8:=iv7.ext f8
  have jo:=qd h.length H8 _ D3.st F'' st8 iv8.hi.sk
  have qU:=wc h.length H8 m D.st iv8.rs.st iv.hi.sk
  have hs:D3.st=D.st:=by rw[js,s2,s1]
  rw[hs] at jo
  have hbs:=fun cf base=> oL cf base H8 _ none (gD D.st) (wq H8 false none _)
  have ht:=iv8.w.fw.take
  have hk:=hkn h.length H8
  simp only[e3,e5,q4,q5,q6,q7,q8,jo,qU,hbs,hk,ht,go_sem,simprocAttr]
end Go.Proofs.YthplailfedobeaaGreat
namespace Go.Proofs.YthplailfedobeaaGreat
open Go Go.Proofs Go.Shelf Go.RowKit Go.Lib
theorem fF {P:Program} (w:World) (dT sT ty elem:TypeId) (b o dLen dCap:Nat) (a:Addr) (sLen sCap:Nat) (cs:List Value) (sz m:Nat)
 (hu:P.underlying dT=some (.slice elem)) (hs:(P.info? elem).map (·.size)=some sz) (hm:Nat.min sLen dLen=m) (hn:cs.length=m * sz)
 (mj:∀j v,cs[j]? =some v→w.cell? (a.add j)=some v) (hc:∀j,j < cs.length→(w.cell? ⟨b,o+j,none⟩).isSome=true) (hf:∀j,j < cs.length→w.frozen? ⟨b,o+j,none⟩=false) (h1:∀v∈cs,v.oneCell'=true):
 (Builtin.copy_ #[dT,sT] ty #[.slice (some ⟨b,o,none⟩) dLen dCap,.slice (some a) sLen sCap]).run P w= .ok (goInt m) (w.setCells b o cs):=by
 have hl:=run_loadCells_list (P:=P) w a cs mj
 have aR:=run_storeCells_cells (P:=P) b o cs 0 w (by simpa using hc) (by simpa using hf) h1
 cases hq:P.info? elem with
 | none=> simp[hq] at hs
 | some i=>
   have hi:i.size=sz:=by simpa[hq] using hs
   simp[Builtin.copy_,run_underlying hu,Builtin.lenOf,Builtin.firstCells,sizeOf,typeInfo,hq,hi,hm,←hn,hl,aR]
set_option maxHeartbeats 4000000 in
set_option maxRecDepth 100000 in
theorem Fk (b n c i vb voff vc:Nat) (cs vs:List Value) (w:World) (hi:i < n) (gE:n+1≤c) (ab2:n+1≤9223372036854775807) (ax:vb≠b)
 (oB:cs.length=n * 42) (ED:vs.length=42)
 (zj:∀j v,cs[j]? =some v→w.cell? ⟨b,j,none⟩=some v) (vU:∀j,j <(n+1)* 42→(w.cell? ⟨b,j,none⟩).isSome=true) (dt:∀j,j <(n+1)* 42→w.frozen? ⟨b,j,none⟩=false)
 (p9:∀j v,vs[j]? =some v→w.cell? ⟨vb,voff+j,none⟩=some v) (h1c:∀v∈cs,v.oneCell'=true) (h1v:∀v∈vs,v.oneCell'=true)
 (tA tB:TypeId) (kA kB:Nat) (hsa:w.shape? vb=some (tA,kA)) (hsb:w.shape? b=some (tB,kB)) (hkB:kB≠0) (hfa:w.frozen? ⟨vb,voff,none⟩=false) (hfe:w.frozen? ⟨vb,kA,none⟩=false):
 Calls Tryz.prog 110 #[.slice (some ⟨b,0,none⟩) n c,.int .i64 i,.slice (some ⟨vb,voff,none⟩) 1 vc] w fun e w'=>
   e= .returned (.slice (some ⟨b,0,none⟩) (n+1) c)∧w'=(w.drew.setCells b ((i+1)* 42) (cs.drop (i * 42))).setCells b (i * 42) vs:=by
 have hz2:¬((i:Int)=(n:Int)):=by omega
 have cU:(Tryz.prog.info? 57).map (·.size)=some 42:=by kernel_rfl
 have pq:∀w,(Go.sizeOf 57).run Tryz.prog w= .ok 42 w:=fun w=> by
   obtain ⟨i0,h1,h2⟩:=ach.1 cU
   simp[Go.sizeOf,typeInfo,h1,h2]
 have hov:∀o lb cb,(callFunc 132 #[.slice (some ⟨vb,voff,none⟩) 1 vc,.slice (some ⟨b,o,none⟩) lb cb]).run Tryz.prog w= .ok (.value (.bool false)) w:=fun o lb cb=> by
   rw[run_callFunc_extern Tryz.func132 (by kernel_rfl) (by kernel_rfl) (by kernel_rfl) (e:=Extern.SlicesOverlaps.overlaps #[58,58] #[4]) (by kernel_rfl),
    Lib.run_overlaps_apart w 58 4 57 Tryz.underlying58 42 pq ⟨vb,voff,none⟩ ⟨b,o,none⟩ 1 vc lb cb ax tA tB kA kB hsa hsb hkB hfa hfe]
   rfl
 have vF:(cs.drop (i * 42)).length=(n - i)* 42:=by rw[adb,oB,afP]
 have mixed:Tryz.prog.follows .mixedOrders=true:=by kernel_rfl
 have mT:IntKind.i64.wrap ((n:Int)+1)=(n:Int)+1:=by rw[IntKind.wrap_i64];omega
 have xh:IntKind.i64.wrap ((i:Int)+1)=(i:Int)+1:=by rw[IntKind.wrap_i64];omega
 have jo:(0:Int)≤(i:Int)+1:=by omega
 have Hk:i≤n:=by omega
 have htn:((i:Int)+1).toNat=i+1:=by omega
 have ab3:((n:Int)+1).toNat=n+1:=by omega
 have qU:¬(c=i+1):=by omega
 have hb3:(i:Int)≤(n:Int)+1:=by omega
 have hb4:¬(c=i):=by omega
 have hb5:¬((c:Int)<(n:Int)+1):=by omega
 have YM:∀ty dc sc,(Builtin.copy_ #[58,58] ty #[.slice (some ⟨b,(i+1)* 42,none⟩) (n - i) dc,.slice (some ⟨b,i * 42,none⟩) (n+1 - i) sc]).run Tryz.prog w.drew= .ok (goInt ((n - i:Nat):Int)) (w.drew.setCells b ((i+1)* 42) (cs.drop (i * 42))):=fun ty dc sc=>
   fF w.drew _ _ ty 57 b ((i+1)* 42) (n - i) dc ⟨b,i * 42,none⟩ (n+1 - i) sc (cs.drop (i * 42)) 42 (n - i) Tryz.underlying58 cU (by simp only[afQ];split <;> omega) vF
     (fun j v hj=> by rw[Addr.add_lit];exact zj (i * 42+j) v (by rwa [ad5] at hj))
     (fun j hj=> vU _ (by omega)) (fun j hj=> dt _ (by omega)) (fun v hv=> h1c v (acY hv))
 obtain ⟨W1,hW1⟩:∃W1,W1=w.drew.setCells b ((i+1)* 42) (cs.drop (i * 42)):=⟨_,rfl⟩
 have abd:∀k,k <(n+1)* 42→(W1.cell? ⟨b,k,none⟩).isSome=true:=fun k hk=> by
   rw[hW1]
   exact isSome_setCells b (cs.drop (i * 42)) ((i+1)* 42) w.drew (fun j hj=> vU _ (by rw[vF] at hj;omega)) k (vU k hk)
 have abe:∀(W:World),(∀x,W.cell? x=W1.cell? x)→(∀x,W.frozen? x=W1.frozen? x)→∀ty dc,(Builtin.copy_ #[58,58] ty #[.slice (some ⟨b,i * 42,none⟩) (n+1 - i) dc,.slice (some ⟨vb,voff,none⟩) 1 vc]).run Tryz.prog W= .ok (goInt 1) (W.setCells b (i * 42) vs):=fun W hWc hWf ty dc=>
   fF W _ _ ty 57 b (i * 42) (n+1 - i) dc ⟨vb,voff,none⟩ 1 vc vs 42 1 Tryz.underlying58 cU (by simp only[afQ];split <;> omega) (by rw[ED])
     (fun j v hj=> by
       rw[Addr.add_lit,hWc,hW1,World.cell?_setCells_out b _ _ _ _ (fun h _=> absurd h ax)]
       exact p9 j v hj)
     (fun j hj=> by rw[hWc];exact abd _ (by omega)) (fun j hj=> by rw[hWf,hW1,World.frozen?_setCells];exact dt _ (by omega)) h1v
 rw[←hW1] at YM
 go_enter Tryz.func110,Tryz.ntmps110
 go_wp2_with (simp only[hov])
 go_region_law_o (refine step_copy_runI rfl _ _ 58 58 rfl _ _ (by simp[Act.eval,Act.put]) (by simp[Act.eval,Act.put]) (YM _ _ _) ?_)
 go_wp2_with (at_builtin;refine wpList_copy_runI _ rfl _ _ 58 58 rfl _ _ rfl rfl (abe _ (fun _=> rfl) (fun _=> rfl) _ _) ?_)
 go_ret
 first | exact ⟨rfl,rfl⟩ | exact ⟨rfl,by rw[hW1]⟩
set_option maxHeartbeats 4000000 in
set_option maxRecDepth 100000 in
theorem J6 (b n c i vb voff vc:Nat) (cs vs:List Value) (w:World) (i0:TypeInfo) (z:Value) (xv:Tryz.prog.info? 57=some i0) (sh:i0.zero=some z) (iV:i0.size=42) (hzc:z.cells.size=42) (nV:0 < i0.bytes)
 (hi:i < n) (hnc:n≤c) (gE:c < n+1) (xJ:(n+1)* i0.bytes≤140737488355328)
 (oB:cs.length=n * 42) (ED:vs.length=42)
 (zj:∀j v,cs[j]? =some v→w.cell? ⟨b,j,none⟩=some v)
 (p9:∀j v,vs[j]? =some v→w.cell? ⟨vb,voff+j,none⟩=some v) (h1c:∀v∈cs,v.oneCell'=true) (h1v:∀v∈vs,v.oneCell'=true):
 Calls Tryz.prog 110 #[.slice (some ⟨b,0,none⟩) n c,.int .i64 i,.slice (some ⟨vb,voff,none⟩) 1 vc] w fun e w'=>
   e= .returned (.slice (some ⟨w.heap.size,0,none⟩) (n+1) (grownCap w (n+1) c 57))∧
   w'=(((w.alloc (.cells ((cs.take (i * 42)).toArray++Builtin.zeroCells z.cells (n+1 - i)++Builtin.zeroCells z.cells (grownCap w (n+1) c 57 - (n+1))) 57)).drew.setCells w.heap.size (i * 42) vs).drew).setCells w.heap.size ((i+1)* 42) (cs.drop (i * 42)):=by
 have mixed:Tryz.prog.follows .mixedOrders=true:=by kernel_rfl
 have hz2:¬((i:Int)=(n:Int)):=by omega
 have hz3:(c:Int)<(n:Int)+1:=by omega
 have cU:(Tryz.prog.info? 57).map (·.size)=some 42:=by rw[xv];simp[iV]
 have hbw:b < w.heap.size:=block_lt_of_cell (zj 0 _ (aci (by omega)))
 have hvw:vb < w.heap.size:=block_lt_of_cell (p9 0 _ (aci (by omega)))
 have hnb:n+1≤140737488355328:=acN (adJ _ nV) xJ
 have hkk:(n:Int)+1 - (i:Int)=((n+1 - i:Nat):Int):=by omega
 have hik:i+(n+1 - i)=n+1:=by omega
 have tF:(cs.take (i * 42)).length=i * 42:=by rw[acI,oB];omega
 have hold:(Builtin.firstCells i0.size i (.slice (some ⟨b,0,none⟩) i c)).run Tryz.prog w.drew= .ok (cs.take (i * 42)).toArray w.drew:=by
   rw[iV]
   exact run_firstCells_some w.drew 42 i ⟨b,0,none⟩ i c (cs.take (i * 42)) tF (fun j v hj=> by
     rw[Addr.add_lit,acU]
     rw[adL] at hj
     split at hj
     ·exact zj j v hj
     ·cases hj)
 have hkb:(n+1 - i)* i0.bytes≤281474976710656:=by
   have:(n+1 - i)* i0.bytes≤(n+1)* i0.bytes:=acE _ (by omega)
   omega
 have hrz:∀ty,(Builtin.append_ #[58,3] ty #[.slice (some ⟨b,0,none⟩) i c,.int .i64 ((n:Int)+1 - (i:Int))]).run Tryz.prog w=
  .ok (.slice (some ⟨w.heap.size,0,none⟩) (n+1) (grownCap w (n+1) c 57)) (w.drew.alloc (.cells ((cs.take (i * 42)).toArray++Builtin.zeroCells z.cells (n+1 - i)++Builtin.zeroCells z.cells (grownCap w (n+1) c 57 - (n+1))) 57)):=fun ty=> by
   have h:=Lib.run_append_grow_zeros w 58 3 ty 57 i0 z .i64 .i64 Tryz.underlying58 Tryz.underlying3 xv sh (some ⟨b,0,none⟩) i c (cs.take (i * 42)) hold (n+1 - i) (by omega) (by omega) (by omega) (by omega) hkb (by rw[hik];exact growslice_fits gE xJ)
   rw[hik] at h
   rw[hkk]
   exact h
 obtain ⟨G,hG⟩:∃G,G=grownCap w (n+1) c 57:=⟨_,rfl⟩
 obtain ⟨ROW,hROW⟩:∃ROW:Array Value,ROW=(cs.take (i * 42)).toArray++Builtin.zeroCells z.cells (n+1 - i)++Builtin.zeroCells z.cells (G - (n+1)):=⟨_,rfl⟩
 rw[←hG] at hrz ⊢
 rw[←hROW] at hrz ⊢
 have hRl:(n+1)* 42≤ROW.size:=by
   rw[hROW]
   simp[Builtin.zeroCells,hzc]
   omega
 obtain ⟨W1,hW1⟩:∃W1,W1=w.drew.alloc (.cells ROW 57):=⟨_,rfl⟩
 rw[←hW1] at hrz
 have hN:∀j,j <(n+1)* 42→(W1.cell? ⟨w.heap.size,j,none⟩).isSome=true:=fun j hj=> by
   rw[hW1,World.cell?_alloc_at (w:=w.drew) ROW _ w.heap.size j rfl,acP (by omega)];rfl
 have hNf:∀j,W1.frozen? ⟨w.heap.size,j,none⟩=false:=fun j=> by rw[hW1];exact World.frozen?_alloc_at (w:=w.drew) ROW _ w.heap.size j rfl
 have hOb:∀j v,w.cell? ⟨b,j,none⟩=some v→W1.cell? ⟨b,j,none⟩=some v:=fun j v h=> by rw[hW1,World.cell?_alloc_past (w:=w.drew) _ b j hbw];exact h
 have hOv:∀j v,w.cell? ⟨vb,j,none⟩=some v→W1.cell? ⟨vb,j,none⟩=some v:=fun j v h=> by rw[hW1,World.cell?_alloc_past (w:=w.drew) _ vb j hvw];exact h
 have hcpA:∀(W:World),(∀x,W.cell? x=W1.cell? x)→(∀x,W.frozen? x=W1.frozen? x)→∀ty dc,(Builtin.copy_ #[58,58] ty #[.slice (some ⟨w.heap.size,i * 42,none⟩) (n+1 - i) dc,.slice (some ⟨vb,voff,none⟩) 1 vc]).run Tryz.prog W= .ok (goInt 1) (W.setCells w.heap.size (i * 42) vs):=fun W hWc hWf ty dc=>
   fF W _ _ ty 57 w.heap.size (i * 42) (n+1 - i) dc ⟨vb,voff,none⟩ 1 vc vs 42 1 Tryz.underlying58 cU (by simp only[afQ];split <;> omega) (by rw[ED])
     (fun j v hj=> by rw[Addr.add_lit,hWc];exact hOv _ v (p9 j v hj))
     (fun j hj=> by rw[hWc];exact hN _ (by omega)) (fun j hj=> by rw[hWf];exact hNf _) h1v
 have hGn:n+1≤G:=by rw[hG];exact grownCap_ge w _ _ _
 have hG63:G≤9223372036854775807:=by
   have:=grownCap_le_maxLen w (n+1) c 57 (by unfold maxLen;omega)
   rw[←hG] at this
   unfold maxLen at this
   omega
 have hGi:¬(G=i):=by omega
 have hGim:¬(G=i+1):=by omega
 have hci:¬(c=i):=by omega
 have hbN:b≠w.heap.size:=by omega
 have vF:(cs.drop (i * 42)).length=(n - i)* 42:=by rw[adb,oB,afP]
 have hcpB:∀(W:World),(∀x,W.cell? x=(W1.setCells w.heap.size (i * 42) vs).cell? x)→(∀x,W.frozen? x=(W1.setCells w.heap.size (i * 42) vs).frozen? x)→∀ty dc sc,(Builtin.copy_ #[58,58] ty #[.slice (some ⟨w.heap.size,(i+1)* 42,none⟩) (n - i) dc,.slice (some ⟨b,i * 42,none⟩) (n - i) sc]).run Tryz.prog W= .ok (goInt ((n - i:Nat):Int)) (W.setCells w.heap.size ((i+1)* 42) (cs.drop (i * 42))):=fun W hWc hWf ty dc sc=>
   fF W _ _ ty 57 w.heap.size ((i+1)* 42) (n - i) dc ⟨b,i * 42,none⟩ (n - i) sc (cs.drop (i * 42)) 42 (n - i) Tryz.underlying58 cU (by simp only[afQ];split <;> omega) vF
     (fun j v hj=> by
       rw[Addr.add_lit,hWc,World.cell?_setCells_out _ _ _ _ _ (fun h _=> absurd h hbN)]
       exact hOb _ v (zj (i * 42+j) v (by rwa [ad5] at hj)))
     (fun j hj=> by rw[hWc];exact isSome_setCells _ _ _ _ (fun t ht=> hN _ (by omega)) _ (hN _ (by omega)))
     (fun j hj=> by rw[hWf,World.frozen?_setCells];exact hNf _) (fun v hv=> h1c v (acY hv))
 subst hW1
 have hE1:∀x,((w.alloc (.cells ROW 57)).drew).cell? x=(w.drew.alloc (.cells ROW 57)).cell? x:=fun x=> rfl
 have hE2:∀x,((w.alloc (.cells ROW 57)).drew).frozen? x=(w.drew.alloc (.cells ROW 57)).frozen? x:=fun x=> rfl
 have hF1:∀x,(((w.alloc (.cells ROW 57)).drew.setCells w.heap.size (i * 42) vs).drew).cell? x=((w.drew.alloc (.cells ROW 57)).setCells w.heap.size (i * 42) vs).cell? x:=fun x=> rfl
 have hF2:∀x,(((w.alloc (.cells ROW 57)).drew.setCells w.heap.size (i * 42) vs).drew).frozen? x=((w.drew.alloc (.cells ROW 57)).setCells w.heap.size (i * 42) vs).frozen? x:=fun x=> rfl
 have mT:IntKind.i64.wrap ((i:Int)+1)=(i:Int)+1:=by rw[IntKind.wrap_i64];omega
 have jo:(0:Int)≤(i:Int)+1:=by omega
 have Hk:i≤n:=by omega
 have htn:((i:Int)+1).toNat=i+1:=by omega
 have hb3:(i:Int)≤(n:Int):=by omega
 clear hkk hik hold hROW hG hRl
 go_enter Tryz.func110,Tryz.ntmps110
 go_wp2_with (first
   | (at_builtin;refine Lib.wpList_append_run _ rfl _ _ _ _ rfl _ _ rfl rfl _ _ (hrz _) ?_)
   | (at_builtin;refine wpList_copy_runI _ rfl _ _ 58 58 rfl _ _ rfl rfl (hcpA _ hE1 hE2 _ _) ?_)
   | (at_builtin;refine wpList_copy_runI _ rfl _ _ 58 58 rfl _ _ rfl rfl (hcpB _ (fun _=> rfl) (fun _=> rfl) _ _ _) ?_))
 go_region_law_o (refine step_copy_runI rfl _ _ 58 58 rfl (.slice (some ⟨w.heap.size,(i+1)* 42,none⟩) (n - i) (G - (i+1))) (.slice (some ⟨b,i * 42,none⟩) (n - i) (c - i)) (by simp[Act.eval,Act.put]) (by simp[Act.eval,Act.put]) (hcpB _ hF1 hF2 3 (G - (i+1)) (c - i)) ?_)
 go_wp2
 go_ret
 exact ⟨rfl,rfl⟩
set_option maxHeartbeats 4000000 in
set_option maxRecDepth 100000 in
theorem Nl (a:Option Addr) (n c vc:Nat) (ay:Addr) (w w':World) (u:Value) (hnc:n≤c) (oA:a=none→n=0)
 (bo:(Builtin.append_ #[58,58] 58 #[.slice a n c,.slice (some ay) 1 vc]).run Tryz.prog w= .ok u w'):
 Calls Tryz.prog 110 #[.slice a n c,.int .i64 n,.slice (some ay) 1 vc] w fun e w2=> e= .returned u∧w2=w':=by
 have mixed:Tryz.prog.follows .mixedOrders=true:=by kernel_rfl
 go_enter Tryz.func110,Tryz.ntmps110
 cases a with
 | none=>
   have h0:=oA rfl
   subst h0
   go_wp2_with (at_builtin;refine Lib.wpList_append_run _ rfl _ _ _ _ rfl _ _ rfl rfl _ _ bo ?_)
   go_ret
   exact ⟨rfl,rfl⟩
 | some a=>
   obtain ⟨ab,ao,asp⟩:=a
   go_wp2_with (at_builtin;refine Lib.wpList_append_run _ rfl _ _ _ _ rfl _ _ rfl rfl _ _ bo ?_)
   all_goals (go_ret;exact ⟨rfl,rfl⟩)
end Go.Proofs.YthplailfedobeaaGreat
namespace Go.Proofs.YthplailfedobeaaGreat
open Go Go.Vm Go.Proofs Go.Cl
set_option maxRecDepth 100000
theorem YN :(ak Tryz.prog).aD (some 56)=42:=by kernel_rfl
theorem Px :aE Tryz.prog 57=some 56:=by kernel_rfl
theorem Sm :TG Tryz.prog (ak Tryz.prog) 57 (some 56):=by
 have:=cM (P:=Tryz.prog) (t:=57) (by kernel_rfl)
 rw[Px] at this;exact this
theorem oS {w:World} {b:Nat} {us:Array Value} {ty:TypeId} {fz:Nat×Nat} (hg:w.heap[b]? =some (.cells us ty fz)):w.shape? b=some (ty,us.size):=by
 simp only[World.shape?,hg]
theorem ml {w:World} {b j:Nat} {us:Array Value} {ty:TypeId} (hg:w.heap[b]? =some (.cells us ty (0,0))):w.frozen? ⟨b,j,none⟩=false:=by
 simp only[World.frozen?,hg];simp
theorem Fl {row a v d:List Value} {o p q:Nat} (h1:o+v.length=p) (h2:p+d.length=q) (hl:q≤row.length) (ha:row.take o=a):(lay (lay row o v) p d).take q=a++v++d:=by
 have h3:(lay row o v).length=row.length:=ei _ _ _ (by omega)
 rw[iC (by omega) h2,iC (by omega) h1,ha]
theorem BN (hL:(ak Tryz.prog).OK) {c:Ctx} {w:World} {h:Hp} (hs:bp (ak Tryz.prog) c h w) {id idy n i:Nat} {es:List V} {e:V} {ux uy:Value}
 (hx:RV (ak Tryz.prog) c (.ref id [] (some 56) 0 n n) ux) (hy:RV (ak Tryz.prog) c (.ref idy [] (some 56) 0 1 1) uy) (hrx:rowOf h id n=some (some 56,es)) (hry:rowOf h idy 1=some (some 56,[e]))
 (cC:id≠idy) (hi:i < n) (xJ:(n+1)* Tryz.prog.bytesOf 57≤140737488355328):
 fD Tryz.prog (ak Tryz.prog) c w 110 [ux,.int .i64 i,uy] (.ref id [] (some 56) 0 (n+1) (n+1)) (h.set id (.cells (some 56) (es.take i++[e]++es.drop i))):=by
 have Hq:=YN
 obtain ⟨l,hl,cO,cD,hz,jo,qU,hb3,cY,us0,ty0,fz0,hg,cU,dt,gk⟩:=hs.row hrx
 obtain ⟨ly,hly,YO,abP,hzy,ab4,ab5,abf,Nm,usy,tyy,fzy,hgy,abg,abh,Fm⟩:=hs.row hry
 have oJ:=(q16z hrx).2
 obtain ⟨_,k,rfl,mR,hm⟩:=dU hx hl cO (path:=[]) (o:=0) (e:=l.tag) (m:=none) rfl
 obtain ⟨_,ky,rfl,ab6,hmy⟩:=dU hy hly YO (path:=[]) (o:=0) (e:=ly.tag) (m:=none) rfl
 simp only[fp,acU,adS] at hm hmy ⊢
 obtain ⟨kI,pK,hm3⟩:=hm
 have hU:=dt
 have vn:=hz
 have hszU:=cU
 have abi:=dt.2 rfl
 have YP:=abh.2 rfl
 subst abi YP
 rw[Hq] at cU abg gk Fm
 simp only[acR,ada,acU,ae3] at Fm abf
 have abj:ly.bE≠l.bE:=fun he=> cC (hs.inj id idy l ly hl hly he.symm)
 have zk:∀y∈es,y.ty=some 56:=fun y hy=>(cY y hy).1
 have BO:=q8z hL gk zk
 have xK:=q8z hL Fm (fun y hy=>(Nm y hy).1)
 rw[Hq] at BO xK
 simp only[acR,ada,acU,ae3] at xK
 rw[oJ] at BO gk
 have h1c:∀q∈us0.toList.take (n * 42),q.oneCell'=true:=dC (fun v _=> ed v) (fun v hv=>(cY v hv).2) _ gk
 have h1v:∀q∈usy.toList.take 42,q.oneCell'=true:=dC (fun v _=> ed v) (fun v hv=>(Nm v hv).2) _ Fm
 have zj:∀j v,(us0.toList.take (n * 42))[j]? =some v→w.cell? ⟨l.bE,j,none⟩=some v:=fun j v hj=> by
   rw[adL] at hj
   split at hj
   ·rw[q15z hg];simpa using hj
   ·cases hj
 have p9:∀j v,(usy.toList.take 42)[j]? =some v→w.cell? ⟨ly.bE,0+j,none⟩=some v:=fun j v hj=> by
   rw[adL] at hj
   split at hj
   ·rw[q15z hgy,acU];simpa using hj
   ·cases hj
 obtain ⟨i0,xv,hi0s⟩:=Sm.info
 rw[Hq] at hi0s
 have nV:Tryz.prog.bytesOf 57=i0.bytes:=by simp[Program.bytesOf,xv]
 rw[nV] at xJ
 have YQ:0 < i0.bytes:=by rw[←nV];exact of_decide_eq_true (by kernel_rfl)
 have hnb:n+1≤140737488355328:=acN (adJ _ YQ) xJ
 have bV:cB (ak Tryz.prog) c (es.take i++[e]++es.drop i) ((us0.toList.take (n * 42)).take (i * 42)++usy.toList.take 42++(us0.toList.take (n * 42)).drop (i * 42)):=by
   have a:=fq hL gk zk i (by omega)
   rw[Hq] at a
   exact ej.2 ⟨_,_,rfl,ej.2 ⟨_,_,rfl,a.1,Fm⟩,a.2⟩
 have kO:∀q∈es.take i++[e]++es.drop i,q.ty=some 56∧q.aA=true:=fun q hq=> by
   rcases acG.1 hq with hq | hq
   ·rcases acG.1 hq with hq | hq
    ·exact cY q (acA hq)
    ·exact Nm q hq
   ·exact cY q (acY hq)
 have zl:(es.take i++[e]++es.drop i).length=n+1:=by simp;omega
 by_cases gE:n+1≤k
 ·-- room
  have gF:(n+1)* 42≤us0.size:=by rw[cU];exact acE 42 (by omega)
  have vF:((us0.toList.take (n * 42)).drop (i * 42)).length=(n - i)* 42:=by rw[adb,BO,afP]
  have hU':J7 (some 56) us0.size (0,0):=hU
  refine Calls.mono (Fk l.bE n k i ly.bE 0 ky (us0.toList.take (n * 42)) (usy.toList.take 42) w hi gE (by omega) abj BO xK zj
    (fun j hj=> by rw[q15z hg,acP (by omega)];rfl) (fun j hj=> ml hg) p9 h1c h1v tyy ty0 usy.size us0.size (oS hgy) (oS hg) (by omega) (ml hgy) (ml hgy)) ?_
  rintro en w' ⟨rfl,rfl⟩
  have e1l:(es.take (i+1)++es.drop i).length=n+1:=by simp;omega
  have r1:cB (ak Tryz.prog) c (es.take (i+1)++es.drop i) ((lay us0.toList ((i+1)* 42) ((us0.toList.take (n * 42)).drop (i * 42))).take ((n+1)* 42)):=by
    rw[iC (by rw[vF];simp;omega) (by rw[vF];omega)]
    have a:=(fq hL gk zk (i+1) (by omega)).1
    have b:=(fq hL gk zk i (by omega)).2
    rw[Hq] at a b
    rw[ads,acZ (by omega)] at a
    exact ej.2 ⟨_,_,rfl,a,b⟩
  have YR:∀q∈es.take (i+1)++es.drop i,q.ty=some 56∧q.aA=true:=fun q hq=> by
    rcases acG.1 hq with hq | hq
    ·exact cY q (acA hq)
    ·exact cY q (acY hq)
  obtain ⟨l1,vf,vR,MF,Py⟩:=jB hL hs.drew hl cD hz (w:=w.drew) hg hU' (by rw[Hq];exact hszU) (es':=es.take (i+1)++es.drop i) YR (by omega) (by omega) (o:=(i+1)* 42) (vs:=(us0.toList.take (n * 42)).drop (i * 42)) (by rw[vF];omega) (by rw[e1l,Hq];exact r1)
  have bR:id < h.length:=(acj.1 (q16z hrx).1).1
  have YS:rowOf (h.set id (.cells (some 56) (es.take (i+1)++es.drop i))) id (n+1)=some (some 56,es.take (i+1)++es.drop i):=by
    simp[rowOf,bR,e1l]
  obtain ⟨l2,CY,Pz,Dy,hz2,ab7,ab8,ab9,aca,us1,ty1,fz1,cT,YT,hU1,abk⟩:=vR.row YS
  rw[Py] at CY
  cases CY
  have zm:l1.bE=l.bE:=by rw[vf]
  have PA:l1.cap=l.cap:=by rw[vf]
  rw[zm] at hz2 cT
  have ji:=nA hL abk (Fm.mono MF) (fun q hq=>(YR q hq).1) (fun q hq=>(Nm q hq).1) (n:=i) (by rw[e1l];simp;omega)
  have ee:(es.take (i+1)++es.drop i).take i++[e]++(es.take (i+1)++es.drop i).drop (i+[e].length)=es.take i++[e]++es.drop i:=by
    have h1:(es.take (i+1)).length=i+1:=by simp;omega
    rw[acV (by omega),ads,acZ (by omega),afM,afy,h1,aeU,adp (by omega),ac2,ac1]
  have YU:us1.size=us0.size:=by rw[YT,PA,Hq,cU]
  rw[ee,Hq,e1l,←nB _ _ _ _ (by rw[xK];omega) (by simp;omega)] at ji
  obtain ⟨l3,yu,hs3,abl,YV⟩:=jB hL vR Py Dy (by rw[zm];exact hz2) (by rw[zm];exact cT) hU1 (by rw[YT]) (es':=es.take i++[e]++es.drop i) kO (by omega) (by omega) (o:=i * 42) (vs:=usy.toList.take 42) (by rw[xK,YU];omega) (by rw[zl,Hq];exact ji)
  rw[zm,adf] at hs3
  have j5:=nC hs3 (id:=id) (aB:=n+1) (off:=0) (len:=n+1) (k:=k) (path:=[]) (m:=none) (o:=0) (e:=l3.tag) YV (by rw[yu];exact zl) rfl gE (by rw[yu];simp only[fp,PA];omega)
  have YW:l3.bE=l.bE:=by rw[yu];exact zm
  have YX:l3.tag=some 56:=by rw[yu];exact Dy
  rw[YW,YX] at j5
  simp only[acU,adS] at j5
  exact ⟨_,_,rfl,j5,hs3,MF.trans abl,(St.drew w).trans ((St.setCells _ _ _ _).trans (St.setCells _ _ _ _))⟩
 ·-- no room
  have hz:((Tryz.prog.info? 57).bind fun i=> i.zero).map (fun z=> z.cells.size)=some 42:=by kernel_rfl
  rw[xv] at hz
  obtain ⟨z,sh,hzc⟩:=ach.1 hz
  refine Calls.mono (J6 l.bE n k i ly.bE 0 ky (us0.toList.take (n * 42)) (usy.toList.take 42) w i0 z xv sh hi0s hzc YQ hi (by omega) (by omega) xJ BO xK zj p9 h1c h1v) ?_
  rintro en w' ⟨rfl,rfl⟩
  have hGn:n+1≤grownCap w (n+1) k 57:=grownCap_ge w _ _ _
  obtain ⟨G,hG⟩:∃G,G=grownCap w (n+1) k 57:=⟨_,rfl⟩
  rw[←hG] at hGn ⊢
  obtain ⟨ROW,hROW⟩:∃ROW:Array Value,ROW=((us0.toList.take (n * 42)).take (i * 42)).toArray++Builtin.zeroCells z.cells (n+1 - i)++Builtin.zeroCells z.cells (G - (n+1)):=⟨_,rfl⟩
  rw[←hROW]
  have tF:((us0.toList.take (n * 42)).take (i * 42)).length=i * 42:=by rw[acI,BO];omega
  have vF:((us0.toList.take (n * 42)).drop (i * 42)).length=(n - i)* 42:=by rw[adb,BO,afP]
  have hRs:ROW.size=G * 42:=by
    rw[hROW,afs,afs,aeK,tF,size_zeroCells,size_zeroCells,hzc];omega
  have hRt:ROW.toList.take (i * 42)=(us0.toList.take (n * 42)).take (i * 42):=by
    rw[hROW,afi,afi,acs,adO]
    exact afj tF
  have oK:(n+1)* 42≤ROW.size:=by rw[hRs];exact acE 42 hGn
  have dF:∃l':Vm.Loc,l'=⟨w.heap.size,G,some 56,n+1⟩:=⟨_,rfl⟩
  obtain ⟨l',dF⟩:=dF
  have hle:c.le (c.move id l'):=Ctx.xL c id l l' hl (by rw[dF,cD]) (by rw[dF,cO];simp) (fun he=> by rw[dF,cO] at he;simp at he)
  have g1:((w.alloc (.cells ROW 57)).drew).heap[w.heap.size]? =some (.cells ROW 57 (0,0)):=jL (w:=w)
  have g2:=dI w.heap.size 57 (0,0) (usy.toList.take 42) (i * 42) ROW _ g1 (by rw[xK];omega)
  have oC:(lay ROW.toList (i * 42) (usy.toList.take 42)).length=ROW.size:=by rw[ei _ _ _ (by rw[xK];simp;omega)];simp
  have g3:=dI w.heap.size 57 (0,0) ((us0.toList.take (n * 42)).drop (i * 42)) ((i+1)* 42) _ (((w.alloc (.cells ROW 57)).drew.setCells w.heap.size (i * 42) (usy.toList.take 42)).drew) g2 (by rw[vF,aeK,oC];omega)
  have dv:bp (ak Tryz.prog) (c.move id l') (h.set id (.cells (some 56) (es.take i++[e]++es.drop i))) ((((w.alloc (.cells ROW 57)).drew.setCells w.heap.size (i * 42) (usy.toList.take 42)).drew).setCells w.heap.size ((i+1)* 42) ((us0.toList.take (n * 42)).drop (i * 42))):=by
    refine hs.move hl _ hle (by rw[dF];exact hs.rJ) (Or.inr (by rw[dF];exact acm _)) (fun b hb sI=> ?_) (fun o' kP=> by rw[vn] at kP;cases kP) ?_
    ·rw[q13z _ _ _ _ _ (by omega)]
     show ((w.alloc (.cells ROW 57)).drew.setCells w.heap.size (i * 42) (usy.toList.take 42)).heap[b]? =_
     rw[q13z _ _ _ _ _ (by omega)]
     exact iQ (w:=w) hb
    ·refine ⟨by rw[dF],by rw[dF,zl],by rw[dF,zl];exact hGn,kO,_,57,(0,0),by rw[dF];exact g3,?_,⟨by intro j hj;omega,fun _=> rfl⟩,?_⟩
     ·rw[aeK,ei _ _ _ (by rw[vF];simp only[adO,oC];omega),adO,oC,hRs,dF,Hq]
     ·rw[zl,Hq,adO,adO,Fl (by rw[xK];omega) (by rw[vF];omega) (by simp;omega) hRt]
      exact bV.mono hle
  have xM:(c.move id l').loc id=some l':=by simp[Ctx.move]
  have j5:=nC dv (id:=id) (aB:=n+1) (off:=0) (len:=n+1) (k:=G) (path:=[]) (m:=none) (o:=0) (e:=l'.tag) xM (by rw[dF]) rfl hGn (by rw[dF];simp only[fp];omega)
  have YY:l'.bE=w.heap.size:=by rw[dF]
  have zn:l'.tag=some 56:=by rw[dF]
  rw[YY,zn] at j5
  simp only[acU,adS] at j5
  exact ⟨_,_,rfl,j5,dv,hle,(St.alloc _ _).trans ((St.drew _).trans ((St.setCells _ _ _ _).trans ((St.drew _).trans (St.setCells _ _ _ _))))⟩
theorem ud (hL:(ak Tryz.prog).OK) {c:Ctx} {w:World} {h:Hp} (hs:bp (ak Tryz.prog) c h w) {x:V} {idy:Nat} {ux uy:Value} {n:Nat} {v:V} {h':Hp}
 (hx:RV (ak Tryz.prog) c x ux) (hy:RV (ak Tryz.prog) c (.ref idy [] (some 56) 0 1 1) uy) (hux:∃a k,ux= .slice a n k∧n≤k∧(a=none→n=0)) (ai:oM 0 h (some 56) (Tryz.prog.bytesOf 57) x (.ref idy [] (some 56) 0 1 1)=some (v,h')):
 fD Tryz.prog (ak Tryz.prog) c w 110 [ux,.int .i64 n,uy] v h':=by
 obtain ⟨a,k,rfl,hnk,oA⟩:=hux
 obtain ⟨ay,ky,rfl,_⟩:=o7.1 hy
 obtain ⟨sh,jM,iV⟩:=cZ (P:=Tryz.prog) (obj:=ob) (t:=57) (z:= .st 56 [.arr 54 [.s (.int .u8 0),.s (.int .u8 0),.s (.int .u8 0),.s (.int .u8 0)],.s (.int .u64 0),.arr 27 [.s (.int .u8 0),.s (.int .u8 0),.s (.int .u8 0),.s (.int .u8 0),.s (.int .u8 0),.s (.int .u8 0),.s (.int .u8 0),.s (.int .u8 0),.s (.int .u8 0),.s (.int .u8 0),.s (.int .u8 0),.s (.int .u8 0),.s (.int .u8 0),.s (.int .u8 0),.s (.int .u8 0),.s (.int .u8 0)],.al false none [],.s (.int .i64 0),.s (.int .i64 0),.arr 27 [.s (.int .u8 0),.s (.int .u8 0),.s (.int .u8 0),.s (.int .u8 0),.s (.int .u8 0),.s (.int .u8 0),.s (.int .u8 0),.s (.int .u8 0),.s (.int .u8 0),.s (.int .u8 0),.s (.int .u8 0),.s (.int .u8 0),.s (.int .u8 0),.s (.int .u8 0),.s (.int .u8 0),.s (.int .u8 0)],.s (.bool false),.s (.bool false)]) (by kernel_rfl)
 obtain ⟨i,hi,_⟩:=Sm.info
 have hb:Tryz.prog.bytesOf 57=i.bytes:=by simp[Program.bytesOf,hi]
 have ij:0 < i.bytes:=by rw[←hb];exact of_decide_eq_true (by kernel_rfl)
 rw[hb] at ai
 rw[Px] at jM
 obtain ⟨u,c',w',bo,h1,h2,h3,h4⟩:=BP (P:=Tryz.prog) hL hs (T2:=58) (ty:=58) Tryz.underlying58 Sm hi sh jM iV (Or.inl ⟨_,Tryz.underlying58⟩) ij hx hy ai
 refine Calls.mono (Nl a n k ky ay w w' u hnk oA bo) ?_
 rintro e w2 ⟨rfl,rfl⟩
 exact ⟨u,c',rfl,h1,h2,h3,h4⟩
theorem xN (hL:(ak Tryz.prog).OK) {c:Ctx} {w:World} {vs:List V} {us:List Value} {h:Hp} {v:V} {h':Hp} (hc:fC (some 56) (Tryz.prog.bytesOf 57) vs h=some (v,h')) (hv:gu (ak Tryz.prog) c vs us) (hs:bp (ak Tryz.prog) c h w):fD Tryz.prog (ak Tryz.prog) c w 110 us v h':=by
 unfold fC at hc
 split at hc
 case h_2=> cases hc
 rename_i _ x i idy gy
 match us,hv with
 | [ux,ui,uy],hv=>
 obtain ⟨hx,hi,hy,_⟩:=hv
 obtain ⟨rfl,_⟩:=bF.1 hi
 split at hc
 case h_2=> cases hc
 rename_i gy' e hry
 split at hc
 case isFalse=> cases hc
 rename_i hcc
 obtain ⟨rfl,rfl,xk⟩:=hcc
 have mj:source h (.ref idy [] (some 56) 0 1 1)=some (some 56,[e]):=by simp[source,elems,Vm.rowAt,hry]
 split at hc
 ·rename_i gx
  split at hc
  case isFalse=> cases hc
  rename_i hcc
  obtain ⟨rfl,rfl⟩:=hcc
  cases hc
  obtain ⟨a,k,rfl,h1,h2,h3,h4⟩:=dh.1 hx
  refine ud (n:=0) hL hs hx hy ⟨a,k,rfl,by simp,fun _=> rfl⟩ ?_
  have hb:Tryz.prog.bytesOf 57≤140737488355328:=of_decide_eq_true (by kernel_rfl)
  simp[oM,mj,df,hb]
 ·rename_i id gx n m
  split at hc
  case h_2=> cases hc
  rename_i gx' es hrx
  split at hc
  case isFalse=> cases hc
  rename_i hcc
  obtain ⟨rfl,rfl,rfl,cC,h0i,Hk,xJ⟩:=hcc
  cases hc
  obtain ⟨j,rfl⟩:∃j:Nat,i=j:=⟨i.toNat,by omega⟩
  have cm:=(q16z hrx).2
  simp only[acC]
  by_cases hj:j < n
  ·exact BN hL hs hx hy hrx hry cC hj xJ
  ·obtain rfl:j=n:=by omega
   obtain ⟨a,k,rfl,_,hk,_⟩:=o7.1 hx
   refine ud (n:=j) hL hs hx hy ⟨some a,k,rfl,hk,fun h=> by cases h⟩ ?_
   have hm:bQ 0 id e=true:=by simp[bQ]
   have t1:es.take j=es:=ack (by omega)
   have t2:es.drop j=[]:=adp (by omega)
   simp[oM,mj,df,hrx,hm,xJ,t1,t2]
 ·cases hc
theorem ue (hL:(ak Tryz.prog).OK) {c:Ctx} {w:World} {h:Hp} (hs:bp (ak Tryz.prog) c h w) {x:V} {ux:Value} (hx:RV (ak Tryz.prog) c x ux) {g:Option Nat} {es:List V} {l:List UInt8} (he:elems h x=some (g,es)) (hl:Vm.bytesOf es=some l):
 (Extern.Bytes.bytesOf ux).run Tryz.prog w= .ok ⟨l.toArray⟩ w:=by
 obtain ⟨a,k,rfl,mR,cm,gq⟩:=ql hL hs hx he
 rcases gq with rfl | ⟨b,o,us,ty,fz,rfl,hg,hr⟩
 ·simp only[Vm.bytesOf,Option.some.injEq] at hl
  subst hl
  cases a <;> simp[Extern.Bytes.bytesOf,Extern.Bytes.loadBytes]<;> rfl
 ·obtain ⟨ns,hns,mU,rfl⟩:=kQ es l _ hl hr
  have zo:=oe hL hg hr (fun q hq=>(cm q hq).1)
  rw[hns] at zo
  have bo:=Lib.run_loadBytesX (P:=Tryz.prog) (w:=w) ns ⟨b,o,none⟩ .empty (fun j x hj=> zo j (.int .u8 x) (by simp[hj]))
  rw[mU] at bo
  simp only[Extern.Bytes.bytesOf,bo]
  congr 2
  simp[Lib.bytesOf,ByteArray.empty,ByteArray.emptyWithCapacity]
  rfl
theorem Fo (hL:(ak Tryz.prog).OK) {c:Ctx} {w:World} {vs:List V} {us:List Value} {h:Hp} {v:V} {h':Hp} (hc:yF vs h=some (v,h')) (hv:gu (ak Tryz.prog) c vs us) (hs:bp (ak Tryz.prog) c h w):fD Tryz.prog (ak Tryz.prog) c w 111 us v h':=by
 unfold yF at hc
 split at hc
 case h_2=> cases hc
 match us,hv with
 | [ux,uy],hv=>
 obtain ⟨hx,hy,_⟩:=hv
 split at hc
 case h_2=> cases hc
 rename_i ga a gb b' hea heb
 split at hc
 case h_2=> cases hc
 rename_i l m hla hlb
 cases hc
 have h1:=ue hL hs hx hea hla
 have h2:=ue hL hs hy heb hlb
 have jj:(callFunc 134 #[ux,uy]).run Tryz.prog w= .ok (.value (.int .i64 (Lib.compareBytes l m))) w:=by
   rw[run_callFunc_extern Tryz.func134 (by kernel_rfl) (by kernel_rfl) (by kernel_rfl) (e:=Extern.BytealgCompare.compare) (by kernel_rfl)]
   have:(Extern.BytealgCompare.compare #[ux,uy]).run Tryz.prog w= .ok (.int .i64 (Lib.compareBytes l m)) w:=by
     change Sem.run Tryz.prog (do pure (goInt (Extern.BytealgCompare.cmp (←Extern.Bytes.bytesOf ux) (←Extern.Bytes.bytesOf uy)))) w=_
     simp only[Sem.run_bind,Sem.run_pure,h1,h2,Result.andThen]
     rw[Lib.cmp_eq]
     rfl
   rw[this];rfl
 refine Calls.mono (R:=fun e w'=> e= .returned (.int .i64 (Lib.compareBytes l m))∧w'=w) ?_ ?_
 ·go_enter Tryz.func111,Tryz.ntmps111
  go_wp2_with (simp only[jj])
  go_ret
  exact ⟨rfl,rfl⟩
 ·rintro e w' ⟨rfl,rfl⟩
  exact ⟨_,c,rfl,bF.2 ⟨rfl,rfl⟩,hs,Ctx.le_refl _,St.refl _⟩
theorem Up :cJ Tryz.prog (ak Tryz.prog) pr:=by
 intro f vs h v h' hr
 unfold pr at hr
 split at hr
 ·obtain ⟨x,rfl⟩:=pQ hr
  refine ⟨⟨_,Tryz.func87,rfl,by kernel_rfl⟩,fun c w us hv hs=> ?_⟩
  match us,hv with
  | [u],hv=> exact rA o4 hr hv.1 hs
 ·refine ⟨⟨_,Tryz.func111,rfl,by kernel_rfl⟩,fun c w us hv hs=> Fo o4 hr hv hs⟩
 ·refine ⟨⟨_,Tryz.func110,rfl,by kernel_rfl⟩,fun c w us hv hs=> ?_⟩
  have hb:Tryz.prog.bytesOf 57=96:=by kernel_rfl
  rw[←hb] at hr
  exact xN o4 hr hv hs
 ·exact ⟨⟨_,Tryz.func71,rfl,by kernel_rfl⟩,fun c w us hv hs=> Ep hr hv hs⟩
 ·cases hr
theorem Uq :KpP pr:=by
 intro f vs h v h' hr base
 unfold pr at hr
 split at hr
 ·exact vD hr base
 ·have:=Fp hr;subst this;exact Kp.refl _ _
 ·exact BQ hr base
 ·have:=Ei hr;subst this;exact Kp.refl _ _
 ·cases hr
end Go.Proofs.YthplailfedobeaaGreat
