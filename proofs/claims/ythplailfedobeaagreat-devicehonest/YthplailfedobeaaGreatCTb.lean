/- Texts for DeviceHonest, part 2. Conditions: none. -/
import Derived.Test.YthplailfedobeaaGreatCTa
set_option linter.unusedSimpArgs false
set_option linter.unusedVariables false
set_option linter.unusedSectionVars false
namespace Go.Proofs.YthplailfedobeaaGreat
open Go Go.Vm Go.Proofs Go.Cl
set_option maxRecDepth 100000
def A3 :CF:=fun f vs h=> match f with
 | 87=> dO vs h
 | _=> none
theorem RK :cJ Tryz.prog (ak Tryz.prog) A3:=by
 intro f vs h v h' hr
 unfold A3 at hr
 split at hr
 ·obtain ⟨x,rfl⟩:=pQ hr
  refine ⟨⟨_,Tryz.func87,rfl,by kernel_rfl⟩,fun c w us hv hs=> ?_⟩
  match us,hv with
  | [u],hv=> exact rA o4 hr hv.1 hs
 ·cases hr
theorem RL :KpP A3:=by
 intro f vs h v h' hr base
 unfold A3 at hr
 split at hr
 ·exact vD hr base
 ·cases hr
theorem sv (b:Nat) (h:Hp) (x k:Nat) (hx:x < 4294967296) (hk:k=16∨k=12∨k=8∨k=7):run qD A3 b 129 [.s (.int .u32 x),.s (.int .i64 k)] h=some (.s (.int .u32 (pN k x:Nat)),h):=by
 refine Vm.aQ (nt:=17) rfl QU (by simp) ?_
 have s1:xf .u32 (x:Int) (k:Int)=_:=IU (a:=x) (k:=k) (by omega)
 have s2:qE .u32 (x:Int) ((32 - k:Nat):Int)=_:=IV (a:=x) (k:=32 - k) (by omega)
 have s3:=RI (a:=x * 2 ^ k % 4294967296) (b:=x / 2 ^(32 - k)) (aeI _ (by decide)) (aez (aep _ _) hx)
 rw[AY hx (by omega)] at s3
 have w1:IntKind.u64.wrap (k:Int)=(k:Int):=wrap_u64 (by omega) (by omega)
 have a1:Yd .u64 (k:Int) 31=(k:Int):=by rcases hk with rfl | rfl | rfl | rfl <;> rfl
 have w2:IntKind.u64.wrap (32 - (k:Int))=((32 - k:Nat):Int):=by rw[wrap_u64 (by omega) (by omega)];omega
 have h1:=fun cf base h=> vE cf base h .u32 .u64 (x:Int) (k:Int) (by omega)
 have h2:=fun cf base h=> pR cf base h .u32 .u64 (x:Int) ((32 - k:Nat):Int) (by omega)
 have ax:(0:Nat)=0:=rfl
 try simp only[Mj,w1,a1,w2,h1,h2,s1,s2,s3,go_sem,simprocAttr]
 repeat' (
   first | refine q5z ?_ ?_ | refine q3z ?_ ?_ | refine q4z ?_ ?_
   all_goals intro aj
   all_goals first | replace aj:=q2z aj | replace aj:=q1z aj | skip
   all_goals first | subst aj | replace ax:=And.intro aj ax
   all_goals try simp only[ax,Mj,w1,a1,w2,h1,h2,s1,s2,s3,go_sem,simprocAttr])
theorem fS (p:Bool) (n:Value):(p || (V.s n).ground)=true:=by cases p <;> rfl
theorem CU (b:Nat) (h:Hp) (id:Nat) (x:W) (hg:h[id]? =some (.cells (some 163) [.arr 163 x.vs])):
 run qD A3 b 106 [.ptr id [0] 1] h=some (.bP [],h.set id (.cells (some 163) [.arr 163 (iH x).vs])):=by
 refine Vm.aQ (nt:=98) rfl P8 (by simp) ?_
 have o9:∀c,(h.set id c)[id]? =some c:=fun c=> q9z hg
 have Ek:∀c d,(h.set id c).set id d=h.set id d:=fun c d=> adf ..
 have fk:∀c,(h.set id c).take h.length=h.set id c:=fun c=> ack (by rw[adz];exact acm _)
 have r16:∀b h y z,run qD A3 b 129 [.s (.int .u32 ((xr y z:Nat):Int)),.s (.int .i64 16)] h=some (.s (.int .u32 ((pN 16 (xr y z):Nat):Int)),h):=fun b h y z=> sv b h _ 16 (mB _ _) (by omega)
 have r12:∀b h y z,run qD A3 b 129 [.s (.int .u32 ((xr y z:Nat):Int)),.s (.int .i64 12)] h=some (.s (.int .u32 ((pN 12 (xr y z):Nat):Int)),h):=fun b h y z=> sv b h _ 12 (mB _ _) (by omega)
 have r8:∀b h y z,run qD A3 b 129 [.s (.int .u32 ((xr y z:Nat):Int)),.s (.int .i64 8)] h=some (.s (.int .u32 ((pN 8 (xr y z):Nat):Int)),h):=fun b h y z=> sv b h _ 8 (mB _ _) (by omega)
 have r7:∀b h y z,run qD A3 b 129 [.s (.int .u32 ((xr y z:Nat):Int)),.s (.int .i64 7)] h=some (.s (.int .u32 ((pN 7 (xr y z):Nat):Int)),h):=fun b h y z=> sv b h _ 7 (mB _ _) (by omega)
 simp only[W.vs] at hg
 have l0:(0:Int)<((4:Nat):Int):=by decide
 have l1:(1:Int)<((4:Nat):Int):=by decide
 have l2:(2:Int)<((4:Nat):Int):=by decide
 have l3:(3:Int)<((4:Nat):Int):=by decide
 have ax:(0:Nat)=0:=rfl
 try simp only[Ma,l0,l1,l2,l3,hg,o9,Ek,fk,Mq,yC,r16,r12,r8,r7,fS,go_sem,simprocAttr]
 repeat' (
   first | refine q5z ?_ ?_ | refine q3z ?_ ?_ | refine q4z ?_ ?_
   all_goals intro aj
   all_goals first | replace aj:=q2z aj | replace aj:=q1z aj | skip
   all_goals first | subst aj | replace ax:=And.intro aj ax
   all_goals try simp only[ax,Ma,l0,l1,l2,l3,hg,o9,Ek,fk,Mq,yC,r16,r12,r8,r7,fS,go_sem,simprocAttr])
 all_goals rfl
theorem IZ (b:Nat) (h:Hp) (x:V) (l:Bs) (hb:BR h x l) (hl:4≤l.length):run qD A3 b 105 [x] h=some (.s (.int .u32 (oz l:Nat)),h):=by
 refine Vm.aQ (nt:=18) rfl P6 (by simp) ?_
 have ax:(0:Nat)=0:=rfl
 try simp only[L9,AL,AK,go_sem,simprocAttr]
 repeat' (
   first | refine q5z ?_ ?_ | refine q3z ?_ ?_ | refine q4z ?_ ?_
   all_goals intro aj
   all_goals first | replace aj:=q2z aj | replace aj:=q1z aj | skip
   all_goals first | subst aj | replace ax:=And.intro aj ax
   all_goals try simp only[ax,L9,AL,AK,go_sem,simprocAttr])
 have dE:SR h x none (l.map aa):=by
   rcases hb with ⟨f,rfl⟩ | ⟨id,off,bl,rfl,h1,h2,h3⟩
   ·exact .inl ⟨f,rfl⟩
   ·exact .inr ⟨id,off,bl.length,bl.map aa,by simp,h1,by simp,by simpa using h2,by rw[acy,←List.map_drop,←List.map_take,h3]⟩
 have hv:∀i,i < 4→∃u:Nat,u < 256∧(l.getD i 0).toNat=u∧(∀cf base,aC cf base h (.de none) [x,.s (.int .i64 (i:Nat))]=some (iW x i,h))∧(∀cf base,aC cf base h (.ld none) [iW x i]=some (.s (.int .u8 u),h)):=by
   intro i hi
   have h1:l[i]? =some (l.getD i 0):=by rw[List.getD,aci (by omega)];rfl
   exact ⟨_,(l.getD i 0).toNat_lt,rfl,fun cf base=> dE.ck (by simp;omega),fun cf base=> dE.fL (v:=aa (l.getD i 0)) (by rw[acv,h1];rfl) rfl⟩
 refine aV (fun m e H=>∃j,m=j∧j≤4∧e 4= .s (.int .i64 ((j:Nat) - 1))∧e 3= .s (.int .u32 (oz l / 256 ^ j:Nat))∧e 0=x∧H=h)
   (fun e H=> e 3= .s (.int .u32 (oz l:Nat))∧H=h)
   4 _ _ ⟨4,rfl,by omega,rfl,by rw[CS];rfl,rfl,rfl⟩ ?_ ?_
 ·rintro m e H ⟨j,rfl,hj,e4,e3,e0,rfl⟩
  cases m with
  | zero=>
    have c':¬(0:Int)≤((0:Nat):Int) - 1:=by omega
    rw[afT,afO] at e3
    have ax:(0:Nat)=0:=rfl
    try simp only[e4,c',go_sem,simprocAttr]
    repeat' (
      first | refine q5z ?_ ?_ | refine q3z ?_ ?_ | refine q4z ?_ ?_
      all_goals intro aj
      all_goals first | replace aj:=q2z aj | replace aj:=q1z aj | skip
      all_goals first | subst aj | replace ax:=And.intro aj ax
      all_goals try simp only[ax,e4,c',go_sem,simprocAttr])
    all_goals exact e3
  | succ j=>
    have hj1:(((j+1:Nat):Int) - 1)=(j:Int):=by omega
    rw[hj1] at e4
    have c':(0:Int)≤(j:Int):=by omega
    obtain ⟨u,hu,Ay,gf,hld⟩:=hv j (by omega)
    have aR:=yD l j (by omega)
    have El:=vC l j
    rw[Ay] at aR
    generalize oz l / 256 ^(j+1)=y at e3 aR El
    have hw:IntKind.i64.wrap ((j:Int) - 1)=(j:Int) - 1:=wrap_i64 (by omega) (by omega)
    have wu:IntKind.u32.wrap (u:Int)=(u:Int):=wrap_u32 (by omega) (by omega)
    have s1:xf .u32 (y:Int) 8=_:=IU (a:=y) (k:=8) (by omega)
    have e1:y * 2 ^ 8 % 4294967296=y * 2 ^ 8:=aeu (by omega)
    rw[e1] at s1
    have h1:∀cf base h,aC cf base h (.bin .num .shl) [.s (.int .u32 y),.s (.int .u64 8)]=some (.s (.int .u32 ((y * 2 ^ 8:Nat):Int)),h):=fun cf base h=> by rw[←s1];exact vE cf base h .u32 .u64 (y:Int) 8 (by omega)
    have s3:=RI (a:=y * 2 ^ 8) (b:=u) (by omega) (by omega)
    rw[AX (show u < 2 ^ 8 from hu)] at s3
    rw[show y * 2 ^ 8+u=y * 256+u from rfl,aR] at s3
    clear s1 e1
    generalize y * 2 ^ 8=y1 at h1 s3
    have ax:(0:Nat)=0:=rfl
    try simp only[e4,e3,e0,c',gf,hld,wu,h1,s3,hw,go_sem,simprocAttr]
    repeat' (
      first | refine q5z ?_ ?_ | refine q3z ?_ ?_ | refine q4z ?_ ?_
      all_goals intro aj
      all_goals first | replace aj:=q2z aj | replace aj:=q1z aj | skip
      all_goals first | subst aj | replace ax:=And.intro aj ax
      all_goals try simp only[ax,e4,e3,e0,c',gf,hld,wu,h1,s3,hw,go_sem,simprocAttr])
    all_goals exact ⟨j,by omega,j,rfl,by omega,rfl,rfl⟩
 ·rintro e H ⟨e3,rfl⟩
  have ax:(0:Nat)=0:=rfl
  try simp only[e3,go_sem,simprocAttr]
  repeat' (
    first | refine q5z ?_ ?_ | refine q3z ?_ ?_ | refine q4z ?_ ?_
    all_goals intro aj
    all_goals first | replace aj:=q2z aj | replace aj:=q1z aj | skip
    all_goals first | subst aj | replace ax:=And.intro aj ax
    all_goals try simp only[ax,e3,go_sem,simprocAttr])
end Go.Proofs.YthplailfedobeaaGreat
namespace Go.Vm
theorem XR.push {h H:Hp} {k m:Nat} {x:V} {vs:List V} {bytes:Nat} {z:V} (xr:XR H none k x vs) (hk:m≤k) (hm:m≤H.length) (hh:h.length≤m) (fw:Fw [] h H) (hz:z.ground=true) (hb:(vs.length+1)* bytes≤140737488355328):
 ∃x' H' k',(∀cf base,aC cf base (H++[.cells none [z]]) (.app none bytes) [x,.ref H.length [] none 0 1 1]=some (x',H'))∧XR H' none k' x' (vs++[z])∧Fw [] h H'∧m≤k'∧m≤H'.length∧∀j b,j < m→H[j]? =some b→H'[j]? =some b:=by
 obtain ⟨x',H',k',h1,h2,h3,h4,h5⟩:=xr.Em (h:=h) (T:=[.cells none [z]]) (idy:=H.length) (z:=z) (bytes:=bytes) (by omega) fw (by rw[acB (acm _)];simp) hz hb
 have h6:m≤k':=by rcases h4 with rfl | h4 <;> omega
 refine ⟨x',H',k',h1,h2,h3,h6,?_,fun j b hj hb=> h5 j b (by omega) (q10z hb _)⟩
 rcases h2 with ⟨_,h0⟩ | ⟨_,h0⟩
 ·simp at h0
 ·have:=q6z h0;omega
end Go.Vm
namespace Go.Proofs.YthplailfedobeaaGreat
open Go Go.Vm Go.Proofs Go.Cl
set_option maxRecDepth 100000
theorem Ye (n:Nat) (h:n < 256):(UInt8.ofNat n).toNat=n:=by
 rw[aeV];omega
theorem q17z {n:Nat} (h:n < 4611686018427387904):IntKind.i64.wrap ((n:Int)+1)=((n+1:Nat):Int):=by
 rw[wrap_i64 (by omega) (by omega)];omega
def fU :List V:=bY.map aa
def wv0 :List V:=[.s (.int .u32 1668047222),.s (.int .u32 1768383858),.s (.int .u32 1801807216),.s (.int .u32 1935763045)]
def mC (l:Bs) (z:Nat):Bs:=l++[128]++List.replicate z 0
theorem A4 (l:Bs) (z:Nat):mC l (z+1)=mC l z++[0]:=by simp[mC,List.replicate_succ']
theorem qF (l:Bs) (z:Nat):(mC l z).length=l.length+1+z:=by simp[mC];omega
theorem Pj {a k:Nat} (hk:k≤64):qE .u64 (a:Int) (k:Int)=((a / 2 ^ k:Nat):Int):=by
 have h:qE .u64 (a:Int) (k:Int)=(a:Int).fdiv (2 ^(min ((k:Int).toNat) 64)):=rfl
 rw[h,acC,acZ hk,aeL _ (by exact Int.le_of_lt (Int.pow_pos (by decide)))]
 simp
theorem te (n:Nat):V.s (.int .u8 (IntKind.u8.wrap (n:Int)))=aa (UInt8.ofNat (n % 256)):=by
 have:IntKind.u8.wrap (n:Int)=(n:Int) % 256:=by
   simp only[IntKind.wrap,IntKind.bits,IntKind.signed];rfl
 rw[this,aa,Ye (n % 256) (by omega)]
 congr 2
theorem tf (n:Nat) (h:Hp):∀l:Bs,bA.all n h (l.map aa)=some (l.map aa)
 | []=> th n h
 | b::l=> by rw[acx,qG,tf n h l];rfl
theorem yJ (h:Hp) (a b:bc):(h++[a,b])[h.length]? =some a∧(h++[a,b])[h.length+1]? =some b:=by
 constructor
 ·rw[acB (acm _)];simp
 ·rw[acB (by omega)];simp
theorem RM (b:Nat) (h:Hp) (x:V) (l:Bs) (hb:Rd h x l) (hl:l.length≤1000000):∃v T,(∀b,run qD A3 b 87 [x] h=some (v,h++T))∧XR (h++T) none h.length v (l.map aa)∧v.ty=none∧v.aA=true:=by
 obtain ⟨v,t,hc,hx,gq⟩:=Vm.qH (hb.1 h (Fw.refl _ _)) (by omega)
 refine ⟨v,t,fun b=> ?_,?_,?_⟩
 ·rw[pa qD A3 rfl];exact hc
 ·rcases gq with ⟨rfl,rfl,rfl⟩ | ⟨rfl,rfl⟩
  ·exact .inl ⟨rfl,rfl⟩
  ·exact .inr ⟨by rw[acy],aH _ _⟩
 ·rcases gq with ⟨rfl,_⟩ | ⟨rfl,_⟩<;> exact ⟨rfl,rfl⟩
def G0 (h:Hp):Hp:=h++[bc.cells (some 27) [.arr 27 fU],bc.cells (some 163) [.arr 163 wv0]]
theorem RN (b:Nat) (h:Hp) (x:V) (l:Bs) (hb:Rd h x l) (hl:l.length≤1000000):run qD A3 b 71 [x] h=some (.arr 27 ((cV l).map aa),h):=by
 refine Vm.aQ (nt:=76) rfl Wx (by simp) ?_
 obtain ⟨g0,g1⟩:(G0 h)[h.length]? =_∧(G0 h)[h.length+1]? =_:=yJ h (.cells (some 27) [.arr 27 fU]) (.cells (some 163) [.arr 163 wv0])
 have hlG:(G0 h).length=h.length+2:=by simp[G0]
 obtain ⟨v,T,oB,xr,dw,jX⟩:=RM h.length (G0 h) x l (hb.fw (Fw.app [] h _)) hl
 have fw:Fw [] h (G0 h++T):=(Fw.app [] h _).trans (Fw.app [] _ _)
 have g0:=q10z g0 T
 have g1:=q10z g1 T
 have hlen:h.length+2≤(G0 h++T).length:=by rw[aco,hlG];omega
 rw[hlG] at xr
 generalize hHH:G0 h++T=H at *
 simp only[G0,fU,wv0] at oB
 obtain ⟨x1,H1,k1,jY,xr1,fw1,En,vf,pS⟩:=xr.push (m:=h.length+2) (z:= .s (.int .u8 128)) (bytes:=1) (by omega) hlen (by omega) fw rfl (by simp;omega)
 have ax:(0:Nat)=0:=rfl
 try simp only[B71,HS,HR,HQ,HP,AJ,AI,HO,HN,HM,HL,HK,oB,dw,jX,jY,go_sem,↓reduceIte,Nat.reduceEqDiff,Nat.reduceBEq,Nat.reduceAdd,Nat.reduceSub,Nat.reduceLT,Nat.reduceLeDiff,Int.reduceLT,Int.reduceLE,Int.reduceEq,Int.reduceToNat]
 repeat' (
   first | refine q5z ?_ ?_ | refine q3z ?_ ?_ | refine q4z ?_ ?_
   all_goals intro aj
   all_goals first | replace aj:=q2z aj | replace aj:=q1z aj | skip
   all_goals first | subst aj | replace ax:=And.intro aj ax
   all_goals try simp only[ax,B71,HS,HR,HQ,HP,AJ,AI,HO,HN,HM,HL,HK,oB,dw,jX,jY,go_sem,↓reduceIte,Nat.reduceEqDiff,Nat.reduceBEq,Nat.reduceAdd,Nat.reduceSub,Nat.reduceLT,Nat.reduceLeDiff,Int.reduceLT,Int.reduceLE,Int.reduceEq,Int.reduceToNat])
 have cS:=pS _ _ (by omega) g0
 have cT:=pS _ _ (by omega) g1
 have hxl:∀cf base (h0:Hp),Fw [] h h0→aC cf base h0 .len [x]=some (.s (.int .i64 l.length),h0):=fun cf base h0 f=> Vm.bU cf base h0 x _ hb.2
 refine aV (fun m e H=>∃z k y,m=fY l.length - z∧z≤fY l.length∧e 0=x∧e 2= .ptr h.length [0] 1∧e 3= .ptr (h.length+1) [0] 1∧e 4=y∧H[h.length]? =some (.cells (some 27) [.arr 27 fU])∧H[h.length+1]? =some (.cells (some 163) [.arr 163 wv0])∧XR H none k y ((mC l z).map aa)∧Fw [] h H∧h.length+2≤k∧h.length+2≤H.length)
   (fun e H=>∃k y,e 0=x∧e 2= .ptr h.length [0] 1∧e 3= .ptr (h.length+1) [0] 1∧e 4=y∧H[h.length]? =some (.cells (some 27) [.arr 27 fU])∧H[h.length+1]? =some (.cells (some 163) [.arr 163 wv0])∧XR H none k y ((mC l (fY l.length)).map aa)∧Fw [] h H∧h.length+2≤k∧h.length+2≤H.length)
   (fY l.length) _ _ ⟨0,k1,x1,rfl,by omega,rfl,rfl,rfl,rfl,cS,cT,by rw[show (mC l 0).map aa=l.map aa++[V.s (.int .u8 128)] by simp[mC];rfl];exact xr1,fw1,En,vf⟩ ?_ ?_
 ·clear oB hHH jY xr1 fw1 En vf pS cS cT xr fw g0 g1 hlen
  rintro m e H ⟨z,k,y,rfl,hz,e0,e2,e3,e4,cS,cT,xr,fw,hk,hlH⟩
  have j3:=fun cf base=> xr.BR.bU (cf:=cf) (base:=base) (h:=H)
  rw[qF] at j3
  have hpd:fY l.length=(8 - (l.length+1) % 8) % 8:=rfl
  have CV:∀cf base h,aC cf base h (.bin .num .rem) [.s (.int .i64 ((l.length+1+z:Nat):Int)),.s (.int .i64 8)]=some (.s (.int .i64 (((l.length+1+z) % 8:Nat):Int)),h):=fun cf base h=> by
    rw[iJ cf base h .i64 _ 8 (by omega),adw (by omega)];rfl
  by_cases c:z < fY l.length
  ·have c':¬(((l.length+1+z) % 8:Nat):Int)=0:=by omega
   obtain ⟨x',H',k',jY,xr',fw',mD,dF,hold⟩:=xr.push (m:=h.length+2) (z:= .s (.int .u8 0)) (bytes:=1) (by omega) hlH (by omega) fw rfl (by rw[acy,qF];omega)
   have xr':XR H' none k' x' ((mC l (z+1)).map aa):=by rw[A4,adm];exact xr'
   have ax:(0:Nat)=0:=rfl
   try simp only[e0,e2,e3,e4,j3,CV,c',jY,go_sem,↓reduceIte,Nat.reduceEqDiff,Nat.reduceBEq,Nat.reduceAdd,Nat.reduceSub,Nat.reduceLT,Nat.reduceLeDiff,Int.reduceLT,Int.reduceLE,Int.reduceEq,Int.reduceToNat]
   repeat' (
     first | refine q5z ?_ ?_ | refine q3z ?_ ?_ | refine q4z ?_ ?_
     all_goals intro aj
     all_goals first | replace aj:=q2z aj | replace aj:=q1z aj | skip
     all_goals first | subst aj | replace ax:=And.intro aj ax
     all_goals try simp only[ax,e0,e2,e3,e4,j3,CV,c',jY,go_sem,↓reduceIte,Nat.reduceEqDiff,Nat.reduceBEq,Nat.reduceAdd,Nat.reduceSub,Nat.reduceLT,Nat.reduceLeDiff,Int.reduceLT,Int.reduceLE,Int.reduceEq,Int.reduceToNat])
   all_goals exact ⟨fY l.length - (z+1),by omega,z+1,k',x',rfl,by omega,rfl,hold _ _ (by omega) cS,hold _ _ (by omega) cT,xr',fw',mD,dF⟩
  ·have c':(((l.length+1+z) % 8:Nat):Int)=0:=by omega
   have:z=fY l.length:=by omega
   have ax:(0:Nat)=0:=rfl
   try simp only[e0,e2,e3,e4,j3,CV,c',go_sem,↓reduceIte,Nat.reduceEqDiff,Nat.reduceBEq,Nat.reduceAdd,Nat.reduceSub,Nat.reduceLT,Nat.reduceLeDiff,Int.reduceLT,Int.reduceLE,Int.reduceEq,Int.reduceToNat]
   repeat' (
     first | refine q5z ?_ ?_ | refine q3z ?_ ?_ | refine q4z ?_ ?_
     all_goals intro aj
     all_goals first | replace aj:=q2z aj | replace aj:=q1z aj | skip
     all_goals first | subst aj | replace ax:=And.intro aj ax
     all_goals try simp only[ax,e0,e2,e3,e4,j3,CV,c',go_sem,↓reduceIte,Nat.reduceEqDiff,Nat.reduceBEq,Nat.reduceAdd,Nat.reduceSub,Nat.reduceLT,Nat.reduceLeDiff,Int.reduceLT,Int.reduceLE,Int.reduceEq,Int.reduceToNat])
   all_goals (subst this;exact ⟨k,y,rfl,cS,cT,xr,fw,hk,hlH⟩)
 ·clear oB hHH jY xr1 fw1 En vf pS cS cT xr fw g0 g1 hlen
  rintro e H ⟨k,y,e0,e2,e3,e4,cS,cT,xr,fw,hk,hlH⟩
  have ax:(0:Nat)=0:=rfl
  try simp only[e0,e2,e3,e4,go_sem,↓reduceIte,Nat.reduceEqDiff,Nat.reduceBEq,Nat.reduceAdd,Nat.reduceSub,Nat.reduceLT,Nat.reduceLeDiff,Int.reduceLT,Int.reduceLE,Int.reduceEq,Int.reduceToNat]
  repeat' (
    first | refine q5z ?_ ?_ | refine q3z ?_ ?_ | refine q4z ?_ ?_
    all_goals intro aj
    all_goals first | replace aj:=q2z aj | replace aj:=q1z aj | skip
    all_goals first | subst aj | replace ax:=And.intro aj ax
    all_goals try simp only[ax,e0,e2,e3,e4,go_sem,↓reduceIte,Nat.reduceEqDiff,Nat.reduceBEq,Nat.reduceAdd,Nat.reduceSub,Nat.reduceLT,Nat.reduceLeDiff,Int.reduceLT,Int.reduceLE,Int.reduceEq,Int.reduceToNat])
  refine aV (fun m e H=>∃i k y,m=8 - i∧i≤8∧e 20= .s (.int .i64 (i:Nat))∧e 0=x∧e 2= .ptr h.length [0] 1∧e 3= .ptr (h.length+1) [0] 1∧e 4=y∧H[h.length]? =some (.cells (some 27) [.arr 27 fU])∧H[h.length+1]? =some (.cells (some 163) [.arr 163 wv0])∧XR H none k y ((mC l (fY l.length)++r9 l.length i).map aa)∧Fw [] h H∧h.length+2≤k∧h.length+2≤H.length)
    (fun e H=>∃y,e 0=x∧e 2= .ptr h.length [0] 1∧e 3= .ptr (h.length+1) [0] 1∧e 4=y∧H[h.length]? =some (.cells (some 27) [.arr 27 fU])∧H[h.length+1]? =some (.cells (some 163) [.arr 163 wv0])∧BR H y (fJ l)∧Fw [] h H)
    8 _ _ ⟨0,k,y,rfl,by omega,rfl,e0,e2,e3,e4,cS,cT,by simpa[r9] using xr,fw,hk,hlH⟩ ?_ ?_
  ·clear xr fw hk hlH cS cT e4 y k
   rintro m e H ⟨i,k,y,rfl,hi,e20,e0,e2,e3,e4,cS,cT,xr,fw,hk,hlH⟩
   by_cases c:i < 8
   ·have c':(i:Int)< 8:=by omega
    have j3:=fun cf base=> hxl cf base H fw
    have iA:IntKind.i64.wrap ((i:Int)+1)=((i+1:Nat):Int):=q17z (by omega)
    have w1:IntKind.u64.wrap (l.length:Int)=(l.length:Int):=wrap_u64 (by omega) (by omega)
    have w2:IntKind.i64.wrap (8 *(i:Int))=((8 * i:Nat):Int):=by rw[wrap_i64 (by omega) (by omega)];omega
    have pJ:∀cf base h,aC cf base h (.bin .num .shr) [.s (.int .u64 (l.length:Int)),.s (.int .i64 ((8 * i:Nat):Int))]=some (.s (.int .u64 ((l.length / 2 ^(8 * i):Nat):Int)),h):=fun cf base h=> by
      rw[pR cf base h .u64 .i64 _ _ (by omega),Pj (by omega)]
    have nV:V.s (.int .u8 (IntKind.u8.wrap ((l.length / 2 ^(8 * i):Nat):Int)))=aa (UInt8.ofNat (l.length / 2 ^(8 * i) % 256)):=te _
    obtain ⟨x',H',k',jY,xr',fw',mD,dF,hold⟩:=xr.push (m:=h.length+2) (z:= .s (.int .u8 (IntKind.u8.wrap ((l.length / 2 ^(8 * i):Nat):Int)))) (bytes:=1) (by omega) hlH (by omega) fw rfl (by rw[acy,aco,qF,pP];unfold fY;omega)
    have xr':XR H' none k' x' ((mC l (fY l.length)++r9 l.length (i+1)).map aa):=by rw[r9,←List.append_assoc,adm,List.map_singleton,←nV];exact xr'
    have ax:(0:Nat)=0:=rfl
    try simp only[e20,e0,e2,e3,e4,c',j3,w1,w2,pJ,jY,iA,go_sem,↓reduceIte,Nat.reduceEqDiff,Nat.reduceBEq,Nat.reduceAdd,Nat.reduceSub,Nat.reduceLT,Nat.reduceLeDiff,Int.reduceLT,Int.reduceLE,Int.reduceEq,Int.reduceToNat]
    repeat' (
      first | refine q5z ?_ ?_ | refine q3z ?_ ?_ | refine q4z ?_ ?_
      all_goals intro aj
      all_goals first | replace aj:=q2z aj | replace aj:=q1z aj | skip
      all_goals first | subst aj | replace ax:=And.intro aj ax
      all_goals try simp only[ax,e20,e0,e2,e3,e4,c',j3,w1,w2,pJ,jY,iA,go_sem,↓reduceIte,Nat.reduceEqDiff,Nat.reduceBEq,Nat.reduceAdd,Nat.reduceSub,Nat.reduceLT,Nat.reduceLeDiff,Int.reduceLT,Int.reduceLE,Int.reduceEq,Int.reduceToNat])
    all_goals exact ⟨8 - (i+1),by omega,i+1,k',x',rfl,by omega,rfl,rfl,hold _ _ (by omega) cS,hold _ _ (by omega) cT,xr',fw',mD,dF⟩
   ·have c':¬(i:Int)< 8:=by omega
    have:i=8:=by omega
    have ax:(0:Nat)=0:=rfl
    try simp only[e20,e0,e2,e3,e4,c',go_sem,↓reduceIte,Nat.reduceEqDiff,Nat.reduceBEq,Nat.reduceAdd,Nat.reduceSub,Nat.reduceLT,Nat.reduceLeDiff,Int.reduceLT,Int.reduceLE,Int.reduceEq,Int.reduceToNat]
    repeat' (
      first | refine q5z ?_ ?_ | refine q3z ?_ ?_ | refine q4z ?_ ?_
      all_goals intro aj
      all_goals first | replace aj:=q2z aj | replace aj:=q1z aj | skip
      all_goals first | subst aj | replace ax:=And.intro aj ax
      all_goals try simp only[ax,e20,e0,e2,e3,e4,c',go_sem,↓reduceIte,Nat.reduceEqDiff,Nat.reduceBEq,Nat.reduceAdd,Nat.reduceSub,Nat.reduceLT,Nat.reduceLeDiff,Int.reduceLT,Int.reduceLE,Int.reduceEq,Int.reduceToNat])
    all_goals (subst this;exact ⟨y,rfl,cS,cT,xr.BR,fw⟩)
  ·clear xr fw hk hlH cS cT e4 y k
   rintro e H ⟨y,e0,e2,e3,e4,cS,cT,br,fw⟩
   have ti:cV l=fZ (dJ (lZ (fJ l) ((fJ l).length / 8)) 8) 16:=rfl
   have RO:=ta l
   obtain ⟨N,hN⟩:∃N,(fJ l).length / 8=N:=⟨_,rfl⟩
   have hlP:=o6 l
   have hpd:fY l.length < 8:=by unfold fY;omega
   generalize fJ l=P at RO hN hlP br ti
   rw[hN] at ti
   have hP8:P.length=8 * N:=by omega
   have l0:(0:Int)<((4:Nat):Int):=by decide
   have l3:(3:Int)<((4:Nat):Int):=by decide
   have ax:(0:Nat)=0:=rfl
   try simp only[e0,e2,e3,e4,go_sem,↓reduceIte,Nat.reduceEqDiff,Nat.reduceBEq,Nat.reduceAdd,Nat.reduceSub,Nat.reduceLT,Nat.reduceLeDiff,Int.reduceLT,Int.reduceLE,Int.reduceEq,Int.reduceToNat]
   repeat' (
     first | refine q5z ?_ ?_ | refine q3z ?_ ?_ | refine q4z ?_ ?_
     all_goals intro aj
     all_goals first | replace aj:=q2z aj | replace aj:=q1z aj | skip
     all_goals first | subst aj | replace ax:=And.intro aj ax
     all_goals try simp only[ax,e0,e2,e3,e4,go_sem,↓reduceIte,Nat.reduceEqDiff,Nat.reduceBEq,Nat.reduceAdd,Nat.reduceSub,Nat.reduceLT,Nat.reduceLeDiff,Int.reduceLT,Int.reduceLE,Int.reduceEq,Int.reduceToNat])
   refine aV (fun m e H=>∃i y,m=N - i∧i≤N∧e 2= .ptr h.length [0] 1∧e 3= .ptr (h.length+1) [0] 1∧e 4=y∧H[h.length]? =some (.cells (some 27) [.arr 27 fU])∧H[h.length+1]? =some (.cells (some 163) [.arr 163 (lZ P i).vs])∧BR H y (P.drop (8 * i))∧Fw [] h H)
     (fun e H=> e 2= .ptr h.length [0] 1∧e 3= .ptr (h.length+1) [0] 1∧H[h.length]? =some (.cells (some 27) [.arr 27 fU])∧H[h.length+1]? =some (.cells (some 163) [.arr 163 (lZ P N).vs])∧Fw [] h H)
     N _ _ ⟨0,y,rfl,by omega,e2,e3,e4,cS,cT,by simpa using br,fw⟩ ?_ ?_
   ·clear br cS cT fw e4 y
    rintro m e H ⟨i,y,rfl,hi,e2,e3,e4,cS,cT,br,fw⟩
    have j3:=fun cf base=> br.bU (cf:=cf) (base:=base) (h:=H)
    have vF:(P.drop (8 * i)).length=8 *(N - i):=by rw[adb];omega
    rw[vF] at j3
    by_cases c:i < N
    ·have c':(0:Int)<((8 *(N - i):Nat):Int):=by omega
     have Eo:lZ P (i+1)=RJ (lZ P i) (P.drop (8 * i)):=rfl
     have hd8:P.drop (8 *(i+1))=(P.drop (8 * i)).drop 8:=by rw[adn];congr 1
     generalize P.drop (8 * i)=d at br vF Eo hd8
     generalize lZ P i=X at cT Eo
     have mT:=IZ h.length H y d br (by omega)
     have o9:∀c,(H.set (h.length+1) c)[h.length+1]? =some c:=fun c=> q9z cT
     have sw:∀c,(H.set (h.length+1) c)[h.length]? =some (.cells (some 27) [.arr 27 fU]):=fun c=> by rw[acp (by omega)];exact cS
     have nW:∀c,Fw [] h (H.set (h.length+1) c):=fun c=> fw.cP (by omega) c
     have hbr:∀c,BR (H.set (h.length+1) (.cells (some 163) c)) y d:=fun c=> br.mono (Fw.set (S:=[h.length+1]) (by simp) cT)
     obtain ⟨y4,hy4,br4⟩:=(hbr [.arr 163 [.s (.int .u32 (xr X.a (oz d):Nat)),.s (.int .u32 X.b),.s (.int .u32 X.c),.s (.int .u32 X.d)]]).lo (k:= .i64) (r:=4) (by omega)
     have hy4:∀cf base,aC cf base (H.set (h.length+1) (.cells (some 163) [.arr 163 [.s (.int .u32 (xr X.a (oz d):Nat)),.s (.int .u32 X.b),.s (.int .u32 X.c),.s (.int .u32 X.d)]])) (.j2 none true false false) [y,.s (.int .i64 4)]=some (y4,_):=hy4
     have xh:=IZ h.length _ y4 (d.drop 4) br4 (by rw[adb];omega)
     have A5:=cT
     simp only[W.vs] at A5
     have ax:(0:Nat)=0:=rfl
     try simp only[e2,e3,e4,j3,c',mT,A5,o9,l0,l3,yC,hy4,xh,fS,go_sem,↓reduceIte,Nat.reduceEqDiff,Nat.reduceBEq,Nat.reduceAdd,Nat.reduceSub,Nat.reduceLT,Nat.reduceLeDiff,Int.reduceLT,Int.reduceLE,Int.reduceEq,Int.reduceToNat]
     repeat' (
       first | refine q5z ?_ ?_ | refine q3z ?_ ?_ | refine q4z ?_ ?_
       all_goals intro aj
       all_goals first | replace aj:=q2z aj | replace aj:=q1z aj | skip
       all_goals first | subst aj | replace ax:=And.intro aj ax
       all_goals try simp only[ax,e2,e3,e4,j3,c',mT,A5,o9,l0,l3,yC,hy4,xh,fS,go_sem,↓reduceIte,Nat.reduceEqDiff,Nat.reduceBEq,Nat.reduceAdd,Nat.reduceSub,Nat.reduceLT,Nat.reduceLeDiff,Int.reduceLT,Int.reduceLE,Int.reduceEq,Int.reduceToNat])
     obtain ⟨W1,hW1⟩:∃W1:W,(⟨xr X.a (oz d),X.b,X.c,xr X.d (oz (d.drop 4))⟩:W)=W1:=⟨_,rfl⟩
     have RP:lZ P (i+1)=dJ W1 3:=by rw[Eo,←hW1];rfl
     refine aV (fun m e H'=>∃j,m=3 - j∧j≤3∧e 52= .s (.int .i64 (j:Nat))∧e 2= .ptr h.length [0] 1∧e 3= .ptr (h.length+1) [0] 1∧e 4=y∧H'=H.set (h.length+1) (.cells (some 163) [.arr 163 (dJ W1 j).vs]))
       (fun e H'=> e 2= .ptr h.length [0] 1∧e 3= .ptr (h.length+1) [0] 1∧e 4=y∧H'=H.set (h.length+1) (.cells (some 163) [.arr 163 (dJ W1 3).vs]))
       3 _ _ ⟨0,rfl,by omega,rfl,e2,e3,e4,by rw[←hW1];rfl⟩ ?_ ?_
     ·rintro m e H' ⟨j,rfl,hj,e52,e2,e3,e4,hH'⟩
      by_cases c:j < 3
      ·have c':(j:Int)< 3:=by omega
       have aR:=CU h.length H' (h.length+1) (dJ W1 j) (by rw[hH'];exact o9 _)
       have qI:H'.set (h.length+1) (.cells (some 163) [.arr 163 (iH (dJ W1 j)).vs])=H.set (h.length+1) (.cells (some 163) [.arr 163 (dJ W1 (j+1)).vs]):=by rw[hH',adf];rfl
       rw[qI] at aR
       have iA:IntKind.i64.wrap ((j:Int)+1)=((j+1:Nat):Int):=q17z (by omega)
       have ax:(0:Nat)=0:=rfl
       try simp only[e52,e2,e3,e4,c',aR,iA,go_sem,↓reduceIte,Nat.reduceEqDiff,Nat.reduceBEq,Nat.reduceAdd,Nat.reduceSub,Nat.reduceLT,Nat.reduceLeDiff,Int.reduceLT,Int.reduceLE,Int.reduceEq,Int.reduceToNat]
       repeat' (
         first | refine q5z ?_ ?_ | refine q3z ?_ ?_ | refine q4z ?_ ?_
         all_goals intro aj
         all_goals first | replace aj:=q2z aj | replace aj:=q1z aj | skip
         all_goals first | subst aj | replace ax:=And.intro aj ax
         all_goals try simp only[ax,e52,e2,e3,e4,c',aR,iA,go_sem,↓reduceIte,Nat.reduceEqDiff,Nat.reduceBEq,Nat.reduceAdd,Nat.reduceSub,Nat.reduceLT,Nat.reduceLeDiff,Int.reduceLT,Int.reduceLE,Int.reduceEq,Int.reduceToNat])
       all_goals exact ⟨3 - (j+1),by omega,j+1,rfl,by omega,rfl,rfl⟩
      ·have c':¬(j:Int)< 3:=by omega
       have:j=3:=by omega
       subst this
       have ax:(0:Nat)=0:=rfl
       try simp only[e52,e2,e3,e4,c',go_sem,↓reduceIte,Nat.reduceEqDiff,Nat.reduceBEq,Nat.reduceAdd,Nat.reduceSub,Nat.reduceLT,Nat.reduceLeDiff,Int.reduceLT,Int.reduceLE,Int.reduceEq,Int.reduceToNat]
       repeat' (
         first | refine q5z ?_ ?_ | refine q3z ?_ ?_ | refine q4z ?_ ?_
         all_goals intro aj
         all_goals first | replace aj:=q2z aj | replace aj:=q1z aj | skip
         all_goals first | subst aj | replace ax:=And.intro aj ax
         all_goals try simp only[ax,e52,e2,e3,e4,c',go_sem,↓reduceIte,Nat.reduceEqDiff,Nat.reduceBEq,Nat.reduceAdd,Nat.reduceSub,Nat.reduceLT,Nat.reduceLeDiff,Int.reduceLT,Int.reduceLE,Int.reduceEq,Int.reduceToNat])
       all_goals exact hH'
     ·rintro e H' ⟨e2,e3,e4,hH'⟩
      obtain ⟨y8,hy8,br8⟩:=(hbr [.arr 163 (dJ W1 3).vs]).lo (k:= .i64) (r:=8) (by omega)
      have hy8:∀cf base,aC cf base H' (.j2 none true false false) [y,.s (.int .i64 8)]=some (y8,H'):=by rw[hH'];exact hy8
      rw[←hH'] at br8
      have ax:(0:Nat)=0:=rfl
      try simp only[e2,e3,e4,hy8,go_sem,↓reduceIte,Nat.reduceEqDiff,Nat.reduceBEq,Nat.reduceAdd,Nat.reduceSub,Nat.reduceLT,Nat.reduceLeDiff,Int.reduceLT,Int.reduceLE,Int.reduceEq,Int.reduceToNat]
      repeat' (
        first | refine q5z ?_ ?_ | refine q3z ?_ ?_ | refine q4z ?_ ?_
        all_goals intro aj
        all_goals first | replace aj:=q2z aj | replace aj:=q1z aj | skip
        all_goals first | subst aj | replace ax:=And.intro aj ax
        all_goals try simp only[ax,e2,e3,e4,hy8,go_sem,↓reduceIte,Nat.reduceEqDiff,Nat.reduceBEq,Nat.reduceAdd,Nat.reduceSub,Nat.reduceLT,Nat.reduceLeDiff,Int.reduceLT,Int.reduceLE,Int.reduceEq,Int.reduceToNat])
      all_goals exact ⟨N - (i+1),by omega,i+1,y8,rfl,by omega,rfl,by rw[hH'];exact sw _,by rw[hH',RP];exact o9 _,by rw[hd8];exact br8,by rw[hH'];exact nW _⟩
    ·have c':¬(0:Int)<((8 *(N - i):Nat):Int):=by omega
     have:i=N:=by omega
     have ax:(0:Nat)=0:=rfl
     try simp only[e2,e3,e4,j3,c',go_sem,↓reduceIte,Nat.reduceEqDiff,Nat.reduceBEq,Nat.reduceAdd,Nat.reduceSub,Nat.reduceLT,Nat.reduceLeDiff,Int.reduceLT,Int.reduceLE,Int.reduceEq,Int.reduceToNat]
     repeat' (
       first | refine q5z ?_ ?_ | refine q3z ?_ ?_ | refine q4z ?_ ?_
       all_goals intro aj
       all_goals first | replace aj:=q2z aj | replace aj:=q1z aj | skip
       all_goals first | subst aj | replace ax:=And.intro aj ax
       all_goals try simp only[ax,e2,e3,e4,j3,c',go_sem,↓reduceIte,Nat.reduceEqDiff,Nat.reduceBEq,Nat.reduceAdd,Nat.reduceSub,Nat.reduceLT,Nat.reduceLeDiff,Int.reduceLT,Int.reduceLE,Int.reduceEq,Int.reduceToNat])
     all_goals (subst this;exact ⟨cS,cT,fw⟩)
   ·clear br cS cT fw e4 y
    rintro e H ⟨e2,e3,cS,cT,fw⟩
    have hXok:=xg P N
    generalize lZ P N=X at cT ti hXok
    have o9:∀c,(H.set (h.length+1) c)[h.length+1]? =some c:=fun c=> q9z cT
    have sw:∀c,(H.set (h.length+1) c)[h.length]? =some (.cells (some 27) [.arr 27 fU]):=fun c=> by rw[acp (by omega)];exact cS
    have nW:∀c,Fw [] h (H.set (h.length+1) c):=fun c=> fw.cP (by omega) c
    have ax:(0:Nat)=0:=rfl
    try simp only[e2,e3,go_sem,↓reduceIte,Nat.reduceEqDiff,Nat.reduceBEq,Nat.reduceAdd,Nat.reduceSub,Nat.reduceLT,Nat.reduceLeDiff,Int.reduceLT,Int.reduceLE,Int.reduceEq,Int.reduceToNat]
    repeat' (
      first | refine q5z ?_ ?_ | refine q3z ?_ ?_ | refine q4z ?_ ?_
      all_goals intro aj
      all_goals first | replace aj:=q2z aj | replace aj:=q1z aj | skip
      all_goals first | subst aj | replace ax:=And.intro aj ax
      all_goals try simp only[ax,e2,e3,go_sem,↓reduceIte,Nat.reduceEqDiff,Nat.reduceBEq,Nat.reduceAdd,Nat.reduceSub,Nat.reduceLT,Nat.reduceLeDiff,Int.reduceLT,Int.reduceLE,Int.reduceEq,Int.reduceToNat])
    refine aV (fun m e H'=>∃j,m=8 - j∧j≤8∧e 56= .s (.int .i64 (j:Nat))∧e 2= .ptr h.length [0] 1∧e 3= .ptr (h.length+1) [0] 1∧H'[h.length]? =some (.cells (some 27) [.arr 27 fU])∧H'[h.length+1]? =some (.cells (some 163) [.arr 163 (dJ X j).vs])∧Fw [] h H')
      (fun e H'=> e 2= .ptr h.length [0] 1∧e 3= .ptr (h.length+1) [0] 1∧H'[h.length]? =some (.cells (some 27) [.arr 27 fU])∧H'[h.length+1]? =some (.cells (some 163) [.arr 163 (dJ X 8).vs])∧Fw [] h H')
      8 _ _ ⟨0,rfl,by omega,rfl,e2,e3,cS,cT,fw⟩ ?_ ?_
    ·clear o9 sw nW cS cT fw
     rintro m e H' ⟨j,rfl,hj,e56,e2,e3,cS,cT,fw⟩
     by_cases c:j < 8
     ·have c':(j:Int)< 8:=by omega
      have aR:=CU h.length H' (h.length+1) (dJ X j) cT
      have o9:=q9z cT (b:= .cells (some 163) [.arr 163 (dJ X (j+1)).vs])
      have sw:(H'.set (h.length+1) (.cells (some 163) [.arr 163 (dJ X (j+1)).vs]))[h.length]? =some (.cells (some 27) [.arr 27 fU]):=by rw[acp (by omega)];exact cS
      have nW:Fw [] h (H'.set (h.length+1) (.cells (some 163) [.arr 163 (dJ X (j+1)).vs])):=fw.cP (by omega) _
      have aR:run qD A3 h.length 106 [.ptr (h.length+1) [0] 1] H'=some (.bP [],H'.set (h.length+1) (.cells (some 163) [.arr 163 (dJ X (j+1)).vs])):=aR
      have iA:IntKind.i64.wrap ((j:Int)+1)=((j+1:Nat):Int):=q17z (by omega)
      have ax:(0:Nat)=0:=rfl
      try simp only[e56,e2,e3,c',aR,iA,go_sem,↓reduceIte,Nat.reduceEqDiff,Nat.reduceBEq,Nat.reduceAdd,Nat.reduceSub,Nat.reduceLT,Nat.reduceLeDiff,Int.reduceLT,Int.reduceLE,Int.reduceEq,Int.reduceToNat]
      repeat' (
        first | refine q5z ?_ ?_ | refine q3z ?_ ?_ | refine q4z ?_ ?_
        all_goals intro aj
        all_goals first | replace aj:=q2z aj | replace aj:=q1z aj | skip
        all_goals first | subst aj | replace ax:=And.intro aj ax
        all_goals try simp only[ax,e56,e2,e3,c',aR,iA,go_sem,↓reduceIte,Nat.reduceEqDiff,Nat.reduceBEq,Nat.reduceAdd,Nat.reduceSub,Nat.reduceLT,Nat.reduceLeDiff,Int.reduceLT,Int.reduceLE,Int.reduceEq,Int.reduceToNat])
      all_goals exact ⟨8 - (j+1),by omega,j+1,rfl,by omega,rfl,sw,o9,nW⟩
     ·have c':¬(j:Int)< 8:=by omega
      have:j=8:=by omega
      subst this
      have ax:(0:Nat)=0:=rfl
      try simp only[e56,e2,e3,c',go_sem,↓reduceIte,Nat.reduceEqDiff,Nat.reduceBEq,Nat.reduceAdd,Nat.reduceSub,Nat.reduceLT,Nat.reduceLeDiff,Int.reduceLT,Int.reduceLE,Int.reduceEq,Int.reduceToNat]
      repeat' (
        first | refine q5z ?_ ?_ | refine q3z ?_ ?_ | refine q4z ?_ ?_
        all_goals intro aj
        all_goals first | replace aj:=q2z aj | replace aj:=q1z aj | skip
        all_goals first | subst aj | replace ax:=And.intro aj ax
        all_goals try simp only[ax,e56,e2,e3,c',go_sem,↓reduceIte,Nat.reduceEqDiff,Nat.reduceBEq,Nat.reduceAdd,Nat.reduceSub,Nat.reduceLT,Nat.reduceLeDiff,Int.reduceLT,Int.reduceLE,Int.reduceEq,Int.reduceToNat])
      all_goals exact ⟨cS,cT,fw⟩
    ·clear o9 sw nW cS cT fw
     rintro e H ⟨e2,e3,cS,cT,fw⟩
     have hYok:=s9 hXok 8
     generalize dJ X 8=Y at cT ti hYok
     have ax:(0:Nat)=0:=rfl
     try simp only[e2,e3,go_sem,↓reduceIte,Nat.reduceEqDiff,Nat.reduceBEq,Nat.reduceAdd,Nat.reduceSub,Nat.reduceLT,Nat.reduceLeDiff,Int.reduceLT,Int.reduceLE,Int.reduceEq,Int.reduceToNat]
     repeat' (
       first | refine q5z ?_ ?_ | refine q3z ?_ ?_ | refine q4z ?_ ?_
       all_goals intro aj
       all_goals first | replace aj:=q2z aj | replace aj:=q1z aj | skip
       all_goals first | subst aj | replace ax:=And.intro aj ax
       all_goals try simp only[ax,e2,e3,go_sem,↓reduceIte,Nat.reduceEqDiff,Nat.reduceBEq,Nat.reduceAdd,Nat.reduceSub,Nat.reduceLT,Nat.reduceLeDiff,Int.reduceLT,Int.reduceLE,Int.reduceEq,Int.reduceToNat])
     have gU:h.length+1 < H.length:=q6z cT
     have hT:(H++[bc.cells (some 27) [.arr 27 fU]])[H.length]? =_:=aH H [bc.cells (some 27) [.arr 27 fU]]
     obtain ⟨o,ho⟩:∃o,H.length=o:=⟨_,rfl⟩
     have abU:fU=(fZ Y 0++List.replicate 16 0).map aa:=rfl
     refine aV (fun m e H'=>∃i,m=16 - i∧i≤16∧e 60= .s (.int .i64 (i:Nat))∧e 2= .ptr h.length [0] 1∧e 3= .ptr (h.length+1) [0] 1∧e 6= .ptr o [0] 1∧H'[h.length]? =some (.cells (some 27) [.arr 27 fU])∧H'[h.length+1]? =some (.cells (some 163) [.arr 163 Y.vs])∧H'[o]? =some (.cells (some 27) [.arr 27 ((fZ Y i++List.replicate (16 - i) 0).map aa)])∧Fw [] h H')
       (fun e H'=> e 2= .ptr h.length [0] 1∧e 6= .ptr o [0] 1∧H'[h.length]? =some (.cells (some 27) [.arr 27 fU])∧H'[o]? =some (.cells (some 27) [.arr 27 ((fZ Y 16).map aa)])∧Fw [] h H')
       16 _ _ ⟨0,rfl,by omega,rfl,e2,e3,by rw[←ho];rfl,q10z cS _,q10z cT _,by rw[←ho];exact hT,fw.trans (Fw.app _ _ _)⟩ ?_ ?_
     ·clear hT cS cT fw
      rintro m e H' ⟨i,rfl,hi,e60,e2,e3,e6,cS,cT,jZ,fw⟩
      by_cases c:i < 16
      ·have c':(i:Int)< 16:=by omega
       have c16:(i:Int)<((16:Nat):Int):=by omega
       have i0:(0:Int)≤(i:Int):=by omega
       have hq:∀cf base h,aC cf base h (.bin .num .quo) [.s (.int .i64 i),.s (.int .i64 4)]=some (.s (.int .i64 ((i / 4:Nat):Int)),h):=fun cf base h=> by
         rw[yK cf base h .i64 _ 4 (by omega),adx (by omega),wrap_i64 (by omega) (by omega)];rfl
       have hr:∀cf base h,aC cf base h (.bin .num .rem) [.s (.int .i64 i),.s (.int .i64 4)]=some (.s (.int .i64 ((i % 4:Nat):Int)),h):=fun cf base h=> by
         rw[iJ cf base h .i64 _ 4 (by omega),adw (by omega)];rfl
       have w8:IntKind.i64.wrap (8 *((i % 4:Nat):Int))=((8 *(i % 4):Nat):Int):=by rw[wrap_i64 (by omega) (by omega)];omega
       have pJ:∀cf base h,aC cf base h (.bin .num .shr) [.s (.int .u32 ((Y.at (i / 4):Nat):Int)),.s (.int .i64 ((8 *(i % 4):Nat):Int))]=some (.s (.int .u32 ((Y.at (i / 4)/ 2 ^(8 *(i % 4)):Nat):Int)),h):=fun cf base h=> by
         rw[pR cf base h .u32 .i64 _ _ (by omega),IV (by omega)]
       have hYv:Y.vs[i / 4]? =some (.s (.int .u32 ((Y.at (i / 4):Nat):Int))):=by
         have:i / 4=0∨i / 4=1∨i / 4=2∨i / 4=3:=by omega
         rcases this with h | h | h | h <;> rw[h]<;> rfl
       have hYl:Y.vs.length=4:=rfl
       have c4:((i / 4:Nat):Int)< 4:=by omega
       have c4':((i / 4:Nat):Int)<((4:Nat):Int):=by omega
       have j0:(0:Int)≤((i / 4:Nat):Int):=by omega
       have c4n:i / 4 < 4:=by omega
       have CW:((fZ Y i++List.replicate (16 - i) 0).map aa).length=16:=by rw[acy,aco,iI,ac8];omega
       obtain ⟨z,hz,hzt⟩:∃z,((fZ Y i++List.replicate (16 - i) 0).map aa)[i]? =some z∧z.ty=none:=by
         refine ⟨aa ((fZ Y i++List.replicate (16 - i) 0)[i]'(by rw[acy] at CW;omega)),?_,rfl⟩
         rw[acv,aci (by rw[acy] at CW;omega)];rfl
       have aR:((fZ Y i++List.replicate (16 - i) 0).map aa).set i (V.s (.int .u8 (IntKind.u8.wrap ((Y.at (i / 4)/ 2 ^(8 *(i % 4)):Nat):Int))))=(fZ Y (i+1)++List.replicate (16 - (i+1)) 0).map aa:=by
         rw[te,←List.map_set,ac9 _ _ (by rw[iI];exact acm _),iI,aeU,show 16 - i=(16 - (i+1))+1 by omega,aeh,ad4,fZ,acs]
         rfl
       generalize (fZ Y i++List.replicate (16 - i) 0).map aa=vs at jZ CW hz aR
       have aaT:h.length+1≠o:=by omega
       have aaU:h.length≠o:=by omega
       have n0:(H'.set o (.cells (some 27) [.arr 27 ((fZ Y (i+1)++List.replicate (16 - (i+1)) 0).map aa)]))[h.length]? =some (.cells (some 27) [.arr 27 fU]):=by rw[acp (by omega)];exact cS
       have n1:(H'.set o (.cells (some 27) [.arr 27 ((fZ Y (i+1)++List.replicate (16 - (i+1)) 0).map aa)]))[h.length+1]? =some (.cells (some 163) [.arr 163 Y.vs]):=by rw[acp (by omega)];exact cT
       have n2:=q9z jZ (b:= .cells (some 27) [.arr 27 ((fZ Y (i+1)++List.replicate (16 - (i+1)) 0).map aa)])
       have nf:Fw [] h (H'.set o (.cells (some 27) [.arr 27 ((fZ Y (i+1)++List.replicate (16 - (i+1)) 0).map aa)])):=fw.cP (by omega) _
       have iA:IntKind.i64.wrap ((i:Int)+1)=((i+1:Nat):Int):=q17z (by omega)
       have ax:(0:Nat)=0:=rfl
       try simp only[e60,e2,e3,e6,c',c16,i0,hq,hr,w8,pJ,hYv,hYl,c4,c4',j0,c4n,CW,hz,hzt,aR,cS,cT,jZ,fS,iA,acC,go_sem,↓reduceIte,Nat.reduceEqDiff,Nat.reduceBEq,Nat.reduceAdd,Nat.reduceSub,Nat.reduceLT,Nat.reduceLeDiff,Int.reduceLT,Int.reduceLE,Int.reduceEq,Int.reduceToNat]
       repeat' (
         first | refine q5z ?_ ?_ | refine q3z ?_ ?_ | refine q4z ?_ ?_
         all_goals intro aj
         all_goals first | replace aj:=q2z aj | replace aj:=q1z aj | skip
         all_goals first | subst aj | replace ax:=And.intro aj ax
         all_goals try simp only[ax,e60,e2,e3,e6,c',c16,i0,hq,hr,w8,pJ,hYv,hYl,c4,c4',j0,c4n,CW,hz,hzt,aR,cS,cT,jZ,fS,iA,acC,go_sem,↓reduceIte,Nat.reduceEqDiff,Nat.reduceBEq,Nat.reduceAdd,Nat.reduceSub,Nat.reduceLT,Nat.reduceLeDiff,Int.reduceLT,Int.reduceLE,Int.reduceEq,Int.reduceToNat])
       all_goals exact ⟨16 - (i+1),by omega,i+1,rfl,by omega,rfl,n0,n1,n2,nf⟩
      ·have c':¬(i:Int)< 16:=by omega
       have:i=16:=by omega
       subst this
       rw[aeU,afb,acL] at jZ
       have ax:(0:Nat)=0:=rfl
       try simp only[e60,e2,e3,e6,c',go_sem,↓reduceIte,Nat.reduceEqDiff,Nat.reduceBEq,Nat.reduceAdd,Nat.reduceSub,Nat.reduceLT,Nat.reduceLeDiff,Int.reduceLT,Int.reduceLE,Int.reduceEq,Int.reduceToNat]
       repeat' (
         first | refine q5z ?_ ?_ | refine q3z ?_ ?_ | refine q4z ?_ ?_
         all_goals intro aj
         all_goals first | replace aj:=q2z aj | replace aj:=q1z aj | skip
         all_goals first | subst aj | replace ax:=And.intro aj ax
         all_goals try simp only[ax,e60,e2,e3,e6,c',go_sem,↓reduceIte,Nat.reduceEqDiff,Nat.reduceBEq,Nat.reduceAdd,Nat.reduceSub,Nat.reduceLT,Nat.reduceLeDiff,Int.reduceLT,Int.reduceLE,Int.reduceEq,Int.reduceToNat])
       all_goals exact ⟨cS,jZ,fw⟩
     ·clear hT cS cT fw
      rintro e H' ⟨e2,e6,cS,jZ,fw⟩
      have fk:∀c,(H'.set h.length c).take h.length=h:=fun c=>(fw.cP (acm _) c).take
      have o9:∀c,(H'.set h.length c)[h.length]? =some c:=fun c=> q9z cS
      rw[←ti] at jZ
      have hlen:=bq l
      have dt:∀n h,bA.all n h ((cV l).map aa)=some ((cV l).map aa):=fun n h=> tf n h (cV l)
      generalize (cV l).map aa=ws at jZ dt
      have ax:(0:Nat)=0:=rfl
      try simp only[e2,e6,cS,jZ,fk,o9,fS,dt,go_sem,↓reduceIte,Nat.reduceEqDiff,Nat.reduceBEq,Nat.reduceAdd,Nat.reduceSub,Nat.reduceLT,Nat.reduceLeDiff,Int.reduceLT,Int.reduceLE,Int.reduceEq,Int.reduceToNat]
      repeat' (
        first | refine q5z ?_ ?_ | refine q3z ?_ ?_ | refine q4z ?_ ?_
        all_goals intro aj
        all_goals first | replace aj:=q2z aj | replace aj:=q1z aj | skip
        all_goals first | subst aj | replace ax:=And.intro aj ax
        all_goals try simp only[ax,e2,e6,cS,jZ,fk,o9,fS,dt,go_sem,↓reduceIte,Nat.reduceEqDiff,Nat.reduceBEq,Nat.reduceAdd,Nat.reduceSub,Nat.reduceLT,Nat.reduceLeDiff,Int.reduceLT,Int.reduceLE,Int.reduceEq,Int.reduceToNat])
theorem Ep {c:Ctx} {w:World} {vs:List V} {us:List Value} {h:Hp} {v:V} {h':Hp} (hr:yE vs h=some (v,h')) (hv:gu (ak Tryz.prog) c vs us) (hs:bp (ak Tryz.prog) c h w):fD Tryz.prog (ak Tryz.prog) c w 71 us v h':=by
 unfold yE at hr
 split at hr
 case h_2=> cases hr
 rename_i x
 split at hr
 case h_2=> cases hr
 rename_i es he
 split at hr
 case h_2=> cases hr
 rename_i l hb
 split at hr
 case isFalse=> cases hr
 rename_i hl
 cases hr
 have hbr:Rd h x l:=Rd.mk' (by rw[he,hl.1]) hl.2.1
 exact ((vA o4 Mp RK RL 0 _ _ _ _ _ (RN 0 h x l hbr hl.2.2)).2 c w us hv hs)
end Go.Proofs.YthplailfedobeaaGreat
namespace Go.Cl
open Go.Vm
abbrev bu (n:Nat):Bs:=(List.range 8).map fun i=> UInt8.ofNat (n / 256 ^(7 - i) % 256)
theorem bx (n:Nat):(bu n).length=8:=by simp[bu]
end Go.Cl
namespace Go.Proofs.YthplailfedobeaaGreat
open Go Go.Vm Go.Proofs Go.Cl
set_option maxRecDepth 100000
def sa (n j:Nat):List V:=((bu n).take j).map aa++List.replicate (8 - j) (.s (.int .u8 0))
theorem Er (n:Nat):sa n 0=[.s (.int .u8 0),.s (.int .u8 0),.s (.int .u8 0),.s (.int .u8 0),.s (.int .u8 0),.s (.int .u8 0),.s (.int .u8 0),.s (.int .u8 0)]:=by simp[sa]
theorem I0 (n j:Nat) (hj:j≤8):(sa n j).length=8:=by simp[sa];omega
theorem I1 (n:Nat):sa n 8=(bu n).map aa:=by
 unfold sa
 rw[ack (by rw[bx];omega)]
 exact acL _
theorem Es (n j:Nat) (hj:j < 8):(sa n j).set j (aa (UInt8.ofNat (n / 256 ^(7 - j) % 256)))=sa n (j+1):=by
 have:j=0∨j=1∨j=2∨j=3∨j=4∨j=5∨j=6∨j=7:=by omega
 rcases this with rfl | rfl | rfl | rfl | rfl | rfl | rfl | rfl <;> simp[sa,bu,adX,List.replicate]
theorem I2 (n j:Nat) (hj:j < 8):∃o,(sa n j)[j]? =some (.s o):=by
 have:j=0∨j=1∨j=2∨j=3∨j=4∨j=5∨j=6∨j=7:=by omega
 rcases this with rfl | rfl | rfl | rfl | rfl | rfl | rfl | rfl <;> exact ⟨_,rfl⟩
theorem eT (b:Nat) (h:Hp) (n:Nat) (hn:n < 18446744073709551616) (hb:b≤h.length):run fns pr b 44 [.s (.int .u64 n)] h=some (.ref h.length [] none 0 8 8,h++[.cells none ((bu n).map aa)]):=by
 refine Vm.runN (nt:=22) rfl VE (by simp) ?_
 have ax:(0:Nat)=0:=rfl
 try simp only[B44,HH,HG,go_sem,↓reduceIte,Nat.reduceEqDiff,Nat.reduceBEq,Nat.reduceAdd,Nat.reduceSub,Nat.reduceLT,Nat.reduceLeDiff,Int.reduceLT,Int.reduceLE,Int.reduceEq,Int.reduceToNat]
 repeat' (
   first | refine q5z ?_ ?_ | refine q3z ?_ ?_ | refine q4z ?_ ?_
   all_goals intro aj
   all_goals first | replace aj:=q2z aj | replace aj:=q1z aj | skip
   all_goals first | subst aj | replace ax:=And.intro aj ax
   all_goals try simp only[ax,B44,HH,HG,go_sem,↓reduceIte,Nat.reduceEqDiff,Nat.reduceBEq,Nat.reduceAdd,Nat.reduceSub,Nat.reduceLT,Nat.reduceLeDiff,Int.reduceLT,Int.reduceLE,Int.reduceEq,Int.reduceToNat])
 refine aV (fun m e H=>∃j,m=8 - j∧j≤8∧e 8= .s (.int .i64 (j:Nat))∧e 7= .s (.int .i64 8)∧e 3= .ref h.length [] none 0 8 8∧e 0= .s (.int .u64 n)∧H=h++[.cells none (sa n j)])
   (fun e H=> e 3= .ref h.length [] none 0 8 8∧H=h++[.cells none (sa n 8)]) 8 _ _ ⟨0,rfl,by omega,rfl,rfl,rfl,rfl,by rw[Er];rfl⟩ ?_ ?_
 ·rintro m e H ⟨j,rfl,hj,e8,e7,e3,e0,rfl⟩
  have hl:=I0 n j hj
  by_cases c:j < 8
  ·have c':(j:Int)< 8:=by omega
   have w1:IntKind.i64.wrap (7 - (j:Int))=((7 - j:Nat):Int):=by rw[wrap_i64 (by omega) (by omega)];omega
   have w2:IntKind.i64.wrap (8 *((7 - j:Nat):Int))=((8 *(7 - j):Nat):Int):=by rw[wrap_i64 (by omega) (by omega)];omega
   have w3:IntKind.i64.wrap ((j:Int)+1)=((j+1:Nat):Int):=q17z (by omega)
   have hs:=fun cf base h=> pR (cf:=cf) (base:=base) (h:=h) .u64 .i64 (n:Int) ((8 *(7 - j):Nat):Int) (by omega)
   have s2:qE .u64 (n:Int) ((8 *(7 - j):Nat):Int)=_:=Pj (a:=n) (k:=8 *(7 - j)) (by omega)
   have hp:2 ^(8 *(7 - j))=256 ^(7 - j):=by rw[Nat.pow_mul]
   rw[hp] at s2
   have aR:=Es n j c
   obtain ⟨o,ho⟩:=I2 n j c
   have cc:(0≤(j:Int)∧(j:Int)<((8:Nat):Int)∧j < 8)=True:=by simp;omega
   have so:(aa (UInt8.ofNat (n / 256 ^(7 - j) % 256))).aA=true:=rfl
   have to:(aa (UInt8.ofNat (n / 256 ^(7 - j) % 256))).ty=none:=rfl
   have gr:(aa (UInt8.ofNat (n / 256 ^(7 - j) % 256))).ground=true:=rfl
   have ax:(0:Nat)=0:=rfl
   try simp only[e8,e7,e3,e0,c',w1,w2,w3,hs,s2,te,hl,cc,ho,so,to,gr,aR,go_sem,↓reduceIte,Nat.reduceEqDiff,Nat.reduceBEq,Nat.reduceAdd,Nat.reduceSub,Nat.reduceLT,Nat.reduceLeDiff,Int.reduceLT,Int.reduceLE,Int.reduceEq,Int.reduceToNat]
   repeat' (
     first | refine q5z ?_ ?_ | refine q3z ?_ ?_ | refine q4z ?_ ?_
     all_goals intro aj
     all_goals first | replace aj:=q2z aj | replace aj:=q1z aj | skip
     all_goals first | subst aj | replace ax:=And.intro aj ax
     all_goals try simp only[ax,e8,e7,e3,e0,c',w1,w2,w3,hs,s2,te,hl,cc,ho,so,to,gr,aR,go_sem,↓reduceIte,Nat.reduceEqDiff,Nat.reduceBEq,Nat.reduceAdd,Nat.reduceSub,Nat.reduceLT,Nat.reduceLeDiff,Int.reduceLT,Int.reduceLE,Int.reduceEq,Int.reduceToNat])
   all_goals exact ⟨8 - (j+1),by omega,j+1,rfl,by omega,by simp_all⟩
  ·have c':¬(j:Int)< 8:=by omega
   have hj8:j=8:=by omega
   subst hj8
   have ax:(0:Nat)=0:=rfl
   try simp only[e8,e7,e3,c',go_sem,↓reduceIte,Nat.reduceEqDiff,Nat.reduceBEq,Nat.reduceAdd,Nat.reduceSub,Nat.reduceLT,Nat.reduceLeDiff,Int.reduceLT,Int.reduceLE,Int.reduceEq,Int.reduceToNat]
   repeat' (
     first | refine q5z ?_ ?_ | refine q3z ?_ ?_ | refine q4z ?_ ?_
     all_goals intro aj
     all_goals first | replace aj:=q2z aj | replace aj:=q1z aj | skip
     all_goals first | subst aj | replace ax:=And.intro aj ax
     all_goals try simp only[ax,e8,e7,e3,c',go_sem,↓reduceIte,Nat.reduceEqDiff,Nat.reduceBEq,Nat.reduceAdd,Nat.reduceSub,Nat.reduceLT,Nat.reduceLeDiff,Int.reduceLT,Int.reduceLE,Int.reduceEq,Int.reduceToNat])
   all_goals simp_all
 ·rintro e H ⟨e3,rfl⟩
  rw[I1]
  have ax:(0:Nat)=0:=rfl
  try simp only[e3,go_sem,↓reduceIte,Nat.reduceEqDiff,Nat.reduceBEq,Nat.reduceAdd,Nat.reduceSub,Nat.reduceLT,Nat.reduceLeDiff,Int.reduceLT,Int.reduceLE,Int.reduceEq,Int.reduceToNat]
  repeat' (
    first | refine q5z ?_ ?_ | refine q3z ?_ ?_ | refine q4z ?_ ?_
    all_goals intro aj
    all_goals first | replace aj:=q2z aj | replace aj:=q1z aj | skip
    all_goals first | subst aj | replace ax:=And.intro aj ax
    all_goals try simp only[ax,e3,go_sem,↓reduceIte,Nat.reduceEqDiff,Nat.reduceBEq,Nat.reduceAdd,Nat.reduceSub,Nat.reduceLT,Nat.reduceLeDiff,Int.reduceLT,Int.reduceLE,Int.reduceEq,Int.reduceToNat])
theorem jw (b:Nat) (h:Hp) (xs:List V):run fns pr b 87 xs h=dO xs h:=by rw[pa fns pr rfl];rfl
theorem xi (b:Nat) (h:Hp) (x:V) (l:Bs) (hr:Rd h x l) (hl:l.length≤1000000):run fns pr b 71 [x] h=some (.arr 27 ((cV l).map aa),h):=by
 rw[pa fns pr rfl];exact CT hr hl
theorem Rd.source {h:Hp} {x:V} {l:Bs} (hr:Rd h x l):source h x=some (none,l.map aa):=by
 have:=hr.1 h (Fw.refl _ _)
 cases x <;> first | exact this | (simp[elems] at this)
theorem CX {cf:CF} {base:Nat} {H:Hp} {id:Nat} {l m:Bs} {y:V} (hg:H[id]? =some (.cells none (l.map aa))) (hs:source H y=some (none,m.map aa)) (hl:l.length+m.length≤140737488355328):
 aC cf base H (.app none 1) [.ref id [] none 0 l.length l.length,y]=some (.ref id [] none 0 (l.length+m.length) (l.length+m.length),H.set id (.cells none ((l++m).map aa))):=by
 by_cases hm:m=[]
 ·subst hm
  rw[acL,g9 hs (n:=l.length) rfl]
  rw[lg hg];simp
 ·have cC:m.map aa≠[]:=by simpa using hm
  have:=fM (cf:=cf) (base:=base) (bytes:=1) hg hs cC (fun y hy=> by
    obtain ⟨b,_,rfl⟩:=ac6.1 hy
    simp[bQ,aa,V.ground]) (by simpa using hl)
  simpa using this
def dx (k l:Bs):Bs:=cV (k++l)
theorem pT (b:Nat) (h:Hp) (x:V) (k l:Bs) (hk:k.length=16) (hr:Rd h x l) (hl:l.length≤900000):run fns pr b 51 [.arr 27 (k.map aa),x] h=some (.arr 27 ((dx k l).map aa),h):=by
 refine Vm.aQ (nt:=10) rfl VT (by simp) ?_
 have gP:(k.map aa).length=16:=by simp[hk]
 have hk0:k≠[]:=by intro e;rw[e] at hk;cases hk
 have cm:elems (h++[bc.cells (some 27) [V.arr 27 (k.map aa)],bc.cells (some 27) [bC 27]]) (.ref h.length [0] none 0 16 1)=some (none,k.map aa):=by
   simp only[cK,go_sem,simprocAttr,acs,aco,Vm.aM,Vm.bN,Vm.bh,Vm.aX,Vm.bw,Vm.bb,acm,acS,dP,ac2,ack (aec gP)]
 have oB:=qJ cm (by omega)
 simp only[cv,ct,hk0,if_false,hk,aco,acR,ada] at oB
 generalize hGd:h++[bc.cells (some 27) [V.arr 27 (k.map aa)],bc.cells (some 27) [bC 27]]=G at oB
 have hG:G.length=h.length+2:=by rw[←hGd];simp
 have fG:Fw [] h (G++[bc.cells none (k.map aa)]):=by rw[←hGd,acs];exact Fw.app [] h _
 have jY:=fun cf base=> CX (cf:=cf) (base:=base) (H:=G++[bc.cells none (k.map aa)]) (id:=h.length+2) (l:=k) (m:=l) (y:=x) (by rw[←hG];simp) (hr.fw fG).source (by omega)
 rw[hk] at jY
 have qI:(G++[bc.cells none (k.map aa)]).set (h.length+2) (.cells none ((k++l).map aa))=G++[.cells none ((k++l).map aa)]:=by rw[←hG];simp
 rw[qI] at jY
 have El:=fun b=> xi b (G++[.cells none ((k++l).map aa)]) (.ref (h.length+2) [] none 0 (16+l.length) (16+l.length)) (k++l) (BR.rd (di (by rw[←hG];simp) (by simp[hk]))) (by simp;omega)
 have A6:((dx k l).map aa).length=16:=by simp[dx,bq]
 have g0:G[h.length]? =some (.cells (some 27) [.arr 27 (k.map aa)]):=by rw[←hGd];exact (yJ h _ _).1
 have g1:G[h.length+1]? =some (.cells (some 27) [bC 27]):=by rw[←hGd];exact (yJ h _ _).2
 have g2:∀X,(G++X)[h.length+1]? =some (.cells (some 27) [bC 27]):=fun X=> by rw[ac0 (by omega)];exact g1
 have tk:∀X b,((G++X).set (h.length+1) b).take h.length=h:=fun X b=> by
   rw[afc (by omega),acV (by omega),←hGd,acq]
 have ax:(0:Nat)=0:=rfl
 try simp only[B51,jw,gP,hGd,oB,jY,El,g0,g1,g2,tk,A6,q9z (g2 _),qK,dx,go_sem,simprocAttr]
 repeat' (
   first | refine q5z ?_ ?_ | refine q3z ?_ ?_ | refine q4z ?_ ?_
   all_goals intro aj
   all_goals first | replace aj:=q2z aj | replace aj:=q1z aj | skip
   all_goals first | subst aj | replace ax:=And.intro aj ax
   all_goals try simp only[ax,B51,jw,gP,hGd,oB,jY,El,g0,g1,g2,tk,A6,q9z (g2 _),qK,dx,go_sem,simprocAttr])
theorem I3 (b:Nat) (h:Hp) (k l:Bs) (hk:k.length=16) (hl:l.length=16):run fns pr b 70 [.arr 27 (k.map aa),.arr 27 (l.map aa)] h=some (.arr 27 ((dx k l).map aa),h):=by
 refine Vm.aQ (nt:=8) rfl Wv (by simp) ?_
 have oC:(l.map aa).length=16:=by simp[hl]
 have A6:((dx k l).map aa).length=16:=by simp[dx,bq]
 have Az:=fun b=> pT b (h++[bc.cells (some 27) [V.arr 27 (k.map aa)],bc.cells (some 27) [V.arr 27 (l.map aa)],bc.cells (some 27) [bC 27]]) (.ref (h.length+1) [0] none 0 16 1) k l hk (Rd.mk' (by
   simp only[cK,go_sem,simprocAttr,acs,aco,Vm.aM,Vm.bN,Vm.bh,Vm.aX,Vm.bw,Vm.bb,acm,acS,dP,ac2,ack (aec oC)]) (by simp[fj,hl])) (by omega)
 have ax:(0:Nat)=0:=rfl
 try simp only[B70,oC,Az,A6,qK,go_sem,simprocAttr]
 repeat' (
   first | refine q5z ?_ ?_ | refine q3z ?_ ?_ | refine q4z ?_ ?_
   all_goals intro aj
   all_goals first | replace aj:=q2z aj | replace aj:=q1z aj | skip
   all_goals first | subst aj | replace ax:=And.intro aj ax
   all_goals try simp only[ax,B70,oC,Az,A6,qK,go_sem,simprocAttr])
def jl (h H:Hp) (v:V) (l:Bs):Prop:=∃k,XR H none k v (l.map aa)∧h.length≤k∧Fw [] h H
theorem jl.br {h H:Hp} {v:V} {l:Bs} (hn:jl h H v l):BR H v l:=let ⟨_,x,_,_⟩:=hn;x.BR
theorem jl.fw {h H:Hp} {v:V} {l:Bs} (hn:jl h H v l):Fw [] h H:=let ⟨_,_,_,f⟩:=hn;f
theorem jl.oy {h H:Hp} {v:V} {l:Bs} (hn:jl h H v l) {n:Nat} (hl:n≤h.length):bA n H v=some (.al false none (l.map aa)):=by
 obtain ⟨k,x,hk,f⟩:=hn
 exact x.oy (acN hl hk) (bO l)
theorem jl.db {h0 h H:Hp} {v:V} {l:Bs} (hn:jl h H v l) (f:Fw [] h0 h):jl h0 H v l:=by
 obtain ⟨k,x,hk,g⟩:=hn
 exact ⟨k,x,acN f.len hk,f.trans g⟩
theorem jl.mono {h H H':Hp} {v:V} {l:Bs} (hn:jl h H v l) (f:Fw [] H H'):jl h H' v l:=let ⟨k,x,hk,g⟩:=hn;⟨k,x.mono fun b hb=> f.db _ _ hb (by simp),hk,g.trans f⟩
theorem jl.ty {h H:Hp} {v:V} {l:Bs} (hn:jl h H v l):v.ty=none:=let ⟨_,x,_,_⟩:=hn;x.ty.1
theorem jl.aA {h H:Hp} {v:V} {l:Bs} (hn:jl h H v l):v.aA=true:=let ⟨_,x,_,_⟩:=hn;x.ty.2
theorem jl.app {h H:Hp} {v y:V} {l m:Bs} (hn:jl h H v l) (hs:source H y=some (none,m.map aa)) (hl:l.length+m.length≤140737488355328):
 ∃v' H',(∀cf base,aC cf base H (.app none 1) [v,y]=some (v',H'))∧jl h H' v' (l++m):=by
 obtain ⟨k,x,hk,f⟩:=hn
 obtain ⟨v',H',k',h1,h2,h3,h4,h5,h6,h7⟩:=x.Mt (n:=h.length) (bytes:=1) hk f.len hs (fun z hz=> by obtain ⟨b,_,rfl⟩:=ac6.1 hz;rfl) (by simpa using hl)
 refine ⟨v',H',h1,k',by rw[adm];exact h2,h3,?_⟩
 exact Fw.xj h4 fun j b hb=> by
   have hj:j < h.length:=q6z hb
   exact h7 j b (by omega) (f.db _ _ hb (by simp))
theorem jl.nil (h:Hp):jl h h (.al true none []) []:=⟨h.length,XR.nil _ _ _,acm _,Fw.refl _ _⟩
theorem vG {h:Hp} {x:V} {l:Bs} (hb:Rd h x l) (hl:l.length≤140737488355328):∃v H,(∀b,run fns pr b 87 [x] h=some (v,H))∧jl h H v l:=by
 have:=qJ (hb.1 h (Fw.refl _ _)) hl
 refine ⟨cv h l,h++ct l,fun b=> by rw[jw];exact this,h.length,?_,acm _,Fw.app [] h _⟩
 unfold cv ct
 by_cases e:l=[]
 ·subst e;exact .inl ⟨by simp,rfl⟩
 ·rw[if_neg e,if_neg e];exact .inr ⟨by simp,by simp⟩
def pU (k:Bs) (n i:Nat):Bs:=(List.range i).flatMap fun j=> dx k (bu n++bu j)
theorem lh (k:Bs) (n:Nat):∀i,(pU k n i).length=16 * i
 | 0=> rfl
 | i+1=> by
   have:=lh k n i
   unfold pU at this ⊢
   rw[adX,aei,aco,this]
   simp[dx,bq];omega
theorem A7 (k:Bs) (n i:Nat):pU k n (i+1)=pU k n i++dx k (bu n++bu i):=by
 unfold pU
 rw[adX,aei];simp
def l9 (k:Bs) (n c:Nat):Bs:=(pU k n ((c+15)/ 16)).take c
theorem j8 (k:Bs) (n c:Nat):(l9 k n c).length=c:=by
 unfold l9
 rw[acI,lh];omega
theorem Et (b:Nat) (h:Hp) (k:Bs) (n c:Nat) (hk:k.length=16) (hn:n < 18446744073709551616) (hc:c≤8192) (hb:b≤h.length):
 ∃v H,run fns pr b 128 [.arr 27 (k.map aa),.s (.int .u64 n),.s (.int .i64 c)] h=some (v,H)∧jl h H v (l9 k n c):=by
 refine Vm.ef (nt:=33) rfl QS (by simp) ?_
 have gP:(k.map aa).length=16:=by simp[hk]
 have m1:max 0 (min (c:Int) 8192)=(c:Int):=by omega
 have ax:(0:Nat)=0:=rfl
 try simp only[Mi,AS,AR,gP,m1,go_sem,simprocAttr]
 repeat' (
   first | refine q5z ?_ ?_ | refine q3z ?_ ?_ | refine q4z ?_ ?_
   all_goals intro aj
   all_goals first | replace aj:=q2z aj | replace aj:=q1z aj | skip
   all_goals first | subst aj | replace ax:=And.intro aj ax
   all_goals try simp only[ax,Mi,AS,AR,gP,m1,go_sem,simprocAttr])
 generalize hGd:h++[bc.cells (some 27) [V.arr 27 (k.map aa)]]=G
 have hG:G.length=h.length+1:=by rw[←hGd];simp
 have gG:G[h.length]? =some (.cells (some 27) [V.arr 27 (k.map aa)]):=by rw[←hGd];simp
 have fG:Fw [] h G:=by rw[←hGd];exact Fw.app [] h _
 refine aV (fun m e H=>∃i v,m=(c+15)/ 16 - i∧i≤(c+15)/ 16∧e 8= .s (.int .u64 (i:Nat))∧e 7=v∧e 3= .ptr h.length [0] 1∧e 2= .s (.int .i64 c)∧e 1= .s (.int .u64 n)∧jl G H v (pU k n i))
   (fun e H=>∃v,e 7=v∧e 2= .s (.int .i64 c)∧jl G H v (pU k n ((c+15)/ 16))) ((c+15)/ 16) _ _
   ⟨0,_,rfl,by omega,rfl,rfl,rfl,rfl,rfl,jl.nil G⟩ ?_ ?_
 ·rintro m e H ⟨i,v,rfl,hi,e8,e7,e3,e2,e1,hN⟩
  have hlen:=fun cf base=> hN.br.bU (cf:=cf) (base:=base) (h:=H)
  rw[lh] at hlen
  by_cases cd:i <(c+15)/ 16
  ·have c':((16 * i:Nat):Int)<(c:Int):=by omega
   have hbH:b≤H.length:=by have:=hN.fw.len;have:=fG.len;omega
   have w3:IntKind.u64.wrap ((i:Int)+1)=((i+1:Nat):Int):=by rw[wrap_u64 (by omega) (by omega)];omega
   have gH:H[h.length]? =some (.cells (some 27) [V.arr 27 (k.map aa)]):=hN.fw.db _ _ gG (by simp)
   have gH2:∀X,(H++X)[h.length]? =some (.cells (some 27) [V.arr 27 (k.map aa)]):=fun X=> q10z gH X
   have n1:=eT b H n hn hbH
   have n2:=eT b (H++[.cells none ((bu n).map aa)]) i (by omega) (by simp;omega)
   have ha:∀cf base,aC cf base (H++[.cells none ((bu n).map aa),.cells none ((bu i).map aa)]) (.app none 1) [.ref H.length [] none 0 8 8,.ref (H.length+1) [] none 0 8 8]=some (.ref H.length [] none 0 16 16,H++[.cells none ((bu n++bu i).map aa),.cells none ((bu i).map aa)]):=fun cf base=> by
     have:=CX (cf:=cf) (base:=base) (H:=H++[.cells none ((bu n).map aa),.cells none ((bu i).map aa)]) (id:=H.length) (l:=bu n) (m:=bu i) (y:= .ref (H.length+1) [] none 0 8 8) (yJ H _ _).1 (BR.src (di (yJ H _ _).2 (bx i))) (by rw[bx,bx];omega)
     rw[bx,bx] at this
     rw[this]
     congr 2
     rw[pV];rfl
   have Az:=fun b=> pT b (H++[bc.cells none ((bu n++bu i).map aa),.cells none ((bu i).map aa)]) (.ref H.length [] none 0 16 16) k (bu n++bu i) hk (BR.rd (di (by simp) (by simp))) (by simp)
   obtain ⟨v2,H2,jY,hN2⟩:=(hN.mono (Fw.app [] H [.cells none ((bu n++bu i).map aa),.cells none ((bu i).map aa)])).app (y:= .al true none ((dx k (bu n++bu i)).map aa)) (m:=dx k (bu n++bu i)) rfl (by rw[lh];simp[dx,bq];omega)
   rw[←A7] at hN2
   simp only[e8,e7,e3,e2,e1,hlen,c',gH,gH2,n1,n2,ha,Az,nX,ia,jx,fV,jY,w3,go_sem,simprocAttr]
   exact ⟨(c+15)/ 16 - (i+1),by omega,i+1,v2,rfl,by omega,by simp_all⟩
  ·have c':¬((16 * i:Nat):Int)<(c:Int):=by omega
   have qL:i=(c+15)/ 16:=by omega
   subst qL
   simp only[e8,e7,e3,e2,e1,hlen,c',go_sem,simprocAttr]
   exact ⟨v,rfl,hN⟩
 ·rintro e H ⟨v,e7,e2,hN⟩
  have hc2:c≤(pU k n ((c+15)/ 16)).length:=by rw[lh];omega
  obtain ⟨y,hy,nV⟩:=hN.br.hi (k:= .i64) (r:=c) hc2
  obtain ⟨v2,H2,oB,hN2⟩:=vG (BR.rd nV) (by rw[acI];omega)
  simp only[e7,e2,hy,oB,go_sem,simprocAttr]
  exact hN2.db (fG.trans hN.fw)
def lp (a b:Bs):Bs:=List.zipWith (fun x y=> x ^^^ y) a b
def m0 (s l:Bs) (j:Nat):Bs:=lp (s.take j) (l.take j)++s.drop j
theorem I4 {s l:Bs} (h:s.length=l.length) (j:Nat) (hj:j≤l.length):(m0 s l j).length=l.length:=by
 simp[m0,lp];omega
theorem Eu (s l:Bs):m0 s l 0=s:=by simp[m0,lp]
theorem I5 {s l:Bs} (h:s.length=l.length):m0 s l l.length=lp s l:=by
 unfold m0
 rw[ack (by omega),ack (acm _),adp (by omega),acL]
theorem I6 {s l:Bs} (h:s.length=l.length) {j:Nat} (hj:j < l.length):(m0 s l j)[j]? =some (s.getD j 0):=by
 have h1:(lp (s.take j) (l.take j)).length=j:=by simp[lp];omega
 unfold m0
 rw[acB (by omega),h1,aeU,ad5,aeC,List.getD,aci (by omega)];rfl
theorem Ev {s l:Bs} (h:s.length=l.length) {j:Nat} (hj:j < l.length):(m0 s l j).set j (s.getD j 0 ^^^ l.getD j 0)=m0 s l (j+1):=by
 have h1:(lp (s.take j) (l.take j)).length=j:=by simp[lp];omega
 have e1:s.getD j 0=s[j]:=by rw[List.getD,aci (by omega)];rfl
 have e2:l.getD j 0=l[j]:=by rw[List.getD,aci (by omega)];rfl
 unfold m0
 rw[ac9 _ _ (by omega),h1,aeU,adh (by omega),ad4,e1,e2,acT (by omega),acT (by omega)]
 have:lp (s.take j++[s[j]]) (l.take j++[l[j]])=lp (s.take j) (l.take j)++[s[j]^^^ l[j]]:=by
   unfold lp
   rw[List.zipWith_append (by simp;omega)];rfl
 rw[this,acs];rfl
def pb (k:Bs) (n:Nat) (l:Bs):Bs:=lp (l9 k n l.length) l
theorem lq (k:Bs) (n:Nat) (l:Bs):(pb k n l).length=l.length:=by simp[pb,lp,j8]
theorem vH (b:Nat) (h:Hp) (x:V) (k l:Bs) (n:Nat) (hk:k.length=16) (hn:n < 18446744073709551616) (hx:BR h x l) (hl:l.length≤8192) (hb:b≤h.length):
 ∃v H,run fns pr b 103 [.arr 27 (k.map aa),.s (.int .u64 n),x] h=some (v,H)∧jl h H v (pb k n l):=by
 refine Vm.ef (nt:=31) rfl P1 (by simp) ?_
 have gP:(k.map aa).length=16:=by simp[hk]
 have dQ:=fun cf base H=> hx.bU (cf:=cf) (base:=base) (h:=H)
 generalize hGd:h++[bc.cells (some 27) [V.arr 27 (k.map aa)]]=G
 have fG:Fw [] h G:=by rw[←hGd];exact Fw.app [] h _
 obtain ⟨v,H,aR,hN⟩:=Et b G k n l.length hk hn hl (by have:=fG.len;omega)
 have CW:=fun cf base H=> hN.br.bU (cf:=cf) (base:=base) (h:=H)
 rw[j8] at CW
 have g0:G[h.length]? =some (.cells (some 27) [.arr 27 (k.map aa)]):=by rw[←hGd];simp
 simp only[PZ,Il,Ik,gP,dQ,hGd,g0,aR,CW,go_sem,simprocAttr]
 obtain ⟨kid,xr,Mu,f⟩:=hN
 have hs:(l9 k n l.length).length=l.length:=j8 _ _ _
 unfold pb
 generalize l9 k n l.length=s at xr hs aR
 by_cases Ew:l=[]
 ·subst Ew
  have s0:s=[]:=aeW.1 hs
  subst s0
  refine aV (fun m e H'=> m=0∧e 16= .s (.int .i64 0)∧e 15= .s (.int .i64 ((0:Nat):Int))∧e 7=v∧H'=H) (fun e H'=> e 7=v∧H'=H) 0 _ _ ⟨rfl,rfl,rfl,rfl,rfl⟩ ?_ ?_
  ·rintro m e H' ⟨rfl,e16,e15,e7,rfl⟩
   have c':¬(0:Int)<((0:Nat):Int):=by omega
   simp only[e16,e15,e7,c',go_sem,simprocAttr]
   try simp_all
  ·rintro e H' ⟨e7,rfl⟩
   simp only[e7,go_sem,simprocAttr]
   exact ⟨kid,xr,acN fG.len Mu,fG.trans f⟩
 ·rcases xr with ⟨rfl,h0⟩ | ⟨rfl,hg⟩
  ·have:s.length=0:=by simpa using h0
   exact absurd (aeW.1 (by omega)) Ew
  have A8:(s.map aa).length=l.length:=by simp[hs]
  rw[A8]
  refine aV (fun m e H'=>∃j,m=l.length - j∧j≤l.length∧e 16= .s (.int .i64 (j:Nat))∧e 15= .s (.int .i64 (l.length:Nat))∧e 7= .ref kid [] none 0 l.length l.length∧e 2=x∧H'=H.set kid (.cells none ((m0 s l j).map aa)))
    (fun e H'=> e 7= .ref kid [] none 0 l.length l.length∧H'=H.set kid (.cells none ((lp s l).map aa))) l.length _ _
    ⟨0,rfl,by omega,rfl,rfl,rfl,rfl,by rw[Eu,lg hg]⟩ ?_ ?_
  ·rintro m e H' ⟨j,rfl,hj,e16,e15,e7,e2,rfl⟩
   by_cases cd:j < l.length
   ·have c':(j:Int)<((l.length:Nat):Int):=by omega
    have w3:IntKind.i64.wrap ((j:Int)+1)=((j+1:Nat):Int):=q17z (by omega)
    have hf:Fw [] h (H.set kid (.cells none ((m0 s l j).map aa))):=(fG.trans f).cP (acN fG.len Mu) _
    have dE:=(BR.sr hx).fw hf
    have CY:l[j]? =some (l.getD j 0):=by rw[List.getD,aci cd];rfl
    have i1:=fun cf base=> dE.ck (cf:=cf) (base:=base) (k:= .i64) (i:=j) (by simpa using cd)
    have i2:=fun cf base=> dE.fL (cf:=cf) (base:=base) (i:=j) (v:= .s (.int .u8 ((l.getD j 0).toNat:Int))) (by rw[acv,CY];rfl) rfl
    have Yf:=I4 hs j (by omega)
    have A9:((m0 s l j).map aa)[j]? =some (.s (.int .u8 ((s.getD j 0).toNat:Int))):=by rw[acv,I6 hs cd];rfl
    have je:=q9z (b:= .cells none ((m0 s l j).map aa)) hg
    have hxo:=Vm.u8_xor (s.getD j 0) (l.getD j 0)
    have tj:((m0 s l j).map aa).set j (.s (.int .u8 ((s.getD j 0 ^^^ l.getD j 0).toNat:Int)))=(m0 s l (j+1)).map aa:=by rw[←Ev hs cd,afU];rfl
    have cc:(0≤(j:Int)∧j < l.length)=True:=by simp;omega
    have gr:(V.s (.int .u8 ((s.getD j 0 ^^^ l.getD j 0).toNat:Int))).ground=true:=rfl
    simp only[e16,e15,e7,e2,c',w3,i1,i2,je,Yf,cc,A9,hxo,tj,gr,go_sem,simprocAttr]
    exact ⟨l.length - (j+1),by omega,j+1,rfl,by omega,by simp_all⟩
   ·have c':¬(j:Int)<((l.length:Nat):Int):=by omega
    have hj2:j=l.length:=by omega
    subst hj2
    rw[I5 hs]
    simp only[e16,e15,e7,e2,c',go_sem,simprocAttr]
  ·rintro e H' ⟨e7,rfl⟩
   simp only[e7,go_sem,simprocAttr]
   refine ⟨kid,.inr ⟨by simp[lp,hs],q9z hg⟩,acN fG.len Mu,(fG.trans f).cP (acN fG.len Mu) _⟩
def Gr (h:Hp) (n:Nat) (v:V) (H:Hp) (l:Bs):Prop:=(n=0∧l=[]∧v= .al true none []∧H=h)∨(0 < n∧l.length≤n∧v= .ref h.length [] none 0 l.length n∧H=h++[.cells none (l.map aa++List.replicate (n - l.length) (.s (.int .u8 0)))])
theorem Gr.fw {h H:Hp} {n:Nat} {v:V} {l:Bs} (g:Gr h n v H l):Fw [] h H:=by
 rcases g with ⟨_,_,_,rfl⟩ | ⟨_,_,_,rfl⟩
 ·exact Fw.refl _ _
 ·exact Fw.app [] h _
theorem Gr.app {h H:Hp} {n:Nat} {v y:V} {l m:Bs} (g:Gr h n v H l) (hs:source H y=some (none,m.map aa)) (hl:l.length+m.length≤n):
 ∃v' H',(∀cf base,base≤h.length→aC cf base H (.app none 1) [v,y]=some (v',H'))∧Gr h n v' H' (l++m):=by
 by_cases hm:m=[]
 ·subst hm
  refine ⟨v,H,fun cf base _=> ?_,by rw[acL];exact g⟩
  rcases g with ⟨_,_,rfl,_⟩ | ⟨_,_,rfl,_⟩
  ·exact g9 hs (n:=0) rfl
  ·exact g9 hs (n:=l.length) rfl
 ·have hm0:0 < m.length:=afd.2 hm
  rcases g with ⟨rfl,_,_,_⟩ | ⟨h0,h1,rfl,rfl⟩
  ·omega
  ·have hg:(h++[bc.cells none (l.map aa++List.replicate (n - l.length) (.s (.int .u8 0)))])[h.length]? =some (.cells none (l.map aa++List.replicate (n - l.length) (.s (.int .u8 0)))):=by simp
   have hlen:(l.map aa++List.replicate (n - l.length) (V.s (.int .u8 0))).length=n:=by simp;omega
   have key:=fun cf base (hb:base≤h.length)=> tl (cf:=cf) (base:=base) (bytes:=1) (off:=0) (len:=l.length) hg hs (by simpa using hm) (fun z hz=> by simp[bQ,hb]) (by rw[hlen];simp;omega)
   rw[hlen] at key
   refine ⟨_,_,key,.inr ⟨h0,by simp;omega,by simp,?_⟩⟩
   simp only[adm,aco,acy,ac8,acU]
   rw[pV,acV (by simp),ack (by simp),afy,adp (by simp),ac1]
   simp only[acy,List.drop_replicate,ad4]
   rw[show n - l.length - (l.length+m.length - l.length)=n - (l.length+m.length) by omega]
theorem CZ (cf:CF) (base:Nat) (h:Hp) (g:Option Nat) (es:List V):aC cf base h .cap [.al true g es]=some (.s (.int .i64 es.length),h):=rfl
theorem Mv (cf:CF) (base:Nat) (h:Hp) (g:Option Nat):aC cf base h (.j2 g false true false) [.al true g [],.s (.int .i64 ((0:Nat):Int))]=some (.al true g [],h):=by
 simp[aC,gV,fj,aO,cX,dH]
theorem Mw (cf:CF) (base:Nat) (h:Hp) (g:Option Nat) (z:V) {n:Nat} (h0:0 < n) (hn:n≤100000000):aC cf base h (.apz g 1 z) [.al true g [],.s (.int .i64 n)]=some (.ref h.length [] g 0 n n,h++[.cells g (List.replicate n z)]):=by
 have h1:List.replicate n z≠[]:=by simp;omega
 have h2:n≤140737488355328:=by omega
 simp[aC,vI,df,h1,h2]
theorem Mx (b:Nat) (h:Hp) (n:Nat) (hn:n≤100000000):∃v H,run fns pr b 137 [.al true none [],.s (.int .i64 n)] h=some (v,H)∧Gr h n v H []:=by
 refine Vm.ef (nt:=27) rfl Q6 (by simp) ?_
 have c0:¬(n:Int)< 0:=by omega
 have w0:IntKind.i64.wrap (n:Int)=(n:Int):=wrap_i64 (by omega) (by omega)
 have w1:IntKind.i64.wrap ((n:Int) - 0)=(n:Int):=by rw[Int.sub_zero,w0]
 have w2:IntKind.i64.wrap (((0:Nat):Int) - ((0:Nat):Int))=0:=rfl
 by_cases Ej:n=0
 ·subst Ej
  have c1:¬(0:Int)<((0:Nat):Int):=by omega
  simp only[Mn,c0,c1,CZ,w2,w1,go_sem,↓reduceIte,Nat.reduceEqDiff,Nat.reduceBEq,Nat.reduceAdd,Nat.reduceSub,Nat.reduceLT,Nat.reduceLeDiff,Int.reduceLT,Int.reduceLE,Int.reduceEq,Int.reduceToNat]
  exact .inl ⟨rfl,rfl,rfl,rfl⟩
 ·have c1:(0:Int)<(n:Int):=by omega
  have sl:=fun cf base=> Ba (cf:=cf) (base:=base) (h:=h++[.cells none (List.replicate n (.s (.int .u8 0)))]) (g:=none) (id:=h.length) (es:=List.replicate n (.s (.int .u8 0))) (n:=n) (r:=0) (k:= .i64) (by simp) (by simp) (by omega)
  simp only[Mn,c0,c1,CZ,w2,w1,Mv,Mw _ _ _ _ _ (Nat.pos_of_ne_zero Ej) hn,C0,sl,go_sem,↓reduceIte,Nat.reduceEqDiff,Nat.reduceBEq,Nat.reduceAdd,Nat.reduceSub,Nat.reduceLT,Nat.reduceLeDiff,Int.reduceLT,Int.reduceLE,Int.reduceEq,Int.reduceToNat]
  exact .inr ⟨by omega,by simp,rfl,by simp⟩
theorem Rd.ty {h:Hp} {x:V} {l:Bs} (hr:Rd h x l):x.ty=none:=by
 have:=hr.1 h (Fw.refl _ _)
 cases x <;> first | rfl | (simp[elems] at this)
theorem Rd.aA {h:Hp} {x:V} {l:Bs} (hr:Rd h x l):x.aA=true:=by
 have:=hr.1 h (Fw.refl _ _)
 cases x <;> first | rfl | (simp[elems] at this)
theorem Rd.bU {cf:CF} {base:Nat} {h0 h:Hp} {x:V} {l:Bs} (hr:Rd h0 x l):aC cf base h .len [x]=some (.s (.int .i64 l.length),h):=Vm.bU cf base h x _ hr.2
def Rds (h:Hp) (vs:List V) (ls:List Bs):Prop:=vs.length=ls.length∧∀(i:Nat) (v:V) (l:Bs),vs[i]? =some v→ls[i]? =some l→Rd h v l
theorem vJ (b:Nat) (h:Hp) (x:V) (m:Nat) (vs:List V) (ls:List Bs) (dE:SR h x none vs) (hm:vs.length=m) (pK:m≤1000) (hr:Rds h vs ls) (hl:ls.flatten.length≤100000000):
 run fns pr b 119 [x] h=some (.al false none (ls.flatten.map aa),h):=by
 refine Vm.aQ (nt:=36) rfl Qu (by simp) ?_
 have dQ:∀cf base H,aC cf base H .len [x]=some (.s (.int .i64 (m:Nat)),H):=fun cf base H=> by rw[←hm];exact dE.bU
 obtain ⟨hml,hbr⟩:=hr
 have hlm:ls.length=m:=by omega
 have hat:∀(j:Nat),j < m→∃(v:V) (l:Bs),vs[j]? =some v∧ls[j]? =some l∧Rd h v l∧(ls.take (j+1)).flatten=(ls.take j).flatten++l:=fun j hj=> by
   refine ⟨vs[j],ls[j],aci (by omega),aci (by omega),hbr j _ _ (aci (by omega)) (aci (by omega)),?_⟩
   rw[acT (by omega),List.flatten_append];simp
 have hle:∀j,(ls.take j).flatten.length≤ls.flatten.length:=fun j=> by
   conv=> rhs;rw[←List.take_append_drop j ls,List.flatten_append,aco]
   omega
 have bV:(ls.take m).flatten=ls.flatten:=by rw[ack (by omega)]
 have cm:∀(H:Hp),Fw [] h H→∀(j:Nat) (v:V) (l:Bs),j < m→vs[j]? =some v→Rd h v l→(∀cf base,aC cf base H (.de none) [x,.s (.int .i64 (j:Nat))]=some (iW x j,H))∧(∀cf base,aC cf base H (.ld none) [iW (x) j]=some (v,H)):=fun H f j v l hj hv hb=>
   ⟨fun cf base=>(dE.fw f).ck (by omega),fun cf base=>(dE.fw f).fL hv hb.ty⟩
 simp only[Qs,Iv,Iu,It,Is,dQ,go_sem,simprocAttr]
 refine aV (fun q e H=>∃j,q=m - j∧j≤m∧e 11= .s (.int .i64 (j:Nat))∧e 10= .s (.int .i64 (m:Nat))∧e 9=x∧e 0=x∧e 3= .s (.int .i64 ((ls.take j).flatten.length:Nat))∧H=h)
   (fun e H=> e 0=x∧e 3= .s (.int .i64 (ls.flatten.length:Nat))∧H=h) m _ _ ⟨0,rfl,by omega,rfl,rfl,rfl,rfl,rfl,rfl⟩ ?_ ?_
 ·rintro q e H ⟨j,rfl,hj,e11,e10,e9,e0,e3,rfl⟩
  by_cases cd:j < m
  ·have c':(j:Int)<((m:Nat):Int):=by omega
   obtain ⟨v,l,hv,CY,hb,m6⟩:=hat j cd
   obtain ⟨i1,i2⟩:=cm H (Fw.refl _ _) j v l cd hv hb
   have i3:=fun cf base H=> hb.bU (cf:=cf) (base:=base) (h:=H)
   have hx:=hle (j+1)
   rw[m6,aco] at hx
   have w3:IntKind.i64.wrap ((j:Int)+1)=((j+1:Nat):Int):=q17z (by omega)
   have w4:IntKind.i64.wrap ((((ls.take j).flatten.length:Nat):Int)+((l.length:Nat):Int))=(((ls.take j).flatten.length+l.length:Nat):Int):=by rw[wrap_i64 (by omega) (by omega)];omega
   have c2:¬(((ls.take j).flatten.length+l.length:Nat):Int)< 0:=by omega
   simp only[e11,e10,e9,e0,e3,c',i1,i2,i3,w3,w4,c2,go_sem,simprocAttr]
   exact ⟨m - (j+1),by omega,j+1,rfl,by omega,by simp_all⟩
  ·have c':¬(j:Int)<((m:Nat):Int):=by omega
   have hjm:j=m:=by omega
   subst hjm
   rw[bV] at e3
   simp only[e11,e10,e9,e0,e3,c',go_sem,simprocAttr]
 ·rintro e H ⟨e0,e3,rfl⟩
  obtain ⟨v0,H0,xk,G0⟩:=Mx H.length H ls.flatten.length hl
  simp only[e0,e3,xk,dQ,go_sem,simprocAttr]
  refine aV (fun q e H'=>∃j v,q=m - j∧j≤m∧e 27= .s (.int .i64 (j:Nat))∧e 26= .s (.int .i64 (m:Nat))∧e 25=x∧e 6=v∧Gr H ls.flatten.length v H' (ls.take j).flatten)
    (fun e H'=>∃v,e 6=v∧Gr H ls.flatten.length v H' ls.flatten) m _ _ ⟨0,v0,rfl,by omega,rfl,rfl,rfl,rfl,G0⟩ ?_ ?_
  ·rintro q e H' ⟨j,v,rfl,hj,e27,e26,e25,e6,G⟩
   by_cases cd:j < m
   ·have c':(j:Int)<((m:Nat):Int):=by omega
    obtain ⟨y,l,hv,CY,hb,m6⟩:=hat j cd
    obtain ⟨i1,i2⟩:=cm H' G.fw j y l cd hv hb
    have hx:=hle (j+1)
    rw[m6,aco] at hx
    obtain ⟨v2,H2,jY,G2⟩:=G.app (hb.fw G.fw).source (m:=l) hx
    rw[←m6] at G2
    have yL:=fun cf=> jY cf H.length (acm _)
    have w3:IntKind.i64.wrap ((j:Int)+1)=((j+1:Nat):Int):=q17z (by omega)
    simp only[e27,e26,e25,e6,c',i1,i2,yL,w3,go_sem,simprocAttr]
    exact ⟨m - (j+1),by omega,j+1,v2,rfl,by omega,by simp_all⟩
   ·have c':¬(j:Int)<((m:Nat):Int):=by omega
    have hjm:j=m:=by omega
    subst hjm
    rw[bV] at G
    simp only[e27,e26,e25,e6,c',go_sem,simprocAttr]
    exact ⟨v,rfl,G⟩
  ·rintro e H' ⟨v,e6,G⟩
   have dt:bA H.length H' v=some (.al false none (ls.flatten.map aa)):=by
     rcases G with ⟨_,h1,rfl,rfl⟩ | ⟨_,_,rfl,rfl⟩
     ·rw[h1];rfl
     ·refine XR.oy (k:=H.length) (.inr ⟨by rw[acy],?_⟩) (acm _) (bO _)
      simp
   have fk:=G.fw.take
   simp only[e6,dt,fk,go_sem,simprocAttr]
def I7 (k:Bs) (n:Nat) (ad l:Bs):Bs:=dx (dx k k) (bu n++(bu ad.length++(ad++l)))
def m7 (k:Bs) (n:Nat) (ad l:Bs):Bs:=(I7 k n ad l).take 8
theorem qM (k:Bs) (n:Nat) (ad l:Bs):(m7 k n ad l).length=8:=by simp[m7,I7,dx,bq]
theorem pW (k l:Bs):(dx k l).length=16:=by simp[dx,bq]
theorem RQ {cf:CF} {base:Nat} {h:Hp} {t:Nat} {g:Option Nat} {id aB:Nat} {p:List Nat} {es:List V} {k:IntKind} {r:Nat} (hn:node h id p aB=some (.arr t es)) (hr:r≤es.length):aC cf base h (.nU t g false true) [.ptr id p aB,.s (.int k r)]=some (.ref id p g 0 r aB,h):=by
 simp[aC,rB,aO,hn,cX,hr]
theorem eg (t:Nat):∀l:Bs,(V.arr t (l.map aa)).ground=true
 | []=> rfl
 | b::l=> by
   have:=eg t l
   simp only[V.ground] at this ⊢
   simp only[acx,V.ground.all,this];rfl
theorem C1 (b:Nat) (h:Hp) (x y:V) (k ad l:Bs) (n:Nat) (hk:k.length=16) (hn:n < 18446744073709551616) (hx:Rd h x ad) (hy:Rd h y l) (had:ad.length≤100000) (hl:l.length≤100000) (hb:b≤h.length):
 ∃v H,run fns pr b 104 [.arr 27 (k.map aa),.s (.int .u64 n),x,y] h=some (v,H)∧Rd H v (m7 k n ad l)∧Fw [] h H:=by
 refine Vm.ef (nt:=25) rfl P4 (by simp) ?_
 have gP:(k.map aa).length=16:=by simp[hk]
 have dQ:=fun cf base H=> hx.bU (cf:=cf) (base:=base) (h:=H)
 generalize hGd:h++[bc.cells (some 27) [V.arr 27 (k.map aa)]]=G
 have hG:G.length=h.length+1:=by rw[←hGd];simp
 have g0:G[h.length]? =some (.cells (some 27) [.arr 27 (k.map aa)]):=by rw[←hGd];simp
 have fG:Fw [] h G:=by rw[←hGd];exact Fw.app [] h _
 have htw:=fun b H=> I3 b H k k hk hk
 have n1:=eT b G n hn (by omega)
 have n2:=eT b (G++[.cells none ((bu n).map aa)]) ad.length (by omega) (by simp;omega)
 have wl:IntKind.u64.wrap ((ad.length:Nat):Int)=((ad.length:Nat):Int):=wrap_u64 (by omega) (by omega)
 have x1:=hx.ty;have x2:=hx.aA;have y1:=hy.ty;have y2:=hy.aA
 have fX:∀X,Fw [] h (G++X):=fun X=> fG.trans (Fw.app [] G X)
 have hco:=fun b=> vJ b (G++[.cells none ((bu n).map aa),.cells none ((bu ad.length).map aa),.cells none [.ref G.length [] none 0 8 8,.ref (G.length+1) [] none 0 8 8,x,y]]) (.ref (G.length+2) [] none 0 4 4) 4 [.ref G.length [] none 0 8 8,.ref (G.length+1) [] none 0 8 8,x,y] [bu n,bu ad.length,ad,l] (ma (by simp) rfl) rfl (by omega) ⟨rfl,fun i v m hv hm=> by
   match i,hv,hm with
   | 0,hv,hm=> cases hv;cases hm;exact BR.rd (di (by simp) (bx n))
   | 1,hv,hm=> cases hv;cases hm;exact BR.rd (di (by simp) (bx _))
   | 2,hv,hm=> cases hv;cases hm;exact hx.fw (fX _)
   | 3,hv,hm=> cases hv;cases hm;exact hy.fw (fX _)
   | i+4,hv,hm=> simp at hv⟩ (by simp;omega)
 simp only[aed,afz,acL] at hco
 have Az:=fun b H=> pT b H (.al false none ((bu n++(bu ad.length++(ad++l))).map aa)) (dx k k) _ (pW k k) (BR.rd (dp H false _)) (by simp;omega)
 have yM:(List.map aa (dx (dx k k) (bu n++(bu ad.length++(ad++l))))).length=16:=by simp[pW]
 have hnd:∀(A B C:bc) (m:Bs),node (G++[A,B,C,.cells (some 27) [.arr 27 (m.map aa)]]) (G.length+3) [0] 1=some (.arr 27 (m.map aa)):=fun A B C m=> by simp only[go_sem,simprocAttr,acs,aco,Vm.aM,Vm.bN,Vm.bh,Vm.aX,Vm.bw,Vm.bb,acm,acS]
 have hsl:=fun cf base A B C (m:Bs) (hm:m.length=16)=> RQ (cf:=cf) (base:=base) (g:=none) (k:= .i64) (r:=8) (hnd A B C m) (by simp[hm])
 have aaV:=fun cf base A B C=> hsl cf base A B C (dx (dx k k) (bu n++(bu ad.length++(ad++l)))) (pW _ _)
 simp only[P2,gP,hGd,g0,htw,n1,dQ,wl,n2,bh,x1,x2,y1,y2,vK,hco,Az,yM,eg,show (V.s (.int .i64 8))=V.s (.int .i64 ((8:Nat):Int)) from rfl,aaV,go_sem,simprocAttr]
 refine ⟨Rd.mk' ?_ (by simp[fj,qM]),fX _⟩
 rw[cK,Vm.tm,hnd]
 simp only[vL,dP,ac2,m7,I7,aeX]
theorem Yg (l m:Bs):(decide ((⟨l.toArray⟩:ByteArray)=⟨m.toArray⟩))=decide (l=m):=by
 rw[decide_eq_decide];simp
theorem Ey (b:Nat) (h:Hp) (x y:V) (l m:Bs) (hx:Rd h x l) (hy:Rd h y m):run fns pr b 93 [x,y] h=some (.s (.bool (decide (l=m))),h):=by
 refine Vm.aQ (nt:=10) rfl Pe (by simp) ?_
 have ex:=hx.1 h (Fw.refl _ _)
 have ey:=hy.1 h (Fw.refl _ _)
 simp only[B93,RR,ex,ey,tn,Yg,go_sem,simprocAttr]
theorem My (b:Nat) (h:Hp) (x y:V) (l m:Bs) (hx:Rd h x l) (hy:Rd h y m):run fns pr b 139 [x,y] h=some (.s (.bool (decide (l=m))),h):=by
 refine Vm.aQ (nt:=8) rfl Rc (by simp) ?_
 have he:=fun b=> Ey b h x y l m hx hy
 simp only[Ra,he,go_sem,simprocAttr]
def mE (k:Bs) (n:Nat) (ad l:Bs):Bs:=if l.length≤8184∧ad.length≤8192 then pb k n l++m7 k n ad l else []
theorem qN (k:Bs) (n:Nat) (ad l:Bs) (h1:l.length≤8184) (h2:ad.length≤8192):(mE k n ad l).length=l.length+8:=by
 rw[mE,if_pos ⟨h1,h2⟩,aco,lq,qM]
theorem C2 (b:Nat) (h:Hp) (x y:V) (k ad l:Bs) (n:Nat) (hk:k.length=16) (hn:n < 18446744073709551616) (hx:Rd h x ad) (hy:BR h y l) (had:ad.length≤100000):
 run fns pr b 69 [.arr 27 (k.map aa),.s (.int .u64 n),x,y] h=some (.al false none ((mE k n ad l).map aa),h):=by
 refine Vm.aQ (nt:=27) rfl Wt (by simp) ?_
 have gP:(k.map aa).length=16:=by simp[hk]
 have lx:=fun cf base H=> hx.bU (cf:=cf) (base:=base) (h:=H)
 have ly:=fun cf base H=> hy.bU (cf:=cf) (base:=base) (h:=H)
 have fz:bA h.length h (.al false none [])=some (.al false none []):=rfl
 unfold mE
 by_cases c1:l.length≤8184
 ·have c1':¬(8184:Int)<((l.length:Nat):Int):=by omega
  by_cases c2:ad.length≤8192
  ·have c2':¬(8192:Int)<((ad.length:Nat):Int):=by omega
   rw[if_pos ⟨c1,c2⟩]
   generalize hGd:h++[bc.cells (some 27) [V.arr 27 (k.map aa)]]=G
   have hG:G.length=h.length+1:=by rw[←hGd];simp
   have g0:G[h.length]? =some (.cells (some 27) [.arr 27 (k.map aa)]):=by rw[←hGd];simp
   have fG:Fw [] h G:=by rw[←hGd];exact Fw.app [] h _
   obtain ⟨v,H,hh,hN⟩:=vH h.length G y k l n hk hn (hy.mono fG) (by omega) (by omega)
   have gH:H[h.length]? =some (.cells (some 27) [.arr 27 (k.map aa)]):=hN.fw.db _ _ g0 (by simp)
   obtain ⟨w,H2,hm,hR,f2⟩:=C1 h.length H x y k ad l n hk hn (hx.fw (fG.trans hN.fw)) (BR.rd (hy.mono (fG.trans hN.fw))) (by omega) (by omega) (by have:=hN.fw.len;omega)
   obtain ⟨u,H3,jY,hN3⟩:=(hN.mono f2).app hR.source (by rw[lq,qM];omega)
   have dt:=hN3.oy (n:=h.length) (by omega)
   have fk:=(fG.trans hN3.fw).take
   simp only[B69,gP,lx,ly,c1',c2',hGd,g0,hh,gH,hm,jY,dt,fk,go_sem,simprocAttr]
  ·have c2':(8192:Int)<((ad.length:Nat):Int):=by omega
   rw[if_neg (by omega)]
   simp only[B69,gP,lx,ly,c1',c2',acq,go_sem,simprocAttr]
 ·have c1':(8184:Int)<((l.length:Nat):Int):=by omega
  rw[if_neg (by omega)]
  simp only[B69,gP,lx,ly,c1',acq,go_sem,simprocAttr]
def oN (k:Bs) (n:Nat) (ad b:Bs):Option Bs:=
 if 8≤b.length∧b.length≤8192∧ad.length≤8192 then
  let t:=pb k n (b.take (b.length - 8))
  if m7 k n ad t=b.drop (b.length - 8) then some t else none
 else none
def oO :Option Bs→V
 | some t=> .bP [.al false none (t.map aa),.s (.int .i64 0)]
 | none=> .bP [.al false none [],.s (.int .i64 30)]
theorem C3 (b:Nat) (h:Hp) (x y:V) (k ad l:Bs) (n:Nat) (hk:k.length=16) (hn:n < 18446744073709551616) (hx:Rd h x ad) (hy:BR h y l):
 run fns pr b 122 [.arr 27 (k.map aa),.s (.int .u64 n),x,y] h=some (oO (oN k n ad l),h):=by
 refine Vm.aQ (nt:=45) rfl QC (by simp) ?_
 have gP:(k.map aa).length=16:=by simp[hk]
 have lx:=fun cf base H=> hx.bU (cf:=cf) (base:=base) (h:=H)
 have ly:=fun cf base H=> hy.bU (cf:=cf) (base:=base) (h:=H)
 unfold oN
 by_cases c0:l.length < 8
 ·have c0':((l.length:Nat):Int)< 8:=by omega
  rw[if_neg (by omega)]
  simp only[AQ,gP,lx,ly,c0',oO,acq,go_sem,simprocAttr]
 have c0':¬((l.length:Nat):Int)< 8:=by omega
 by_cases c1:8192 < l.length
 ·have c1':(8192:Int)<((l.length:Nat):Int):=by omega
  rw[if_neg (by omega)]
  simp only[AQ,gP,lx,ly,c0',c1',oO,acq,go_sem,simprocAttr]
 have c1':¬(8192:Int)<((l.length:Nat):Int):=by omega
 by_cases c2:8192 < ad.length
 ·have c2':(8192:Int)<((ad.length:Nat):Int):=by omega
  rw[if_neg (by omega)]
  simp only[AQ,gP,lx,ly,c0',c1',c2',oO,acq,go_sem,simprocAttr]
 have c2':¬(8192:Int)<((ad.length:Nat):Int):=by omega
 rw[if_pos ⟨by omega,by omega,by omega⟩]
 have w8:IntKind.i64.wrap (((l.length:Nat):Int) - 8)=((l.length - 8:Nat):Int):=by rw[wrap_i64 (by omega) (by omega)];omega
 generalize hGd:h++[bc.cells (some 27) [V.arr 27 (k.map aa)]]=G
 have hG:G.length=h.length+1:=by rw[←hGd];simp
 have g0:G[h.length]? =some (.cells (some 27) [.arr 27 (k.map aa)]):=by rw[←hGd];simp
 have fG:Fw [] h G:=by rw[←hGd];exact Fw.app [] h _
 obtain ⟨z,hz,hbz⟩:=(hy.mono fG).hi (k:= .i64) (r:=l.length - 8) (by omega)
 obtain ⟨v,H,hh,hN⟩:=vH h.length G z k (l.take (l.length - 8)) n hk hn hbz (by rw[acI];omega) (by omega)
 have gH:H[h.length]? =some (.cells (some 27) [.arr 27 (k.map aa)]):=hN.fw.db _ _ g0 (by simp)
 obtain ⟨w,H2,hm,hR,f2⟩:=C1 h.length H x v k ad (pb k n (l.take (l.length - 8))) n hk hn (hx.fw (fG.trans hN.fw)) (BR.rd hN.br) (by omega) (by rw[lq,acI];omega) (by have:=hN.fw.len;omega)
 have sy:=(BR.sr hy).fw (fG.trans (hN.fw.trans f2))
 have hu:=fun cf base=> sy.RS (cf:=cf) (base:=base) (k:= .i64) (l:=l.length - 8) (by simp)
 have hu0:=fun cf base=>((BR.sr hy).fw (fG.trans hN.fw)).RS (cf:=cf) (base:=base) (k:= .i64) (l:=l.length - 8) (by simp)
 have su:=sy.loR (l:=l.length - 8) (by simp)
 rw[←List.map_drop,acy] at su
 have El:=fun b=> My b H2 w _ _ _ hR (Rd.mk' su.elems (by rw[su.len,acy]))
 have dt:=(hN.mono f2).oy (n:=h.length) (by omega)
 have fk:=(fG.trans (hN.fw.trans f2)).take
 by_cases c3:m7 k n ad (pb k n (l.take (l.length - 8)))=l.drop (l.length - 8)
 ·simp only[AQ,gP,lx,ly,c0',c1',c2',w8,hGd,g0,hz,hh,gH,hm,hu,hu0,El,c3,dt,fk,oO,go_sem,simprocAttr]
 ·simp only[AQ,gP,lx,ly,c0',c1',c2',w8,hGd,g0,hz,hh,gH,hm,hu,hu0,El,c3,dt,fk,oO,go_sem,simprocAttr]
theorem pc :∀l:Bs,ints .u8 (l.map aa)=some (l.map fun b=>(b.toNat:Int))
 | []=> rfl
 | b::l=> by
   have ih:=pc l
   show (if IntKind.u8=IntKind.u8 then (ints .u8 (l.map aa)).map ((b.toNat:Int):: ·) else none)=_
   rw[if_pos rfl,ih];rfl
theorem oP :∀ {a b:Bs},(a.map fun b=>(b.toNat:Int))=(b.map fun b=>(b.toNat:Int))→a=b
 | [],[],_=> rfl
 | [],_::_,h=> by simp at h
 | _::_,[],h=> by simp at h
 | x::a,y::b,h=> by
   simp only[acx,List.cons.injEq] at h
   have h1:x.toNat=y.toNat:=by have:=h.1;omega
   rw[afe.1 h1,oP h.2]
theorem bI {cf:CF} {base:Nat} {h:Hp} (t:Nat) (neg:Bool) (a b:Bs):aC cf base h (.ve t .u8 neg) [.arr t (a.map aa),.arr t (b.map aa)]=some (.s (.bool (if neg=true then !decide (a=b) else decide (a=b))),h):=by
 rw[Pk,pc,pc,vM]
 have:(List.map (fun b=>(b.toNat:Int)) a=List.map (fun b=>(b.toNat:Int)) b)=(a=b):=propext ⟨oP,fun h=> by rw[h]⟩
 simp only[this]
theorem bG :[V.s (.int .u8 0),.s (.int .u8 0),.s (.int .u8 0),.s (.int .u8 0),.s (.int .u8 0),.s (.int .u8 0),.s (.int .u8 0),.s (.int .u8 0),.s (.int .u8 0),.s (.int .u8 0),.s (.int .u8 0),.s (.int .u8 0),.s (.int .u8 0),.s (.int .u8 0),.s (.int .u8 0),.s (.int .u8 0)]=bY.map aa:=(rfl)
def abV (c n:Int):Bool:=decide (0≤c)&& decide (c < 4)&& decide (n≤1099511627776)
def aP (v:ae):Bool:=decide (1≤v.gen)&& decide (v.gen≤1099511627776)&&
 (if v.gone=true then decide (v.mX=bY)&& decide (v.owner=bY)&& decide (v.cx.length=0)&& decide (v.cW=0)&& decide (v.used=0)
  else !v.mY && decide (1≤v.cW)&& decide (v.cW≤32)&& decide (0≤v.used)&& decide (v.used < v.cW)&& decide (v.cx.length≤64))
theorem oQ (b:Nat) (h:Hp) (v:ae):run fns pr b 84 [v.enc] h=some (.s (.bool (aP v)),h):=by
 refine Vm.aQ (nt:=72) rfl Pd (by simp) ?_
 obtain ⟨id,ge,mX,se,li,us,ow,go,wi⟩:=v
 simp only[aP]
 have hl:((se.length:Int)≤64)=(se.length≤64):=propext (by omega)
 have hz:(se.length=0)=((se.length:Int)=0):=propext (by omega)
 by_cases g1:ge < 1
 ·have g1':¬1≤ge:=by omega
  simp only[yA,ae.enc,go_sem,simprocAttr,acs,aco,Vm.aM,Vm.bN,Vm.bh,Vm.aX,Vm.bw,Vm.bb,acm,acS,acm,hl,hz,bG,bI,adq,adH,adI,adC,decide_false,decide_true,if_false,if_true,acK,acH,acz,g1,g1']
 have g1':1≤ge:=by omega
 by_cases g2:1099511627776 < ge
 ·have g2':¬ge≤1099511627776:=by omega
  simp only[yA,ae.enc,go_sem,simprocAttr,acs,aco,Vm.aM,Vm.bN,Vm.bh,Vm.aX,Vm.bw,Vm.bb,acm,acS,acm,hl,hz,bG,bI,adq,adH,adI,adC,decide_false,decide_true,if_false,if_true,acK,acH,acz,g1,g1',g2,g2']
 have g2':ge≤1099511627776:=by omega
 cases go with
 | true=>
   by_cases k0:mX=bY
   case neg=> simp only[yA,ae.enc,go_sem,simprocAttr,acs,aco,Vm.aM,Vm.bN,Vm.bh,Vm.aX,Vm.bw,Vm.bb,acm,acS,acm,hl,hz,bG,bI,adq,adH,adI,adC,decide_false,decide_true,if_false,if_true,acK,acH,acz,g1,g1',g2,g2',k0]
   by_cases k1:ow=bY
   case neg=> simp only[yA,ae.enc,go_sem,simprocAttr,acs,aco,Vm.aM,Vm.bN,Vm.bh,Vm.aX,Vm.bw,Vm.bb,acm,acS,acm,hl,hz,bG,bI,adq,adH,adI,adC,decide_false,decide_true,if_false,if_true,acK,acH,acz,g1,g1',g2,g2',k0,k1]
   by_cases k2:(se.length:Int)=0
   case neg=> simp only[yA,ae.enc,go_sem,simprocAttr,acs,aco,Vm.aM,Vm.bN,Vm.bh,Vm.aX,Vm.bw,Vm.bb,acm,acS,acm,hl,hz,bG,bI,adq,adH,adI,adC,decide_false,decide_true,if_false,if_true,acK,acH,acz,g1,g1',g2,g2',k0,k1,k2]
   by_cases k3:li=0
   case neg=> simp only[yA,ae.enc,go_sem,simprocAttr,acs,aco,Vm.aM,Vm.bN,Vm.bh,Vm.aX,Vm.bw,Vm.bb,acm,acS,acm,hl,hz,bG,bI,adq,adH,adI,adC,decide_false,decide_true,if_false,if_true,acK,acH,acz,g1,g1',g2,g2',k0,k1,k2,k3]
   simp only[yA,ae.enc,go_sem,simprocAttr,acs,aco,Vm.aM,Vm.bN,Vm.bh,Vm.aX,Vm.bw,Vm.bb,acm,acS,acm,hl,hz,bG,bI,adq,adH,adI,adC,decide_false,decide_true,if_false,if_true,acK,acH,acz,g1,g1',g2,g2',k0,k1,k2,k3]
 | false=>
   cases wi with
   | true=> simp only[yA,ae.enc,go_sem,simprocAttr,acs,aco,Vm.aM,Vm.bN,Vm.bh,Vm.aX,Vm.bw,Vm.bb,acm,acS,acm,hl,hz,bG,bI,adq,adH,adI,adC,decide_false,decide_true,if_false,if_true,acK,acH,acz,g1,g1',g2,g2']
   | false=>
     by_cases k0:1≤li
     case neg=> simp only[yA,ae.enc,go_sem,simprocAttr,acs,aco,Vm.aM,Vm.bN,Vm.bh,Vm.aX,Vm.bw,Vm.bb,acm,acS,acm,hl,hz,bG,bI,adq,adH,adI,adC,decide_false,decide_true,if_false,if_true,acK,acH,acz,g1,g1',g2,g2',k0]
     by_cases k1:li≤32
     case neg=> simp only[yA,ae.enc,go_sem,simprocAttr,acs,aco,Vm.aM,Vm.bN,Vm.bh,Vm.aX,Vm.bw,Vm.bb,acm,acS,acm,hl,hz,bG,bI,adq,adH,adI,adC,decide_false,decide_true,if_false,if_true,acK,acH,acz,g1,g1',g2,g2',k0,k1]
     by_cases k2:0≤us
     case neg=> simp only[yA,ae.enc,go_sem,simprocAttr,acs,aco,Vm.aM,Vm.bN,Vm.bh,Vm.aX,Vm.bw,Vm.bb,acm,acS,acm,hl,hz,bG,bI,adq,adH,adI,adC,decide_false,decide_true,if_false,if_true,acK,acH,acz,g1,g1',g2,g2',k0,k1,k2]
     by_cases k3:us < li
     case neg=> simp only[yA,ae.enc,go_sem,simprocAttr,acs,aco,Vm.aM,Vm.bN,Vm.bh,Vm.aX,Vm.bw,Vm.bb,acm,acS,acm,hl,hz,bG,bI,adq,adH,adI,adC,decide_false,decide_true,if_false,if_true,acK,acH,acz,g1,g1',g2,g2',k0,k1,k2,k3]
     simp only[yA,ae.enc,go_sem,simprocAttr,acs,aco,Vm.aM,Vm.bN,Vm.bh,Vm.aX,Vm.bw,Vm.bb,acm,acS,acm,hl,hz,bG,bI,adq,adH,adI,adC,decide_false,decide_true,if_false,if_true,acK,acH,acz,g1,g1',g2,g2',k0,k1,k2,k3]
theorem Ez (b:Nat) (h:Hp) (n:Int):run fns pr b 112 [.s (.int .u64 n)] h=some (.s (.bool (decide (n≤1099511627776))),h):=by
 refine Vm.aQ (nt:=5) rfl Iq (by simp) ?_
 have ax:(0:Nat)=0:=rfl
 try simp only[Ip,go_sem,simprocAttr]
 repeat' (
   first | refine q5z ?_ ?_ | refine q3z ?_ ?_ | refine q4z ?_ ?_
   all_goals intro aj
   all_goals first | replace aj:=q2z aj | replace aj:=q1z aj | skip
   all_goals first | subst aj | replace ax:=And.intro aj ax
   all_goals try simp only[ax,Ip,go_sem,simprocAttr])
theorem tp (b:Nat) (h:Hp) (v:ae):run fns pr b 113 [v.enc] h=some (.s (.bool (aP v)),h):=by
 refine Vm.aQ (nt:=71) rfl Ir (by simp) ?_
 have hn:=fun b h=> Ez b h v.gen
 have ax:(0:Nat)=0:=rfl
 try simp only[Eg,ae.enc,hn,bG,bI,go_sem,simprocAttr]
 repeat' (
   first | refine q5z ?_ ?_ | refine q3z ?_ ?_ | refine q4z ?_ ?_
   all_goals intro aj
   all_goals first | replace aj:=q2z aj | replace aj:=q1z aj | skip
   all_goals first | subst aj | replace ax:=And.intro aj ax
   all_goals try simp only[ax,Eg,ae.enc,hn,bG,bI,go_sem,simprocAttr])
 all_goals simp_all [aP]
 all_goals omega
def ae.ek (f:Bool) (a:ae):V:= .st 56 [.arr 54 (a.iD.map aa),.s (.int .u64 a.gen),.arr 27 (a.mX.map aa),.al f none (a.cx.map aa),.s (.int .i64 a.cW),.s (.int .i64 a.used),.arr 27 (a.owner.map aa),.s (.bool a.gone),.s (.bool a.mY)]
theorem ae.lu (a:ae):a.enc=a.ek false:=rfl
def zeroV :ae:=⟨C4,0,bY,[],0,0,bY,false,false⟩
theorem EA (b:Nat) (h:Hp) (f g:Bool) (v w:ae):run fns pr b 126 [v.ek f,w.ek g] h=some (.s (.bool (decide (v=w))),h):=by
 refine Vm.aQ (nt:=66) rfl QN (by simp) ?_
 obtain ⟨a1,a2,a3,a4,a5,a6,a7,a8,a9⟩:=v
 obtain ⟨c1,c2,c3,c4,c5,c6,c7,c8,c9⟩:=w
 simp only[ae.mk.injEq]
 have he:=fun h0 f g l m=> yG h.length h0 (.al f none (l.map aa)) (.al g none (m.map aa)) l m (dp _ _ _) (dp _ _ _)
 have ax:(0:Nat)=0:=rfl
 try simp only[Mh,ae.ek,bI,he,go_sem,simprocAttr]
 repeat' (
   first | refine q5z ?_ ?_ | refine q3z ?_ ?_ | refine q4z ?_ ?_
   all_goals intro aj
   all_goals first | replace aj:=q2z aj | replace aj:=q1z aj | skip
   all_goals first | subst aj | replace ax:=And.intro aj ax
   all_goals try simp only[ax,Mh,ae.ek,bI,he,go_sem,simprocAttr])
 all_goals (clear he;simp_all [acD])
theorem dR (t:Nat):V.arr t [V.s (.int .u8 0),.s (.int .u8 0),.s (.int .u8 0),.s (.int .u8 0),.s (.int .u8 0),.s (.int .u8 0),.s (.int .u8 0),.s (.int .u8 0),.s (.int .u8 0),.s (.int .u8 0),.s (.int .u8 0),.s (.int .u8 0),.s (.int .u8 0),.s (.int .u8 0),.s (.int .u8 0),.s (.int .u8 0)]= .arr t (bY.map aa):=rfl
theorem gv (t:Nat):V.arr t [V.s (.int .u8 0),.s (.int .u8 0),.s (.int .u8 0),.s (.int .u8 0)]= .arr t (C4.map aa):=rfl
theorem eF (f:Bool) (v:ae):(v.ek f).ty=some 56:=rfl
theorem eG (f:Bool) (v:ae):(v.ek f).aA=true:=rfl
theorem aJ (v:ae):v.enc.ty=some 56:=rfl
theorem aK (v:ae):v.enc.aA=true:=rfl
theorem xl (n:Nat) (h:Hp) (v:ae):bA n h v.enc=some v.enc:=by simp only[ae.enc,go_sem]
theorem Mz (f:Bool):V.st 56 [.arr 54 (C4.map aa),.s (.int .u64 0),.arr 27 (bY.map aa),.al f none [],.s (.int .i64 0),.s (.int .i64 0),.arr 27 (bY.map aa),.s (.bool false),.s (.bool false)]=zeroV.ek f:=rfl
def abK (v:ae) (w:Bool):ae:=⟨v.iD,v.gen,bY,[],0,0,bY,true,w⟩
theorem gz (b:Nat) (h:Hp) (f:Bool) (v:ae):run fns pr b 84 [v.ek f] h=some (.s (.bool (aP v)),h):=by
 refine Vm.aQ (nt:=72) rfl Pd (by simp) ?_
 have ax:(0:Nat)=0:=rfl
 try simp only[yA,ae.ek,dR,bI,go_sem,simprocAttr]
 repeat' (
   first | refine q5z ?_ ?_ | refine q3z ?_ ?_ | refine q4z ?_ ?_
   all_goals intro aj
   all_goals first | replace aj:=q2z aj | replace aj:=q1z aj | skip
   all_goals first | subst aj | replace ax:=And.intro aj ax
   all_goals try simp only[ax,yA,ae.ek,dR,bI,go_sem,simprocAttr])
 all_goals try simp only[decide_eq_true_eq,decide_eq_false_iff_not] at *
 all_goals first
   | (simp_all [aP, -Int.not_le, -Int.not_lt, -Nat.not_le, -Nat.not_lt,acD];done)
   | (simp_all [aP, -Int.not_le, -Int.not_lt, -Nat.not_le, -Nat.not_lt,acD];omega)
   | (simp_all [aP,acD];done)
   | (simp_all [aP,acD];omega)
   | skip
def abL (v:ae):Int:=if v.gone=true∨aP v=false then 0 else v.cW - v.used
def abM (v:ae):ae:= {v with used:=v.used+1}
theorem q14z {v:ae} (h:aP v=true):v.cx.length≤64:=by
 simp[aP] at h
 have:=h.2
 split at this <;> simp_all
def tq (v:ae):UInt8:=if v.mY=true then 3 else if v.gone=true then 1 else 0
def aT (v:ae):Bs:=v.iD++(bu v.gen.toNat++([tq v,bt v.cW,bt v.used]++(v.mX++(v.owner++([bt v.cx.length]++v.cx)))))
theorem m8 (b:Nat) (h:Hp) (f:Bool) (v:ae) (hw:v.wf) (hs:v.cx.length≤100000):run fns pr b 85 [v.ek f] h=some (.al false none ((aT v).map aa),h):=by
 refine Vm.aQ (nt:=36) rfl WZ (by simp) ?_
 obtain ⟨w1,w2,w3,w4,w5,w6,w7,w8,w9⟩:=hw
 obtain ⟨id,ge,mX,se,li,us,ow,go,wi⟩:=v
 simp only at w1 w2 w3 w4 w5 w6 w7 hs
 obtain ⟨g,rfl⟩:∃g:Nat,ge=(g:Int):=⟨ge.toNat,by omega⟩
 have l1:(id.map aa).length=4:=by simp[w1]
 have l2:(mX.map aa).length=16:=by simp[w3]
 have l3:(ow.map aa).length=16:=by simp[w7]
 have n1:=fun H (hh:h.length≤H.length)=> eT h.length H g (by omega) hh
 have key:∀fl:UInt8,tq ⟨id,g,mX,se,li,us,ow,go,wi⟩=fl→∀H,H=h++[bc.cells (some 56) [V.st 56 [.arr 54 (id.map aa),.s (.int .u64 (g:Int)),.arr 27 (mX.map aa),.al f none (se.map aa),.s (.int .i64 li),.s (.int .i64 us),.arr 27 (ow.map aa),.s (.bool go),.s (.bool wi)]],.cells none ((bu g).map aa)]→
  run fns pr h.length 119 [.al true none [.ref h.length [0,0] none 0 4 1,.ref (h.length+1) [] none 0 8 8,.al true none [aa fl,aa (bt li),aa (bt us)],.ref h.length [0,2] none 0 16 1,.ref h.length [0,6] none 0 16 1,.al true none [aa (bt se.length)],.al f none (se.map aa)]] H
    =some (.al false none ((aT ⟨id,g,mX,se,li,us,ow,go,wi⟩).map aa),H):=by
   rintro fl m6 H rfl
   have:=vJ h.length (h++[bc.cells (some 56) [V.st 56 [.arr 54 (id.map aa),.s (.int .u64 (g:Int)),.arr 27 (mX.map aa),.al f none (se.map aa),.s (.int .i64 li),.s (.int .i64 us),.arr 27 (ow.map aa),.s (.bool go),.s (.bool wi)]],.cells none ((bu g).map aa)]) (.al true none [.ref h.length [0,0] none 0 4 1,.ref (h.length+1) [] none 0 8 8,.al true none [aa fl,aa (bt li),aa (bt us)],.ref h.length [0,2] none 0 16 1,.ref h.length [0,6] none 0 16 1,.al true none [aa (bt se.length)],.al f none (se.map aa)]) 7 _ [id,bu g,[fl,bt li,bt us],mX,ow,[bt se.length],se] (.inl ⟨true,rfl⟩) rfl (by omega) ⟨rfl,fun i v m hv hm=> by
     match i,hv,hm with
     | 0,hv,hm=> cases hv;cases hm;exact Rd.mk' (by simp only[cK,go_sem,simprocAttr,acs,aco,Vm.aM,Vm.bN,Vm.bh,Vm.aX,Vm.bw,Vm.bb,acm,acS,dP,ac2,ack (aec l1)]) (by simp[fj,w1])
     | 1,hv,hm=> cases hv;cases hm;exact BR.rd (di (yJ h _ _).2 (bx _))
     | 2,hv,hm=> cases hv;cases hm;exact BR.rd (dp _ true [fl,bt li,bt us])
     | 3,hv,hm=> cases hv;cases hm;exact Rd.mk' (by simp only[cK,go_sem,simprocAttr,acs,aco,Vm.aM,Vm.bN,Vm.bh,Vm.aX,Vm.bw,Vm.bb,acm,acS,dP,ac2,ack (aec l2)]) (by simp[fj,w3])
     | 4,hv,hm=> cases hv;cases hm;exact Rd.mk' (by simp only[cK,go_sem,simprocAttr,acs,aco,Vm.aM,Vm.bN,Vm.bh,Vm.aX,Vm.bw,Vm.bb,acm,acS,dP,ac2,ack (aec l3)]) (by simp[fj,w7])
     | 5,hv,hm=> cases hv;cases hm;exact BR.rd (dp _ true [bt se.length])
     | 6,hv,hm=> cases hv;cases hm;exact BR.rd (dp _ f se)
     | i+7,hv,hm=> simp at hv⟩ (by simp;omega)
   rw[this]
   simp only[aT,m6,aed,afz,acL,acC]
 have k1:=fun fl m6=> key fl m6 _ rfl
 have b3:V.s (.int .u8 3)=aa 3:=rfl
 have b1:V.s (.int .u8 1)=aa 1:=rfl
 have b0:V.s (.int .u8 0)=aa 0:=rfl
 cases wi with
 | true=>
   have k2:=k1 3 rfl
   simp only[B85,ae.ek,l1,l2,l3,n1,lz,nX,ia,jx,fV,k2,b3,go_sem,simprocAttr]
 | false=>
   cases go with
   | true=>
     have k2:=k1 1 rfl
     simp only[B85,ae.ek,l1,l2,l3,n1,lz,nX,ia,jx,fV,k2,b1,go_sem,simprocAttr]
   | false=>
     have k2:=k1 0 rfl
     rw[←b0] at k2
     simp only[B85,ae.ek,l1,l2,l3,n1,lz,nX,ia,jx,fV,k2,go_sem,simprocAttr]
theorem I8 (b:Nat) (h:Hp) (f:Bool) (v:ae) (hw:v.wf):run fns pr b 45 [v.ek f] h=some (if aP v=true then .bP [.al false none ((aT v).map aa),.s (.int .i64 0)] else .bP [.al false none [],.s (.int .i64 1)],h):=by
 refine Vm.aQ (nt:=9) rfl VG (by simp) ?_
 have hr:=fun h0=> gz h.length h0 f v
 cases c:aP v with
 | false=>
   rw[c] at hr
   simp only[B45,eF,eG,hr,go_sem,simprocAttr]
 | true=>
   rw[c] at hr
   have hp:=fun h0=> m8 h.length h0 f v hw (by have:=q14z c;omega)
   simp only[B45,eF,eG,hr,hp,go_sem,simprocAttr]
theorem MA (b:Nat) (h:Hp) (f:Bool) (v:ae):run fns pr b 97 [v.ek f] h=some (.s (.bool (decide (v=zeroV))),h):=by
 refine Vm.aQ (nt:=6) rfl Xl (by simp) ?_
 have he:=fun h0 f g v w=> EA h.length h0 f g v w
 simp only[B97,he,dR,gv,Mz,eF,eG,go_sem,simprocAttr]
theorem MB (b:Nat) (h:Hp) (xs:List V):run fns pr b 111 xs h=yF xs h:=by rw[pa fns pr rfl];rfl
def eA (l:List ae) (i:Nat):Bool:=aP (l.getD i zeroV)&&(i==0 || decide (Lib.compareBytes (l.getD (i - 1) zeroV).iD (l.getD i zeroV).iD < 0))
def bW (l:List ae):Bool:=decide (l.length≤4)&&(List.range l.length).all (eA l)
theorem nY {l:List ae} {i:Nat} (hi:i < l.length) (h:eA l i=false):bW l=false:=by
 unfold bW
 rw[aeD];right
 rw[List.all_eq_false]
 exact ⟨i,ado.2 hi,by simp[h]⟩
theorem EB (b:Nat) (h:Hp) (x:V) (l:List ae) (dE:SR h x (some 56) (l.map ae.enc)) (hw:∀v∈l,v.wf):run fns pr b 98 [x] h=some (.s (.bool (bW l)),h):=by
 refine Vm.aQ (nt:=35) rfl Xn (by simp) ?_
 have dQ:∀cf base H,aC cf base H .len [x]=some (.s (.int .i64 (l.length:Nat)),H):=fun cf base H=> by rw[dE.bU];simp
 by_cases c4:l.length≤4
 case neg=>
   have c':(4:Int)<((l.length:Nat):Int):=by omega
   have hf:bW l=false:=by simp[bW,c4]
   rw[hf]
   simp only[B98,Ij,Ii,dQ,c',acq,go_sem,↓reduceIte,Nat.reduceEqDiff,Nat.reduceBEq,Nat.reduceAdd,Nat.reduceSub,Nat.reduceLT,Nat.reduceLeDiff,Int.reduceLT,Int.reduceLE,Int.reduceEq,Int.reduceToNat]
 have c':¬(4:Int)<((l.length:Nat):Int):=by omega
 simp only[B98,Ij,Ii,dQ,c',go_sem,↓reduceIte,Nat.reduceEqDiff,Nat.reduceBEq,Nat.reduceAdd,Nat.reduceSub,Nat.reduceLT,Nat.reduceLeDiff,Int.reduceLT,Int.reduceLE,Int.reduceEq,Int.reduceToNat]
 refine aV (fun q e H=>∃j,q=l.length - j∧j≤l.length∧e 10= .s (.int .i64 (j:Nat))∧e 9= .s (.int .i64 (l.length:Nat))∧e 8=x∧e 0=x∧Fw [] h H∧(∀i,i < j→eA l i=true))
   (fun e H=> Fw [] h H∧bW l=true) l.length _ _ ⟨0,rfl,by omega,rfl,rfl,rfl,rfl,Fw.refl _ _,fun i hi=> by omega⟩ ?_ ?_
 ·rintro q e H ⟨j,rfl,hj,e10,e9,e8,e0,fw,bV⟩
  by_cases cd:j < l.length
  ·have cj:(j:Int)<((l.length:Nat):Int):=by omega
   have hjv:l[j]? =some (l.getD j zeroV):=by rw[List.getD,aci cd];rfl
   have i1:=fun cf base=>(dE.fw fw).ck (cf:=cf) (base:=base) (k:= .i64) (i:=j) (by simpa using cd)
   have i2:=fun cf base=>(dE.fw fw).fL (cf:=cf) (base:=base) (i:=j) (v:=(l.getD j zeroV).enc) (by rw[acv,hjv];rfl) rfl
   have hr:=fun h0=> oQ h.length h0 (l.getD j zeroV)
   have w3:IntKind.i64.wrap ((j:Int)+1)=((j+1:Nat):Int):=q17z (by omega)
   have hle:=fw.len
   have tk:∀X,(H++X).take h.length=h:=fun X=>(fw.trans (Fw.app [] H X)).take
   have fX:∀X,Fw [] h (H++X):=fun X=> fw.trans (Fw.app [] H X)
   cases iB:aP (l.getD j zeroV) with
   | false=>
     rw[iB] at hr
     rw[nY cd (by unfold eA;rw[iB];rfl)]
     simp only[e10,e9,e8,e0,cj,i1,i2,aJ,aK,hr,hle,tk,go_sem,↓reduceIte,Nat.reduceEqDiff,Nat.reduceBEq,Nat.reduceAdd,Nat.reduceSub,Nat.reduceLT,Nat.reduceLeDiff,Int.reduceLT,Int.reduceLE,Int.reduceEq,Int.reduceToNat]
   | true=>
     rw[iB] at hr
     by_cases j0:j=0
     ·subst j0
      have c0:¬(0:Int)<((0:Nat):Int):=by omega
      simp only[e10,e9,e8,e0,cj,i1,i2,aJ,aK,hr,w3,hle,c0,go_sem,↓reduceIte,Nat.reduceEqDiff,Nat.reduceBEq,Nat.reduceAdd,Nat.reduceSub,Nat.reduceLT,Nat.reduceLeDiff,Int.reduceLT,Int.reduceLE,Int.reduceEq,Int.reduceToNat]
      refine ⟨l.length - 1,by omega,1,rfl,by omega,rfl,fX _,fun i hi=> ?_⟩
      obtain rfl:i=0:=by omega
      unfold eA;rw[iB];rfl
     ·have c0:(0:Int)<((j:Nat):Int):=by omega
      have w4:IntKind.i64.wrap ((j:Int) - 1)=((j - 1:Nat):Int):=by rw[wrap_i64 (by omega) (by omega)];omega
      have hjp:l[j - 1]? =some (l.getD (j - 1) zeroV):=by rw[List.getD,aci (by omega)];rfl
      have wf1:=hw _ (acw hjp)
      have wf2:=hw _ (acw hjv)
      have p1:=fun cf base=>((dE.fw (fX [.cells (some 56) [(l.getD j zeroV).enc]]))).ck (cf:=cf) (base:=base) (k:= .i64) (i:=j - 1) (by simp;omega)
      generalize hv1:l.getD (j - 1) zeroV=v1 at hjp wf1
      generalize hv2:l.getD j zeroV=v2 at *
      obtain ⟨a1,a2,a3,a4,a5,a6,a7,a8,a9⟩:=v1
      obtain ⟨c1,c2,c3,c4,c5,c6,c7,c8,c9⟩:=v2
      have sX:=dE.fw (fX [.cells (some 56) [ae.enc ⟨c1,c2,c3,c4,c5,c6,c7,c8,c9⟩]])
      have kI:(l.map ae.enc)[j - 1]? =some (.st 56 [.arr 54 (a1.map aa),.s (.int .u64 a2),.arr 27 (a3.map aa),.al false none (a4.map aa),.s (.int .i64 a5),.s (.int .i64 a6),.arr 27 (a7.map aa),.s (.bool a8),.s (.bool a9)]):=by rw[acv,hjp];rfl
      have p2:=fun cf base=> sX.qO (cf:=cf) (base:=base) kI (f:=0) (by simp)
      have p3:=fun cf base=> sX.yN (cf:=cf) (base:=base) (g':=none) kI (f:=0) rfl
      have p4:=lC sX (g':=none) kI (f:=0) rfl
      have l2:(c1.map aa).length=4:=by simpa using wf2.iD
      simp only[e10,e9,e8,e0,cj,i1,i2,aJ,aK,hr,w3,hle,c0,w4,p1,p2,p3,go_sem,↓reduceIte,Nat.reduceEqDiff,Nat.reduceBEq,Nat.reduceAdd,Nat.reduceSub,Nat.reduceLT,Nat.reduceLeDiff,Int.reduceLT,Int.reduceLE,Int.reduceEq,Int.reduceToNat]
      simp only[ae.enc,acy] at p4 ⊢
      simp only[MB,I9,p4,cK,l2,dP,ack (aec l2),tu,go_sem,↓reduceIte,Nat.reduceEqDiff,Nat.reduceBEq,Nat.reduceAdd,Nat.reduceSub,Nat.reduceLT,Nat.reduceLeDiff,Int.reduceLT,Int.reduceLE,Int.reduceEq,Int.reduceToNat]
      by_cases cc:Lib.compareBytes a1 c1 < 0
      ·have cc':¬(0:Int)≤Lib.compareBytes a1 c1:=by omega
       simp only[cc',w3,e10,e9,e8,e0,go_sem,↓reduceIte,Nat.reduceEqDiff,Nat.reduceBEq,Nat.reduceAdd,Nat.reduceSub,Nat.reduceLT,Nat.reduceLeDiff,Int.reduceLT,Int.reduceLE,Int.reduceEq,Int.reduceToNat]
       refine ⟨l.length - (j+1),by omega,j+1,rfl,by omega,rfl,fX _,fun i hi=> ?_⟩
       by_cases AA:i=j
       ·subst AA
        unfold eA
        rw[hv1,hv2,iB]
        simp[cc]
       ·exact bV i (by omega)
      ·have cc':(0:Int)≤Lib.compareBytes a1 c1:=by omega
       have hno:eA l j=false:=by
         unfold eA
         rw[hv1,hv2,iB]
         simp[cc,j0]
       rw[nY cd hno]
       simp only[cc',tk,go_sem,↓reduceIte,Nat.reduceEqDiff,Nat.reduceBEq,Nat.reduceAdd,Nat.reduceSub,Nat.reduceLT,Nat.reduceLeDiff,Int.reduceLT,Int.reduceLE,Int.reduceEq,Int.reduceToNat]
  ·have cj:¬(j:Int)<((l.length:Nat):Int):=by omega
   have sx:j=l.length:=by omega
   subst sx
   simp only[e10,e9,e8,e0,cj,go_sem,↓reduceIte,Nat.reduceEqDiff,Nat.reduceBEq,Nat.reduceAdd,Nat.reduceSub,Nat.reduceLT,Nat.reduceLeDiff,Int.reduceLT,Int.reduceLE,Int.reduceEq,Int.reduceToNat]
   refine ⟨fw,?_⟩
   unfold bW
   rw[decide_eq_true c4,adq,acJ]
   exact fun i hi=> bV i (ado.1 hi)
 ·rintro e H ⟨fw,hf⟩
  rw[hf]
  have fk:=fw.take
  simp only[fk,go_sem,↓reduceIte,Nat.reduceEqDiff,Nat.reduceBEq,Nat.reduceAdd,Nat.reduceSub,Nat.reduceLT,Nat.reduceLeDiff,Int.reduceLT,Int.reduceLE,Int.reduceEq,Int.reduceToNat]
def ib (r:av):Bool:=decide (1≤r.au)&& decide (r.au≤1099511627776)&& decide (0≤r.aw)&& decide (r.aw < 16)&& decide (r.aq=zeroV)
def aS (r:av):Bool:=
 if r.kind=1 then aP r.aq && decide (r.aw=0)&& decide (r.cg=0)&& decide (r.au=0)&& decide (r.ag.length=0)
 else if r.kind=2 then ib r && decide (0≤r.cg)&& decide (r.cg < 8)&& decide (r.ag.length=0)
 else if r.kind=3 then ib r && decide (r.cg=0)&& bW r.ag
 else if r.kind=4 then ib r && decide (r.cg=0)&& decide (r.ag.length=0) else false
theorem mF (b:Nat) (h:Hp) (f:Bool) (x:V) (r:av) (dE:SR h x (some 56) (r.ag.map ae.enc)) (hw:∀v∈r.ag,v.wf):run fns pr b 64 [.st 59 [.s (.int .i64 r.kind),.s (.int .i64 r.aw),.s (.int .i64 r.cg),.s (.int .u64 r.au),r.aq.ek f,x]] h=some (.s (.bool (aS r)),h):=by
 refine Vm.aQ (nt:=101) rfl Wj (by simp) ?_
 obtain ⟨kind,aw,cg,au,aq,ag⟩:=r
 simp only at dE hw ⊢
 have h1:=fun h0=> MA h.length h0 f aq
 have h2:=fun h0=> gz h.length h0 f aq
 have h3:∀B,run fns pr h.length 98 [x] (h++[B])=some (.s (.bool (bW ag)),h++[B]):=fun B=> EB h.length _ x ag (dE.fw (Fw.app [] h _)) hw
 have dQ:∀cf base H,aC cf base H .len [x]=some (.s (.int .i64 (ag.length:Nat)),H):=fun cf base H=> by rw[dE.bU];simp
 have Ew:(((ag.length:Nat):Int)=0)=(ag.length=0):=propext (by omega)
 have dw:x.ty=none:=by rcases dE with ⟨f,rfl⟩ | ⟨_,_,_,_,rfl,_⟩<;> rfl
 have jX:x.aA=true:=by rcases dE with ⟨f,rfl⟩ | ⟨_,_,_,_,rfl,_⟩<;> rfl
 have ax:(0:Nat)=0:=rfl
 try simp only[B64,h1,h2,h3,dQ,Ew,eF,eG,dw,jX,go_sem,simprocAttr]
 repeat' (
   first | refine q5z ?_ ?_ | refine q3z ?_ ?_ | refine q4z ?_ ?_
   all_goals intro aj
   all_goals first | replace aj:=q2z aj | replace aj:=q1z aj | skip
   all_goals first | subst aj | replace ax:=And.intro aj ax
   all_goals try simp only[ax,B64,h1,h2,h3,dQ,Ew,eF,eG,dw,jX,go_sem,simprocAttr])
 all_goals clear h1 h2 h3 dQ
 all_goals try simp only[decide_eq_true_eq,decide_eq_false_iff_not] at *
 all_goals first
   | (simp_all [aS,ib, -Int.not_le, -Int.not_lt, -Nat.not_le, -Nat.not_lt,acD];done)
   | (simp_all [aS,ib, -Int.not_le, -Int.not_lt, -Nat.not_le, -Nat.not_lt,acD];omega)
   | (simp_all [aS,ib,acD];done)
   | (simp_all [aS,ib,acD];omega)
   | skip
theorem m9 (b:Nat) (h:Hp) (r:av) (hw:∀v∈r.ag,v.wf):run fns pr b 64 [r.enc] h=some (.s (.bool (aS r)),h):=by
 have:=mF b h false (.al false (some 56) (r.ag.map ae.enc)) r (.inl ⟨false,rfl⟩) hw
 rw[←ae.lu] at this
 exact this
def na (r:av):Bs:=
 if r.kind=1 then bt r.kind::aT r.aq
 else if r.kind=2 then bt r.kind::bt r.aw::bt r.cg::bu r.au.toNat
 else if r.kind=3 then bt r.kind::bt r.aw::(bu r.au.toNat++(bt r.ag.length::r.ag.flatMap aT))
 else bt r.kind::bt r.aw::bu r.au.toNat
structure Rok (r:av):Prop where
 k:r.kind=1∨r.kind=2∨r.kind=3∨r.kind=4
theorem q33z {r:av} (h:aS r=true):r.kind=1∨r.kind=2∨r.kind=3∨r.kind=4:=by
 unfold aS at h
 split at h; · left;assumption
 split at h; · right;left;assumption
 split at h; · right;right;left;assumption
 split at h; · right;right;right;assumption
 cases h
theorem EC (b:Nat) (h:Hp) (r:av) (hw:r.wf) (hwv:∀v∈r.ag,v.wf):run fns pr b 68 [r.enc] h=some (if aS r=true then .bP [.al false none ((na r).map aa),.s (.int .i64 0)] else .bP [.al false none [],.s (.int .i64 1)],h):=by
 refine Vm.aQ (nt:=79) rfl Wr (by simp) ?_
 have jy:=fun h0=> m9 h.length h0 r hwv
 have dw:r.enc.ty=some 59:=rfl
 have jX:r.enc.aA=true:=rfl
 cases c:aS r with
 | false=>
   rw[c] at jy
   simp only[B68,HJ,jy,dw,jX,go_sem,simprocAttr]
 | true=>
   rw[c] at jy
   have hk:=q33z c
   simp only[B68,HJ,jy,dw,jX,go_sem,simprocAttr]
   obtain ⟨kind,aw,cg,au,aq,ag⟩:=r
   obtain ⟨w1,w2,w3,w4,w5⟩:=hw
   simp only at hk w4 w5 hwv
   obtain ⟨ep,rfl⟩:∃g:Nat,au=(g:Int):=⟨au.toNat,by omega⟩
   have N0:∀(A:bc) (x:UInt8) (X:Hp),jl h (h++A:: .cells none [aa x]::X) (.ref (h.length+1) [] none 0 1 1) [x]:=fun A x X=>⟨h.length+1,.inr ⟨rfl,by rw[acB (by omega)];simp⟩,by omega,Fw.app [] h _⟩
   have bl:∀(x:UInt8),(none:Option Nat)=(aa x).ty∧(aa x).aA=true:=fun x=>⟨rfl,rfl⟩
   rcases hk with rfl | rfl | rfl | rfl
   ·have c1:aP aq=true:=by
      simp only[aS,if_true,acn] at c
      exact c.1.1.1.1
    have hp:=fun h0=> m8 h.length h0 false aq w5 (by have:=q14z c1;omega)
    rw[←ae.lu] at hp
    obtain ⟨v1,H1,a1,N1⟩:=(N0 (.cells (some 59) [.st 59 [.s (.int .i64 1),.s (.int .i64 aw),.s (.int .i64 cg),.s (.int .u64 (ep:Int)),aq.enc,.al false (some 56) (ag.map fun z=> z.enc)]]) (bt 1) []).app (y:= .al false none ((aT aq).map aa)) (m:=aT aq) rfl (by simp[aT];have:=q14z c1;have:=w5.iD;have:=w5.mX;have:=w5.owner;omega)
    have dt:=N1.oy (n:=h.length) (acm _)
    have fk:=N1.fw.take
    simp only[av.enc,lz,aJ,aK,hp,a1,dt,fk,na,go_sem,simprocAttr]
   ·-- out
    have hA:∀X,(h++(.cells (some 59) [.st 59 [.s (.int .i64 2),.s (.int .i64 aw),.s (.int .i64 cg),.s (.int .u64 (ep:Int)),aq.enc,.al false (some 56) (ag.map fun z=> z.enc)]])::X)[h.length]? =some (.cells (some 59) [.st 59 [.s (.int .i64 2),.s (.int .i64 aw),.s (.int .i64 cg),.s (.int .u64 (ep:Int)),aq.enc,.al false (some 56) (ag.map fun z=> z.enc)]]):=fun X=> by simp
    have f1:Fw [] (h++[(.cells (some 59) [.st 59 [.s (.int .i64 2),.s (.int .i64 aw),.s (.int .i64 cg),.s (.int .u64 (ep:Int)),aq.enc,.al false (some 56) (ag.map fun z=> z.enc)]])]) (h++(.cells (some 59) [.st 59 [.s (.int .i64 2),.s (.int .i64 aw),.s (.int .i64 cg),.s (.int .u64 (ep:Int)),aq.enc,.al false (some 56) (ag.map fun z=> z.enc)]]):: .cells none [aa (bt 2)]::[.cells none [aa (bt aw),aa (bt cg)]]):=by
      have:=Fw.app [] (h++[(.cells (some 59) [.st 59 [.s (.int .i64 2),.s (.int .i64 aw),.s (.int .i64 cg),.s (.int .u64 (ep:Int)),aq.enc,.al false (some 56) (ag.map fun z=> z.enc)]])]) [.cells none [aa (bt 2)],.cells none [aa (bt aw),aa (bt cg)]]
      simpa using this
    have M0:jl (h++[(.cells (some 59) [.st 59 [.s (.int .i64 2),.s (.int .i64 aw),.s (.int .i64 cg),.s (.int .u64 (ep:Int)),aq.enc,.al false (some 56) (ag.map fun z=> z.enc)]])]) (h++(.cells (some 59) [.st 59 [.s (.int .i64 2),.s (.int .i64 aw),.s (.int .i64 cg),.s (.int .u64 (ep:Int)),aq.enc,.al false (some 56) (ag.map fun z=> z.enc)]]):: .cells none [aa (bt 2)]::[.cells none [aa (bt aw),aa (bt cg)]]) (.ref (h.length+1) [] none 0 1 1) [bt 2]:=⟨h.length+1,.inr ⟨rfl,by rw[acB (by omega)];simp⟩,by simp,f1⟩
    obtain ⟨v1,H1,a1,N1⟩:=M0.app (y:= .ref (h.length+2) [] none 0 2 2) (m:=[bt aw,bt cg]) (BR.src (di (l:=[bt aw,bt cg]) (by rw[acB (by omega)];simp) rfl)) (by simp)
    have vf:h.length≤H1.length:=by have:=N1.fw.len;simp at this;omega
    have n1:=eT h.length H1 ep (by omega) vf
    have g1:H1[h.length]? =some (.cells (some 59) [.st 59 [.s (.int .i64 2),.s (.int .i64 aw),.s (.int .i64 cg),.s (.int .u64 (ep:Int)),aq.enc,.al false (some 56) (ag.map fun z=> z.enc)]]):=N1.fw.db _ _ (by simp) (by simp)
    have g2:∀X,(H1++X)[h.length]? =some (.cells (some 59) [.st 59 [.s (.int .i64 2),.s (.int .i64 aw),.s (.int .i64 cg),.s (.int .u64 (ep:Int)),aq.enc,.al false (some 56) (ag.map fun z=> z.enc)]]):=fun X=> q10z g1 X
    obtain ⟨v2,H2,a2,N2⟩:=(N1.mono (Fw.app [] H1 [.cells none ((bu ep).map aa)])).app (y:= .ref H1.length [] none 0 8 8) (m:=bu ep) (BR.src (di (by simp) (bx _))) (by simp)
    have f0:Fw [] h (h++[(.cells (some 59) [.st 59 [.s (.int .i64 2),.s (.int .i64 aw),.s (.int .i64 cg),.s (.int .u64 (ep:Int)),aq.enc,.al false (some 56) (ag.map fun z=> z.enc)]])]):=Fw.app [] h _
    have dt:=N2.oy (n:=h.length) (by simp)
    have fk:=(f0.trans N2.fw).take
    simp only[av.enc,lz,aJ,aK,bl,a1,n1,g1,g2,a2,dt,fk,na,go_sem,simprocAttr]
   ·-- in
    have cr:bW ag=true:=by
      simp[aS] at c
      exact c.2
    have abN:ag.length≤4:=by
      simp[bW] at cr
      exact cr.1
    have f0:Fw [] h (h++[(.cells (some 59) [.st 59 [.s (.int .i64 3),.s (.int .i64 aw),.s (.int .i64 cg),.s (.int .u64 (ep:Int)),aq.enc,.al false (some 56) (ag.map fun z=> z.enc)]])]):=Fw.app [] h _
    have M0:jl (h++[(.cells (some 59) [.st 59 [.s (.int .i64 3),.s (.int .i64 aw),.s (.int .i64 cg),.s (.int .u64 (ep:Int)),aq.enc,.al false (some 56) (ag.map fun z=> z.enc)]])]) (h++[(.cells (some 59) [.st 59 [.s (.int .i64 3),.s (.int .i64 aw),.s (.int .i64 cg),.s (.int .u64 (ep:Int)),aq.enc,.al false (some 56) (ag.map fun z=> z.enc)]]),.cells none [aa (bt 3)]]) (.ref (h.length+1) [] none 0 1 1) [bt 3]:=⟨h.length+1,.inr ⟨rfl,by rw[acB (by omega)];simp⟩,by simp,by
      have:=Fw.app [] (h++[(.cells (some 59) [.st 59 [.s (.int .i64 3),.s (.int .i64 aw),.s (.int .i64 cg),.s (.int .u64 (ep:Int)),aq.enc,.al false (some 56) (ag.map fun z=> z.enc)]])]) [.cells none [aa (bt 3)]]
      simpa using this⟩
    obtain ⟨v1,H1,a1,N1⟩:=M0.app (y:= .al true none [aa (bt aw)]) (m:=[bt aw]) rfl (by simp)
    have vf:h.length≤H1.length:=by have:=N1.fw.len;simp at this;omega
    have n1:=eT h.length H1 ep (by omega) vf
    have g1:H1[h.length]? =some (.cells (some 59) [.st 59 [.s (.int .i64 3),.s (.int .i64 aw),.s (.int .i64 cg),.s (.int .u64 (ep:Int)),aq.enc,.al false (some 56) (ag.map fun z=> z.enc)]]):=N1.fw.db _ _ (by simp) (by simp)
    have g2:∀X,(H1++X)[h.length]? =some (.cells (some 59) [.st 59 [.s (.int .i64 3),.s (.int .i64 aw),.s (.int .i64 cg),.s (.int .u64 (ep:Int)),aq.enc,.al false (some 56) (ag.map fun z=> z.enc)]]):=fun X=> q10z g1 X
    obtain ⟨v2,H2,a2,N2⟩:=(N1.mono (Fw.app [] H1 [.cells none ((bu ep).map aa)])).app (y:= .ref H1.length [] none 0 8 8) (m:=bu ep) (BR.src (di (by simp) (bx _))) (by simp)
    have g3:H2[h.length]? =some (.cells (some 59) [.st 59 [.s (.int .i64 3),.s (.int .i64 aw),.s (.int .i64 cg),.s (.int .u64 (ep:Int)),aq.enc,.al false (some 56) (ag.map fun z=> z.enc)]]):=N2.fw.db _ _ (by simp) (by simp)
    obtain ⟨v3,H3,a3,N3⟩:=N2.app (y:= .al true none [aa (bt ag.length)]) (m:=[bt ag.length]) rfl (by simp)
    have g4:H3[h.length]? =some (.cells (some 59) [.st 59 [.s (.int .i64 3),.s (.int .i64 aw),.s (.int .i64 cg),.s (.int .u64 (ep:Int)),aq.enc,.al false (some 56) (ag.map fun z=> z.enc)]]):=N3.fw.db _ _ (by simp) (by simp)
    have dQ:∀cf base H,aC cf base H .len [.al false (some 56) (ag.map fun z=> z.enc)]=some (.s (.int .i64 (ag.length:Nat)),H):=fun cf base H=> by rw[nb];simp
    simp only[av.enc,lz,aJ,aK,bl,a1,n1,g1,g2,a2,g3,a3,g4,dQ,go_sem,simprocAttr]
    have dE:SR h (.al false (some 56) (ag.map fun z=> z.enc)) (some 56) (ag.map fun z=> z.enc):= .inl ⟨false,rfl⟩
    have ED:∀v∈ag,(aT v).length≤200:=fun v hv=> by
      have iB:aP v=true:=by
        obtain ⟨i,hi,rfl⟩:=List.mem_iff_getElem.1 hv
        have:=(Bool.and_eq_true_iff.1 cr).2
        rw[acJ] at this
        have:=this i (ado.2 hi)
        unfold eA at this
        rw[List.getD,aci hi] at this
        exact (Bool.and_eq_true_iff.1 this).1
      have h1:=q14z iB
      obtain ⟨w1,w2,w3,w4,w5,w6,w7,w8,w9⟩:=hwv v hv
      simp[aT];omega
    have m6:∀j,j≤ag.length→((ag.take j).flatMap aT).length≤200 * j:=fun j=> by
      induction j with
      | zero=> intro _;simp
      | succ j ih=>
        intro hj
        rw[acT (by omega),aei,aco]
        have:=ih (by omega)
        have:=ED ag[j] (ac3 _)
        simp only[aeJ,afA,acL];omega
    generalize AB:[bt 3]++[bt aw]++bu ep++[bt ag.length]=base0 at N3
    have hb0l:base0.length=11:=by rw[←AB];simp
    refine aV (fun q e H=>∃j v,q=ag.length - j∧j≤ag.length∧e 69= .s (.int .i64 (j:Nat))∧e 68= .s (.int .i64 (ag.length:Nat))∧e 67= .al false (some 56) (ag.map fun z=> z.enc)∧e 4=v∧jl (h++[(.cells (some 59) [.st 59 [.s (.int .i64 3),.s (.int .i64 aw),.s (.int .i64 cg),.s (.int .u64 (ep:Int)),aq.enc,.al false (some 56) (ag.map fun z=> z.enc)]])]) H v (base0++(ag.take j).flatMap aT))
      (fun e H=>∃v,e 4=v∧jl (h++[(.cells (some 59) [.st 59 [.s (.int .i64 3),.s (.int .i64 aw),.s (.int .i64 cg),.s (.int .u64 (ep:Int)),aq.enc,.al false (some 56) (ag.map fun z=> z.enc)]])]) H v (base0++ag.flatMap aT)) ag.length _ _ ⟨0,v3,rfl,by omega,rfl,rfl,rfl,rfl,by simpa using N3⟩ ?_ ?_
    ·rintro q e H ⟨j,v,rfl,hj,e69,e68,e67,e4,N⟩
     by_cases cd:j < ag.length
     ·have cj:(j:Int)<((ag.length:Nat):Int):=by omega
      have hjv:ag[j]? =some ag[j]:=aci cd
      have fh:=f0.trans N.fw
      have i1:=fun cf base=>(dE.fw fh).ck (cf:=cf) (base:=base) (k:= .i64) (i:=j) (by simpa using cd)
      have i2:=fun cf base=>(dE.fw fh).fL (cf:=cf) (base:=base) (i:=j) (v:=ag[j].enc) (by rw[acv,hjv];rfl) rfl
      have hle:=fh.len
      have hm:=hwv _ (ac3 cd)
      have ax:=ED _ (ac3 cd)
      have hp:=fun h0=> m8 h.length h0 false ag[j] hm (by simp[aT] at ax;omega)
      rw[←ae.lu] at hp
      have hfj:=m6 j hj
      obtain ⟨v5,H5,a5,N5⟩:=(N.mono (Fw.app [] H [.cells (some 56) [ag[j].enc]])).app (y:= .al false none ((aT ag[j]).map aa)) (m:=aT ag[j]) rfl (by simp only[aco];omega)
      have iK:base0++(ag.take j).flatMap aT++aT ag[j]=base0++(ag.take (j+1)).flatMap aT:=by
        rw[acT cd,aei];simp
      rw[iK] at N5
      have w3:IntKind.i64.wrap ((j:Int)+1)=((j+1:Nat):Int):=q17z (by omega)
      simp only[e69,e68,e67,e4,cj,i1,i2,hle,aJ,aK,hp,a5,w3,go_sem,simprocAttr]
      exact ⟨ag.length - (j+1),by omega,j+1,v5,rfl,by omega,rfl,rfl,N5⟩
     ·have cj:¬(j:Int)<((ag.length:Nat):Int):=by omega
      have sx:j=ag.length:=by omega
      subst sx
      rw[ack (acm _)] at N
      simp only[e69,e68,e67,e4,cj,go_sem,simprocAttr]
      exact ⟨v,rfl,N⟩
    ·rintro e H ⟨v,e4,N⟩
     have dt:=N.oy (n:=h.length) (by simp)
     have fk:=(f0.trans N.fw).take
     rw[←AB] at dt
     simp only[e4,dt,fk,na,go_sem,simprocAttr]
   ·-- done
    have hA:∀X,(h++(.cells (some 59) [.st 59 [.s (.int .i64 4),.s (.int .i64 aw),.s (.int .i64 cg),.s (.int .u64 (ep:Int)),aq.enc,.al false (some 56) (ag.map fun z=> z.enc)]])::X)[h.length]? =some (.cells (some 59) [.st 59 [.s (.int .i64 4),.s (.int .i64 aw),.s (.int .i64 cg),.s (.int .u64 (ep:Int)),aq.enc,.al false (some 56) (ag.map fun z=> z.enc)]]):=fun X=> by simp
    have f1:Fw [] (h++[(.cells (some 59) [.st 59 [.s (.int .i64 4),.s (.int .i64 aw),.s (.int .i64 cg),.s (.int .u64 (ep:Int)),aq.enc,.al false (some 56) (ag.map fun z=> z.enc)]])]) (h++(.cells (some 59) [.st 59 [.s (.int .i64 4),.s (.int .i64 aw),.s (.int .i64 cg),.s (.int .u64 (ep:Int)),aq.enc,.al false (some 56) (ag.map fun z=> z.enc)]]):: .cells none [aa (bt 4)]::[.cells none [aa (bt aw)]]):=by
      have:=Fw.app [] (h++[(.cells (some 59) [.st 59 [.s (.int .i64 4),.s (.int .i64 aw),.s (.int .i64 cg),.s (.int .u64 (ep:Int)),aq.enc,.al false (some 56) (ag.map fun z=> z.enc)]])]) [.cells none [aa (bt 4)],.cells none [aa (bt aw)]]
      simpa using this
    have M0:jl (h++[(.cells (some 59) [.st 59 [.s (.int .i64 4),.s (.int .i64 aw),.s (.int .i64 cg),.s (.int .u64 (ep:Int)),aq.enc,.al false (some 56) (ag.map fun z=> z.enc)]])]) (h++(.cells (some 59) [.st 59 [.s (.int .i64 4),.s (.int .i64 aw),.s (.int .i64 cg),.s (.int .u64 (ep:Int)),aq.enc,.al false (some 56) (ag.map fun z=> z.enc)]]):: .cells none [aa (bt 4)]::[.cells none [aa (bt aw)]]) (.ref (h.length+1) [] none 0 1 1) [bt 4]:=⟨h.length+1,.inr ⟨rfl,by rw[acB (by omega)];simp⟩,by simp,f1⟩
    obtain ⟨v1,H1,a1,N1⟩:=M0.app (y:= .ref (h.length+2) [] none 0 1 1) (m:=[bt aw]) (BR.src (di (l:=[bt aw]) (by rw[acB (by omega)];simp) rfl)) (by simp)
    have vf:h.length≤H1.length:=by have:=N1.fw.len;simp at this;omega
    have n1:=eT h.length H1 ep (by omega) vf
    have g1:H1[h.length]? =some (.cells (some 59) [.st 59 [.s (.int .i64 4),.s (.int .i64 aw),.s (.int .i64 cg),.s (.int .u64 (ep:Int)),aq.enc,.al false (some 56) (ag.map fun z=> z.enc)]]):=N1.fw.db _ _ (by simp) (by simp)
    have g2:∀X,(H1++X)[h.length]? =some (.cells (some 59) [.st 59 [.s (.int .i64 4),.s (.int .i64 aw),.s (.int .i64 cg),.s (.int .u64 (ep:Int)),aq.enc,.al false (some 56) (ag.map fun z=> z.enc)]]):=fun X=> q10z g1 X
    obtain ⟨v2,H2,a2,N2⟩:=(N1.mono (Fw.app [] H1 [.cells none ((bu ep).map aa)])).app (y:= .ref H1.length [] none 0 8 8) (m:=bu ep) (BR.src (di (by simp) (bx _))) (by simp)
    have f0:Fw [] h (h++[(.cells (some 59) [.st 59 [.s (.int .i64 4),.s (.int .i64 aw),.s (.int .i64 cg),.s (.int .u64 (ep:Int)),aq.enc,.al false (some 56) (ag.map fun z=> z.enc)]])]):=Fw.app [] h _
    have dt:=N2.oy (n:=h.length) (by simp)
    have fk:=(f0.trans N2.fw).take
    simp only[av.enc,lz,aJ,aK,bl,a1,n1,g1,g2,a2,dt,fk,na,go_sem,simprocAttr]
def iT (f:Bool) (l:Bs) (bad:Bool):bc:= .cells (some 199) [.st 199 [.al f none (l.map aa),.s (.bool bad)]]
theorem RT (cf:CF) (base:Nat) (h:Hp) (f:Bool) (l:Bs) (k:IntKind) (n:Nat) (hn:n≤l.length):aC cf base h (.j2 none false true false) [.al f none (l.map aa),.s (.int k n)]=some (.al (f && n==l.length) none ((l.take n).map aa),h):=by
 simp[aC,gV,fj,aO,cX,dH,hn,aeX]
theorem RU (cf:CF) (base:Nat) (h:Hp) (f:Bool) (l:Bs) (k:IntKind) (n:Nat) (hn:n≤l.length):aC cf base h (.j2 none true false false) [.al f none (l.map aa),.s (.int k n)]=some (.al f none ((l.drop n).map aa),h):=by
 have:(List.drop n (List.map aa l)).take (l.length - n)=(l.drop n).map aa:=by
   rw[←List.map_drop,ack (by simp)]
 simp[aC,gV,fj,aO,cX,dH,hn,this]
def aF (n:Nat) (s:Bs×Bool):Bs×(Bs×Bool):=if n≤s.1.length then (s.1.take n,(s.1.drop n,s.2)) else (List.replicate n 0,([],true))
theorem q20z (n:Nat) (s:Bs×Bool):(aF n s).1.length=n:=by
 unfold aF
 split
 ·simp;omega
 ·simp
theorem EE (n:Nat):List.replicate n (V.s (.int .u8 0))=(List.replicate n (0:UInt8)).map aa:=by rw[afl];rfl
theorem eH (f:Bool) (g:Option Nat):∀l:Bs,(V.al f g (l.map aa)).ground=true
 | []=> rfl
 | b::l=> by
   have:=eH f g l
   simp only[V.ground] at this ⊢
   simp only[acx,V.ground.all,this];rfl
theorem RX (f:Bool) (g:Option Nat):(V.al f g []).ground=true:=rfl
theorem oD (x:Value):(V.s x).ground=true:=rfl
theorem pX (id n:Nat) (f bad:Bool) (l:Bs) (hn:n≤100000):
 ∃f',∀(b:Nat) (h:Hp) (hg:h[id]? =some (iT f l bad)),run fns pr b 146 [.ptr id [0] 1,.s (.int .i64 n)] h=some (.al false none ((aF n (l,bad)).1.map aa),h.set id (iT f' (aF n (l,bad)).2.1 (aF n (l,bad)).2.2)):=by
 unfold aF
 by_cases c:n≤l.length
 ·rw[if_pos c]
  refine ⟨f,fun b h hg=> ?_⟩
  have tk:∀b',(h.set id b').take h.length=h.set id b':=fun b'=> ack (by simp)
  refine Vm.aQ (nt:=37) rfl IH (by simp) ?_
  have c':¬((l.length:Nat):Int)<(n:Int):=by omega
  simp only[Mo,hg,iT,c',RT _ _ _ _ _ _ _ c,RU _ _ _ _ _ _ _ c,tk,eH,go_sem,simprocAttr]
 ·rw[if_neg c]
  refine ⟨true,fun b h hg=> ?_⟩
  have tk:∀b',(h.set id b').take h.length=h.set id b':=fun b'=> ack (by simp)
  refine Vm.aQ (nt:=37) rfl IH (by simp) ?_
  have c':((l.length:Nat):Int)<(n:Int):=by omega
  have Ej:¬n=0:=by omega
  have m1:(0≤(n:Int)∧(n:Int)≤16777216)=True:=by simp;omega
  have m2:((n:Int)=0)=False:=by simp;omega
  have hz:=EE n
  have tk2:∀X Y,(h.set id X++Y).take h.length=h.set id X:=fun X Y=> by rw[acV (by simp),ack (by simp)]
  have oC:(List.replicate n (0:UInt8)).length=n:=by simp
  have nW:=tv h.length (List.replicate n (0:UInt8))
  rw[oC] at nW
  simp only[Mo,hg,iT,c',tk,RX,oD,q9z hg,m1,m2,hz,oC,nW,tk2,go_sem,simprocAttr]
def aI (l:Bs):Nat:=(l.getD 0 0).toNat
theorem kJ (id:Nat) (f bad:Bool) (l:Bs):
 ∃f',∀(b:Nat) (h:Hp) (hg:h[id]? =some (iT f l bad)),run fns pr b 140 [.ptr id [0] 1] h=some (.s (.int .i64 (aI (aF 1 (l,bad)).1:Nat)),h.set id (iT f' (aF 1 (l,bad)).2.1 (aF 1 (l,bad)).2.2)):=by
 obtain ⟨f',ht0⟩:=pX id 1 f bad l (by omega)
 refine ⟨f',fun b h hg=> ?_⟩
 have ht:=ht0 h.length h hg
 refine Vm.aQ (nt:=8) rfl Rg (by simp) ?_
 have hl:=q20z 1 (l,bad)
 generalize (aF 1 (l,bad)).1=m at ht hl
 match m,hl with
 | [x],_=>
   have tk:∀b',(h.set id b').take h.length=h.set id b':=fun b'=> ack (by simp)
   have hw:IntKind.i64.wrap (x.toNat:Int)=(x.toNat:Int):=wrap_i64 (by omega) (by have:=x.toNat_lt;omega)
   simp only[Re,show (V.s (.int .i64 1))=V.s (.int .i64 ((1:Nat):Int)) from rfl,ht,acx,acF,aa,hw,tk,aI,go_sem,simprocAttr]
theorem C5 (cf:CF) (base:Nat) (h:Hp) (t n:Nat) (g:Option Nat) (f:Bool) (es:List V) (h0:0 < n) (hn:n≤es.length):aC cf base h (.s2a t g n) [.al f g es]=some (.eb (.arr t (es.take n)),h):=by
 simp[aC,vN,rC,hn,h0]
theorem RY (id:Nat) (f bad:Bool) (l:Bs):
 ∃f',∀(b:Nat) (h:Hp) (hg:h[id]? =some (iT f l bad)),run fns pr b 147 [.ptr id [0] 1] h=some (.arr 54 ((aF 4 (l,bad)).1.map aa),h.set id (iT f' (aF 4 (l,bad)).2.1 (aF 4 (l,bad)).2.2)):=by
 obtain ⟨f',ht0⟩:=pX id 4 f bad l (by omega)
 refine ⟨f',fun b h hg=> ?_⟩
 have bR:=q6z hg
 generalize hG:h++[.cells (some 54) [z4 54]]=G
 have g0:G[h.length]? =some (.cells (some 54) [z4 54]):=by rw[←hG];simp
 have gi:G[id]? =some (iT f l bad):=by rw[←hG];exact q10z hg _
 have ht:=ht0 h.length G gi
 refine Vm.aQ (nt:=7) rfl Rx (by simp) ?_
 have hl:=q20z 4 (l,bad)
 generalize (aF 4 (l,bad)).1=m at ht hl ⊢
 generalize hR:iT f' (aF 4 (l,bad)).2.1 (aF 4 (l,bad)).2.2=R at ht ⊢
 have hm:(m.map aa).length=4:=by simp[hl]
 have hs:=C5 (run fns pr h.length) h.length (G.set id R) 54 4 none false (m.map aa) (by omega) (by omega)
 rw[ack (by omega)] at hs
 have g1:(G.set id R)[h.length]? =some (.cells (some 54) [z4 54]):=by rw[acp (by omega)];exact g0
 have tk:∀X,((G.set id R).set h.length X).take h.length=h.set id R:=fun X=> by
   rw[←hG,aeM _ _ bR,ac9 _ _ (by simp)]
   rw[acV (by simp),ack (by simp)]
 simp only[Rv,hG,show (V.s (.int .i64 4))=V.s (.int .i64 ((4:Nat):Int)) from rfl,ht,hs,g1,tk,q9z g1,eg,go_sem,simprocAttr]
theorem Ja (id:Nat) (f bad:Bool) (l:Bs):
 ∃f',∀(b:Nat) (h:Hp) (hg:h[id]? =some (iT f l bad)),run fns pr b 148 [.ptr id [0] 1] h=some (.arr 27 ((aF 16 (l,bad)).1.map aa),h.set id (iT f' (aF 16 (l,bad)).2.1 (aF 16 (l,bad)).2.2)):=by
 obtain ⟨f',ht0⟩:=pX id 16 f bad l (by omega)
 refine ⟨f',fun b h hg=> ?_⟩
 have bR:=q6z hg
 generalize hG:h++[.cells (some 27) [bC 27]]=G
 have g0:G[h.length]? =some (.cells (some 27) [bC 27]):=by rw[←hG];simp
 have gi:G[id]? =some (iT f l bad):=by rw[←hG];exact q10z hg _
 have ht:=ht0 h.length G gi
 refine Vm.aQ (nt:=7) rfl RA (by simp) ?_
 have hl:=q20z 16 (l,bad)
 generalize (aF 16 (l,bad)).1=m at ht hl ⊢
 generalize hR:iT f' (aF 16 (l,bad)).2.1 (aF 16 (l,bad)).2.2=R at ht ⊢
 have hm:(m.map aa).length=16:=by simp[hl]
 have hs:=C5 (run fns pr h.length) h.length (G.set id R) 27 16 none false (m.map aa) (by omega) (by omega)
 rw[ack (by omega)] at hs
 have g1:(G.set id R)[h.length]? =some (.cells (some 27) [bC 27]):=by rw[acp (by omega)];exact g0
 have tk:∀X,((G.set id R).set h.length X).take h.length=h.set id R:=fun X=> by
   rw[←hG,aeM _ _ bR,ac9 _ _ (by simp)]
   rw[acV (by simp),ack (by simp)]
 simp only[Ry,hG,show (V.s (.int .i64 16))=V.s (.int .i64 ((16:Nat):Int)) from rfl,ht,hs,g1,tk,q9z g1,eg,go_sem,simprocAttr]
def j9 (l:Bs):Nat:=l.foldl (fun a x=> a * 256+x.toNat) 0
theorem tx {m:Bs} {j:Nat} (hj:j < m.length):j9 (m.take (j+1))=j9 (m.take j)* 256+(m.getD j 0).toNat:=by
 unfold j9
 rw[aee,List.foldl_append,List.getD,aci hj]
 rfl
theorem tz (m:Bs):∀j,j≤m.length→j9 (m.take j)< 256 ^ j
 | 0,_=> by simp[j9]
 | j+1,hj=> by
   rw[tx (by omega),ae5]
   have:=tz m j (by omega)
   have:=(m.getD j 0).toNat_lt
   omega
theorem pd {n:Nat} (h:n < 18446744073709551616):IntKind.u64.wrap (n:Int)=(n:Int):=wrap_u64 (by omega) (by omega)
theorem Pl {a:Nat} (h:a * 256 < 18446744073709551616):xf .u64 (a:Int) 8=((a * 256:Nat):Int):=by
 have e:xf .u64 (a:Int) 8=IntKind.u64.wrap ((a:Int)* 256):=rfl
 rw[e,wrap_u64 (by omega) (by omega)];omega
theorem Yh {a y:Nat} (h:a * 256+y < 18446744073709551616) (hy:y < 256):orI .u64 ((a * 256:Nat):Int) (y:Int)=((a * 256+y:Nat):Int):=by
 have e:orI .u64 ((a * 256:Nat):Int) (y:Int)=IntKind.u64.wrap (((BitVec.ofInt 64 ((a * 256:Nat):Int) ||| BitVec.ofInt 64 (y:Int)).toNat:Nat):Int):=rfl
 rw[e,jv,jv,BitVec.toNat_or,ad3,ad3,aeu (show a * 256 < 2 ^ 64 by omega),aeu (show y < 2 ^ 64 by omega),show a * 256=a * 2 ^ 8 from rfl,AX (k:=8) (by omega)]
 exact pd h
theorem xm (id:Nat) (f bad:Bool) (l:Bs):
 ∃f',∀(b:Nat) (h:Hp) (hg:h[id]? =some (iT f l bad)),run fns pr b 142 [.ptr id [0] 1] h=some (.s (.int .u64 (j9 (aF 8 (l,bad)).1:Nat)),h.set id (iT f' (aF 8 (l,bad)).2.1 (aF 8 (l,bad)).2.2)):=by
 obtain ⟨f',ht0⟩:=pX id 8 f bad l (by omega)
 refine ⟨f',fun b h hg=> ?_⟩
 have ht:=ht0 h.length h hg
 refine Vm.aQ (nt:=20) rfl Rm (by simp) ?_
 have hl:=q20z 8 (l,bad)
 generalize (aF 8 (l,bad)).1=m at ht hl ⊢
 generalize hR:h.set id (iT f' (aF 8 (l,bad)).2.1 (aF 8 (l,bad)).2.2)=R at ht ⊢
 have tk:R.take h.length=R:=ack (by rw[←hR];simp)
 have hm:(m.map aa).length=8:=by simp[hl]
 have tk2:m.take 8=m:=ack (by omega)
 have dE:∀H,SR H (.al false none (m.map aa)) none (m.map aa):=fun H=> .inl ⟨false,rfl⟩
 generalize hx:V.al false none (m.map aa)=x at ht dE
 have dQ:∀cf base h,aC cf base h .len [x]=some (.s (.int .i64 8),h):=fun cf base h=> by rw[(dE h).bU];simp[hl]
 simp only[Rk,IF,IE,show (V.s (.int .i64 8))=V.s (.int .i64 ((8:Nat):Int)) from rfl,ht,dQ,go_sem,simprocAttr]
 refine aV (fun q e H=>∃j,q=8 - j∧j≤8∧e 9= .s (.int .i64 (j:Nat))∧e 8= .s (.int .i64 8)∧e 7=x∧e 3= .s (.int .u64 (j9 (m.take j):Nat))∧H=R)
   (fun e H=> e 3= .s (.int .u64 (j9 m:Nat))∧H=R) 8 _ _ ?_ ?_ ?_
 ·exact ⟨0,rfl,by omega,rfl,rfl,rfl,rfl,rfl⟩
 ·rintro q e H ⟨j,rfl,hj,e9,e8,e7,e3,rfl⟩
  by_cases cd:j < 8
  ·have cj:(j:Int)< 8:=by omega
   have i1:=fun cf base=>(dE H).ck (cf:=cf) (base:=base) (k:= .i64) (i:=j) (by simp;omega)
   have i2:=fun cf base=>(dE H).fL (cf:=cf) (base:=base) (i:=j) (v:=aa (m.getD j 0)) (by rw[acv,List.getD,aci (by omega)];rfl) rfl
   have w3:IntKind.i64.wrap ((j:Int)+1)=((j+1:Nat):Int):=q17z (by omega)
   have hb:=tz m j (by omega)
   have hy:=(m.getD j 0).toNat_lt
   have hp:256 ^ j * 256≤18446744073709551616:=by rw[←Nat.pow_succ];exact Nat.pow_le_pow_right (by omega) (show j+1≤8 by omega)
   have s1:=Pl (a:=j9 (m.take j)) (by omega)
   have s2:=Yh (a:=j9 (m.take j)) (y:=(m.getD j 0).toNat) (by omega) hy
   have hw:=pd (n:=(m.getD j 0).toNat) (by omega)
   have h1:∀cf base h,aC cf base h (.bin .num .shl) [.s (.int .u64 (j9 (m.take j):Nat)),.s (.int .u64 8)]=some (.s (.int .u64 ((j9 (m.take j)* 256:Nat):Int)),h):=fun cf base h=> by rw[←s1];exact vE cf base h .u64 .u64 _ 8 (by omega)
   simp only[e9,e8,e7,e3,cj,i1,i2,aa,w3,h1,hw,s2,go_sem,simprocAttr]
   refine ⟨8 - (j+1),by omega,j+1,rfl,by omega,rfl,?_⟩
   rw[tx (by omega)]
  ·have cj:¬(j:Int)< 8:=by omega
   obtain rfl:j=8:=by omega
   simp only[e9,e8,e7,e3,cj,tk2,go_sem,simprocAttr]
 ·rintro e H ⟨e3,rfl⟩
  simp only[e3,tk,go_sem,simprocAttr]
theorem RZ (f:Bool) (h:Hp) (l:Bs):Rd h (.al f none (l.map aa)) l:=⟨fun _ _=> rfl,by simp[fj]⟩
def mH (s:Bs×Bool):Bs×(Bs×Bool):=aF (aI (aF 1 s).1) (aF 1 s).2
theorem pY (l:Bs):aI l < 256:=(l.getD 0 0).toNat_lt
theorem MC (id:Nat) (f bad:Bool) (l:Bs):
 ∃f',∀(b:Nat) (h:Hp) (hg:h[id]? =some (iT f l bad)),run fns pr b 149 [.ptr id [0] 1] h=some (.al false none ((mH (l,bad)).1.map aa),h.set id (iT f' (mH (l,bad)).2.1 (mH (l,bad)).2.2)):=by
 obtain ⟨f1,h1⟩:=kJ id f bad l
 have hb:=pY (aF 1 (l,bad)).1
 unfold mH
 generalize aF 1 (l,bad)=s1 at h1 hb ⊢
 obtain ⟨o,l1,b1⟩:=s1
 simp only at h1 hb ⊢
 obtain ⟨f',h2⟩:=pX id (aI o) f1 b1 l1 (by omega)
 have hl:=q20z (aI o) (l1,b1)
 generalize aF (aI o) (l1,b1)=s2 at h2 hl ⊢
 obtain ⟨m,l2,b2⟩:=s2
 simp only at h2 hl ⊢
 refine ⟨f',fun b h hg=> ?_⟩
 replace h1:=h1 h.length h hg
 replace h2:=h2 h.length (h.set id (iT f1 l1 b1)) (q9z hg)
 rw[adf] at h2
 obtain ⟨v,H,hc,hN⟩:=vG (RZ false (h.set id (iT f' l2 b2)) m) (by omega)
 have hz:=hN.oy (n:=h.length) (by simp)
 have tk:H.take h.length=h.set id (iT f' l2 b2):=by have:=hN.fw.take;simpa using this
 refine Vm.aQ (nt:=8) rfl RE (by simp) ?_
 simp only[RB,h1,h2,hc,hz,tk,go_sem,simprocAttr]
theorem MD (b:Nat) (h:Hp) (id:Nat) (f bad:Bool) (l:Bs) (hg:h[id]? =some (iT f l bad)):
 run fns pr b 143 [.ptr id [0] 1] h=some (.s (.bool (bad || decide (l≠[]))),h):=by
 refine Vm.aQ (nt:=15) rfl Ro (by simp) ?_
 have tk:h.take h.length=h:=ack (acm _)
 cases bad with
 | true=>
   simp only[IG,hg,iT,tk,go_sem,simprocAttr]
 | false=>
   cases l with
   | nil=>
     simp only[IG,hg,iT,tk,acF,go_sem,simprocAttr]
     simp
   | cons x l=>
     have c:(0:Int)<(((x::l).length:Nat):Int):=by simp
     simp only[IG,hg,iT,tk,c,go_sem,simprocAttr]
     simp
def nc (n:Nat):Bool:= !decide (n=0)&& !decide (n=1)&& !decide (n=3)
def cL (s:Bs×Bool):ae×(Bs×Bool):=
 match aF 4 s with
 | (i,s1)=> match aF 8 s1 with
   | (g,s2)=> match aF 1 s2 with
     | (fl,s3)=> match aF 1 (s3.1,s3.2 || nc (aI fl)) with
       | (li,s4)=> match aF 1 s4 with
         | (us,s5)=> match aF 16 s5 with
           | (p,s6)=> match aF 16 s6 with
             | (o,s7)=> match mH s7 with
               | (t,s8)=>(⟨i,(j9 g:Nat),p,t,(aI li:Nat),(aI us:Nat),o,!decide (aI fl=0),decide (aI fl=3)⟩,(s8.1,s8.2 || !aP ⟨i,(j9 g:Nat),p,t,(aI li:Nat),(aI us:Nat),o,!decide (aI fl=0),decide (aI fl=3)⟩))
theorem lg {h:Hp} {id:Nat} {R:bc} (hg:h[id]? =some R):h.set id R=h:=adl fun k=> by
 rw[ac7]
 split
 ·rename_i e;subst e;rw[hg];simp[q6z hg]
 ·rfl
theorem qP (id:Nat) (f bad:Bool) (l:Bs):
 ∃f',∀(b:Nat) (h:Hp) (hg:h[id]? =some (iT f l bad)),run fns pr b 141 [.ptr id [0] 1] h=some ((cL (l,bad)).1.enc,h.set id (iT f' (cL (l,bad)).2.1 (cL (l,bad)).2.2)):=by
 unfold cL
 obtain ⟨f1,c1⟩:=RY id f bad l
 have n1:=q20z 4 (l,bad)
 generalize aF 4 (l,bad)=s1 at c1 n1 ⊢
 obtain ⟨i,l1,b1⟩:=s1
 simp only at c1 n1 ⊢
 obtain ⟨f2,c2⟩:=xm id f1 b1 l1
 have n2:=q20z 8 (l1,b1)
 generalize aF 8 (l1,b1)=s2 at c2 n2 ⊢
 obtain ⟨g,l2,b2⟩:=s2
 simp only at c2 n2 ⊢
 obtain ⟨f3,c3⟩:=kJ id f2 b2 l2
 have n3:=q20z 1 (l2,b2)
 generalize aF 1 (l2,b2)=s3 at c3 n3 ⊢
 obtain ⟨fl,l3,b3⟩:=s3
 simp only at c3 n3 ⊢
 generalize hw:(b3 || nc (aI fl))=w
 obtain ⟨f4,c4⟩:=kJ id f3 w l3
 have n4:=q20z 1 (l3,w)
 generalize aF 1 (l3,w)=s4 at c4 n4 ⊢
 obtain ⟨li,l4,b4⟩:=s4
 simp only at c4 n4 ⊢
 obtain ⟨f5,c5⟩:=kJ id f4 b4 l4
 have n5:=q20z 1 (l4,b4)
 generalize aF 1 (l4,b4)=s5 at c5 n5 ⊢
 obtain ⟨us,l5,b5⟩:=s5
 simp only at c5 n5 ⊢
 obtain ⟨f6,c6⟩:=Ja id f5 b5 l5
 have n6:=q20z 16 (l5,b5)
 generalize aF 16 (l5,b5)=s6 at c6 n6 ⊢
 obtain ⟨p,l6,b6⟩:=s6
 simp only at c6 n6 ⊢
 obtain ⟨f7,c7⟩:=Ja id f6 b6 l6
 have n7:=q20z 16 (l6,b6)
 generalize aF 16 (l6,b6)=s7 at c7 n7 ⊢
 obtain ⟨o,l7,b7⟩:=s7
 simp only at c7 n7 ⊢
 obtain ⟨f8,c8⟩:=MC id f7 b7 l7
 have n8:True:=trivial
 generalize mH (l7,b7)=s8 at c8 ⊢
 obtain ⟨t,l8,b8⟩:=s8
 simp only at c8 ⊢
 refine ⟨f8,fun b h hg=> ?_⟩
 have bR:=q6z hg
 have qi:∀R X,(h.set id R++X)[id]? =some R:=fun R X=> by rw[ac0 (by simpa using bR)];exact q9z hg
 have q0:∀R A X,(h.set id R++A::X)[h.length]? =some A:=fun R A X=> by rw[acB (by simp)];simp
 have q1:∀R A B,(h.set id R++[A,B])[h.length+1]? =some B:=fun R A B=> by rw[acB (by simp)];simp
 have si:∀R X R',(h.set id R++X).set id R'=h.set id R'++X:=fun R X R'=> by rw[aeM _ _ (by simpa using bR),adf]
 have s0:∀R A X A',(h.set id R++A::X).set h.length A'=h.set id R++A'::X:=fun R A X A'=> by rw[ac9 _ _ (by simp)];simp
 have s1:∀R A B B',(h.set id R++[A,B]).set (h.length+1) B'=h.set id R++[A,B']:=fun R A B B'=> by rw[ac9 _ _ (by simp)];simp
 have tk:∀R X,(h.set id R++X).take h.length=h.set id R:=fun R X=> by rw[acV (by simp),ack (by simp)]
 have h0:∀X,h++X=h.set id (iT f l bad)++X:=fun X=> by rw[lg hg]
 replace c1:=fun X=> c1 h.length (h.set id _++X) (qi _ X)
 simp only[si] at c1
 replace c2:=fun X=> c2 h.length (h.set id _++X) (qi _ X)
 simp only[si] at c2
 replace c3:=fun X=> c3 h.length (h.set id _++X) (qi _ X)
 simp only[si] at c3
 replace c4:=fun X=> c4 h.length (h.set id _++X) (qi _ X)
 simp only[si] at c4
 replace c5:=fun X=> c5 h.length (h.set id _++X) (qi _ X)
 simp only[si] at c5
 replace c6:=fun X=> c6 h.length (h.set id _++X) (qi _ X)
 simp only[si] at c6
 replace c7:=fun X=> c7 h.length (h.set id _++X) (qi _ X)
 simp only[si] at c7
 replace c8:=fun X=> c8 h.length (h.set id _++X) (qi _ X)
 simp only[si] at c8
 have d0:(((aI fl:Nat):Int)=0)=(aI fl=0):=propext (by omega)
 have d1:(((aI fl:Nat):Int)=1)=(aI fl=1):=propext (by omega)
 have d3:(((aI fl:Nat):Int)=3)=(aI fl=3):=propext (by omega)
 generalize hv:ae.mk i (j9 g:Nat) p t (aI li:Nat) (aI us:Nat) o (!decide (aI fl=0)) (decide (aI fl=3))=v
 have hr:=fun h0=> oQ h.length h0 v
 have he:v.enc=V.st 56 [.arr 54 (i.map aa),.s (.int .u64 (j9 g:Nat)),.arr 27 (p.map aa),.al false none (t.map aa),.s (.int .i64 (aI li:Nat)),.s (.int .i64 (aI us:Nat)),.arr 27 (o.map aa),.s (.bool (!decide (aI fl=0))),.s (.bool (decide (aI fl=3)))]:=by rw[←hv];rfl
 rw[he] at hr ⊢
 simp only[iT] at h0 c1 c2 c3 c4 c5 c6 c7 c8 ⊢
 refine Vm.aQ (nt:=65) rfl Rj (by simp) ?_
 simp only[Rh,h0,adz,c1,c2,c3,q0,q1,qi,s0,s1,si,tk,d0,d1,d3,go_sem,simprocAttr]
 cases b3 with
 | true=>
   have mI:w=true:=by rw[←hw];rfl
   subst mI
   simp only[c4,c5,c6,c7,c8,q0,q1,qi,s0,s1,si,tk,d0,d1,d3,oD,eg,eH,adu,adi,adD,acK,acH,decide_true,decide_false,go_sem,simprocAttr]
   cases b8 with
   | true=>
     simp only[hr,c4,c5,c6,c7,c8,q0,q1,qi,s0,s1,si,tk,d0,d1,d3,oD,eg,eH,adu,adi,adD,acK,acH,decide_true,decide_false,go_sem,simprocAttr]
   | false=>
     simp only[hr,c4,c5,c6,c7,c8,q0,q1,qi,s0,s1,si,tk,d0,d1,d3,oD,eg,eH,adu,adi,adD,acK,acH,decide_true,decide_false,go_sem,simprocAttr]
 | false=>
   by_cases k0:aI fl=0
   ·have k1:¬aI fl=1:=by omega
    have k3:¬aI fl=3:=by omega
    have e0:(aI fl=0)=True:=eq_true k0
    have e1:(aI fl=1)=False:=eq_false k1
    have e3:(aI fl=3)=False:=eq_false k3
    have mI:w=false:=by rw[←hw];simp[nc,e0,e1,e3]
    subst mI
    simp only[e0,e1,e3,decide_true,decide_false,acK,acH] at hr ⊢
    simp only[hr,c4,c5,c6,c7,c8,q0,q1,qi,s0,s1,si,tk,d0,d1,d3,oD,eg,eH,adu,adi,adD,acK,acH,decide_true,decide_false,e0,e1,e3,go_sem,simprocAttr]
    cases b8 with
    | true=>
      simp only[hr,c4,c5,c6,c7,c8,q0,q1,qi,s0,s1,si,tk,d0,d1,d3,oD,eg,eH,adu,adi,adD,acK,acH,decide_true,decide_false,e0,e1,e3,go_sem,simprocAttr]
    | false=>
      simp only[hr,c4,c5,c6,c7,c8,q0,q1,qi,s0,s1,si,tk,d0,d1,d3,oD,eg,eH,adu,adi,adD,acK,acH,decide_true,decide_false,e0,e1,e3,go_sem,simprocAttr]
   ·by_cases k1:aI fl=1
    ·have k3:¬aI fl=3:=by omega
     have e0:(aI fl=0)=False:=eq_false k0
     have e1:(aI fl=1)=True:=eq_true k1
     have e3:(aI fl=3)=False:=eq_false k3
     have mI:w=false:=by rw[←hw];simp[nc,e0,e1,e3]
     subst mI
     simp only[e0,e1,e3,decide_true,decide_false,acK,acH] at hr ⊢
     simp only[hr,c4,c5,c6,c7,c8,q0,q1,qi,s0,s1,si,tk,d0,d1,d3,oD,eg,eH,adu,adi,adD,acK,acH,decide_true,decide_false,e0,e1,e3,go_sem,simprocAttr]
     cases b8 with
     | true=>
       simp only[hr,c4,c5,c6,c7,c8,q0,q1,qi,s0,s1,si,tk,d0,d1,d3,oD,eg,eH,adu,adi,adD,acK,acH,decide_true,decide_false,e0,e1,e3,go_sem,simprocAttr]
     | false=>
       simp only[hr,c4,c5,c6,c7,c8,q0,q1,qi,s0,s1,si,tk,d0,d1,d3,oD,eg,eH,adu,adi,adD,acK,acH,decide_true,decide_false,e0,e1,e3,go_sem,simprocAttr]
    ·by_cases k3:aI fl=3
     ·skip
      have e0:(aI fl=0)=False:=eq_false k0
      have e1:(aI fl=1)=False:=eq_false k1
      have e3:(aI fl=3)=True:=eq_true k3
      have mI:w=false:=by rw[←hw];simp[nc,e0,e1,e3]
      subst mI
      simp only[e0,e1,e3,decide_true,decide_false,acK,acH] at hr ⊢
      simp only[hr,c4,c5,c6,c7,c8,q0,q1,qi,s0,s1,si,tk,d0,d1,d3,oD,eg,eH,adu,adi,adD,acK,acH,decide_true,decide_false,e0,e1,e3,go_sem,simprocAttr]
      cases b8 with
      | true=>
        simp only[hr,c4,c5,c6,c7,c8,q0,q1,qi,s0,s1,si,tk,d0,d1,d3,oD,eg,eH,adu,adi,adD,acK,acH,decide_true,decide_false,e0,e1,e3,go_sem,simprocAttr]
      | false=>
        simp only[hr,c4,c5,c6,c7,c8,q0,q1,qi,s0,s1,si,tk,d0,d1,d3,oD,eg,eH,adu,adi,adD,acK,acH,decide_true,decide_false,e0,e1,e3,go_sem,simprocAttr]
     ·skip
      have e0:(aI fl=0)=False:=eq_false k0
      have e1:(aI fl=1)=False:=eq_false k1
      have e3:(aI fl=3)=False:=eq_false k3
      have mI:w=true:=by rw[←hw];simp[nc,e0,e1,e3]
      subst mI
      simp only[e0,e1,e3,decide_true,decide_false,acK,acH] at hr ⊢
      simp only[hr,c4,c5,c6,c7,c8,q0,q1,qi,s0,s1,si,tk,d0,d1,d3,oD,eg,eH,adu,adi,adD,acK,acH,decide_true,decide_false,e0,e1,e3,go_sem,simprocAttr]
      cases b8 with
      | true=>
        simp only[hr,c4,c5,c6,c7,c8,q0,q1,qi,s0,s1,si,tk,d0,d1,d3,oD,eg,eH,adu,adi,adD,acK,acH,decide_true,decide_false,e0,e1,e3,go_sem,simprocAttr]
      | false=>
        simp only[hr,c4,c5,c6,c7,c8,q0,q1,qi,s0,s1,si,tk,d0,d1,d3,oD,eg,eH,adu,adi,adD,acK,acH,decide_true,decide_false,e0,e1,e3,go_sem,simprocAttr]
theorem gB (n:Nat) (s:Bs×Bool):(aF n s).2.1.length≤s.1.length:=by
 unfold aF
 split
 ·simp
 ·simp
theorem Jb (s:Bs×Bool):(mH s).2.1.length≤s.1.length:=acN (gB _ _) (gB _ _)
theorem EF (s:Bs×Bool):(cL s).2.1.length≤s.1.length:=by
 have h1:=gB 4 s
 have h2:=gB 8 (aF 4 s).2
 have h3:=gB 1 (aF 8 (aF 4 s).2).2
 unfold cL
 generalize aF 4 s=s1 at *
 obtain ⟨i,s1⟩:=s1
 simp only at h1 h2 h3 ⊢
 generalize aF 8 s1=s2 at *
 obtain ⟨g,s2⟩:=s2
 simp only at h2 h3 ⊢
 generalize aF 1 s2=s3 at *
 obtain ⟨fl,s3⟩:=s3
 simp only at h3 ⊢
 have h4:=gB 1 (s3.1,s3.2 || nc (aI fl))
 generalize aF 1 (s3.1,s3.2 || nc (aI fl))=s4 at *
 obtain ⟨li,s4⟩:=s4
 simp only at h4 ⊢
 have h5:=gB 1 s4
 generalize aF 1 s4=s5 at *
 obtain ⟨us,s5⟩:=s5
 simp only at h5 ⊢
 have h6:=gB 16 s5
 generalize aF 16 s5=s6 at *
 obtain ⟨p,s6⟩:=s6
 simp only at h6 ⊢
 have h7:=gB 16 s6
 generalize aF 16 s6=s7 at *
 obtain ⟨o,s7⟩:=s7
 simp only at h7 ⊢
 have h8:=Jb s7
 generalize mH s7=s8 at *
 obtain ⟨t,s8⟩:=s8
 simp only at h8 ⊢
 omega
def cy (l:Bs):ae×Int×Int:=if (cL (l,false)).2.2=true then (zeroV,0,12) else ((cL (l,false)).1,((l.length - (cL (l,false)).2.1.length:Nat):Int),0)
theorem Bb (b:Nat) (h:Hp) (f:Bool) (l:Bs) (hl:l.length≤100000000):
 run fns pr b 144 [.al f none (l.map aa)] h=some (.bP [(cy l).1.enc,.s (.int .i64 (cy l).2.1),.s (.int .i64 (cy l).2.2)],h):=by
 obtain ⟨f1,c⟩:=qP (h.length+1) f false l
 have hle:=EF (l,false)
 have w:IntKind.i64.wrap (((l.length:Nat):Int) - (((cL (l,false)).2.1.length:Nat):Int))=((l.length - (cL (l,false)).2.1.length:Nat):Int):=by
   simp only at hle
   rw[wrap_i64 (by omega) (by omega)];omega
 unfold cy
 generalize cL (l,false)=r at *
 obtain ⟨v,l1,b1⟩:=r
 simp only at c w hle ⊢
 have c1:∀A,run fns pr h.length 141 [.ptr (h.length+1) [0] 1] (h++[A,iT f l false])=some (v.enc,h++[A,iT f1 l1 b1]):=fun A=> by
   rw[c h.length (h++[A,iT f l false]) (by simp)]
   simp
 have tk:∀X,(h++X).take h.length=h:=fun X=> by simp
 simp only[iT] at c1
 have t1:=aJ v
 have t2:=aK v
 refine Vm.aQ (nt:=26) rfl Rr (by simp) ?_
 simp only[Rp,c1,t1,t2,tk,go_sem,simprocAttr]
 cases b1 with
 | true=>
   simp only[c1,tk,go_sem,simprocAttr]
   rfl
 | false=>
   simp only[c1,t1,t2,xl,w,tk,go_sem,simprocAttr]
def sA :Nat→Bs×Bool→List ae×(Bs×Bool)
 | 0,s=>([],s)
 | n+1,s=>((sA n s).1++[(cL (sA n s).2).1],(cL (sA n s).2).2)
theorem C6 (n:Nat) (s:Bs×Bool):(sA n s).1.length=n:=by
 induction n with
 | zero=> rfl
 | succ n ih=> simp[sA,ih]
def oE (s:Bs×Bool):av×(Bs×Bool):=
 match aF 1 s with
 | (k,s1)=>
   if aI k=1 then match cL s1 with
    | (v,s2)=>(⟨1,0,0,0,v,[]⟩,s2)
   else if aI k=2 then match aF 1 s1 with
     | (a,s2)=> match aF 1 s2 with
       | (t,s3)=> match aF 8 s3 with
         | (e,s4)=>(⟨2,(aI a:Nat),(aI t:Nat),(j9 e:Nat),zeroV,[]⟩,s4)
   else if aI k=3 then match aF 1 s1 with
     | (a,s2)=> match aF 8 s2 with
       | (e,s3)=> match aF 1 s3 with
         | (n,s4)=> match sA (min (aI n) 5) s4 with
           | (vs,s5)=>(⟨3,(aI a:Nat),0,(j9 e:Nat),zeroV,vs⟩,s5)
   else if aI k=4 then match aF 1 s1 with
     | (a,s2)=> match aF 8 s2 with
       | (e,s3)=>(⟨4,(aI a:Nat),0,(j9 e:Nat),zeroV,[]⟩,s3)
   else (⟨(aI k:Nat),0,0,0,zeroV,[]⟩,s1)
def ke :av:=⟨0,0,0,0,zeroV,[]⟩
def nd (l:Bs):av×Int:=if (oE (l,false)).2.2=true∨(oE (l,false)).2.1≠[]∨aS (oE (l,false)).1=false then (ke,12) else ((oE (l,false)).1,0)
def Jc (r:av) (f:Bool) (x:V):bc:= .cells (some 59) [.st 59 [.s (.int .i64 r.kind),.s (.int .i64 r.aw),.s (.int .i64 r.cg),.s (.int .u64 r.au),r.aq.ek f,x]]
theorem atR {F:Nat} {h:Hp} {f bad:Bool} {l:Bs} {v:V} {R':bc} (c:∀(b:Nat) (h0:Hp) (_:h0[h.length+1]? =some (iT f l bad)),run fns pr b F [.ptr (h.length+1) [0] 1] h0=some (v,h0.set (h.length+1) R')) (A:bc) (X:Hp):
 run fns pr h.length F [.ptr (h.length+1) [0] 1] (h++A::iT f l bad::X)=some (v,h++A::R'::X):=by
 rw[c h.length (h++A::iT f l bad::X) (by rw[acB (by omega)];simp)]
 rw[ac9 _ _ (by omega)]
 simp
theorem C7 (l:Bs): -9223372036854775808≤((aI l:Nat):Int)∧((aI l:Nat):Int)≤9223372036854775807:=by
 have:=pY l;omega
theorem Yi {l:Bs} (h:l.length=8):j9 l < 18446744073709551616:=by
 have:=tz l 8 (by omega)
 rw[ack (by omega)] at this
 omega
theorem EG (s:Bs×Bool):(mH s).1.length < 256:=by
 unfold mH;rw[q20z];exact pY _
theorem nZ (s:Bs×Bool):(cL s).1.wf:=by
 unfold cL
 have h1:=q20z 4 s
 generalize aF 4 s=s1 at *
 obtain ⟨i,s1⟩:=s1
 simp only at h1 ⊢
 have h2:=q20z 8 s1
 generalize aF 8 s1=s2 at *
 obtain ⟨g,s2⟩:=s2
 simp only at h2 ⊢
 generalize aF 1 s2=s3 at *
 obtain ⟨fl,s3⟩:=s3
 simp only
 generalize aF 1 (s3.1,s3.2 || nc (aI fl))=s4 at *
 obtain ⟨li,s4⟩:=s4
 simp only
 generalize aF 1 s4=s5 at *
 obtain ⟨us,s5⟩:=s5
 simp only
 have h6:=q20z 16 s5
 generalize aF 16 s5=s6 at *
 obtain ⟨p,s6⟩:=s6
 simp only at h6 ⊢
 have h7:=q20z 16 s6
 generalize aF 16 s6=s7 at *
 obtain ⟨o,s7⟩:=s7
 simp only at h7 ⊢
 have h8:=EG s7
 generalize mH s7=s8 at *
 obtain ⟨t,s8⟩:=s8
 simp only at h8 ⊢
 have hb:=Yi h2
 exact ⟨h1,⟨by simp only;omega,by simp only;omega⟩,h6,by simp only;omega,C7 li,C7 us,h7,trivial,trivial⟩
theorem sB (v:ae):v.enc.ground=true:=by
 have:v.enc.plain=true:=by simp only[ae.enc,go_sem]
 exact gC _ this
theorem C8 {cf:CF} {base n:Nat} {v:V} {a b:C} {e:Env} {h:Hp} {K:bS} (M:Env→Hp→Prop) (h1:∀e H,M e H→K .normal e H) (h2:∀K':bS,(∀e H,M e H→K' .normal e H)→wpC cf base v a b e h (ic n K')):wpC cf base v a b e h (ic n K):=h2 K h1
theorem ME (n:Nat) (h:Hp) (f:Bool) (v:ae):bA n h (v.ek f)=some v.enc:=by simp only[ae.ek,ae.enc,go_sem]
def Yj (h:Hp) (l:Bs) (e:Env) (H:Hp):Prop:=e 4= .ptr (h.length+1) [0] 1∧e 5= .ptr (h.length+2) [0] 1∧e 2= .ptr h.length [0] 1∧
 ∃r l' b' f' fv x kk A,oE (l,false)=(r,l',b')∧Fw [] h H∧H[h.length]? =some (.cells (some 59) [A])∧A.ty=some 59∧H[h.length+1]? =some (iT f' l' b')∧H[h.length+2]? =some (Jc r fv x)∧XR H (some 56) kk x (r.ag.map ae.enc)∧h.length+3≤kk∧∀v∈r.ag,v.wf
theorem yO (b:Nat) (h:Hp) (f:Bool) (l:Bs):
 run fns pr b 123 [.al f none (l.map aa)] h=some (.bP [(nd l).1.enc,.s (.int .i64 (nd l).2)],h):=by
 refine Vm.aQ (nt:=68) rfl QF (by simp) ?_
 obtain ⟨f1,c1⟩:=kJ (h.length+1) f false l
 replace c1:=atR c1
 have n1:=q20z 1 (l,false)
 unfold nd
 have j4:oE (l,false)=oE (l,false):=rfl
 conv at j4=> rhs;unfold oE
 generalize aF 1 (l,false)=s1 at j4 c1 n1
 obtain ⟨k,l1,b1⟩:=s1
 simp only at c1 n1 j4
 have a1:(((aI k:Nat):Int)=1)=(aI k=1):=propext (by omega)
 have a2:(((aI k:Nat):Int)=2)=(aI k=2):=propext (by omega)
 have a3:(((aI k:Nat):Int)=3)=(aI k=3):=propext (by omega)
 have a4:(((aI k:Nat):Int)=4)=(aI k=4):=propext (by omega)
 have tk:∀X,(h++X).take h.length=h:=fun X=> by simp
 simp only[iT] at c1
 simp only[QD,Iw,c1,tk,go_sem,↓reduceIte,Nat.reduceEqDiff,Nat.reduceBEq,Nat.reduceAdd,Nat.reduceSub,Nat.reduceLT,Nat.reduceLeDiff,Int.reduceLT,Int.reduceLE,Int.reduceEq,Int.reduceToNat]
 refine C8 (Yj h l) ?_ ?_
 ·rintro e H ⟨e4,e5,e2,r,l',b',f',fv,x,kk,A,hr,fw,g0,hA,g1,g2,xr,hk,hwf⟩
  rw[hr]
  simp only
  have cl:=MD h.length H (h.length+1) f' b' l' g1
  have cr:=mF h.length H fv x r xr.SR hwf
  have hz:∀B,bA h.length (H.set h.length B) x=some (.al false (some 56) (r.ag.map ae.enc)):=fun B=>(xr.set (j:=h.length) (by omega) B).oy (by omega) (by rw[cu];intro v hv;obtain ⟨w,_,rfl⟩:=ac6.1 hv;simp[ae.enc,V.plain,V.plain.all,bO])
  have fk:=fw.take
  have qC:=xr.ty
  have R0:∀X,(H.set h.length X).take h.length=h:=fun X=> by rw[afR,fk,List.set_eq_of_length_le (acm _)]
  have e0:∀fv x,V.ty (.st 59 [.s (.int .i64 r.kind),.s (.int .i64 r.aw),.s (.int .i64 r.cg),.s (.int .u64 r.au),r.aq.ek fv,x])=some 59:=fun _ _=> rfl
  unfold Jc at g2
  by_cases hb:(b' || decide (l'≠[]))=true
  ·rw[hb] at cl
   have aZ:b'=true∨l'≠[]∨aS r=false:=by simpa[or_assoc] using (show (b'=true∨l'≠[])∨aS r=false from .inl (by simpa using hb))
   rw[if_pos aZ]
   simp only[e4,e5,e2,cl,g0,hA,R0,q9z g0,go_sem,↓reduceIte,Nat.reduceEqDiff,Nat.reduceBEq,Nat.reduceAdd,Nat.reduceSub,Nat.reduceLT,Nat.reduceLeDiff,Int.reduceLT,Int.reduceLE,Int.reduceEq,Int.reduceToNat]
   rfl
  ·have hb':(b' || decide (l'≠[]))=false:=by simpa using hb
   rw[hb'] at cl
   cases jy:aS r with
   | false=>
     rw[jy] at cr
     have aZ:b'=true∨l'≠[]∨false=false:= .inr (.inr rfl)
     rw[if_pos aZ]
     simp only[e4,e5,e2,cl,g2,cr,g0,hA,R0,q9z g0,go_sem,↓reduceIte,Nat.reduceEqDiff,Nat.reduceBEq,Nat.reduceAdd,Nat.reduceSub,Nat.reduceLT,Nat.reduceLeDiff,Int.reduceLT,Int.reduceLE,Int.reduceEq,Int.reduceToNat]
     rfl
   | true=>
     rw[jy] at cr
     have aZ:¬(b'=true∨l'≠[]∨true=false):=by
       intro hc
       apply hb
       rcases hc with h1 | h1 | h1
       ·simp[h1]
       ·simp[h1]
       ·cases h1
     rw[if_neg aZ]
     simp only[e4,e5,e2,cl,g2,cr,g0,hA,R0,q9z g0,hz,qC.1,qC.2,ME,eF,eG,go_sem,↓reduceIte,Nat.reduceEqDiff,Nat.reduceBEq,Nat.reduceAdd,Nat.reduceSub,Nat.reduceLT,Nat.reduceLeDiff,Int.reduceLT,Int.reduceLE,Int.reduceEq,Int.reduceToNat]
     rfl
 ·intro K hK
  generalize hbk:aI k=bk at *
  have G0:∀A X,(h++A::X)[h.length]? =some A:=fun A X=> by simp
  have G1:∀A B X,(h++A::B::X)[h.length+1]? =some B:=fun A B X=> by rw[acB (by omega)];simp
  have G2:∀A B C X,(h++A::B::C::X)[h.length+2]? =some C:=fun A B C X=> by rw[acB (by omega)];simp
  by_cases k1:bk=1
  ·subst k1
   rw[if_pos rfl] at j4
   obtain ⟨f2,c2⟩:=qP (h.length+1) f1 b1 l1
   replace c2:=atR c2
   generalize cL (l1,b1)=s2 at *
   obtain ⟨v,l2,b2⟩:=s2
   simp only at c2 j4
   simp only[iT] at c2
   have q1:(((1:Nat):Int)=1)=True:=by simp
   simp only[q1,c2,decide_true,aJ,aK,go_sem,↓reduceIte,Nat.reduceEqDiff,Nat.reduceBEq,Nat.reduceAdd,Nat.reduceSub,Nat.reduceLT,Nat.reduceLeDiff,Int.reduceLT,Int.reduceLE,Int.reduceEq,Int.reduceToNat]
   refine hK _ _ ⟨rfl,rfl,rfl,_,_,_,f2,false,.al true (some 56) [],h.length+3,_,j4,Fw.app [] h _,G0 _ _,?_,G1 _ _ _,(G2 _ _ _ _).trans ?_,XR.nil _ _ _,acm _,fun v hv=> by cases hv⟩
   ·rfl
   ·simp only[Jc,←ae.lu];rfl
  by_cases k2:bk=2
  ·subst k2
   rw[if_neg (by omega),if_pos rfl] at j4
   obtain ⟨f2,c2⟩:=kJ (h.length+1) f1 b1 l1
   replace c2:=atR c2
   generalize aF 1 (l1,b1)=s2 at *
   obtain ⟨a,l2,b2⟩:=s2
   simp only at c2 j4
   obtain ⟨f3,c3⟩:=kJ (h.length+1) f2 b2 l2
   replace c3:=atR c3
   generalize aF 1 (l2,b2)=s3 at *
   obtain ⟨t,l3,b3⟩:=s3
   simp only at c3 j4
   obtain ⟨f4,c4⟩:=xm (h.length+1) f3 b3 l3
   replace c4:=atR c4
   generalize aF 8 (l3,b3)=s4 at *
   obtain ⟨e,l4,b4⟩:=s4
   simp only at c4 j4
   simp only[iT] at c2 c3 c4
   have q1:(((2:Nat):Int)=1)=False:=by simp
   have q2:(((2:Nat):Int)=2)=True:=by simp
   simp only[q1,q2,c2,c3,c4,decide_true,decide_false,aJ,aK,go_sem,↓reduceIte,Nat.reduceEqDiff,Nat.reduceBEq,Nat.reduceAdd,Nat.reduceSub,Nat.reduceLT,Nat.reduceLeDiff,Int.reduceLT,Int.reduceLE,Int.reduceEq,Int.reduceToNat]
   refine hK _ _ ⟨rfl,rfl,rfl,_,_,_,f4,true,.al true (some 56) [],h.length+3,_,j4,Fw.app [] h _,G0 _ _,?_,G1 _ _ _,(G2 _ _ _ _).trans ?_,XR.nil _ _ _,acm _,fun v hv=> by cases hv⟩
   ·rfl
   ·rfl
  by_cases k3:bk=3
  ·subst k3
   rw[if_neg (by omega),if_neg (by omega),if_pos rfl] at j4
   obtain ⟨f2,c2⟩:=kJ (h.length+1) f1 b1 l1
   replace c2:=atR c2
   generalize aF 1 (l1,b1)=s2 at *
   obtain ⟨a,l2,b2⟩:=s2
   simp only at c2 j4
   obtain ⟨f3,c3⟩:=xm (h.length+1) f2 b2 l2
   replace c3:=atR c3
   generalize aF 8 (l2,b2)=s3 at *
   obtain ⟨ep,l3,b3⟩:=s3
   simp only at c3 j4
   obtain ⟨f4,c4⟩:=kJ (h.length+1) f3 b3 l3
   replace c4:=atR c4
   generalize aF 1 (l3,b3)=s4 at *
   obtain ⟨n,l4,b4⟩:=s4
   simp only at c4 j4
   simp only[iT] at c2 c3 c4
   have q1:(((3:Nat):Int)=1)=False:=by simp
   have q2:(((3:Nat):Int)=2)=False:=by simp
   have q3:(((3:Nat):Int)=3)=True:=by simp
   have hN:min (aI n) 5≤5:=by omega
   have EH:∀cf base H,aC cf base H .min [.s (.int .i64 (aI n:Nat)),.s (.int .i64 5)]=some (.s (.int .i64 (min (aI n) 5:Nat)),H):=fun cf base H=> by
     rw[Pm,show min ((aI n:Nat):Int) 5=((min (aI n) 5:Nat):Int) by omega]
   generalize min (aI n) 5=N at *
   simp only[q1,q2,q3,c2,c3,c4,decide_true,decide_false,EH,go_sem,↓reduceIte,Nat.reduceEqDiff,Nat.reduceBEq,Nat.reduceAdd,Nat.reduceSub,Nat.reduceLT,Nat.reduceLeDiff,Int.reduceLT,Int.reduceLE,Int.reduceEq,Int.reduceToNat]
   refine aV (fun q e H=>∃j,q=N - j∧j≤N∧e 41= .s (.int .i64 (j:Nat))∧e 40= .s (.int .i64 (N:Nat))∧e 4= .ptr (h.length+1) [0] 1∧e 5= .ptr (h.length+2) [0] 1∧e 2= .ptr h.length [0] 1∧
       ∃f' x kk A,Fw [] h H∧H[h.length]? =some (.cells (some 59) [A])∧A.ty=some 59∧H[h.length+1]? =some (iT f' (sA j (l4,b4)).2.1 (sA j (l4,b4)).2.2)∧H[h.length+2]? =some (Jc ⟨3,(aI a:Nat),0,(j9 ep:Nat),zeroV,(sA j (l4,b4)).1⟩ true x)∧XR H (some 56) kk x ((sA j (l4,b4)).1.map ae.enc)∧h.length+3≤kk∧∀v∈(sA j (l4,b4)).1,v.wf)
     (fun e H=> Yj h l e H) N _ _ ?_ ?_ ?_
   ·refine ⟨0,rfl,by omega,rfl,rfl,rfl,rfl,rfl,f4,.al true (some 56) [],h.length+3,_,Fw.app [] h _,G0 _ _,?_,G1 _ _ _,(G2 _ _ _ _).trans ?_,XR.nil _ _ _,acm _,fun v hv=> by cases hv⟩
    ·rfl
    ·rfl
   ·rintro q e H ⟨j,rfl,hj,e41,e40,e4,e5,e2,f',x,kk,A,fw,g0,hA,g1,g2,xr,hk,hwf⟩
    by_cases cd:j < N
    ·have cj:(j:Int)<(N:Int):=by omega
     have ev:sA (j+1) (l4,b4)=((sA j (l4,b4)).1++[(cL (sA j (l4,b4)).2).1],(cL (sA j (l4,b4)).2).2):=rfl
     have ED:=C6 j (l4,b4)
     generalize sA j (l4,b4)=w at ev ED g1 g2 xr hwf
     obtain ⟨vs,l5,b5⟩:=w
     simp only at ev ED g1 g2 xr hwf
     obtain ⟨f6,cv⟩:=qP (h.length+1) f' b5 l5
     replace cv:=cv h.length H g1
     have hvw:(cL (l5,b5)).1.wf:=nZ _
     generalize cL (l5,b5)=y at ev cv hvw
     obtain ⟨v,l6,b6⟩:=y
     simp only at ev cv hvw
     have bR:=q6z g2
     have xr1:=xr.set (j:=h.length+1) (by omega) (iT f6 l6 b6)
     have g01:(H.set (h.length+1) (iT f6 l6 b6))[h.length]? =_:=(acp (by omega)).trans g0
     have g11:(H.set (h.length+1) (iT f6 l6 b6))[h.length+1]? =some (iT f6 l6 b6):=q9z g1
     have g21:(H.set (h.length+1) (iT f6 l6 b6))[h.length+2]? =_:=(acp (by omega)).trans g2
     have fw1:∀i b0,h[i]? =some b0→(H.set (h.length+1) (iT f6 l6 b6))[i]? =some b0:=fun i b0 hb=> by
       have:=q6z hb
       rw[acp (by omega)];exact fw.db _ _ hb (by simp)
     have MF:(H.set (h.length+1) (iT f6 l6 b6)).length=H.length:=by simp
     generalize H.set (h.length+1) (iT f6 l6 b6)=H1 at cv xr1 g01 g11 g21 fw1 MF
     obtain ⟨x',H',k',ap,xr',En,yM,hk3,hk4,hold⟩:=xr1.tC (n:=h.length) (bytes:=96) (ys:=[v.enc]) (m:=1) (by omega) (by omega) rfl (fun z hz=> by rw[adE] at hz;subst hz;exact sB v) (by simp;omega)
     have g02:=hold _ _ (by omega) g01
     have g12:=hold _ _ (by omega) g11
     have g22:=hold _ _ (by omega) g21
     have qC:=xr'.ty
     have hxo:=xr.ty
     have w3:IntKind.i64.wrap ((j:Int)+1)=((j+1:Nat):Int):=q17z (by omega)
     have c0:h.length≤h.length+2:=by omega
     have R1:=q6z g21
     have g23:∀X:Hp,(H1++X)[h.length+2]? =_:=fun X=>(ac0 R1).trans g21
     have g22':=g22
     simp only[Jc] at g2 g22 g21 g23
     simp only[e41,e40,e4,e5,e2,cj,g2,cv,aJ,aK,ap,g22,g21,g23,hxo.1,qC.1,qC.2,w3,c0,decide_true,adi,or_true,true_and,go_sem,↓reduceIte,Nat.reduceEqDiff,Nat.reduceBEq,Nat.reduceAdd,Nat.reduceSub,Nat.reduceLT,Nat.reduceLeDiff,Int.reduceLT,Int.reduceLE,Int.reduceEq,Int.reduceToNat]
     have cC:∀i,i≠h.length+2→∀B,(H'.set (h.length+2) B)[i]? =H'[i]? :=fun i hi B=> acp (fun e=> hi e.symm)
     refine ⟨N - (j+1),by omega,j+1,rfl,by omega,rfl,f6,x',k',A,?_,(cC _ (by omega) _).trans g02,hA,?_,?_,?_,by omega,?_⟩
     ·refine ⟨by simp;omega,fun i b0 hb _=> ?_,fun i l0 hb=> ?_⟩
      ·have:=q6z hb
       rw[cC _ (by omega)];exact hold _ _ (by omega) (fw1 _ _ hb)
      ·have:=q6z hb
       rw[cC _ (by omega)];exact hold _ _ (by omega) (fw1 _ _ hb)
     ·rw[ev];exact (cC _ (by omega) _).trans g12
     ·rw[ev];exact q9z g22
     ·rw[ev]
      have:=xr'.set (j:=h.length+2) (by omega) (bc.cells (some 59) [.st 59 [.s (.int .i64 3),.s (.int .i64 (aI a:Nat)),.s (.int .i64 0),.s (.int .u64 (j9 ep:Nat)),zeroV.ek true,x']])
      simpa using this
     ·rw[ev]
      intro w hw
      simp only[acG,adE] at hw
      rcases hw with hw | rfl
      ·exact hwf _ hw
      ·exact hvw
    ·have cj:¬(j:Int)<(N:Int):=by omega
     obtain rfl:j=N:=by omega
     simp only[e41,e40,cj,go_sem,↓reduceIte,Nat.reduceEqDiff,Nat.reduceBEq,Nat.reduceAdd,Nat.reduceSub,Nat.reduceLT,Nat.reduceLeDiff,Int.reduceLT,Int.reduceLE,Int.reduceEq,Int.reduceToNat]
     exact ⟨e4,e5,e2,_,_,_,f',true,x,kk,A,j4,fw,g0,hA,g1,g2,xr,hk,hwf⟩
   ·rintro e H hM
    exact hK _ _ hM
  by_cases k4:bk=4
  ·subst k4
   rw[if_neg (by omega),if_neg (by omega),if_neg (by omega),if_pos rfl] at j4
   obtain ⟨f2,c2⟩:=kJ (h.length+1) f1 b1 l1
   replace c2:=atR c2
   generalize aF 1 (l1,b1)=s2 at *
   obtain ⟨a,l2,b2⟩:=s2
   simp only at c2 j4
   obtain ⟨f4,c4⟩:=xm (h.length+1) f2 b2 l2
   replace c4:=atR c4
   generalize aF 8 (l2,b2)=s4 at *
   obtain ⟨e,l4,b4⟩:=s4
   simp only at c4 j4
   simp only[iT] at c2 c4
   have q1:(((4:Nat):Int)=1)=False:=by simp
   have q2:(((4:Nat):Int)=2)=False:=by simp
   have q3:(((4:Nat):Int)=3)=False:=by simp
   have q4:(((4:Nat):Int)=4)=True:=by simp
   simp only[q1,q2,q3,q4,c2,c4,decide_true,decide_false,aJ,aK,go_sem,↓reduceIte,Nat.reduceEqDiff,Nat.reduceBEq,Nat.reduceAdd,Nat.reduceSub,Nat.reduceLT,Nat.reduceLeDiff,Int.reduceLT,Int.reduceLE,Int.reduceEq,Int.reduceToNat]
   refine hK _ _ ⟨rfl,rfl,rfl,_,_,_,f4,true,.al true (some 56) [],h.length+3,_,j4,Fw.app [] h _,G0 _ _,?_,G1 _ _ _,(G2 _ _ _ _).trans ?_,XR.nil _ _ _,acm _,fun v hv=> by cases hv⟩
   ·rfl
   ·rfl
  ·rw[if_neg k1,if_neg k2,if_neg k3,if_neg k4] at j4
   have q1:(bk=1)=False:=eq_false k1
   have q2:(bk=2)=False:=eq_false k2
   have q3:(bk=3)=False:=eq_false k3
   have q4:(bk=4)=False:=eq_false k4
   simp only[a1,a2,a3,a4,q1,q2,q3,q4,decide_true,decide_false,go_sem,↓reduceIte,Nat.reduceEqDiff,Nat.reduceBEq,Nat.reduceAdd,Nat.reduceSub,Nat.reduceLT,Nat.reduceLeDiff,Int.reduceLT,Int.reduceLE,Int.reduceEq,Int.reduceToNat]
   refine hK _ _ ⟨rfl,rfl,rfl,_,_,_,f1,true,.al true (some 56) [],h.length+3,_,j4,Fw.app [] h _,G0 _ _,?_,G1 _ _ _,(G2 _ _ _ _).trans ?_,XR.nil _ _ _,acm _,fun v hv=> by cases hv⟩
   ·rfl
   ·rfl
theorem Bc (b:Nat) (h:Hp) (f:Bool) (v:ae):run fns pr b 114 [v.ek f] h=some (.s (.bool (decide (v=zeroV))),h):=by
 refine Vm.aQ (nt:=50) rfl Qj (by simp) ?_
 obtain ⟨id,g,mX,se,li,us,ow,go,wi⟩:=v
 have hl:(((se.length:Nat):Int)=0)=(se.length=0):=propext (by omega)
 have ax:(0:Nat)=0:=rfl
 try simp only[Md,ae.ek,dR,gv,bG,bI,hl,go_sem,simprocAttr]
 repeat' (
   first | refine q5z ?_ ?_ | refine q3z ?_ ?_ | refine q4z ?_ ?_
   all_goals intro aj
   all_goals first | replace aj:=q2z aj | replace aj:=q1z aj | skip
   all_goals first | subst aj | replace ax:=And.intro aj ax
   all_goals try simp only[ax,Md,ae.ek,dR,gv,bG,bI,hl,go_sem,simprocAttr])
 all_goals try simp only[decide_eq_true_eq,decide_eq_false_iff_not] at *
 all_goals first
   | (simp_all [zeroV, -Int.not_le, -Int.not_lt, -Nat.not_le, -Nat.not_lt,acD];done)
   | (simp_all [zeroV, -Int.not_le, -Int.not_lt, -Nat.not_le, -Nat.not_lt,acD];omega)
   | (simp_all [zeroV,acD];done)
   | (simp_all [zeroV,acD];omega)
   | skip
abbrev bB (a b:Bs):Int:=Lib.compareBytes a b
theorem eo :∀a:Bs,bB a a=0
 | []=> rfl
 | x::a=> by simp only[bB,Lib.compareBytes,UInt8.lt_irrefl,if_false];exact eo a
theorem iL :∀a b:Bs,bB a b=0→a=b
 | [],[],_=> rfl
 | [],_::_,h=> by simp[bB,Lib.compareBytes] at h
 | _::_,[],h=> by simp[bB,Lib.compareBytes] at h
 | x::a,y::b,h=> by
   simp only[bB,Lib.compareBytes] at h
   split at h
   ·cases h
   ·split at h
    ·cases h
    ·rename_i h1 h2
     rw[aeE] at h1 h2
     have:x=y:=afe.1 (by omega)
     rw[this,iL a b h]
theorem pZ :∀a b:Bs,bB a b= - bB b a
 | [],[]=> rfl
 | [],_::_=> rfl
 | _::_,[]=> rfl
 | x::a,y::b=> by
   have ih:=pZ a b
   simp only[bB] at ih
   simp only[bB,Lib.compareBytes,aeE]
   by_cases h1:x.toNat < y.toNat
   ·rw[if_pos h1,if_neg (by omega),if_pos h1]
   ·by_cases h2:y.toNat < x.toNat
    ·rw[if_neg h1,if_pos h2,if_pos h2];rfl
    ·rw[if_neg h1,if_neg h2,if_neg h2,if_neg h1];exact ih
theorem eU :∀a b c:Bs,bB a b < 0→bB b c < 0→bB a c < 0
 | [],[],_,h,_=> by simp[bB,Lib.compareBytes] at h
 | [],_::_,[],_,h=> by simp[bB,Lib.compareBytes] at h
 | [],_::_,_::_,_,_=> by simp[bB,Lib.compareBytes]
 | _::_,[],_,h,_=> by simp[bB,Lib.compareBytes] at h
 | _::_,_::_,[],_,h=> by simp[bB,Lib.compareBytes] at h
 | x::a,y::b,z::c,h1,h2=> by
   have ih:=eU a b c
   simp only[bB] at ih
   simp only[bB,Lib.compareBytes,aeE] at h1 h2 ⊢
   split at h1
   ·split at h2
    ·rw[if_pos (by omega)];decide
    ·split at h2
     ·cases h2
     ·rw[if_pos (by omega)];decide
   ·split at h1
    ·cases h1
    ·split at h2
     ·rw[if_pos (by omega)];decide
     ·split at h2
      ·cases h2
      ·rw[if_neg (by omega),if_neg (by omega)];exact ih h1 h2
theorem tD :∀a b:Bs,Op.bytesLess a b=decide (bB a b < 0)
 | [],[]=> rfl
 | [],_::_=> rfl
 | _::_,[]=> rfl
 | x::a,y::b=> by
   have ih:=tD a b
   simp only[bB] at ih
   have hxy:(x==y)=decide (x.toNat=y.toNat):=by
     rw[afK];simp[afe]
   simp only[bB,Lib.compareBytes,Op.bytesLess,ih,aeE,hxy]
   by_cases h1:x.toNat < y.toNat
   ·simp[h1]
   ·by_cases h2:y.toNat < x.toNat
    ·simp[h1,h2];omega
    ·have:x.toNat=y.toNat:=by omega
     simp[this]
def fc (l:List ae):Prop:=l.Pairwise fun v w=> bB v.iD w.iD < 0
def pos (l:List ae) (id:Bs):Nat:=l.countP fun v=> decide (bB v.iD id < 0)
theorem Jd (l:List ae) (id:Bs):pos l id≤l.length:=List.countP_le_length
theorem xn {id:Bs}:∀ {l:List ae},fc l→∀ {i:Nat} {v:ae},l[i]? =some v→(bB v.iD id < 0↔i < pos l id)
 | [],_,i,v,h=> by simp at h
 | w::l,hr,i,v,h=> by
   obtain ⟨h1,h2⟩:=aeY.1 hr
   simp only[pos,afB]
   by_cases hw:bB w.iD id < 0
   ·simp only[hw,decide_true,if_true]
    cases i with
    | zero=> simp at h;subst h;simp[hw]
    | succ i=>
      have:=xn (id:=id) h2 (by simpa using h)
      rw[this];unfold pos;omega
   ·simp only[hw,decide_false,acz,if_false,aeC]
    have hz:pos l id=0:=by
      rw[pos,aff]
      intro x hx
      have h3:=h1 x hx
      simp only[decide_eq_true_eq]
      intro h4
      exact hw (eU _ _ _ h3 h4)
    unfold pos at hz
    rw[hz]
    cases i with
    | zero=> simp at h;subst h;simp[hw]
    | succ i=>
      have h3:=h1 v (acw (by simpa using h))
      constructor
      ·intro h4;exact absurd (eU _ _ _ h3 h4) hw
      ·omega
theorem p6 (b:Nat) (h:Hp) (x k:Nat) (hx:x < 4294967296) (hk:k≤31):run fns pr b 135 [.s (.int .u32 x),.s (.int .i64 k)] h=some (.s (.int .u32 (pN k x:Nat)),h):=by
 refine Vm.aQ (nt:=15) rfl Q1 (by simp) ?_
 have ax:(0:Nat)=0:=rfl
 try simp only[Mm,AW,AV,go_sem,simprocAttr]
 repeat' (
   first | refine q5z ?_ ?_ | refine q3z ?_ ?_ | refine q4z ?_ ?_
   all_goals intro aj
   all_goals first | replace aj:=q2z aj | replace aj:=q1z aj | skip
   all_goals first | subst aj | replace ax:=And.intro aj ax
   all_goals try simp only[ax,Mm,AW,AV,go_sem,simprocAttr])
 refine aV (fun m e H=>∃j,m=k - j∧j≤k∧e 1= .s (.int .i64 ((k - j:Nat):Int))∧e 0= .s (.int .u32 (pN j x:Nat))∧H=h)
   (fun e H=> e 0= .s (.int .u32 (pN k x:Nat))∧H=h)
   k _ _ ⟨0,rfl,by omega,rfl,by rw[IW hx];rfl,rfl⟩ ?_ ?_
 ·rintro m e H ⟨j,rfl,hj,e1,e0,rfl⟩
  have hy:=AZ (k:=j) hx (by omega)
  by_cases c:j < k
  ·have c':(0:Int)<((k - j:Nat):Int):=by omega
   have hs:=IX (x:=x) (j:=j) hx (by omega)
   generalize pN j x=y at e0 hy hs
   have s1:xf .u32 (y:Int) 1=_:=IU (a:=y) (k:=1) (by omega)
   have s2:qE .u32 (y:Int) 31=_:=IV (a:=y) (k:=31) (by omega)
   have s3:=RI (a:=y * 2 ^ 1 % 4294967296) (b:=y / 2 ^ 31) (aeI _ (by decide)) (aez (aep _ _) hy)
   rw[show (y * 2 ^ 1 % 4294967296) ||| (y / 2 ^ 31)=pN 1 y from AY (k:=1) hy (by omega),hs] at s3
   have h1:∀cf base h,aC cf base h (.bin .num .shl) [.s (.int .u32 y),.s (.int .u64 1)]=some (.s (.int .u32 ((y * 2 ^ 1 % 4294967296:Nat):Int)),h):=fun cf base h=> by rw[←s1];exact vE cf base h .u32 .u64 (y:Int) 1 (by omega)
   have h2:∀cf base h,aC cf base h (.bin .num .shr) [.s (.int .u32 y),.s (.int .u64 31)]=some (.s (.int .u32 ((y / 2 ^ 31:Nat):Int)),h):=fun cf base h=> by rw[←s2];exact pR cf base h .u32 .u64 (y:Int) 31 (by omega)
   clear s1 s2
   generalize y * 2 ^ 1 % 4294967296=y1 at h1 s3
   generalize y / 2 ^ 31=y2 at h2 s3
   have hw:IntKind.i64.wrap (((k - j:Nat):Int) - 1)=((k - (j+1):Nat):Int):=by rw[wrap_i64 (by omega) (by omega)];omega
   have ax:(0:Nat)=0:=rfl
   try simp only[e1,e0,c',h1,h2,s3,hw,go_sem,simprocAttr]
   repeat' (
     first | refine q5z ?_ ?_ | refine q3z ?_ ?_ | refine q4z ?_ ?_
     all_goals intro aj
     all_goals first | replace aj:=q2z aj | replace aj:=q1z aj | skip
     all_goals first | subst aj | replace ax:=And.intro aj ax
     all_goals try simp only[ax,e1,e0,c',h1,h2,s3,hw,go_sem,simprocAttr])
   all_goals exact ⟨k - (j+1),by omega,j+1,rfl,by omega,rfl,rfl⟩
  ·have c':¬(0:Int)<((k - j:Nat):Int):=by omega
   have:j=k:=by omega
   subst this
   have ax:(0:Nat)=0:=rfl
   try simp only[e1,e0,c',go_sem,simprocAttr]
   repeat' (
     first | refine q5z ?_ ?_ | refine q3z ?_ ?_ | refine q4z ?_ ?_
     all_goals intro aj
     all_goals first | replace aj:=q2z aj | replace aj:=q1z aj | skip
     all_goals first | subst aj | replace ax:=And.intro aj ax
     all_goals try simp only[ax,e1,e0,c',go_sem,simprocAttr])
 ·rintro e H ⟨e0,rfl⟩
  have ax:(0:Nat)=0:=rfl
  try simp only[e0,go_sem,simprocAttr]
  repeat' (
    first | refine q5z ?_ ?_ | refine q3z ?_ ?_ | refine q4z ?_ ?_
    all_goals intro aj
    all_goals first | replace aj:=q2z aj | replace aj:=q1z aj | skip
    all_goals first | subst aj | replace ax:=And.intro aj ax
    all_goals try simp only[ax,e0,go_sem,simprocAttr])
theorem eI (p:Bool) (n:Value):(p || (V.s n).ground)=true:=by cases p <;> rfl
theorem p7 (b:Nat) (h:Hp) (id:Nat) (x:W) (hx:x.ok) (hg:h[id]? =some (.cells none x.vs)):
 run fns pr b 117 [.ref id [] none 0 4 4] h=some (.bP [],h.set id (.cells none (iH x).vs)):=by
 refine Vm.aQ (nt:=78) rfl Qp (by simp) ?_
 have o9:∀c,(h.set id c)[id]? =some c:=fun c=> q9z hg
 have Ek:∀c d,(h.set id c).set id d=h.set id d:=fun c d=> adf ..
 have fk:∀c,(h.set id c).take h.length=h.set id c:=fun c=> ack (by rw[adz];exact acm _)
 have r16:∀b h y z,run fns pr b 135 [.s (.int .u32 ((xr y z:Nat):Int)),.s (.int .i64 16)] h=some (.s (.int .u32 ((pN 16 (xr y z):Nat):Int)),h):=fun b h y z=> p6 b h _ 16 (mB _ _) (by omega)
 have r12:∀b h y z,run fns pr b 135 [.s (.int .u32 ((xr y z:Nat):Int)),.s (.int .i64 12)] h=some (.s (.int .u32 ((pN 12 (xr y z):Nat):Int)),h):=fun b h y z=> p6 b h _ 12 (mB _ _) (by omega)
 have r8:∀b h y z,run fns pr b 135 [.s (.int .u32 ((xr y z:Nat):Int)),.s (.int .i64 8)] h=some (.s (.int .u32 ((pN 8 (xr y z):Nat):Int)),h):=fun b h y z=> p6 b h _ 8 (mB _ _) (by omega)
 have r7:∀b h y z,run fns pr b 135 [.s (.int .u32 ((xr y z:Nat):Int)),.s (.int .i64 7)] h=some (.s (.int .u32 ((pN 7 (xr y z):Nat):Int)),h):=fun b h y z=> p6 b h _ 7 (mB _ _) (by omega)
 simp only[W.vs] at hg
 have l0:(0:Int)<((4:Nat):Int):=by decide
 have l1:(1:Int)<((4:Nat):Int):=by decide
 have l2:(2:Int)<((4:Nat):Int):=by decide
 have l3:(3:Int)<((4:Nat):Int):=by decide
 have ax:(0:Nat)=0:=rfl
 try simp only[Mg,l0,l1,l2,l3,hg,o9,Ek,fk,Mq,yC,r16,r12,r8,r7,eI,go_sem,simprocAttr]
 repeat' (
   first | refine q5z ?_ ?_ | refine q3z ?_ ?_ | refine q4z ?_ ?_
   all_goals intro aj
   all_goals first | replace aj:=q2z aj | replace aj:=q1z aj | skip
   all_goals first | subst aj | replace ax:=And.intro aj ax
   all_goals try simp only[ax,Mg,l0,l1,l2,l3,hg,o9,Ek,fk,Mq,yC,r16,r12,r8,r7,eI,go_sem,simprocAttr])
 all_goals rfl
theorem C9 (b:Nat) (h:Hp) (x:V) (l:Bs) (hb:BR h x l) (hl:4≤l.length):run fns pr b 116 [x] h=some (.s (.int .u32 (oz l:Nat)),h):=by
 refine Vm.aQ (nt:=18) rfl Qn (by simp) ?_
 have ax:(0:Nat)=0:=rfl
 try simp only[Mf,AP,AO,go_sem,simprocAttr]
 repeat' (
   first | refine q5z ?_ ?_ | refine q3z ?_ ?_ | refine q4z ?_ ?_
   all_goals intro aj
   all_goals first | replace aj:=q2z aj | replace aj:=q1z aj | skip
   all_goals first | subst aj | replace ax:=And.intro aj ax
   all_goals try simp only[ax,Mf,AP,AO,go_sem,simprocAttr])
 have dE:SR h x none (l.map aa):=by
   rcases hb with ⟨f,rfl⟩ | ⟨id,off,bl,rfl,h1,h2,h3⟩
   ·exact .inl ⟨f,rfl⟩
   ·exact .inr ⟨id,off,bl.length,bl.map aa,by simp,h1,by simp,by simpa using h2,by rw[acy,←List.map_drop,←List.map_take,h3]⟩
 have hv:∀i,i < 4→∃u:Nat,u < 256∧(l.getD i 0).toNat=u∧(∀cf base,aC cf base h (.de none) [x,.s (.int .i64 (i:Nat))]=some (iW x i,h))∧(∀cf base,aC cf base h (.ld none) [iW x i]=some (.s (.int .u8 u),h)):=by
   intro i hi
   have h1:l[i]? =some (l.getD i 0):=by rw[List.getD,aci (by omega)];rfl
   exact ⟨_,(l.getD i 0).toNat_lt,rfl,fun cf base=> dE.ck (by simp;omega),fun cf base=> dE.fL (v:=aa (l.getD i 0)) (by rw[acv,h1];rfl) rfl⟩
 refine aV (fun m e H=>∃j,m=j∧j≤4∧e 4= .s (.int .i64 ((j:Nat) - 1))∧e 3= .s (.int .u32 (oz l / 256 ^ j:Nat))∧e 0=x∧H=h)
   (fun e H=> e 3= .s (.int .u32 (oz l:Nat))∧H=h)
   4 _ _ ⟨4,rfl,by omega,rfl,by rw[CS];rfl,rfl,rfl⟩ ?_ ?_
 ·rintro m e H ⟨j,rfl,hj,e4,e3,e0,rfl⟩
  cases m with
  | zero=>
    have c':¬(0:Int)≤((0:Nat):Int) - 1:=by omega
    rw[afT,afO] at e3
    have ax:(0:Nat)=0:=rfl
    try simp only[e4,c',go_sem,simprocAttr]
    repeat' (
      first | refine q5z ?_ ?_ | refine q3z ?_ ?_ | refine q4z ?_ ?_
      all_goals intro aj
      all_goals first | replace aj:=q2z aj | replace aj:=q1z aj | skip
      all_goals first | subst aj | replace ax:=And.intro aj ax
      all_goals try simp only[ax,e4,c',go_sem,simprocAttr])
    all_goals exact e3
  | succ j=>
    have hj1:(((j+1:Nat):Int) - 1)=(j:Int):=by omega
    rw[hj1] at e4
    have c':(0:Int)≤(j:Int):=by omega
    obtain ⟨u,hu,Ay,gf,hld⟩:=hv j (by omega)
    have aR:=yD l j (by omega)
    have El:=vC l j
    rw[Ay] at aR
    generalize oz l / 256 ^(j+1)=y at e3 aR El
    have hw:IntKind.i64.wrap ((j:Int) - 1)=(j:Int) - 1:=wrap_i64 (by omega) (by omega)
    have wu:IntKind.u32.wrap (u:Int)=(u:Int):=wrap_u32 (by omega) (by omega)
    have s1:IntKind.u32.wrap ((y:Int)* 256)=((y * 256:Nat):Int):=by rw[wrap_u32 (by omega) (by omega)];omega
    have s3:IntKind.u32.wrap (((y * 256:Nat):Int)+(u:Int))=((y * 256+u:Nat):Int):=by rw[wrap_u32 (by omega) (by omega)];omega
    rw[aR] at s3
    have ax:(0:Nat)=0:=rfl
    try simp only[e4,e3,e0,c',gf,hld,wu,s1,s3,hw,go_sem,simprocAttr]
    repeat' (
      first | refine q5z ?_ ?_ | refine q3z ?_ ?_ | refine q4z ?_ ?_
      all_goals intro aj
      all_goals first | replace aj:=q2z aj | replace aj:=q1z aj | skip
      all_goals first | subst aj | replace ax:=And.intro aj ax
      all_goals try simp only[ax,e4,e3,e0,c',gf,hld,wu,s1,s3,hw,go_sem,simprocAttr])
    all_goals exact ⟨j,by omega,j,rfl,by omega,rfl,rfl⟩
 ·rintro e H ⟨e3,rfl⟩
  have ax:(0:Nat)=0:=rfl
  try simp only[e3,go_sem,simprocAttr]
  repeat' (
    first | refine q5z ?_ ?_ | refine q3z ?_ ?_ | refine q4z ?_ ?_
    all_goals intro aj
    all_goals first | replace aj:=q2z aj | replace aj:=q1z aj | skip
    all_goals first | subst aj | replace ax:=And.intro aj ax
    all_goals try simp only[ax,e3,go_sem,simprocAttr])
end Go.Proofs.YthplailfedobeaaGreat
