/- Texts for DeviceHonest, part 3. Conditions: none. -/
import Derived.Test.YthplailfedobeaaGreatCTb
set_option linter.unusedSimpArgs false
set_option linter.unusedVariables false
set_option linter.unusedSectionVars false
namespace Go.Proofs.YthplailfedobeaaGreat
open Go Go.Vm Go.Proofs Go.Cl
set_option maxRecDepth 100000
theorem R2 (n:Nat) (h:n < 256):(UInt8.ofNat n).toNat=n:=by
 rw[aeV];omega
def mQ :List V:=bY.map aa
def wvR :List V:=[.s (.int .u32 1668047222),.s (.int .u32 1768383858),.s (.int .u32 1801807216),.s (.int .u32 1935763045)]
def mJ (l:Bs) (z:Nat):Bs:=l++[128]++List.replicate z 0
theorem Bd (l:Bs) (z:Nat):mJ l (z+1)=mJ l z++[0]:=by simp[mJ,List.replicate_succ']
theorem qQ (l:Bs) (z:Nat):(mJ l z).length=l.length+1+z:=by simp[mJ];omega
theorem Da (n:Nat):V.s (.int .u8 (IntKind.u8.wrap (n:Int)))=aa (UInt8.ofNat (n % 256)):=by
 have:IntKind.u8.wrap (n:Int)=(n:Int) % 256:=by
   simp only[IntKind.wrap,IntKind.bits,IntKind.signed];rfl
 rw[this,aa,R2 (n % 256) (by omega)]
 congr 2
theorem rD (n:Nat) (h:Hp):∀l:Bs,bA.all n h (l.map aa)=some (l.map aa)
 | []=> th n h
 | b::l=> by rw[acx,qG,rD n h l];rfl
theorem Yk (h:Hp) (a b:bc):(h++[a,b])[h.length]? =some a∧(h++[a,b])[h.length+1]? =some b:=by
 constructor
 ·rw[acB (acm _)];simp
 ·rw[acB (by omega)];simp
theorem xo (l:Bs):∀z∈l.map aa,V.ground z=true:=by
 intro z hz
 obtain ⟨b,_,rfl⟩:=ac6.1 hz
 rfl
theorem yP (l:Bs):oz (l.take 4)=oz l:=by
 simp[oz,List.getD,adL]
def GR (h:Hp):Hp:=h++[bc.cells (some 27) [.arr 27 mQ],bc.cells none wvR]
def mb (Y:W) (i:Nat):W:=⟨Y.a / 256 ^ min i 4,Y.b / 256 ^(min i 8 - 4),Y.c / 256 ^(min i 12 - 8),Y.d / 256 ^(i - 12)⟩
theorem Db (Y:W) (i:Nat) (hi:i < 16):(mb Y i).at (i / 4)=Y.at (i / 4)/ 2 ^(8 *(i % 4)):=by
 have:i=0∨i=1∨i=2∨i=3∨i=4∨i=5∨i=6∨i=7∨i=8∨i=9∨i=10∨i=11∨i=12∨i=13∨i=14∨i=15:=by omega
 rcases this with h | h | h | h | h | h | h | h | h | h | h | h | h | h | h | h <;> subst h <;> simp[mb,W.at]
theorem EI (Y:W) (i:Nat) (hi:i < 16):(mb Y i).vs.set (i / 4) (.s (.int .u32 (((mb Y i).at (i / 4)/ 256:Nat):Int)))=(mb Y (i+1)).vs:=by
 have:i=0∨i=1∨i=2∨i=3∨i=4∨i=5∨i=6∨i=7∨i=8∨i=9∨i=10∨i=11∨i=12∨i=13∨i=14∨i=15:=by omega
 rcases this with h | h | h | h | h | h | h | h | h | h | h | h | h | h | h | h <;> subst h <;> simp[mb,W.at,W.vs,aey]
theorem xp (b:Nat) (h:Hp) (x:V) (l:Bs) (hb:Rd h x l) (hl:l.length≤1000000):run fns pr b 80 [x] h=some (.arr 27 ((cV l).map aa),h):=by
 refine Vm.aQ (nt:=104) rfl WQ (by simp) ?_
 obtain ⟨g0,g1⟩:(GR h)[h.length]? =_∧(GR h)[h.length+1]? =_:=Yk h (.cells (some 27) [.arr 27 mQ]) (.cells none wvR)
 have hlG:(GR h).length=h.length+2:=by simp[GR]
 have hsx:source (GR h) x=some (none,l.map aa):=by
   have:=hb.1 (GR h) (Fw.app [] h _)
   cases x <;> first | exact this | (simp[elems] at this)
 obtain ⟨v,H1,k1,MG,xr1,En,kI,_,_,pS⟩:=(XR.nil (GR h) none (h.length+2)).Mt (n:=h.length+2) (bytes:=1) (by omega) (by omega) hsx (xo l) (by simp;omega)
 obtain ⟨v2,H2,k2,yL,xr2,yM,pK,_,_,Dc⟩:=xr1.tC (m:=1) (ys:=[aa 128]) (bytes:=1) En kI rfl (fun z hz=> by simp at hz;subst hz;rfl) (by simp;omega)
 have g0:=Dc _ _ (by omega) (pS _ _ (by omega) g0)
 have g1:=Dc _ _ (by omega) (pS _ _ (by omega) g1)
 have fw:Fw [] h H2:=Fw.xj (by omega) fun j b hj=> by
   have:=q6z hj
   exact Dc _ _ (by omega) (pS _ _ (by omega) (q10z hj _))
 have hb8:aa 128= .s (.int .u8 128):=rfl
 rw[hb8] at yL
 have xr2:XR H2 none k2 v2 ((mJ l 0).map aa):=by simpa[mJ] using xr2
 have dw:=xr1.ty
 simp only[GR,mQ,wvR] at MG
 have ax:(0:Nat)=0:=rfl
 try simp only[B80,Ib,Ia,H9,HZ,HY,HX,HW,HV,HU,HT,MG,yL,go_sem,simprocAttr]
 repeat' (
   first | refine q5z ?_ ?_ | refine q3z ?_ ?_ | refine q4z ?_ ?_
   all_goals intro aj
   all_goals first | replace aj:=q2z aj | replace aj:=q1z aj | skip
   all_goals first | subst aj | replace ax:=And.intro aj ax
   all_goals try simp only[ax,B80,Ib,Ia,H9,HZ,HY,HX,HW,HV,HU,HT,MG,yL,go_sem,simprocAttr])
 clear MG yL pS Dc hsx
 have hxl:∀cf base (h0:Hp),aC cf base h0 .len [x]=some (.s (.int .i64 l.length),h0):=fun cf base h0=> Vm.bU cf base h0 x _ hb.2
 have w1:IntKind.u64.wrap (l.length:Int)=(l.length:Int):=wrap_u64 (by omega) (by omega)
 refine aV (fun m e H=>∃z k y,m=fY l.length - z∧z≤fY l.length∧e 0=x∧e 2= .ptr h.length [0] 1∧e 3= .ref (h.length+1) [] none 0 4 4∧e 4=y∧H[h.length]? =some (.cells (some 27) [.arr 27 mQ])∧H[h.length+1]? =some (.cells none wvR)∧XR H none k y ((mJ l z).map aa)∧Fw [] h H∧h.length+2≤k∧h.length+2≤H.length)
   (fun e H=>∃k y,e 0=x∧e 2= .ptr h.length [0] 1∧e 3= .ref (h.length+1) [] none 0 4 4∧e 4=y∧H[h.length]? =some (.cells (some 27) [.arr 27 mQ])∧H[h.length+1]? =some (.cells none wvR)∧XR H none k y ((mJ l (fY l.length)).map aa)∧Fw [] h H∧h.length+2≤k∧h.length+2≤H.length)
   (fY l.length) _ _ ⟨0,k2,v2,rfl,by omega,rfl,rfl,rfl,rfl,g0,g1,xr2,fw,yM,pK⟩ ?_ ?_
 ·clear xr2 fw yM pK g0 g1 xr1 dw
  rintro m e H ⟨z,k,y,rfl,hz,e0,e2,e3,e4,cS,cT,xr,fw,hk,hlH⟩
  have j3:=fun cf base=> xr.BR.bU (cf:=cf) (base:=base) (h:=H)
  rw[qQ] at j3
  have hpd:fY l.length=(8 - (l.length+1) % 8) % 8:=rfl
  have CV:∀cf base h,aC cf base h (.bin .num .rem) [.s (.int .i64 ((l.length+1+z:Nat):Int)),.s (.int .i64 8)]=some (.s (.int .i64 (((l.length+1+z) % 8:Nat):Int)),h):=fun cf base h=> by
    rw[iJ cf base h .i64 _ 8 (by omega),adw (by omega)];rfl
  by_cases c:z < fY l.length
  ·have c':¬(((l.length+1+z) % 8:Nat):Int)=0:=by omega
   obtain ⟨x',H',k',jY,xr',mD,dF,_,hg,hold⟩:=xr.tC (m:=1) (ys:=[.s (.int .u8 0)]) (bytes:=1) hk hlH rfl (fun z hz=> by simp at hz;subst hz;rfl) (by simp[qQ];unfold fY at c;omega)
   have xr':XR H' none k' x' ((mJ l (z+1)).map aa):=by rw[Bd,adm];exact xr'
   have fw':Fw [] h H':=fw.trans' hg hold hk
   have ax:(0:Nat)=0:=rfl
   try simp only[e0,e2,e3,e4,j3,CV,c',jY,go_sem,simprocAttr]
   repeat' (
     first | refine q5z ?_ ?_ | refine q3z ?_ ?_ | refine q4z ?_ ?_
     all_goals intro aj
     all_goals first | replace aj:=q2z aj | replace aj:=q1z aj | skip
     all_goals first | subst aj | replace ax:=And.intro aj ax
     all_goals try simp only[ax,e0,e2,e3,e4,j3,CV,c',jY,go_sem,simprocAttr])
   all_goals exact ⟨fY l.length - (z+1),by omega,z+1,k',x',rfl,by omega,rfl,hold _ _ (by omega) cS,hold _ _ (by omega) cT,xr',fw',mD,dF⟩
  ·have c':(((l.length+1+z) % 8:Nat):Int)=0:=by omega
   have:z=fY l.length:=by omega
   have ax:(0:Nat)=0:=rfl
   try simp only[e0,e2,e3,e4,j3,CV,c',go_sem,simprocAttr]
   repeat' (
     first | refine q5z ?_ ?_ | refine q3z ?_ ?_ | refine q4z ?_ ?_
     all_goals intro aj
     all_goals first | replace aj:=q2z aj | replace aj:=q1z aj | skip
     all_goals first | subst aj | replace ax:=And.intro aj ax
     all_goals try simp only[ax,e0,e2,e3,e4,j3,CV,c',go_sem,simprocAttr])
   all_goals (subst this;exact ⟨k,y,rfl,cS,cT,xr,fw,hk,hlH⟩)
 ·clear xr2 fw yM pK g0 g1 xr1 dw
  rintro e H ⟨k,y,e0,e2,e3,e4,cS,cT,xr,fw,hk,hlH⟩
  have ax:(0:Nat)=0:=rfl
  try simp only[e0,e2,e3,e4,hxl,w1,go_sem,simprocAttr]
  repeat' (
    first | refine q5z ?_ ?_ | refine q3z ?_ ?_ | refine q4z ?_ ?_
    all_goals intro aj
    all_goals first | replace aj:=q2z aj | replace aj:=q1z aj | skip
    all_goals first | subst aj | replace ax:=And.intro aj ax
    all_goals try simp only[ax,e0,e2,e3,e4,hxl,w1,go_sem,simprocAttr])
  refine aV (fun m e H=>∃i k y,m=8 - i∧i≤8∧e 6= .s (.int .i64 (i:Nat))∧e 5= .s (.int .u64 ((l.length / 2 ^(8 * i):Nat):Int))∧e 2= .ptr h.length [0] 1∧e 3= .ref (h.length+1) [] none 0 4 4∧e 4=y∧H[h.length]? =some (.cells (some 27) [.arr 27 mQ])∧H[h.length+1]? =some (.cells none wvR)∧XR H none k y ((mJ l (fY l.length)++r9 l.length i).map aa)∧Fw [] h H∧h.length+2≤k∧h.length+2≤H.length)
    (fun e H=>∃y,e 2= .ptr h.length [0] 1∧e 3= .ref (h.length+1) [] none 0 4 4∧e 4=y∧H[h.length]? =some (.cells (some 27) [.arr 27 mQ])∧H[h.length+1]? =some (.cells none wvR)∧BR H y (fJ l)∧Fw [] h H)
    8 _ _ ⟨0,k,y,rfl,by omega,rfl,by simp;rfl,e2,e3,e4,cS,cT,by simpa[r9] using xr,fw,hk,hlH⟩ ?_ ?_
  ·clear xr fw hk hlH cS cT e4 y k
   rintro m e H ⟨i,k,y,rfl,hi,e6,e5,e2,e3,e4,cS,cT,xr,fw,hk,hlH⟩
   by_cases c:i < 8
   ·have c':(i:Int)< 8:=by omega
    have iA:IntKind.i64.wrap ((i:Int)+1)=((i+1:Nat):Int):=q18z (by omega)
    have hq:∀cf base h,aC cf base h (.bin .num .quo) [.s (.int .u64 ((l.length / 2 ^(8 * i):Nat):Int)),.s (.int .u64 256)]=some (.s (.int .u64 ((l.length / 2 ^(8 *(i+1)):Nat):Int)),h):=fun cf base h=> by
      have h1:l.length / 2 ^(8 * i)≤l.length:=aep _ _
      have h2:l.length / 2 ^(8 *(i+1))=l.length / 2 ^(8 * i)/ 256:=by rw[aey,show 8 *(i+1)=8 * i+8 by omega,Nat.pow_add]
      rw[yK cf base h .u64 _ 256 (by omega),h2]
      generalize l.length / 2 ^(8 * i)=n at h1
      rw[adx (by omega),wrap_u64 (by omega) (by omega)];rfl
    have nV:V.s (.int .u8 (IntKind.u8.wrap ((l.length / 2 ^(8 * i):Nat):Int)))=aa (UInt8.ofNat (l.length / 2 ^(8 * i) % 256)):=Da _
    obtain ⟨x',H',k',jY,xr',mD,dF,_,hg,hold⟩:=xr.tC (m:=1) (ys:=[.s (.int .u8 (IntKind.u8.wrap ((l.length / 2 ^(8 * i):Nat):Int)))]) (bytes:=1) hk hlH rfl (fun z hz=> by simp at hz;subst hz;rfl) (by simp[qQ,pP];unfold fY;omega)
    have xr':XR H' none k' x' ((mJ l (fY l.length)++r9 l.length (i+1)).map aa):=by rw[r9,←List.append_assoc,adm,List.map_singleton,←nV];exact xr'
    have fw':Fw [] h H':=fw.trans' hg hold hk
    have ax:(0:Nat)=0:=rfl
    try simp only[e6,e5,e2,e3,e4,c',jY,iA,hq,go_sem,simprocAttr]
    repeat' (
      first | refine q5z ?_ ?_ | refine q3z ?_ ?_ | refine q4z ?_ ?_
      all_goals intro aj
      all_goals first | replace aj:=q2z aj | replace aj:=q1z aj | skip
      all_goals first | subst aj | replace ax:=And.intro aj ax
      all_goals try simp only[ax,e6,e5,e2,e3,e4,c',jY,iA,hq,go_sem,simprocAttr])
    all_goals exact ⟨8 - (i+1),by omega,i+1,k',x',rfl,by omega,rfl,rfl,rfl,hold _ _ (by omega) cS,hold _ _ (by omega) cT,xr',fw',mD,dF⟩
   ·have c':¬(i:Int)< 8:=by omega
    have:i=8:=by omega
    have ax:(0:Nat)=0:=rfl
    try simp only[e6,e5,e2,e3,e4,c',go_sem,simprocAttr]
    repeat' (
      first | refine q5z ?_ ?_ | refine q3z ?_ ?_ | refine q4z ?_ ?_
      all_goals intro aj
      all_goals first | replace aj:=q2z aj | replace aj:=q1z aj | skip
      all_goals first | subst aj | replace ax:=And.intro aj ax
      all_goals try simp only[ax,e6,e5,e2,e3,e4,c',go_sem,simprocAttr])
    all_goals (subst this;exact ⟨y,rfl,cS,cT,xr.BR,fw⟩)
  ·clear xr fw hk hlH cS cT e4 y k
   rintro e H ⟨y,e2,e3,e4,cS,cT,br,fw⟩
   have ti:cV l=fZ (dJ (lZ (fJ l) ((fJ l).length / 8)) 8) 16:=rfl
   have RO:=ta l
   obtain ⟨N,hN⟩:∃N,(fJ l).length / 8=N:=⟨_,rfl⟩
   have hlP:=o6 l
   have hpd:fY l.length < 8:=by unfold fY;omega
   generalize fJ l=P at RO hN hlP br ti
   rw[hN] at ti
   have hP8:P.length=8 * N:=by omega
   have ax:(0:Nat)=0:=rfl
   try simp only[e2,e3,e4,go_sem,simprocAttr]
   repeat' (
     first | refine q5z ?_ ?_ | refine q3z ?_ ?_ | refine q4z ?_ ?_
     all_goals intro aj
     all_goals first | replace aj:=q2z aj | replace aj:=q1z aj | skip
     all_goals first | subst aj | replace ax:=And.intro aj ax
     all_goals try simp only[ax,e2,e3,e4,go_sem,simprocAttr])
   refine aV (fun m e H=>∃i,m=N - i∧i≤N∧e 7= .s (.int .i64 ((8 * i:Nat):Int))∧e 2= .ptr h.length [0] 1∧e 3= .ref (h.length+1) [] none 0 4 4∧e 4=y∧H[h.length]? =some (.cells (some 27) [.arr 27 mQ])∧H[h.length+1]? =some (.cells none (lZ P i).vs)∧BR H y P∧Fw [] h H)
     (fun e H=> e 2= .ptr h.length [0] 1∧e 3= .ref (h.length+1) [] none 0 4 4∧H[h.length]? =some (.cells (some 27) [.arr 27 mQ])∧H[h.length+1]? =some (.cells none (lZ P N).vs)∧Fw [] h H)
     N _ _ ⟨0,rfl,by omega,rfl,e2,e3,e4,cS,cT,by simpa using br,fw⟩ ?_ ?_
   ·clear br cS cT fw
    rintro m e H ⟨i,rfl,hi,e7,e2,e3,e4,cS,cT,br,fw⟩
    have j3:=fun cf base=> br.bU (cf:=cf) (base:=base) (h:=H)
    rw[hP8] at j3
    by_cases c:i < N
    ·have c':((8 * i:Nat):Int)<((8 * N:Nat):Int):=by omega
     have Eo:lZ P (i+1)=RJ (lZ P i) (P.drop (8 * i)):=rfl
     have hXok:=xg P i
     generalize lZ P i=X at cT Eo hXok
     have o9:∀c,(H.set (h.length+1) c)[h.length+1]? =some c:=fun c=> q9z cT
     have Ek:∀c d,(H.set (h.length+1) c).set (h.length+1) d=H.set (h.length+1) d:=fun c d=> adf ..
     have sw:∀c,(H.set (h.length+1) c)[h.length]? =some (.cells (some 27) [.arr 27 mQ]):=fun c=> by rw[acp (by omega)];exact cS
     have nW:∀c,Fw [] h (H.set (h.length+1) c):=fun c=> fw.cP (by omega) c
     have hbr:∀c,(∀bl:Bs,X.vs≠bl.map aa)→BR (H.set (h.length+1) c) y P:=fun c hq=> br.mono (Fw.MH (S:=[h.length+1]) (by simp) cT hq)
     have hnb:∀Z:W,∀bl:Bs,Z.vs≠bl.map aa:=fun Z bl he=> by
       cases bl with
       | nil=> simp[W.vs] at he
       | cons b bl=> simp[W.vs,aa] at he
     have hbr:=fun c=> hbr c (hnb X)
     have a1:IntKind.i64.wrap (((8 * i:Nat):Int)+4)=((8 * i+4:Nat):Int):=by rw[wrap_i64 (by omega) (by omega)];omega
     have a2:IntKind.i64.wrap (((8 * i:Nat):Int)+8)=((8 * i+8:Nat):Int):=by rw[wrap_i64 (by omega) (by omega)];omega
     obtain ⟨y1,hy1,br1⟩:=br.both (k:= .i64) (k':= .i64) (a:=8 * i) (r:=8 * i+4) (by omega) (by omega)
     have mT:=C9 h.length H y1 _ br1 (by simp;omega)
     have ht1:oz ((P.drop (8 * i)).take (8 * i+4 - 8 * i))=oz (P.drop (8 * i)):=by
       rw[show 8 * i+4 - 8 * i=4 by omega];exact yP _
     rw[ht1] at mT
     have A5:=cT
     simp only[W.vs] at A5
     have Yl:∀cf base,aC cf base H (.j2 none true true false) [y,.s (.int .i64 ((8 * i:Nat):Int)),.s (.int .i64 ((8 * i+4:Nat):Int))]=some (y1,H):=hy1
     obtain ⟨y2,hy2,br2⟩:=(hbr (.cells none [.s (.int .u32 (xr X.a (oz (P.drop (8 * i))):Nat)),.s (.int .u32 X.b),.s (.int .u32 X.c),.s (.int .u32 X.d)])).both (k:= .i64) (k':= .i64) (a:=8 * i+4) (r:=8 * i+8) (by omega) (by omega)
     have xh:=C9 h.length _ y2 _ br2 (by simp;omega)
     have ht2:oz ((P.drop (8 * i+4)).take (8 * i+8 - (8 * i+4)))=oz ((P.drop (8 * i)).drop 4):=by
       rw[show 8 * i+8 - (8 * i+4)=4 by omega,adn];exact yP _
     rw[ht2] at xh
     obtain ⟨W1,hW1⟩:∃W1:W,(⟨xr X.a (oz (P.drop (8 * i))),X.b,X.c,xr X.d (oz ((P.drop (8 * i)).drop 4))⟩:W)=W1:=⟨_,rfl⟩
     have RP:lZ P (i+1)=iH (iH (iH W1)):=by rw[Eo,←hW1];rfl
     have hW1ok:W1.ok:=by rw[←hW1];exact ⟨mB _ _,hXok.2.1,hXok.2.2.1,mB _ _⟩
     have hW1v:[V.s (.int .u32 ((xr X.a (oz (P.drop (8 * i))):Nat):Int)),.s (.int .u32 X.b),.s (.int .u32 X.c),.s (.int .u32 ((xr X.d (oz ((P.drop (8 * i)).drop 4)):Nat):Int))]=W1.vs:=by rw[←hW1];rfl
     have s1:=p7 h.length (H.set (h.length+1) (.cells none W1.vs)) (h.length+1) W1 hW1ok (o9 _)
     have s2:=p7 h.length (H.set (h.length+1) (.cells none (iH W1).vs)) (h.length+1) (iH W1) (pO _) (o9 _)
     have s3:=p7 h.length (H.set (h.length+1) (.cells none (iH (iH W1)).vs)) (h.length+1) (iH (iH W1)) (pO _) (o9 _)
     rw[Ek] at s1 s2 s3
     have l0:(0:Int)<((4:Nat):Int):=by decide
     have l3:(3:Int)<((4:Nat):Int):=by decide
     have ax:(0:Nat)=0:=rfl
     try simp only[e7,e2,e3,e4,j3,c',l0,l3,a1,a2,mT,A5,o9,Ek,Yl,hy2,xh,yC,eI,hW1v,s1,s2,s3,go_sem,simprocAttr]
     repeat' (
       first | refine q5z ?_ ?_ | refine q3z ?_ ?_ | refine q4z ?_ ?_
       all_goals intro aj
       all_goals first | replace aj:=q2z aj | replace aj:=q1z aj | skip
       all_goals first | subst aj | replace ax:=And.intro aj ax
       all_goals try simp only[ax,e7,e2,e3,e4,j3,c',l0,l3,a1,a2,mT,A5,o9,Ek,Yl,hy2,xh,yC,eI,hW1v,s1,s2,s3,go_sem,simprocAttr])
     all_goals exact ⟨N - (i+1),by omega,i+1,rfl,by omega,rfl,sw _,by rw[RP],hbr _,nW _⟩
    ·have c':¬((8 * i:Nat):Int)<((8 * N:Nat):Int):=by omega
     have:i=N:=by omega
     have ax:(0:Nat)=0:=rfl
     try simp only[e7,e2,e3,e4,j3,c',go_sem,simprocAttr]
     repeat' (
       first | refine q5z ?_ ?_ | refine q3z ?_ ?_ | refine q4z ?_ ?_
       all_goals intro aj
       all_goals first | replace aj:=q2z aj | replace aj:=q1z aj | skip
       all_goals first | subst aj | replace ax:=And.intro aj ax
       all_goals try simp only[ax,e7,e2,e3,e4,j3,c',go_sem,simprocAttr])
     all_goals (subst this;exact ⟨cS,cT,fw⟩)
   ·clear br cS cT fw e4
    rintro e H ⟨e2,e3,cS,cT,fw⟩
    have hXok:=xg P N
    generalize lZ P N=X at cT ti hXok
    have ax:(0:Nat)=0:=rfl
    try simp only[e2,e3,go_sem,simprocAttr]
    repeat' (
      first | refine q5z ?_ ?_ | refine q3z ?_ ?_ | refine q4z ?_ ?_
      all_goals intro aj
      all_goals first | replace aj:=q2z aj | replace aj:=q1z aj | skip
      all_goals first | subst aj | replace ax:=And.intro aj ax
      all_goals try simp only[ax,e2,e3,go_sem,simprocAttr])
    refine aV (fun m e H'=>∃j,m=8 - j∧j≤8∧e 8= .s (.int .i64 (j:Nat))∧e 2= .ptr h.length [0] 1∧e 3= .ref (h.length+1) [] none 0 4 4∧H'[h.length]? =some (.cells (some 27) [.arr 27 mQ])∧H'[h.length+1]? =some (.cells none (dJ X j).vs)∧Fw [] h H')
      (fun e H'=> e 2= .ptr h.length [0] 1∧e 3= .ref (h.length+1) [] none 0 4 4∧H'[h.length]? =some (.cells (some 27) [.arr 27 mQ])∧H'[h.length+1]? =some (.cells none (dJ X 8).vs)∧Fw [] h H')
      8 _ _ ⟨0,rfl,by omega,rfl,e2,e3,cS,cT,fw⟩ ?_ ?_
    ·clear cS cT fw
     rintro m e H' ⟨j,rfl,hj,e8,e2,e3,cS,cT,fw⟩
     by_cases c:j < 8
     ·have c':(j:Int)< 8:=by omega
      have aR:=p7 h.length H' (h.length+1) (dJ X j) (s9 hXok j) cT
      have aR:run fns pr h.length 117 [.ref (h.length+1) [] none 0 4 4] H'=some (.bP [],H'.set (h.length+1) (.cells none (dJ X (j+1)).vs)):=aR
      have o9:=q9z cT (b:= .cells none (dJ X (j+1)).vs)
      have sw:(H'.set (h.length+1) (.cells none (dJ X (j+1)).vs))[h.length]? =some (.cells (some 27) [.arr 27 mQ]):=by rw[acp (by omega)];exact cS
      have nW:Fw [] h (H'.set (h.length+1) (.cells none (dJ X (j+1)).vs)):=fw.cP (by omega) _
      have iA:IntKind.i64.wrap ((j:Int)+1)=((j+1:Nat):Int):=q18z (by omega)
      have ax:(0:Nat)=0:=rfl
      try simp only[e8,e2,e3,c',aR,iA,go_sem,simprocAttr]
      repeat' (
        first | refine q5z ?_ ?_ | refine q3z ?_ ?_ | refine q4z ?_ ?_
        all_goals intro aj
        all_goals first | replace aj:=q2z aj | replace aj:=q1z aj | skip
        all_goals first | subst aj | replace ax:=And.intro aj ax
        all_goals try simp only[ax,e8,e2,e3,c',aR,iA,go_sem,simprocAttr])
      all_goals exact ⟨8 - (j+1),by omega,j+1,rfl,by omega,rfl,sw,o9,nW⟩
     ·have c':¬(j:Int)< 8:=by omega
      have:j=8:=by omega
      subst this
      have ax:(0:Nat)=0:=rfl
      try simp only[e8,e2,e3,c',go_sem,simprocAttr]
      repeat' (
        first | refine q5z ?_ ?_ | refine q3z ?_ ?_ | refine q4z ?_ ?_
        all_goals intro aj
        all_goals first | replace aj:=q2z aj | replace aj:=q1z aj | skip
        all_goals first | subst aj | replace ax:=And.intro aj ax
        all_goals try simp only[ax,e8,e2,e3,c',go_sem,simprocAttr])
      all_goals exact ⟨cS,cT,fw⟩
    ·clear cS cT fw
     rintro e H ⟨e2,e3,cS,cT,fw⟩
     have hYok:=s9 hXok 8
     generalize dJ X 8=Y at cT ti hYok
     have ax:(0:Nat)=0:=rfl
     try simp only[e2,e3,go_sem,simprocAttr]
     repeat' (
       first | refine q5z ?_ ?_ | refine q3z ?_ ?_ | refine q4z ?_ ?_
       all_goals intro aj
       all_goals first | replace aj:=q2z aj | replace aj:=q1z aj | skip
       all_goals first | subst aj | replace ax:=And.intro aj ax
       all_goals try simp only[ax,e2,e3,go_sem,simprocAttr])
     have gU:h.length+1 < H.length:=q6z cT
     have hT:(H++[bc.cells (some 27) [.arr 27 mQ]])[H.length]? =_:=aH H [bc.cells (some 27) [.arr 27 mQ]]
     obtain ⟨o,ho⟩:∃o,H.length=o:=⟨_,rfl⟩
     refine aV (fun m e H'=>∃i,m=16 - i∧i≤16∧e 10= .s (.int .i64 (i:Nat))∧e 2= .ptr h.length [0] 1∧e 3= .ref (h.length+1) [] none 0 4 4∧e 9= .ptr o [0] 1∧H'[h.length]? =some (.cells (some 27) [.arr 27 mQ])∧H'[h.length+1]? =some (.cells none (mb Y i).vs)∧H'[o]? =some (.cells (some 27) [.arr 27 ((fZ Y i++List.replicate (16 - i) 0).map aa)])∧Fw [] h H')
       (fun e H'=> e 2= .ptr h.length [0] 1∧e 9= .ptr o [0] 1∧H'[h.length]? =some (.cells (some 27) [.arr 27 mQ])∧H'[o]? =some (.cells (some 27) [.arr 27 ((fZ Y 16).map aa)])∧Fw [] h H')
       16 _ _ ⟨0,rfl,by omega,rfl,e2,e3,by rw[←ho];rfl,q10z cS _,by rw[show mb Y 0=Y by simp[mb]];exact q10z cT _,by rw[←ho];exact hT,fw.trans (Fw.app _ _ _)⟩ ?_ ?_
     ·clear hT cS cT fw
      rintro m e H' ⟨i,rfl,hi,e10,e2,e3,e9,cS,cT,jZ,fw⟩
      by_cases c:i < 16
      ·have c':(i:Int)< 16:=by omega
       have c16:(i:Int)<((16:Nat):Int):=by omega
       have i0:(0:Int)≤(i:Int):=by omega
       have hq:∀cf base h,aC cf base h (.bin .num .quo) [.s (.int .i64 i),.s (.int .i64 4)]=some (.s (.int .i64 ((i / 4:Nat):Int)),h):=fun cf base h=> by
         rw[yK cf base h .i64 _ 4 (by omega),adx (by omega),wrap_i64 (by omega) (by omega)];rfl
       have hYv:(mb Y i).vs[i / 4]? =some (.s (.int .u32 (((mb Y i).at (i / 4):Nat):Int))):=by
         have:i / 4=0∨i / 4=1∨i / 4=2∨i / 4=3:=by omega
         rcases this with h | h | h | h <;> rw[h]<;> rfl
       have hq2:∀cf base h,aC cf base h (.bin .num .quo) [.s (.int .u32 (((mb Y i).at (i / 4):Nat):Int)),.s (.int .u32 256)]=some (.s (.int .u32 (((mb Y i).at (i / 4)/ 256:Nat):Int)),h):=fun cf base h=> by
         have bR:(mb Y i).at (i / 4)< 4294967296:=by
           rw[Db Y i c]
           refine aez (aep _ _) ?_
           have:i / 4=0∨i / 4=1∨i / 4=2∨i / 4=3:=by omega
           rcases this with h | h | h | h <;> rw[h]
           ·exact hYok.1
           ·exact hYok.2.1
           ·exact hYok.2.2.1
           ·exact hYok.2.2.2
         generalize (mb Y i).at (i / 4)=n at bR
         rw[yK cf base h .u32 _ 256 (by omega),adx (by omega),wrap_u32 (by omega) (by omega)];rfl
       have hYl:(mb Y i).vs.length=4:=rfl
       have c4:((i / 4:Nat):Int)< 4:=by omega
       have c4':((i / 4:Nat):Int)<((4:Nat):Int):=by omega
       have j0:(0:Int)≤((i / 4:Nat):Int):=by omega
       have c4n:i / 4 < 4:=by omega
       have CW:((fZ Y i++List.replicate (16 - i) 0).map aa).length=16:=by rw[acy,aco,iI,ac8];omega
       obtain ⟨z,hz,hzt⟩:∃z,((fZ Y i++List.replicate (16 - i) 0).map aa)[i]? =some z∧z.ty=none:=by
         refine ⟨aa ((fZ Y i++List.replicate (16 - i) 0)[i]'(by rw[acy] at CW;omega)),?_,rfl⟩
         rw[acv,aci (by rw[acy] at CW;omega)];rfl
       have aR:((fZ Y i++List.replicate (16 - i) 0).map aa).set i (V.s (.int .u8 (IntKind.u8.wrap (((mb Y i).at (i / 4):Nat):Int))))=(fZ Y (i+1)++List.replicate (16 - (i+1)) 0).map aa:=by
         rw[Da,Db Y i c,←List.map_set,ac9 _ _ (by rw[iI];exact acm _),iI,aeU,show 16 - i=(16 - (i+1))+1 by omega,aeh,ad4,fZ,acs]
         rfl
       have tj:=EI Y i c
       generalize (fZ Y i++List.replicate (16 - i) 0).map aa=vs at jZ CW hz aR
       generalize aaW:(mb Y (i+1)).vs=vs1 at tj
       generalize (mb Y i).vs=vs0 at cT hYv hYl tj
       generalize Ym:(fZ Y (i+1)++List.replicate (16 - (i+1)) 0).map aa=vo at aR
       have aaT:h.length+1≠o:=by omega
       have abW:o≠h.length+1:=by omega
       have aaU:h.length≠o:=by omega
       have p1:∀c,(H'.set o c)[h.length+1]? =some (.cells none vs0):=fun c=> by rw[acp (by omega)];exact cT
       have n0:∀c d,((H'.set o c).set (h.length+1) d)[h.length]? =some (.cells (some 27) [.arr 27 mQ]):=fun c d=> by rw[acp (by omega),acp (by omega)];exact cS
       have n1:∀c d,((H'.set o c).set (h.length+1) d)[h.length+1]? =some d:=fun c d=> q9z (p1 c)
       have n2:∀c d,((H'.set o c).set (h.length+1) d)[o]? =some c:=fun c d=> by rw[acp (by omega)];exact q9z jZ
       have nf:∀c d,Fw [] h ((H'.set o c).set (h.length+1) d):=fun c d=>(fw.cP (by omega) _).cP (by omega) _
       have iA:IntKind.i64.wrap ((i:Int)+1)=((i+1:Nat):Int):=q18z (by omega)
       have ax:(0:Nat)=0:=rfl
       try simp only[e10,e2,e3,e9,c',c16,i0,hq,hq2,hYv,hYl,c4,c4',j0,c4n,CW,hz,hzt,aR,tj,cS,cT,jZ,p1,eI,iA,acC,go_sem,simprocAttr]
       repeat' (
         first | refine q5z ?_ ?_ | refine q3z ?_ ?_ | refine q4z ?_ ?_
         all_goals intro aj
         all_goals first | replace aj:=q2z aj | replace aj:=q1z aj | skip
         all_goals first | subst aj | replace ax:=And.intro aj ax
         all_goals try simp only[ax,e10,e2,e3,e9,c',c16,i0,hq,hq2,hYv,hYl,c4,c4',j0,c4n,CW,hz,hzt,aR,tj,cS,cT,jZ,p1,eI,iA,acC,go_sem,simprocAttr])
       all_goals exact ⟨16 - (i+1),by omega,i+1,rfl,by omega,rfl,n0 _ _,by rw[aaW];exact n1 _ _,by rw[Ym];exact n2 _ _,nf _ _⟩
      ·have c':¬(i:Int)< 16:=by omega
       have:i=16:=by omega
       subst this
       rw[aeU,afb,acL] at jZ
       have ax:(0:Nat)=0:=rfl
       try simp only[e10,e2,e3,e9,c',go_sem,simprocAttr]
       repeat' (
         first | refine q5z ?_ ?_ | refine q3z ?_ ?_ | refine q4z ?_ ?_
         all_goals intro aj
         all_goals first | replace aj:=q2z aj | replace aj:=q1z aj | skip
         all_goals first | subst aj | replace ax:=And.intro aj ax
         all_goals try simp only[ax,e10,e2,e3,e9,c',go_sem,simprocAttr])
       all_goals exact ⟨cS,jZ,fw⟩
     ·clear hT cS cT fw
      rintro e H' ⟨e2,e9,cS,jZ,fw⟩
      have fk:∀c,(H'.set h.length c).take h.length=h:=fun c=>(fw.cP (acm _) c).take
      have o9:∀c,(H'.set h.length c)[h.length]? =some c:=fun c=> q9z cS
      rw[←ti] at jZ
      have dt:∀n h,bA.all n h ((cV l).map aa)=some ((cV l).map aa):=fun n h=> rD n h (cV l)
      generalize (cV l).map aa=ws at jZ dt
      have ax:(0:Nat)=0:=rfl
      try simp only[e2,e9,cS,jZ,fk,o9,eI,dt,go_sem,simprocAttr]
      repeat' (
        first | refine q5z ?_ ?_ | refine q3z ?_ ?_ | refine q4z ?_ ?_
        all_goals intro aj
        all_goals first | replace aj:=q2z aj | replace aj:=q1z aj | skip
        all_goals first | subst aj | replace ax:=And.intro aj ax
        all_goals try simp only[ax,e2,e9,cS,jZ,fk,o9,eI,dt,go_sem,simprocAttr])
end Go.Proofs.YthplailfedobeaaGreat
namespace Go.Vm
theorem xq {h:Hp} {j t:Nat} {g:Option Nat} {l:List UInt8} (hg:h[j]? =some (.cells g [.arr t (l.map aa)])):elems h (.ref j [0] none 0 l.length 1)=some (none,l.map aa):=by
 simp only[elems,Vm.rowAt,node,rowOf,hg,nodeAt,acR,ada,if_true,acM,acO,ac2,p8]
end Go.Vm
namespace Go.Proofs.YthplailfedobeaaGreat
open Go Go.Vm Go.Proofs Go.Cl
set_option maxRecDepth 100000
def az (id:Bs):Nat:=((cV id).getD 0 0).toNat % 16
theorem ie (id:Bs):az id < 16:=aeI _ (by decide)
theorem MI (b:Nat) (x:V) (h:Hp):run fns pr b 71 [x] h=yE [x] h:=by
 rw[pa fns pr rfl];rfl
theorem MJ (b:Nat) {h:Hp} {j t:Nat} {g:Option Nat} {l:Bs} (hg:h[j]? =some (.cells g [.arr t (l.map aa)])) (hl:l.length≤1000000):run fns pr b 71 [.ref j [0] none 0 l.length 1] h=some (.arr 27 ((cV l).map aa),h):=by
 rw[MI];exact CT (Rd.mk' (xq hg) rfl) hl
theorem Yn (l:Bs):∃u:Nat,u < 256∧((cV l).map aa)[0]? =some (.s (.int .u8 u))∧((cV l).getD 0 0).toNat=u:=by
 have h:=bq l
 refine ⟨((cV l).getD 0 0).toNat,UInt8.toNat_lt _,?_,rfl⟩
 rw[acv,List.getD,aci (by omega)]
 rfl
theorem mc (b:Nat) (h:Hp) (id:Bs) (hl:id.length≤1000000):run fns pr b 74 [.arr 54 (id.map aa)] h=some (.s (.int .i64 (az id:Nat)),h):=by
 refine Vm.aQ (nt:=8) rfl WD (by simp) ?_
 have hs:=MJ h.length (h:=h++[.cells (some 54) [.arr 54 (id.map aa)]]) (aH _ _) hl
 obtain ⟨u,hu,h0,he⟩:=Yn id
 have hlen:((cV id).map aa).length=16:=by rw[acy,bq]
 have hr:∀cf base h,aC cf base h (.bin .num .rem) [.s (.int .u8 (u:Int)),.s (.int .u8 16)]=some (.s (.int .u8 ((u % 16:Nat):Int)),h):=fun cf base h=> by
   rw[iJ cf base h .u8 _ 16 (by omega),adw (by omega)];rfl
 have hw:IntKind.i64.wrap ((u % 16:Nat):Int)=((u % 16:Nat):Int):=wrap_i64 (by omega) (by omega)
 have j5:az id=u % 16:=by rw[az,he]
 generalize (cV id).map aa=ws at hs h0 hlen
 rw[j5]
 have hix:∀cf base h,aC cf base h (.idx 27) [.arr 27 ws,.s (.int .i64 0)]=some (.s (.int .u8 u),h):=fun cf base h=> by
   have h1:(0:Int)<((16:Nat):Int):=by decide
   simp only[aC,rE,numOf,hlen,h0,h1,Int.le_refl,and_self,if_true,Int.toNat_zero,acO]
 have ax:(0:Nat)=0:=rfl
 try simp only[B74,hs,hix,hr,hw,go_sem,simprocAttr]
 repeat' (
   first | refine q5z ?_ ?_ | refine q3z ?_ ?_ | refine q4z ?_ ?_
   all_goals intro aj
   all_goals first | replace aj:=q2z aj | replace aj:=q1z aj | skip
   all_goals first | subst aj | replace ax:=And.intro aj ax
   all_goals try simp only[ax,B74,hs,hix,hr,hw,go_sem,simprocAttr])
theorem kf (b:Nat) (h:Hp) (id:Bs) (hl:id.length≤1000000):run fns pr b 38 [.arr 54 (id.map aa)] h=some (.s (.int .i64 (az id:Nat)),h):=by
 refine Vm.aQ (nt:=10) rfl Vs (by simp) ?_
 have hs:=fun t=> xp h.length (h++t) (.ref h.length [0] none 0 id.length 1) id
 have hs:=xp h.length (h++[.cells (some 54) [.arr 54 (id.map aa)]]) (.ref h.length [0] none 0 id.length 1) id (Rd.mk' (xq (aH _ _)) rfl) hl
 obtain ⟨u,hu,h0,he⟩:=Yn id
 have hlen:((cV id).map aa).length=16:=by rw[acy,bq]
 have hr:∀cf base h,aC cf base h (.bin .num .rem) [.s (.int .u8 (u:Int)),.s (.int .u8 16)]=some (.s (.int .u8 ((u % 16:Nat):Int)),h):=fun cf base h=> by
   rw[iJ cf base h .u8 _ 16 (by omega),adw (by omega)];rfl
 have hw:IntKind.i64.wrap ((u % 16:Nat):Int)=((u % 16:Nat):Int):=wrap_i64 (by omega) (by omega)
 have j5:az id=u % 16:=by rw[az,he]
 generalize (cV id).map aa=ws at hs h0 hlen
 rw[j5]
 have ax:(0:Nat)=0:=rfl
 try simp only[B38,Int.cast_ofNat_Int,hs,hlen,h0,hr,hw,go_sem,simprocAttr]
 repeat' (
   first | refine q5z ?_ ?_ | refine q3z ?_ ?_ | refine q4z ?_ ?_
   all_goals intro aj
   all_goals first | replace aj:=q2z aj | replace aj:=q1z aj | skip
   all_goals first | subst aj | replace ax:=And.intro aj ax
   all_goals try simp only[ax,B38,Int.cast_ofNat_Int,hs,hlen,h0,hr,hw,go_sem,simprocAttr])
theorem Dd (b:Nat) (x y:V) (h:Hp):run fns pr b 111 [x,y] h=Je (elems h x) (elems h y) h:=by
 rw[pa fns pr rfl];exact I9 _ _ _
theorem me (b:Nat) (vs:List V) (h:Hp):run fns pr b 110 vs h=fC (some 56) 96 vs h:=by
 rw[pa fns pr rfl];rfl
theorem jE (l:List ae):V.plain.all (l.map ae.enc)=true:=by
 induction l with
 | nil=> rfl
 | cons v l ih=> simp only[acx,tE,ih,ae.enc,go_sem]
def TR (h:Hp) (t k:Nat) (l:List ae):Prop:=
 ∃x,h[t]? =some (.cells (some 141) [.st 141 [x]])∧
  ((x= .al true (some 56) []∧l=[]∧k=t)∨(x= .ref k [] (some 56) 0 l.length l.length∧k≠t∧h[k]? =some (.cells (some 56) (l.map ae.enc))))
theorem TR.mono {S:List Nat} {h h':Hp} {t k:Nat} {l:List ae} (ho:TR h t k l) (f:Fw S h h') (hi:t∉S) (hk:k∉S):TR h' t k l:=by
 obtain ⟨x,h1,h2⟩:=ho
 refine ⟨x,f.db _ _ h1 hi,?_⟩
 rcases h2 with h2 | ⟨a,b,c⟩
 ·exact .inl h2
 ·exact .inr ⟨a,b,f.db _ _ c hk⟩
theorem TR.lt {h:Hp} {t k:Nat} {l:List ae} (ho:TR h t k l):t < h.length∧k < h.length:=by
 obtain ⟨x,h1,h2⟩:=ho
 refine ⟨q6z h1,?_⟩
 rcases h2 with ⟨_,_,rfl⟩ | ⟨_,_,h3⟩
 ·exact q6z h1
 ·exact q6z h3
theorem MK (b:Nat) (h:Hp) (t k:Nat) (l:List ae) (ho:TR h t k l):run fns pr b 100 [.ptr t [0] 1] h=some (.s (.int .i64 l.length),h):=by
 refine Vm.aQ (nt:=8) rfl PS (by simp) ?_
 obtain ⟨x,h1,⟨rfl,rfl,rfl⟩ | ⟨rfl,h2,h3⟩⟩:=ho
 ·have ax:(0:Nat)=0:=rfl
  try simp only[Ef,h1,go_sem,simprocAttr]
  repeat' (
    first | refine q5z ?_ ?_ | refine q3z ?_ ?_ | refine q4z ?_ ?_
    all_goals intro aj
    all_goals first | replace aj:=q2z aj | replace aj:=q1z aj | skip
    all_goals first | subst aj | replace ax:=And.intro aj ax
    all_goals try simp only[ax,Ef,h1,go_sem,simprocAttr])
  all_goals rfl
 ·have ax:(0:Nat)=0:=rfl
  try simp only[Ef,h1,go_sem,simprocAttr]
  repeat' (
    first | refine q5z ?_ ?_ | refine q3z ?_ ?_ | refine q4z ?_ ?_
    all_goals intro aj
    all_goals first | replace aj:=q2z aj | replace aj:=q1z aj | skip
    all_goals first | subst aj | replace ax:=And.intro aj ax
    all_goals try simp only[ax,Ef,h1,go_sem,simprocAttr])
theorem sC (b:Nat) (h:Hp) (f:Bool) (v:ae) (hl:v.cx.length≤140737488355328):run fns pr b 109 [v.ek f] h=some (v.enc,h):=by
 refine Vm.aQ (nt:=8) rfl Qf (by simp) ?_
 obtain ⟨a1,a2,a3,a4,a5,a6,a7,a8,a9⟩:=v
 simp only at hl
 have hc:=fun h0=> yQ (h:=h0) (dp h0 f a4) hl
 have cl:∀A B C D,bA h.length (h++A::B::ct a4) (cv (h++[C,D]) a4)=some (.al false none (a4.map aa)):=fun A B C D=> by
   have:=ML h.length (h++[C,D]) (h++[A,B]) a4 (by simp) (by simp)
   rwa [acs] at this
 simp only[Qd,ae.ek,ae.enc,jw,hc,Pn,yR,cl,acq,go_sem,simprocAttr]
theorem Jf (b:Nat) (h:Hp) (v:ae) (id:Bs):run fns pr b 131 [v.enc,.arr 54 (id.map aa)] h=some (.s (.int .i64 (bB v.iD id)),h):=by
 refine Vm.aQ (nt:=9) rfl QY (by simp) ?_
 have hc:=fun x y h0=> Dd h.length x y h0
 have ax:(0:Nat)=0:=rfl
 try simp only[Ml,ae.enc,hc,go_sem,simprocAttr]
 repeat' (
   first | refine q5z ?_ ?_ | refine q3z ?_ ?_ | refine q4z ?_ ?_
   all_goals intro aj
   all_goals first | replace aj:=q2z aj | replace aj:=q1z aj | skip
   all_goals first | subst aj | replace ax:=And.intro aj ax
   all_goals try simp only[ax,Ml,ae.enc,hc,go_sem,simprocAttr])
theorem EJ (b:Nat) (h:Hp) (x:V) (l:List ae) (id:Bs) (hx:SR h x (some 56) (l.map ae.enc)) (hr:fc l) (hl:l.length≤1000):
 run fns pr b 130 [x,.arr 54 (id.map aa),.fn 131 []] h=some (.bP [.s (.int .i64 (pos l id)),.s (.bool (decide ((l[pos l id]?).map ae.iD=some id)))],h):=by
 refine Vm.aQ (nt:=49) rfl QW (by simp) ?_
 have hlen:=fun cf base h0=> hx.bU (cf:=cf) (base:=base) (h:=h0)
 simp only[acy] at hlen
 have jm:SR (h++[.cells (some 54) [.arr 54 (id.map aa)]]) x (some 56) (l.map ae.enc):=hx.app _
 generalize hH:h++[.cells (some 54) [.arr 54 (id.map aa)]]=H at jm
 have hHl:H[h.length]? =some (.cells (some 54) [.arr 54 (id.map aa)]):=by rw[←hH];exact aH _ _
 have hHt:H.take h.length=h:=by rw[←hH];simp
 have hp:=Jd l id
 have MM:=fun cf base k (i:Nat) hi=> jm.ck (cf:=cf) (base:=base) (k:=k) (i:=i) hi
 have hld:=fun cf base (i:Nat) (v:ae) (hv:l[i]? =some v)=> jm.fL (cf:=cf) (base:=base) (i:=i) (v:=v.enc) (by rw[acv,hv];rfl) rfl
 have hf:=fun h0 v=> Jf h.length h0 v id
 simp only[acy] at MM
 have ax:(0:Nat)=0:=rfl
 try simp only[Mk,AU,AT,hlen,hH,go_sem,simprocAttr]
 repeat' (
   first | refine q5z ?_ ?_ | refine q3z ?_ ?_ | refine q4z ?_ ?_
   all_goals intro aj
   all_goals first | replace aj:=q2z aj | replace aj:=q1z aj | skip
   all_goals first | subst aj | replace ax:=And.intro aj ax
   all_goals try simp only[ax,Mk,AU,AT,hlen,hH,go_sem,simprocAttr])
 refine aV (fun m e hh=>∃i j:Nat,m=j - i∧i≤pos l id∧pos l id≤j∧j≤l.length∧e 9= .s (.int .i64 i)∧e 10= .s (.int .i64 j)∧e 8= .s (.int .i64 l.length)∧e 0=x∧e 2= .fn 131 []∧e 4= .ptr h.length [0] 1∧hh=H)
   (fun e hh=> e 9= .s (.int .i64 (pos l id))∧e 8= .s (.int .i64 l.length)∧e 0=x∧e 2= .fn 131 []∧e 4= .ptr h.length [0] 1∧hh=H) l.length _ _ ⟨0,l.length,by omega,by omega,hp,by omega,?_,?_,?_,?_,?_,?_,rfl⟩ ?_ ?_
 rotate_right 2
 ·rintro m e hh ⟨i,j,rfl,h1,h2,h3,e9,e10,e8,e0',e2,e4,rfl⟩
  by_cases c:i < j
  ·have c':(i:Int)< j:=by omega
   have mT:IntKind.i64.wrap ((i:Int)+j)=(i:Int)+j:=wrap_i64 (by omega) (by omega)
   have xh:IntKind.u64.wrap ((i:Int)+j)=(i:Int)+j:=wrap_u64 (by omega) (by omega)
   have pJ:=fun cf base h=> pR (cf:=cf) (base:=base) (h:=h) .u64 .u64 ((i:Int)+j) 1 (by decide)
   have R3:=fun cf base h=> pR (cf:=cf) (base:=base) (h:=h) .u64 .i64 ((i:Int)+j) 1 (by decide)
   have hs:qE .u64 ((i:Int)+j) 1=(((i+j)/ 2:Nat):Int):=by
     simp only[qE,show min (Int.toNat 1) IntKind.u64.bits=1 from rfl]
     rw[aeL _ (by decide)];omega
   have hw3:IntKind.i64.wrap (((i+j)/ 2:Nat):Int)=(((i+j)/ 2:Nat):Int):=wrap_i64 (by omega) (by omega)
   obtain ⟨t,ht⟩:∃t,t=(i+j)/ 2:=⟨_,rfl⟩
   rw[←ht] at hs hw3
   have hti:i≤t:=by omega
   have htj:t < j:=by omega
   have tF:t < l.length:=by omega
   have hv:l[t]? =some l[t]:=aci tF
   generalize l[t]=v at hv
   have bR:=xn hr hv (id:=id)
   have gf:=fun cf base k=> MM cf base k t tF
   have gU:=fun cf base=> hld cf base t v hv
   have hw4:IntKind.i64.wrap ((t:Int)+1)=((t+1:Nat):Int):=q18z (by omega)
   have ax:(0:Nat)=0:=rfl
   try simp only[e9,e10,e8,e0',e2,e4,c',mT,xh,pJ,R3,hs,hw3,gf,gU,hHl,hf,hw4,acM,go_sem,simprocAttr]
   repeat' (
     first | refine q5z ?_ ?_ | refine q3z ?_ ?_ | refine q4z ?_ ?_
     all_goals intro aj
     all_goals first | replace aj:=q2z aj | replace aj:=q1z aj | skip
     all_goals first | subst aj | replace ax:=And.intro aj ax
     all_goals try simp only[ax,e9,e10,e8,e0',e2,e4,c',mT,xh,pJ,R3,hs,hw3,gf,gU,hHl,hf,hw4,acM,go_sem,simprocAttr])
   all_goals clear MM hld gf gU hf hlen pJ R3
   ·simp only[decide_eq_true_eq] at ax
    exact ⟨j - (t+1),by omega,t+1,j,rfl,by omega,h2,h3,rfl,rfl⟩
   ·simp only[decide_eq_false_iff_not] at ax
    exact ⟨t - i,by omega,i,t,rfl,h1,by omega,by omega,rfl,rfl⟩
  ·have c':¬(i:Int)< j:=by omega
   obtain rfl:i=pos l id:=by omega
   have ax:(0:Nat)=0:=rfl
   try simp only[e9,e10,e8,e0',e2,e4,c',go_sem,simprocAttr]
   repeat' (
     first | refine q5z ?_ ?_ | refine q3z ?_ ?_ | refine q4z ?_ ?_
     all_goals intro aj
     all_goals first | replace aj:=q2z aj | replace aj:=q1z aj | skip
     all_goals first | subst aj | replace ax:=And.intro aj ax
     all_goals try simp only[ax,e9,e10,e8,e0',e2,e4,c',go_sem,simprocAttr])
 ·rintro e hh ⟨e9,e8,e0',e2,e4,rfl⟩
  by_cases c:pos l id < l.length
  ·have c':(pos l id:Int)< l.length:=by omega
   have hv:l[pos l id]? =some l[pos l id]:=aci c
   generalize l[pos l id]=v at hv
   have gf:=fun cf base k=> MM cf base k _ c
   have gU:=fun cf base=> hld cf base _ v hv
   have hz:decide (v.iD=id)=decide (bB v.iD id=0):=by
     rw[decide_eq_decide]
     exact ⟨fun h=> by rw[h];exact eo _,iL _ _⟩
   have ax:(0:Nat)=0:=rfl
   try simp only[e9,e8,e0',e2,e4,c',hv,gf,gU,hHl,hHt,hf,hz,acM,acO,go_sem,simprocAttr]
   repeat' (
     first | refine q5z ?_ ?_ | refine q3z ?_ ?_ | refine q4z ?_ ?_
     all_goals intro aj
     all_goals first | replace aj:=q2z aj | replace aj:=q1z aj | skip
     all_goals first | subst aj | replace ax:=And.intro aj ax
     all_goals try simp only[ax,e9,e8,e0',e2,e4,c',hv,gf,gU,hHl,hHt,hf,hz,acM,acO,go_sem,simprocAttr])
  ·have c':¬(pos l id:Int)< l.length:=by omega
   have hv:l[pos l id]? =none:=acW (by omega)
   have ax:(0:Nat)=0:=rfl
   try simp only[e9,e8,e0',e2,e4,c',hv,hHt,aej,go_sem,simprocAttr]
   repeat' (
     first | refine q5z ?_ ?_ | refine q3z ?_ ?_ | refine q4z ?_ ?_
     all_goals intro aj
     all_goals first | replace aj:=q2z aj | replace aj:=q1z aj | skip
     all_goals first | subst aj | replace ax:=And.intro aj ax
     all_goals try simp only[ax,e9,e8,e0',e2,e4,c',hv,hHt,aej,go_sem,simprocAttr])
   all_goals simp
 all_goals rfl
theorem De (b:Nat) (h:Hp) (t k:Nat) (l:List ae) (id:Bs) (ho:TR h t k l) (hr:fc l) (hl:l.length≤1000):
 run fns pr b 108 [.ptr t [0] 1,.arr 54 (id.map aa)] h=some (.bP [.s (.int .i64 (pos l id)),.s (.bool (decide ((l[pos l id]?).map ae.iD=some id)))],h):=by
 refine Vm.aQ (nt:=14) rfl Qc (by simp) ?_
 obtain ⟨x,h1,hh⟩:=ho
 have hx:SR h x (some 56) (l.map ae.enc):=by
   rcases hh with ⟨rfl,rfl,_⟩ | ⟨rfl,_,h3⟩
   ·exact .inl ⟨_,rfl⟩
   ·exact ma h3 (by simp)
 have dw:=hx.ty
 have hs:=fun t'=> EJ h.length (h++t') x l id (hx.app t') hr hl
 have hg:=fun t'=> q10z h1 t'
 have ax:(0:Nat)=0:=rfl
 try simp only[Mc,hs,hg,dw,go_sem,simprocAttr]
 repeat' (
   first | refine q5z ?_ ?_ | refine q3z ?_ ?_ | refine q4z ?_ ?_
   all_goals intro aj
   all_goals first | replace aj:=q2z aj | replace aj:=q1z aj | skip
   all_goals first | subst aj | replace ax:=And.intro aj ax
   all_goals try simp only[ax,Mc,hs,hg,dw,go_sem,simprocAttr])
def jn (l:List ae) (id:Bs):Option ae:=if (l[pos l id]?).map ae.iD=some id then l[pos l id]? else none
theorem MN (b:Nat) (h:Hp) (t k:Nat) (l:List ae) (id:Bs) (ho:TR h t k l) (hr:fc l) (hl:l.length≤1000) (hs:∀v∈l,v.cx.length≤64):
 run fns pr b 99 [.ptr t [0] 1,.arr 54 (id.map aa)] h=some (.bP [((jn l id).getD zeroV).enc,.s (.bool (jn l id).isSome)],h):=by
 refine Vm.aQ (nt:=25) rfl Xp (by simp) ?_
 have hf:=fun t'=> De h.length (h++t') t k l id (ho.mono (Fw.app [] h t') (by simp) (by simp)) hr hl
 obtain ⟨x,h1,hh⟩:=ho
 have hx:SR h x (some 56) (l.map ae.enc):=by
   rcases hh with ⟨rfl,rfl,_⟩ | ⟨rfl,_,h3⟩
   ·exact .inl ⟨_,rfl⟩
   ·exact ma h3 (by simp)
 have dw:=hx.ty
 have hg:=fun t'=> q10z h1 t'
 unfold jn
 by_cases c:(l[pos l id]?).map ae.iD=some id
 ·rw[if_pos c]
  cases hv:l[pos l id]? with
  | none=> rw[hv] at c;cases c
  | some v=>
    have bR:=(acj.1 hv).1
    have p9:=hs v (acw hv)
    have gf:=fun cf base t'=>(hx.app t').ck (cf:=cf) (base:=base) (k:= .i64) (i:=pos l id) (by simpa using bR)
    have gU:=fun cf base t'=>(hx.app t').fL (cf:=cf) (base:=base) (i:=pos l id) (v:=v.enc) (by rw[acv,hv];rfl) rfl
    have jd:=fun h0=> sC h.length h0 false v (by omega)
    rw[←ae.lu] at jd
    have ax:(0:Nat)=0:=rfl
    try simp only[B99,hf,hg,dw,c,gf,gU,jd,aJ,aK,xl,acX,adr,go_sem,simprocAttr]
    repeat' (
      first | refine q5z ?_ ?_ | refine q3z ?_ ?_ | refine q4z ?_ ?_
      all_goals intro aj
      all_goals first | replace aj:=q2z aj | replace aj:=q1z aj | skip
      all_goals first | subst aj | replace ax:=And.intro aj ax
      all_goals try simp only[ax,B99,hf,hg,dw,c,gf,gU,jd,aJ,aK,xl,acX,adr,go_sem,simprocAttr])
 ·rw[if_neg c]
  have ax:(0:Nat)=0:=rfl
  try simp only[B99,hf,hg,dw,c,gv,dR,go_sem,simprocAttr]
  repeat' (
    first | refine q5z ?_ ?_ | refine q3z ?_ ?_ | refine q4z ?_ ?_
    all_goals intro aj
    all_goals first | replace aj:=q2z aj | replace aj:=q1z aj | skip
    all_goals first | subst aj | replace ax:=And.intro aj ax
    all_goals try simp only[ax,B99,hf,hg,dw,c,gv,dR,go_sem,simprocAttr])
  rfl
theorem jF (v:ae):v.enc.ground=true:=by
 have:v.enc.plain=true:=by simp only[ae.enc,go_sem]
 exact gC _ this
def qa (l:List ae) (v:ae):Int×List ae:=
 if aP v=false then (1,l) else if (l[pos l v.iD]?).map ae.iD=some v.iD then (0,l.set (pos l v.iD) v) else if 4≤l.length then (13,l) else (0,l.take (pos l v.iD)++[v]++l.drop (pos l v.iD))
theorem MO (b:Nat) (h:Hp) (t k:Nat) (l:List ae) (v:ae) (hb:b≤t) (ho:TR h t k l) (hr:fc l) (hl:l.length≤4):
 ∃h' k',run fns pr b 75 [.ptr t [0] 1,v.enc] h=some (.s (.int .i64 (qa l v).1),h')∧TR h' t k' (qa l v).2∧Fw [t,k] h h'∧(k'=k∨h.length≤k'):=by
 have hf:=fun t'=> De b (h++t') t k l v.iD (ho.mono (Fw.app [] h t') (by simp) (by simp)) hr (by omega)
 have iB:=fun h0 f=> gz b h0 f v
 have jd:=fun hs h0=> sC b h0 false v hs
 simp only[←ae.lu] at jd
 have oF:=fun h0=> iB h0 false
 simp only[←ae.lu] at oF
 have tF:=ho.lt
 unfold qa
 cases hv:aP v with
 | false=>
   rw[if_pos rfl]
   suffices h:∃w h',run fns pr b 75 [.ptr t [0] 1,v.enc] h=some (w,h')∧w= .s (.int .i64 1)∧h'=h++[.cells (some 56) [v.enc]] by
     obtain ⟨w,h',e,rfl,rfl⟩:=h
     exact ⟨_,k,e,ho.mono (Fw.app [] h _) (by simp) (by simp),Fw.app _ _ _,.inl rfl⟩
   refine Vm.ef (nt:=47) rfl yx (by simp) ?_
   simp only[ae.enc] at hf oF ⊢
   have ax:(0:Nat)=0:=rfl
   try simp only[Hi,hf,oF,hv,go_sem,↓reduceIte,Nat.reduceEqDiff,Nat.reduceBEq,Nat.reduceAdd,Nat.reduceSub,Nat.reduceLT,Nat.reduceLeDiff,Int.reduceLT,Int.reduceLE,Int.reduceEq,Int.reduceToNat]
   repeat' (
     first | refine q5z ?_ ?_ | refine q3z ?_ ?_ | refine q4z ?_ ?_
     all_goals intro aj
     all_goals first | replace aj:=q2z aj | replace aj:=q1z aj | skip
     all_goals first | subst aj | replace ax:=And.intro aj ax
     all_goals try simp only[ax,Hi,hf,oF,hv,go_sem,↓reduceIte,Nat.reduceEqDiff,Nat.reduceBEq,Nat.reduceAdd,Nat.reduceSub,Nat.reduceLT,Nat.reduceLeDiff,Int.reduceLT,Int.reduceLE,Int.reduceEq,Int.reduceToNat])
 | true=>
   have hs:=q14z hv
   have xt:=jd (by omega)
   rw[if_neg (by simp)]
   obtain ⟨x,h1,hh⟩:=ho
   have hg:=fun t'=> q10z h1 t'
   have aR:=fun t' b'=> n9 tF.1 t' b'
   have gr:=jF v
   by_cases c1:(l[pos l v.iD]?).map ae.iD=some v.iD
   ·rw[if_pos c1]
    rcases hh with ⟨rfl,rfl,rfl⟩ | ⟨rfl,xu,h3⟩
    ·simp at c1
    ·have bR:pos l v.iD < l.length:=by
       cases hp:l[pos l v.iD]? with
       | none=> rw[hp] at c1;cases c1
       | some w=> exact (acj.1 hp).1
     have yS:=fun t'=> q10z h3 t'
     have R4:=fun t' b'=> n9 tF.2 t' b'
     have Be:(pos l v.iD:Int)< l.length:=by omega
     have MP:(0:Int)≤pos l v.iD:=by omega
     have cm:(l.map ae.enc)[pos l v.iD]? =some (l[pos l v.iD]).enc:=by rw[acv,aci bR];rfl
     have dw:(l[pos l v.iD]).enc.ty=some 56:=rfl
     generalize hpp:pos l v.iD=p at *
     suffices h:∃w h',run fns pr b 75 [.ptr t [0] 1,v.enc] h=some (w,h')∧w= .s (.int .i64 0)∧h'=h.set k (.cells (some 56) ((l.map ae.enc).set p v.enc))++[.cells (some 56) [v.enc]] by
       obtain ⟨w,h',e,rfl,rfl⟩:=h
       refine ⟨_,k,e,⟨.ref k [] (some 56) 0 l.length l.length,?_,.inr ⟨by simp,xu,?_⟩⟩,?_,.inl rfl⟩
       ·exact q10z (by rw[acp xu];exact h1) _
       ·exact q10z (by rw[q9z h3,←List.map_set]) _
       ·exact (Fw.set (S:=[t,k]) (by simp) h3).trans (Fw.app _ _ _)
     refine Vm.ef (nt:=47) rfl yx (by simp) ?_
     have mR:=tF.2
     simp only[ae.enc] at hf oF xt gr ⊢
     have ax:(0:Nat)=0:=rfl
     try simp only[Hi,hf,oF,hv,c1,hg,yS,R4,Be,MP,bR,cm,dw,xt,gr,go_sem,↓reduceIte,Nat.reduceEqDiff,Nat.reduceBEq,Nat.reduceAdd,Nat.reduceSub,Nat.reduceLT,Nat.reduceLeDiff,Int.reduceLT,Int.reduceLE,Int.reduceEq,Int.reduceToNat]
     repeat' (
       first | refine q5z ?_ ?_ | refine q3z ?_ ?_ | refine q4z ?_ ?_
       all_goals intro aj
       all_goals first | replace aj:=q2z aj | replace aj:=q1z aj | skip
       all_goals first | subst aj | replace ax:=And.intro aj ax
       all_goals try simp only[ax,Hi,hf,oF,hv,c1,hg,yS,R4,Be,MP,bR,cm,dw,xt,gr,go_sem,↓reduceIte,Nat.reduceEqDiff,Nat.reduceBEq,Nat.reduceAdd,Nat.reduceSub,Nat.reduceLT,Nat.reduceLeDiff,Int.reduceLT,Int.reduceLE,Int.reduceEq,Int.reduceToNat])
   ·rw[if_neg c1]
    have Yo:fj x=some l.length:=by
      rcases hh with ⟨rfl,rfl,_⟩ | ⟨rfl,_⟩<;> rfl
    have qC:x.ty=none:=by
      rcases hh with ⟨rfl,rfl,_⟩ | ⟨rfl,_⟩<;> rfl
    have jm:x.aA=true:=by
      rcases hh with ⟨rfl,rfl,_⟩ | ⟨rfl,_⟩<;> rfl
    have hlen:=fun cf base h0=> bU cf base h0 x _ Yo
    by_cases c2:4≤l.length
    ·rw[if_pos c2]
     have c2':(4:Int)≤l.length:=by omega
     suffices h:∃w h',run fns pr b 75 [.ptr t [0] 1,v.enc] h=some (w,h')∧w= .s (.int .i64 13)∧h'=h++[.cells (some 56) [v.enc]] by
       obtain ⟨w,h',e,rfl,rfl⟩:=h
       exact ⟨_,k,e,⟨x,hg _,by
         rcases hh with hh | ⟨rfl,xu,h3⟩
         ·exact .inl hh
         ·exact .inr ⟨rfl,xu,q10z h3 _⟩⟩,Fw.app _ _ _,.inl rfl⟩
     refine Vm.ef (nt:=47) rfl yx (by simp) ?_
     simp only[ae.enc] at hf oF ⊢
     have ax:(0:Nat)=0:=rfl
     try simp only[Hi,hf,oF,hv,c1,hg,qC,hlen,c2',go_sem,↓reduceIte,Nat.reduceEqDiff,Nat.reduceBEq,Nat.reduceAdd,Nat.reduceSub,Nat.reduceLT,Nat.reduceLeDiff,Int.reduceLT,Int.reduceLE,Int.reduceEq,Int.reduceToNat]
     repeat' (
       first | refine q5z ?_ ?_ | refine q3z ?_ ?_ | refine q4z ?_ ?_
       all_goals intro aj
       all_goals first | replace aj:=q2z aj | replace aj:=q1z aj | skip
       all_goals first | subst aj | replace ax:=And.intro aj ax
       all_goals try simp only[ax,Hi,hf,oF,hv,c1,hg,qC,hlen,c2',go_sem,↓reduceIte,Nat.reduceEqDiff,Nat.reduceBEq,Nat.reduceAdd,Nat.reduceSub,Nat.reduceLT,Nat.reduceLeDiff,Int.reduceLT,Int.reduceLE,Int.reduceEq,Int.reduceToNat])
    ·rw[if_neg c2]
     have c2':¬(4:Int)≤l.length:=by omega
     have hgv:=hg
     have Yp:=Jd l v.iD
     generalize hpp:pos l v.iD=p at *
     rcases hh with ⟨rfl,rfl,rfl⟩ | ⟨rfl,xu,h3⟩
     ·obtain rfl:p=0:=by simpa using Yp
      have Hk:fC (some 56) 96 [.al true (some 56) [],.s (.int .i64 ((0:Nat):Int)),.ref (h.length+1) [] (some 56) 0 1 1] (h++[.cells (some 56) [v.enc],.cells (some 56) [v.enc]])=some (.ref (h.length+2) [] (some 56) 0 1 1,h++[.cells (some 56) [v.enc],.cells (some 56) [v.enc],.cells (some 56) [v.enc]]):=by
        have:=yT (g:=some 56) (by_:=96) (h:=h++[.cells (some 56) [v.enc],.cells (some 56) [v.enc]]) (idy:=h.length+1) (e:=v.enc) (by rw[aM];rfl) gr
        rw[show (((0:Nat):Int))=0 from rfl,this]
        simp
      have c2'':¬(4:Int)≤((0:Nat):Int):=by decide
      suffices h:∃w h',run fns pr b 75 [.ptr k [0] 1,v.enc] h=some (w,h')∧w= .s (.int .i64 0)∧h'=h.set k (.cells (some 141) [.st 141 [.ref (h.length+2) [] (some 56) 0 1 1]])++[.cells (some 56) [v.enc],.cells (some 56) [v.enc],.cells (some 56) [v.enc]] by
        obtain ⟨w,h',e,rfl,rfl⟩:=h
        refine ⟨_,h.length+2,e,⟨.ref (h.length+2) [] (some 56) 0 1 1,?_,.inr ⟨rfl,by omega,?_⟩⟩,?_,.inr (by omega)⟩
        ·exact q10z (q9z h1) _
        ·rw[bh (by simp)];rfl
        ·exact (Fw.set (S:=[k,k]) (by simp) h1).trans (Fw.app _ _ _)
      refine Vm.ef (nt:=47) rfl yx (by simp) ?_
      simp only[ae.enc] at hf oF xt gr Hk ⊢
      have ax:(0:Nat)=0:=rfl
      try simp only[Hi,hf,oF,hv,c1,hg,aR,qC,hlen,c2'',hb,xt,gr,me,Hk,ada,go_sem,↓reduceIte,Nat.reduceEqDiff,Nat.reduceBEq,Nat.reduceAdd,Nat.reduceSub,Nat.reduceLT,Nat.reduceLeDiff,Int.reduceLT,Int.reduceLE,Int.reduceEq,Int.reduceToNat]
      repeat' (
        first | refine q5z ?_ ?_ | refine q3z ?_ ?_ | refine q4z ?_ ?_
        all_goals intro aj
        all_goals first | replace aj:=q2z aj | replace aj:=q1z aj | skip
        all_goals first | subst aj | replace ax:=And.intro aj ax
        all_goals try simp only[ax,Hi,hf,oF,hv,c1,hg,aR,qC,hlen,c2'',hb,xt,gr,me,Hk,ada,go_sem,↓reduceIte,Nat.reduceEqDiff,Nat.reduceBEq,Nat.reduceAdd,Nat.reduceSub,Nat.reduceLT,Nat.reduceLeDiff,Int.reduceLT,Int.reduceLE,Int.reduceEq,Int.reduceToNat])
     ·have Hk:fC (some 56) 96 [.ref k [] (some 56) 0 l.length l.length,.s (.int .i64 p),.ref (h.length+1) [] (some 56) 0 1 1] (h++[.cells (some 56) [v.enc],.cells (some 56) [v.enc]])=some (.ref k [] (some 56) 0 (l.length+1) (l.length+1),h.set k (.cells (some 56) ((l.take p++[v]++l.drop p).map ae.enc))++[.cells (some 56) [v.enc],.cells (some 56) [v.enc]]):=by
        rw[yU (e:=v.enc) (q10z h3 _) (by simp) (by rw[aM];rfl) (by omega) Yp (by omega) gr,n9 tF.2]
        simp[aeX,List.map_drop]
      have hgk:∀(b':bc) (t':Hp),(h.set k b'++t')[t]? =some (.cells (some 141) [.st 141 [.ref k [] (some 56) 0 l.length l.length]]):=fun b' t'=> q10z (by rw[acp xu];exact h1) _
      have hsk:∀(b' b2:bc) (t':Hp),(h.set k b'++t').set t b2=(h.set k b').set t b2++t':=fun b' b2 t'=> n9 (by simp;exact tF.1) t' b2
      suffices h:∃w h',run fns pr b 75 [.ptr t [0] 1,v.enc] h=some (w,h')∧w= .s (.int .i64 0)∧h'=(h.set k (.cells (some 56) ((l.take p++[v]++l.drop p).map ae.enc))).set t (.cells (some 141) [.st 141 [.ref k [] (some 56) 0 (l.length+1) (l.length+1)]])++[.cells (some 56) [v.enc],.cells (some 56) [v.enc]] by
        obtain ⟨w,h',e,rfl,rfl⟩:=h
        have vf:(l.take p++[v]++l.drop p).length=l.length+1:=by simp;omega
        refine ⟨_,k,e,⟨.ref k [] (some 56) 0 (l.length+1) (l.length+1),?_,.inr ⟨by rw[vf],xu,?_⟩⟩,?_,.inl rfl⟩
        ·exact q10z (q9z (by rw[acp xu];exact h1)) _
        ·exact q10z (by rw[acp (adY xu)];exact q9z h3) _
        ·exact ((Fw.set (S:=[t,k]) (by simp) h3).trans (Fw.set (S:=[t,k]) (by simp) (by rw[acp xu];exact h1))).trans (Fw.app _ _ _)
      refine Vm.ef (nt:=47) rfl yx (by simp) ?_
      simp only[ae.enc] at hf oF xt gr Hk ⊢
      have ax:(0:Nat)=0:=rfl
      try simp only[Hi,hf,oF,hv,c1,hg,hgk,hsk,aR,qC,hlen,c2',hb,xt,gr,me,Hk,go_sem,↓reduceIte,Nat.reduceEqDiff,Nat.reduceBEq,Nat.reduceAdd,Nat.reduceSub,Nat.reduceLT,Nat.reduceLeDiff,Int.reduceLT,Int.reduceLE,Int.reduceEq,Int.reduceToNat]
      repeat' (
        first | refine q5z ?_ ?_ | refine q3z ?_ ?_ | refine q4z ?_ ?_
        all_goals intro aj
        all_goals first | replace aj:=q2z aj | replace aj:=q1z aj | skip
        all_goals first | subst aj | replace ax:=And.intro aj ax
        all_goals try simp only[ax,Hi,hf,oF,hv,c1,hg,hgk,hsk,aR,qC,hlen,c2',hb,xt,gr,me,Hk,go_sem,↓reduceIte,Nat.reduceEqDiff,Nat.reduceBEq,Nat.reduceAdd,Nat.reduceSub,Nat.reduceLT,Nat.reduceLeDiff,Int.reduceLT,Int.reduceLE,Int.reduceEq,Int.reduceToNat])
theorem Df (b:Nat) (h:Hp) (t k:Nat) (l:List ae) (ho:TR h t k l) (hl:l.length≤1000) (hs:∀v∈l,v.cx.length≤64):
 run fns pr b 82 [.ptr t [0] 1] h=some (.al false (some 56) (l.map ae.enc),h):=by
 refine Vm.aQ (nt:=22) rfl WU (by simp) ?_
 have tF:=ho.lt
 obtain ⟨x,h1,hh⟩:=ho
 have hx:SR h x (some 56) (l.map ae.enc):=by
   rcases hh with ⟨rfl,rfl,_⟩ | ⟨rfl,_,h3⟩
   ·exact .inl ⟨_,rfl⟩
   ·exact ma h3 (by simp)
 have dw:=hx.ty
 have hlen:=fun cf base h0=> hx.bU (cf:=cf) (base:=base) (h:=h0)
 simp only[acy] at hlen
 have ax:(0:Nat)=0:=rfl
 try simp only[B82,Ie,Ic,h1,dw,hlen,go_sem,simprocAttr]
 repeat' (
   first | refine q5z ?_ ?_ | refine q3z ?_ ?_ | refine q4z ?_ ?_
   all_goals intro aj
   all_goals first | replace aj:=q2z aj | replace aj:=q1z aj | skip
   all_goals first | subst aj | replace ax:=And.intro aj ax
   all_goals try simp only[ax,B82,Ie,Ic,h1,dw,hlen,go_sem,simprocAttr])
 refine aV (fun m e H=>∃i:Nat,m=l.length - i∧i≤l.length∧e 11= .s (.int .i64 i)∧e 10= .s (.int .i64 l.length)∧e 9=x∧∃ko out,e 3=out∧LR H (some 56) ko out ((l.take i).map ae.enc)∧Fw [] h H∧h.length≤ko)
   (fun e H=>∃ko out,e 3=out∧LR H (some 56) ko out (l.map ae.enc)∧Fw [] h H∧h.length≤ko) l.length _ _ ⟨0,by omega,by omega,?_,?_,?_,h.length,.al true (some 56) [],?_,.inl ⟨rfl,rfl⟩,Fw.refl _ _,acm _⟩ ?_ ?_
 rotate_right 2
 ·rintro m e H ⟨i,rfl,hi,e11,e10,e9,ko,out,e3,lr,fw,yr⟩
  by_cases c:i < l.length
  ·have c':(i:Int)< l.length:=by omega
   have hv:l[i]? =some l[i]:=aci c
   have p9:=hs _ (acw hv)
   have fk:l.take (i+1)=l.take i++[l[i]]:=by rw[aee,hv];rfl
   generalize l[i]=v at hv p9 fk
   have gf:=fun cf base=>(hx.fw fw).ck (cf:=cf) (base:=base) (k:= .i64) (i:=i) (by simpa using c)
   have gU:=fun cf base=>(hx.fw fw).fL (cf:=cf) (base:=base) (i:=i) (v:=v.enc) (by rw[acv,hv];rfl) rfl
   have jd:=fun h0=> sC h.length h0 false v (by omega)
   rw[←ae.lu] at jd
   have iA:IntKind.i64.wrap ((i:Int)+1)=((i+1:Nat):Int):=q18z (by omega)
   obtain ⟨x',H',k',jY,lr',fw',mD⟩:=lr.Em (T:=[.cells (some 56) [v.enc],.cells (some 56) [v.enc]]) (idy:=H.length+1) (z:=v.enc) (bytes:=96) yr fw (by rw[aM];rfl) (jF v) (by simp;omega)
   have gr:=jF v
   have ax:(0:Nat)=0:=rfl
   try simp only[e11,e10,e9,e3,c',gf,gU,jd,aJ,aK,iA,jY,gr,go_sem,simprocAttr]
   repeat' (
     first | refine q5z ?_ ?_ | refine q3z ?_ ?_ | refine q4z ?_ ?_
     all_goals intro aj
     all_goals first | replace aj:=q2z aj | replace aj:=q1z aj | skip
     all_goals first | subst aj | replace ax:=And.intro aj ax
     all_goals try simp only[ax,e11,e10,e9,e3,c',gf,gU,jd,aJ,aK,iA,jY,gr,go_sem,simprocAttr])
   exact ⟨l.length - (i+1),by omega,i+1,rfl,by omega,rfl,_,_,rfl,by rw[fk,adm];exact lr',fw',mD⟩
  ·have c':¬(i:Int)< l.length:=by omega
   obtain rfl:i=l.length:=by omega
   rw[adN] at lr
   have ax:(0:Nat)=0:=rfl
   try simp only[e11,e10,e9,e3,c',go_sem,simprocAttr]
   repeat' (
     first | refine q5z ?_ ?_ | refine q3z ?_ ?_ | refine q4z ?_ ?_
     all_goals intro aj
     all_goals first | replace aj:=q2z aj | replace aj:=q1z aj | skip
     all_goals first | subst aj | replace ax:=And.intro aj ax
     all_goals try simp only[ax,e11,e10,e9,e3,c',go_sem,simprocAttr])
   exact ⟨ko,out,rfl,lr,fw,yr⟩
 ·rintro e H ⟨ko,out,e3,lr,fw,yr⟩
  have dt:=lr.oy yr (jE l)
  have fk:=fw.take
  have ax:(0:Nat)=0:=rfl
  try simp only[e3,dt,fk,go_sem,simprocAttr]
  repeat' (
    first | refine q5z ?_ ?_ | refine q3z ?_ ?_ | refine q4z ?_ ?_
    all_goals intro aj
    all_goals first | replace aj:=q2z aj | replace aj:=q1z aj | skip
    all_goals first | subst aj | replace ax:=And.intro aj ax
    all_goals try simp only[ax,e3,dt,fk,go_sem,simprocAttr])
 all_goals rfl
instance (l :List ae):Decidable (fc l):=by unfold fc;infer_instance
def rising (l:List ae):Bool:=decide (l.length≤4)&& l.all aP && decide (fc l)
theorem EK {l:List ae} {i:Nat} {v w:ae} (hr:fc (l.take (i+1))) (hv:l[i]? =some v) (hw:l[i+1]? =some w) (hc:bB v.iD w.iD < 0):fc (l.take (i+2)):=by
 have h1:l.take (i+2)=l.take (i+1)++[w]:=by rw[aee,hw];rfl
 have h2:l.take (i+1)=l.take i++[v]:=by rw[aee,hv];rfl
 rw[h1]
 refine aeN.2 ⟨hr,by simp,?_⟩
 intro a ha b hb
 simp at hb;subst hb
 rw[h2] at hr ha
 rcases acG.1 ha with ha | ha
 ·exact eU _ _ _ ((aeN.1 hr).2.2 a ha v (by simp)) hc
 ·simp at ha;subst ha;exact hc
theorem Jg {l:List ae} {i:Nat} {v w:ae} (hv:l[i]? =some v) (hw:l[i+1]? =some w) (hc:¬bB v.iD w.iD < 0):¬fc l:=by
 intro h
 have h1:=(acj.1 hv)
 have h2:=(acj.1 hw)
 obtain ⟨h1,rfl⟩:=h1
 obtain ⟨h2,rfl⟩:=h2
 exact hc (aeO.1 h i (i+1) h1 h2 (by omega))
theorem sD (b:Nat) (h:Hp):run fns pr b 49 [] h=some (.ptr h.length [0] 1,h++[.cells (some 141) [.st 141 [.al true (some 56) []]]]):=by
 suffices hh:∃v h',run fns pr b 49 [] h=some (v,h')∧v= .ptr h.length [0] 1∧h'=h++[.cells (some 141) [.st 141 [.al true (some 56) []]]] by
   obtain ⟨v,h',e,rfl,rfl⟩:=hh;exact e
 refine Vm.ef (nt:=3) rfl VO (by simp) ?_
 have ax:(0:Nat)=0:=rfl
 try simp only[B49,go_sem,simprocAttr]
 repeat' (
   first | refine q5z ?_ ?_ | refine q3z ?_ ?_ | refine q4z ?_ ?_
   all_goals intro aj
   all_goals first | replace aj:=q2z aj | replace aj:=q1z aj | skip
   all_goals first | subst aj | replace ax:=And.intro aj ax
   all_goals try simp only[ax,B49,go_sem,simprocAttr])
theorem yV (b:Nat) (h:Hp) (t k:Nat) (db l:List ae) (x:V) (hb:b≤t) (ho:TR h t k db) (hx:SR h x (some 56) (l.map ae.enc)) (hl:l.length≤1000):
 ∃h' k',run fns pr b 76 [.ptr t [0] 1,x] h=some (.s (.int .i64 (if rising l=true then 0 else 1)),h')∧TR h' t k' (if rising l=true then l else db)∧Fw [t] h h'∧(k'=k∨k'=t∨h.length≤k'):=by
 have tF:=ho.lt
 have dQ:=fun cf base h0=> hx.bU (cf:=cf) (base:=base) (h:=h0)
 simp only[acy] at dQ
 have mf:=sD b h
 suffices hh:∃w h',run fns pr b 76 [.ptr t [0] 1,x] h=some (w,h')∧((rising l=true∧w= .s (.int .i64 0)∧∃k',TR h' t k' l∧Fw [t] h h'∧(k'=t∨h.length≤k'))∨(rising l=false∧w= .s (.int .i64 1)∧Fw [] h h')) by
   obtain ⟨w,h',e,⟨hr,rfl,k',h1,h2,h3⟩ | ⟨hr,rfl,h1⟩⟩:=hh
   ·rw[hr];exact ⟨h',k',e,h1,h2,.inr h3⟩
   ·rw[hr];exact ⟨h',k,e,ho.mono h1 (by simp) (by simp),h1.mono (by simp),.inl rfl⟩
 refine Vm.ef (nt:=57) rfl WH (by simp) ?_
 by_cases h4:l.length≤4
 case neg=>
   have h1:(l.length:Int)> 4:=by omega
   have h2:rising l=false:=by simp[rising,h4]
   have ax:(0:Nat)=0:=rfl
   try simp only[B76,yz,yy,dQ,h1,h2,go_sem,↓reduceIte,Nat.reduceEqDiff,Nat.reduceBEq,Nat.reduceAdd,Nat.reduceSub,Nat.reduceLT,Nat.reduceLeDiff,Int.reduceLT,Int.reduceLE,Int.reduceEq,Int.reduceToNat]
   repeat' (
     first | refine q5z ?_ ?_ | refine q3z ?_ ?_ | refine q4z ?_ ?_
     all_goals intro aj
     all_goals first | replace aj:=q2z aj | replace aj:=q1z aj | skip
     all_goals first | subst aj | replace ax:=And.intro aj ax
     all_goals try simp only[ax,B76,yz,yy,dQ,h1,h2,go_sem,↓reduceIte,Nat.reduceEqDiff,Nat.reduceBEq,Nat.reduceAdd,Nat.reduceSub,Nat.reduceLT,Nat.reduceLeDiff,Int.reduceLT,Int.reduceLE,Int.reduceEq,Int.reduceToNat])
   exact .inr (Fw.refl _ _)
 have h1:¬(l.length:Int)> 4:=by omega
 have hbn:b≤h.length:=by omega
 have tt:=q10z ho.choose_spec.1
 have ax:(0:Nat)=0:=rfl
 try simp only[B76,yz,yy,dQ,h1,mf,go_sem,↓reduceIte,Nat.reduceEqDiff,Nat.reduceBEq,Nat.reduceAdd,Nat.reduceSub,Nat.reduceLT,Nat.reduceLeDiff,Int.reduceLT,Int.reduceLE,Int.reduceEq,Int.reduceToNat]
 repeat' (
   first | refine q5z ?_ ?_ | refine q3z ?_ ?_ | refine q4z ?_ ?_
   all_goals intro aj
   all_goals first | replace aj:=q2z aj | replace aj:=q1z aj | skip
   all_goals first | subst aj | replace ax:=And.intro aj ax
   all_goals try simp only[ax,B76,yz,yy,dQ,h1,mf,go_sem,↓reduceIte,Nat.reduceEqDiff,Nat.reduceBEq,Nat.reduceAdd,Nat.reduceSub,Nat.reduceLT,Nat.reduceLeDiff,Int.reduceLT,Int.reduceLE,Int.reduceEq,Int.reduceToNat])
 refine aV (fun m e H=>∃i:Nat,m=l.length - i∧i≤l.length∧e 14= .s (.int .i64 i)∧e 13= .s (.int .i64 l.length)∧e 12=x∧e 1=x∧e 0= .ptr t [0] 1∧e 5= .ptr h.length [0] 1∧
     (l.take i).all aP=true∧fc (l.take i)∧∃ko out,H[h.length]? =some (.cells (some 141) [.st 141 [out]])∧XR H (some 56) ko out ((l.take i).map ae.enc)∧Fw [] h H∧h.length < ko)
   (fun e H=> rising l=true∧e 0= .ptr t [0] 1∧e 5= .ptr h.length [0] 1∧∃ko out,H[h.length]? =some (.cells (some 141) [.st 141 [out]])∧XR H (some 56) ko out (l.map ae.enc)∧Fw [] h H∧h.length < ko)
   l.length _ _ ⟨0,by omega,by omega,?_,?_,?_,?_,?_,?_,rfl,List.Pairwise.nil,h.length+1,.al true (some 56) [],aH _ _,.inl ⟨rfl,rfl⟩,Fw.app _ _ _,by omega⟩ ?_ ?_
 rotate_right 2
 ·rintro m e H ⟨i,rfl,hi,e14,e13,e12,e1',e0',e5,ha,yt,ko,out,hn,xr,fw,yr⟩
  have hxH:=hx.fw fw
  by_cases c:i < l.length
  ·have c':(i:Int)< l.length:=by omega
   have hv:l[i]? =some l[i]:=aci c
   have fk:l.take (i+1)=l.take i++[l[i]]:=by rw[aee,hv];rfl
   have Yq:l[i]∈l:=ac3 _
   generalize l[i]=v at hv fk Yq
   have gf:=fun cf base=> hxH.ck (cf:=cf) (base:=base) (k:= .i64) (i:=i) (by simpa using c)
   have gU:=fun cf base=> hxH.fL (cf:=cf) (base:=base) (i:=i) (v:=v.enc) (by rw[acv,hv];rfl) rfl
   have iB:=fun h0=> gz b h0 false v
   simp only[←ae.lu] at iB
   have iA:IntKind.i64.wrap ((i:Int)+1)=((i+1:Nat):Int):=q18z (by omega)
   have gr:=jF v
   have m6:=fw.len
   have fw1:Fw [] h (H++[.cells (some 56) [v.enc]]):=fw.trans (Fw.app _ _ _)
   cases hr:aP v with
   | false=>
     have Bf:rising l=false:=by
       simp only[rising,aeD,List.all_eq_false]
       exact .inl (.inr ⟨v,Yq,by simp[hr]⟩)
     have ax:(0:Nat)=0:=rfl
     try simp only[e14,e13,e12,e1',e0',e5,c',gf,gU,iB,hr,gr,aJ,aK,go_sem,↓reduceIte,Nat.reduceEqDiff,Nat.reduceBEq,Nat.reduceAdd,Nat.reduceSub,Nat.reduceLT,Nat.reduceLeDiff,Int.reduceLT,Int.reduceLE,Int.reduceEq,Int.reduceToNat]
     repeat' (
       first | refine q5z ?_ ?_ | refine q3z ?_ ?_ | refine q4z ?_ ?_
       all_goals intro aj
       all_goals first | replace aj:=q2z aj | replace aj:=q1z aj | skip
       all_goals first | subst aj | replace ax:=And.intro aj ax
       all_goals try simp only[ax,e14,e13,e12,e1',e0',e5,c',gf,gU,iB,hr,gr,aJ,aK,go_sem,↓reduceIte,Nat.reduceEqDiff,Nat.reduceBEq,Nat.reduceAdd,Nat.reduceSub,Nat.reduceLT,Nat.reduceLeDiff,Int.reduceLT,Int.reduceLE,Int.reduceEq,Int.reduceToNat])
     all_goals first | exact .inr ⟨Bf,rfl,fw1⟩ | exact .inr ⟨Bf,fw1⟩ | (rw[Bf];simp;exact fw1)
   | true=>
     have bV:(l.take (i+1)).all aP=true:=by rw[fk,List.all_append,ha];simp[hr]
     have jd:=fun h0=> sC b h0 false v (by have:=q14z hr;omega)
     rw[←ae.lu] at jd
     obtain ⟨x',H',k',jY,xr',fw',mD,R5⟩:=xr.Em (h:=h) (T:=[.cells (some 56) [v.enc],.cells (some 56) [v.enc]]) (idy:=H.length+1) (z:=v.enc) (bytes:=96) (by omega) fw (by rw[aM];rfl) gr (by simp;omega)
     have vO:H'[h.length]? =some (.cells (some 141) [.st 141 [out]]):=R5 _ _ (by omega) (q10z hn _)
     have hgn:=fun T=> q10z hn T
     obtain ⟨ht1,ht2⟩:=xr.ty
     obtain ⟨ht3,ht4⟩:=xr'.ty
     have hdn:decide (b≤h.length)=true:=by simp[hbn]
     have j5:fc (l.take (i+1))→∃m',m' < l.length - i∧∃j:Nat,m'=l.length - j∧j≤l.length∧((i+1:Nat):Int)=j∧(l.take j).all aP=true∧fc (l.take j)∧∃ko out,(H'.set h.length (.cells (some 141) [.st 141 [x']]))[h.length]? =some (.cells (some 141) [.st 141 [out]])∧XR (H'.set h.length (.cells (some 141) [.st 141 [x']])) (some 56) ko out ((l.take j).map ae.enc)∧Fw [] h (H'.set h.length (.cells (some 141) [.st 141 [x']]))∧h.length < ko:=by
       intro aaX
       have yM:h.length < k':=by rcases mD with rfl | mD;exact yr;simp at mD;omega
       refine ⟨l.length - (i+1),by omega,i+1,rfl,by omega,rfl,bV,aaX,k',x',q9z vO,?_,fw'.cP (acm _) _,yM⟩
       rw[fk,adm]
       rcases xr' with ⟨rfl,h0⟩ | ⟨rfl,h0⟩
       ·simp at h0
       ·exact .inr ⟨rfl,by rw[acp (by omega)];exact h0⟩
     cases i with
     | zero=>
       have z:¬((0:Nat):Int)> 0:=by decide
       have ax:(0:Nat)=0:=rfl
       try simp only[e14,e13,e12,e1',e0',e5,c',gf,gU,iB,hr,gr,aJ,aK,z,jd,hgn,hn,ht1,ht2,ht3,ht4,jY,vO,hdn,iA,go_sem,↓reduceIte,Nat.reduceEqDiff,Nat.reduceBEq,Nat.reduceAdd,Nat.reduceSub,Nat.reduceLT,Nat.reduceLeDiff,Int.reduceLT,Int.reduceLE,Int.reduceEq,Int.reduceToNat]
       repeat' (
         first | refine q5z ?_ ?_ | refine q3z ?_ ?_ | refine q4z ?_ ?_
         all_goals intro aj
         all_goals first | replace aj:=q2z aj | replace aj:=q1z aj | skip
         all_goals first | subst aj | replace ax:=And.intro aj ax
         all_goals try simp only[ax,e14,e13,e12,e1',e0',e5,c',gf,gU,iB,hr,gr,aJ,aK,z,jd,hgn,hn,ht1,ht2,ht3,ht4,jY,vO,hdn,iA,go_sem,↓reduceIte,Nat.reduceEqDiff,Nat.reduceBEq,Nat.reduceAdd,Nat.reduceSub,Nat.reduceLT,Nat.reduceLeDiff,Int.reduceLT,Int.reduceLE,Int.reduceEq,Int.reduceToNat])
       obtain ⟨m',q1,j,q2,q3,q4,q5⟩:=j5 (by rw[fk];simp[fc])
       exact ⟨m',q1,j,q2,q3,congrArg _ q4,q5⟩
     | succ i=>
       have z:((i+1:Nat):Int)> 0:=by omega
       have hw:l[i]? =some l[i]:=aci (by omega)
       generalize l[i]=w at hw
       have hws:IntKind.i64.wrap (((i+1:Nat):Int) - 1)=(i:Int):=by rw[show ((i+1:Nat):Int) - 1=i by omega,wrap_i64 (by omega) (by omega)]
       have hwe:(l.map ae.enc)[i]? =some w.enc:=by rw[acv,hw];rfl
       have hib:=fun cf base T=>(hxH.app T).ck (cf:=cf) (base:=base) (k:= .i64) (i:=i) (by simp;omega)
       have fa2:=fun cf base T=>(hxH.app T).qO (cf:=cf) (base:=base) (f:=0) hwe (by simp[ae.enc])
       have sl2:=fun cf base T=>(hxH.app T).yN (cf:=cf) (base:=base) (f:=0) (g':=none) hwe (by simp[ae.enc];exact ⟨rfl,rfl⟩)
       have el2:=fun T=> lC (hxH.app T) (f:=0) (g':=none) hwe (by simp[ae.enc];exact ⟨rfl,rfl⟩)
       simp only[acy] at sl2 el2
       have hcr:=fun x y h0=> Dd b x y h0
       simp only[ae.enc] at gU iB jd jY gr
       by_cases hc:bB w.iD v.iD < 0
       ·have EL:¬(0≤bB w.iD v.iD):=by omega
        have ax:(0:Nat)=0:=rfl
        try simp only[e14,e13,e12,e1',e0',e5,c',gf,gU,iB,hr,gr,z,jd,hgn,hn,ht1,ht2,ht3,ht4,jY,vO,hdn,iA,hws,hib,fa2,sl2,el2,hcr,EL,go_sem,↓reduceIte,Nat.reduceEqDiff,Nat.reduceBEq,Nat.reduceAdd,Nat.reduceSub,Nat.reduceLT,Nat.reduceLeDiff,Int.reduceLT,Int.reduceLE,Int.reduceEq,Int.reduceToNat]
        repeat' (
          first | refine q5z ?_ ?_ | refine q3z ?_ ?_ | refine q4z ?_ ?_
          all_goals intro aj
          all_goals first | replace aj:=q2z aj | replace aj:=q1z aj | skip
          all_goals first | subst aj | replace ax:=And.intro aj ax
          all_goals try simp only[ax,e14,e13,e12,e1',e0',e5,c',gf,gU,iB,hr,gr,z,jd,hgn,hn,ht1,ht2,ht3,ht4,jY,vO,hdn,iA,hws,hib,fa2,sl2,el2,hcr,EL,go_sem,↓reduceIte,Nat.reduceEqDiff,Nat.reduceBEq,Nat.reduceAdd,Nat.reduceSub,Nat.reduceLT,Nat.reduceLeDiff,Int.reduceLT,Int.reduceLE,Int.reduceEq,Int.reduceToNat])
        obtain ⟨m',q1,j,q2,q3,q4,q5⟩:=j5 (EK yt hw hv hc)
        exact ⟨m',q1,j,q2,q3,congrArg _ q4,q5⟩
       ·have EL:0≤bB w.iD v.iD:=by omega
        have Bf:rising l=false:=by
          simp only[rising,aeD,decide_eq_false_iff_not]
          exact .inr (Jg hw hv hc)
        have ax:(0:Nat)=0:=rfl
        try simp only[e14,e13,e12,e1',e0',e5,c',gf,gU,iB,hr,gr,z,hws,hib,fa2,sl2,el2,hcr,EL,go_sem,↓reduceIte,Nat.reduceEqDiff,Nat.reduceBEq,Nat.reduceAdd,Nat.reduceSub,Nat.reduceLT,Nat.reduceLeDiff,Int.reduceLT,Int.reduceLE,Int.reduceEq,Int.reduceToNat]
        repeat' (
          first | refine q5z ?_ ?_ | refine q3z ?_ ?_ | refine q4z ?_ ?_
          all_goals intro aj
          all_goals first | replace aj:=q2z aj | replace aj:=q1z aj | skip
          all_goals first | subst aj | replace ax:=And.intro aj ax
          all_goals try simp only[ax,e14,e13,e12,e1',e0',e5,c',gf,gU,iB,hr,gr,z,hws,hib,fa2,sl2,el2,hcr,EL,go_sem,↓reduceIte,Nat.reduceEqDiff,Nat.reduceBEq,Nat.reduceAdd,Nat.reduceSub,Nat.reduceLT,Nat.reduceLeDiff,Int.reduceLT,Int.reduceLE,Int.reduceEq,Int.reduceToNat])
        all_goals first | exact .inr ⟨Bf,rfl,fw1⟩ | exact .inr ⟨Bf,fw1⟩ | (rw[Bf];simp;exact fw1)
  ·have c':¬(i:Int)< l.length:=by omega
   rw[ack (by omega)] at ha yt xr
   have hq:rising l=true:=by
     simp[rising,h4,ha,yt]
   have ax:(0:Nat)=0:=rfl
   try simp only[e14,e13,e12,e1',e0',e5,c',go_sem,↓reduceIte,Nat.reduceEqDiff,Nat.reduceBEq,Nat.reduceAdd,Nat.reduceSub,Nat.reduceLT,Nat.reduceLeDiff,Int.reduceLT,Int.reduceLE,Int.reduceEq,Int.reduceToNat]
   repeat' (
     first | refine q5z ?_ ?_ | refine q3z ?_ ?_ | refine q4z ?_ ?_
     all_goals intro aj
     all_goals first | replace aj:=q2z aj | replace aj:=q1z aj | skip
     all_goals first | subst aj | replace ax:=And.intro aj ax
     all_goals try simp only[ax,e14,e13,e12,e1',e0',e5,c',go_sem,↓reduceIte,Nat.reduceEqDiff,Nat.reduceBEq,Nat.reduceAdd,Nat.reduceSub,Nat.reduceLT,Nat.reduceLeDiff,Int.reduceLT,Int.reduceLE,Int.reduceEq,Int.reduceToNat])
   exact ⟨hq,ko,out,hn,xr,fw,yr⟩
 ·rintro e H ⟨hq,e0',e5,ko,out,hn,xr,fw,yr⟩
  obtain ⟨y,tt1,tt2⟩:=ho
  have tH:=fw.db _ _ tt1 (by simp)
  have hdn:decide (b≤t)=true:=by simp[hb]
  obtain ⟨ht1,ht2⟩:=xr.ty
  have hyt:y.ty=none:=by rcases tt2 with ⟨rfl,_⟩ | ⟨rfl,_⟩<;> rfl
  have ax:(0:Nat)=0:=rfl
  try simp only[e0',e5,hn,tH,ht1,ht2,hdn,hyt,go_sem,↓reduceIte,Nat.reduceEqDiff,Nat.reduceBEq,Nat.reduceAdd,Nat.reduceSub,Nat.reduceLT,Nat.reduceLeDiff,Int.reduceLT,Int.reduceLE,Int.reduceEq,Int.reduceToNat]
  repeat' (
    first | refine q5z ?_ ?_ | refine q3z ?_ ?_ | refine q4z ?_ ?_
    all_goals intro aj
    all_goals first | replace aj:=q2z aj | replace aj:=q1z aj | skip
    all_goals first | subst aj | replace ax:=And.intro aj ax
    all_goals try simp only[ax,e0',e5,hn,tH,ht1,ht2,hdn,hyt,go_sem,↓reduceIte,Nat.reduceEqDiff,Nat.reduceBEq,Nat.reduceAdd,Nat.reduceSub,Nat.reduceLT,Nat.reduceLeDiff,Int.reduceLT,Int.reduceLE,Int.reduceEq,Int.reduceToNat])
  left
  have fwt:Fw [t] h (H.set t (.cells (some 141) [.st 141 [out]])):=(fw.mono (by simp)).trans (Fw.set (by simp) tH)
  rcases xr with ⟨rfl,h0⟩ | ⟨rfl,h0⟩
  ·have:l=[]:=by simpa using h0
   subst this
   first
     | exact ⟨hq,rfl,t,⟨_,q9z tH,.inl ⟨rfl,rfl,rfl⟩⟩,fwt,.inl rfl⟩
     | exact ⟨hq,t,⟨_,q9z tH,.inl ⟨rfl,rfl,rfl⟩⟩,fwt,.inl rfl⟩
  ·have cC:t≠ko:=by omega
   have q:TR (H.set t (.cells (some 141) [.st 141 [.ref ko [] (some 56) 0 (l.map ae.enc).length (l.map ae.enc).length]])) t ko l:=⟨_,q9z tH,.inr ⟨by rw[acy],adY cC,by rw[acp cC];exact h0⟩⟩
   first
     | exact ⟨hq,rfl,ko,q,fwt,.inr (by omega)⟩
     | exact ⟨hq,ko,q,fwt,.inr (by omega)⟩
 all_goals rfl
def eh (l:List ae) (v:ae):List ae:=(l.filter fun w=> decide (bB w.iD v.iD < 0))++[v]++l.filter fun w=> decide (0 < bB w.iD v.iD)
theorem filter_lt {l:List ae} (hr:fc l) (id:Bs):(l.filter fun w=> decide (bB w.iD id < 0))=l.take (pos l id):=by
 induction l with
 | nil=> rfl
 | cons w l ih=>
   obtain ⟨h1,h2⟩:=aeY.1 hr
   by_cases hw:bB w.iD id < 0
   ·have e:pos (w::l) id=pos l id+1:=by simp[pos,hw]
    rw[e,ad8 (by simpa using hw),ih h2];rfl
   ·have hz:∀x∈l,¬bB x.iD id < 0:=fun x hx h=> hw (eU _ _ _ (h1 x hx) h)
    have e:pos (w::l) id=0:=by
      rw[pos,aff]
      intro x hx
      rcases acQ.1 hx with rfl | hx
      ·simpa using hw
      ·simpa using hz x hx
    rw[e,aex,afF]
    intro x hx
    rcases acQ.1 hx with rfl | hx
    ·simpa using hw
    ·simpa using hz x hx
theorem EM {l:List ae} (hr:fc l) (id:Bs):(l.filter fun w=> decide (0 < bB w.iD id))=if (l[pos l id]?).map ae.iD=some id then l.drop (pos l id+1) else l.drop (pos l id):=by
 induction l with
 | nil=> rfl
 | cons w l ih=>
   obtain ⟨h1,h2⟩:=aeY.1 hr
   by_cases hw:bB w.iD id < 0
   ·have e:pos (w::l) id=pos l id+1:=by simp[pos,hw]
    rw[e,ad9 (by simp;omega),ih h2]
    simp only[afu,afg]
   ·have hz:∀x∈l,0 < bB x.iD id:=fun x hx=> by
      have a1:=h1 x hx
      have a2:=pZ x.iD id
      rcases Int.lt_or_le 0 (bB x.iD id) with h | h
      ·exact h
      ·exfalso
       rcases Int.lt_or_eq_of_le h with h | h
       ·exact hw (eU _ _ _ a1 h)
       ·rw[iL _ _ h] at a1;exact hw a1
    have e:pos (w::l) id=0:=by
      rw[pos,aff]
      intro x hx
      rcases acQ.1 hx with rfl | hx
      ·simpa using hw
      ·have:=hz x hx;simp;omega
    have hl:l.filter (fun w=> decide (0 < bB w.iD id))=l:=afh.2 fun x hx=> by simpa using hz x hx
    rw[e]
    simp only[acM,acO,Option.some.injEq,acU,afg,ac2]
    by_cases hi:w.iD=id
    ·rw[if_pos hi,ad9 (by rw[hi];simp[eo]),hl]
    ·rw[if_neg hi,ad8 (by
     have:bB w.iD id≠0:=fun h=> hi (iL _ _ h)
     simp;omega),hl]
theorem yW {l:List ae} {v:ae} (hr:fc l) (h:(qa l v).1=0):(qa l v).2=eh l v:=by
 unfold eh
 rw[filter_lt hr,EM hr]
 unfold qa at h ⊢
 split
 ·rename_i h1;rw[if_pos h1] at h;cases h
 ·rename_i h1
  rw[if_neg h1] at h
  split
  ·rename_i h2
   have bR:pos l v.iD < l.length:=by
     cases hp:l[pos l v.iD]? with
     | none=> rw[hp] at h2;cases h2
     | some w=> exact (acj.1 hp).1
   rw[List.set_eq_take_append_cons_drop,if_pos bR];simp
  ·rename_i h2
   rw[if_neg h2] at h
   split
   ·rename_i h3;rw[if_pos h3] at h;cases h
   ·rfl
theorem pos_eq {l:List ae} (hr:fc l) {j:Nat} {w:ae} {id:Bs} (h:l[j]? =some w) (hw:w.iD=id):pos l id=j:=by
 have h1:=xn (id:=id) hr h
 rw[hw,eo] at h1
 have h2:¬j < pos l id:=fun h=> absurd (h1.2 h) (by decide)
 rcases adZ (pos l id) j with h3 | h3
 ·have hj:=(acj.1 h).1
  have hp:l[pos l id]? =some l[pos l id]:=aci (by omega)
  have h4:=xn (id:=id) hr hp
  have h5:=aeO.1 hr (pos l id) j (by omega) hj h3
  have h6:l[j]=w:=(acj.1 h).2
  rw[h6,hw] at h5
  exact absurd (h4.1 h5) (by omega)
 ·omega
theorem tG {l:List ae} (hr:fc l) (v:ae):fc (eh l v):=by
 unfold fc eh
 have f1:(l.filter fun w=> decide (bB w.iD v.iD < 0)).Pairwise fun v w=> bB v.iD w.iD < 0:=hr.sublist List.filter_sublist
 have f2:(l.filter fun w=> decide (0 < bB w.iD v.iD)).Pairwise fun v w=> bB v.iD w.iD < 0:=hr.sublist List.filter_sublist
 refine aeN.2 ⟨aeN.2 ⟨f1,by simp,?_⟩,f2,?_⟩
 ·intro a ha b hb
  simp at ha hb;subst hb;exact ha.2
 ·intro a ha b hb
  have hb':bB v.iD b.iD < 0:=by
    have:=(afL.1 hb).2
    have q:=pZ b.iD v.iD
    simp at this;omega
  rcases acG.1 ha with ha | ha
  ·have:=(afL.1 ha).2
   exact eU _ _ _ (by simpa using this) hb'
  ·simp at ha;subst ha;exact hb'
structure kK where
 role:Int
 au:Int
 to:Int
 vs:List ae
structure ba where
 mem:Int
 bj:Int
 p:Nat→kK
def ba.kY (s:ba) (n:Nat) (q:kK):ba:= {s with p:=fun j=> if j=n then q else s.p j}
def ba.new (a b:Int):ba:=⟨a,b,fun n=>⟨if (n:Int) % b=a then 1 else 0,1,0,[]⟩⟩
def eJ (q:kK) (t:Nat):V:= .st 107 [.s (.int .i64 q.role),.s (.int .u64 q.au),.s (.int .i64 q.to),.ptr t [0] 1]
def gQ (p:Nat→kK) (ts:Nat→Nat×Nat) (n:Nat):List V:=(List.range n).map fun i=> eJ (p i) (ts i).1
theorem EN (p:Nat→kK) (ts:Nat→Nat×Nat) (n:Nat):gQ p ts (n+1)=gQ p ts n++[eJ (p n) (ts n).1]:=by simp[gQ,adX]
theorem cA (p:Nat→kK) (ts:Nat→Nat×Nat) (n:Nat):(gQ p ts n).length=n:=by simp[gQ]
theorem dS (p:Nat→kK) (ts:Nat→Nat×Nat) (n i:Nat) (h:i < n):(gQ p ts n)[i]? =some (eJ (p i) (ts i).1):=by simp[gQ,h]
theorem tI {p p':Nat→kK} {ts ts':Nat→Nat×Nat} {n:Nat} (h:∀i,i < n→p i=p' i∧(ts i).1=(ts' i).1):gQ p ts n=gQ p' ts' n:=by
 unfold gQ
 apply aes
 intro i hi
 obtain ⟨h1,h2⟩:=h i (ado.1 hi)
 rw[h1,h2]
structure Bg (h:Hp) (m:Nat) (s:ba) (F:List Nat) (r:Nat) (ts:Nat→Nat×Nat) (own:Nat→Nat):Prop where
 o:h[m]? =some (.cells (some 103) [.st 103 [.s (.int .i64 s.mem),.s (.int .i64 s.bj),.ref r [] (some 107) 0 16 16]])
 row:h[r]? =some (.cells (some 107) (gQ s.p ts 16))
 tab:∀i,i < 16→TR h (ts i).1 (ts i).2 (s.p i).vs
 om:own m=100
 orr:own r=101
 ot:∀i,i < 16→own (ts i).1=i∧own (ts i).2=i
 fm:m∈F
 fr:r∈F
 ft:∀i,i < 16→(ts i).1∈F∧(ts i).2∈F
 fl:∀j∈F,j < h.length
def iU (h:Hp) (m:Nat) (s:ba) (F:List Nat):Prop:=∃(r:Nat) (ts:Nat→Nat×Nat) (own:Nat→Nat),Bg h m s F r ts own
theorem Bg.mono {S F:List Nat} {h h':Hp} {m r:Nat} {s:ba} {ts:Nat→Nat×Nat} {own:Nat→Nat} (hm:Bg h m s F r ts own) (f:Fw S h h') (hd:∀j∈F,j∉S):Bg h' m s F r ts own:=
 ⟨f.db _ _ hm.o (hd _ hm.fm),f.db _ _ hm.row (hd _ hm.fr),fun i hi=>(hm.tab i hi).mono f (hd _ (hm.ft i hi).1) (hd _ (hm.ft i hi).2),hm.om,hm.orr,hm.ot,hm.fm,hm.fr,hm.ft,fun j hj=> f.lt (hm.fl j hj)⟩
theorem iU.mono {S F:List Nat} {h h':Hp} {m:Nat} {s:ba} (hm:iU h m s F) (f:Fw S h h') (hd:∀j∈F,j∉S):iU h' m s F:=by
 obtain ⟨r,ts,own,hm⟩:=hm
 exact ⟨r,ts,own,hm.mono f hd⟩
theorem iU.lt {F:List Nat} {h:Hp} {m:Nat} {s:ba} (hm:iU h m s F):∀j∈F,j < h.length:=by
 obtain ⟨r,ts,own,hm⟩:=hm
 exact hm.fl
theorem iU.mem {F:List Nat} {h:Hp} {m:Nat} {s:ba} (hm:iU h m s F):m∈F:=by
 obtain ⟨r,ts,own,hm⟩:=hm
 exact hm.fm
theorem iU.app {F:List Nat} {h:Hp} {m:Nat} {s:ba} (hm:iU h m s F) (t:Hp):iU (h++t) m s F:=hm.mono (Fw.app [] h t) (by simp)
theorem Bg.part {F:List Nat} {h h':Hp} {m r i t' k':Nat} {s:ba} {ts:Nat→Nat×Nat} {own:Nat→Nat} {q:kK} (hp:Bg h m s F r ts own) (hi:i < 16)
 (hr:h'[r]? =some (.cells (some 107) ((gQ s.p ts 16).set i (eJ q t')))) (hT:TR h' t' k' q.vs)
 (ho:∀j b,j≠r→j≠(ts i).1→j≠(ts i).2→h[j]? =some b→h'[j]? =some b) (ht:t'=(ts i).1∨h.length≤t') (hk:k'=(ts i).2∨k'=(ts i).1∨h.length≤k') (hl:h.length≤h'.length):
 iU h' m (s.kY i q) (t'::k'::F):=by
 obtain ⟨a1,a2⟩:=hp.ot i hi
 have hold:∀j b,own j≠i→own j≠101→h[j]? =some b→h'[j]? =some b:=fun j b h1 h2 hb=>
   ho j b (fun e=> h2 (by rw[e];exact hp.orr)) (fun e=> h1 (by rw[e];exact a1)) (fun e=> h1 (by rw[e];exact a2)) hb
 have mf:∀j,own j≠i→j < h.length→j≠t'∧j≠k':=fun j h1 h2=> by
   constructor
   ·rintro rfl
    rcases ht with e | e
    ·rw[e] at h1;exact h1 a1
    ·omega
   ·rintro rfl
    rcases hk with e | e | e
    ·rw[e] at h1;exact h1 a2
    ·rw[e] at h1;exact h1 a1
    ·omega
 refine ⟨r,fun j=> if j=i then (t',k') else ts j,fun j=> if j=t' then i else if j=k' then i else own j,⟨hold _ _ (by rw[hp.om];omega) (by rw[hp.om];omega) hp.o,?_,?_,?_,?_,?_,?_,?_,?_,?_⟩⟩
 ·rw[hr]
  congr 2
  apply adl
  intro j
  rw[ac7,cA]
  by_cases hj:j < 16
  ·rw[dS _ _ _ _ hj,dS _ _ _ _ hj]
   by_cases vg:i=j
   ·subst vg;simp[hi,ba.kY]
   ·simp[vg,adY vg,ba.kY]
  ·rw[if_neg (by omega),acW (by rw[cA];omega),acW (by rw[cA];omega)]
 ·intro j hj
  by_cases vg:j=i
  ·subst vg;simpa[ba.kY] using hT
  ·obtain ⟨b1,b2⟩:=hp.ot j hj
   simp only[vg,if_false,ba.kY]
   obtain ⟨x,c1,c2⟩:=hp.tab j hj
   refine ⟨x,hold _ _ (by omega) (by omega) c1,?_⟩
   rcases c2 with c2 | ⟨c3,c4,c5⟩
   ·exact .inl c2
   ·exact .inr ⟨c3,c4,hold _ _ (by omega) (by omega) c5⟩
 ·have:=mf m (by rw[hp.om];omega) (q6z hp.o)
  simp only[this.1,this.2,if_false];exact hp.om
 ·have:=mf r (by rw[hp.orr];omega) (q6z hp.row)
  simp only[this.1,this.2,if_false];exact hp.orr
 ·intro j hj
  by_cases vg:j=i
  ·subst vg;simp
  ·obtain ⟨b1,b2⟩:=hp.ot j hj
   obtain ⟨l1,l2⟩:=(hp.tab j hj).lt
   have n1:=mf (ts j).1 (by omega) l1
   have n2:=mf (ts j).2 (by omega) l2
   simp only[vg,if_false,n1.1,n1.2,n2.1,n2.2]
   exact ⟨b1,b2⟩
 ·simp[hp.fm]
 ·simp[hp.fr]
 ·intro j hj
  by_cases vg:j=i
  ·subst vg;simp
  ·have:=hp.ft j hj
   simp[vg,this]
 ·intro j hj
  rcases acQ.1 hj with rfl | hj
  ·exact hT.lt.1
  ·rcases acQ.1 hj with rfl | hj
   ·exact hT.lt.2
   ·exact ael (hp.fl j hj) hl
theorem oa (b:Nat) (h:Hp) (n:Int):run fns pr b 83 [.s (.int .i64 n)] h=some (.s (.bool (decide (0≤n)&& decide (n < 16))),h):=by
 refine Vm.aQ (nt:=9) rfl WW (by simp) ?_
 by_cases h0:0≤n
 ·simp only[B83,h0,go_sem,simprocAttr]
 ·simp only[B83,h0,go_sem,simprocAttr]
theorem Jh (b:Nat) (h:Hp) (n:Nat) (m:Int) (hn:n < 16) (h1:1≤m) (h2:m≤8):run fns pr b 50 [.s (.int .i64 (n:Nat)),.s (.int .i64 m)] h=some (.s (.int .i64 ((n:Int) % m)),h):=by
 refine Vm.aQ (nt:=13) rfl VQ (by simp) ?_
 have hr:=fun h0=> oa h.length h0 n
 have q1:(0:Int)≤(n:Int):=by omega
 have q2:(n:Int)< 16:=by omega
 have q3:min m 8=m:=by omega
 have q4:max 1 m=m:=by omega
 have hq:=fun cf base h=> iJ cf base h .i64 (n:Int) m (by omega)
 have hm:(n:Int).tmod m=(n:Int) % m:=adw q1
 simp only[B50,hr,q1,q2,q3,q4,hq,hm,go_sem,simprocAttr]
def SPp (p:Nat→kK) (a b:Int) (n:Nat) (H:Hp) (i:Nat) (y:V) (k:Nat) (ts:Nat→Nat×Nat) (own:Nat→Nat):Prop:=
 H[n]? =some (.cells (some 103) [.st 103 [.s (.int .i64 a),.s (.int .i64 b),y]])∧(i=0∧y= .al true (some 107) []∨0 < i∧y= .ref k [] (some 107) 0 i i∧H[k]? =some (.cells (some 107) (gQ p ts i))∧own k=101∧n≤k)∧own n=100∧
   (∀j,j < i→TR H (ts j).1 (ts j).2 []∧own (ts j).1=j∧own (ts j).2=j∧n≤(ts j).1∧n≤(ts j).2)
theorem SPp.step {p:Nat→kK} {a b:Int} {n i k k' t:Nat} {H H':Hp} {y:V} {ts:Nat→Nat×Nat} {own:Nat→Nat} (hp:SPp p a b n H i y k ts own) (hn:n < H.length) (ht:H.length≤t) (xu:k'≠t) (mD:k'=k∧0 < i∨H.length≤k') (hi:i < 16)
 (hm:H'[n]? =some (.cells (some 103) [.st 103 [.s (.int .i64 a),.s (.int .i64 b),.ref k' [] (some 107) 0 (i+1) (i+1)]])) (hr:H'[k']? =some (.cells (some 107) (gQ p ts i++[eJ (p i) t]))) (hT:TR H' t t []) (ho:∀(j:Nat) (b:bc),j≠n→(0 < i→j≠k)→H[j]? =some b→H'[j]? =some b):
 ∃ts' own',SPp p a b n H' (i+1) (.ref k' [] (some 107) 0 (i+1) (i+1)) k' ts' own':=by
 obtain ⟨h1,h2,h3,h4⟩:=hp
 refine ⟨fun j=> if j=i then (t,t) else ts j,fun j=> if j=t then i else if j=k' then 101 else own j,hm,.inr ⟨by omega,rfl,?_,by simp[xu],?_⟩,?_,?_⟩
 ·rw[hr,EN,if_pos rfl]
  rw[tI (p:=p) (p':=p) (ts:=ts) (ts':=fun j=> if j=i then (t,t) else ts j) (fun j hj=>⟨rfl,by rw[if_neg (by omega)]⟩)]
 ·rcases mD with ⟨rfl,xv⟩ | mD
  ·rcases h2 with ⟨h2,_⟩ | ⟨_,_,_,_,h2⟩
   ·omega
   ·exact h2
  ·omega
 ·have hnk:n≠k':=by
    rcases mD with ⟨rfl,xv⟩ | mD
    ·rcases h2 with ⟨h2,_⟩ | ⟨_,_,_,h2,_⟩
     ·omega
     ·intro e;rw[e,h2] at h3;cases h3
    ·omega
  simp only[show n≠t by omega,hnk,if_false];exact h3
 ·intro j hj
  by_cases vg:j=i
  ·subst vg
   simp only[if_true]
   exact ⟨hT,trivial,trivial,by omega,by omega⟩
  ·obtain ⟨a1,a2,a3,a4,a5⟩:=h4 j (by omega)
   have hl:=a1.lt
   simp only[vg,if_false]
   have En:0 < i→(ts j).1≠k∧(ts j).2≠k:=fun xv=> by
     rcases h2 with ⟨h2,_⟩ | ⟨_,_,_,h2,_⟩
     ·omega
     ·exact ⟨fun e=> by rw[e,h2] at a2;omega,fun e=> by rw[e,h2] at a3;omega⟩
   have Hj:(ts j).1≠n∧(ts j).2≠n:=⟨fun e=> by rw[e,h3] at a2;omega,fun e=> by rw[e,h3] at a3;omega⟩
   have hkk:(ts j).1≠k'∧(ts j).2≠k':=by
     rcases mD with ⟨rfl,xv⟩ | mD
     ·exact En xv
     ·omega
   refine ⟨?_,by rw[if_neg (by omega),if_neg hkk.1];exact a2,by rw[if_neg (by omega),if_neg hkk.2];exact a3,a4,a5⟩
   obtain ⟨x,b1,b2⟩:=a1
   refine ⟨x,ho _ _ Hj.1 (fun h=>(En h).1) b1,?_⟩
   rcases b2 with b2 | ⟨b3,b4,b5⟩
   ·exact .inl b2
   ·exact .inr ⟨b3,b4,ho _ _ Hj.2 (fun h=>(En h).2) b5⟩
theorem sE (b:Nat) (h:Hp) (x z:Int) (hb:b≤h.length) (h1:1≤z) (h2:z≤8) (h3:0≤x) (h4:x < z):∃v h',run fns pr b 19 [.s (.int .i64 x),.s (.int .i64 z)] h=some (v,h')∧∃F,v= .ptr h.length [0] 1∧iU h' h.length (ba.new x z) F∧Fw [] h h'∧∀j∈F,h.length≤j:=by
 refine Vm.ef (nt:=50) rfl UO (by simp) ?_
 have q1:¬z < 1:=by omega
 have q2:¬8 < z:=by omega
 have q3:¬x < 0:=by omega
 have q4:¬z≤x:=by omega
 simp only[B19,O1,O0,q1,q2,q3,q4,go_sem,simprocAttr]
 refine aV (fun m e H=>∃i y k ts own,m=16 - i∧i≤16∧e 27= .s (.int .i64 (i:Nat))∧e 5= .ptr h.length [0] 1∧e 0= .s (.int .i64 x)∧e 1= .s (.int .i64 z)∧SPp (ba.new x z).p x z h.length H i y k ts own∧Fw [] h H)
   (fun e H=> e 5= .ptr h.length [0] 1∧∃y k ts own,SPp (ba.new x z).p x z h.length H 16 y k ts own∧Fw [] h H)
   16 _ _ ⟨0,_,0,fun _=>(0,0),fun _=> 100,rfl,by omega,rfl,rfl,rfl,rfl,⟨aH _ _,.inl ⟨rfl,rfl⟩,rfl,fun j hj=> by omega⟩,Fw.app _ _ _⟩ ?_ ?_
 ·rintro m e H ⟨i,y,k,ts,own,rfl,hi,e27,e5,e0,e1,hp,fw⟩
  have oc:=hp
  obtain ⟨hm,hy,hom,hts⟩:=oc
  have hlm:=q6z hm
  by_cases c:i < 16
  ·have c':(i:Int)< 16:=by omega
   have iA:IntKind.i64.wrap ((i:Int)+1)=((i+1:Nat):Int):=q18z (by omega)
   have hn:=fun b' h0=> sD b' h0
   have hf:=fun h0=> Jh b h0 i z c h1 h2
   have hmT:=fun t=> q10z hm t
   have hstT:=fun t b'=> n9 hlm t b'
   have gr:∀(p:Bool) (q:Nat),(p || decide (b≤h.length+q))=true:=fun p q=> by simp;right;omega
   have gr0:decide (b≤h.length)=true:=by simpa using hb
   have grH:decide (b≤H.length+1)=true:=by have:=fw.len;simp;omega
   obtain ⟨P,hP⟩:∃P,V.st 107 [.s (.int .i64 (if (i:Int) % z=x then 1 else 0)),.s (.int .u64 1),ki,.ptr H.length [0] 1]=P:=⟨_,rfl⟩
   have hpi:eJ ((ba.new x z).p i) H.length=P:=hP
   have pty:P.ty=some 107:=by rw[←hP];rfl
   have pso:P.aA=true:=by rw[←hP];rfl
   obtain ⟨A,hA⟩:∃A:List bc,[bc.cells (some 141) [.st 141 [.al true (some 56) []]],.cells (some 107) [P]]=A:=⟨_,rfl⟩
   have hAl:A.length=2:=by rw[←hA];rfl
   have hA0:(H++A)[H.length]? =some (bc.cells (some 141) [.st 141 [.al true (some 56) []]]):=by rw[←hA];exact aM _ _ 0
   have hA1:(H++A)[H.length+1]? =some (bc.cells (some 107) [P]):=by rw[←hA];exact aM _ _ 1
   have hB1:(H++(A++[.cells (some 107) [P]]))[H.length+1]? =some (bc.cells (some 107) [P]):=by rw[←hA];exact aM _ _ 1
   have hB2:(H++(A++[.cells (some 107) [P]]))[H.length+2]? =some (bc.cells (some 107) [P]):=by rw[←hA];exact aM _ _ 2
   have dE:source (H++(A++[.cells (some 107) [P]])) (.ref (H.length+A.length) [] (some 107) 0 1 1)=some (some 107,[P]):=(ma (show (H++(A++[.cells (some 107) [P]]))[H.length+A.length]? =some (.cells (some 107) [P]) by rw[hAl];exact hB2) rfl).src
   have hB0:(H++(A++[.cells (some 107) [P]]))[H.length]? =some (bc.cells (some 141) [.st 141 [.al true (some 56) []]]):=by rw[←hA];exact aM _ _ 0
   have key:∀(k':Nat) (H':Hp),k'=k∧0 < i∨H.length+2≤k'→H'[h.length]? =some (.cells (some 103) [.st 103 [.s (.int .i64 x),.s (.int .i64 z),.ref k' [] (some 107) 0 (i+1) (i+1)]])→H'[k']? =some (.cells (some 107) (gQ (ba.new x z).p ts i++[P]))→
    H'[H.length]? =some (bc.cells (some 141) [.st 141 [.al true (some 56) []]])→(∀(j:Nat) (b:bc),j≠h.length→(0 < i→j≠k)→H[j]? =some b→H'[j]? =some b)→Fw [] h H'→
    ∃m,m < 16 - i∧∃(i':Nat) (y:V) (k:Nat) (ts:Nat→Nat×Nat) (own:Nat→Nat),m=16 - i'∧i'≤16∧Value.int IntKind.i64 ((i+1:Nat):Int)=Value.int IntKind.i64 (i':Int)∧SPp (ba.new x z).p x z h.length H' i' y k ts own∧Fw [] h H':=by
     intro k' H' a1 a2 a3 a4 a5 a6
     have xu:k'≠H.length:=by
       rcases a1 with ⟨rfl,xv⟩ | a1
       ·rcases hy with ⟨h0,_⟩ | ⟨_,_,hk,_⟩
        ·omega
        ·have:=q6z hk;omega
       ·omega
     rw[←hpi] at a3
     obtain ⟨ts',own',hp2⟩:=hp.step (k':=k') (t:=H.length) (H':=H') hlm (acm _) xu (a1.imp id fun h=> by omega) c a2 a3 ⟨_,a4,.inl ⟨rfl,rfl,rfl⟩⟩ a5
     exact ⟨16 - (i+1),by omega,i+1,_,k',ts',own',rfl,by omega,rfl,hp2,a6⟩
   rcases hy with ⟨h0,rfl⟩ | ⟨xv,rfl,hk,iM,hkb⟩
   ·have yH:=fun cf base=> ig (cf:=cf) (base:=base) (h:=H++(A++[.cells (some 107) [P]])) (g:=some 107) (bytes:=32) (ys:=[P]) dE (by simp) (by simp)
    have fin:=fun B=> key (H.length+(A.length+1)) (H.set h.length (bc.cells (some 103) [V.st 103 [.s (.int .i64 x),.s (.int .i64 z),.ref (H.length+(A.length+1)) [] (some 107) 0 1 1]])++(A++[bc.cells (some 107) [P],bc.cells (some 107) B])) (.inr (by omega))
      (by rw[h0];exact q10z (q9z hm) _)
    have fin:=fin [P] (by rw[bh (n:=H.length) (by simp),acB (by omega),h0];simp[gQ]) (by rw[aX (n:=H.length) (by simp),←hA];rfl) (fun j b hj _ hb=> q10z (by rw[acp (adY hj)];exact hb) _) ((fw.cP (acm _) _).trans (Fw.app _ _ _))
    by_cases cf:(i:Int) % z=x
    ·rw[if_pos cf] at hP
     simp only[e27,e5,e0,e1,c',iA,hn,hf,cf,gr,grH,gr0,hP,pty,pso,hA,hmT,hA1,hstT,yH,go_sem,simprocAttr]
     exact fin
    ·rw[if_neg cf] at hP
     simp only[e27,e5,e0,e1,c',iA,hn,hf,cf,gr,grH,gr0,hP,pty,pso,hA,hmT,hA1,hstT,yH,go_sem,simprocAttr]
     exact fin
   ·have yH:=fun cf=> fM (cf:=cf) (base:=b) (h:=H++(A++[.cells (some 107) [P]])) (g:=some 107) (bytes:=32) (ys:=[P]) (q10z hk (A++[.cells (some 107) [P]])) dE (by simp) (by simp[bQ];left;omega) (by simp[cA];omega)
    simp only[cA] at yH
    have hkn:k≠h.length:=fun e=> by rw[e,hom] at iM;omega
    have mR:=q6z hk
    have hmk:∀c,((H++(A++[bc.cells (some 107) [P]])).set k c)[h.length]? =some (.cells (some 103) [.st 103 [.s (.int .i64 x),.s (.int .i64 z),.ref k [] (some 107) 0 i i]]):=fun c=> by rw[acp hkn];exact hmT _
    have fin:=key k (((H++(A++[bc.cells (some 107) [P]])).set k (.cells (some 107) (gQ (ba.new x z).p ts i++[P]))).set h.length (.cells (some 103) [.st 103 [.s (.int .i64 x),.s (.int .i64 z),.ref k [] (some 107) 0 (i+1) (i+1)]])) (.inl ⟨rfl,xv⟩)
      (q9z (hmk _)) (by rw[acp (adY hkn)];exact q9z (q10z hk _)) (by rw[acp (by omega),acp (by omega)];exact hB0)
      (fun j b hj hk hb=> by rw[acp (adY hj),acp (adY (hk xv))];exact q10z hb _) (((fw.trans (Fw.app _ _ _)).cP hkb _).cP (acm _) _)
    by_cases cf:(i:Int) % z=x
    ·rw[if_pos cf] at hP
     simp only[e27,e5,e0,e1,c',iA,hn,hf,cf,gr,grH,gr0,hP,pty,pso,hA,hmT,hA1,hstT,yH,hmk,go_sem,simprocAttr]
     exact fin
    ·rw[if_neg cf] at hP
     simp only[e27,e5,e0,e1,c',iA,hn,hf,cf,gr,grH,gr0,hP,pty,pso,hA,hmT,hA1,hstT,yH,hmk,go_sem,simprocAttr]
     exact fin
  ·have c':¬(i:Int)< 16:=by omega
   obtain rfl:i=16:=by omega
   simp only[e27,e5,c',go_sem,simprocAttr]
   all_goals exact ⟨y,k,ts,own,hp,fw⟩
 ·rintro e H ⟨e5,y,k,ts,own,hp,fw⟩
  simp only[e5,go_sem,simprocAttr]
  obtain ⟨h1,h2,h3,h4⟩:=hp
  rcases h2 with ⟨h2,_⟩ | ⟨_,rfl,h6,h7,h8⟩
  ·omega
  ·refine ⟨(h.length::k::(List.range 16).flatMap fun j=> [(ts j).1,(ts j).2]),⟨k,ts,own,⟨h1,h6,fun j hj=>(h4 j hj).1,h3,h7,fun j hj=>⟨(h4 j hj).2.1,(h4 j hj).2.2.1⟩,by simp,by simp,fun j hj=>⟨by simp;right;right;exact ⟨j,hj,.inl rfl⟩,by simp;right;right;exact ⟨j,hj,.inr rfl⟩⟩,?_⟩⟩,fw,?_⟩
   all_goals
     intro j hj
     simp only[acQ,List.mem_flatMap,ado,ae8,or_false] at hj
     rcases hj with rfl | rfl | ⟨a,ha,rfl | rfl⟩
   ·exact q6z h1
   ·exact q6z h6
   ·exact (h4 a ha).1.lt.1
   ·exact (h4 a ha).1.lt.2
   ·exact acm _
   ·exact h8
   ·exact (h4 a ha).2.2.2.1
   ·exact (h4 a ha).2.2.2.2
structure POk (s:ba) (i:Nat) (q:kK):Prop where
 role:q.role=0∨q.role=1∨q.role=2
 e1:1≤q.au
 e2:q.au≤1099511627776
 abX:q.role=2→0≤q.to∧q.to < s.bj∧q.to≠s.mem
 to0:q.role≠2→q.to=0
 aaY:q.role=0→q.vs=[]
 EO:fc q.vs
 len:q.vs.length≤4
 vs:∀v∈q.vs,aP v=true∧v.wf∧az v.iD=i
structure jG (s:ba):Prop where
 m1:1≤s.bj
 m2:s.bj≤8
 m3:0≤s.mem
 m4:s.mem < s.bj
 p:∀i,i < 16→POk s i (s.p i)
theorem jG.new {a b:Int} (h1:1≤b) (h2:b≤8) (h3:0≤a) (h4:a < b):jG (ba.new a b):=
 ⟨h1,h2,h3,h4,fun i hi=>⟨by simp only[ba.new];split <;> simp,by simp[ba.new],by simp[ba.new],by simp only[ba.new];split <;> simp,by simp[ba.new],by simp[ba.new],List.Pairwise.nil,by simp[ba.new],by simp[ba.new]⟩⟩
theorem Bg.sr {F:List Nat} {h:Hp} {m r:Nat} {s:ba} {ts:Nat→Nat×Nat} {own:Nat→Nat} (hp:Bg h m s F r ts own):SR h (.ref r [] (some 107) 0 16 16) (some 107) (gQ s.p ts 16):=ma hp.row (cA _ _ _)
theorem Bg.app {F:List Nat} {h:Hp} {m r:Nat} {s:ba} {ts:Nat→Nat×Nat} {own:Nat→Nat} (hp:Bg h m s F r ts own) (X:Hp):Bg (h++X) m s F r ts own:=hp.mono (Fw.app [] h X) (by simp)
theorem qR (q:kK) (t:Nat):(eJ q t).ty=some 107:=rfl
theorem qS (q:kK) (t:Nat):(eJ q t).aA=true:=rfl
theorem R6 (b:Nat) (h:Hp) (m:Nat) (s:ba) (F:List Nat) (hs:iU h m s F):run fns pr b 41 [.ptr m [0] 1] h=some (.bP [.s (.int .i64 s.mem),.s (.int .i64 s.bj)],h):=by
 obtain ⟨r,ts,own,hp⟩:=hs
 refine Vm.aQ (nt:=12) rfl Vy (by simp) ?_
 simp only[B41,hp.o,go_sem,simprocAttr]
theorem MQ (b:Nat) (h:Hp) (m n:Nat) (s:ba) (F:List Nat) (hs:iU h m s F) (hn:n < 16):run fns pr b 42 [.ptr m [0] 1,.s (.int .i64 (n:Nat))] h=some (.bP [.s (.int .i64 (s.p n).role),.s (.int .u64 (s.p n).au),.s (.int .i64 (s.p n).to)],h):=by
 obtain ⟨r,ts,own,hp⟩:=hs
 refine Vm.aQ (nt:=24) rfl VA (by simp) ?_
 have hr:=fun h0=> oa h.length h0 n
 have q1:(0:Int)≤(n:Int):=by omega
 have q2:(n:Int)< 16:=by omega
 have gf:=fun cf base=> hp.sr.ck (cf:=cf) (base:=base) (k:= .i64) (i:=n) (by rw[cA];exact hn)
 have gU:=fun cf base=> hp.sr.fL (cf:=cf) (base:=base) (dS _ _ _ _ hn) rfl
 simp only[B42,hr,q1,q2,hp.o,gf,gU,qR,qS,go_sem,simprocAttr]
 simp only[eJ,acq,go_sem,simprocAttr]
theorem Bh (b:Nat) (h:Hp) (m n:Nat) (s:ba) (F:List Nat) (hs:iU h m s F) (hk:jG s) (hn:n < 16):run fns pr b 43 [.ptr m [0] 1,.s (.int .i64 (n:Nat))] h=some (.al false (some 56) ((s.p n).vs.map ae.enc),h):=by
 obtain ⟨r,ts,own,hp⟩:=hs
 refine Vm.aQ (nt:=28) rfl VC (by simp) ?_
 have ok:=hk.p n hn
 have hr:=fun h0=> oa h.length h0 n
 have q1:(0:Int)≤(n:Int):=by omega
 have q2:(n:Int)< 16:=by omega
 have gf:=fun cf base=> hp.sr.ck (cf:=cf) (base:=base) (k:= .i64) (i:=n) (by rw[cA];exact hn)
 have lD:(gQ s.p ts 16)[n]? =some (.st 107 [.s (.int .i64 (s.p n).role),.s (.int .u64 (s.p n).au),.s (.int .i64 (s.p n).to),.ptr (ts n).1 [0] 1]):=dS _ _ _ _ hn
 have Hl:=fun cf base=> hp.sr.qO (cf:=cf) (base:=base) (f:=0) lD (by simp)
 have hf3:=fun cf base=> hp.sr.qO (cf:=cf) (base:=base) (f:=3) lD (by simp)
 have Ew:=fun cf base=> hp.sr.vP (cf:=cf) (base:=base) (f:=0) (g':=none) lD rfl rfl
 have yu:=fun cf base=> hp.sr.vP (cf:=cf) (base:=base) (f:=3) (g':=none) lD rfl rfl
 have Hm:=Df h.length h (ts n).1 (ts n).2 (s.p n).vs (hp.tab n hn) (by have:=ok.len;omega) (fun v hv=> q14z (ok.vs v hv).1)
 by_cases c:(s.p n).role=0
 ·rw[ok.aaY c]
  simp only[B43,hr,q1,q2,hp.o,gf,Hl,Ew,c,acF,go_sem,simprocAttr]
 ·simp only[B43,hr,q1,q2,hp.o,gf,Hl,hf3,Ew,yu,c,Hm,jE,go_sem,simprocAttr]
def iX (P:ae→Bool):List ae→Nat→Int
 | [],_=> -1
 | x::l,i=> if P x=true then i else iX P l (i+1)
theorem tJ (P:ae→Bool):∀(l:List ae) (i:Nat),decide (0≤iX P l i)=l.any P
 | [],i=> rfl
 | x::l,i=> by
   unfold iX
   by_cases c:P x=true
   ·rw[if_pos c,List.any_cons,c];simp
   ·rw[if_neg c,tJ P l (i+1),List.any_cons];simp[c]
theorem EP (b:Nat) (h:Hp) (x:V) (l:List ae) (f:Nat) (cap:List V) (P:ae→Bool) (hx:SR h x (some 56) (l.map ae.enc)) (hl:l.length≤1000) (hP:∀b,∀v∈l,run fns pr b f (v.enc::cap) h=some (.s (.bool (P v)),h)):
 run fns pr b 127 [x,.fn f cap] h=some (.s (.int .i64 (iX P l 0)),h):=by
 refine Vm.aQ (nt:=19) rfl QQ (by simp) ?_
 have dQ:∀cf base H,aC cf base H .len [x]=some (.s (.int .i64 (l.length:Nat)),H):=fun cf base H=> by rw[hx.bU];simp
 simp only[QO,IC,IB,dQ,go_sem,simprocAttr]
 refine aV (fun n e H=>∃i:Nat,n=l.length - i∧i≤l.length∧e 8= .s (.int .i64 i)∧e 7= .s (.int .i64 l.length)∧e 0=x∧e 1= .fn f cap∧H=h∧iX P l 0=iX P (l.drop i) i)
   (fun e H=> H=h∧iX P l 0= -1) l.length _ _ ⟨0,by omega,by omega,rfl,rfl,rfl,rfl,rfl,rfl⟩ ?_ ?_
 ·rintro n e H ⟨i,rfl,hi,e8,e7,e0,e1,rfl,hf⟩
  by_cases c:i < l.length
  ·have c':(i:Int)< l.length:=by omega
   have hw:IntKind.i64.wrap ((i:Int)+1)=((i+1:Nat):Int):=q18z (by omega)
   have hv:l[i]? =some l[i]:=aci c
   have hd:l.drop i=l[i]::l.drop (i+1):=adh c
   have hm:l[i]∈l:=ac3 c
   generalize l[i]=v at hv hd hm
   have hc:=fun b=> hP b v hm
   have gf:=fun cf base=> hx.ck (cf:=cf) (base:=base) (k:= .i64) (i:=i) (by simpa using c)
   have gU:=fun cf base=> hx.fL (cf:=cf) (base:=base) (i:=i) (v:=v.enc) (by rw[acv,hv];rfl) rfl
   rw[hd] at hf
   by_cases cp:P v=true
   ·have hf2:iX P l 0=i:=by rw[hf];simp[iX,cp]
    rw[hf2]
    simp only[e8,e7,e0,e1,c',gf,gU,hc,cp,aJ,aK,ade,ac1,go_sem,simprocAttr]
   ·have hf2:iX P l 0=iX P (l.drop (i+1)) (i+1):=by rw[hf];simp[iX,cp]
    simp only[e8,e7,e0,e1,c',gf,gU,hc,cp,hw,aJ,aK,ade,ac1,go_sem,simprocAttr]
    exact ⟨l.length - (i+1),by omega,i+1,rfl,by omega,rfl,hf2⟩
  ·have c':¬(i:Int)< l.length:=by omega
   simp only[e8,e7,e0,e1,c',go_sem,simprocAttr]
   rw[hf,List.drop_eq_nil_of_le (by omega)];rfl
 ·rintro e H ⟨rfl,hf⟩
  rw[hf]
  simp only[acq,go_sem,simprocAttr]
theorem qb (b:Nat) (h:Hp) (x:V) (l:List ae) (f:Nat) (cap:List V) (P:ae→Bool) (hx:SR h x (some 56) (l.map ae.enc)) (hl:l.length≤1000) (hP:∀b,∀v∈l,run fns pr b f (v.enc::cap) h=some (.s (.bool (P v)),h)):
 run fns pr b 101 [x,.fn f cap] h=some (.s (.bool (l.any P)),h):=by
 refine Vm.aQ (nt:=9) rfl PV (by simp) ?_
 have hi:=fun b=> EP b h x l f cap P hx hl hP
 have ha:=tJ P l 0
 simp only[PT,hi,ha,go_sem,simprocAttr]
def mg (s:ba) (v:ae):Int:=
 if (s.p (az v.iD)).role=0 then 26 else if (s.p (az v.iD)).role=2 then 27
 else if (jn (s.p (az v.iD)).vs v.iD).isSome=false∧4≤(s.p (az v.iD)).vs.length then 13 else 0
def yX (s:ba) (r:av):Int:=
 if s.bj≤r.cg∨r.cg=s.mem then 1 else if (s.p r.aw.toNat).role=0 then 26 else if (s.p r.aw.toNat).role=2 then 27
 else if r.au=(s.p r.aw.toNat).au+1 then 0 else 1
def tK (s:ba) (r:av):Int:=
 if (r.ag.any fun v=> decide ((az v.iD:Int)≠r.aw))=true then 1 else if (s.p r.aw.toNat).role=1 then 26
 else if r.au≤(s.p r.aw.toNat).au then 31 else 0
def bT (s:ba) (r:av):Int:=
 if aS r=false then 1 else if r.kind=1 then mg s r.aq else if r.kind=2 then yX s r else if r.kind=3 then tK s r
 else if (s.p r.aw.toNat).role=2∧(s.p r.aw.toNat).au=r.au then 0 else 26
theorem Ji (b:Nat) (h:Hp) (m:Nat) (s:ba) (F:List Nat) (f:Bool) (v:ae) (hs:iU h m s F) (hk:jG s) (hl:v.iD.length≤1000000):
 run fns pr b 65 [.ptr m [0] 1,v.ek f] h=some (.s (.int .i64 (mg s v)),h):=by
 obtain ⟨r,ts,own,hp⟩:=hs
 obtain ⟨a1,a2,a3,a4,a5,a6,a7,a8,a9⟩:=v
 simp only at hl
 refine Vm.aQ (nt:=42) rfl Wl (by simp) ?_
 have hn:=ie a1
 have ok:=hk.p _ hn
 have pJ:=fun b h0=> mc b h0 a1 hl
 have cS:=fun X=>(hp.app X).o
 have gf:=fun cf base X=>(hp.app X).sr.ck (cf:=cf) (base:=base) (k:= .i64) (i:=az a1) (by rw[cA];exact hn)
 have gU:=fun cf base X=>(hp.app X).sr.fL (cf:=cf) (base:=base) (dS _ _ _ _ hn) rfl
 have A9:=fun b X=> MN b (h++X) (ts (az a1)).1 (ts (az a1)).2 (s.p (az a1)).vs a1 ((hp.app X).tab _ hn) ok.EO (by have:=ok.len;omega) (fun v hv=> q14z (ok.vs v hv).1)
 have j3:=fun b X=> MK b (h++X) (ts (az a1)).1 (ts (az a1)).2 (s.p (az a1)).vs ((hp.app X).tab _ hn)
 have oC:=ok.len
 unfold mg
 simp only
 generalize hS:az a1=S at *
 generalize jn (s.p S).vs a1=o at *
 simp only[B65,ae.ek,pJ,cS,gf,gU,qR,qS,go_sem,simprocAttr]
 have hle:((4:Int)≤(((s.p S).vs.length:Nat):Int))=(4≤(s.p S).vs.length):=propext (by omega)
 by_cases c0:(s.p S).role=0
 ·simp only[eJ,c0,A9,aJ,aK,acq,go_sem,simprocAttr]
 ·by_cases c2:(s.p S).role=2
  ·simp only[eJ,c0,c2,A9,aJ,aK,acq,go_sem,simprocAttr]
  ·cases o with
   | none=>
     by_cases c4:4≤(s.p S).vs.length
     ·simp only[eJ,c0,c2,A9,j3,aJ,aK,acq,hle,c4,adF,go_sem,simprocAttr]
      all_goals rfl
     ·simp only[eJ,c0,c2,A9,j3,aJ,aK,acq,hle,c4,adF,go_sem,simprocAttr]
      all_goals rfl
   | some w=>
     simp only[eJ,c0,c2,A9,j3,aJ,aK,acq,adr,go_sem,simprocAttr]
     all_goals rfl
theorem MR (b:Nat) (h:Hp) (m:Nat) (s:ba) (F:List Nat) (r:av) (hs:iU h m s F) (hk:jG s) (h0:0≤r.aw) (h1:r.aw < 16):
 run fns pr b 66 [.ptr m [0] 1,r.enc] h=some (.s (.int .i64 (yX s r)),h):=by
 obtain ⟨rw,ts,own,hp⟩:=hs
 obtain ⟨kind,aw,cg,au,aq,ag⟩:=r
 simp only at h0 h1
 obtain ⟨n,rfl⟩:∃n:Nat,aw=(n:Int):=⟨aw.toNat,by omega⟩
 have hn:n < 16:=by omega
 refine Vm.aQ (nt:=46) rfl Wn (by simp) ?_
 have ok:=hk.p _ hn
 have cS:=fun X=>(hp.app X).o
 have gf:=fun cf base X=>(hp.app X).sr.ck (cf:=cf) (base:=base) (k:= .i64) (i:=n) (by rw[cA];exact hn)
 have gU:=fun cf base X=>(hp.app X).sr.fL (cf:=cf) (base:=base) (dS _ _ _ _ hn) rfl
 have hw:IntKind.u64.wrap ((s.p n).au+1)=(s.p n).au+1:=by have:=ok.e1;have:=ok.e2;exact wrap_u64 (by omega) (by omega)
 unfold yX
 simp only[acC]
 simp only[B66,av.enc,cS,gf,gU,qR,qS,go_sem,simprocAttr]
 by_cases c1:s.bj≤cg
 ·simp only[c1,acq,go_sem,simprocAttr]
  all_goals rfl
 ·by_cases c2:cg=s.mem
  ·have c1':¬s.bj≤s.mem:=by rw[←c2];exact c1
   simp only[cS,c1,c1',c2,acq,go_sem,simprocAttr]
   all_goals rfl
  ·by_cases c3:(s.p n).role=0
   ·simp only[cS,c1,c2,c3,eJ,acq,go_sem,simprocAttr]
    all_goals rfl
   ·by_cases c4:(s.p n).role=2
    ·simp only[cS,c1,c2,c3,c4,eJ,acq,go_sem,simprocAttr]
     all_goals rfl
    ·by_cases c5:au=(s.p n).au+1
     ·simp only[cS,c1,c2,c3,c4,c5,hw,eJ,acq,go_sem,simprocAttr]
      all_goals rfl
     ·simp only[cS,c1,c2,c3,c4,c5,hw,eJ,acq,go_sem,simprocAttr]
      all_goals rfl
theorem ER (b:Nat) (h:Hp) (n:Nat) (v:ae) (rest:List V) (id:Nat) (hl:v.iD.length≤1000000) (k:V) (hg:h[id]? =some (.cells (some 59) [.st 59 (k:: .s (.int .i64 (n:Nat))::rest)])):
 run fns pr b 102 [v.enc,.ptr id [0] 1] h=some (.s (.bool (decide ((az v.iD:Int)≠(n:Nat)))),h):=by
 refine Vm.aQ (nt:=10) rfl PY (by simp) ?_
 obtain ⟨a1,a2,a3,a4,a5,a6,a7,a8,a9⟩:=v
 simp only at hl ⊢
 have pJ:=fun b h0=> mc b h0 a1 hl
 have cS:=fun X=> q10z hg X
 generalize az a1=S at *
 have hq:1 < rest.length+1+1:=by omega
 simp only[PW,ae.enc,pJ,cS,hq,acq,go_sem,simprocAttr]
 all_goals simp[bne,acD]
theorem Jj (b:Nat) (h:Hp) (m:Nat) (s:ba) (F:List Nat) (r:av) (hs:iU h m s F) (hk:jG s) (h0:0≤r.aw) (h1:r.aw < 16) (hv:∀v∈r.ag,v.wf) (hl:r.ag.length≤4):
 run fns pr b 67 [.ptr m [0] 1,r.enc] h=some (.s (.int .i64 (tK s r)),h):=by
 obtain ⟨rw,ts,own,hp⟩:=hs
 obtain ⟨kind,aw,cg,au,aq,ag⟩:=r
 simp only at h0 h1 hv hl
 obtain ⟨n,rfl⟩:∃n:Nat,aw=(n:Int):=⟨aw.toNat,by omega⟩
 have hn:n < 16:=by omega
 refine Vm.aQ (nt:=29) rfl Wp (by simp) ?_
 have ok:=hk.p _ hn
 have cS:=fun X=>(hp.app X).o
 have gf:=fun cf base X=>(hp.app X).sr.ck (cf:=cf) (base:=base) (k:= .i64) (i:=n) (by rw[cA];exact hn)
 have gU:=fun cf base X=>(hp.app X).sr.fL (cf:=cf) (base:=base) (dS _ _ _ _ hn) rfl
 have hc:=fun b H (hg:H[h.length]? =_)=> qb b H (.al false (some 56) (ag.map ae.enc)) ag 102 [.ptr h.length [0] 1] (fun v=> decide ((az v.iD:Int)≠(n:Nat))) (.inl ⟨_,rfl⟩) (by omega)
   (fun b v hm=> ER b H n v [.s (.int .i64 cg),.s (.int .u64 au),aq.enc,.al false (some 56) (ag.map ae.enc)] h.length (by have:=(hv v hm).iD;omega) (.s (.int .i64 kind)) hg)
 have hc2:=fun b X=> hc b (h++bc.cells (some 59) [.st 59 [.s (.int .i64 kind),.s (.int .i64 n),.s (.int .i64 cg),.s (.int .u64 au),aq.enc,.al false (some 56) (ag.map ae.enc)]]::X) (by simp)
 unfold tK
 simp only[acC]
 generalize (ag.any fun v=> decide ((az v.iD:Int)≠(n:Nat)))=q at *
 simp only[B67,av.enc,cS,gf,gU,qR,qS,go_sem,simprocAttr]
 cases q
 ·by_cases c3:(s.p n).role=1
  ·simp only[hc2,c3,eJ,acq,go_sem,simprocAttr]
   all_goals rfl
  ·by_cases c4:au≤(s.p n).au
   ·simp only[hc2,c3,c4,eJ,acq,go_sem,simprocAttr]
    all_goals rfl
   ·simp only[hc2,c3,c4,eJ,acq,go_sem,simprocAttr]
    all_goals rfl
 ·simp only[hc2,acq,go_sem,simprocAttr]
  all_goals rfl
theorem jz {r:av} (h:aS r=true) (h1:r.kind≠1):0≤r.aw∧r.aw < 16∧1≤r.au∧r.au≤1099511627776∧r.aq=zeroV:=by
 unfold aS ib at h
 rw[if_neg h1] at h
 split at h
 ·simp at h;simp[h]
 ·split at h
  ·simp at h;simp[h]
  ·split at h
   ·simp at h;simp[h]
   ·cases h
theorem lE {r:av} (h:aS r=true):r.ag.length≤4:=by
 unfold aS at h
 split at h
 ·simp at h;simp[h]
 ·split at h
  ·simp at h;simp[h]
  ·split at h
   ·rw[acn] at h
    have:=h.2
    unfold bW at this
    rw[acn,decide_eq_true_eq] at this
    exact this.1
   ·split at h
    ·simp at h;simp[h]
    ·cases h
theorem yY (b:Nat) (h:Hp) (m:Nat) (s:ba) (F:List Nat) (r:av) (hs:iU h m s F) (hk:jG s) (hw:r.wf) (hv:∀v∈r.ag,v.wf):
 run fns pr b 29 [.ptr m [0] 1,r.enc] h=some (.s (.int .i64 (bT s r)),h):=by
 have jy:=fun b X=> m9 b (h++X) r hv
 have vQ:=fun b X=> Ji b (h++X) m s F false r.aq (hs.app X) hk (by have:=hw.aq.iD;omega)
 have hgo:=fun b X h0 h1=> MR b (h++X) m s F r (hs.app X) hk h0 h1
 have hco:=fun b X h0 h1 h4=> Jj b (h++X) m s F r (hs.app X) hk h0 h1 hv h4
 have hgk:=jz (r:=r)
 have hg4:=lE (r:=r)
 have dw:r.enc.ty=some 59:=rfl
 have jX:r.enc.aA=true:=rfl
 obtain ⟨rw,ts,own,hp⟩:=hs
 refine Vm.aQ (nt:=45) rfl U9 (by simp) ?_
 unfold bT
 cases hr:aS r with
 | false=>
   rw[if_pos rfl]
   simp only[B29,jy,hr,dw,jX,acq,go_sem,simprocAttr]
 | true=>
   rw[if_neg (by simp)]
   have h4:=hg4 hr
   have hgk:=hgk hr
   obtain ⟨kind,aw,cg,au,aq,ag⟩:=r
   simp only[av.enc,ae.lu] at *
   by_cases k1:kind=1
   ·subst k1
    rw[if_pos rfl]
    simp only[B29,jy,hr,vQ,eF,eG,acq,go_sem,simprocAttr]
   ·rw[if_neg k1]
    obtain ⟨g1,g2,g3,g4,g5⟩:=hgk k1
    have hgo:=fun b X=> hgo b X g1 g2
    have hco:=fun b X=> hco b X g1 g2 h4
    by_cases k2:kind=2
    ·subst k2
     rw[if_pos rfl]
     simp only[B29,jy,hr,hgo,eF,eG,acq,go_sem,simprocAttr]
    ·rw[if_neg k2]
     by_cases k3:kind=3
     ·subst k3
      rw[if_pos rfl]
      simp only[B29,jy,hr,hco,eF,eG,acq,go_sem,simprocAttr]
     ·rw[if_neg k3]
      obtain ⟨n,rfl⟩:∃n:Nat,aw=(n:Int):=⟨aw.toNat,by omega⟩
      have hn:n < 16:=by omega
      have cS:=fun X=>(hp.app X).o
      have gf:=fun cf base X=>(hp.app X).sr.ck (cf:=cf) (base:=base) (k:= .i64) (i:=n) (by rw[cA];exact hn)
      have gU:=fun cf base X=>(hp.app X).sr.fL (cf:=cf) (base:=base) (dS _ _ _ _ hn) rfl
      simp only[acC]
      simp only[B29,jy,hr,k1,k2,k3,cS,gf,gU,qR,qS,go_sem,simprocAttr]
      by_cases c1:(s.p n).role=2
      ·by_cases c2:(s.p n).au=au
       ·simp only[c1,c2,eJ,acq,go_sem,simprocAttr]
        all_goals rfl
       ·simp only[c1,c2,eJ,acq,go_sem,simprocAttr]
        all_goals rfl
      ·simp only[c1,eJ,acq,go_sem,simprocAttr]
       all_goals rfl
def bf (s:ba) (r:av):Int×ba:=
 if bT s r≠0 then (bT s r,s)
 else if r.kind=1 then ((qa (s.p (az r.aq.iD)).vs r.aq).1,s.kY (az r.aq.iD) {s.p (az r.aq.iD) with vs:=(qa (s.p (az r.aq.iD)).vs r.aq).2})
 else if r.kind=2 then (0,s.kY r.aw.toNat ⟨2,r.au,r.cg,(s.p r.aw.toNat).vs⟩)
 else if r.kind=3 then (0,s.kY r.aw.toNat ⟨1,r.au,0,r.ag⟩)
 else (0,s.kY r.aw.toNat ⟨0,r.au,0,[]⟩)
theorem q31z {l:List ae} (h:bW l=true):∀(j i:Nat) (AA:i < j) (hj:j < l.length),bB (l[i]).iD (l[j]).iD < 0:=by
 unfold bW at h
 rw[acn,acJ] at h
 have step:∀i (hi:i+1 < l.length),bB (l[i]).iD (l[i+1]).iD < 0:=fun i hi=> by
   have:=h.2 (i+1) (ado.2 hi)
   unfold eA at this
   rw[acn] at this
   have:=this.2
   simp only[afm,List.getD,aci hi,aci (show i < l.length by omega),acX] at this
   simpa using this
 intro j
 induction j with
 | zero=> intro i AA;omega
 | succ j ih=>
   intro i AA hj
   rcases adZ i j with h1 | h1
   ·exact eU _ _ _ (ih i h1 (by omega)) (step j hj)
   ·obtain rfl:i=j:=by omega
    exact step i hj
theorem q32z {l:List ae} (h:bW l=true):rising l=true:=by
 have h1:=q31z h
 unfold bW at h
 rw[acn,decide_eq_true_eq,acJ] at h
 unfold rising
 rw[acn,acn,decide_eq_true_eq,decide_eq_true_eq,acJ]
 refine ⟨⟨h.1,fun v hv=> ?_⟩,aeO.2 fun i j hi hj AA=> h1 j i AA hj⟩
 obtain ⟨i,hi,rfl⟩:=aeT hv
 have:=h.2 i (ado.2 hi)
 unfold eA at this
 rw[acn,List.getD,aci hi] at this
 exact this.1
theorem q25z {l:List V} {i:Nat} {x:V} (h:l[i]? =some x):l.set i x=l:=adl fun k=> by
 rw[ac7]
 by_cases hk:i=k
 ·subst hk
  obtain ⟨h1,h2⟩:=acj.1 h
  simp[h1,h,h2]
 ·simp[hk]
theorem Bg.vs {F:List Nat} {h h':Hp} {m r i k':Nat} {s:ba} {ts:Nat→Nat×Nat} {own:Nat→Nat} {l:List ae} (hp:Bg h m s F r ts own) (hi:i < 16)
 (hT:TR h' (ts i).1 k' l) (f:Fw [(ts i).1,(ts i).2] h h') (hk:k'=(ts i).2∨k'=(ts i).1∨h.length≤k'):
 ∃F',iU h' m (s.kY i {s.p i with vs:=l}) F'∧Fw F h h'∧∀j∈F',j∈F∨h.length≤j:=by
 obtain ⟨o1,o2⟩:=hp.ot _ hi
 have cC:∀j,j≠(ts i).1→j≠(ts i).2→j∉ [(ts i).1,(ts i).2]:=fun j h1 h2=> by simp[h1,h2]
 have cE:=f.db _ _ hp.row (cC r (fun e=> by rw[←e,hp.orr] at o1;omega) (fun e=> by rw[←e,hp.orr] at o2;omega))
 refine ⟨_,hp.part (q:= {s.p i with vs:=l}) (t':=(ts i).1) hi ?_ hT (fun j b _ h1 h2 hb=> f.db _ _ hb (cC j h1 h2)) (.inl rfl) hk f.len,f.mono ?_,?_⟩
 ·rw[cE];congr 2;exact (q25z (dS _ _ _ _ hi)).symm
 ·intro j hj
  simp only[acQ,ae8,or_false] at hj
  rcases hj with rfl | rfl
  ·exact (hp.ft _ hi).1
  ·exact (hp.ft _ hi).2
 ·intro j hj
  simp only[acQ] at hj
  rcases hj with rfl | rfl | hj
  ·exact .inl (hp.ft _ hi).1
  ·rcases hk with rfl | rfl | hk
   ·exact .inl (hp.ft _ hi).2
   ·exact .inl (hp.ft _ hi).1
   ·exact .inr hk
  ·exact .inl hj
theorem Bg.Yr {F:List Nat} {h h':Hp} {m r i t' k':Nat} {s:ba} {ts:Nat→Nat×Nat} {own:Nat→Nat} {q:kK} (hp:Bg h m s F r ts own) (hi:i < 16)
 (hr:h'[r]? =some (.cells (some 107) ((gQ s.p ts 16).set i (eJ q t')))) (hT:TR h' t' k' q.vs) (f:Fw [r,(ts i).1,(ts i).2] h h') (ht:t'=(ts i).1∨h.length≤t') (hk:k'=(ts i).2∨k'=(ts i).1∨h.length≤k'):
 ∃F',iU h' m (s.kY i q) F'∧Fw F h h'∧∀j∈F',j∈F∨h.length≤j:=by
 refine ⟨_,hp.part hi hr hT (fun j b h0 h1 h2 hb=> f.db _ _ hb (by simp[h0,h1,h2])) ht hk f.len,f.mono ?_,?_⟩
 ·intro j hj
  simp only[acQ,ae8,or_false] at hj
  rcases hj with rfl | rfl | rfl
  ·exact hp.fr
  ·exact (hp.ft _ hi).1
  ·exact (hp.ft _ hi).2
 ·intro j hj
  simp only[acQ] at hj
  rcases hj with rfl | rfl | hj
  ·rcases ht with rfl | ht
   ·exact .inl (hp.ft _ hi).1
   ·exact .inr ht
  ·rcases hk with rfl | rfl | hk
   ·exact .inl (hp.ft _ hi).2
   ·exact .inl (hp.ft _ hi).1
   ·exact .inr hk
  ·exact .inl hj
theorem tL (b:Nat) (h:Hp) (m:Nat) (s:ba) (F:List Nat) (r:av) (hF:∀j∈F,b≤j) (hs:iU h m s F) (hk:jG s) (hw:r.wf) (hv:∀v∈r.ag,v.wf):
 ∃v h',run fns pr b 36 [.ptr m [0] 1,r.enc] h=some (v,h')∧v= .s (.int .i64 (bf s r).1)∧∃F',iU h' m (bf s r).2 F'∧Fw F h h'∧∀j∈F',j∈F∨h.length≤j:=by
 have AD:=fun b X=> yY b (h++X) m s F r (hs.app X) hk hw hv
 have dw:r.enc.ty=some 59:=rfl
 have jX:r.enc.aA=true:=rfl
 have sw:=hs
 obtain ⟨rw,ts,own,hp⟩:=hs
 refine Vm.ef (nt:=79) rfl Vo (by simp) ?_
 unfold bf
 by_cases c0:bT s r=0
 case neg=>
   rw[if_pos c0]
   simp only[B36,AD,c0,dw,jX,go_sem,simprocAttr]
   exact ⟨_,sw.app _,Fw.app _ _ _,fun j hj=> .inl hj⟩
 rw[if_neg (by simp[c0])]
 have hr:aS r=true:=by
   cases hr:aS r with
   | true=> rfl
   | false=> unfold bT at c0;rw[if_pos hr] at c0;cases c0
 have hgk:=jz hr
 rw[c0] at AD
 by_cases k1:r.kind=1
 ·rw[if_pos k1]
  have iB:aP r.aq=true:=by unfold aS at hr;rw[if_pos k1] at hr;simp at hr;simp[hr]
  obtain ⟨kind,aw,cg,au,aq,ag⟩:=r
  obtain ⟨w1,w2,w3,w4,w5,w6⟩:=hw
  simp only at k1 iB w5 ⊢
  subst k1
  have hvi:aq.iD.length=4:=by have:=w5.iD;omega
  have hn:=ie aq.iD
  have ok:=hk.p _ hn
  have pJ:=fun b h0=> mc b h0 aq.iD (by omega)
  have cS:=fun X=>(hp.app X).o
  have gf:=fun cf base X=>(hp.app X).sr.ck (cf:=cf) (base:=base) (k:= .i64) (i:=az aq.iD) (by rw[cA];exact hn)
  have lD:(gQ s.p ts 16)[az aq.iD]? =some (.st 107 [.s (.int .i64 (s.p (az aq.iD)).role),.s (.int .u64 (s.p (az aq.iD)).au),.s (.int .i64 (s.p (az aq.iD)).to),.ptr (ts (az aq.iD)).1 [0] 1]):=dS _ _ _ _ hn
  have hf3:=fun cf base X=>(hp.app X).sr.qO (cf:=cf) (base:=base) (f:=3) lD (by simp)
  have yu:=fun cf base X=>(hp.app X).sr.vP (cf:=cf) (base:=base) (f:=3) (g':=none) lD rfl rfl
  have hpu:=MO b (h++[bc.cells (some 59) [av.enc ⟨1,aw,cg,au,aq,ag⟩]]) (ts (az aq.iD)).1 (ts (az aq.iD)).2 (s.p (az aq.iD)).vs aq (hF _ (hp.ft _ hn).1) ((hp.app _).tab _ hn) ok.EO ok.len
  have ng:av.enc ⟨1,aw,cg,au,aq,ag⟩=V.st 59 [.s (.int .i64 1),.s (.int .i64 aw),.s (.int .i64 cg),.s (.int .u64 au),aq.enc,.al false (some 56) (ag.map ae.enc)]:=rfl
  have Bi:aq.enc= .st 56 [.arr 54 (aq.iD.map aa),.s (.int .u64 aq.gen),.arr 27 (aq.mX.map aa),.al false none (aq.cx.map aa),.s (.int .i64 aq.cW),.s (.int .i64 aq.used),.arr 27 (aq.owner.map aa),.s (.bool aq.gone),.s (.bool aq.mY)]:=rfl
  rw[ng] at AD hpu ⊢
  rw[Bi] at AD hpu ⊢
  generalize hEs:(ag.map ae.enc)=es at *
  obtain ⟨H2,k2,hpu,hT,f2,yM⟩:=hpu
  have fA:∀X,Fw [] h (h++X):=fun X=> Fw.app [] h X
  have fin:=(hp.mono (fA _) (by simp)).vs hn hT f2 (by omega)
  obtain ⟨F',q1,q2,q3⟩:=fin
  have q2:=((fA _).mono (T:=F) (by simp)).trans q2
  have q3:∀j∈F',j∈F∨h.length≤j:=fun j hj=>(q3 j hj).imp id fun h=> by rw[aco] at h;omega
  simp only[B36,AD,pJ,cS,gf,hf3,yu,hpu,go_sem,simprocAttr]
  exact ⟨F',q1,q2,q3⟩
 ·rw[if_neg k1]
  obtain ⟨g1,g2,g3,g4,g5⟩:=hgk k1
  have h4:=lE hr
  have hrk:=q33z hr
  have yZ:r.kind=3→rising r.ag=true:=fun k3=> by
    unfold aS at hr
    rw[k3] at hr
    simp at hr
    exact q32z hr.2
  obtain ⟨kind,aw,cg,au,aq,ag⟩:=r
  simp only at k1 g1 g2 g3 g4 h4 hrk yZ ⊢
  obtain ⟨n,rfl⟩:∃n:Nat,aw=(n:Int):=⟨aw.toNat,by omega⟩
  have hn:n < 16:=by omega
  simp only[acC]
  have ng:av.enc ⟨kind,n,cg,au,aq,ag⟩=V.st 59 [.s (.int .i64 kind),.s (.int .i64 n),.s (.int .i64 cg),.s (.int .u64 au),aq.enc,.al false (some 56) (ag.map ae.enc)]:=rfl
  rw[ng] at AD ⊢
  have hpA:=hp.app [bc.cells (some 59) [V.st 59 [.s (.int .i64 kind),.s (.int .i64 n),.s (.int .i64 cg),.s (.int .u64 au),aq.enc,.al false (some 56) (ag.map ae.enc)]]]
  have fA:Fw [] h (h++[bc.cells (some 59) [V.st 59 [.s (.int .i64 kind),.s (.int .i64 n),.s (.int .i64 cg),.s (.int .u64 au),aq.enc,.al false (some 56) (ag.map ae.enc)]]]):=Fw.app [] h _
  have hid:(h++[bc.cells (some 59) [V.st 59 [.s (.int .i64 kind),.s (.int .i64 n),.s (.int .i64 cg),.s (.int .u64 au),aq.enc,.al false (some 56) (ag.map ae.enc)]]])[h.length]? =some (bc.cells (some 59) [V.st 59 [.s (.int .i64 kind),.s (.int .i64 n),.s (.int .i64 cg),.s (.int .u64 au),aq.enc,.al false (some 56) (ag.map ae.enc)]]):=aH _ _
  have hcA:=fun b=> AD b [bc.cells (some 59) [V.st 59 [.s (.int .i64 kind),.s (.int .i64 n),.s (.int .i64 cg),.s (.int .u64 au),aq.enc,.al false (some 56) (ag.map ae.enc)]]]
  have hlA:(h++[bc.cells (some 59) [V.st 59 [.s (.int .i64 kind),.s (.int .i64 n),.s (.int .i64 cg),.s (.int .u64 au),aq.enc,.al false (some 56) (ag.map ae.enc)]]]).length=h.length+1:=by simp
  have sb:=q6z hp.row
  have cC:rw≠h.length:=by omega
  clear AD sw
  generalize hHA:h++[bc.cells (some 59) [V.st 59 [.s (.int .i64 kind),.s (.int .i64 n),.s (.int .i64 cg),.s (.int .u64 au),aq.enc,.al false (some 56) (ag.map ae.enc)]]]=HA at *
  have gf:=fun cf base=> hpA.sr.ck (cf:=cf) (base:=base) (k:= .i64) (i:=n) (by rw[cA];exact hn)
  have hep:iW (.ref rw [] (some 107) 0 16 16) n= .ptr rw [n] 16:=by simp[iW]
  simp only[hep] at gf
  have hPn:(gQ s.p ts 16)[n]? =some (.st 107 [.s (.int .i64 (s.p n).role),.s (.int .u64 (s.p n).au),.s (.int .i64 (s.p n).to),.ptr (ts n).1 [0] 1]):=dS _ _ _ _ hn
  have hPl:=cA s.p ts 16
  have hPs:∀x,((gQ s.p ts 16).set n x)[n]? =some x:=fun x=> by rw[adU (by rw[hPl];exact hn)]
  have hgo:=hpA.o
  have xk:=hpA.row
  have jo:b≤rw:=hF _ hp.fr
  have aR:∀B,(HA.set rw B)[rw]? =some B:=fun B=> q9z xk
  have hsi:∀B,(HA.set rw B)[h.length]? =HA[h.length]? :=fun B=> by rw[acp cC]
  have nW:∀es',Fw [rw,(ts n).1,(ts n).2] HA (HA.set rw (.cells (some 107) es')):=fun es'=> Fw.set (by simp) xk
  have hnr:(ts n).1≠rw∧(ts n).2≠rw:=by
    obtain ⟨o1,o2⟩:=hp.ot _ hn
    exact ⟨fun e=> by rw[e,hp.orr] at o1;omega,fun e=> by rw[e,hp.orr] at o2;omega⟩
  have fin:∀(q:kK) (t' k':Nat) (h':Hp),h'[rw]? =some (.cells (some 107) ((gQ s.p ts 16).set n (eJ q t')))→TR h' t' k' q.vs→Fw [rw,(ts n).1,(ts n).2] HA h'→(t'=(ts n).1∨HA.length≤t')→(k'=(ts n).2∨k'=(ts n).1∨HA.length≤k')→∃F',iU h' m (s.kY n q) F'∧Fw F h h'∧∀j∈F',j∈F∨h.length≤j:=by
    intro q t' k' h' a1 a2 a3 a4 a5
    obtain ⟨F',q1,q2,q3⟩:=hpA.Yr hn a1 a2 a3 a4 a5
    exact ⟨F',q1,(fA.mono (by simp)).trans q2,fun j hj=>(q3 j hj).imp id fun h=> by omega⟩
  by_cases k2:kind=2
  ·subst k2
   rw[if_pos rfl]
   simp only[B36,hHA,hcA,c0,hgo,gf,hid,xk,hPn,hPs,hPl,aR,hsi,jo,adf,go_sem,simprocAttr]
   exact fin ⟨2,au,cg,(s.p n).vs⟩ (ts n).1 (ts n).2 _ (aR _) ((hpA.tab n hn).mono (S:=[rw]) (Fw.set (by simp) xk) (by simp[hnr]) (by simp[hnr])) (nW _) (.inl rfl) (.inl rfl)
  ·rw[if_neg k2]
   by_cases k3:kind=3
   ·subst k3
    rw[if_pos rfl]
    have hTB:=fun es'=>(hpA.tab n hn).mono (S:=[rw]) (Fw.set (es':=es') (by simp) xk) (by simp[hnr]) (by simp[hnr])
    have m6:=yV b (HA.set rw (.cells (some 107) ((gQ s.p ts 16).set n (eJ ⟨1,au,0,ag⟩ (ts n).1)))) (ts n).1 (ts n).2 (s.p n).vs ag (.al false (some 56) (ag.map ae.enc)) (hF _ (hp.ft _ hn).1) (hTB _) (.inl ⟨_,rfl⟩) (by omega)
    rw[yZ rfl,if_pos rfl] at m6
    obtain ⟨H2,k',m6,hT,f2,mD⟩:=m6
    simp only[eJ] at m6
    simp only[B36,hHA,hcA,c0,hgo,gf,hid,xk,hPn,hPs,hPl,aR,hsi,jo,adf,m6,go_sem,simprocAttr]
    have cE:=f2.db _ _ (aR _) (by simp[adY hnr.1])
    exact fin ⟨1,au,0,ag⟩ (ts n).1 k' _ cE hT ((nW _).trans (f2.mono (by simp))) (.inl rfl) (by simpa using mD)
   ·rw[if_neg k3]
    have hnw:=sD b (HA.set rw (.cells (some 107) ((gQ s.p ts 16).set n (.st 107 [.s (.int .i64 (s.p n).role),.s (.int .u64 au),.s (.int .i64 (s.p n).to),.ptr (ts n).1 [0] 1]))))
    have tj:∀B X,(HA.set rw B++X)[rw]? =some B:=fun B X=> q10z (aR B) X
    have aaZ:∀B B' X,(HA.set rw B++X).set rw B'=HA.set rw B'++X:=fun B B' X=> by rw[n9 (by rw[adz];exact q6z xk),adf]
    have aa0:∀B X,(HA.set rw B++X)[h.length]? =HA[h.length]? :=fun B X=> by rw[ac0 (by rw[adz];omega)];exact hsi B
    simp only[B36,hHA,hcA,c0,hgo,gf,hid,xk,hPn,hPs,hPl,aR,hsi,jo,adf,hnw,k1,k2,k3,tj,aaZ,aa0,go_sem,simprocAttr]
    exact fin ⟨0,au,0,[]⟩ HA.length HA.length _ (tj _ _) ⟨_,by rw[acB (by simp)];simp,.inl ⟨rfl,rfl,rfl⟩⟩ ((nW _).trans (Fw.app _ _ _)) (.inr (acm _)) (.inr (.inr (acm _)))
theorem MS {l:List ae} {id:Bs} {v:ae} (h:jn l id=some v):v.iD=id∧v∈l:=by
 unfold jn at h
 split at h
 ·rename_i hc
  rw[h] at hc
  exact ⟨by simpa using hc,acw h⟩
 ·cases h
theorem Bj {L:List ae} (hr:fc L) {j:Nat} {w:ae} {id:Bs} (h:L[j]? =some w) (hw:w.iD=id):jn L id=some w:=by
 have:=pos_eq hr h hw
 unfold jn
 rw[this,h]
 simp[hw]
theorem ES {l:List ae} {id:Bs} (h:∀v∈l,v.iD≠id):jn l id=none:=by
 unfold jn
 split
 ·rename_i hc
  cases hp:l[pos l id]? with
  | none=> rfl
  | some v=> rw[hp] at hc;simp at hc;exact absurd hc (h v (acw hp))
 ·rfl
theorem Jk {l:List ae} (hr:fc l) {v:ae} (hv:v∈l):jn l v.iD=some v:=by
 obtain ⟨j,hj⟩:=List.getElem?_of_mem hv
 exact Bj hr hj rfl
theorem vl {l:List ae} (hr:fc l) (id:Bs):jn l id=none↔∀v∈l,v.iD≠id:=by
 refine ⟨fun h v hv he=> ?_,ES⟩
 subst he
 rw[Jk hr hv] at h;cases h
theorem tM {l:List ae} {v:ae} (hr:fc l) (hv:aP v=true) (hc:jn l v.iD=none→l.length < 4):(qa l v).2=eh l v:=by
 refine yW hr ?_
 unfold qa
 rw[if_neg (by simp[hv])]
 by_cases c:(l[pos l v.iD]?).map ae.iD=some v.iD
 ·rw[if_pos c]
 ·rw[if_neg c,if_neg ?_]
  have:jn l v.iD=none:=by unfold jn;rw[if_neg c]
  have:=hc this
  omega
theorem pe {l:List ae} (v w:ae):w∈eh l v↔w=v∨w∈l∧w.iD≠v.iD:=by
 simp only[eh,acG,afL,adE,decide_eq_true_eq]
 constructor
 ·rintro ((⟨h1,h2⟩ | h) | ⟨h1,h2⟩)
  ·exact .inr ⟨h1,fun e=> by rw[e,eo] at h2;omega⟩
  ·exact .inl h
  ·exact .inr ⟨h1,fun e=> by rw[e,eo] at h2;omega⟩
 ·rintro (h | ⟨h1,h2⟩)
  ·exact .inl (.inr h)
  ·by_cases h3:bB w.iD v.iD < 0
   ·exact .inl (.inl ⟨h1,h3⟩)
   ·refine .inr ⟨h1,?_⟩
    have:bB w.iD v.iD≠0:=fun e=> h2 (iL _ _ e)
    omega
theorem Bk {l:List ae} (hr:fc l):(l.map ae.iD).Nodup:=by
 rw[List.nodup_iff_pairwise_ne,List.pairwise_map]
 exact hr.imp fun {a b} h e=> by rw[e,eo] at h;omega
theorem Jl {l m:List Bs}:l.Nodup→(∀x∈l,x∈m)→l.length≤m.length:=by
 induction l generalizing m with
 | nil=> intro _ _;exact ae1 _
 | cons a l ih=>
   intro hn hs
   obtain ⟨h1,h2⟩:=List.nodup_cons.1 hn
   have ha:=hs a (by simp)
   have:=ih (m:=m.erase a) h2 fun x hx=> by
     have cC:x≠a:=fun e=> h1 (e ▸ hx)
     exact (List.mem_erase_of_ne cC).2 (hs x (by simp[hx]))
   rw[List.length_erase_of_mem ha] at this
   have:=List.length_pos_of_mem ha
   simp only[acR];omega
theorem Bl {l:List ae} (hr:fc l) (v:ae) (hc:jn l v.iD=none→l.length < 4) (h4:l.length≤4):(eh l v).length≤4:=by
 have hn:=Bk (tG hr v)
 by_cases hg:jn l v.iD=none
 ·have h1:=hc hg
  have:=Jl (m:=v.iD::l.map ae.iD) hn fun x hx=> by
    obtain ⟨w,hw,rfl⟩:=ac6.1 hx
    rcases (pe v w).1 hw with rfl | ⟨h,_⟩
    ·simp
    ·simp only[acQ,ac6];exact .inr ⟨w,h,rfl⟩
  simp at this;omega
 ·obtain ⟨w,hw⟩:=Option.ne_none_iff_exists'.1 hg
  obtain ⟨mT,xh⟩:=MS hw
  have:=Jl (m:=l.map ae.iD) hn fun x hx=> by
    obtain ⟨u,hu,rfl⟩:=ac6.1 hx
    rcases (pe v u).1 hu with rfl | ⟨h,_⟩
    ·rw[←mT];exact ac6.2 ⟨w,xh,rfl⟩
    ·exact ac6.2 ⟨u,h,rfl⟩
  simp at this;omega
theorem y0 (s:ba) (n:Nat) (q:kK):(s.kY n q).p n=q:=by simp[ba.kY]
theorem Bm (s:ba) (n j:Nat) (q:kK) (h:j≠n):(s.kY n q).p j=s.p j:=by simp[ba.kY,h]
theorem jG.kY {s:ba} (hk:jG s) {n:Nat} {q:kK} (hq:n < 16→POk s n q):jG (s.kY n q):=
 ⟨hk.m1,hk.m2,hk.m3,hk.m4,fun i hi=> by
   by_cases h:i=n
   ·subst h
    rw[y0]
    obtain ⟨a1,a2,a3,a4,a5,a6,a7,a8,a9⟩:=hq hi
    exact ⟨a1,a2,a3,a4,a5,a6,a7,a8,a9⟩
   ·rw[Bm _ _ _ _ h]
    obtain ⟨a1,a2,a3,a4,a5,a6,a7,a8,a9⟩:=hk.p i hi
    exact ⟨a1,a2,a3,a4,a5,a6,a7,a8,a9⟩⟩
theorem tN {s:ba} {r:av} (h:bT s r=0):aS r=true:=by
 unfold bT at h
 split at h
 ·cases h
 ·simpa using ‹¬aS r=false›
theorem Jm {s:ba} (hk:jG s) {v:ae} (h:mg s v=0):jn (s.p (az v.iD)).vs v.iD=none→(s.p (az v.iD)).vs.length < 4:=by
 intro hn
 unfold mg at h
 split at h
 ·cases h
 ·split at h
  ·cases h
  ·rw[hn] at h
   simp at h
   exact h
theorem nh {s:ba} (hk:jG s) {r:av} (hw:r.wf) (hv:∀v∈r.ag,v.wf):jG (bf s r).2:=by
 unfold bf
 by_cases c0:bT s r=0
 case neg=> rw[if_pos c0];exact hk
 rw[if_neg (by simp[c0])]
 have hr:=tN c0
 have c1:=c0
 unfold bT at c1
 rw[if_neg (by simp[hr])] at c1
 by_cases k1:r.kind=1
 ·rw[if_pos k1]
  rw[if_pos k1] at c1
  have iB:aP r.aq=true:=by unfold aS at hr;rw[if_pos k1] at hr;simp at hr;simp[hr]
  refine hk.kY fun hi=> ?_
  have ok:=hk.p _ hi
  have pf:=Jm hk c1
  have Ys:(s.p (az r.aq.iD)).role≠0:=by
    intro e;unfold mg at c1;rw[if_pos e] at c1;cases c1
  have hpt:=tM ok.EO iB pf
  obtain ⟨a1,a2,a3,a4,a5,a6,a7,a8,a9⟩:=ok
  refine ⟨a1,a2,a3,a4,a5,fun h=> absurd h Ys,?_,?_,?_⟩
  ·show fc (qa _ _).2
   rw[hpt];exact tG a7 _
  ·show (qa _ _).2.length≤4
   rw[hpt];exact Bl a7 _ pf a8
  ·show ∀v∈(qa _ _).2,_
   rw[hpt]
   intro v hv
   rcases (pe r.aq v).1 hv with rfl | ⟨h,_⟩
   ·exact ⟨iB,hw.aq,rfl⟩
   ·exact a9 v h
 ·rw[if_neg k1]
  rw[if_neg k1] at c1
  obtain ⟨g1,g2,g3,g4,g5⟩:=jz hr k1
  by_cases k2:r.kind=2
  ·rw[if_pos k2]
   rw[if_pos k2] at c1
   refine hk.kY fun hi=> ?_
   have ok:=hk.p _ hi
   have hto:0≤r.cg:=by unfold aS at hr;rw[if_neg k1,if_pos k2] at hr;simp at hr;omega
   obtain ⟨a1,a2,a3,a4,a5,a6,a7,a8,a9⟩:=ok
   unfold yX at c1
   split at c1
   ·cases c1
   ·split at c1
    ·cases c1
    ·refine ⟨by simp,g3,g4,fun _=> by simp only;omega,fun h=> absurd rfl h,(fun h=> by cases h),a7,a8,a9⟩
  ·rw[if_neg k2]
   rw[if_neg k2] at c1
   by_cases k3:r.kind=3
   ·rw[if_pos k3]
    rw[if_pos k3] at c1
    refine hk.kY fun hi=> ?_
    have yZ:rising r.ag=true:=by
      unfold aS at hr
      rw[k3] at hr
      simp at hr
      exact q32z hr.2
    unfold rising at yZ
    simp only[acn,decide_eq_true_eq,acJ] at yZ
    unfold tK at c1
    split at c1
    ·cases c1
    ·rename_i Jn
     simp only[aeQ,decide_eq_true_eq,not_exists,not_and,ae2] at Jn
     refine ⟨by simp,g3,g4,(fun h=> by cases h),fun _=> rfl,(fun h=> by cases h),yZ.2,yZ.1.1,fun v hm=>⟨yZ.1.2 v hm,hv v hm,?_⟩⟩
     have:=Jn v hm
     omega
   ·rw[if_neg k3]
    refine hk.kY fun hi=> ?_
    exact ⟨by simp,g3,g4,(fun h=> by cases h),fun _=> rfl,fun _=> rfl,List.Pairwise.nil,by simp,by simp⟩
def ni (s:ba) (n:Nat) (q:kK):Bool:=
 if q.role < 0∨2 < q.role∨q.au < 1∨1099511627776 < q.au then false
 else if q.role=2∧(q.to < 0∨s.bj≤q.to∨q.to=s.mem)∨q.role≠2∧q.to≠0 then false
 else if q.role=0∧0 < q.vs.length then false
 else !(q.vs.any fun v=> decide ((az v.iD:Int)≠(n:Nat)))
theorem ET (b:Nat) (h:Hp) (n:Nat) (v:ae) (id:Nat) (hl:v.iD.length≤1000000) (hg:h[id]? =some (.cells none [.s (.int .i64 (n:Nat))])):
 run fns pr b 136 [v.enc,.ptr id [0] 1] h=some (.s (.bool (decide ((az v.iD:Int)≠(n:Nat)))),h):=by
 refine Vm.aQ (nt:=9) rfl Q4 (by simp) ?_
 obtain ⟨a1,a2,a3,a4,a5,a6,a7,a8,a9⟩:=v
 simp only at hl ⊢
 have pJ:=fun b h0=> mc b h0 a1 hl
 have cS:=fun X=> q10z hg X
 generalize az a1=S at *
 simp only[Q2,ae.enc,pJ,cS,acq,go_sem,simprocAttr]
 all_goals simp[bne,acD]
theorem Bn (b:Nat) (h:Hp) (m n:Nat) (s:ba) (F:List Nat) (q:kK) (hs:iU h m s F) (hn:n < 16) (hl:q.vs.length≤1000) (hv:∀v∈q.vs,v.wf):
 run fns pr b 118 [.ptr m [0] 1,.s (.int .i64 (n:Nat)),.s (.int .i64 q.role),.s (.int .u64 q.au),.s (.int .i64 q.to),.al false (some 56) (q.vs.map ae.enc)] h=some (.s (.bool (ni s n q)),h):=by
 obtain ⟨r,ts,own,hp⟩:=hs
 obtain ⟨role,au,to,vs⟩:=q
 simp only at hl hv ⊢
 refine Vm.aQ (nt:=74) rfl Qr (by simp) ?_
 have hr:=fun b h0=> oa b h0 n
 have q1:(0:Int)≤(n:Int):=by omega
 have q2:(n:Int)< 16:=by omega
 have hc:=fun b H (hg:H[h.length]? =_)=> qb b H (.al false (some 56) (vs.map ae.enc)) vs 136 [.ptr h.length [0] 1] (fun v=> decide ((az v.iD:Int)≠(n:Nat))) (.inl ⟨_,rfl⟩) (by omega)
   (fun b v hm=> ET b H n v h.length (by have:=(hv v hm).iD;omega) hg)
 have hc2:=fun b=> hc b (h++[bc.cells none [.s (.int .i64 (n:Nat))]]) (aH _ _)
 have cS:=fun X=>(hp.app X).o
 have dQ:∀cf base H,aC cf base H .len [.al false (some 56) (vs.map ae.enc)]=some (.s (.int .i64 (vs.length:Nat)),H):=fun cf base H=> by rw[nb];simp
 unfold ni
 simp only
 by_cases c1:role < 0
 ·rw[if_pos (.inl c1)]
  simp only[pM,hr,q1,q2,c1,acq,go_sem,simprocAttr]
  all_goals rfl
 by_cases c2:2 < role
 ·rw[if_pos (.inr (.inl c2))]
  simp only[pM,hr,q1,q2,c1,c2,acq,go_sem,simprocAttr]
  all_goals rfl
 by_cases c3:au < 1
 ·rw[if_pos (.inr (.inr (.inl c3)))]
  simp only[pM,hr,q1,q2,c1,c2,c3,acq,go_sem,simprocAttr]
  all_goals rfl
 by_cases c4:1099511627776 < au
 ·rw[if_pos (.inr (.inr (.inr c4)))]
  simp only[pM,hr,q1,q2,c1,c2,c3,c4,acq,go_sem,simprocAttr]
  all_goals rfl
 rw[if_neg (by omega)]
 generalize (vs.any fun v=> decide ((az v.iD:Int)≠(n:Nat)))=an at *
 by_cases k2:role=2
 ·subst k2
  have k0:¬(2:Int)=0:=by decide
  by_cases t1:to < 0
  ·rw[if_pos (.inl ⟨rfl,.inl t1⟩)]
   simp only[pM,hr,q1,q2,c3,c4,t1,acq,go_sem,simprocAttr]
   all_goals rfl
  by_cases t2:s.bj≤to
  ·rw[if_pos (.inl ⟨rfl,.inr (.inl t2)⟩)]
   simp only[pM,hr,q1,q2,c3,c4,t1,t2,cS,acq,go_sem,simprocAttr]
   all_goals rfl
  by_cases t3:to=s.mem
  ·rw[if_pos (.inl ⟨rfl,.inr (.inr t3)⟩)]
   have t1':¬s.mem < 0:=by rw[←t3];exact t1
   have t2':¬s.bj≤s.mem:=by rw[←t3];exact t2
   simp only[pM,hr,q1,q2,c3,c4,t1,t2,t1',t2',t3,cS,acq,go_sem,simprocAttr]
   all_goals rfl
  rw[if_neg (by omega),if_neg (by omega)]
  simp only[pM,hr,q1,q2,c3,c4,t1,t2,t3,cS,hc2,acq,go_sem,simprocAttr]
  all_goals rfl
 ·by_cases t0:to=0
  ·rw[if_neg (by omega)]
   subst t0
   by_cases k0:role=0
   ·subst k0
    by_cases l0:0 < vs.length
    ·have l0':(0:Int)<((vs.length:Nat):Int):=by omega
     rw[if_pos ⟨rfl,l0⟩]
     simp only[pM,hr,q1,q2,c3,c4,dQ,l0',acq,go_sem,simprocAttr]
     all_goals rfl
    ·have l0':¬(0:Int)<((vs.length:Nat):Int):=by omega
     rw[if_neg (by omega)]
     simp only[pM,hr,q1,q2,c3,c4,dQ,l0',hc2,acq,go_sem,simprocAttr]
     all_goals rfl
   ·rw[if_neg (by omega)]
    simp only[pM,hr,q1,q2,c1,c2,c3,c4,k2,k0,hc2,acq,go_sem,simprocAttr]
    all_goals rfl
  ·rw[if_pos (.inr ⟨k2,t0⟩)]
   simp only[pM,hr,q1,q2,c1,c2,c3,c4,k2,t0,acq,go_sem,simprocAttr]
   all_goals rfl
def oG (s:ba) (n:Nat) (q:kK):Int×ba:=if ni s n q=true∧rising q.vs=true then (0,s.kY n q) else (1,s)
theorem Jo (b:Nat) (h:Hp) (m n:Nat) (s:ba) (F:List Nat) (q:kK) (hF:∀j∈F,b≤j) (hs:iU h m s F) (hn:n < 16) (hl:q.vs.length≤1000) (hv:∀v∈q.vs,v.wf):
 ∃v h',run fns pr b 81 [.ptr m [0] 1,.s (.int .i64 (n:Nat)),.s (.int .i64 q.role),.s (.int .u64 q.au),.s (.int .i64 q.to),.al false (some 56) (q.vs.map ae.enc)] h=some (v,h')∧v= .s (.int .i64 (oG s n q).1)∧∃F',iU h' m (oG s n q).2 F'∧Fw F h h'∧∀j∈F',j∈F∨h.length≤j:=by
 have sw:=hs
 have hbh:b≤h.length:=by have:=hF m hs.mem;have:=hs.lt m hs.mem;omega
 have yt:=fun b X=> Bn b (h++X) m n s F q (hs.app X) hn hl hv
 obtain ⟨r,ts,own,hp⟩:=hs
 refine Vm.ef (nt:=40) rfl WS (by simp) ?_
 have hnw:=sD b h
 have fA:Fw [] h (h++[bc.cells (some 141) [.st 141 [.al true (some 56) []]]]):=Fw.app [] h _
 have hT:TR (h++[bc.cells (some 141) [.st 141 [.al true (some 56) []]]]) h.length h.length []:=⟨_,aH _ _,.inl ⟨rfl,rfl,rfl⟩⟩
 unfold oG
 cases c1:ni s n q with
 | false=>
   rw[if_neg (by simp)]
   simp only[B81,hnw,yt,c1,go_sem,simprocAttr]
   exact ⟨F,sw.mono fA (by simp),fA.mono (by simp),fun j hj=> .inl hj⟩
 | true=>
   obtain ⟨H2,k',m6,hT2,f2,mD⟩:=yV b _ h.length h.length [] q.vs (.al false (some 56) (q.vs.map ae.enc)) hbh hT (.inl ⟨_,rfl⟩) hl
   have f02:Fw [] h H2:=fA.new f2 (fun j hj=> by simp at hj;subst hj;exact .inl (acm _))
   cases c2:rising q.vs with
   | false=>
     rw[if_neg (by simp)]
     rw[c2,if_neg (by simp)] at m6
     simp only[B81,hnw,yt,c1,m6,go_sem,simprocAttr]
     exact ⟨F,sw.mono f02 (by simp),f02.mono (by simp),fun j hj=> .inl hj⟩
   | true=>
     rw[if_pos ⟨rfl,rfl⟩]
     rw[c2,if_pos rfl] at m6 hT2
     have hpA:=hp.mono f02 (by simp)
     have gf:=fun cf base=> hpA.sr.ck (cf:=cf) (base:=base) (k:= .i64) (i:=n) (by rw[cA];exact hn)
     have hep:iW (.ref r [] (some 107) 0 16 16) n= .ptr r [n] 16:=by simp[iW]
     simp only[hep] at gf
     have hPn:(gQ s.p ts 16)[n]? =some (.st 107 [.s (.int .i64 (s.p n).role),.s (.int .u64 (s.p n).au),.s (.int .i64 (s.p n).to),.ptr (ts n).1 [0] 1]):=dS _ _ _ _ hn
     have hPl:=cA s.p ts 16
     have hgo:=hpA.o
     have xk:=hpA.row
     have jo:b≤r:=hF _ hp.fr
     have bR:=q6z xk
     simp only[B81,hnw,yt,c1,m6,hgo,gf,xk,hPn,hPl,jo,bR,hn,go_sem,simprocAttr]
     have sb:=q6z hp.row
     have yM:h.length≤k':=by rcases mD with h1 | h1 | h1 <;> first | omega | (rw[aco] at h1;omega)
     have fs:Fw [r] H2 (H2.set r (.cells (some 107) ((gQ s.p ts 16).set n (eJ q h.length)))):=Fw.set (by simp) xk
     exact hp.Yr (q:=q) (t':=h.length) (k':=k') hn (q9z xk) (hT2.mono fs (by simp;omega) (by simp;omega)) ((f02.mono (by simp)).trans (fs.mono (by simp))) (.inr (acm _)) (.inr (.inr yM))
theorem iU.congr {h:Hp} {m:Nat} {s s':ba} {F:List Nat} (hs:iU h m s F) (h1:s'.mem=s.mem) (h2:s'.bj=s.bj) (h3:∀i,i < 16→s'.p i=s.p i):iU h m s' F:=by
 obtain ⟨r,ts,own,o,row,tab,om,orr,ot,fm,fr,ft,fl⟩:=hs
 refine ⟨r,ts,own,by rw[h1,h2];exact o,?_,fun i hi=> by rw[h3 i hi];exact tab i hi,om,orr,ot,fm,fr,ft,fl⟩
 rw[row,tI (p:=s'.p) (p':=s.p) (ts:=ts) (ts':=ts) fun i hi=>⟨h3 i hi,rfl⟩]
theorem POk.right {s t:ba} {n:Nat} {q:kK} (hk:POk s n q) (h1:t.mem=s.mem) (h2:t.bj=s.bj):ni t n q=true∧rising q.vs=true:=by
 obtain ⟨a1,a2,a3,a4,a5,a6,a7,a8,a9⟩:=hk
 constructor
 ·unfold ni
  rw[h1,h2,if_neg (by omega),if_neg,if_neg]
  ·simp only[aeq,afr,decide_eq_true_eq,ae2]
   intro v hv
   rw[(a9 v hv).2.2]
  ·rintro ⟨c1,c2⟩
   rw[a6 c1] at c2
   simp at c2
  ·rintro (⟨c1,c2⟩ | ⟨c1,c2⟩)
   ·have:=a4 c1;omega
   ·exact c2 (a5 c1)
 ·unfold rising
  simp only[acn,decide_eq_true_eq,acJ]
  exact ⟨⟨a8,fun v hv=>(a9 v hv).1⟩,a7⟩
def kL (s t:ba) (n:Nat):ba:= {s with p:=fun j=> if j < n then s.p j else t.p j}
theorem Jp (b:Nat) (h:Hp) (m:Nat) (s:ba) (F:List Nat) (hb:b≤h.length) (hs:iU h m s F) (hk:jG s):
 ∃v h',run fns pr b 40 [.ptr m [0] 1] h=some (v,h')∧∃F',v= .ptr h.length [0] 1∧iU h' h.length s F'∧Fw [] h h'∧∀j∈F',h.length≤j:=by
 refine Vm.ef (nt:=39) rfl Vw (by simp) ?_
 obtain ⟨v1,H1,e1,F1,rfl,s1,f1,n1⟩:=sE b h s.mem s.bj hb hk.m1 hk.m2 hk.m3 hk.m4
 have vR:=hs.mono f1 (by simp)
 have sw:=hs
 obtain ⟨r,ts,own,hp⟩:=hs
 have hp1:=hp.mono f1 (by simp)
 have hg:=hp.o
 have cT:=hp1.o
 have dQ:∀cf base H,aC cf base H .len [.ref r [] (some 107) 0 16 16]=some (.s (.int .i64 (16:Nat)),H):=fun cf base H=> by rw[SR.bU hp.sr,cA]
 have s1:iU H1 h.length (kL s (ba.new s.mem s.bj) 0) F1:=s1.congr rfl rfl fun i hi=> by simp[kL]
 simp only[B40,O5,O4,hg,e1,cT,dQ,go_sem,↓reduceIte,Nat.reduceEqDiff,Nat.reduceBEq,Nat.reduceAdd,Nat.reduceSub,Nat.reduceLT,Nat.reduceLeDiff,Int.reduceLT,Int.reduceLE,Int.reduceEq,Int.reduceToNat]
 refine aV (fun q e H=>∃(i:Nat) (F':List Nat),q=16 - i∧i≤16∧e 20= .s (.int .i64 (i:Nat))∧e 19= .s (.int .i64 (16:Nat))∧e 18= .ref r [] (some 107) 0 16 16∧e 3= .ptr h.length [0] 1∧iU H h.length (kL s (ba.new s.mem s.bj) i) F'∧Fw [] h H∧∀j∈F',h.length≤j)
   (fun e H=>∃(F':List Nat),e 3= .ptr h.length [0] 1∧iU H h.length s F'∧Fw [] h H∧∀j∈F',h.length≤j) 16 _ _ ⟨0,F1,rfl,by omega,rfl,rfl,rfl,rfl,s1,f1,n1⟩ ?_ ?_
 ·rintro q e H ⟨i,F',rfl,hi,e20,e19,e18,e3,hm,fw,hn⟩
  by_cases c:i < 16
  ·have c':(i:Int)<((16:Nat):Int):=by omega
   have iA:IntKind.i64.wrap ((i:Int)+1)=((i+1:Nat):Int):=q18z (by omega)
   have ok:=hk.p i c
   have hpH:=hp.mono fw (by simp)
   have gf:=fun cf base=> hpH.sr.ck (cf:=cf) (base:=base) (k:= .i64) (i:=i) (by rw[cA];exact c)
   have gU:=fun cf base=> hpH.sr.fL (cf:=cf) (base:=base) (dS _ _ _ _ c) rfl
   have hbH:b≤H.length:=acN hb fw.len
   have fP:Fw [] H (H++[bc.cells (some 107) [eJ (s.p i) (ts i).1]]):=Fw.app [] H _
   have Hm:=fun b=> Df b (H++[bc.cells (some 107) [eJ (s.p i) (ts i).1]]) (ts i).1 (ts i).2 (s.p i).vs ((hpH.mono fP (by simp)).tab i c) (by have:=ok.len;omega) (fun v hv=> q14z (ok.vs v hv).1)
   obtain ⟨v2,H2,e2,rfl,F2,pK,f2,hn2⟩:=Jo b _ h.length i _ F' (s.p i) (fun j hj=> acN hb (hn j hj)) (hm.mono fP (by simp)) c (by have:=ok.len;omega) (fun v hv=>(ok.vs v hv).2.1)
   have aR:oG (kL s (ba.new s.mem s.bj) i) i (s.p i)=(0,(kL s (ba.new s.mem s.bj) i).kY i (s.p i)):=by
     unfold oG;rw[if_pos (ok.right (t:=kL s (ba.new s.mem s.bj) i) rfl rfl)]
   rw[aR] at e2 pK
   have sd:∀x,(decide (b≤H.length) || x)=true:=fun x=> by rw[decide_eq_true hbH];rfl
   have hgp:(H++[bc.cells (some 107) [eJ (s.p i) (ts i).1]])[H.length]? =some (bc.cells (some 107) [eJ (s.p i) (ts i).1]):=aH _ _
   have f02:Fw [] h H2:=(fw.trans fP).new f2 (fun j hj=> .inl (hn j hj))
   have hm3:iU H2 h.length (kL s (ba.new s.mem s.bj) (i+1)) F2:=pK.congr rfl rfl fun j hj=> by
     simp only[kL,ba.kY]
     by_cases vg:j=i
     ·subst vg;simp
     ·simp only[vg,if_false]
      by_cases h1:j < i
      ·simp[h1,show j < i+1 by omega]
      ·simp[h1,show ¬j < i+1 by omega]
   have Dg:∀j∈F2,h.length≤j:=fun j hj=>(hn2 j hj).elim (hn j) fun h1=> by have:=fw.len;have:=fP.len;omega
   simp only[e20,e19,e18,e3,c',iA,gf,gU,sd,qR,qS,go_sem,↓reduceIte,Nat.reduceEqDiff,Nat.reduceBEq,Nat.reduceAdd,Nat.reduceSub,Nat.reduceLT,Nat.reduceLeDiff,Int.reduceLT,Int.reduceLE,Int.reduceEq,Int.reduceToNat]
   simp only[eJ] at Hm e2 hgp
   simp only[eJ,Hm,e2,hgp,iA,e20,e19,e18,e3,go_sem,↓reduceIte,Nat.reduceEqDiff,Nat.reduceBEq,Nat.reduceAdd,Nat.reduceSub,Nat.reduceLT,Nat.reduceLeDiff,Int.reduceLT,Int.reduceLE,Int.reduceEq,Int.reduceToNat]
   exact ⟨16 - (i+1),by omega,i+1,F2,rfl,by omega,rfl,hm3,f02,Dg⟩
  ·have c':¬(i:Int)<((16:Nat):Int):=by omega
   obtain rfl:i=16:=by omega
   have pK:iU H h.length s F':=hm.congr rfl rfl fun j hj=> by simp[kL,hj]
   simp only[e20,e19,e18,e3,c',go_sem,↓reduceIte,Nat.reduceEqDiff,Nat.reduceBEq,Nat.reduceAdd,Nat.reduceSub,Nat.reduceLT,Nat.reduceLeDiff,Int.reduceLT,Int.reduceLE,Int.reduceEq,Int.reduceToNat]
   exact ⟨F',pK,fw,hn⟩
 ·rintro e H ⟨F',e3,hm,fw,hn⟩
  simp only[e3,go_sem,↓reduceIte,Nat.reduceEqDiff,Nat.reduceBEq,Nat.reduceAdd,Nat.reduceSub,Nat.reduceLT,Nat.reduceLeDiff,Int.reduceLT,Int.reduceLE,Int.reduceEq,Int.reduceToNat]
  exact ⟨F',hm,fw,hn⟩
def jf :ah:=⟨0,0,0,bY,0⟩
def bm (r:ah):Bool:=decide (r.bD≤1099511627776)&& decide (r.count≤1099511627776)&& decide (r.base≤r.count)&& decide (r.count - r.base≤8)&&(decide (r.aG=0) || decide (r.aG=1))&&(decide (0 < r.count) || decide (r.head=bY))
def xw (a r:ah):ah×Bool:=if bm a=true∧bm r=true then (r,true) else (jf,false)
def eK (r:ah) (hd:Bs):ah×Bool:=xw r ⟨r.bD,r.count+1,r.base,hd,r.aG⟩
def cF (r:ah):ah×Bool:=xw r ⟨r.bD+1,r.count,r.base,r.head,r.aG⟩
def iN (r:ah) (hd:Bs):ah×Bool:=if r.count≤r.base then (jf,false) else xw r ⟨r.bD,r.count,r.count,hd,1 - r.aG⟩
def bz (r:ah):Int:=if bm r=true then r.count - r.base else 0
theorem ah.cQ (r:ah):r.enc.ty=some 35:=rfl
theorem ah.cR (r:ah):r.enc.aA=true:=rfl
theorem ah.qT (n:Nat) (h:Hp) (r:ah):bA n h r.enc=some r.enc:=by simp only[ah.enc,go_sem]
theorem qc (b:Nat) (h:Hp) (r:ah) (hw:r.wf):run fns pr b 56 [r.enc] h=some (.s (.bool (bm r)),h):=by
 refine Vm.aQ (nt:=47) rfl V3 (by simp) ?_
 obtain ⟨bD,count,base,head,aG⟩:=r
 obtain ⟨w1,w2,w3,w4,w5⟩:=hw
 simp only at w1 w2 w3 w4 w5
 unfold bm
 simp only
 by_cases c1:bD≤1099511627776
 case neg=>
   simp only[Ee,ah.enc,c1,acq,go_sem,simprocAttr]
 by_cases c2:count≤1099511627776
 case neg=>
   simp only[Ee,ah.enc,c1,c2,acq,go_sem,simprocAttr]
 by_cases c3:base≤count
 case neg=>
   simp only[Ee,ah.enc,c1,c2,c3,acq,go_sem,simprocAttr]
 have mT:IntKind.u64.wrap (count - base)=count - base:=wrap_u64 (by omega) (by omega)
 by_cases c4:count - base≤8
 case neg=>
   simp only[Ee,ah.enc,c1,c2,c3,mT,c4,acq,go_sem,simprocAttr]
 by_cases c5:aG=0
 ·by_cases c6:0 < count
  ·simp only[Ee,ah.enc,c1,c2,c3,mT,c4,c5,c6,acq,go_sem,simprocAttr]
  ·by_cases c7:head=bY
   ·simp only[Ee,ah.enc,c1,c2,c3,mT,c4,c5,c6,c7,bG,bI,acq,go_sem,simprocAttr]
   ·simp only[Ee,ah.enc,c1,c2,c3,mT,c4,c5,c6,c7,bG,bI,acq,go_sem,simprocAttr]
 ·by_cases c8:aG=1
  ·by_cases c6:0 < count
   ·simp only[Ee,ah.enc,c1,c2,c3,mT,c4,c5,c8,c6,acq,go_sem,simprocAttr]
   ·by_cases c7:head=bY
    ·simp only[Ee,ah.enc,c1,c2,c3,mT,c4,c5,c8,c6,c7,bG,bI,acq,go_sem,simprocAttr]
    ·simp only[Ee,ah.enc,c1,c2,c3,mT,c4,c5,c8,c6,c7,bG,bI,acq,go_sem,simprocAttr]
  ·simp only[Ee,ah.enc,c1,c2,c3,mT,c4,c5,c8,acq,go_sem,simprocAttr]
theorem Jq (b:Nat) (h:Hp) (a r:ah) (ha:a.wf) (hr:bm a=true→r.wf):run fns pr b 53 [a.enc,r.enc] h=some (.bP [(xw a r).1.enc,.s (.bool (xw a r).2)],h):=by
 refine Vm.aQ (nt:=16) rfl VX (by simp) ?_
 have h1:=fun h0=> qc h.length h0 a ha
 have h2:=fun h0 hr=> qc h.length h0 r hr
 unfold xw
 have hz:V.st 35 [.s (.int .u64 0),.s (.int .u64 0),.s (.int .u64 0),bC 27,.s (.int .i64 0)]=jf.enc:=rfl
 cases c1:bm a with
 | false=>
   rw[if_neg (by simp)]
   simp only[B53,ah.cQ,ah.cR,h1,c1,go_sem,simprocAttr]
   all_goals rfl
 | true=>
   have h2:=fun h0=> h2 h0 (hr c1)
   cases c2:bm r with
   | false=>
     rw[if_neg (by simp)]
     simp only[B53,ah.cQ,ah.cR,h1,h2,c1,c2,go_sem,simprocAttr]
     all_goals rfl
   | true=>
     rw[if_pos ⟨rfl,rfl⟩]
     simp only[B53,ah.cQ,ah.cR,ah.qT,h1,h2,c1,c2,go_sem,simprocAttr]
theorem q11z {r:ah} (h:bm r=true):r.bD≤1099511627776∧r.count≤1099511627776∧r.base≤r.count∧r.count - r.base≤8∧(r.aG=0∨r.aG=1)∧(0 < r.count∨r.head=bY):=by
 unfold bm at h
 simp only[acn,adg,decide_eq_true_eq] at h
 obtain ⟨⟨⟨⟨⟨h1,h2⟩,h3⟩,h4⟩,h5⟩,h6⟩:=h
 exact ⟨h1,h2,h3,h4,h5,h6⟩
theorem Bo {a r r':ah} (h:bm a=false):xw a r=xw a r':=by
 unfold xw;rw[h];simp
theorem MT (b:Nat) (h:Hp) (r:ah) (hd:Bs) (hw:r.wf) (hl:hd.length=16):run fns pr b 31 [r.enc,.arr 27 (hd.map aa)] h=some (.bP [(eK r hd).1.enc,.s (.bool (eK r hd).2)],h):=by
 refine Vm.aQ (nt:=19) rfl Vd (by simp) ?_
 have hs:∀c,(bm r=true→c=r.count+1)→∀h0,run fns pr h.length 53 [r.enc,ah.enc ⟨r.bD,c,r.base,hd,r.aG⟩] h0=some (.bP [(eK r hd).1.enc,.s (.bool (eK r hd).2)],h0):=by
   intro c hc h0
   have h1:=Jq h.length h0 r ⟨r.bD,c,r.base,hd,r.aG⟩ hw (fun q=> by
     have:=q11z q
     have hc:=hc q
     obtain ⟨w1,w2,w3,w4,w5⟩:=hw
     exact ⟨w1,by simp only;omega,w3,hl,w5⟩)
   rw[h1]
   cases q:bm r with
   | true=> rw[hc q];rfl
   | false=> unfold eK;rw[Bo (r:=⟨r.bD,c,r.base,hd,r.aG⟩) (r':=⟨r.bD,r.count+1,r.base,hd,r.aG⟩) q]
 have iA:bm r=true→IntKind.u64.wrap (r.count+1)=r.count+1:=fun q=> by
   have:=q11z q
   obtain ⟨w1,w2,w3,w4,w5⟩:=hw
   exact wrap_u64 (by omega) (by omega)
 have hs:=hs _ iA
 have f1:=fun n H=> ah.qT n H (eK r hd).1
 have f2:=ah.cQ (eK r hd).1
 have f3:=ah.cR (eK r hd).1
 generalize eK r hd=x at *
 obtain ⟨bD,count,base,head,aG⟩:=r
 simp only[ah.enc] at hs ⊢
 generalize hx:V.st 35 [.s (.int .u64 x.1.bD),.s (.int .u64 x.1.count),.s (.int .u64 x.1.base),.arr 27 (x.1.head.map aa),.s (.int .i64 x.1.aG)]=X at *
 simp only[ah.enc,hx] at f1 f2 f3
 simp only[B31,hs,f1,f2,f3,go_sem,simprocAttr]
theorem MU (b:Nat) (h:Hp) (r:ah) (hw:r.wf):run fns pr b 23 [r.enc] h=some (.bP [(cF r).1.enc,.s (.bool (cF r).2)],h):=by
 refine Vm.aQ (nt:=15) rfl UX (by simp) ?_
 have hs:∀c,(bm r=true→c=r.bD+1)→∀h0,run fns pr h.length 53 [r.enc,ah.enc ⟨c,r.count,r.base,r.head,r.aG⟩] h0=some (.bP [(cF r).1.enc,.s (.bool (cF r).2)],h0):=by
   intro c hc h0
   have h1:=Jq h.length h0 r ⟨c,r.count,r.base,r.head,r.aG⟩ hw (fun q=> by
     have:=q11z q
     have hc:=hc q
     obtain ⟨w1,w2,w3,w4,w5⟩:=hw
     exact ⟨by simp only;omega,w2,w3,w4,w5⟩)
   rw[h1]
   cases q:bm r with
   | true=> rw[hc q];rfl
   | false=> unfold cF;rw[Bo (r:=⟨c,r.count,r.base,r.head,r.aG⟩) (r':=⟨r.bD+1,r.count,r.base,r.head,r.aG⟩) q]
 have iA:bm r=true→IntKind.u64.wrap (r.bD+1)=r.bD+1:=fun q=> by
   have:=q11z q
   obtain ⟨w1,w2,w3,w4,w5⟩:=hw
   exact wrap_u64 (by omega) (by omega)
 have hs:=hs _ iA
 have f1:=fun n H=> ah.qT n H (cF r).1
 have f2:=ah.cQ (cF r).1
 have f3:=ah.cR (cF r).1
 generalize cF r=x at *
 obtain ⟨bD,count,base,head,aG⟩:=r
 simp only[ah.enc] at hs ⊢
 generalize hx:V.st 35 [.s (.int .u64 x.1.bD),.s (.int .u64 x.1.count),.s (.int .u64 x.1.base),.arr 27 (x.1.head.map aa),.s (.int .i64 x.1.aG)]=X at *
 simp only[ah.enc,hx] at f1 f2 f3
 simp only[B23,hs,f1,f2,f3,go_sem,simprocAttr]
theorem MV (b:Nat) (h:Hp) (r:ah) (hd:Bs) (hw:r.wf) (hl:hd.length=16):run fns pr b 59 [r.enc,.arr 27 (hd.map aa)] h=some (.bP [(iN r hd).1.enc,.s (.bool (iN r hd).2)],h):=by
 refine Vm.aQ (nt:=28) rfl V9 (by simp) ?_
 unfold iN
 by_cases c0:r.count≤r.base
 ·rw[if_pos c0]
  obtain ⟨bD,count,base,head,aG⟩:=r
  simp only at c0
  simp only[B59,ah.enc,c0,jf,bG,go_sem,simprocAttr]
  all_goals rfl
 rw[if_neg c0]
 have hs:∀c,(bm r=true→c=1 - r.aG)→∀h0,run fns pr h.length 53 [r.enc,ah.enc ⟨r.bD,r.count,r.count,hd,c⟩] h0=some (.bP [(xw r ⟨r.bD,r.count,r.count,hd,1 - r.aG⟩).1.enc,.s (.bool (xw r ⟨r.bD,r.count,r.count,hd,1 - r.aG⟩).2)],h0):=by
   intro c hc h0
   have h1:=Jq h.length h0 r ⟨r.bD,r.count,r.count,hd,c⟩ hw (fun q=> by
     have:=q11z q
     have hc:=hc q
     obtain ⟨w1,w2,w3,w4,w5⟩:=hw
     exact ⟨w1,w2,w2,hl,by simp only;omega⟩)
   rw[h1]
   cases q:bm r with
   | true=> rw[hc q]
   | false=> rw[Bo (r:=⟨r.bD,r.count,r.count,hd,c⟩) (r':=⟨r.bD,r.count,r.count,hd,1 - r.aG⟩) q]
 have iA:bm r=true→IntKind.i64.wrap (1 - r.aG)=1 - r.aG:=fun q=> by
   have:=q11z q
   exact wrap_i64 (by omega) (by omega)
 have hs:=hs _ iA
 generalize xw r ⟨r.bD,r.count,r.count,hd,1 - r.aG⟩=x at *
 have f1:=fun n H=> ah.qT n H x.1
 have f2:=ah.cQ x.1
 have f3:=ah.cR x.1
 obtain ⟨bD,count,base,head,aG⟩:=r
 simp only[ah.enc] at hs c0 ⊢
 generalize hx:V.st 35 [.s (.int .u64 x.1.bD),.s (.int .u64 x.1.count),.s (.int .u64 x.1.base),.arr 27 (x.1.head.map aa),.s (.int .i64 x.1.aG)]=X at *
 simp only[ah.enc,hx] at f1 f2 f3
 simp only[B59,c0,hs,f1,f2,f3,go_sem,simprocAttr]
theorem sF (b:Nat) (h:Hp) (r:ah) (hw:r.wf):run fns pr b 25 [r.enc] h=some (.s (.int .i64 (bz r)),h):=by
 refine Vm.aQ (nt:=12) rfl U1 (by simp) ?_
 have h1:=fun h0=> qc h.length h0 r hw
 unfold bz
 cases c1:bm r with
 | false=>
   rw[if_neg (by simp)]
   simp only[B25,ah.cQ,ah.cR,h1,c1,acq,go_sem,simprocAttr]
 | true=>
   have:=q11z c1
   obtain ⟨w1,w2,w3,w4,w5⟩:=hw
   have q1:IntKind.u64.wrap (r.count - r.base)=r.count - r.base:=wrap_u64 (by omega) (by omega)
   have q2:IntKind.i64.wrap (r.count - r.base)=r.count - r.base:=wrap_i64 (by omega) (by omega)
   rw[if_pos rfl]
   obtain ⟨bD,count,base,head,aG⟩:=r
   simp only[ah.enc] at *
   simp only[B25,h1,c1,q1,q2,acq,go_sem,simprocAttr]
def bg (r:ah):Int:=if 8≤bz r then -1 else 2+bz r
theorem jH (r:ah) (hw:r.wf):0≤bz r∧bz r≤8:=by
 unfold bz
 split
 ·have:=q11z (by assumption);omega
 ·omega
theorem Jr (b:Nat) (h:Hp) (r:ah) (hw:r.wf):run fns pr b 34 [r.enc] h=some (.s (.int .i64 (bg r)),h):=by
 refine Vm.aQ (nt:=10) rfl Vj (by simp) ?_
 have h1:=fun h0=> sF h.length h0 r hw
 have hl:=jH r hw
 unfold bg
 by_cases c:8≤bz r
 ·rw[if_pos c]
  simp only[B34,ah.cQ,ah.cR,h1,c,acq,go_sem,simprocAttr]
 ·rw[if_neg c]
  have hw:IntKind.i64.wrap (2+bz r)=2+bz r:=wrap_i64 (by omega) (by omega)
  simp only[B34,ah.cQ,ah.cR,h1,c,hw,acq,go_sem,simprocAttr]
theorem MW (b:Nat) (h:Hp) (r:ah) (hp:r.aG=0∨r.aG=1):run fns pr b 58 [r.enc] h=some (.s (.int .i64 (1 - r.aG)),h):=by
 refine Vm.aQ (nt:=6) rfl V7 (by simp) ?_
 have hw:IntKind.i64.wrap (1 - r.aG)=1 - r.aG:=wrap_i64 (by omega) (by omega)
 simp only[B58,ah.enc,hw,acq,go_sem,simprocAttr]
theorem bM (l:Bs):(V.arr 27 (l.map aa)).ty=some 27:=rfl
theorem vS (b:Nat) (h:Hp) (x:V) (l:Bs) (hx:BR h x l) (hl:l.length≤1000000):run fns pr b 60 [x] h=some (.arr 27 ((cV l).map aa),h):=by
 refine Vm.aQ (nt:=5) rfl Wb (by simp) ?_
 have hs:=fun b X=> xi b (h++X) x l (BR.rd (hx.mono (Fw.app [] h X))) hl
 have j3:((cV l).map aa).length=16:=by rw[acy,bq]
 simp only[B60,hs,j3,bM,acq,go_sem,simprocAttr]
def nj :Bs:=[105,109,97,103,101]
def kM (k:Bs) (r:ah) (l:Bs):Bs×Int:=if 8184 < l.length then ([],3) else (mE k r.count.toNat nj l,0)
theorem Js (b:Nat) (h:Hp) (x:V) (k l:Bs) (r:ah) (hk:k.length=16) (hw:r.wf) (hx:BR h x l):run fns pr b 57 [.arr 27 (k.map aa),r.enc,x] h=some (.bP [.al false none ((kM k r l).1.map aa),.s (.int .i64 (kM k r l).2)],h):=by
 refine Vm.aQ (nt:=18) rfl V5 (by simp) ?_
 have gP:(k.map aa).length=16:=by simp[hk]
 have ly:=fun cf base H=> hx.bU (cf:=cf) (base:=base) (h:=H)
 have him:∀f H,Rd H (.al f none (nj.map aa)) nj:=fun f H=> BR.rd (dp H f nj)
 have hse:=fun b f X=> C2 b (h++X) (.al f none (nj.map aa)) x k nj l r.count.toNat hk (by have:=hw.count;omega) (him f _) (hx.mono (Fw.app [] h X)) (by decide)
 have hc:((r.count.toNat:Nat):Int)=r.count:=by have:=hw.count;omega
 rw[hc] at hse
 unfold kM
 by_cases c:8184 < l.length
 ·have c':(8184:Int)<((l.length:Nat):Int):=by omega
  rw[if_pos c]
  simp only[B57,ah.enc,gP,ly,c',acq,go_sem,simprocAttr]
  all_goals rfl
 ·have c':¬(8184:Int)<((l.length:Nat):Int):=by omega
  rw[if_neg c]
  obtain ⟨bD,count,base,head,aG⟩:=r
  simp only at hse hc ⊢
  have hiw:nj.map aa=[.s (.int .u8 105),.s (.int .u8 109),.s (.int .u8 97),.s (.int .u8 103),.s (.int .u8 101)]:=rfl
  rw[hiw] at hse
  simp only[B57,ah.enc,gP,ly,c',hse,bM,go_sem,simprocAttr]
  all_goals rfl
def mh (k:Bs) (n:Nat) (prev:Bs) (r:av):Bs×Int:=if aS r=true then (mE k n prev (na r),0) else ([],1)
theorem Jt (b:Nat) (h:Hp) (k prev:Bs) (n:Nat) (r:av) (hk:k.length=16) (hp:prev.length=16) (hn:n < 18446744073709551616) (hw:r.wf) (hwv:∀v∈r.ag,v.wf):run fns pr b 30 [.arr 27 (k.map aa),.s (.int .u64 n),.arr 27 (prev.map aa),r.enc] h=some (.bP [.al false none ((mh k n prev r).1.map aa),.s (.int .i64 (mh k n prev r).2)],h):=by
 refine Vm.aQ (nt:=25) rfl Vb (by simp) ?_
 have gP:(k.map aa).length=16:=by simp[hk]
 have fE:(prev.map aa).length=16:=by simp[hp]
 have dw:r.enc.ty=some 59:=rfl
 have jX:r.enc.aA=true:=rfl
 generalize hGd:h++[bc.cells (some 27) [V.arr 27 (k.map aa)],bc.cells (some 27) [V.arr 27 (prev.map aa)],bc.cells (some 59) [r.enc]]=G
 have g1:G[h.length+1]? =some (bc.cells (some 27) [V.arr 27 (prev.map aa)]):=by rw[←hGd];exact aM _ _ 1
 have Hn:=Rd.mk' (h:=G) (x:= .ref (h.length+1) [0] none 0 prev.length 1) (l:=prev) (xq g1) rfl
 rw[hp] at Hn
 have hse:=fun b f=> C2 b G (.ref (h.length+1) [0] none 0 16 1) (.al f none ((na r).map aa)) k prev (na r) n hk hn Hn (dp _ _ _) (by omega)
 have g0:G[h.length]? =some (bc.cells (some 27) [V.arr 27 (k.map aa)]):=by rw[←hGd];exact aM _ _ 0
 have g2:G[h.length+2]? =some (bc.cells (some 59) [r.enc]):=by rw[←hGd];exact aM _ _ 2
 have EU:=fun b=> EC b G r hw hwv
 have fk:G.take h.length=h:=by rw[←hGd,acq]
 unfold mh
 cases hr:aS r with
 | false=>
   rw[hr] at EU
   rw[if_neg (by simp)] at EU ⊢
   simp only[B30,gP,fE,dw,jX,hGd,EU,g0,g1,g2,fk,go_sem,simprocAttr]
   all_goals rfl
 | true=>
   rw[hr] at EU
   rw[if_pos rfl] at EU ⊢
   simp only[B30,gP,fE,dw,jX,hGd,EU,g0,g1,g2,fk,hse,bM,go_sem,simprocAttr]
   all_goals rfl
def dy (prev b:Bs):Bs:=dx prev (cV b)
theorem y5 (b:Nat) (h:Hp) (x:V) (prev l:Bs) (hp:prev.length=16) (hx:BR h x l) (hl:l.length≤1000000):run fns pr b 32 [.arr 27 (prev.map aa),x] h=some (.arr 27 ((dy prev l).map aa),h):=by
 refine Vm.aQ (nt:=9) rfl Vf (by simp) ?_
 have fE:(prev.map aa).length=16:=by simp[hp]
 have hs:=fun b X=> xi b (h++X) x l (BR.rd (hx.mono (Fw.app [] h X))) hl
 have ht:=fun b h0=> I3 b h0 prev (cV l) hp (bq l)
 have j3:((dx prev (cV l)).map aa).length=16:=by simp[dx,bq]
 unfold dy
 simp only[B32,fE,hs,ht,j3,bM,acq,go_sem,simprocAttr]
 all_goals rfl
theorem MX (b:Nat) (h:Hp) (k:Bs) (m:Int) (hk:k.length=16):run fns pr b 20 [.arr 27 (k.map aa),.s (.int .i64 m)] h=some (.arr 27 ((dx k [bt m]).map aa),h):=by
 refine Vm.aQ (nt:=10) rfl UQ (by simp) ?_
 have gP:(k.map aa).length=16:=by simp[hk]
 have Hn:∀A B,Rd (h++[A,B,bc.cells none [aa (bt m)]]) (.ref (h.length+2) [] none 0 1 1) [bt m]:=fun A B=> BR.rd (di (aM _ _ 2) rfl)
 have Az:=fun b A B=> pT b (h++[A,B,bc.cells none [aa (bt m)]]) (.ref (h.length+2) [] none 0 1 1) k [bt m] hk (Hn A B) (by simp)
 have j3:((dx k [bt m]).map aa).length=16:=by simp[dx,bq]
 simp only[B20,gP,lz,j3,bM,acq,Az,go_sem,simprocAttr]
end Go.Proofs.YthplailfedobeaaGreat
namespace Go.Cl
structure Dk where
 now:List (Option Bs)
 bJ:List (Option Bs)
 ec:Nat
 at_:Nat
 last:Bs
def Dk.new :Dk:=⟨List.replicate 10 none,List.replicate 10 none,0,0,[]⟩
def Dk.kg (n:Int) (l:Bs):Bool:=decide (0≤n)&& decide (n < 10)&& decide (l.length≤8192)
def Dk.put (D:Dk) (n:Nat) (l:Bs):Dk:= {D with now:=D.now.set n (some l),ec:=D.ec+1,at_:=n,last:=l}
def Dk.get (D:Dk) (n:Int):Option Bs:=if 0≤n∧n < 10 then D.now.getD n.toNat none else none
def Dk.sync (D:Dk):Dk:= {D with bJ:=D.now,ec:=0}
def Dk.dG (D:Dk) (t:Int):List (Option Bs):=if 0 < D.ec∧0 < t then D.bJ.set D.at_ (some (D.last.take t.toNat)) else D.bJ
def Dk.jg (D:Dk) (t:Int):Dk:= {D with now:=D.dG t,bJ:=D.dG t,ec:=0}
def Dk.copy (D:Dk):Dk:=⟨D.now,D.now,0,0,[]⟩
def flip (l:Bs) (k:Nat):Bs:=l.set k (l.getD k 0 ^^^ 1)
def Dk.turns (D:Dk) (n k:Int):Bool:=decide (0≤n)&& decide (n < 10)&& decide (0≤k)&& decide (k <((D.now.getD n.toNat none).getD []).length)
def Dk.R8 (D:Dk) (n k:Nat):Dk:= {D with now:=D.now.set n (some (flip ((D.now.getD n none).getD []) k)),bJ:=D.bJ.set n (some (flip ((D.now.getD n none).getD []) k))}
structure Dk.OK (D:Dk):Prop where
 now:D.now.length=10
 bJ:D.bJ.length=10
 at_:D.at_ < 10
 ns:∀n,((D.now.getD n none).getD []).length≤8192
 ls:∀n,((D.bJ.getD n none).getD []).length≤8192
 last:D.last.length≤8192
theorem y6 (n k:Nat):(List.replicate n (none:Option Bs)).getD k none=none:=by
 rw[adk,aet];split <;> rfl
theorem Dk.tO :Dk.new.OK:=⟨by simp[Dk.new],by simp[Dk.new],by simp[Dk.new],fun n=> by simp only[Dk.new,y6];simp,fun n=> by simp only[Dk.new,y6];simp,by simp[Dk.new]⟩
theorem tP {α:Type} (l:List α) (i j:Nat) (x d:α):(l.set i x).getD j d=if i=j∧i < l.length then x else l.getD j d:=by
 simp only[adk,ac7]
 by_cases h:i=j
 ·subst h
  by_cases h2:i < l.length <;> simp[h2]
 ·simp[h]
theorem lF {l:List (Option Bs)} (h:∀n,((l.getD n none).getD []).length≤8192) (i:Nat) {x:Bs} (hx:x.length≤8192):∀n,(((l.set i (some x)).getD n none).getD []).length≤8192:=by
 intro n
 rw[tP]
 split
 ·exact hx
 ·exact h n
theorem Dk.Ju {D:Dk} (h:D.OK) {n:Nat} {l:Bs} (hn:n < 10) (hl:l.length≤8192):(D.put n l).OK:=
 ⟨by simp[Dk.put,h.now],h.bJ,hn,lF h.ns n hl,h.ls,hl⟩
theorem Dk.xx {D:Dk} (h:D.OK):D.sync.OK:=⟨h.now,h.now,h.at_,h.ns,h.ns,h.last⟩
theorem Dk.sG {D:Dk} (h:D.OK) (t:Int):(D.dG t).length=10∧∀n,(((D.dG t).getD n none).getD []).length≤8192:=by
 unfold Dk.dG
 split
 ·exact ⟨by simp[h.bJ],lF h.ls _ (by have:=h.last;simp;omega)⟩
 ·exact ⟨h.bJ,h.ls⟩
theorem Dk.Jv {D:Dk} (h:D.OK) (t:Int):(D.jg t).OK:=⟨(D.sG h t).1,(D.sG h t).1,h.at_,(D.sG h t).2,(D.sG h t).2,h.last⟩
theorem Dk.p6 {D:Dk} (h:D.OK) (n k:Nat):(D.R8 n k).OK:=
 ⟨by simp[Dk.R8,h.now],by simp[Dk.R8,h.bJ],h.at_,lF h.ns n (by simp[flip];exact h.ns n),lF h.ls n (by simp[flip];exact h.ns n),h.last⟩
end Go.Cl
namespace Go.Proofs.YthplailfedobeaaGreat.Bp
open Go Go.Vm Go.Proofs Go.Cl Go.Proofs.YthplailfedobeaaGreat
noncomputable abbrev R (b:Nat):CF:=run fns pr b
theorem EV (b:Nat) (vs:List V) (h:Hp):R b 87 vs h=dO vs h:=jw b h vs
theorem Dh {b:Nat} {h:Hp} {x:V} {l:Bs} (hb:BR h x l) (hl:l.length≤140737488355328):run fns pr b 87 [x] h=some (cv h l,h++ct l):=by
 rw[jw];exact yQ hb hl
theorem y7 (b:Nat) (h:Hp) (n:Int):R b 107 [.s (.int .i64 n)] h=some (.s (.bool (decide (0≤n)&& decide (n < 10))),h):=by
 refine Vm.aQ (nt:=9) rfl Qa (by simp) ?_
 by_cases h0:0≤n
 ·simp only[Mb,go_sem,simprocAttr,h0]
 ·simp only[Mb,go_sem,simprocAttr,h0]
def SlR (h:Hp) (v:V) (s:Option Bs):Prop:=∃x,v= .st 110 [.s (.bool s.isSome),x]∧BR h x (s.getD [])
def vm (h:Hp) (vs:List V) (ss:List (Option Bs)):Prop:=vs.length=ss.length∧∀(i:Nat) v s,vs[i]? =some v→ss[i]? =some s→SlR h v s
theorem SlR.mono {S:List Nat} {h h':Hp} {v:V} {s:Option Bs} (hs:SlR h v s) (f:Fw S h h'):SlR h' v s:=by
 obtain ⟨x,h1,h2⟩:=hs;exact ⟨x,h1,h2.mono f⟩
theorem vm.mono {S:List Nat} {h h':Hp} {v:List V} {s:List (Option Bs)} (hs:vm h v s) (f:Fw S h h'):vm h' v s:=
 ⟨hs.1,fun i v s h1 h2=>(hs.2 i v s h1 h2).mono f⟩
theorem vm.set {h:Hp} {vs:List V} {ss:List (Option Bs)} {v:V} {s:Option Bs} (hs:vm h vs ss) (hv:SlR h v s) (i:Nat):vm h (vs.set i v) (ss.set i s):=by
 refine ⟨by simp[hs.1],fun j w t h1 h2=> ?_⟩
 rw[ac7] at h1 h2
 split at h1
 ·rename_i he;subst he
  rw[if_pos rfl] at h2
  split at h1
  ·cases h1;rw[if_pos (by rw[←hs.1];assumption)] at h2;cases h2;exact hv
  ·cases h1
 ·rename_i he
  rw[if_neg he] at h2
  exact hs.2 j w t h1 h2
theorem vm.get {h:Hp} {vs:List V} {ss:List (Option Bs)} (hs:vm h vs ss) {i:Nat} (hi:i < ss.length):∃x,vs[i]? =some (.st 110 [.s (.bool (ss.getD i none).isSome),x])∧BR h x ((ss.getD i none).getD []):=by
 have h1:vs[i]? =some (vs[i]'(by rw[hs.1];exact hi)):=aci (by rw[hs.1];exact hi)
 have h2:ss[i]? =some ss[i]:=aci hi
 obtain ⟨x,h3,h4⟩:=hs.2 i _ _ h1 h2
 rw[adk,h2]
 exact ⟨x,by rw[h1,h3];rfl,h4⟩
def DR (h:Hp) (id:Nat) (D:Dk):Prop:=∃nv lv x,h[id]? =some (.cells (some 113) [.st 113 [.arr 112 nv,.arr 112 lv,.s (.int .i64 D.ec),.s (.int .i64 D.at_),x]])∧
 vm h nv D.now∧vm h lv D.bJ∧BR h x D.last∧D.OK
theorem DR.mono {S:List Nat} {h h':Hp} {id:Nat} {D:Dk} (hd:DR h id D) (f:Fw S h h') (hi:id∉S):DR h' id D:=by
 obtain ⟨nv,lv,x,h1,h2,h3,h4,h5⟩:=hd
 exact ⟨nv,lv,x,f.db _ _ h1 hi,h2.mono f,h3.mono f,h4.mono f,h5⟩
theorem DR.lt {h:Hp} {id:Nat} {D:Dk} (hd:DR h id D):id < h.length:=by
 obtain ⟨nv,lv,x,h1,_⟩:=hd;exact q6z h1
theorem DR.ok {h:Hp} {id:Nat} {D:Dk} (hd:DR h id D):D.OK:=by
 obtain ⟨nv,lv,x,_,_,_,_,h⟩:=hd;exact h
def Z60 :V:= .st 110 [.s (.bool false),.al false none []]
def Z61 :V:= .st 110 [.s (.bool false),.al true none []]
theorem tO (b:Nat) (h:Hp):∃v h',R b 21 [] h=some (v,h')∧v= .ptr h.length [0] 1∧DR h' h.length Dk.new∧Fw [] h h':=by
 refine Vm.ef (nt:=3) rfl US (by simp) ?_
 simp only[B21,go_sem,simprocAttr]
 refine ⟨⟨List.replicate 10 Z61,List.replicate 10 Z61,_,aH _ _,?_,?_,pg _ _,Dk.tO⟩,Fw.app _ _ _⟩
 all_goals
   refine ⟨by simp[Dk.new],fun i v s h1 h2=> ?_⟩
   simp only[Dk.new,aet] at h1 h2
   split at h1
   ·rename_i hi
    rw[if_pos hi] at h2
    cases h1;cases h2
    exact ⟨_,rfl,pg _ _⟩
   ·cases h1
theorem Di (b:Nat) (h:Hp) (y:V) (l:Bs) (hb:b≤h.length) (hy:BR h y l) (hl:l.length≤140737488355328):∃v h',R b 88 [y] h=some (v,h')∧SlR h' v (some l)∧Fw [] h h'∧
 (l≠[]→∃k,h.length≤k∧v= .st 110 [.s (.bool true),.ref k [] none 0 l.length l.length]∧h'[k]? =some (.cells none (l.map aa))):=by
 refine Vm.ef (nt:=6) rfl W4 (by simp) ?_
 obtain ⟨x,t,hc,hx,gq⟩:=Jw (h:=h++[.cells (some 110) [Z60]]) (hy.mono (Fw.app [] _ _)) hl
 have bo:=EV b [y] (h++[.cells (some 110) [Z60]])
 rw[hc] at bo
 unfold Z60 at bo
 simp only[B88,go_sem,simprocAttr,bo,acs,hx.ty,hx.aA,hb]
 refine ⟨⟨x,rfl,?_⟩,Fw.app _ _ _,fun cC=> ?_⟩
 ·rcases gq with ⟨rfl,rfl,rfl⟩ | ⟨rfl,rfl⟩
  ·exact pg _ _
  ·refine di ?_ rfl
   rw[aco,aM];rfl
 ·rcases gq with ⟨rfl,rfl,rfl⟩ | ⟨rfl,rfl⟩
  ·exact absurd rfl cC
  ·refine ⟨_,?_,rfl,?_⟩
   ·simp
   ·rw[aco,aM];rfl
theorem DR.fw {h:Hp} {id:Nat} {D:Dk} (hd:DR h id D) (es:List V):Fw [id] h (h.set id (.cells (some 113) es)):=by
 obtain ⟨nv,lv,x,hg,_⟩:=hd
 exact Fw.set (by simp) hg
theorem R9 (b:Nat) (h:Hp) (id:Nat) (D:Dk) (n:Int) (y:V) (l:Bs) (hb:b≤id) (hd:DR h id D) (hy:BR h y l) (hl:l.length≤140737488355328) (hp:D.ec < 4611686018427387904):
 ∃v h',R b 72 [.ptr id [0] 1,.s (.int .i64 n),y] h=some (v,h')∧v= .s (.bool (Dk.kg n l))∧DR h' id (if Dk.kg n l=true then D.put n.toNat l else D)∧Fw [id] h h':=by
 have hr:=y7 b h n
 have hly:=fun h0=> hy.bU (cf:=run fns pr b) (base:=b) (h:=h0)
 refine Vm.ef (nt:=38) rfl Wz (by simp) ?_
 by_cases ht:Dk.kg n l=true
 ·have ht':=ht
  simp only[Dk.kg,acn,decide_eq_true_eq] at ht'
  obtain ⟨⟨h0,h1⟩,h2⟩:=ht'
  obtain ⟨m,rfl⟩:∃m:Nat,n=m:=⟨n.toNat,by omega⟩
  have hle:¬(8192:Int)< l.length:=by omega
  obtain ⟨v1,k1,e1,vR,f1,_⟩:=Di b h y l (by have:=hd.lt;omega) hy hl
  have hd1:=hd.mono f1 (by simp)
  have nW:=hd1.fw
  obtain ⟨nv,lv,x,hg,r1,r2,r3,r4⟩:=hd
  have cT:=f1.db _ _ hg (by simp)
  obtain ⟨x0,hx0,_⟩:=r1.get (i:=m) (by rw[r4.now];omega)
  have mU:(m:Int)< nv.length:=by rw[r1.1,r4.now];omega
  obtain ⟨xs,rfl,jm⟩:=vR
  have hw:=q18z hp
  have R1:=q6z cT
  have Sa:=r3.ty
  have oB:=fun es=> Dh (b:=b) (h:=k1.set id (.cells (some 113) es)) (x:=y) ((hy.mono f1).mono (nW es)) hl
  simp only[B72,go_sem,simprocAttr,hr,hly,h0,h1,hle,e1,hg,AH,cT,mU,hx0,hb,hw,R1,oB,Pn,yR,Sa]
  have F:=fun es=> f1.mono (T:=[id]) (by simp) |>.trans ((nW es).trans (Fw.app [id] _ (ct l)))
  have F1:=fun es=>((nW es).trans (Fw.app [id] _ (ct l)))
  refine ⟨by rw[ht],?_,F _⟩
  rw[if_pos ht]
  refine ⟨_,_,_,q10z (q9z cT) _,((r1.mono (F _)).set ⟨xs,rfl,jm.mono (F1 _)⟩ m),r2.mono (F _),?_,Dk.Ju r4 (by omega) h2⟩
  exact Sb (by rw[adz,adz]) l
 ·have ht':=ht
  simp only[aev] at ht'
  simp only[ht',acz,if_false]
  by_cases h0:0≤n
  ·by_cases h1:n < 10
   ·have hle:(8192:Int)< l.length:=by simp[Dk.kg,h0,h1] at ht';omega
    simp only[B72,go_sem,simprocAttr,hr,hly,h0,h1,hle]
    exact ⟨hd,Fw.refl _ _⟩
   ·simp only[B72,go_sem,simprocAttr,hr,hly,h0,h1]
    exact ⟨hd,Fw.refl _ _⟩
  ·simp only[B72,go_sem,simprocAttr,hr,hly,h0]
   exact ⟨hd,Fw.refl _ _⟩
theorem sH (b:Nat) (h:Hp) (id:Nat) (D:Dk) (hb:b≤id) (hd:DR h id D):∃v h',R b 73 [.ptr id [0] 1] h=some (v,h')∧v= .bP []∧DR h' id D.sync∧Fw [id] h h':=by
 refine Vm.ef (nt:=12) rfl WB (by simp) ?_
 have nW:=hd.fw
 obtain ⟨nv,lv,x,hg,r1,r2,r3,r4⟩:=hd
 have bR:=q6z hg
 simp only[B73,go_sem,simprocAttr,hg,hb,bR]
 exact ⟨⟨_,_,_,q9z hg,r1.mono (nW _),r1.mono (nW _),r3.mono (nW _),Dk.xx r4⟩,nW _⟩
theorem Jx (b:Nat) (h:Hp) (id:Nat) (D:Dk) (n:Int) (hd:DR h id D):
 R b 90 [.ptr id [0] 1,.s (.int .i64 n)] h=some (.bP [.al false none (((D.get n).getD []).map aa),.s (.bool (D.get n).isSome)],h):=by
 have hr:=y7 (h.length) h n
 refine Vm.aQ (nt:=27) rfl W8 (by simp) ?_
 obtain ⟨nv,lv,x,hg,r1,r2,r3,r4⟩:=hd
 by_cases h0:0≤n
 ·by_cases h1:n < 10
  ·obtain ⟨m,rfl⟩:∃m:Nat,n=m:=⟨n.toNat,by omega⟩
   obtain ⟨x0,hx0,AB⟩:=r1.get (i:=m) (by rw[r4.now];omega)
   have mU:(m:Int)< nv.length:=by rw[r1.1,r4.now];omega
   have dL:D.get m=D.now.getD m none:=by simp[Dk.get];omega
   have El:=r4.ns m
   rw[dL]
   have hx0t:=AB.ty
   cases hc:D.now.getD m none with
   | none=>
     rw[hc] at hx0
     simp only[B90,go_sem,simprocAttr,hr,h0,h1,hg,hx0,mU]
   | some l=>
     rw[hc] at hx0 AB El
     have oB:=Dh (b:=h.length) AB (by omega)
     have gh:=Sc h.length h l (acm _)
     simp only[B90,go_sem,simprocAttr,hr,h0,h1,hg,hx0,mU,hx0t,oB,gh]
  ·have dL:D.get n=none:=by simp[Dk.get];omega
   rw[dL]
   simp only[B90,go_sem,simprocAttr,hr,h0,h1,hg]
 ·have dL:D.get n=none:=by simp[Dk.get];omega
  rw[dL]
  simp only[B90,go_sem,simprocAttr,hr,h0,hg]
theorem Jy (b:Nat) (h:Hp) (id:Nat) (D:Dk) (t:Int) (hb:b≤id) (hd:DR h id D):∃v h',R b 52 [.ptr id [0] 1,.s (.int .i64 t)] h=some (v,h')∧v= .bP []∧DR h' id (D.jg t)∧Fw [id] h h':=by
 refine Vm.ef (nt:=43) rfl VV (by simp) ?_
 have nW:=hd.fw
 have hd0:=hd
 obtain ⟨nv,lv,x,hg,r1,r2,r3,r4⟩:=hd
 have bR:=q6z hg
 have Sa:=r3.ty
 let es:List V:=[.st 113 [.arr 112 lv,.arr 112 lv,.s (.int .i64 D.ec),.s (.int .i64 D.at_),x]]
 let h1:=h.set id (.cells (some 113) es)
 have d1:DR h1 id {D with now:=D.bJ}:=⟨_,_,_,q9z hg,r2.mono (nW _),r2.mono (nW _),r3.mono (nW _),⟨r4.bJ,r4.bJ,r4.at_,r4.ls,r4.ls,r4.last⟩⟩
 by_cases hp:0 < D.ec
 ·by_cases ht:0 < t
  ·obtain ⟨m,rfl⟩:∃m:Nat,t=m:=⟨t.toNat,by omega⟩
   have oc:(0:Int)< D.ec:=by omega
   have EH:min (m:Int) (D.last.length:Int)=((min m D.last.length:Nat):Int):=by omega
   have jo:BR h1 x D.last:=r3.mono (nW es)
   have vf:=fun h0=> jo.bU (cf:=run fns pr b) (base:=b) (h:=h0)
   obtain ⟨y,hy,hyb⟩:=jo.hi (k:= .i64) (r:=min m D.last.length) (afC _ _)
   have oC:=r4.last
   obtain ⟨v2,h2,e2,⟨xs,rfl,jm⟩,f2,_⟩:=Di b h1 y _ (by have:=hd0.lt;simp[h1];omega) hyb (by simp;omega)
   have d2:=d1.mono f2 (by simp)
   have Yt:=d2.fw
   have jZ:=f2.db _ _ (q9z hg) (by simp)
   have Bq:=q6z jZ
   have hat:=r4.at_
   obtain ⟨x0,hx0,_⟩:=r2.get (i:=D.at_) (by rw[r4.bJ];omega)
   have mU:(D.at_:Int)< lv.length:=by rw[r2.1,r4.bJ];omega
   have Ej:(0:Int)≤D.at_:=by omega
   simp only[h1,es] at hy e2 jZ
   simp only[B52,go_sem,simprocAttr,hg,hb,bR,oc,ht,Sa,vf,EH,hy,e2,AH,jZ,hx0,mU,Bq,Ej]
   have G:=fun es'=>((nW es).trans (f2.mono (T:=[id]) (by simp))).trans (Yt es')
   have d3:=(⟨_,_,_,q9z jZ,((r2.mono (G _)).set ⟨xs,rfl,jm.mono (Yt _)⟩ D.at_),r2.mono (G _),r3.mono (G _),
     ⟨by simp[r4.bJ],r4.bJ,r4.at_,lF r4.ls _ (by simp;omega),r4.ls,r4.last⟩⟩:DR (h2.set id (.cells (some 113) [.st 113 [.arr 112 (lv.set D.at_ (.st 110 [.s (.bool true),xs])),.arr 112 lv,.s (.int .i64 D.ec),.s (.int .i64 D.at_),x]])) id ⟨D.bJ.set D.at_ (some (D.last.take (min m D.last.length))),D.bJ,D.ec,D.at_,D.last⟩)
   obtain ⟨v4,h4,e4,rfl,d4,f4⟩:=sH b _ id _ hb d3
   simp only[go_sem,simprocAttr,e4]
   refine ⟨?_,(G _).trans f4⟩
   have:D.jg m=Dk.sync ⟨D.bJ.set D.at_ (some (D.last.take (min m D.last.length))),D.bJ,D.ec,D.at_,D.last⟩:=by
     have:D.last.take (min m D.last.length)=D.last.take m:=by rw[←List.take_eq_take_min]
     simp only[Dk.jg,Dk.dG,Dk.sync,hp,ht,and_self,if_true,acC,this]
   rw[this];exact d4
  ·obtain ⟨v2,h2,e2,rfl,d2,f2⟩:=sH b h1 id _ hb d1
   have oc:(0:Int)< D.ec:=by omega
   simp only[h1,es] at e2
   simp only[B52,go_sem,simprocAttr,hg,hb,bR,oc,ht,e2]
   refine ⟨?_,(nW es).trans f2⟩
   have:D.jg t=Dk.sync {D with now:=D.bJ}:=by simp[Dk.jg,Dk.dG,Dk.sync,ht]
   rw[this];exact d2
 ·obtain ⟨v2,h2,e2,rfl,d2,f2⟩:=sH b h1 id _ hb d1
  have oc:¬(0:Int)< D.ec:=by omega
  simp only[h1,es] at e2
  simp only[B52,go_sem,simprocAttr,hg,hb,bR,oc,e2]
  refine ⟨?_,(nW es).trans f2⟩
  have:D.jg t=Dk.sync {D with now:=D.bJ}:=by simp[Dk.jg,Dk.dG,Dk.sync,hp]
  rw[this];exact d2
end Go.Proofs.YthplailfedobeaaGreat.Bp
namespace Go.Proofs.YthplailfedobeaaGreat
open Go Go.Vm Go.Proofs Go.Cl
set_option maxRecDepth 100000
def mK (q:kK):Bs:=[bt q.role]++bu q.au.toNat++[bt q.to,bt q.vs.length]++q.vs.flatMap aT
def eB (s:ba) (n:Nat):Bs:=(List.range n).flatMap fun i=> mK (s.p i)
def gD (s:ba):Bs:=[bt s.mem,bt s.bj]++eB s 16
theorem nk (s:ba) (n:Nat):eB s (n+1)=eB s n++mK (s.p n):=by simp[eB,adX]
theorem q35z {v:ae} (hw:v.wf) (hr:aP v=true):(aT v).length≤112:=by
 have h1:=q14z hr
 obtain ⟨w1,w2,w3,w4,w5,w6,w7,w8,w9⟩:=hw
 simp[aT];omega
theorem q34z {l:List ae} (h:∀v∈l,aP v=true∧v.wf):(l.flatMap aT).length≤112 * l.length:=by
 induction l with
 | nil=> simp
 | cons v l ih=>
   have h1:=ih fun w hw=> h w (by simp[hw])
   have h2:=q35z (h v (by simp)).2 (h v (by simp)).1
   simp only[aeJ,aco,acR];omega
theorem EW {s:ba} {i:Nat} {q:kK} (h:POk s i q):(mK q).length≤459:=by
 have:=q34z (l:=q.vs) fun v hv=>⟨(h.vs v hv).1,(h.vs v hv).2.1⟩
 have:=h.len
 simp only[mK,aco,acR,ada,bx];omega
theorem q36z {s:ba} (hk:jG s):∀n,n≤16→(eB s n).length≤459 * n
 | 0,_=> by simp[eB]
 | n+1,hn=> by
   have h1:=q36z hk n (by omega)
   have h2:=EW (hk.p n (by omega))
   rw[nk,aco];omega
theorem qd (b:Nat) (h:Hp) (m:Nat) (s:ba) (F:List Nat) (hs:iU h m s F) (hk:jG s):run fns pr b 16 [.ptr m [0] 1] h=some (.al false none ((gD s).map aa),h):=by
 refine Vm.aQ (nt:=72) rfl UI (by simp) ?_
 have aa1:=fun b=> R6 b h m s F hs
 have N0:jl h (h++[.cells none [aa (bt s.mem),aa (bt s.bj)]]) (.ref h.length [] none 0 2 2) ([bt s.mem,bt s.bj]++eB s 0):=⟨h.length,.inr ⟨rfl,aH _ _⟩,acm _,Fw.app _ _ _⟩
 simp only[B16,OW,OV,OU,aa1,lz,go_sem,simprocAttr]
 refine aV (fun q e H=>∃(i:Nat) (v:V),q=16 - i∧i≤16∧e 27= .s (.int .i64 (i:Nat))∧e 0= .ptr m [0] 1∧e 5=v∧jl h H v ([bt s.mem,bt s.bj]++eB s i))
   (fun e H=>∃v,e 5=v∧jl h H v ([bt s.mem,bt s.bj]++eB s 16)) 16 _ _ ⟨0,_,rfl,by omega,rfl,rfl,rfl,N0⟩ ?_ ?_
 ·rintro q e H ⟨i,v,rfl,hi,e27,e0,e5,N⟩
  by_cases cd:i < 16
  ·have cj:(i:Int)< 16:=by omega
   have w3:IntKind.i64.wrap ((i:Int)+1)=((i+1:Nat):Int):=q18z (by omega)
   have ok:=hk.p i cd
   have fE:=q36z hk i (by omega)
   have sI:=q34z (l:=(s.p i).vs) fun v hv=>⟨(ok.vs v hv).1,(ok.vs v hv).2.1⟩
   have ho4:=ok.len
   have hsH:iU H m s F:=hs.mono N.fw (by simp)
   have r1:=fun b=> MQ b H m i s F hsH cd
   have r2:=fun b=> Bh b H m i s F hsH hk cd
   obtain ⟨ep,hep⟩:∃n:Nat,(s.p i).au=n:=⟨(s.p i).au.toNat,by have:=ok.e1;omega⟩
   have Sd:ep < 18446744073709551616:=by have:=ok.e2;omega
   have hle:=N.fw.len
   obtain ⟨v1,H1,a1,N1⟩:=(N.mono (Fw.app [] H [.cells none [aa (bt (s.p i).role)]])).app (y:= .ref H.length [] none 0 1 1) (m:=[bt (s.p i).role]) (BR.src (di (by simp) rfl)) (by simp;omega)
   have vf:h.length≤H1.length:=N1.fw.len
   have n1:=eT h.length H1 ep Sd vf
   obtain ⟨v2,H2,a2,N2⟩:=(N1.mono (Fw.app [] H1 [.cells none ((bu ep).map aa)])).app (y:= .ref H1.length [] none 0 8 8) (m:=bu ep) (BR.src (di (by simp) (bx _))) (by simp;omega)
   obtain ⟨v3,H3,a3,N3⟩:=(N2.mono (Fw.app [] H2 [.cells none [aa (bt (s.p i).to),aa (bt (s.p i).vs.length)]])).app (y:= .ref H2.length [] none 0 2 2) (m:=[bt (s.p i).to,bt (s.p i).vs.length]) (BR.src (di (by simp) rfl)) (by simp;omega)
   have dQ:∀cf base H,aC cf base H .len [.al false (some 56) ((s.p i).vs.map ae.enc)]=some (.s (.int .i64 ((s.p i).vs.length:Nat)),H):=fun cf base H=> by rw[nb];simp
   rw[hep] at r1
   simp only[e27,e0,e5,cj,r1,r2,lz,a1,n1,a2,a3,dQ,go_sem,simprocAttr]
   generalize AB:[bt s.mem,bt s.bj]++eB s i++[bt (s.p i).role]++bu ep++[bt (s.p i).to,bt (s.p i).vs.length]=base0 at N3
   have hb0l:base0.length≤8000:=by rw[←AB];simp;omega
   have aa2:base0++(s.p i).vs.flatMap aT=[bt s.mem,bt s.bj]++eB s (i+1):=by
     rw[←AB,nk,mK,hep]
     simp
   have p9:=ok.vs
   generalize (s.p i).vs=ag at *
   refine aV (fun q e H=>∃(j:Nat) (v:V),q=ag.length - j∧j≤ag.length∧e 57= .s (.int .i64 (j:Nat))∧e 56= .s (.int .i64 (ag.length:Nat))∧e 55= .al false (some 56) (ag.map ae.enc)∧e 27= .s (.int .i64 (i:Nat))∧e 0= .ptr m [0] 1∧e 5=v∧jl h H v (base0++(ag.take j).flatMap aT))
     (fun e H=>∃v,e 27= .s (.int .i64 (i:Nat))∧e 0= .ptr m [0] 1∧e 5=v∧jl h H v (base0++ag.flatMap aT)) ag.length _ _ ⟨0,v3,rfl,by omega,rfl,rfl,rfl,e27,e0,rfl,by simpa using N3⟩ ?_ ?_
   ·rintro q e H ⟨j,v,rfl,hj,e57,e56,e55,e27,e0,e5,N⟩
    by_cases cv:j < ag.length
    ·have cj:(j:Int)<((ag.length:Nat):Int):=by omega
     have hjv:ag[j]? =some ag[j]:=aci cv
     have dE:SR H (.al false (some 56) (ag.map ae.enc)) (some 56) (ag.map ae.enc):= .inl ⟨false,rfl⟩
     have i1:=fun cf base=> dE.ck (cf:=cf) (base:=base) (k:= .i64) (i:=j) (by simpa using cv)
     have i2:=fun cf base=> dE.fL (cf:=cf) (base:=base) (i:=j) (v:=ag[j].enc) (by rw[acv,hjv];rfl) rfl
     have hle:=N.fw.len
     obtain ⟨m1,m2,_⟩:=p9 _ (ac3 cv)
     have ax:=q35z m2 m1
     have hp:=fun h0=> I8 h.length h0 false ag[j] m2
     rw[←ae.lu,m1,if_pos rfl] at hp
     have hfj:=q34z (l:=ag.take j) fun v hv=>⟨(p9 v (acA hv)).1,(p9 v (acA hv)).2.1⟩
     obtain ⟨v5,H5,a5,N5⟩:=(N.mono (Fw.app [] H [.cells (some 56) [ag[j].enc]])).app (y:= .al false none ((aT ag[j]).map aa)) (m:=aT ag[j]) rfl (by rw[acI] at hfj;simp only[aco];omega)
     have iK:base0++(ag.take j).flatMap aT++aT ag[j]=base0++(ag.take (j+1)).flatMap aT:=by
       rw[acT cv,aei];simp
     rw[iK] at N5
     have w3:IntKind.i64.wrap ((j:Int)+1)=((j+1:Nat):Int):=q17z (by omega)
     simp only[e57,e56,e55,e27,e0,e5,cj,i1,i2,hle,aJ,aK,hp,a5,w3,go_sem,simprocAttr]
     exact ⟨ag.length - (j+1),by omega,j+1,v5,rfl,by omega,rfl,rfl,N5⟩
    ·have cj:¬(j:Int)<((ag.length:Nat):Int):=by omega
     obtain rfl:j=ag.length:=by omega
     rw[ack (acm _)] at N
     simp only[e57,e56,e55,e27,e0,e5,cj,go_sem,simprocAttr]
     exact ⟨v,rfl,N⟩
   ·rintro e H ⟨v,e27,e0,e5,N⟩
    rw[aa2] at N
    simp only[e27,e0,e5,w3,go_sem,simprocAttr]
    exact ⟨16 - (i+1),by omega,i+1,v,rfl,by omega,rfl,rfl,N⟩
  ·have cj:¬(i:Int)< 16:=by omega
   obtain rfl:i=16:=by omega
   simp only[e27,e0,e5,cj,go_sem,simprocAttr]
   exact ⟨v,rfl,N⟩
 ·rintro e H ⟨v,e5,N⟩
  have dt:=N.oy (n:=h.length) (by simp)
  have fk:=N.fw.take
  simp only[e5,dt,fk,gD,go_sem,simprocAttr]
end Go.Proofs.YthplailfedobeaaGreat
