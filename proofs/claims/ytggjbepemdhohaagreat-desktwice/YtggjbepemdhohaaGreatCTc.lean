/- Texts for DeskTwice, part 3. Conditions: none. -/
import Derived.Test.YtggjbepemdhohaaGreatCTb
set_option linter.unusedSimpArgs false
set_option linter.unusedVariables false
set_option linter.unusedSectionVars false
namespace Go.Proofs.YtggjbepemdhohaaGreat
open Go Go.Vm Go.Proofs Go.Cl
set_option maxRecDepth 100000
theorem Rb (n:Nat) (h:n < 256):(UInt8.ofNat n).toNat=n:=by
 rw[aev];omega
def mj :List V:=bp.map aa
def wvR :List V:=[.s (.int .u32 1668047222),.s (.int .u32 1768383858),.s (.int .u32 1801807216),.s (.int .u32 1935763045)]
def lZ (l:Bs) (z:Nat):Bs:=l++[128]++List.replicate z 0
theorem AT (l:Bs) (z:Nat):lZ l (z+1)=lZ l z++[0]:=by simp[lZ,List.replicate_succ']
theorem qi (l:Bs) (z:Nat):(lZ l z).length=l.length+1+z:=by simp[lZ];omega
theorem CC (n:Nat):V.s (.int .u8 (IntKind.u8.wrap (n:Int)))=aa (UInt8.ofNat (n % 256)):=by
 have:IntKind.u8.wrap (n:Int)=(n:Int) % 256:=by
   simp only[IntKind.wrap,IntKind.bits,IntKind.signed];rfl
 rw[this,aa,Rb (n % 256) (by omega)]
 congr 2
theorem qR (n:Nat) (h:Hp):∀l:Bs,bD.all n h (l.map aa)=some (l.map aa)
 | []=> sF n h
 | b::l=> by rw[abR,pY,qR n h l];rfl
theorem Xv (h:Hp) (a b:aT):(h++[a,b])[h.length]? =some a∧(h++[a,b])[h.length+1]? =some b:=by
 constructor
 ·rw[abU (abJ _)];simp
 ·rw[abU (by omega)];simp
theorem wY (l:Bs):∀z∈l.map aa,V.ground z=true:=by
 intro z hz
 obtain ⟨b,_,rfl⟩:=acF.1 hz
 rfl
theorem yv (l:Bs):nO (l.take 4)=nO l:=by
 simp[nO,List.getD,acP]
def GR (h:Hp):Hp:=h++[aT.cells (some 22) [.arr 22 mj],aT.cells none wvR]
def lB (Y:W) (i:Nat):W:=⟨Y.a / 256 ^ min i 4,Y.b / 256 ^(min i 8 - 4),Y.c / 256 ^(min i 12 - 8),Y.d / 256 ^(i - 12)⟩
theorem CD (Y:W) (i:Nat) (hi:i < 16):(lB Y i).at (i / 4)=Y.at (i / 4)/ 2 ^(8 *(i % 4)):=by
 have:i=0∨i=1∨i=2∨i=3∨i=4∨i=5∨i=6∨i=7∨i=8∨i=9∨i=10∨i=11∨i=12∨i=13∨i=14∨i=15:=by omega
 rcases this with h | h | h | h | h | h | h | h | h | h | h | h | h | h | h | h <;> subst h <;> simp[lB,W.at]
theorem D5 (Y:W) (i:Nat) (hi:i < 16):(lB Y i).vs.set (i / 4) (.s (.int .u32 (((lB Y i).at (i / 4)/ 256:Nat):Int)))=(lB Y (i+1)).vs:=by
 have:i=0∨i=1∨i=2∨i=3∨i=4∨i=5∨i=6∨i=7∨i=8∨i=9∨i=10∨i=11∨i=12∨i=13∨i=14∨i=15:=by omega
 rcases this with h | h | h | h | h | h | h | h | h | h | h | h | h | h | h | h <;> subst h <;> simp[lB,W.at,W.vs,adJ]
theorem Md (b:Nat) (h:Hp) (x:V) (l:Bs) (hb:Rd h x l) (hl:l.length≤1000000):run fns pr b 18 [x] h=some (.arr 22 ((cT l).map aa),h):=by
 refine Vm.aQ (nt:=104) rfl T3 (by simp) ?_
 obtain ⟨g0,g1⟩:(GR h)[h.length]? =_∧(GR h)[h.length+1]? =_:=Xv h (.cells (some 22) [.arr 22 mj]) (.cells none wvR)
 have hlG:(GR h).length=h.length+2:=by simp[GR]
 have hsx:source (GR h) x=some (none,l.map aa):=by
   have:=hb.1 (GR h) (Fw.app [] h _)
   cases x <;> first | exact this | (simp[elems] at this)
 obtain ⟨v,H1,k1,Me,xr1,hk1,qO,_,_,pb⟩:=(XR.nil (GR h) none (h.length+2)).Q5 (n:=h.length+2) (bytes:=1) (by omega) (by omega) hsx (wY l) (by simp;omega)
 obtain ⟨v2,H2,k2,yq,xr2,AK,qM,_,_,CE⟩:=xr1.Iy (m:=1) (ys:=[aa 128]) (bytes:=1) hk1 qO rfl (fun z hz=> by simp at hz;subst hz;rfl) (by simp;omega)
 have g0:=CE _ _ (by omega) (pb _ _ (by omega) g0)
 have g1:=CE _ _ (by omega) (pb _ _ (by omega) g1)
 have fw:Fw [] h H2:=Fw.AI (by omega) fun j b hj=> by
   have:=q6z hj
   exact CE _ _ (by omega) (pb _ _ (by omega) (q10z hj _))
 have hb8:aa 128= .s (.int .u8 128):=rfl
 rw[hb8] at yq
 have xr2:XR H2 none k2 v2 ((lZ l 0).map aa):=by simpa[lZ] using xr2
 have dO:=xr1.ty
 simp only[GR,mj,wvR] at Me
 have au:(0:Nat)=0:=rfl
 try simp only[B18,GZ,GY,GX,GW,GV,GU,GS,GQ,GP,GO,Me,yq,go_sem,simprocAttr]
 repeat' (
   first | refine q5z ?_ ?_ | refine q3z ?_ ?_ | refine q4z ?_ ?_
   all_goals intro ai
   all_goals first | replace ai:=q2z ai | replace ai:=q1z ai | skip
   all_goals first | subst ai | replace au:=And.intro ai au
   all_goals try simp only[au,B18,GZ,GY,GX,GW,GV,GU,GS,GQ,GP,GO,Me,yq,go_sem,simprocAttr])
 clear Me yq pb CE hsx
 have hxl:∀cf base (h0:Hp),aB cf base h0 .len [x]=some (.s (.int .i64 l.length),h0):=fun cf base h0=> Vm.bG cf base h0 x _ hb.2
 have w1:IntKind.u64.wrap (l.length:Int)=(l.length:Int):=wrap_u64 (by omega) (by omega)
 refine bo (fun m e H=>∃z k y,m=fO l.length - z∧z≤fO l.length∧e 0=x∧e 2= .ptr h.length [0] 1∧e 3= .ref (h.length+1) [] none 0 4 4∧e 4=y∧H[h.length]? =some (.cells (some 22) [.arr 22 mj])∧H[h.length+1]? =some (.cells none wvR)∧XR H none k y ((lZ l z).map aa)∧Fw [] h H∧h.length+2≤k∧h.length+2≤H.length)
   (fun e H=>∃k y,e 0=x∧e 2= .ptr h.length [0] 1∧e 3= .ref (h.length+1) [] none 0 4 4∧e 4=y∧H[h.length]? =some (.cells (some 22) [.arr 22 mj])∧H[h.length+1]? =some (.cells none wvR)∧XR H none k y ((lZ l (fO l.length)).map aa)∧Fw [] h H∧h.length+2≤k∧h.length+2≤H.length)
   (fO l.length) _ _ ⟨0,k2,v2,rfl,by omega,rfl,rfl,rfl,rfl,g0,g1,xr2,fw,AK,qM⟩ ?_ ?_
 ·clear xr2 fw AK qM g0 g1 xr1 dO
  rintro m e H ⟨z,k,y,rfl,hz,e0,e2,e3,e4,cI,cS,xr,fw,hk,hlH⟩
  have mo:=fun cf base=> xr.BR.bG (cf:=cf) (base:=base) (h:=H)
  rw[qi] at mo
  have hpd:fO l.length=(8 - (l.length+1) % 8) % 8:=rfl
  have Co:∀cf base h,aB cf base h (.bin .num .rem) [.s (.int .i64 ((l.length+1+z:Nat):Int)),.s (.int .i64 8)]=some (.s (.int .i64 (((l.length+1+z) % 8:Nat):Int)),h):=fun cf base h=> by
    rw[vg cf base h .i64 _ 8 (by omega),ac7 (by omega)];rfl
  by_cases c:z < fO l.length
  ·have c':¬(((l.length+1+z) % 8:Nat):Int)=0:=by omega
   obtain ⟨x',H',k',je,xr',lX,dp,_,hg,hold⟩:=xr.Iy (m:=1) (ys:=[.s (.int .u8 0)]) (bytes:=1) hk hlH rfl (fun z hz=> by simp at hz;subst hz;rfl) (by simp[qi];unfold fO at c;omega)
   have xr':XR H' none k' x' ((lZ l (z+1)).map aa):=by rw[AT,acX];exact xr'
   have fw':Fw [] h H':=fw.trans' hg hold hk
   have au:(0:Nat)=0:=rfl
   try simp only[e0,e2,e3,e4,mo,Co,c',je,go_sem,simprocAttr]
   repeat' (
     first | refine q5z ?_ ?_ | refine q3z ?_ ?_ | refine q4z ?_ ?_
     all_goals intro ai
     all_goals first | replace ai:=q2z ai | replace ai:=q1z ai | skip
     all_goals first | subst ai | replace au:=And.intro ai au
     all_goals try simp only[au,e0,e2,e3,e4,mo,Co,c',je,go_sem,simprocAttr])
   all_goals exact ⟨fO l.length - (z+1),by omega,z+1,k',x',rfl,by omega,rfl,hold _ _ (by omega) cI,hold _ _ (by omega) cS,xr',fw',lX,dp⟩
  ·have c':(((l.length+1+z) % 8:Nat):Int)=0:=by omega
   have:z=fO l.length:=by omega
   have au:(0:Nat)=0:=rfl
   try simp only[e0,e2,e3,e4,mo,Co,c',go_sem,simprocAttr]
   repeat' (
     first | refine q5z ?_ ?_ | refine q3z ?_ ?_ | refine q4z ?_ ?_
     all_goals intro ai
     all_goals first | replace ai:=q2z ai | replace ai:=q1z ai | skip
     all_goals first | subst ai | replace au:=And.intro ai au
     all_goals try simp only[au,e0,e2,e3,e4,mo,Co,c',go_sem,simprocAttr])
   all_goals (subst this;exact ⟨k,y,rfl,cI,cS,xr,fw,hk,hlH⟩)
 ·clear xr2 fw AK qM g0 g1 xr1 dO
  rintro e H ⟨k,y,e0,e2,e3,e4,cI,cS,xr,fw,hk,hlH⟩
  have au:(0:Nat)=0:=rfl
  try simp only[e0,e2,e3,e4,hxl,w1,go_sem,simprocAttr]
  repeat' (
    first | refine q5z ?_ ?_ | refine q3z ?_ ?_ | refine q4z ?_ ?_
    all_goals intro ai
    all_goals first | replace ai:=q2z ai | replace ai:=q1z ai | skip
    all_goals first | subst ai | replace au:=And.intro ai au
    all_goals try simp only[au,e0,e2,e3,e4,hxl,w1,go_sem,simprocAttr])
  refine bo (fun m e H=>∃i k y,m=8 - i∧i≤8∧e 6= .s (.int .i64 (i:Nat))∧e 5= .s (.int .u64 ((l.length / 2 ^(8 * i):Nat):Int))∧e 2= .ptr h.length [0] 1∧e 3= .ref (h.length+1) [] none 0 4 4∧e 4=y∧H[h.length]? =some (.cells (some 22) [.arr 22 mj])∧H[h.length+1]? =some (.cells none wvR)∧XR H none k y ((lZ l (fO l.length)++rA l.length i).map aa)∧Fw [] h H∧h.length+2≤k∧h.length+2≤H.length)
    (fun e H=>∃y,e 2= .ptr h.length [0] 1∧e 3= .ref (h.length+1) [] none 0 4 4∧e 4=y∧H[h.length]? =some (.cells (some 22) [.arr 22 mj])∧H[h.length+1]? =some (.cells none wvR)∧BR H y (fj l)∧Fw [] h H)
    8 _ _ ⟨0,k,y,rfl,by omega,rfl,by simp;rfl,e2,e3,e4,cI,cS,by simpa[rA] using xr,fw,hk,hlH⟩ ?_ ?_
  ·clear xr fw hk hlH cI cS e4 y k
   rintro m e H ⟨i,k,y,rfl,hi,e6,e5,e2,e3,e4,cI,cS,xr,fw,hk,hlH⟩
   by_cases c:i < 8
   ·have c':(i:Int)< 8:=by omega
    have jj:IntKind.i64.wrap ((i:Int)+1)=((i+1:Nat):Int):=q18z (by omega)
    have hq:∀cf base h,aB cf base h (.bin .num .quo) [.s (.int .u64 ((l.length / 2 ^(8 * i):Nat):Int)),.s (.int .u64 256)]=some (.s (.int .u64 ((l.length / 2 ^(8 *(i+1)):Nat):Int)),h):=fun cf base h=> by
      have h1:l.length / 2 ^(8 * i)≤l.length:=adA _ _
      have h2:l.length / 2 ^(8 *(i+1))=l.length / 2 ^(8 * i)/ 256:=by rw[adJ,show 8 *(i+1)=8 * i+8 by omega,Nat.pow_add]
      rw[Cq cf base h .u64 _ 256 (by omega),h2]
      generalize l.length / 2 ^(8 * i)=n at h1
      rw[ac8 (by omega),wrap_u64 (by omega) (by omega)];rfl
    have pc:V.s (.int .u8 (IntKind.u8.wrap ((l.length / 2 ^(8 * i):Nat):Int)))=aa (UInt8.ofNat (l.length / 2 ^(8 * i) % 256)):=CC _
    obtain ⟨x',H',k',je,xr',lX,dp,_,hg,hold⟩:=xr.Iy (m:=1) (ys:=[.s (.int .u8 (IntKind.u8.wrap ((l.length / 2 ^(8 * i):Nat):Int)))]) (bytes:=1) hk hlH rfl (fun z hz=> by simp at hz;subst hz;rfl) (by simp[qi,o9];unfold fO;omega)
    have xr':XR H' none k' x' ((lZ l (fO l.length)++rA l.length (i+1)).map aa):=by rw[rA,←List.append_assoc,acX,List.map_singleton,←pc];exact xr'
    have fw':Fw [] h H':=fw.trans' hg hold hk
    have au:(0:Nat)=0:=rfl
    try simp only[e6,e5,e2,e3,e4,c',je,jj,hq,go_sem,simprocAttr]
    repeat' (
      first | refine q5z ?_ ?_ | refine q3z ?_ ?_ | refine q4z ?_ ?_
      all_goals intro ai
      all_goals first | replace ai:=q2z ai | replace ai:=q1z ai | skip
      all_goals first | subst ai | replace au:=And.intro ai au
      all_goals try simp only[au,e6,e5,e2,e3,e4,c',je,jj,hq,go_sem,simprocAttr])
    all_goals exact ⟨8 - (i+1),by omega,i+1,k',x',rfl,by omega,rfl,rfl,rfl,hold _ _ (by omega) cI,hold _ _ (by omega) cS,xr',fw',lX,dp⟩
   ·have c':¬(i:Int)< 8:=by omega
    have:i=8:=by omega
    have au:(0:Nat)=0:=rfl
    try simp only[e6,e5,e2,e3,e4,c',go_sem,simprocAttr]
    repeat' (
      first | refine q5z ?_ ?_ | refine q3z ?_ ?_ | refine q4z ?_ ?_
      all_goals intro ai
      all_goals first | replace ai:=q2z ai | replace ai:=q1z ai | skip
      all_goals first | subst ai | replace au:=And.intro ai au
      all_goals try simp only[au,e6,e5,e2,e3,e4,c',go_sem,simprocAttr])
    all_goals (subst this;exact ⟨y,rfl,cI,cS,xr.BR,fw⟩)
  ·clear xr fw hk hlH cI cS e4 y k
   rintro e H ⟨y,e2,e3,e4,cI,cS,br,fw⟩
   have sI:cT l=fQ (dz (k7 (fj l) ((fj l).length / 8)) 8) 16:=rfl
   have Q3:=sA l
   obtain ⟨N,hN⟩:∃N,(fj l).length / 8=N:=⟨_,rfl⟩
   have hlP:=oC l
   have hpd:fO l.length < 8:=by unfold fO;omega
   generalize fj l=P at Q3 hN hlP br sI
   rw[hN] at sI
   have hP8:P.length=8 * N:=by omega
   have au:(0:Nat)=0:=rfl
   try simp only[e2,e3,e4,go_sem,simprocAttr]
   repeat' (
     first | refine q5z ?_ ?_ | refine q3z ?_ ?_ | refine q4z ?_ ?_
     all_goals intro ai
     all_goals first | replace ai:=q2z ai | replace ai:=q1z ai | skip
     all_goals first | subst ai | replace au:=And.intro ai au
     all_goals try simp only[au,e2,e3,e4,go_sem,simprocAttr])
   refine bo (fun m e H=>∃i,m=N - i∧i≤N∧e 7= .s (.int .i64 ((8 * i:Nat):Int))∧e 2= .ptr h.length [0] 1∧e 3= .ref (h.length+1) [] none 0 4 4∧e 4=y∧H[h.length]? =some (.cells (some 22) [.arr 22 mj])∧H[h.length+1]? =some (.cells none (k7 P i).vs)∧BR H y P∧Fw [] h H)
     (fun e H=> e 2= .ptr h.length [0] 1∧e 3= .ref (h.length+1) [] none 0 4 4∧H[h.length]? =some (.cells (some 22) [.arr 22 mj])∧H[h.length+1]? =some (.cells none (k7 P N).vs)∧Fw [] h H)
     N _ _ ⟨0,rfl,by omega,rfl,e2,e3,e4,cI,cS,by simpa using br,fw⟩ ?_ ?_
   ·clear br cI cS fw
    rintro m e H ⟨i,rfl,hi,e7,e2,e3,e4,cI,cS,br,fw⟩
    have mo:=fun cf base=> br.bG (cf:=cf) (base:=base) (h:=H)
    rw[hP8] at mo
    by_cases c:i < N
    ·have c':((8 * i:Nat):Int)<((8 * N:Nat):Int):=by omega
     have DS:k7 P (i+1)=QY (k7 P i) (P.drop (8 * i)):=rfl
     have hXok:=wN P i
     generalize k7 P i=X at cS DS hXok
     have oF:∀c,(H.set (h.length+1) c)[h.length+1]? =some c:=fun c=> q9z cS
     have Ic:∀c d,(H.set (h.length+1) c).set (h.length+1) d=H.set (h.length+1) d:=fun c d=> acM ..
     have p7:∀c,(H.set (h.length+1) c)[h.length]? =some (.cells (some 22) [.arr 22 mj]):=fun c=> by rw[abM (by omega)];exact cI
     have k9:∀c,Fw [] h (H.set (h.length+1) c):=fun c=> fw.bX (by omega) c
     have Ii:∀c,(∀bl:Bs,X.vs≠bl.map aa)→BR (H.set (h.length+1) c) y P:=fun c hq=> br.mono (Fw.Xw (S:=[h.length+1]) (by simp) cS hq)
     have hnb:∀Z:W,∀bl:Bs,Z.vs≠bl.map aa:=fun Z bl he=> by
       cases bl with
       | nil=> simp[W.vs] at he
       | cons b bl=> simp[W.vs,aa] at he
     have Ii:=fun c=> Ii c (hnb X)
     have a1:IntKind.i64.wrap (((8 * i:Nat):Int)+4)=((8 * i+4:Nat):Int):=by rw[wrap_i64 (by omega) (by omega)];omega
     have a2:IntKind.i64.wrap (((8 * i:Nat):Int)+8)=((8 * i+8:Nat):Int):=by rw[wrap_i64 (by omega) (by omega)];omega
     obtain ⟨y1,hy1,br1⟩:=br.both (k:= .i64) (k':= .i64) (a:=8 * i) (r:=8 * i+4) (by omega) (by omega)
     have pd:=CB h.length H y1 _ br1 (by simp;omega)
     have ht1:nO ((P.drop (8 * i)).take (8 * i+4 - 8 * i))=nO (P.drop (8 * i)):=by
       rw[show 8 * i+4 - 8 * i=4 by omega];exact yv _
     rw[ht1] at pd
     have AH:=cS
     simp only[W.vs] at AH
     have Xx:∀cf base,aB cf base H (.jX none true true false) [y,.s (.int .i64 ((8 * i:Nat):Int)),.s (.int .i64 ((8 * i+4:Nat):Int))]=some (y1,H):=hy1
     obtain ⟨y2,hy2,br2⟩:=(Ii (.cells none [.s (.int .u32 (xr X.a (nO (P.drop (8 * i))):Nat)),.s (.int .u32 X.b),.s (.int .u32 X.c),.s (.int .u32 X.d)])).both (k:= .i64) (k':= .i64) (a:=8 * i+4) (r:=8 * i+8) (by omega) (by omega)
     have Cp:=CB h.length _ y2 _ br2 (by simp;omega)
     have ht2:nO ((P.drop (8 * i+4)).take (8 * i+8 - (8 * i+4)))=nO ((P.drop (8 * i)).drop 4):=by
       rw[show 8 * i+8 - (8 * i+4)=4 by omega,acy];exact yv _
     rw[ht2] at Cp
     obtain ⟨W1,hW1⟩:∃W1:W,(⟨xr X.a (nO (P.drop (8 * i))),X.b,X.c,xr X.d (nO ((P.drop (8 * i)).drop 4))⟩:W)=W1:=⟨_,rfl⟩
     have Q4:k7 P (i+1)=iu (iu (iu W1)):=by rw[DS,←hW1];rfl
     have hW1ok:W1.ok:=by rw[←hW1];exact ⟨lV _ _,hXok.2.1,hXok.2.2.1,lV _ _⟩
     have hW1v:[V.s (.int .u32 ((xr X.a (nO (P.drop (8 * i))):Nat):Int)),.s (.int .u32 X.b),.s (.int .u32 X.c),.s (.int .u32 ((xr X.d (nO ((P.drop (8 * i)).drop 4)):Nat):Int))]=W1.vs:=by rw[←hW1];rfl
     have s1:=pk h.length (H.set (h.length+1) (.cells none W1.vs)) (h.length+1) W1 hW1ok (oF _)
     have s2:=pk h.length (H.set (h.length+1) (.cells none (iu W1).vs)) (h.length+1) (iu W1) (o8 _) (oF _)
     have s3:=pk h.length (H.set (h.length+1) (.cells none (iu (iu W1)).vs)) (h.length+1) (iu (iu W1)) (o8 _) (oF _)
     rw[Ic] at s1 s2 s3
     have l0:(0:Int)<((4:Nat):Int):=by decide
     have l3:(3:Int)<((4:Nat):Int):=by decide
     have au:(0:Nat)=0:=rfl
     try simp only[e7,e2,e3,e4,mo,c',l0,l3,a1,a2,pd,AH,oF,Ic,Xx,hy2,Cp,ye,eC,hW1v,s1,s2,s3,go_sem,simprocAttr]
     repeat' (
       first | refine q5z ?_ ?_ | refine q3z ?_ ?_ | refine q4z ?_ ?_
       all_goals intro ai
       all_goals first | replace ai:=q2z ai | replace ai:=q1z ai | skip
       all_goals first | subst ai | replace au:=And.intro ai au
       all_goals try simp only[au,e7,e2,e3,e4,mo,c',l0,l3,a1,a2,pd,AH,oF,Ic,Xx,hy2,Cp,ye,eC,hW1v,s1,s2,s3,go_sem,simprocAttr])
     all_goals exact ⟨N - (i+1),by omega,i+1,rfl,by omega,rfl,p7 _,by rw[Q4],Ii _,k9 _⟩
    ·have c':¬((8 * i:Nat):Int)<((8 * N:Nat):Int):=by omega
     have:i=N:=by omega
     have au:(0:Nat)=0:=rfl
     try simp only[e7,e2,e3,e4,mo,c',go_sem,simprocAttr]
     repeat' (
       first | refine q5z ?_ ?_ | refine q3z ?_ ?_ | refine q4z ?_ ?_
       all_goals intro ai
       all_goals first | replace ai:=q2z ai | replace ai:=q1z ai | skip
       all_goals first | subst ai | replace au:=And.intro ai au
       all_goals try simp only[au,e7,e2,e3,e4,mo,c',go_sem,simprocAttr])
     all_goals (subst this;exact ⟨cI,cS,fw⟩)
   ·clear br cI cS fw e4
    rintro e H ⟨e2,e3,cI,cS,fw⟩
    have hXok:=wN P N
    generalize k7 P N=X at cS sI hXok
    have au:(0:Nat)=0:=rfl
    try simp only[e2,e3,go_sem,simprocAttr]
    repeat' (
      first | refine q5z ?_ ?_ | refine q3z ?_ ?_ | refine q4z ?_ ?_
      all_goals intro ai
      all_goals first | replace ai:=q2z ai | replace ai:=q1z ai | skip
      all_goals first | subst ai | replace au:=And.intro ai au
      all_goals try simp only[au,e2,e3,go_sem,simprocAttr])
    refine bo (fun m e H'=>∃j,m=8 - j∧j≤8∧e 8= .s (.int .i64 (j:Nat))∧e 2= .ptr h.length [0] 1∧e 3= .ref (h.length+1) [] none 0 4 4∧H'[h.length]? =some (.cells (some 22) [.arr 22 mj])∧H'[h.length+1]? =some (.cells none (dz X j).vs)∧Fw [] h H')
      (fun e H'=> e 2= .ptr h.length [0] 1∧e 3= .ref (h.length+1) [] none 0 4 4∧H'[h.length]? =some (.cells (some 22) [.arr 22 mj])∧H'[h.length+1]? =some (.cells none (dz X 8).vs)∧Fw [] h H')
      8 _ _ ⟨0,rfl,by omega,rfl,e2,e3,cI,cS,fw⟩ ?_ ?_
    ·clear cI cS fw
     rintro m e H' ⟨j,rfl,hj,e8,e2,e3,cI,cS,fw⟩
     by_cases c:j < 8
     ·have c':(j:Int)< 8:=by omega
      have ba:=pk h.length H' (h.length+1) (dz X j) (sx hXok j) cS
      have ba:run fns pr h.length 46 [.ref (h.length+1) [] none 0 4 4] H'=some (.bM [],H'.set (h.length+1) (.cells none (dz X (j+1)).vs)):=ba
      have oF:=q9z cS (b:= .cells none (dz X (j+1)).vs)
      have p7:(H'.set (h.length+1) (.cells none (dz X (j+1)).vs))[h.length]? =some (.cells (some 22) [.arr 22 mj]):=by rw[abM (by omega)];exact cI
      have k9:Fw [] h (H'.set (h.length+1) (.cells none (dz X (j+1)).vs)):=fw.bX (by omega) _
      have jj:IntKind.i64.wrap ((j:Int)+1)=((j+1:Nat):Int):=q18z (by omega)
      have au:(0:Nat)=0:=rfl
      try simp only[e8,e2,e3,c',ba,jj,go_sem,simprocAttr]
      repeat' (
        first | refine q5z ?_ ?_ | refine q3z ?_ ?_ | refine q4z ?_ ?_
        all_goals intro ai
        all_goals first | replace ai:=q2z ai | replace ai:=q1z ai | skip
        all_goals first | subst ai | replace au:=And.intro ai au
        all_goals try simp only[au,e8,e2,e3,c',ba,jj,go_sem,simprocAttr])
      all_goals exact ⟨8 - (j+1),by omega,j+1,rfl,by omega,rfl,p7,oF,k9⟩
     ·have c':¬(j:Int)< 8:=by omega
      have:j=8:=by omega
      subst this
      have au:(0:Nat)=0:=rfl
      try simp only[e8,e2,e3,c',go_sem,simprocAttr]
      repeat' (
        first | refine q5z ?_ ?_ | refine q3z ?_ ?_ | refine q4z ?_ ?_
        all_goals intro ai
        all_goals first | replace ai:=q2z ai | replace ai:=q1z ai | skip
        all_goals first | subst ai | replace au:=And.intro ai au
        all_goals try simp only[au,e8,e2,e3,c',go_sem,simprocAttr])
      all_goals exact ⟨cI,cS,fw⟩
    ·clear cI cS fw
     rintro e H ⟨e2,e3,cI,cS,fw⟩
     have hYok:=sx hXok 8
     generalize dz X 8=Y at cS sI hYok
     have au:(0:Nat)=0:=rfl
     try simp only[e2,e3,go_sem,simprocAttr]
     repeat' (
       first | refine q5z ?_ ?_ | refine q3z ?_ ?_ | refine q4z ?_ ?_
       all_goals intro ai
       all_goals first | replace ai:=q2z ai | replace ai:=q1z ai | skip
       all_goals first | subst ai | replace au:=And.intro ai au
       all_goals try simp only[au,e2,e3,go_sem,simprocAttr])
     have iO:h.length+1 < H.length:=q6z cS
     have hT:(H++[aT.cells (some 22) [.arr 22 mj]])[H.length]? =_:=aS H [aT.cells (some 22) [.arr 22 mj]]
     obtain ⟨o,ho⟩:∃o,H.length=o:=⟨_,rfl⟩
     refine bo (fun m e H'=>∃i,m=16 - i∧i≤16∧e 10= .s (.int .i64 (i:Nat))∧e 2= .ptr h.length [0] 1∧e 3= .ref (h.length+1) [] none 0 4 4∧e 9= .ptr o [0] 1∧H'[h.length]? =some (.cells (some 22) [.arr 22 mj])∧H'[h.length+1]? =some (.cells none (lB Y i).vs)∧H'[o]? =some (.cells (some 22) [.arr 22 ((fQ Y i++List.replicate (16 - i) 0).map aa)])∧Fw [] h H')
       (fun e H'=> e 2= .ptr h.length [0] 1∧e 9= .ptr o [0] 1∧H'[h.length]? =some (.cells (some 22) [.arr 22 mj])∧H'[o]? =some (.cells (some 22) [.arr 22 ((fQ Y 16).map aa)])∧Fw [] h H')
       16 _ _ ⟨0,rfl,by omega,rfl,e2,e3,by rw[←ho];rfl,q10z cI _,by rw[show lB Y 0=Y by simp[lB]];exact q10z cS _,by rw[←ho];exact hT,fw.trans (Fw.app _ _ _)⟩ ?_ ?_
     ·clear hT cI cS fw
      rintro m e H' ⟨i,rfl,hi,e10,e2,e3,e9,cI,cS,oH,fw⟩
      by_cases c:i < 16
      ·have c':(i:Int)< 16:=by omega
       have c16:(i:Int)<((16:Nat):Int):=by omega
       have i0:(0:Int)≤(i:Int):=by omega
       have hq:∀cf base h,aB cf base h (.bin .num .quo) [.s (.int .i64 i),.s (.int .i64 4)]=some (.s (.int .i64 ((i / 4:Nat):Int)),h):=fun cf base h=> by
         rw[Cq cf base h .i64 _ 4 (by omega),ac8 (by omega),wrap_i64 (by omega) (by omega)];rfl
       have hYv:(lB Y i).vs[i / 4]? =some (.s (.int .u32 (((lB Y i).at (i / 4):Nat):Int))):=by
         have:i / 4=0∨i / 4=1∨i / 4=2∨i / 4=3:=by omega
         rcases this with h | h | h | h <;> rw[h]<;> rfl
       have hq2:∀cf base h,aB cf base h (.bin .num .quo) [.s (.int .u32 (((lB Y i).at (i / 4):Nat):Int)),.s (.int .u32 256)]=some (.s (.int .u32 (((lB Y i).at (i / 4)/ 256:Nat):Int)),h):=fun cf base h=> by
         have cF:(lB Y i).at (i / 4)< 4294967296:=by
           rw[CD Y i c]
           refine adL (adA _ _) ?_
           have:i / 4=0∨i / 4=1∨i / 4=2∨i / 4=3:=by omega
           rcases this with h | h | h | h <;> rw[h]
           ·exact hYok.1
           ·exact hYok.2.1
           ·exact hYok.2.2.1
           ·exact hYok.2.2.2
         generalize (lB Y i).at (i / 4)=n at cF
         rw[Cq cf base h .u32 _ 256 (by omega),ac8 (by omega),wrap_u32 (by omega) (by omega)];rfl
       have hYl:(lB Y i).vs.length=4:=rfl
       have c4:((i / 4:Nat):Int)< 4:=by omega
       have c4':((i / 4:Nat):Int)<((4:Nat):Int):=by omega
       have j0:(0:Int)≤((i / 4:Nat):Int):=by omega
       have c4n:i / 4 < 4:=by omega
       have Aa:((fQ Y i++List.replicate (16 - i) 0).map aa).length=16:=by rw[abX,abI,iw,acr];omega
       obtain ⟨z,hz,hzt⟩:∃z,((fQ Y i++List.replicate (16 - i) 0).map aa)[i]? =some z∧z.ty=none:=by
         refine ⟨aa ((fQ Y i++List.replicate (16 - i) 0)[i]'(by rw[abX] at Aa;omega)),?_,rfl⟩
         rw[abT,abE (by rw[abX] at Aa;omega)];rfl
       have ba:((fQ Y i++List.replicate (16 - i) 0).map aa).set i (V.s (.int .u8 (IntKind.u8.wrap (((lB Y i).at (i / 4):Nat):Int))))=(fQ Y (i+1)++List.replicate (16 - (i+1)) 0).map aa:=by
         rw[CC,CD Y i c,←List.map_set,acn _ _ (by rw[iw];exact abJ _),iw,ad5,show 16 - i=(16 - (i+1))+1 by omega,ads,adl,fQ,abO]
         rfl
       have qa:=D5 Y i c
       generalize (fQ Y i++List.replicate (16 - i) 0).map aa=vs at oH Aa hz ba
       generalize aac:(lB Y (i+1)).vs=vs1 at qa
       generalize (lB Y i).vs=vs0 at cS hYv hYl qa
       generalize Xy:(fQ Y (i+1)++List.replicate (16 - (i+1)) 0).map aa=vo at ba
       have Z8:h.length+1≠o:=by omega
       have abj:o≠h.length+1:=by omega
       have Z9:h.length≠o:=by omega
       have p1:∀c,(H'.set o c)[h.length+1]? =some (.cells none vs0):=fun c=> by rw[abM (by omega)];exact cS
       have n0:∀c d,((H'.set o c).set (h.length+1) d)[h.length]? =some (.cells (some 22) [.arr 22 mj]):=fun c d=> by rw[abM (by omega),abM (by omega)];exact cI
       have n1:∀c d,((H'.set o c).set (h.length+1) d)[h.length+1]? =some d:=fun c d=> q9z (p1 c)
       have n2:∀c d,((H'.set o c).set (h.length+1) d)[o]? =some c:=fun c d=> by rw[abM (by omega)];exact q9z oH
       have nf:∀c d,Fw [] h ((H'.set o c).set (h.length+1) d):=fun c d=>(fw.bX (by omega) _).bX (by omega) _
       have jj:IntKind.i64.wrap ((i:Int)+1)=((i+1:Nat):Int):=q18z (by omega)
       have au:(0:Nat)=0:=rfl
       try simp only[e10,e2,e3,e9,c',c16,i0,hq,hq2,hYv,hYl,c4,c4',j0,c4n,Aa,hz,hzt,ba,qa,cI,cS,oH,p1,eC,jj,aca,go_sem,simprocAttr]
       repeat' (
         first | refine q5z ?_ ?_ | refine q3z ?_ ?_ | refine q4z ?_ ?_
         all_goals intro ai
         all_goals first | replace ai:=q2z ai | replace ai:=q1z ai | skip
         all_goals first | subst ai | replace au:=And.intro ai au
         all_goals try simp only[au,e10,e2,e3,e9,c',c16,i0,hq,hq2,hYv,hYl,c4,c4',j0,c4n,Aa,hz,hzt,ba,qa,cI,cS,oH,p1,eC,jj,aca,go_sem,simprocAttr])
       all_goals exact ⟨16 - (i+1),by omega,i+1,rfl,by omega,rfl,n0 _ _,by rw[aac];exact n1 _ _,by rw[Xy];exact n2 _ _,nf _ _⟩
      ·have c':¬(i:Int)< 16:=by omega
       have:i=16:=by omega
       subst this
       rw[ad5,aen,ab8] at oH
       have au:(0:Nat)=0:=rfl
       try simp only[e10,e2,e3,e9,c',go_sem,simprocAttr]
       repeat' (
         first | refine q5z ?_ ?_ | refine q3z ?_ ?_ | refine q4z ?_ ?_
         all_goals intro ai
         all_goals first | replace ai:=q2z ai | replace ai:=q1z ai | skip
         all_goals first | subst ai | replace au:=And.intro ai au
         all_goals try simp only[au,e10,e2,e3,e9,c',go_sem,simprocAttr])
       all_goals exact ⟨cI,oH,fw⟩
     ·clear hT cI cS fw
      rintro e H' ⟨e2,e9,cI,oH,fw⟩
      have dQ:∀c,(H'.set h.length c).take h.length=h:=fun c=>(fw.bX (abJ _) c).take
      have oF:∀c,(H'.set h.length c)[h.length]? =some c:=fun c=> q9z cI
      rw[←sI] at oH
      have df:∀n h,bD.all n h ((cT l).map aa)=some ((cT l).map aa):=fun n h=> qR n h (cT l)
      generalize (cT l).map aa=ws at oH df
      have au:(0:Nat)=0:=rfl
      try simp only[e2,e9,cI,oH,dQ,oF,eC,df,go_sem,simprocAttr]
      repeat' (
        first | refine q5z ?_ ?_ | refine q3z ?_ ?_ | refine q4z ?_ ?_
        all_goals intro ai
        all_goals first | replace ai:=q2z ai | replace ai:=q1z ai | skip
        all_goals first | subst ai | replace au:=And.intro ai au
        all_goals try simp only[au,e2,e9,cI,oH,dQ,oF,eC,df,go_sem,simprocAttr])
def rG (n c:Nat):List V:=List.replicate c (.s (.int .u8 0))++((aE n).drop c).map aa
theorem Iz (n:Nat):rG n 8=[.s (.int .u8 0),.s (.int .u8 0),.s (.int .u8 0),.s (.int .u8 0),.s (.int .u8 0),.s (.int .u8 0),.s (.int .u8 0),.s (.int .u8 0)]:=by simp[rG,aE,adt]
theorem D7 (n:Nat):rG n 0=(aE n).map aa:=by simp[rG]
theorem IA (n c:Nat) (hc:c≤8):(rG n c).length=8:=by simp[rG];omega
theorem D8 (n c:Nat) (hc:c < 8):(rG n (c+1)).set c (aa (UInt8.ofNat (n / 256 ^(7 - c) % 256)))=rG n c:=by
 have:c=0∨c=1∨c=2∨c=3∨c=4∨c=5∨c=6∨c=7:=by omega
 rcases this with rfl | rfl | rfl | rfl | rfl | rfl | rfl | rfl <;> simp[rG,aE,adt,List.replicate]
theorem IB (n c:Nat) (hc:c < 8):∃o,(rG n (c+1))[c]? =some (.s o):=by
 have:c=0∨c=1∨c=2∨c=3∨c=4∨c=5∨c=6∨c=7:=by omega
 rcases this with rfl | rfl | rfl | rfl | rfl | rfl | rfl | rfl <;> exact ⟨_,rfl⟩
theorem Xz (cf:CF) (base:Nat) (h:Hp) (a:Nat) (ha:a < 18446744073709551616):aB cf base h (.bin .num .quo) [.s (.int .u64 (a:Int)),.s (.int .u64 256)]=some (.s (.int .u64 ((a / 256:Nat):Int)),h):=by
 have h2:Int.tdiv (a:Int) 256=((a / 256:Nat):Int):=by rw[ac8 (by omega)];rfl
 have h3:IntKind.u64.wrap ((a / 256:Nat):Int)=((a / 256:Nat):Int):=wrap_u64 (by omega) (by omega)
 simp only[aB,kI,uU,jn,h2,h3,jH,ac3,if_true,show ¬(256:Int)=0 by omega,if_false]
theorem fp (b:Nat) (h:Hp) (n:Nat) (hn:n < 18446744073709551616) (hb:b≤h.length):run fns pr b 30 [.s (.int .u64 n)] h=some (.ref h.length [] none 0 8 8,h++[.cells none ((aE n).map aa)]):=by
 refine Vm.runN (nt:=18) rfl Ur (by simp) ?_
 simp only[B30,Ok,Oj,go_sem,↓reduceIte,Nat.reduceEqDiff,Nat.reduceBEq,Nat.reduceAdd,Nat.reduceSub,Nat.reduceLT,Nat.reduceLeDiff,Int.reduceLT,Int.reduceLE,Int.reduceEq,Int.reduceToNat]
 refine bo (fun m e H=>∃c,m=c∧c≤8∧e 4= .s (.int .i64 ((c:Int) - 1))∧e 3= .ref h.length [] none 0 8 8∧e 0= .s (.int .u64 ((n / 256 ^(8 - c):Nat):Int))∧H=h++[.cells none (rG n c)])
   (fun e H=> e 3= .ref h.length [] none 0 8 8∧H=h++[.cells none (rG n 0)]) 8 _ _ ⟨8,rfl,by omega,rfl,rfl,by simp;rfl,by rw[Iz];rfl⟩ ?_ ?_
 ·rintro m e H ⟨c,rfl,hc,e4,e3,e0,rfl⟩
  cases m with
  | zero=>
    have c':¬(0:Int)≤((0:Nat):Int) - 1:=by omega
    simp only[e4,e3,c',go_sem,↓reduceIte,Nat.reduceEqDiff,Nat.reduceBEq,Nat.reduceAdd,Nat.reduceSub,Nat.reduceLT,Nat.reduceLeDiff,Int.reduceLT,Int.reduceLE,Int.reduceEq,Int.reduceToNat]
  | succ c=>
    have hc1:(((c+1:Nat):Int) - 1)=(c:Int):=by omega
    rw[hc1] at e4
    have hl:=IA n (c+1) hc
    have c':(0:Int)≤(c:Int):=by omega
    have w3:IntKind.i64.wrap ((c:Int) - 1)=(c:Int) - 1:=wrap_i64 (by omega) (by omega)
    have hle:n / 256 ^(8 - (c+1))≤n:=adA _ _
    have hq:=fun cf base h=> Xz cf base h (n / 256 ^(8 - (c+1))) (by omega)
    have hpp:n / 256 ^(8 - (c+1))/ 256=n / 256 ^(8 - c):=by rw[adJ,←Nat.pow_succ,show (8 - (c+1)).succ=8 - c by omega]
    rw[hpp] at hq
    have he:8 - (c+1)=7 - c:=by omega
    rw[he] at hq e0
    obtain ⟨o,ho⟩:=IB n c (by omega)
    have ba:=D8 n c (by omega)
    have cc:((c:Int)<((8:Nat):Int)∧c < 8)=True:=by simp;omega
    have so:(aa (UInt8.ofNat (n / 256 ^(7 - c) % 256))).aw=true:=rfl
    have to:(aa (UInt8.ofNat (n / 256 ^(7 - c) % 256))).ty=none:=rfl
    have gr:(aa (UInt8.ofNat (n / 256 ^(7 - c) % 256))).ground=true:=rfl
    simp only[e4,e3,e0,c',w3,sD,hl,cc,ho,so,to,gr,ba,hq,go_sem,↓reduceIte,Nat.reduceEqDiff,Nat.reduceBEq,Nat.reduceAdd,Nat.reduceSub,Nat.reduceLT,Nat.reduceLeDiff,Int.reduceLT,Int.reduceLE,Int.reduceEq,Int.reduceToNat]
    exact ⟨c,by omega,c,rfl,by omega,by simp_all⟩
 ·rintro e H ⟨e3,rfl⟩
  rw[D7]
  simp only[e3,go_sem,↓reduceIte,Nat.reduceEqDiff,Nat.reduceBEq,Nat.reduceAdd,Nat.reduceSub,Nat.reduceLT,Nat.reduceLeDiff,Int.reduceLT,Int.reduceLE,Int.reduceEq,Int.reduceToNat]
theorem nz (b:Nat) (h:Hp) (x:V) (k l:Bs) (hk:k.length=16) (hr:Rd h x l) (hl:l.length≤900000):run fns pr b 70 [.arr 22 (k.map aa),x] h=some (.arr 22 ((cW k l).map aa),h):=by
 refine Vm.aQ (nt:=11) rfl VK (by simp) ?_
 have dq:(k.map aa).length=16:=by simp[hk]
 generalize hGd:h++[aT.cells (some 22) [V.arr 22 (k.map aa)],aT.cells (some 22) [aK 22]]=G
 have hG:G.length=h.length+2:=by rw[←hGd];simp
 have fG:Fw [] h G:=by rw[←hGd];exact Fw.app [] h _
 have g0:G[h.length]? =some (.cells (some 22) [.arr 22 (k.map aa)]):=by rw[←hGd];exact (sG h _ _).1
 have g1:G[h.length+1]? =some (.cells (some 22) [aK 22]):=by rw[←hGd];exact (sG h _ _).2
 have hsk:source G (.ref h.length [0] none 0 16 1)=some (none,k.map aa):=by
   have:elems G (.ref h.length [0] none 0 16 1)=some (none,k.map aa):=by
     simp only[bQ,go_sem,simprocAttr,abO,abI,Vm.aJ,Vm.bx,Vm.aZ,Vm.aU,Vm.bc,Vm.aX,abJ,ab2,g0,cQ,acg,abG (ac4 dq)]
   exact this
 obtain ⟨v,H,je,hN⟩:=(iS.nil G).app hsk (by simp;omega)
 obtain ⟨w,H2,yq,hN2⟩:=hN.app ((hr.fw (fG.trans hN.fw)).source) (by simp;omega)
 rw[acj] at hN2
 have Ih:=fun b=> Md b H2 w (k++l) (BR.rd hN2.br) (by simp;omega)
 have g2:H2[h.length+1]? =some (.cells (some 22) [aK 22]):=hN2.fw.cH _ _ g1 (by simp)
 have wQ:((cW k l).map aa).length=16:=by simp[jl]
 have tk:∀b,(H2.set (h.length+1) b).take h.length=h:=fun b=> by
   rw[ad4 (by omega)];exact (fG.trans hN2.fw).take
 simp only[B70,po,dq,hGd,g0,je,yq,Ih,g2,tk,q9z g2,show cT (k++l)=cW k l from rfl,wQ,oI,go_sem,simprocAttr]
theorem Mf (b:Nat) (h:Hp) (k l:Bs) (hk:k.length=16) (hl:l.length=16):run fns pr b 113 [.arr 22 (k.map aa),.arr 22 (l.map aa)] h=some (.arr 22 ((cW k l).map aa),h):=by
 refine Vm.aQ (nt:=8) rfl PC (by simp) ?_
 have mi:(l.map aa).length=16:=by simp[hl]
 have wQ:((cW k l).map aa).length=16:=by simp[cW,bO]
 have xX:=fun b=> nz b (h++[aT.cells (some 22) [V.arr 22 (k.map aa)],aT.cells (some 22) [V.arr 22 (l.map aa)],aT.cells (some 22) [aK 22]]) (.ref (h.length+1) [0] none 0 16 1) k l hk (Rd.mk' (by
   simp only[bQ,go_sem,simprocAttr,abO,abI,Vm.aJ,Vm.bx,Vm.aZ,Vm.aU,Vm.bc,Vm.aX,abJ,ab2,cQ,acg,abG (ac4 mi)]) (by simp[eM,hl])) (by omega)
 simp only[PA,mi,xX,wQ,oI,go_sem,simprocAttr]
def jI (q:Request):Bs:=[bt q.op]++(q.iD++(q.iY++([bt q.bA]++(q.owner++(q.kz++([bt q.aO]++(aE q.num.toNat++([bt q.aL.length]++q.aL))))))))
theorem mN (b:Nat) (h:Hp) (f:Bool) (q:Request) (hw:q.wf) (hs:q.aL.length≤100000):run fns pr b 10 [q.aH f] h=some (.aq false none ((jI q).map aa),h):=by
 refine Vm.aQ (nt:=46) rfl TM (by simp) ?_
 obtain ⟨w1,w2,w3,w4,w5,w6,w7,w8,w9⟩:=hw
 obtain ⟨op,id,iY,se,li,ow,ke,cl,nu⟩:=q
 simp only at w1 w2 w3 w4 w5 w6 w7 w8 w9 hs
 obtain ⟨g,rfl⟩:∃g:Nat,nu=(g:Int):=⟨nu.toNat,by omega⟩
 have l1:(id.map aa).length=4:=by simp[w2]
 have l2:(iY.map aa).length=16:=by simp[w3]
 have l3:(ow.map aa).length=16:=by simp[w6]
 have l4:(ke.map aa).length=16:=by simp[w7]
 have qh:Request.aH f ⟨op,id,iY,se,li,ow,ke,cl,g⟩= .st 33 [.s (.int .i64 op),.arr 28 (id.map aa),.arr 22 (iY.map aa),.aq f none (se.map aa),.s (.int .i64 li),.arr 22 (ow.map aa),.arr 22 (ke.map aa),.s (.int .i64 cl),.s (.int .u64 (g:Int))]:=rfl
 rw[qh]
 generalize hGd:h++[aT.cells (some 33) [V.st 33 [.s (.int .i64 op),.arr 28 (id.map aa),.arr 22 (iY.map aa),.aq f none (se.map aa),.s (.int .i64 li),.arr 22 (ow.map aa),.arr 22 (ke.map aa),.s (.int .i64 cl),.s (.int .u64 (g:Int))]]]=G
 have g0:G[h.length]? =some (aT.cells (some 33) [V.st 33 [.s (.int .i64 op),.arr 28 (id.map aa),.arr 22 (iY.map aa),.aq f none (se.map aa),.s (.int .i64 li),.arr 22 (ow.map aa),.arr 22 (ke.map aa),.s (.int .i64 cl),.s (.int .u64 (g:Int))]]):=by rw[←hGd];simp
 have fG:Fw [] h G:=by rw[←hGd];exact Fw.app [] h _
 have mG:=fG.len
 have N0:iS G (G++[.cells none [aa (bt op)]]) (.ref G.length [] none 0 1 1) [bt op]:=⟨G.length,.inr ⟨rfl,aS _ _⟩,abJ _,Fw.app _ _ _⟩
 have gb:=N0.fw.cH _ _ g0 (by simp)
 have s1:source (G++[.cells none [aa (bt op)]]) (.ref h.length [0,1] none 0 4 1)=some (none,id.map aa):=(Rd.mk' (by simp only[bQ,go_sem,↓reduceIte,Nat.reduceEqDiff,Nat.reduceBEq,Nat.reduceAdd,Nat.reduceSub,Nat.reduceLT,Nat.reduceLeDiff,Int.reduceLT,Int.reduceLE,Int.reduceEq,Int.reduceToNat,abO,abI,Vm.aJ,Vm.bx,Vm.aZ,Vm.aU,Vm.bc,Vm.aX,abJ,ab2,gb,cQ,acg,abG (ac4 l1)]) (by simp[eM,w2])).source
 obtain ⟨v1,H1,a1,N1⟩:=N0.app s1 (by simp;omega)
 have g1:=N1.fw.cH _ _ g0 (by simp)
 have s2:source H1 (.ref h.length [0,2] none 0 16 1)=some (none,iY.map aa):=(Rd.mk' (by simp only[bQ,go_sem,↓reduceIte,Nat.reduceEqDiff,Nat.reduceBEq,Nat.reduceAdd,Nat.reduceSub,Nat.reduceLT,Nat.reduceLeDiff,Int.reduceLT,Int.reduceLE,Int.reduceEq,Int.reduceToNat,abO,abI,Vm.aJ,Vm.bx,Vm.aZ,Vm.aU,Vm.bc,Vm.aX,abJ,ab2,g1,cQ,acg,abG (ac4 l2)]) (by simp[eM,w3])).source
 obtain ⟨v2,H2,a2,N2⟩:=N1.app s2 (by simp;omega)
 have g2:=N2.fw.cH _ _ g0 (by simp)
 obtain ⟨v3,H3,a3,N3⟩:=N2.app (y:= .aq true none [aa (bt li)]) (m:=[bt li]) rfl (by simp;omega)
 have g3:=N3.fw.cH _ _ g0 (by simp)
 have s4:source H3 (.ref h.length [0,5] none 0 16 1)=some (none,ow.map aa):=(Rd.mk' (by simp only[bQ,go_sem,↓reduceIte,Nat.reduceEqDiff,Nat.reduceBEq,Nat.reduceAdd,Nat.reduceSub,Nat.reduceLT,Nat.reduceLeDiff,Int.reduceLT,Int.reduceLE,Int.reduceEq,Int.reduceToNat,abO,abI,Vm.aJ,Vm.bx,Vm.aZ,Vm.aU,Vm.bc,Vm.aX,abJ,ab2,g3,cQ,acg,abG (ac4 l3)]) (by simp[eM,w6])).source
 obtain ⟨v4,H4,a4,N4⟩:=N3.app s4 (by simp;omega)
 have g4:=N4.fw.cH _ _ g0 (by simp)
 have s5:source H4 (.ref h.length [0,6] none 0 16 1)=some (none,ke.map aa):=(Rd.mk' (by simp only[bQ,go_sem,↓reduceIte,Nat.reduceEqDiff,Nat.reduceBEq,Nat.reduceAdd,Nat.reduceSub,Nat.reduceLT,Nat.reduceLeDiff,Int.reduceLT,Int.reduceLE,Int.reduceEq,Int.reduceToNat,abO,abI,Vm.aJ,Vm.bx,Vm.aZ,Vm.aU,Vm.bc,Vm.aX,abJ,ab2,g4,cQ,acg,abG (ac4 l4)]) (by simp[eM,w7])).source
 obtain ⟨v5,H5,a5,N5⟩:=N4.app s5 (by simp;omega)
 have g5:=N5.fw.cH _ _ g0 (by simp)
 obtain ⟨v6,H6,a6,N6⟩:=N5.app (y:= .aq true none [aa (bt cl)]) (m:=[bt cl]) rfl (by simp;omega)
 have g6:=N6.fw.cH _ _ g0 (by simp)
 have n1:=fp h.length H6 g (by omega) (by have:=N6.fw.len;omega)
 have gn:=q10z g6 [.cells none ((aE g).map aa)]
 obtain ⟨v7,H7,a7,N7⟩:=(N6.mono (Fw.app [] H6 [.cells none ((aE g).map aa)])).app (y:= .ref H6.length [] none 0 8 8) (m:=aE g) (BR.src (ch (aS _ _) (aF _))) (by simp;omega)
 have g7:=N7.fw.cH _ _ g0 (by simp)
 obtain ⟨v8,H8,a8,N8⟩:=(N7.mono (Fw.app [] H7 [.cells none ([bt se.length].map aa)])).app (y:= .ref H7.length [] none 0 1 1) (m:=[bt se.length]) (BR.src (ch (aS _ _) rfl)) (by simp;omega)
 have gl:=q10z g7 [.cells none ([bt se.length].map aa)]
 have g8:=N8.fw.cH _ _ g0 (by simp)
 obtain ⟨v9,H9,a9,N9⟩:=N8.app (ck H8 f se).src (by simp;omega)
 have g9:=N9.fw.cH _ _ g0 (by simp)
 have fz:=N9.o4 (n:=h.length) mG
 have tk:=(fG.trans N9.fw).take
 have hrb:jI ⟨op,id,iY,se,li,ow,ke,cl,g⟩=[bt op]++id++iY++[bt li]++ow++ke++[bt cl]++aE g++[bt se.length]++se:=by simp[jI]
 rw[hrb]
 simp only[abR,ab1] at a8 gl
 simp only[B10,l1,l2,l3,l4,mH,hGd,g0,gb,a1,g1,a2,g2,a3,g3,a4,g4,a5,g5,a6,g6,n1,gn,a7,g7,gl,a8,g8,a9,g9,fz,tk,or_true,go_sem,↓reduceIte,Nat.reduceEqDiff,Nat.reduceBEq,Nat.reduceAdd,Nat.reduceSub,Nat.reduceLT,Nat.reduceLeDiff,Int.reduceLT,Int.reduceLE,Int.reduceEq,Int.reduceToNat]
def uL (f:Bool) (l:Bs) (bad:Bool):aT:= .cells (some 132) [.st 132 [.aq f none (l.map aa),.s (.bool bad)]]
def bP (n:Nat) (s:Bs×Bool):Bs×(Bs×Bool):=if s.2=false∧n≤s.1.length then (s.1.take n,(s.1.drop n,false)) else (List.replicate n 0,([],true))
theorem dH (n:Nat) (s:Bs×Bool):(bP n s).1.length=n:=by
 unfold bP
 split
 ·simp;omega
 ·simp
theorem pq (id n:Nat) (f bad:Bool) (l:Bs) (hn:n≤100000):
 ∃f',∀(b:Nat) (h:Hp) (hg:h[id]? =some (uL f l bad)),run fns pr b 86 [.ptr id [0] 1,.s (.int .i64 n)] h=some (.aq false none ((bP n (l,bad)).1.map aa),h.set id (uL f' (bP n (l,bad)).2.1 (bP n (l,bad)).2.2)):=by
 unfold bP
 by_cases c:bad=false∧n≤l.length
 ·rw[if_pos c]
  obtain ⟨rfl,c⟩:=c
  refine ⟨f,fun b h hg=> ?_⟩
  obtain ⟨v,H,ha,hN⟩:=(iS.nil (h.set id (uL f (l.drop n) false))).app (y:= .aq (f && n==l.length) none ((l.take n).map aa)) (m:=l.take n) rfl (by rw[aci,abY];omega)
  have hz:=hN.o4 (n:=h.length) (by simp)
  have tk:H.take h.length=h.set id (uL f (l.drop n) false):=by have:=hN.fw.take;simpa using this
  refine Vm.aQ (nt:=45) rfl Oz (by simp) ?_
  have c':¬(n:Int)>((l.length:Nat):Int):=by omega
  have c'':¬((l.length:Nat):Int)<(n:Int):=by omega
  simp only[uL] at ha hz tk
  simp only[B86,hg,uL,c',c'',Iu _ _ _ _ _ _ _ c,Iv _ _ _ _ _ _ _ c,tk,AP,ha,hz,go_sem,↓reduceIte,Nat.reduceEqDiff,Nat.reduceBEq,Nat.reduceAdd,Nat.reduceSub,Nat.reduceLT,Nat.reduceLeDiff,Int.reduceLT,Int.reduceLE,Int.reduceEq,Int.reduceToNat]
 ·rw[if_neg c]
  refine ⟨true,fun b h hg=> ?_⟩
  refine Vm.aQ (nt:=45) rfl Oz (by simp) ?_
  have m1:(0≤(n:Int)∧(n:Int)≤16777216)=True:=by simp;omega
  have hz:=vw n
  have mi:(List.replicate n (0:UInt8)).length=n:=by simp
  have tk2:∀X Y,(h.set id X++Y).take h.length=h.set id X:=fun X Y=> by rw[ab7 (by simp),abG (by simp)]
  have k9:=dU h.length (List.replicate n (0:UInt8))
  rw[mi] at k9
  cases bad with
  | true=>
    by_cases zX:n=0
    ·subst zX
     have m2:(((0:Nat):Int)=0)=True:=by simp
     have m3:(0≤((0:Nat):Int)∧((0:Nat):Int)≤16777216)=True:=by simp
     have tk3:∀X,(h.set id X).take h.length=h.set id X:=fun X=> abG (by simp)
     simp only[B86,hg,uL,tk2,tk3,wU,Ma,q9z hg,acM,m1,m2,m3,mi,k9,go_sem,↓reduceIte,Nat.reduceEqDiff,Nat.reduceBEq,Nat.reduceAdd,Nat.reduceSub,Nat.reduceLT,Nat.reduceLeDiff,Int.reduceLT,Int.reduceLE,Int.reduceEq,Int.reduceToNat]
     rfl
    have m2:((n:Int)=0)=False:=by simp;omega
    simp only[B86,hg,uL,tk2,wU,Ma,q9z hg,acM,m1,m2,hz,mi,k9,go_sem,↓reduceIte,Nat.reduceEqDiff,Nat.reduceBEq,Nat.reduceAdd,Nat.reduceSub,Nat.reduceLT,Nat.reduceLeDiff,Int.reduceLT,Int.reduceLE,Int.reduceEq,Int.reduceToNat]
  | false=>
    have c':((l.length:Nat):Int)<(n:Int):=by
      have:¬n≤l.length:=fun h0=> c ⟨rfl,h0⟩
      omega
    have zX:¬n=0:=by
      rintro rfl
      exact c ⟨rfl,by omega⟩
    have m2:((n:Int)=0)=False:=by simp;omega
    simp only[B86,hg,uL,c',tk2,wU,Ma,q9z hg,acM,m1,m2,hz,mi,k9,go_sem,↓reduceIte,Nat.reduceEqDiff,Nat.reduceBEq,Nat.reduceAdd,Nat.reduceSub,Nat.reduceLT,Nat.reduceLeDiff,Int.reduceLT,Int.reduceLE,Int.reduceEq,Int.reduceToNat]
theorem rR (id:Nat) (f bad:Bool) (l:Bs):
 ∃f',∀(b:Nat) (h:Hp) (hg:h[id]? =some (uL f l bad)),run fns pr b 83 [.ptr id [0] 1] h=some (.s (.int .i64 (bf (bP 1 (l,bad)).1:Nat)),h.set id (uL f' (bP 1 (l,bad)).2.1 (bP 1 (l,bad)).2.2)):=by
 obtain ⟨f',AQ⟩:=pq id 1 f bad l (by omega)
 refine ⟨f',fun b h hg=> ?_⟩
 have ht:=AQ h.length h hg
 refine Vm.aQ (nt:=8) rfl Wa (by simp) ?_
 have hl:=dH 1 (l,bad)
 generalize (bP 1 (l,bad)).1=m at ht hl
 match m,hl with
 | [x],_=>
   have tk:∀b',(h.set id b').take h.length=h.set id b':=fun b'=> abG (by simp)
   have hw:IntKind.i64.wrap (x.toNat:Int)=(x.toNat:Int):=wrap_i64 (by omega) (by have:=x.toNat_lt;omega)
   simp only[B83,show (V.s (.int .i64 1))=V.s (.int .i64 ((1:Nat):Int)) from rfl,ht,abR,ab1,aa,hw,tk,bf,go_sem,simprocAttr]
theorem XA {a:Nat} (h:a * 256 < 18446744073709551616):IntKind.u64.wrap ((a:Int)* 256)=((a * 256:Nat):Int):=by
 rw[wrap_u64 (by omega) (by omega)];omega
theorem CG (id:Nat) (f bad:Bool) (l:Bs):
 ∃f',∀(b:Nat) (h:Hp) (hg:h[id]? =some (uL f l bad)),run fns pr b 85 [.ptr id [0] 1] h=some (.s (.int .u64 (er (bP 8 (l,bad)).1:Nat)),h.set id (uL f' (bP 8 (l,bad)).2.1 (bP 8 (l,bad)).2.2)):=by
 obtain ⟨f',AQ⟩:=pq id 8 f bad l (by omega)
 refine ⟨f',fun b h hg=> ?_⟩
 have ht:=AQ h.length h hg
 refine Vm.aQ (nt:=21) rfl We (by simp) ?_
 have hl:=dH 8 (l,bad)
 generalize (bP 8 (l,bad)).1=m at ht hl ⊢
 generalize hR:h.set id (uL f' (bP 8 (l,bad)).2.1 (bP 8 (l,bad)).2.2)=R at ht ⊢
 have tk:R.take h.length=R:=abG (by rw[←hR];simp)
 have tk2:m.take 8=m:=abG (by omega)
 have jF:∀H,SR H (.aq false none (m.map aa)) none (m.map aa):=fun H=> .inl ⟨false,rfl⟩
 generalize hx:V.aq false none (m.map aa)=x at ht jF
 simp only[B85,Oy,Ox,show (V.s (.int .i64 8))=V.s (.int .i64 ((8:Nat):Int)) from rfl,ht,go_sem,simprocAttr]
 refine bo (fun q e H=>∃j,q=8 - j∧j≤8∧e 5= .s (.int .i64 (j:Nat))∧e 3=x∧e 4= .s (.int .u64 (er (m.take j):Nat))∧H=R)
   (fun e H=> e 4= .s (.int .u64 (er m:Nat))∧H=R) 8 _ _ ?_ ?_ ?_
 ·exact ⟨0,rfl,by omega,rfl,rfl,rfl,rfl⟩
 ·rintro q e H ⟨j,rfl,hj,e5,e3,e4,rfl⟩
  by_cases cd:j < 8
  ·have cj:(j:Int)< 8:=by omega
   have cj':(j:Int)<((8:Nat):Int):=by omega
   have i1:=fun cf base=>(jF H).cZ (cf:=cf) (base:=base) (k:= .i64) (i:=j) (by simp;omega)
   have i2:=fun cf base=>(jF H).iy (cf:=cf) (base:=base) (i:=j) (v:=aa (m.getD j 0)) (by rw[abT,List.getD,abE (by omega)];rfl) rfl
   have w3:IntKind.i64.wrap ((j:Int)+1)=((j+1:Nat):Int):=q17z (by omega)
   have hb:=qf m j (by omega)
   have hy:=(m.getD j 0).toNat_lt
   have hp:256 ^ j * 256≤18446744073709551616:=by rw[←Nat.pow_succ];exact adZ (by omega) (show j+1≤8 by omega)
   have s1:=XA (a:=er (m.take j)) (by omega)
   have hw:=jm (n:=(m.getD j 0).toNat) (by omega)
   have s2:IntKind.u64.wrap (((er (m.take j)* 256:Nat):Int)+((m.getD j 0).toNat:Int))=((er (m.take j)* 256+(m.getD j 0).toNat:Nat):Int):=by rw[wrap_u64 (by omega) (by omega)];omega
   simp only[e5,e3,e4,cj,cj',i1,i2,aa,w3,s1,hw,s2,go_sem,simprocAttr]
   refine ⟨8 - (j+1),by omega,j+1,rfl,by omega,rfl,?_⟩
   rw[mK (by omega)]
  ·have cj:¬(j:Int)< 8:=by omega
   have cj':¬(j:Int)<((8:Nat):Int):=by omega
   obtain rfl:j=8:=by omega
   simp only[e5,e3,e4,cj,cj',tk2,go_sem,simprocAttr]
 ·rintro e H ⟨e4,rfl⟩
  simp only[e4,tk,go_sem,simprocAttr]
theorem D9 {base id t n:Nat} {h:Hp} {es ys:List V} (hg:h[id]? =some (.cells (some t) [.arr t es])) (he:es.length=n) (hy:ys.length=n) (hm:ys.all (bT base id)=true):qS base none h (.ref id [0] none 0 n 1) none ys=some (.s (.int .i64 (n:Nat)),h.set id (.cells (some t) [.arr t ys])):=by
 have h1:ys.take n=ys:=abG (by omega)
 have h2:es.drop n=[]:=aeS (by omega)
 simp only[qS,node,rowOf,hg,nodeAt]
 simp[hm,he,hy,h1,h2,nodeAt,Vm.store,rowOf,hg,putAt]
theorem Rc (id:Nat) (f bad:Bool) (l:Bs):
 ∃f',∀(b:Nat) (h:Hp) (hg:h[id]? =some (uL f l bad)),run fns pr b 84 [.ptr id [0] 1] h=some (.arr 28 ((bP 4 (l,bad)).1.map aa),h.set id (uL f' (bP 4 (l,bad)).2.1 (bP 4 (l,bad)).2.2)):=by
 obtain ⟨f',AQ⟩:=pq id 4 f bad l (by omega)
 refine ⟨f',fun b h hg=> ?_⟩
 have cF:=q6z hg
 have hl:=dH 4 (l,bad)
 have c1:∀A B,run fns pr h.length 86 [.ptr id [0] 1,.s (.int .i64 ((4:Nat):Int))] (h++[A,B])=some (.aq false none ((bP 4 (l,bad)).1.map aa),h.set id (uL f' (bP 4 (l,bad)).2.1 (bP 4 (l,bad)).2.2)++[A,B]):=fun A B=> by
   rw[AQ h.length (h++[A,B]) (q10z hg _),adY _ _ cF]
 generalize (bP 4 (l,bad)).1=m at c1 hl ⊢
 generalize hR:h.set id (uL f' (bP 4 (l,bad)).2.1 (bP 4 (l,bad)).2.2)=R at c1 ⊢
 have hRl:R.length=h.length:=by rw[←hR];simp
 have tk:∀X,(R++X).take h.length=R:=fun X=> by rw[←hRl];simp
 have q0:∀A X,(R++A::X)[h.length]? =some A:=fun A X=> by rw[←hRl];simp
 have q1:∀A B,(R++[A,B])[h.length+1]? =some B:=fun A B=> by rw[←hRl,abU (by omega)];simp
 have s0:∀A X A',(R++A::X).set h.length A'=R++A'::X:=fun A X A'=> by rw[←hRl,acn _ _ (by omega)];simp
 have s1:∀A B B',(R++[A,B]).set (h.length+1) B'=R++[A,B']:=fun A B B'=> by rw[←hRl,acn _ _ (by omega)];simp
 have hc:∀cf A,aB cf h.length (R++[A,.cells (some 28) [z4 28]]) (.cpy none) [.ref (h.length+1) [0] none 0 4 1,.aq false none (m.map aa)]=some (.s (.int .i64 (4:Nat)),R++[A,.cells (some 28) [.arr 28 (m.map aa)]]):=fun cf A=> by
   rw[XB,show source (R++[A,.cells (some 28) [z4 28]]) (.aq false none (m.map aa))=some (none,m.map aa) from rfl,ac3,D9 (q1 A _) (by rfl) (by simp[hl]) (by rw[abZ];intro z hz;obtain ⟨w,_,rfl⟩:=acF.1 hz;simp[bT]),s1]
 refine Vm.aQ (nt:=9) rfl Wc (by simp) ?_
 simp only[B84,show (V.s (.int .i64 4))=V.s (.int .i64 ((4:Nat):Int)) from rfl,c1,tk,q0,q1,s0,s1,hc,show od.length=4 from rfl,go_sem,simprocAttr]
def wZ (s:Bs×Bool):av×(Bs×Bool):=
 match bP 1 s with
 | (wh,s1)=> match bP 4 s1 with
   | (i,s2)=> match bP 8 s2 with
     | (g,s3)=> match bP 1 s3 with
       | (le,s4)=> match bP 1 s4 with
         | (cc,s5)=> match bP 8 s5 with
           | (nu,s6)=> match bP 1 s6 with
             | (n,s7)=> match bP (bf n) s7 with
               | (t,s8)=>(⟨(bf wh:Nat),i,(er g:Nat),(bf le:Nat),t,(bf cc:Nat),(er nu:Nat)⟩,s8)
def sR (l:Bs):av×Bool:=if ((wZ (l,false)).2.2 || decide (0 <(wZ (l,false)).2.1.length) || !bN (wZ (l,false)).1)=true then (kH,false) else ((wZ (l,false)).1,true)
theorem yw {F:Nat} {h:Hp} {f bad:Bool} {l:Bs} {v:V} {R':aT} {us:List V} (c:∀(b:Nat) (h0:Hp) (_:h0[h.length+1]? =some (uL f l bad)),run fns pr b F (.ptr (h.length+1) [0] 1::us) h0=some (v,h0.set (h.length+1) R')) (A:aT) (X:Hp):
 run fns pr h.length F (.ptr (h.length+1) [0] 1::us) (h++A::uL f l bad::X)=some (v,h++A::R'::X):=by
 rw[c h.length (h++A::uL f l bad::X) (by rw[abU (by omega)];simp)]
 rw[acn _ _ (by omega)]
 simp
theorem AU (b:Nat) (h:Hp) (f:Bool) (l:Bs):
 run fns pr b 41 [.aq f none (l.map aa)] h=some (.bM [(sR l).1.enc,.s (.bool (sR l).2)],h):=by
 refine Vm.aQ (nt:=53) rfl UN (by simp) ?_
 unfold sR
 have dV:wZ (l,false)=wZ (l,false):=rfl
 conv at dV=> rhs;unfold wZ
 obtain ⟨f1,c1⟩:=rR (h.length+1) f false l
 replace c1:=yw c1
 have n1:=dH 1 (l,false)
 generalize bP 1 (l,false)=s1 at dV c1 n1
 obtain ⟨wh,l1,b1⟩:=s1
 simp only at c1 n1 dV
 obtain ⟨f2,c2⟩:=Rc (h.length+1) f1 b1 l1
 replace c2:=yw c2
 have n2:=dH 4 (l1,b1)
 generalize bP 4 (l1,b1)=s2 at dV c2 n2
 obtain ⟨i,l2,b2⟩:=s2
 simp only at c2 n2 dV
 obtain ⟨f3,c3⟩:=CG (h.length+1) f2 b2 l2
 replace c3:=yw c3
 have n3:=dH 8 (l2,b2)
 generalize bP 8 (l2,b2)=s3 at dV c3 n3
 obtain ⟨g,l3,b3⟩:=s3
 simp only at c3 n3 dV
 obtain ⟨f4,c4⟩:=rR (h.length+1) f3 b3 l3
 replace c4:=yw c4
 have n4:=dH 1 (l3,b3)
 generalize bP 1 (l3,b3)=s4 at dV c4 n4
 obtain ⟨le,l4,b4⟩:=s4
 simp only at c4 n4 dV
 obtain ⟨f5,c5⟩:=rR (h.length+1) f4 b4 l4
 replace c5:=yw c5
 have n5:=dH 1 (l4,b4)
 generalize bP 1 (l4,b4)=s5 at dV c5 n5
 obtain ⟨cc,l5,b5⟩:=s5
 simp only at c5 n5 dV
 obtain ⟨f6,c6⟩:=CG (h.length+1) f5 b5 l5
 replace c6:=yw c6
 have n6:=dH 8 (l5,b5)
 generalize bP 8 (l5,b5)=s6 at dV c6 n6
 obtain ⟨nu,l6,b6⟩:=s6
 simp only at c6 n6 dV
 obtain ⟨f7,c7⟩:=rR (h.length+1) f6 b6 l6
 replace c7:=yw c7
 have n7:=dH 1 (l6,b6)
 generalize bP 1 (l6,b6)=s7 at dV c7 n7
 obtain ⟨n,l7,b7⟩:=s7
 simp only at c7 n7 dV
 obtain ⟨f8,c8⟩:=pq (h.length+1) (bf n) f7 b7 l7 (by have:=yt n;omega)
 replace c8:=yw c8
 have n8:=dH (bf n) (l7,b7)
 generalize bP (bf n) (l7,b7)=s8 at dV c8 n8
 obtain ⟨t,l8,b8⟩:=s8
 simp only at c8 n8 dV
 rw[dV]
 simp only
 have tk:∀X,(h++X).take h.length=h:=fun X=> by simp
 simp only[uL] at c1 c2 c3 c4 c5 c6 c7 c8
 obtain ⟨q,hq⟩:∃q:av,(⟨(bf wh:Nat),i,(er g:Nat),(bf le:Nat),t,(bf cc:Nat),(er nu:Nat)⟩:av)=q:=⟨_,rfl⟩
 have qh:q.enc= .st 45 [.s (.int .i64 (bf wh:Nat)),.arr 28 (i.map aa),.s (.int .u64 (er g:Nat)),.s (.int .i64 (bf le:Nat)),.aq false none (t.map aa),.s (.int .i64 (bf cc:Nat)),.s (.int .u64 (er nu:Nat))]:=by rw[←hq];rfl
 have hrq:∀H,run fns pr h.length 87 [.st 45 [.s (.int .i64 (bf wh:Nat)),.arr 28 (i.map aa),.s (.int .u64 (er g:Nat)),.s (.int .i64 (bf le:Nat)),.aq false none (t.map aa),.s (.int .i64 (bf cc:Nat)),.s (.int .u64 (er nu:Nat))]] H=some (.s (.bool (bN q)),H):=fun H=> by rw[←qh];exact rF h.length H false q
 have yu:kH.enc= .st 45 [ki,z4 28,ku,ki,kx,ki,ku]:=rfl
 have kF:∀cf base H f,aB cf base H .len [.aq f none (l8.map aa)]=some (.s (.int .i64 (l8.length:Nat)),H):=fun cf base H f=> by rw[qe];simp
 rw[hq]
 cases b8 with
 | true=>
   rw[adw,adw,if_pos rfl]
   simp only[B41,c1,c2,c3,c4,c5,c6,c7,c8,kF,tk,yu,go_sem,simprocAttr]
 | false=>
   rw[ae5]
   by_cases hl:0 < l8.length
   ·have dp:(0:Int)<(l8.length:Nat):=by omega
    rw[decide_eq_true hl,adw,if_pos rfl]
    simp only[B41,c1,c2,c3,c4,c5,c6,c7,c8,kF,dp,tk,yu,go_sem,simprocAttr]
   ·have dp:¬(0:Int)<(l8.length:Nat):=by omega
    rw[decide_eq_false hl,ae5]
    cases hr:bN q with
    | false=>
      rw[hr] at hrq
      rw[if_pos (show (!false)=true from rfl)]
      simp only[B41,c1,c2,c3,c4,c5,c6,c7,c8,kF,dp,tk,hrq,yu,go_sem,simprocAttr]
    | true=>
      rw[hr] at hrq
      rw[if_neg (show ¬(!true)=true by simp)]
      simp only[B41,c1,c2,c3,c4,c5,c6,c7,c8,kF,dp,tk,hrq,qh,go_sem,simprocAttr]
theorem AV (b:Nat) (h:Hp) (k:Bs) (n c:Nat) (hk:k.length=16) (hn:n < 18446744073709551616) (hc:c≤8192) (hb:b≤h.length):
 ∃v H,run fns pr b 112 [.arr 22 (k.map aa),.s (.int .u64 n),.s (.int .i64 c)] h=some (v,H)∧BR H v (ik k n c)∧Fw [] h H:=by
 refine Vm.eU (nt:=32) rfl Pz (by simp) ?_
 have dq:(k.map aa).length=16:=by simp[hk]
 have m1:max (min (c:Int) 8192) 0=(c:Int):=by omega
 have au:(0:Nat)=0:=rfl
 try simp only[Ly,An,Am,dq,m1,go_sem,simprocAttr]
 repeat' (
   first | refine q5z ?_ ?_ | refine q3z ?_ ?_ | refine q4z ?_ ?_
   all_goals intro ai
   all_goals first | replace ai:=q2z ai | replace ai:=q1z ai | skip
   all_goals first | subst ai | replace au:=And.intro ai au
   all_goals try simp only[au,Ly,An,Am,dq,m1,go_sem,simprocAttr])
 generalize hGd:h++[aT.cells (some 22) [V.arr 22 (k.map aa)]]=G
 have hG:G.length=h.length+1:=by rw[←hGd];simp
 have gG:G[h.length]? =some (.cells (some 22) [V.arr 22 (k.map aa)]):=by rw[←hGd];simp
 have fG:Fw [] h G:=by rw[←hGd];exact Fw.app [] h _
 refine bo (fun m e H=>∃i v,m=(c+15)/ 16 - i∧i≤(c+15)/ 16∧e 8= .s (.int .u64 (i:Nat))∧e 7=v∧e 3= .ptr h.length [0] 1∧e 2= .s (.int .i64 c)∧e 1= .s (.int .u64 n)∧iS G H v (lY k n i))
   (fun e H=>∃v,e 7=v∧e 2= .s (.int .i64 c)∧iS G H v (lY k n ((c+15)/ 16))) ((c+15)/ 16) _ _
   ⟨0,_,rfl,by omega,rfl,rfl,rfl,rfl,rfl,iS.nil G⟩ ?_ ?_
 ·rintro m e H ⟨i,v,rfl,hi,e8,e7,e3,e2,e1,hN⟩
  have hlen:=fun cf base=> hN.br.bG (cf:=cf) (base:=base) (h:=H)
  rw[fJ] at hlen
  by_cases cd:i <(c+15)/ 16
  ·have c':((16 * i:Nat):Int)<(c:Int):=by omega
   have hbH:b≤H.length:=by have:=hN.fw.len;have:=fG.len;omega
   have w3:IntKind.u64.wrap ((i:Int)+1)=((i+1:Nat):Int):=by rw[wrap_u64 (by omega) (by omega)];omega
   have gH:H[h.length]? =some (.cells (some 22) [V.arr 22 (k.map aa)]):=hN.fw.cH _ _ gG (by simp)
   have gH2:∀X,(H++X)[h.length]? =some (.cells (some 22) [V.arr 22 (k.map aa)]):=fun X=> q10z gH X
   have n1:=fp b H n hn hbH
   have n2:=fp b (H++[.cells none ((aE n).map aa)]) i (by omega) (by simp;omega)
   have ha:∀cf base,aB cf base (H++[.cells none ((aE n).map aa),.cells none ((aE i).map aa)]) (.app none 1) [.ref H.length [] none 0 8 8,.ref (H.length+1) [] none 0 8 8]=some (.ref H.length [] none 0 16 16,H++[.cells none ((aE n++aE i).map aa),.cells none ((aE i).map aa)]):=fun cf base=> by
     have:=wP (cf:=cf) (base:=base) (H:=H++[.cells none ((aE n).map aa),.cells none ((aE i).map aa)]) (id:=H.length) (l:=aE n) (m:=aE i) (y:= .ref (H.length+1) [] none 0 8 8) (sG H _ _).1 (BR.src (ch (sG H _ _).2 (aF i))) (by rw[aF,aF];omega)
     rw[aF,aF] at this
     rw[this]
     congr 2
     rw[mA];rfl
   have xX:=fun b=> nz b (H++[aT.cells none ((aE n++aE i).map aa),.cells none ((aE i).map aa)]) (.ref H.length [] none 0 16 16) k (aE n++aE i) hk (BR.rd (ch (by simp) (by simp))) (by simp)
   obtain ⟨v2,H2,je,hN2⟩:=(hN.mono (Fw.app [] H [.cells none ((aE n++aE i).map aa),.cells none ((aE i).map aa)])).app (y:= .aq true none ((cW k (aE n++aE i)).map aa)) (m:=cW k (aE n++aE i)) rfl (by rw[fJ];simp[cW,bO];omega)
   rw[←sJ] at hN2
   simp only[e8,e7,e3,e2,e1,hlen,c',gH,gH2,n1,n2,ha,xX,lf,fo,gS,eA,je,w3,go_sem,simprocAttr]
   exact ⟨(c+15)/ 16 - (i+1),by omega,i+1,v2,rfl,by omega,by simp_all⟩
  ·have c':¬((16 * i:Nat):Int)<(c:Int):=by omega
   have rC:i=(c+15)/ 16:=by omega
   subst rC
   simp only[e8,e7,e3,e2,e1,hlen,c',go_sem,simprocAttr]
   exact ⟨v,rfl,hN⟩
 ·rintro e H ⟨v,e7,e2,hN⟩
  have Gt:c≤(lY k n ((c+15)/ 16)).length:=by rw[fJ];omega
  obtain ⟨y,hy,pc⟩:=hN.br.hi (k:= .i64) (r:=c) Gt
  simp only[e7,e2,hy,go_sem,simprocAttr]
  exact ⟨pc,fG.trans hN.fw⟩
theorem IC (a b:Bs):iA a b=iA b a:=by
 unfold iA
 rw[List.zipWith_comm]
 congr 1
 funext x y
 exact UInt8.xor_comm y x
theorem yx (b:Nat) (h:Hp) (x:V) (k l:Bs) (n:Nat) (hk:k.length=16) (hn:n < 18446744073709551616) (hx:BR h x l) (hl:l.length≤8192) (hb:b≤h.length):
 ∃v H,run fns pr b 68 [.arr 22 (k.map aa),.s (.int .u64 n),x] h=some (v,H)∧iS h H v (lg k n l):=by
 refine Vm.eU (nt:=37) rfl VG (by simp) ?_
 have dq:(k.map aa).length=16:=by simp[hk]
 have kF:=fun cf base H=> hx.bG (cf:=cf) (base:=base) (h:=H)
 generalize hGd:h++[aT.cells (some 22) [V.arr 22 (k.map aa)]]=G
 have fG:Fw [] h G:=by rw[←hGd];exact Fw.app [] h _
 obtain ⟨z,H,ba,hz,f⟩:=AV b G k n l.length hk hn hl (by have:=fG.len;omega)
 have g0:G[h.length]? =some (.cells (some 22) [.arr 22 (k.map aa)]):=by rw[←hGd];simp
 obtain ⟨v,H2,je,hN⟩:=(iS.nil H).app (BR.src (hx.mono (fG.trans f))) (m:=l) (by simp;omega)
 rw[acj] at hN
 obtain ⟨kid,xr,AJ,f2⟩:=hN
 simp only[B68,Oq,Oo,po,dq,kF,hGd,g0,ba,je,go_sem,simprocAttr]
 have hs:(ik k n l.length).length=l.length:=iz _ _ _
 unfold lg
 rw[IC]
 have sz:=(BR.sr hz).fw f2
 have fH:Fw [] h H2:=fG.trans (f.trans f2)
 have hkh:h.length≤kid:=acm (fG.trans f).len AJ
 generalize ik k n l.length=s at hs sz hz
 by_cases DX:l=[]
 ·subst DX
  have s0:s=[]:=adn.1 hs
  subst s0
  have Aa:∀cf base H,aB cf base H .len [v]=some (.s (.int .i64 ((0:Nat):Int)),H):=fun cf base H=> XR.BR (l:=[]) xr |>.bG
  refine bo (fun m e H'=> m=0∧e 9= .s (.int .i64 0)∧e 8=v∧H'=H2) (fun e H'=> e 8=v∧H'=H2) 0 _ _ ⟨rfl,rfl,rfl,rfl⟩ ?_ ?_
  ·rintro m e H' ⟨rfl,e9,e8,rfl⟩
   have c':¬(0:Int)<((0:Nat):Int):=by omega
   simp only[e9,e8,c',Aa,go_sem,simprocAttr]
   try simp_all
  ·rintro e H' ⟨e8,rfl⟩
   simp only[e8,go_sem,simprocAttr]
   exact ⟨kid,xr,hkh,fH⟩
 ·rcases xr with ⟨rfl,h0⟩ | ⟨rfl,hg⟩
  ·have:l.length=0:=by simpa using h0
   exact absurd (adn.1 (by omega)) DX
  have yp:(l.map aa).length=l.length:=by simp
  rw[yp]
  refine bo (fun m e H'=>∃j,m=l.length - j∧j≤l.length∧e 9= .s (.int .i64 (j:Nat))∧e 8= .ref kid [] none 0 l.length l.length∧e 7=z∧H'=H2.set kid (.cells none ((iZ l s j).map aa)))
    (fun e H'=> e 8= .ref kid [] none 0 l.length l.length∧H'=H2.set kid (.cells none ((iA l s).map aa))) l.length _ _
    ⟨0,rfl,by omega,rfl,rfl,rfl,by rw[vj,kE hg]⟩ ?_ ?_
  ·rintro m e H' ⟨j,rfl,hj,e9,e8,e7,rfl⟩
   by_cases cd:j < l.length
   ·have c':(j:Int)<((l.length:Nat):Int):=by omega
    have w3:IntKind.i64.wrap ((j:Int)+1)=((j+1:Nat):Int):=q17z (by omega)
    have aad:H.length≤kid:=AJ
    have jF:=(BR.sr hz).fw (f2.bX aad (.cells none ((iZ l s j).map aa)))
    have zY:l.length=s.length:=hs.symm
    have Cr:s[j]? =some (s.getD j 0):=by rw[List.getD,abE (by omega)];rfl
    have i1:=fun cf base=> jF.cZ (cf:=cf) (base:=base) (k:= .i64) (i:=j) (by simp;omega)
    have i2:=fun cf base=> jF.iy (cf:=cf) (base:=base) (i:=j) (v:= .s (.int .u8 ((s.getD j 0).toNat:Int))) (by rw[abT,Cr];rfl) rfl
    have Cs:=ym zY j (by omega)
    rw[hs] at Cs
    have uK:((iZ l s j).map aa)[j]? =some (.s (.int .u8 ((l.getD j 0).toNat:Int))):=by rw[abT,yo zY (by omega)];rfl
    have jG:=q9z (b:= .cells none ((iZ l s j).map aa)) hg
    have hxo:=Vm.u8_xor (l.getD j 0) (s.getD j 0)
    have qa:((iZ l s j).map aa).set j (.s (.int .u8 ((l.getD j 0 ^^^ s.getD j 0).toNat:Int)))=(iZ l s (j+1)).map aa:=by rw[←vk zY (by omega),aeX];rfl
    have cc:(0≤(j:Int)∧j < l.length)=True:=by simp;omega
    have gr:(V.s (.int .u8 ((l.getD j 0 ^^^ s.getD j 0).toNat:Int))).ground=true:=rfl
    simp only[e9,e8,e7,c',w3,i1,i2,jG,Cs,cc,uK,hxo,qa,gr,go_sem,simprocAttr]
    refine ⟨l.length - (j+1),by omega,j+1,rfl,by omega,rfl,rfl⟩
   ·have c':¬(j:Int)<((l.length:Nat):Int):=by omega
    have hj2:j=l.length:=by omega
    subst hj2
    rw[show iZ l s l.length=iA l s by have:=yn (s:=l) (l:=s) hs.symm;rwa [hs] at this]
    simp only[e9,e8,e7,c',go_sem,simprocAttr]
  ·rintro e H' ⟨e8,rfl⟩
   simp only[e8,go_sem,simprocAttr]
   refine ⟨kid,.inr ⟨by simp[iA,hs],q9z hg⟩,hkh,fH.bX hkh _⟩
theorem yy (b:Nat) (h:Hp) (x y:V) (k ad l:Bs) (n:Nat) (hk:k.length=16) (hn:n < 18446744073709551616) (hx:Rd h x ad) (hy:Rd h y l) (had:ad.length≤100000) (hl:l.length≤100000) (hb:b≤h.length):
 ∃v H,run fns pr b 69 [.arr 22 (k.map aa),.s (.int .u64 n),x,y] h=some (v,H)∧Rd H v (iT k n ad l)∧Fw [] h H:=by
 refine Vm.eU (nt:=30) rfl VI (by simp) ?_
 have dq:(k.map aa).length=16:=by simp[hk]
 have kF:=fun cf base H=> hx.bG (cf:=cf) (base:=base) (h:=H)
 generalize hGd:h++[aT.cells (some 22) [V.arr 22 (k.map aa)]]=G
 have hG:G.length=h.length+1:=by rw[←hGd];simp
 have g0:G[h.length]? =some (.cells (some 22) [.arr 22 (k.map aa)]):=by rw[←hGd];simp
 have fG:Fw [] h G:=by rw[←hGd];exact Fw.app [] h _
 have htw:=fun b H=> Mf b H k k hk hk
 have n1:=fp b G n hn (by omega)
 have n2:=fp b (G++[.cells none ((aE n).map aa)]) ad.length (by omega) (by simp;omega)
 have wl:IntKind.u64.wrap ((ad.length:Nat):Int)=((ad.length:Nat):Int):=wrap_u64 (by omega) (by omega)
 have N0:iS G (G++[.cells none ((aE n).map aa),.cells none ((aE ad.length).map aa)]) (.ref G.length [] none 0 8 8) (aE n):=⟨G.length,.inr ⟨by simp,by simp⟩,abJ _,Fw.app [] G _⟩
 obtain ⟨v1,H1,a1,N1⟩:=N0.app (y:= .ref (G.length+1) [] none 0 8 8) (m:=aE ad.length) (BR.src (ch (sG G _ _).2 (aF _))) (by simp)
 obtain ⟨v2,H2,a2,N2⟩:=N1.app (hx.fw (fG.trans N1.fw)).source (by simp;omega)
 obtain ⟨v3,H3,a3,N3⟩:=N2.app (hy.fw (fG.trans N2.fw)).source (by simp;omega)
 have e3:aE n++aE ad.length++ad++l=aE n++(aE ad.length++(ad++l)):=by simp only[abO]
 rw[e3] at N3
 have xX:=fun b=> nz b H3 v3 (cW k k) _ (jl k k) (BR.rd N3.br) (by simp;omega)
 have gH1:H1[h.length]? =some (.cells (some 22) [.arr 22 (k.map aa)]):=N1.fw.cH _ _ g0 (by simp)
 have AK:(List.map aa (n9 k n ad l)).length=16:=by simp[n9,jl]
 have hnd:node (H3++[.cells (some 22) [.arr 22 ((n9 k n ad l).map aa)]]) H3.length [0] 1=some (.arr 22 ((n9 k n ad l).map aa)):=by simp only[go_sem,simprocAttr,abO,abI,Vm.aJ,Vm.bx,Vm.aZ,Vm.aU,Vm.bc,Vm.aX,abJ,ab2]
 have zY:=fun cf base=> Ip (cf:=cf) (base:=base) (g:=none) (k:= .i64) (r:=8) hnd (by rw[AK];omega)
 have oF:source (H3++[.cells (some 22) [.arr 22 ((n9 k n ad l).map aa)]]) (.ref H3.length [0] none 0 8 1)=some (none,(iT k n ad l).map aa):=by
   have:elems (H3++[.cells (some 22) [.arr 22 ((n9 k n ad l).map aa)]]) (.ref H3.length [0] none 0 8 1)=some (none,(iT k n ad l).map aa):=by
     rw[bQ,Vm.oJ,hnd]
     simp only[qc,cQ,acg,iT,adT]
   exact this
 obtain ⟨v4,H4,a4,N4⟩:=(iS.nil _).app oF (by rw[gU];simp)
 rw[acj] at N4
 simp only[B69,dq,hGd,g0,htw,n1,kF,wl,n2,a1,gH1,a2,a3,xX,show cW (cW k k) (aE n++(aE ad.length++(ad++l)))=n9 k n ad l from rfl,AK,sL,po,show (V.s (.int .i64 8))=V.s (.int .i64 ((8:Nat):Int)) from rfl,zY,a4,go_sem,simprocAttr]
 exact ⟨BR.rd N4.br,fG.trans (N3.fw.trans ((Fw.app [] H3 _).trans N4.fw))⟩
theorem ID (b:Nat) (h:Hp) (x y:V) (k ad l:Bs) (n:Nat) (hk:k.length=16) (hn:n < 18446744073709551616) (hx:Rd h x ad) (hy:BR h y l) (had:ad.length≤100000):
 run fns pr b 31 [.arr 22 (k.map aa),.s (.int .u64 n),x,y] h=some (.aq false none ((ei k n ad l).map aa),h):=by
 refine Vm.aQ (nt:=27) rfl Ut (by simp) ?_
 have dq:(k.map aa).length=16:=by simp[hk]
 have lx:=fun cf base H=> hx.bG (cf:=cf) (base:=base) (h:=H)
 have ly:=fun cf base H=> hy.bG (cf:=cf) (base:=base) (h:=H)
 have fz:bD h.length h (.aq false none [])=some (.aq false none []):=rfl
 unfold ei
 by_cases c1:l.length≤8184
 ·have c1':¬(8184:Int)<((l.length:Nat):Int):=by omega
  by_cases c2:ad.length≤8192
  ·have c2':¬(8192:Int)<((ad.length:Nat):Int):=by omega
   rw[if_pos ⟨c1,c2⟩]
   generalize hGd:h++[aT.cells (some 22) [V.arr 22 (k.map aa)]]=G
   have hG:G.length=h.length+1:=by rw[←hGd];simp
   have g0:G[h.length]? =some (.cells (some 22) [.arr 22 (k.map aa)]):=by rw[←hGd];simp
   have fG:Fw [] h G:=by rw[←hGd];exact Fw.app [] h _
   obtain ⟨v,H,hh,hN⟩:=yx h.length G y k l n hk hn (hy.mono fG) (by omega) (by omega)
   have gH:H[h.length]? =some (.cells (some 22) [.arr 22 (k.map aa)]):=hN.fw.cH _ _ g0 (by simp)
   obtain ⟨w,H2,hm,hR,f2⟩:=yy h.length H x y k ad l n hk hn (hx.fw (fG.trans hN.fw)) (BR.rd (hy.mono (fG.trans hN.fw))) (by omega) (by omega) (by have:=hN.fw.len;omega)
   obtain ⟨u,H3,je,hN3⟩:=(hN.mono f2).app hR.source (by rw[fY,gU];omega)
   have df:=hN3.o4 (n:=h.length) (by omega)
   have dQ:=(fG.trans hN3.fw).take
   simp only[B31,dq,lx,ly,c1',c2',hGd,g0,hh,gH,hm,je,df,dQ,go_sem,simprocAttr]
  ·have c2':(8192:Int)<((ad.length:Nat):Int):=by omega
   rw[if_neg (by omega)]
   simp only[B31,dq,lx,ly,c1',c2',abL,go_sem,simprocAttr]
 ·have c1':(8184:Int)<((l.length:Nat):Int):=by omega
  rw[if_neg (by omega)]
  simp only[B31,dq,lx,ly,c1',abL,go_sem,simprocAttr]
theorem IE (b:Nat) (h:Hp) (x y:V) (k ad l:Bs) (n:Nat) (hk:k.length=16) (hn:n < 18446744073709551616) (hx:Rd h x ad) (hy:BR h y l):
 run fns pr b 82 [.arr 22 (k.map aa),.s (.int .u64 n),x,y] h=some (fK (mB k n ad l),h):=by
 refine Vm.aQ (nt:=46) rfl V8 (by simp) ?_
 have dq:(k.map aa).length=16:=by simp[hk]
 have lx:=fun cf base H=> hx.bG (cf:=cf) (base:=base) (h:=H)
 have ly:=fun cf base H=> hy.bG (cf:=cf) (base:=base) (h:=H)
 unfold mB
 by_cases c0:l.length < 8
 ·have c0':((l.length:Nat):Int)< 8:=by omega
  rw[if_neg (by omega)]
  simp only[B82,dq,lx,ly,c0',fK,abL,go_sem,simprocAttr]
 have c0':¬((l.length:Nat):Int)< 8:=by omega
 by_cases c1:8192 < l.length
 ·have c1':(8192:Int)<((l.length:Nat):Int):=by omega
  rw[if_neg (by omega)]
  simp only[B82,dq,lx,ly,c0',c1',fK,abL,go_sem,simprocAttr]
 have c1':¬(8192:Int)<((l.length:Nat):Int):=by omega
 by_cases c2:8192 < ad.length
 ·have c2':(8192:Int)<((ad.length:Nat):Int):=by omega
  rw[if_neg (by omega)]
  simp only[B82,dq,lx,ly,c0',c1',c2',fK,abL,go_sem,simprocAttr]
 have c2':¬(8192:Int)<((ad.length:Nat):Int):=by omega
 rw[if_pos ⟨by omega,by omega,by omega⟩]
 have w8:IntKind.i64.wrap (((l.length:Nat):Int) - 8)=((l.length - 8:Nat):Int):=by rw[wrap_i64 (by omega) (by omega)];omega
 generalize hGd:h++[aT.cells (some 22) [V.arr 22 (k.map aa)]]=G
 have hG:G.length=h.length+1:=by rw[←hGd];simp
 have g0:G[h.length]? =some (.cells (some 22) [.arr 22 (k.map aa)]):=by rw[←hGd];simp
 have fG:Fw [] h G:=by rw[←hGd];exact Fw.app [] h _
 obtain ⟨z,hz,hbz⟩:=(hy.mono fG).hi (k:= .i64) (r:=l.length - 8) (by omega)
 obtain ⟨v,H,hh,hN⟩:=yx h.length G z k (l.take (l.length - 8)) n hk hn hbz (by rw[abY];omega) (by omega)
 have gH:H[h.length]? =some (.cells (some 22) [.arr 22 (k.map aa)]):=hN.fw.cH _ _ g0 (by simp)
 obtain ⟨w,H2,hm,hR,f2⟩:=yy h.length H x v k ad (lg k n (l.take (l.length - 8))) n hk hn (hx.fw (fG.trans hN.fw)) (BR.rd hN.br) (by omega) (by rw[fY,abY];omega) (by have:=hN.fw.len;omega)
 have sy:=(BR.sr hy).fw (fG.trans (hN.fw.trans f2))
 have hu:=fun cf base=> sy.L3 (cf:=cf) (base:=base) (k:= .i64) (l:=l.length - 8) (by simp)
 have hu0:=fun cf base=>((BR.sr hy).fw (fG.trans hN.fw)).L3 (cf:=cf) (base:=base) (k:= .i64) (l:=l.length - 8) (by simp)
 have su:=sy.loR (l:=l.length - 8) (by simp)
 rw[←List.map_drop,abX] at su
 have ew:=hR.1 H2 (Fw.refl _ _)
 have eu:elems H2 (nQ y none (l.length - 8) l.length)=some (none,(l.drop (l.length - 8)).map aa):=su.elems
 have df:=(hN.mono f2).o4 (n:=h.length) (by omega)
 have dQ:=(fG.trans (hN.fw.trans f2)).take
 have eu0:elems H (nQ y none (l.length - 8) l.length)=some (none,(l.drop (l.length - 8)).map aa):=by
   have s0:=((BR.sr hy).fw (fG.trans hN.fw)).loR (l:=l.length - 8) (by simp)
   rw[←List.map_drop,abX] at s0
   exact s0.elems
 by_cases c3:iT k n ad (lg k n (l.take (l.length - 8)))=l.drop (l.length - 8)
 ·simp only[B82,dq,lx,ly,c0',c1',c2',w8,hGd,g0,hz,hh,gH,hm,hu,hu0,AL,ew,eu,eu0,lp,Iq,c3,df,dQ,fK,go_sem,simprocAttr]
 ·simp only[B82,dq,lx,ly,c0',c1',c2',w8,hGd,g0,hz,hh,gH,hm,hu,hu0,AL,ew,eu,eu0,lp,Iq,c3,df,dQ,fK,go_sem,simprocAttr]
def dW (k:Bs) (n:Nat):Bs:=cW k (aE n)
theorem lC (k:Bs) (n:Nat):(dW k n).length=16:=jl _ _
theorem yz (b:Nat) (h:Hp) (k:Bs) (n:Nat) (hk:k.length=16) (hn:n < 18446744073709551616):run fns pr b 118 [.arr 22 (k.map aa),.s (.int .u64 n)] h=some (.arr 22 ((dW k n).map aa),h):=by
 refine Vm.aQ (nt:=9) rfl PO (by simp) ?_
 have dq:(k.map aa).length=16:=by simp[hk]
 obtain ⟨G,hGd⟩:∃G,h++[aT.cells (some 22) [V.arr 22 (k.map aa)],aT.cells (some 22) [aK 22]]=G:=⟨_,rfl⟩
 have hG:G.length=h.length+2:=by rw[←hGd];simp
 have g0:G[h.length]? =some (.cells (some 22) [.arr 22 (k.map aa)]):=by rw[←hGd];simp
 have g1:G[h.length+1]? =some (.cells (some 22) [aK 22]):=by rw[←hGd];simp
 have n1:=de h.length G n hn (by omega)
 have k1:=mz h.length (G++[.cells none ((aE n).map aa)]) (.ref G.length [] none 0 8 8) k (aE n) hk (BR.rd (ch (by simp) (aF _))) (by rw[aF];omega)
 have g2:=q10z g0 [.cells none ((aE n).map aa)]
 have g3:=q10z g1 [.cells none ((aE n).map aa)]
 have dQ:∀x,((G++[aT.cells none ((aE n).map aa)]).set (h.length+1) x).take h.length=h:=fun x=> by rw[ad4 (by omega),←hGd];simp
 have hkz:∀t,(aK t).ty=some t:=fun _=> rfl
 simp only[PM,dq,hGd,g0,n1,g2,g3,k1,dQ,or_true,hkz,show h.length+1 < G.length+1 from by omega,go_sem,simprocAttr]
 rfl
theorem vy (b:Nat) (h:Hp) (k:Bs) (n:Nat) (hk:k.length=16) (hn:n < 18446744073709551616):run fns pr b 32 [.arr 22 (k.map aa),.s (.int .u64 n)] h=some (.arr 22 ((dW k n).map aa),h):=by
 refine Vm.aQ (nt:=9) rfl Uv (by simp) ?_
 have dq:(k.map aa).length=16:=by simp[hk]
 obtain ⟨G,hGd⟩:∃G,h++[aT.cells (some 22) [V.arr 22 (k.map aa)],aT.cells (some 22) [aK 22]]=G:=⟨_,rfl⟩
 have hG:G.length=h.length+2:=by rw[←hGd];simp
 have g0:G[h.length]? =some (.cells (some 22) [.arr 22 (k.map aa)]):=by rw[←hGd];simp
 have g1:G[h.length+1]? =some (.cells (some 22) [aK 22]):=by rw[←hGd];simp
 have n1:=fp h.length G n hn (by omega)
 have k1:=nz h.length (G++[.cells none ((aE n).map aa)]) (.ref G.length [] none 0 8 8) k (aE n) hk (BR.rd (ch (by simp) (aF _))) (by rw[aF];omega)
 have g2:=q10z g0 [.cells none ((aE n).map aa)]
 have g3:=q10z g1 [.cells none ((aE n).map aa)]
 have dQ:∀x,((G++[aT.cells none ((aE n).map aa)]).set (h.length+1) x).take h.length=h:=fun x=> by rw[ad4 (by omega),←hGd];simp
 have hkz:∀t,(aK t).ty=some t:=fun _=> rfl
 simp only[B32,dq,hGd,g0,n1,g2,g3,k1,dQ,or_true,hkz,show h.length+1 < G.length+1 from by omega,go_sem,simprocAttr]
 rfl
theorem sS (k:Bs) (n:Nat) (ad l:Bs):(ei k n ad l).length≤8192:=by
 unfold ei
 split
 ·rw[abI,fY,gU];omega
 ·simp
def cX (k:Bs) (n:Nat) (t:UInt8) (l:Bs):Bs:=aE n++ei (dW k n) n [t] l
def mO (k:Bs) (n:Nat) (t:UInt8) (l:Bs):V:=if l.length≤8176 then .bM [.aq false none ((cX k n t l).map aa),.s (.int .i64 0)] else .bM [.aq false none [],.s (.int .i64 3)]
theorem Ea (b:Nat) (h:Hp) (y:V) (k l:Bs) (n:Nat) (t:UInt8) (hk:k.length=16) (hn:n < 18446744073709551616) (hy:BR h y l):run fns pr b 80 [.arr 22 (k.map aa),.s (.int .u64 n),aa t,y] h=some (mO k n t l,h):=by
 refine Vm.aQ (nt:=24) rfl V4 (by simp) ?_
 have dq:(k.map aa).length=16:=by simp[hk]
 have ly:=fun cf base H=> hy.bG (cf:=cf) (base:=base) (h:=H)
 unfold mO
 by_cases c1:l.length≤8176
 ·have c1':¬(8176:Int)<((l.length:Nat):Int):=by omega
  rw[if_pos c1]
  obtain ⟨G,hGd⟩:∃G,h++[aT.cells (some 22) [V.arr 22 (k.map aa)]]=G:=⟨_,rfl⟩
  have hG:G.length=h.length+1:=by rw[←hGd];simp
  have g0:G[h.length]? =some (.cells (some 22) [.arr 22 (k.map aa)]):=by rw[←hGd];simp
  have fG:Fw [] h G:=by rw[←hGd];exact Fw.app [] h _
  have n1:=de h.length G n hn (by omega)
  have g2:=q10z g0 [.cells none ((aE n).map aa)]
  have fN:Fw [] h (G++[.cells none ((aE n).map aa)]):=fG.trans (Fw.app [] G _)
  have in1:=fun H=> yz h.length H k n hk hn
  have sl:=wR h.length (G++[.cells none ((aE n).map aa)]) (.aq true none [aa t]) y (dW k n) [t] l n (lC k n) hn (sP true _ [t]) (hy.mono fN) (by simp)
  have N1:iS h (G++[.cells none ((aE n).map aa)]) (.ref G.length [] none 0 8 8) (aE n):=⟨G.length,.inr ⟨by simp[aF],aS _ _⟩,by omega,fN⟩
  obtain ⟨u,H3,je,N3⟩:=N1.app (y:= .aq false none ((ei (dW k n) n [t] l).map aa)) (m:=ei (dW k n) n [t] l) rfl (by rw[aF];have:=sS (dW k n) n [t] l;omega)
  have df:=N3.o4 (n:=h.length) (by omega)
  have dQ:=N3.fw.take
  simp only[B80,dq,ly,c1',hGd,g0,n1,g2,in1,sl,je,df,dQ,cX,or_true,go_sem,simprocAttr]
 ·have c1':(8176:Int)<((l.length:Nat):Int):=by omega
  rw[if_neg c1]
  simp only[B80,dq,ly,c1',abL,go_sem,simprocAttr]
theorem qj (b:Nat) (h:Hp) (y:V) (k l:Bs) (n:Nat) (t:UInt8) (hk:k.length=16) (hn:n < 18446744073709551616) (hy:BR h y l):run fns pr b 9 [.arr 22 (k.map aa),.s (.int .u64 n),aa t,y] h=some (mO k n t l,h):=by
 refine Vm.aQ (nt:=24) rfl Z4 (by simp) ?_
 have dq:(k.map aa).length=16:=by simp[hk]
 have ly:=fun cf base H=> hy.bG (cf:=cf) (base:=base) (h:=H)
 unfold mO
 by_cases c1:l.length≤8176
 ·have c1':¬(8176:Int)<((l.length:Nat):Int):=by omega
  rw[if_pos c1]
  obtain ⟨G,hGd⟩:∃G,h++[aT.cells (some 22) [V.arr 22 (k.map aa)]]=G:=⟨_,rfl⟩
  have hG:G.length=h.length+1:=by rw[←hGd];simp
  have g0:G[h.length]? =some (.cells (some 22) [.arr 22 (k.map aa)]):=by rw[←hGd];simp
  have fG:Fw [] h G:=by rw[←hGd];exact Fw.app [] h _
  have n1:=fp h.length G n hn (by omega)
  have g2:=q10z g0 [.cells none ((aE n).map aa)]
  have fN:Fw [] h (G++[.cells none ((aE n).map aa)]):=fG.trans (Fw.app [] G _)
  have in1:=fun H=> vy h.length H k n hk hn
  have sl:=ID h.length (G++[.cells none ((aE n).map aa)]) (.aq true none [aa t]) y (dW k n) [t] l n (lC k n) hn (sP true _ [t]) (hy.mono fN) (by simp)
  have N1:iS h (G++[.cells none ((aE n).map aa)]) (.ref G.length [] none 0 8 8) (aE n):=⟨G.length,.inr ⟨by simp[aF],aS _ _⟩,by omega,fN⟩
  obtain ⟨u,H3,je,N3⟩:=N1.app (y:= .aq false none ((ei (dW k n) n [t] l).map aa)) (m:=ei (dW k n) n [t] l) rfl (by rw[aF];have:=sS (dW k n) n [t] l;omega)
  have df:=N3.o4 (n:=h.length) (by omega)
  have dQ:=N3.fw.take
  simp only[B9,dq,ly,c1',hGd,g0,n1,g2,in1,sl,je,df,dQ,cX,or_true,go_sem,simprocAttr]
 ·have c1':(8176:Int)<((l.length:Nat):Int):=by omega
  rw[if_neg c1]
  simp only[B9,dq,ly,c1',abL,go_sem,simprocAttr]
theorem Mg (b:Nat) (h:Hp) (y:V) (l:Bs) (hy:BR h y l) (hl:8≤l.length):run fns pr b 116 [y] h=some (.s (.int .u64 (er (l.take 8):Nat)),h):=by
 refine Vm.aQ (nt:=20) rfl PJ (by simp) ?_
 obtain ⟨z,hz,hzb⟩:=hy.hi (k:= .i64) (r:=8) (by omega)
 have nR:=hzb.sr
 have hlz:=fun cf base H=> hzb.bG (cf:=cf) (base:=base) (h:=H)
 rw[show (l.take 8).length=8 by simp;omega] at hlz
 simp only[aex] at hz hlz
 simp only[PH,Hs,Hr,hz,hlz,go_sem,simprocAttr]
 refine bo (fun q e H=>∃j,q=8 - j∧j≤8∧e 9= .s (.int .i64 (j:Nat))∧e 8= .s (.int .i64 8)∧e 7=z∧e 3= .s (.int .u64 (er (l.take j):Nat))∧H=h)
   (fun e H=> e 3= .s (.int .u64 (er (l.take 8):Nat))∧H=h) 8 _ _ ⟨0,rfl,by omega,rfl,rfl,rfl,rfl,rfl⟩ ?_ ?_
 ·rintro q e H ⟨j,rfl,hj,e9,e8,e7,e3,rfl⟩
  by_cases cd:j < 8
  ·have cj:(j:Int)< 8:=by omega
   have i1:=fun cf base=> nR.cZ (cf:=cf) (base:=base) (k:= .i64) (i:=j) (by simp;omega)
   have i2:=fun cf base=> nR.iy (cf:=cf) (base:=base) (i:=j) (v:=aa (l.getD j 0)) (by rw[abT,acP,if_pos cd,List.getD,abE (by omega)];rfl) rfl
   have w3:IntKind.i64.wrap ((j:Int)+1)=((j+1:Nat):Int):=q17z (by omega)
   have hb:=qf l j (by omega)
   have hy:=(l.getD j 0).toNat_lt
   have hp:256 ^ j * 256≤18446744073709551616:=by rw[←Nat.pow_succ];exact adZ (by omega) (show j+1≤8 by omega)
   have hw:=jm (n:=(l.getD j 0).toNat) (by omega)
   have s1:=OF (a:=er (l.take j)) (by omega)
   have s2:=Xu (a:=er (l.take j)) (y:=(l.getD j 0).toNat) (by omega) hy
   have h1:∀cf base h,aB cf base h (.bin .num .shl) [.s (.int .u64 (er (l.take j):Nat)),.s (.int .u64 8)]=some (.s (.int .u64 ((er (l.take j)* 256:Nat):Int)),h):=fun cf base h=> by rw[←s1];exact yl cf base h .u64 .u64 _ 8 (by omega)
   simp only[e9,e8,e7,e3,cj,i1,i2,aa,w3,h1,hw,s2,go_sem,simprocAttr]
   exact ⟨8 - (j+1),by omega,j+1,rfl,by omega,rfl,by rw[mK (by omega)]⟩
  ·have cj:¬(j:Int)< 8:=by omega
   obtain rfl:j=8:=by omega
   simp only[e9,e8,e7,e3,cj,go_sem,simprocAttr]
 ·rintro e H ⟨e3,rfl⟩
  simp only[e3,go_sem,simprocAttr]
theorem IF (b:Nat) (h:Hp) (y:V) (l:Bs) (hy:BR h y l) (hl:8≤l.length):run fns pr b 81 [y] h=some (.s (.int .u64 (er (l.take 8):Nat)),h):=by
 refine Vm.aQ (nt:=18) rfl V6 (by simp) ?_
 simp only[B81,Ow,Ov,go_sem,simprocAttr]
 refine bo (fun q e H=>∃j,q=8 - j∧j≤8∧e 4= .s (.int .i64 (j:Nat))∧e 0=y∧e 3= .s (.int .u64 (er (l.take j):Nat))∧H=h)
   (fun e H=> e 3= .s (.int .u64 (er (l.take 8):Nat))∧H=h) 8 _ _ ⟨0,rfl,by omega,rfl,rfl,rfl,rfl⟩ ?_ ?_
 ·rintro q e H ⟨j,rfl,hj,e4,e0,e3,rfl⟩
  by_cases cd:j < 8
  ·have cj:(j:Int)< 8:=by omega
   have i1:=fun cf base=> hy.sr.cZ (cf:=cf) (base:=base) (k:= .i64) (i:=j) (by simp;omega)
   have i2:=fun cf base=> hy.sr.iy (cf:=cf) (base:=base) (i:=j) (v:=aa (l.getD j 0)) (by rw[abT,List.getD,abE (by omega)];rfl) rfl
   have w3:IntKind.i64.wrap ((j:Int)+1)=((j+1:Nat):Int):=q17z (by omega)
   have hb:=qf l j (by omega)
   have hyl:=(l.getD j 0).toNat_lt
   have hp:256 ^ j * 256≤18446744073709551616:=by rw[←Nat.pow_succ];exact adZ (by omega) (show j+1≤8 by omega)
   have hw:=jm (n:=(l.getD j 0).toNat) (by omega)
   have w1:IntKind.u64.wrap ((er (l.take j):Int)* 256)=((er (l.take j)* 256:Nat):Int):=by rw[wrap_u64 (by omega) (by omega)];omega
   have w2:IntKind.u64.wrap (((er (l.take j)* 256:Nat):Int)+((l.getD j 0).toNat:Int))=((er (l.take j)* 256+(l.getD j 0).toNat:Nat):Int):=by rw[wrap_u64 (by omega) (by omega)];omega
   simp only[e4,e0,e3,cj,i1,i2,aa,w3,w1,hw,w2,go_sem,simprocAttr]
   exact ⟨8 - (j+1),by omega,j+1,rfl,by omega,rfl,by rw[mK (by omega)]⟩
  ·have cj:¬(j:Int)< 8:=by omega
   obtain rfl:j=8:=by omega
   simp only[e4,e0,e3,cj,go_sem,simprocAttr]
 ·rintro e H ⟨e3,rfl⟩
  simp only[e3,go_sem,simprocAttr]
def jo (k:Bs) (t:UInt8) (l:Bs):Option Bs:=mB (dW k (er (l.take 8))) (er (l.take 8)) [t] (l.drop 8)
def kJ (k:Bs) (t:UInt8) (l:Bs):V:=if l.length < 16 then .bM [.aq false none [],.s (.int .i64 12)] else if 8192 < l.length then .bM [.aq false none [],.s (.int .i64 3)] else fK (jo k t l)
theorem CH {m:Bs} (hm:8≤m.length):er (m.take 8)< 18446744073709551616:=qf m 8 hm
theorem IG (b:Nat) (h:Hp) (y:V) (k l:Bs) (t:UInt8) (hk:k.length=16) (hy:BR h y l):run fns pr b 72 [.arr 22 (k.map aa),aa t,y] h=some (kJ k t l,h):=by
 refine Vm.aQ (nt:=30) rfl VO (by simp) ?_
 have dq:(k.map aa).length=16:=by simp[hk]
 have ly:=fun cf base H=> hy.bG (cf:=cf) (base:=base) (h:=H)
 unfold kJ
 by_cases c0:l.length < 16
 ·have c0':((l.length:Nat):Int)< 16:=by omega
  rw[if_pos c0]
  simp only[B72,dq,ly,c0',abL,go_sem,simprocAttr]
 have c0':¬((l.length:Nat):Int)< 16:=by omega
 rw[if_neg c0]
 by_cases c1:8192 < l.length
 ·have c1':(8192:Int)<((l.length:Nat):Int):=by omega
  rw[if_pos c1]
  simp only[B72,dq,ly,c0',c1',abL,go_sem,simprocAttr]
 have c1':¬(8192:Int)<((l.length:Nat):Int):=by omega
 rw[if_neg c1]
 obtain ⟨G,hGd⟩:∃G,h++[aT.cells (some 22) [V.arr 22 (k.map aa)]]=G:=⟨_,rfl⟩
 have g0:G[h.length]? =some (.cells (some 22) [.arr 22 (k.map aa)]):=by rw[←hGd];simp
 have fG:Fw [] h G:=by rw[←hGd];exact Fw.app [] h _
 have dQ:=fG.take
 have hn:=CH (m:=l) (by omega)
 have sd:=Mg h.length G y l (hy.mono fG) (by omega)
 have in1:=fun H=> yz h.length H k (er (l.take 8)) hk hn
 obtain ⟨z,lo,lz⟩:=(hy.mono fG).lo (k:= .i64) (r:=8) (by omega)
 simp only[aex] at lo
 have ob:=L2 h.length G (.aq true none [aa t]) z (dW k (er (l.take 8))) [t] (l.drop 8) (er (l.take 8)) (lC _ _) hn (sP true _ [t]) lz
 unfold jo
 generalize mB (dW k (er (l.take 8))) (er (l.take 8)) [t] (l.drop 8)=o at ob ⊢
 cases o with
 | none=>
   simp only[fK] at ob ⊢
   simp only[B72,dq,ly,c0',c1',hGd,g0,sd,in1,lo,ob,dQ,or_true,go_sem,simprocAttr]
 | some zz=>
   simp only[fK] at ob ⊢
   simp only[B72,dq,ly,c0',c1',hGd,g0,sd,in1,lo,ob,dQ,or_true,go_sem,simprocAttr]
theorem yA (b:Nat) (h:Hp) (y:V) (k l:Bs) (t:UInt8) (hk:k.length=16) (hy:BR h y l):run fns pr b 40 [.arr 22 (k.map aa),aa t,y] h=some (kJ k t l,h):=by
 refine Vm.aQ (nt:=28) rfl UL (by simp) ?_
 have dq:(k.map aa).length=16:=by simp[hk]
 have ly:=fun cf base H=> hy.bG (cf:=cf) (base:=base) (h:=H)
 unfold kJ
 by_cases c0:l.length < 16
 ·have c0':((l.length:Nat):Int)< 16:=by omega
  rw[if_pos c0]
  simp only[B40,dq,ly,c0',abL,go_sem,simprocAttr]
 have c0':¬((l.length:Nat):Int)< 16:=by omega
 rw[if_neg c0]
 by_cases c1:8192 < l.length
 ·have c1':(8192:Int)<((l.length:Nat):Int):=by omega
  rw[if_pos c1]
  simp only[B40,dq,ly,c0',c1',abL,go_sem,simprocAttr]
 have c1':¬(8192:Int)<((l.length:Nat):Int):=by omega
 rw[if_neg c1]
 obtain ⟨G,hGd⟩:∃G,h++[aT.cells (some 22) [V.arr 22 (k.map aa)]]=G:=⟨_,rfl⟩
 have g0:G[h.length]? =some (.cells (some 22) [.arr 22 (k.map aa)]):=by rw[←hGd];simp
 have fG:Fw [] h G:=by rw[←hGd];exact Fw.app [] h _
 have dQ:=fG.take
 have hn:=CH (m:=l) (by omega)
 have sd:=IF h.length G y l (hy.mono fG) (by omega)
 have in1:=fun H=> vy h.length H k (er (l.take 8)) hk hn
 obtain ⟨z,lo,lz⟩:=(hy.mono fG).lo (k:= .i64) (r:=8) (by omega)
 simp only[aex] at lo
 have ob:=IE h.length G (.aq true none [aa t]) z (dW k (er (l.take 8))) [t] (l.drop 8) (er (l.take 8)) (lC _ _) hn (sP true _ [t]) lz
 unfold jo
 generalize mB (dW k (er (l.take 8))) (er (l.take 8)) [t] (l.drop 8)=o at ob ⊢
 cases o with
 | none=>
   simp only[fK] at ob ⊢
   simp only[B40,dq,ly,c0',c1',hGd,g0,sd,in1,lo,ob,dQ,or_true,go_sem,simprocAttr]
 | some zz=>
   simp only[fK] at ob ⊢
   simp only[B40,dq,ly,c0',c1',hGd,g0,sd,in1,lo,ob,dQ,or_true,go_sem,simprocAttr]
abbrev cN (a b:Bs):Int:=Lib.compareBytes a b
theorem jq :∀a:Bs,cN a a=0
 | []=> rfl
 | x::a=> by simp only[cN,Lib.compareBytes,UInt8.lt_irrefl,if_false];exact jq a
theorem mP :∀a b:Bs,cN a b=0→a=b
 | [],[],_=> rfl
 | [],_::_,h=> by simp[cN,Lib.compareBytes] at h
 | _::_,[],h=> by simp[cN,Lib.compareBytes] at h
 | x::a,y::b,h=> by
   simp only[cN,Lib.compareBytes] at h
   split at h
   ·cases h
   ·split at h
    ·cases h
    ·rename_i h1 h2
     rw[aef] at h1 h2
     have:x=y:=aeY.1 (by omega)
     rw[this,mP a b h]
theorem sU :∀a b:Bs,cN a b= - cN b a
 | [],[]=> rfl
 | [],_::_=> rfl
 | _::_,[]=> rfl
 | x::a,y::b=> by
   have ih:=sU a b
   simp only[cN] at ih
   simp only[cN,Lib.compareBytes,aef]
   by_cases h1:x.toNat < y.toNat
   ·rw[if_pos h1,if_neg (by omega),if_pos h1]
   ·by_cases h2:y.toNat < x.toNat
    ·rw[if_neg h1,if_pos h2,if_pos h2];rfl
    ·rw[if_neg h1,if_neg h2,if_neg h2,if_neg h1];exact ih
theorem fL :∀a b c:Bs,cN a b < 0→cN b c < 0→cN a c < 0
 | [],[],_,h,_=> by simp[cN,Lib.compareBytes] at h
 | [],_::_,[],_,h=> by simp[cN,Lib.compareBytes] at h
 | [],_::_,_::_,_,_=> by simp[cN,Lib.compareBytes]
 | _::_,[],_,h,_=> by simp[cN,Lib.compareBytes] at h
 | _::_,_::_,[],_,h=> by simp[cN,Lib.compareBytes] at h
 | x::a,y::b,z::c,h1,h2=> by
   have ih:=fL a b c
   simp only[cN] at ih
   simp only[cN,Lib.compareBytes,aef] at h1 h2 ⊢
   split at h1
   ·split at h2
    ·rw[if_pos (by omega)];decide
    ·split at h2
     ·cases h2
     ·rw[if_pos (by omega)];decide
   ·split at h1
    ·cases h1
    ·split at h2
     ·rw[if_pos (by omega)];decide
     ·split at h2
      ·cases h2
      ·rw[if_neg (by omega),if_neg (by omega)];exact ih h1 h2
def fZ (l:List ae):Prop:=l.Pairwise fun v w=> cN v.iD w.iD < 0
def pos (l:List ae) (id:Bs):Nat:=l.countP fun v=> decide (cN v.iD id < 0)
theorem IH (l:List ae) (id:Bs):pos l id≤l.length:=List.countP_le_length
theorem xa {id:Bs}:∀ {l:List ae},fZ l→∀ {i:Nat} {v:ae},l[i]? =some v→(cN v.iD id < 0↔i < pos l id)
 | [],_,i,v,h=> by simp at h
 | w::l,hr,i,v,h=> by
   obtain ⟨h1,h2⟩:=aey.1 hr
   simp only[pos,aeN]
   by_cases hw:cN w.iD id < 0
   ·simp only[hw,decide_true,if_true]
    cases i with
    | zero=> simp at h;subst h;simp[hw]
    | succ i=>
      have:=xa (id:=id) h2 (by simpa using h)
      rw[this];unfold pos;omega
   ·simp only[hw,decide_false,abP,if_false,adO]
    have hz:pos l id=0:=by
      rw[pos,aep]
      intro x hx
      have h3:=h1 x hx
      simp only[decide_eq_true_eq]
      intro h4
      exact hw (fL _ _ _ h3 h4)
    unfold pos at hz
    rw[hz]
    cases i with
    | zero=> simp at h;subst h;simp[hw]
    | succ i=>
      have h3:=h1 v (abS (by simpa using h))
      constructor
      ·intro h4;exact absurd (fL _ _ _ h3 h4) hw
      ·omega
end Go.Proofs.YtggjbepemdhohaaGreat
namespace Go.Vm
theorem II {h:Hp} {j t:Nat} {g:Option Nat} {l:List UInt8} (hg:h[j]? =some (.cells g [.arr t (l.map aa)])):elems h (.ref j [0] none 0 l.length 1)=some (none,l.map aa):=by
 simp only[elems,Vm.rowAt,node,rowOf,hg,nodeAt,ab3,aci,if_true,ab0,ab5,acg,pt]
end Go.Vm
namespace Go.Proofs.YtggjbepemdhohaaGreat
open Go Go.Vm Go.Proofs Go.Cl
set_option maxRecDepth 100000
def al (id:Bs):Nat:=((cT id).getD 0 0).toNat % 16
theorem eD (id:Bs):al id < 16:=adS _ (by decide)
theorem Mh (b:Nat) (x:V) (h:Hp):run fns pr b 55 [x] h=yg [x] h:=by
 rw[oG fns pr rfl];rfl
theorem Mi (b:Nat) {h:Hp} {j t:Nat} {g:Option Nat} {l:Bs} (hg:h[j]? =some (.cells g [.arr t (l.map aa)])) (hl:l.length≤1000000):run fns pr b 55 [.ref j [0] none 0 l.length 1] h=some (.arr 22 ((cT l).map aa),h):=by
 rw[Mh];exact Cm (Rd.mk' (II hg) rfl) hl
theorem aae (l:Bs):∃u:Nat,u < 256∧((cT l).map aa)[0]? =some (.s (.int .u8 u))∧((cT l).getD 0 0).toNat=u:=by
 have h:=bO l
 refine ⟨((cT l).getD 0 0).toNat,UInt8.toNat_lt _,?_,rfl⟩
 rw[abT,List.getD,abE (by omega)]
 rfl
theorem gW (b:Nat) (h:Hp) (id:Bs) (hl:id.length≤1000000):run fns pr b 59 [.arr 28 (id.map aa)] h=some (.s (.int .i64 (al id:Nat)),h):=by
 refine Vm.aQ (nt:=8) rfl Vp (by simp) ?_
 have hs:=Mi h.length (h:=h++[.cells (some 28) [.arr 28 (id.map aa)]]) (aS _ _) hl
 obtain ⟨u,hu,h0,he⟩:=aae id
 have hlen:((cT id).map aa).length=16:=by rw[abX,bO]
 have hr:∀cf base h,aB cf base h (.bin .num .rem) [.s (.int .u8 (u:Int)),.s (.int .u8 16)]=some (.s (.int .u8 ((u % 16:Nat):Int)),h):=fun cf base h=> by
   rw[vg cf base h .u8 _ 16 (by omega),ac7 (by omega)];rfl
 have hw:IntKind.i64.wrap ((u % 16:Nat):Int)=((u % 16:Nat):Int):=wrap_i64 (by omega) (by omega)
 have rH:al id=u % 16:=by rw[al,he]
 generalize (cT id).map aa=ws at hs h0 hlen
 rw[rH]
 have hix:∀cf base h,aB cf base h (.idx 22) [.arr 22 ws,.s (.int .i64 0)]=some (.s (.int .u8 u),h):=fun cf base h=> by
   have h1:(0:Int)<((16:Nat):Int):=by decide
   simp only[aB,qU,numOf,hlen,h0,h1,Int.le_refl,and_self,if_true,Int.toNat_zero,ab5]
 have au:(0:Nat)=0:=rfl
 try simp only[B59,hs,hix,hr,hw,go_sem,simprocAttr]
 repeat' (
   first | refine q5z ?_ ?_ | refine q3z ?_ ?_ | refine q4z ?_ ?_
   all_goals intro ai
   all_goals first | replace ai:=q2z ai | replace ai:=q1z ai | skip
   all_goals first | subst ai | replace au:=And.intro ai au
   all_goals try simp only[au,B59,hs,hix,hr,hw,go_sem,simprocAttr])
theorem CI (b:Nat) (x y:V) (h:Hp):run fns pr b 110 [x,y] h=IJ (elems h x) (elems h y) h:=by
 rw[oG fns pr rfl];exact It _ _ _
theorem lD (b:Nat) (vs:List V) (h:Hp):run fns pr b 109 vs h=fc (some 37) 96 vs h:=by
 rw[oG fns pr rfl];rfl
theorem sV (l:List ae):V.plain.all (l.map ae.enc)=true:=by
 induction l with
 | nil=> rfl
 | cons v l ih=> simp only[abR,sW,ih,ae.enc,go_sem]
def TR (h:Hp) (t k:Nat) (l:List ae):Prop:=
 ∃x,h[t]? =some (.cells (some 138) [.st 138 [x]])∧
  ((x= .aq true (some 37) []∧l=[]∧k=t)∨(x= .ref k [] (some 37) 0 l.length l.length∧k≠t∧h[k]? =some (.cells (some 37) (l.map ae.enc))))
theorem TR.mono {S:List Nat} {h h':Hp} {t k:Nat} {l:List ae} (ho:TR h t k l) (f:Fw S h h') (hi:t∉S) (hk:k∉S):TR h' t k l:=by
 obtain ⟨x,h1,h2⟩:=ho
 refine ⟨x,f.cH _ _ h1 hi,?_⟩
 rcases h2 with h2 | ⟨a,b,c⟩
 ·exact .inl h2
 ·exact .inr ⟨a,b,f.cH _ _ c hk⟩
theorem TR.lt {h:Hp} {t k:Nat} {l:List ae} (ho:TR h t k l):t < h.length∧k < h.length:=by
 obtain ⟨x,h1,h2⟩:=ho
 refine ⟨q6z h1,?_⟩
 rcases h2 with ⟨_,_,rfl⟩ | ⟨_,_,h3⟩
 ·exact q6z h1
 ·exact q6z h3
theorem Mj (b:Nat) (h:Hp) (t k:Nat) (l:List ae) (ho:TR h t k l):run fns pr b 95 [.ptr t [0] 1] h=some (.s (.int .i64 l.length),h):=by
 refine Vm.aQ (nt:=8) rfl Wu (by simp) ?_
 obtain ⟨x,h1,⟨rfl,rfl,rfl⟩ | ⟨rfl,h2,h3⟩⟩:=ho
 ·have au:(0:Nat)=0:=rfl
  try simp only[B95,h1,go_sem,simprocAttr]
  repeat' (
    first | refine q5z ?_ ?_ | refine q3z ?_ ?_ | refine q4z ?_ ?_
    all_goals intro ai
    all_goals first | replace ai:=q2z ai | replace ai:=q1z ai | skip
    all_goals first | subst ai | replace au:=And.intro ai au
    all_goals try simp only[au,B95,h1,go_sem,simprocAttr])
  all_goals rfl
 ·have au:(0:Nat)=0:=rfl
  try simp only[B95,h1,go_sem,simprocAttr]
  repeat' (
    first | refine q5z ?_ ?_ | refine q3z ?_ ?_ | refine q4z ?_ ?_
    all_goals intro ai
    all_goals first | replace ai:=q2z ai | replace ai:=q1z ai | skip
    all_goals first | subst ai | replace au:=And.intro ai au
    all_goals try simp only[au,B95,h1,go_sem,simprocAttr])
theorem rS (b:Nat) (h:Hp) (f:Bool) (v:ae) (hl:v.aL.length≤140737488355328):run fns pr b 108 [v.aH f] h=some (v.enc,h):=by
 refine Vm.aQ (nt:=8) rfl Pv (by simp) ?_
 obtain ⟨a1,a2,a3,a4,a5,a6,a7,a8,a9⟩:=v
 simp only at hl
 have hc:=fun h0=> sM (h:=h0) (ck h0 f a4) hl
 have cl:∀A B C D,bD h.length (h++A::B::ct a4) (cv (h++[C,D]) a4)=some (.aq false none (a4.map aa)):=fun A B C D=> by
   have:=Mk h.length (h++[C,D]) (h++[A,B]) a4 (by simp) (by simp)
   rwa [abO] at this
 simp only[Pt,ae.aH,ae.enc,gQ,hc,OG,yB,cl,abL,go_sem,simprocAttr]
theorem IK (b:Nat) (h:Hp) (v:ae) (id:Bs):run fns pr b 139 [v.enc,.arr 28 (id.map aa)] h=some (.s (.int .i64 (cN v.iD id)),h):=by
 refine Vm.aQ (nt:=9) rfl QD (by simp) ?_
 have hc:=fun x y h0=> CI h.length x y h0
 have au:(0:Nat)=0:=rfl
 try simp only[LM,ae.enc,hc,go_sem,simprocAttr]
 repeat' (
   first | refine q5z ?_ ?_ | refine q3z ?_ ?_ | refine q4z ?_ ?_
   all_goals intro ai
   all_goals first | replace ai:=q2z ai | replace ai:=q1z ai | skip
   all_goals first | subst ai | replace au:=And.intro ai au
   all_goals try simp only[au,LM,ae.enc,hc,go_sem,simprocAttr])
theorem Eb (b:Nat) (h:Hp) (x:V) (l:List ae) (id:Bs) (hx:SR h x (some 37) (l.map ae.enc)) (hr:fZ l) (hl:l.length≤1000):
 run fns pr b 138 [x,.arr 28 (id.map aa),.fn 139 []] h=some (.bM [.s (.int .i64 (pos l id)),.s (.bool (decide ((l[pos l id]?).map ae.iD=some id)))],h):=by
 refine Vm.aQ (nt:=49) rfl QA (by simp) ?_
 have hlen:=fun cf base h0=> hx.bG (cf:=cf) (base:=base) (h:=h0)
 simp only[abX] at hlen
 have nS:SR (h++[.cells (some 28) [.arr 28 (id.map aa)]]) x (some 37) (l.map ae.enc):=hx.app _
 generalize hH:h++[.cells (some 28) [.arr 28 (id.map aa)]]=H at nS
 have hHl:H[h.length]? =some (.cells (some 28) [.arr 28 (id.map aa)]):=by rw[←hH];exact aS _ _
 have hHt:H.take h.length=h:=by rw[←hH];simp
 have hp:=IH l id
 have Ml:=fun cf base k (i:Nat) hi=> nS.cZ (cf:=cf) (base:=base) (k:=k) (i:=i) hi
 have Ig:=fun cf base (i:Nat) (v:ae) (hv:l[i]? =some v)=> nS.iy (cf:=cf) (base:=base) (i:=i) (v:=v.enc) (by rw[abT,hv];rfl) rfl
 have hf:=fun h0 v=> IK h.length h0 v id
 simp only[abX] at Ml
 have au:(0:Nat)=0:=rfl
 try simp only[LL,Av,Au,hlen,hH,go_sem,simprocAttr]
 repeat' (
   first | refine q5z ?_ ?_ | refine q3z ?_ ?_ | refine q4z ?_ ?_
   all_goals intro ai
   all_goals first | replace ai:=q2z ai | replace ai:=q1z ai | skip
   all_goals first | subst ai | replace au:=And.intro ai au
   all_goals try simp only[au,LL,Av,Au,hlen,hH,go_sem,simprocAttr])
 refine bo (fun m e hh=>∃i j:Nat,m=j - i∧i≤pos l id∧pos l id≤j∧j≤l.length∧e 9= .s (.int .i64 i)∧e 10= .s (.int .i64 j)∧e 8= .s (.int .i64 l.length)∧e 0=x∧e 2= .fn 139 []∧e 4= .ptr h.length [0] 1∧hh=H)
   (fun e hh=> e 9= .s (.int .i64 (pos l id))∧e 8= .s (.int .i64 l.length)∧e 0=x∧e 2= .fn 139 []∧e 4= .ptr h.length [0] 1∧hh=H) l.length _ _ ⟨0,l.length,by omega,by omega,hp,by omega,?_,?_,?_,?_,?_,?_,rfl⟩ ?_ ?_
 rotate_right 2
 ·rintro m e hh ⟨i,j,rfl,h1,h2,h3,e9,e10,e8,e0',e2,e4,rfl⟩
  by_cases c:i < j
  ·have c':(i:Int)< j:=by omega
   have pd:IntKind.i64.wrap ((i:Int)+j)=(i:Int)+j:=wrap_i64 (by omega) (by omega)
   have Cp:IntKind.u64.wrap ((i:Int)+j)=(i:Int)+j:=wrap_u64 (by omega) (by omega)
   have p6:=fun cf base h=> sC (cf:=cf) (base:=base) (h:=h) .u64 .u64 ((i:Int)+j) 1 (by decide)
   have Re:=fun cf base h=> sC (cf:=cf) (base:=base) (h:=h) .u64 .i64 ((i:Int)+j) 1 (by decide)
   have hs:sw .u64 ((i:Int)+j) 1=(((i+j)/ 2:Nat):Int):=by
     simp only[sw,show min (Int.toNat 1) IntKind.u64.bits=1 from rfl]
     rw[adX _ (by decide)];omega
   have hw3:IntKind.i64.wrap (((i+j)/ 2:Nat):Int)=(((i+j)/ 2:Nat):Int):=wrap_i64 (by omega) (by omega)
   obtain ⟨t,ht⟩:∃t,t=(i+j)/ 2:=⟨_,rfl⟩
   rw[←ht] at hs hw3
   have hti:i≤t:=by omega
   have htj:t < j:=by omega
   have uM:t < l.length:=by omega
   have hv:l[t]? =some l[t]:=abE uM
   generalize l[t]=v at hv
   have cF:=xa hr hv (id:=id)
   have ff:=fun cf base k=> Ml cf base k t uM
   have iO:=fun cf base=> Ig cf base t v hv
   have hw4:IntKind.i64.wrap ((t:Int)+1)=((t+1:Nat):Int):=q18z (by omega)
   have au:(0:Nat)=0:=rfl
   try simp only[e9,e10,e8,e0',e2,e4,c',pd,Cp,p6,Re,hs,hw3,ff,iO,hHl,hf,hw4,ab0,go_sem,simprocAttr]
   repeat' (
     first | refine q5z ?_ ?_ | refine q3z ?_ ?_ | refine q4z ?_ ?_
     all_goals intro ai
     all_goals first | replace ai:=q2z ai | replace ai:=q1z ai | skip
     all_goals first | subst ai | replace au:=And.intro ai au
     all_goals try simp only[au,e9,e10,e8,e0',e2,e4,c',pd,Cp,p6,Re,hs,hw3,ff,iO,hHl,hf,hw4,ab0,go_sem,simprocAttr])
   all_goals clear Ml Ig ff iO hf hlen p6 Re
   ·simp only[decide_eq_true_eq] at au
    exact ⟨j - (t+1),by omega,t+1,j,rfl,by omega,h2,h3,rfl,rfl⟩
   ·simp only[decide_eq_false_iff_not] at au
    exact ⟨t - i,by omega,i,t,rfl,h1,by omega,by omega,rfl,rfl⟩
  ·have c':¬(i:Int)< j:=by omega
   obtain rfl:i=pos l id:=by omega
   have au:(0:Nat)=0:=rfl
   try simp only[e9,e10,e8,e0',e2,e4,c',go_sem,simprocAttr]
   repeat' (
     first | refine q5z ?_ ?_ | refine q3z ?_ ?_ | refine q4z ?_ ?_
     all_goals intro ai
     all_goals first | replace ai:=q2z ai | replace ai:=q1z ai | skip
     all_goals first | subst ai | replace au:=And.intro ai au
     all_goals try simp only[au,e9,e10,e8,e0',e2,e4,c',go_sem,simprocAttr])
 ·rintro e hh ⟨e9,e8,e0',e2,e4,rfl⟩
  by_cases c:pos l id < l.length
  ·have c':(pos l id:Int)< l.length:=by omega
   have hv:l[pos l id]? =some l[pos l id]:=abE c
   generalize l[pos l id]=v at hv
   have ff:=fun cf base k=> Ml cf base k _ c
   have iO:=fun cf base=> Ig cf base _ v hv
   have hz:decide (v.iD=id)=decide (cN v.iD id=0):=by
     rw[decide_eq_decide]
     exact ⟨fun h=> by rw[h];exact jq _,mP _ _⟩
   have au:(0:Nat)=0:=rfl
   try simp only[e9,e8,e0',e2,e4,c',hv,ff,iO,hHl,hHt,hf,hz,ab0,ab5,go_sem,simprocAttr]
   repeat' (
     first | refine q5z ?_ ?_ | refine q3z ?_ ?_ | refine q4z ?_ ?_
     all_goals intro ai
     all_goals first | replace ai:=q2z ai | replace ai:=q1z ai | skip
     all_goals first | subst ai | replace au:=And.intro ai au
     all_goals try simp only[au,e9,e8,e0',e2,e4,c',hv,ff,iO,hHl,hHt,hf,hz,ab0,ab5,go_sem,simprocAttr])
  ·have c':¬(pos l id:Int)< l.length:=by omega
   have hv:l[pos l id]? =none:=ach (by omega)
   have au:(0:Nat)=0:=rfl
   try simp only[e9,e8,e0',e2,e4,c',hv,hHt,ad6,go_sem,simprocAttr]
   repeat' (
     first | refine q5z ?_ ?_ | refine q3z ?_ ?_ | refine q4z ?_ ?_
     all_goals intro ai
     all_goals first | replace ai:=q2z ai | replace ai:=q1z ai | skip
     all_goals first | subst ai | replace au:=And.intro ai au
     all_goals try simp only[au,e9,e8,e0',e2,e4,c',hv,hHt,ad6,go_sem,simprocAttr])
   all_goals simp
 all_goals rfl
theorem CJ (b:Nat) (h:Hp) (t k:Nat) (l:List ae) (id:Bs) (ho:TR h t k l) (hr:fZ l) (hl:l.length≤1000):
 run fns pr b 107 [.ptr t [0] 1,.arr 28 (id.map aa)] h=some (.bM [.s (.int .i64 (pos l id)),.s (.bool (decide ((l[pos l id]?).map ae.iD=some id)))],h):=by
 refine Vm.aQ (nt:=14) rfl Ps (by simp) ?_
 obtain ⟨x,h1,hh⟩:=ho
 have hx:SR h x (some 37) (l.map ae.enc):=by
   rcases hh with ⟨rfl,rfl,_⟩ | ⟨rfl,_,h3⟩
   ·exact .inl ⟨_,rfl⟩
   ·exact lh h3 (by simp)
 have dO:=hx.ty
 have hs:=fun t'=> Eb h.length (h++t') x l id (hx.app t') hr hl
 have hg:=fun t'=> q10z h1 t'
 have au:(0:Nat)=0:=rfl
 try simp only[Lv,hs,hg,dO,go_sem,simprocAttr]
 repeat' (
   first | refine q5z ?_ ?_ | refine q3z ?_ ?_ | refine q4z ?_ ?_
   all_goals intro ai
   all_goals first | replace ai:=q2z ai | replace ai:=q1z ai | skip
   all_goals first | subst ai | replace au:=And.intro ai au
   all_goals try simp only[au,Lv,hs,hg,dO,go_sem,simprocAttr])
def ec (l:List ae) (id:Bs):Option ae:=if (l[pos l id]?).map ae.iD=some id then l[pos l id]? else none
theorem CK (b:Nat) (h:Hp) (t k:Nat) (l:List ae) (id:Bs) (ho:TR h t k l) (hr:fZ l) (hl:l.length≤1000) (hs:∀v∈l,v.aL.length≤64):
 run fns pr b 94 [.ptr t [0] 1,.arr 28 (id.map aa)] h=some (.bM [((ec l id).getD zeroV).enc,.s (.bool (ec l id).isSome)],h):=by
 refine Vm.aQ (nt:=25) rfl Ws (by simp) ?_
 have hf:=fun t'=> CJ h.length (h++t') t k l id (ho.mono (Fw.app [] h t') (by simp) (by simp)) hr hl
 obtain ⟨x,h1,hh⟩:=ho
 have hx:SR h x (some 37) (l.map ae.enc):=by
   rcases hh with ⟨rfl,rfl,_⟩ | ⟨rfl,_,h3⟩
   ·exact .inl ⟨_,rfl⟩
   ·exact lh h3 (by simp)
 have dO:=hx.ty
 have hg:=fun t'=> q10z h1 t'
 unfold ec
 by_cases c:(l[pos l id]?).map ae.iD=some id
 ·rw[if_pos c]
  cases hv:l[pos l id]? with
  | none=> rw[hv] at c;cases c
  | some v=>
    have cF:=(abF.1 hv).1
    have pT:=hs v (abS hv)
    have ff:=fun cf base t'=>(hx.app t').cZ (cf:=cf) (base:=base) (k:= .i64) (i:=pos l id) (by simpa using cF)
    have iO:=fun cf base t'=>(hx.app t').iy (cf:=cf) (base:=base) (i:=pos l id) (v:=v.enc) (by rw[abT,hv];rfl) rfl
    have yC:=fun h0=> rS h.length h0 false v (by omega)
    rw[←ae.kG] at yC
    have au:(0:Nat)=0:=rfl
    try simp only[B94,hf,hg,dO,c,ff,iO,yC,bq,bu,lq,ace,acQ,go_sem,simprocAttr]
    repeat' (
      first | refine q5z ?_ ?_ | refine q3z ?_ ?_ | refine q4z ?_ ?_
      all_goals intro ai
      all_goals first | replace ai:=q2z ai | replace ai:=q1z ai | skip
      all_goals first | subst ai | replace au:=And.intro ai au
      all_goals try simp only[au,B94,hf,hg,dO,c,ff,iO,yC,bq,bu,lq,ace,acQ,go_sem,simprocAttr])
 ·rw[if_neg c]
  have au:(0:Nat)=0:=rfl
  try simp only[B94,hf,hg,dO,c,jK,dr,go_sem,simprocAttr]
  repeat' (
    first | refine q5z ?_ ?_ | refine q3z ?_ ?_ | refine q4z ?_ ?_
    all_goals intro ai
    all_goals first | replace ai:=q2z ai | replace ai:=q1z ai | skip
    all_goals first | subst ai | replace au:=And.intro ai au
    all_goals try simp only[au,B94,hf,hg,dO,c,jK,dr,go_sem,simprocAttr])
  rfl
theorem lE (v:ae):v.enc.ground=true:=by
 have:v.enc.plain=true:=by simp only[ae.enc,go_sem]
 exact ja _ this
def pv (l:List ae) (v:ae):Int×List ae:=
 if aN v=false then (1,l) else if (l[pos l v.iD]?).map ae.iD=some v.iD then (0,l.set (pos l v.iD) v) else if 4≤l.length then (13,l) else (0,l.take (pos l v.iD)++[v]++l.drop (pos l v.iD))
theorem Mm (b:Nat) (h:Hp) (t k:Nat) (l:List ae) (v:ae) (hb:b≤t) (ho:TR h t k l) (hr:fZ l) (hl:l.length≤4):
 ∃h' k',run fns pr b 60 [.ptr t [0] 1,v.enc] h=some (.s (.int .i64 (pv l v).1),h')∧TR h' t k' (pv l v).2∧Fw [t,k] h h'∧(k'=k∨h.length≤k'):=by
 have hf:=fun t'=> CJ b (h++t') t k l v.iD (ho.mono (Fw.app [] h t') (by simp) (by simp)) hr (by omega)
 have jY:=fun h0 f=> dF b h0 f v
 have yC:=fun hs h0=> rS b h0 false v hs
 simp only[←ae.kG] at yC
 have nT:=fun h0=> jY h0 false
 simp only[←ae.kG] at nT
 have uM:=ho.lt
 unfold pv
 cases hv:aN v with
 | false=>
   rw[if_pos rfl]
   suffices h:∃w h',run fns pr b 60 [.ptr t [0] 1,v.enc] h=some (w,h')∧w= .s (.int .i64 1)∧h'=h++[.cells (some 37) [v.enc]] by
     obtain ⟨w,h',e,rfl,rfl⟩:=h
     exact ⟨_,k,e,ho.mono (Fw.app [] h _) (by simp) (by simp),Fw.app _ _ _,.inl rfl⟩
   refine Vm.eU (nt:=47) rfl ya (by simp) ?_
   simp only[ae.enc] at hf nT ⊢
   have au:(0:Nat)=0:=rfl
   try simp only[Gq,hf,nT,hv,go_sem,↓reduceIte,Nat.reduceEqDiff,Nat.reduceBEq,Nat.reduceAdd,Nat.reduceSub,Nat.reduceLT,Nat.reduceLeDiff,Int.reduceLT,Int.reduceLE,Int.reduceEq,Int.reduceToNat]
   repeat' (
     first | refine q5z ?_ ?_ | refine q3z ?_ ?_ | refine q4z ?_ ?_
     all_goals intro ai
     all_goals first | replace ai:=q2z ai | replace ai:=q1z ai | skip
     all_goals first | subst ai | replace au:=And.intro ai au
     all_goals try simp only[au,Gq,hf,nT,hv,go_sem,↓reduceIte,Nat.reduceEqDiff,Nat.reduceBEq,Nat.reduceAdd,Nat.reduceSub,Nat.reduceLT,Nat.reduceLeDiff,Int.reduceLT,Int.reduceLE,Int.reduceEq,Int.reduceToNat])
 | true=>
   have hs:=q14z hv
   have xb:=yC (by omega)
   rw[if_neg (by simp)]
   obtain ⟨x,h1,hh⟩:=ho
   have hg:=fun t'=> q10z h1 t'
   have ba:=fun t' b'=> nA uM.1 t' b'
   have gr:=lE v
   by_cases c1:(l[pos l v.iD]?).map ae.iD=some v.iD
   ·rw[if_pos c1]
    rcases hh with ⟨rfl,rfl,rfl⟩ | ⟨rfl,CL,h3⟩
    ·simp at c1
    ·have cF:pos l v.iD < l.length:=by
       cases hp:l[pos l v.iD]? with
       | none=> rw[hp] at c1;cases c1
       | some w=> exact (abF.1 hp).1
     have yD:=fun t'=> q10z h3 t'
     have Rf:=fun t' b'=> nA uM.2 t' b'
     have IL:(pos l v.iD:Int)< l.length:=by omega
     have XC:(0:Int)≤pos l v.iD:=by omega
     have bZ:(l.map ae.enc)[pos l v.iD]? =some (l[pos l v.iD]).enc:=by rw[abT,abE cF];rfl
     have dO:(l[pos l v.iD]).enc.ty=some 37:=rfl
     generalize hpp:pos l v.iD=p at *
     suffices h:∃w h',run fns pr b 60 [.ptr t [0] 1,v.enc] h=some (w,h')∧w= .s (.int .i64 0)∧h'=h.set k (.cells (some 37) ((l.map ae.enc).set p v.enc))++[.cells (some 37) [v.enc]] by
       obtain ⟨w,h',e,rfl,rfl⟩:=h
       refine ⟨_,k,e,⟨.ref k [] (some 37) 0 l.length l.length,?_,.inr ⟨by simp,CL,?_⟩⟩,?_,.inl rfl⟩
       ·exact q10z (by rw[abM CL];exact h1) _
       ·exact q10z (by rw[q9z h3,←List.map_set]) _
       ·exact (Fw.set (S:=[t,k]) (by simp) h3).trans (Fw.app _ _ _)
     refine Vm.eU (nt:=47) rfl ya (by simp) ?_
     have ml:=uM.2
     simp only[ae.enc] at hf nT xb gr ⊢
     have au:(0:Nat)=0:=rfl
     try simp only[Gq,hf,nT,hv,c1,hg,yD,Rf,IL,XC,cF,bZ,dO,xb,gr,go_sem,↓reduceIte,Nat.reduceEqDiff,Nat.reduceBEq,Nat.reduceAdd,Nat.reduceSub,Nat.reduceLT,Nat.reduceLeDiff,Int.reduceLT,Int.reduceLE,Int.reduceEq,Int.reduceToNat]
     repeat' (
       first | refine q5z ?_ ?_ | refine q3z ?_ ?_ | refine q4z ?_ ?_
       all_goals intro ai
       all_goals first | replace ai:=q2z ai | replace ai:=q1z ai | skip
       all_goals first | subst ai | replace au:=And.intro ai au
       all_goals try simp only[au,Gq,hf,nT,hv,c1,hg,yD,Rf,IL,XC,cF,bZ,dO,xb,gr,go_sem,↓reduceIte,Nat.reduceEqDiff,Nat.reduceBEq,Nat.reduceAdd,Nat.reduceSub,Nat.reduceLT,Nat.reduceLeDiff,Int.reduceLT,Int.reduceLE,Int.reduceEq,Int.reduceToNat])
   ·rw[if_neg c1]
    have XD:eM x=some l.length:=by
      rcases hh with ⟨rfl,rfl,_⟩ | ⟨rfl,_⟩<;> rfl
    have hxt:x.ty=none:=by
      rcases hh with ⟨rfl,rfl,_⟩ | ⟨rfl,_⟩<;> rfl
    have nS:x.aw=true:=by
      rcases hh with ⟨rfl,rfl,_⟩ | ⟨rfl,_⟩<;> rfl
    have hlen:=fun cf base h0=> bG cf base h0 x _ XD
    by_cases c2:4≤l.length
    ·rw[if_pos c2]
     have c2':(4:Int)≤l.length:=by omega
     suffices h:∃w h',run fns pr b 60 [.ptr t [0] 1,v.enc] h=some (w,h')∧w= .s (.int .i64 13)∧h'=h++[.cells (some 37) [v.enc]] by
       obtain ⟨w,h',e,rfl,rfl⟩:=h
       exact ⟨_,k,e,⟨x,hg _,by
         rcases hh with hh | ⟨rfl,CL,h3⟩
         ·exact .inl hh
         ·exact .inr ⟨rfl,CL,q10z h3 _⟩⟩,Fw.app _ _ _,.inl rfl⟩
     refine Vm.eU (nt:=47) rfl ya (by simp) ?_
     simp only[ae.enc] at hf nT ⊢
     have au:(0:Nat)=0:=rfl
     try simp only[Gq,hf,nT,hv,c1,hg,hxt,hlen,c2',go_sem,↓reduceIte,Nat.reduceEqDiff,Nat.reduceBEq,Nat.reduceAdd,Nat.reduceSub,Nat.reduceLT,Nat.reduceLeDiff,Int.reduceLT,Int.reduceLE,Int.reduceEq,Int.reduceToNat]
     repeat' (
       first | refine q5z ?_ ?_ | refine q3z ?_ ?_ | refine q4z ?_ ?_
       all_goals intro ai
       all_goals first | replace ai:=q2z ai | replace ai:=q1z ai | skip
       all_goals first | subst ai | replace au:=And.intro ai au
       all_goals try simp only[au,Gq,hf,nT,hv,c1,hg,hxt,hlen,c2',go_sem,↓reduceIte,Nat.reduceEqDiff,Nat.reduceBEq,Nat.reduceAdd,Nat.reduceSub,Nat.reduceLT,Nat.reduceLeDiff,Int.reduceLT,Int.reduceLE,Int.reduceEq,Int.reduceToNat])
    ·rw[if_neg c2]
     have c2':¬(4:Int)≤l.length:=by omega
     have hgv:=hg
     have XE:=IH l v.iD
     generalize hpp:pos l v.iD=p at *
     rcases hh with ⟨rfl,rfl,rfl⟩ | ⟨rfl,CL,h3⟩
     ·obtain rfl:p=0:=by simpa using XE
      have Gu:fc (some 37) 96 [.aq true (some 37) [],.s (.int .i64 ((0:Nat):Int)),.ref (h.length+1) [] (some 37) 0 1 1] (h++[.cells (some 37) [v.enc],.cells (some 37) [v.enc]])=some (.ref (h.length+2) [] (some 37) 0 1 1,h++[.cells (some 37) [v.enc],.cells (some 37) [v.enc],.cells (some 37) [v.enc]]):=by
        have:=yE (g:=some 37) (by_:=96) (h:=h++[.cells (some 37) [v.enc],.cells (some 37) [v.enc]]) (idy:=h.length+1) (e:=v.enc) (by rw[aJ];rfl) gr
        rw[show (((0:Nat):Int))=0 from rfl,this]
        simp
      have c2'':¬(4:Int)≤((0:Nat):Int):=by decide
      suffices h:∃w h',run fns pr b 60 [.ptr k [0] 1,v.enc] h=some (w,h')∧w= .s (.int .i64 0)∧h'=h.set k (.cells (some 138) [.st 138 [.ref (h.length+2) [] (some 37) 0 1 1]])++[.cells (some 37) [v.enc],.cells (some 37) [v.enc],.cells (some 37) [v.enc]] by
        obtain ⟨w,h',e,rfl,rfl⟩:=h
        refine ⟨_,h.length+2,e,⟨.ref (h.length+2) [] (some 37) 0 1 1,?_,.inr ⟨rfl,by omega,?_⟩⟩,?_,.inr (by omega)⟩
        ·exact q10z (q9z h1) _
        ·rw[aZ (by simp)];rfl
        ·exact (Fw.set (S:=[k,k]) (by simp) h1).trans (Fw.app _ _ _)
      refine Vm.eU (nt:=47) rfl ya (by simp) ?_
      simp only[ae.enc] at hf nT xb gr Gu ⊢
      have au:(0:Nat)=0:=rfl
      try simp only[Gq,hf,nT,hv,c1,hg,ba,hxt,hlen,c2'',hb,xb,gr,lD,Gu,aci,go_sem,↓reduceIte,Nat.reduceEqDiff,Nat.reduceBEq,Nat.reduceAdd,Nat.reduceSub,Nat.reduceLT,Nat.reduceLeDiff,Int.reduceLT,Int.reduceLE,Int.reduceEq,Int.reduceToNat]
      repeat' (
        first | refine q5z ?_ ?_ | refine q3z ?_ ?_ | refine q4z ?_ ?_
        all_goals intro ai
        all_goals first | replace ai:=q2z ai | replace ai:=q1z ai | skip
        all_goals first | subst ai | replace au:=And.intro ai au
        all_goals try simp only[au,Gq,hf,nT,hv,c1,hg,ba,hxt,hlen,c2'',hb,xb,gr,lD,Gu,aci,go_sem,↓reduceIte,Nat.reduceEqDiff,Nat.reduceBEq,Nat.reduceAdd,Nat.reduceSub,Nat.reduceLT,Nat.reduceLeDiff,Int.reduceLT,Int.reduceLE,Int.reduceEq,Int.reduceToNat])
     ·have Gu:fc (some 37) 96 [.ref k [] (some 37) 0 l.length l.length,.s (.int .i64 p),.ref (h.length+1) [] (some 37) 0 1 1] (h++[.cells (some 37) [v.enc],.cells (some 37) [v.enc]])=some (.ref k [] (some 37) 0 (l.length+1) (l.length+1),h.set k (.cells (some 37) ((l.take p++[v]++l.drop p).map ae.enc))++[.cells (some 37) [v.enc],.cells (some 37) [v.enc]]):=by
        rw[yF (e:=v.enc) (q10z h3 _) (by simp) (by rw[aJ];rfl) (by omega) XE (by omega) gr,nA uM.2]
        simp[adT,List.map_drop]
      have hgk:∀(b':aT) (t':Hp),(h.set k b'++t')[t]? =some (.cells (some 138) [.st 138 [.ref k [] (some 37) 0 l.length l.length]]):=fun b' t'=> q10z (by rw[abM CL];exact h1) _
      have hsk:∀(b' b2:aT) (t':Hp),(h.set k b'++t').set t b2=(h.set k b').set t b2++t':=fun b' b2 t'=> nA (by simp;exact uM.1) t' b2
      suffices h:∃w h',run fns pr b 60 [.ptr t [0] 1,v.enc] h=some (w,h')∧w= .s (.int .i64 0)∧h'=(h.set k (.cells (some 37) ((l.take p++[v]++l.drop p).map ae.enc))).set t (.cells (some 138) [.st 138 [.ref k [] (some 37) 0 (l.length+1) (l.length+1)]])++[.cells (some 37) [v.enc],.cells (some 37) [v.enc]] by
        obtain ⟨w,h',e,rfl,rfl⟩:=h
        have sH:(l.take p++[v]++l.drop p).length=l.length+1:=by simp;omega
        refine ⟨_,k,e,⟨.ref k [] (some 37) 0 (l.length+1) (l.length+1),?_,.inr ⟨by rw[sH],CL,?_⟩⟩,?_,.inl rfl⟩
        ·exact q10z (q9z (by rw[abM CL];exact h1)) _
        ·exact q10z (by rw[abM (ado CL)];exact q9z h3) _
        ·exact ((Fw.set (S:=[t,k]) (by simp) h3).trans (Fw.set (S:=[t,k]) (by simp) (by rw[abM CL];exact h1))).trans (Fw.app _ _ _)
      refine Vm.eU (nt:=47) rfl ya (by simp) ?_
      simp only[ae.enc] at hf nT xb gr Gu ⊢
      have au:(0:Nat)=0:=rfl
      try simp only[Gq,hf,nT,hv,c1,hg,hgk,hsk,ba,hxt,hlen,c2',hb,xb,gr,lD,Gu,go_sem,↓reduceIte,Nat.reduceEqDiff,Nat.reduceBEq,Nat.reduceAdd,Nat.reduceSub,Nat.reduceLT,Nat.reduceLeDiff,Int.reduceLT,Int.reduceLE,Int.reduceEq,Int.reduceToNat]
      repeat' (
        first | refine q5z ?_ ?_ | refine q3z ?_ ?_ | refine q4z ?_ ?_
        all_goals intro ai
        all_goals first | replace ai:=q2z ai | replace ai:=q1z ai | skip
        all_goals first | subst ai | replace au:=And.intro ai au
        all_goals try simp only[au,Gq,hf,nT,hv,c1,hg,hgk,hsk,ba,hxt,hlen,c2',hb,xb,gr,lD,Gu,go_sem,↓reduceIte,Nat.reduceEqDiff,Nat.reduceBEq,Nat.reduceAdd,Nat.reduceSub,Nat.reduceLT,Nat.reduceLeDiff,Int.reduceLT,Int.reduceLE,Int.reduceEq,Int.reduceToNat])
theorem CM (b:Nat) (h:Hp) (t k:Nat) (l:List ae) (ho:TR h t k l) (hl:l.length≤1000) (hs:∀v∈l,v.aL.length≤64):
 run fns pr b 115 [.ptr t [0] 1] h=some (.aq false (some 37) (l.map ae.enc),h):=by
 refine Vm.aQ (nt:=22) rfl PG (by simp) ?_
 have uM:=ho.lt
 obtain ⟨x,h1,hh⟩:=ho
 have hx:SR h x (some 37) (l.map ae.enc):=by
   rcases hh with ⟨rfl,rfl,_⟩ | ⟨rfl,_,h3⟩
   ·exact .inl ⟨_,rfl⟩
   ·exact lh h3 (by simp)
 have dO:=hx.ty
 have hlen:=fun cf base h0=> hx.bG (cf:=cf) (base:=base) (h:=h0)
 simp only[abX] at hlen
 have au:(0:Nat)=0:=rfl
 try simp only[LA,Aq,Ao,h1,dO,hlen,go_sem,simprocAttr]
 repeat' (
   first | refine q5z ?_ ?_ | refine q3z ?_ ?_ | refine q4z ?_ ?_
   all_goals intro ai
   all_goals first | replace ai:=q2z ai | replace ai:=q1z ai | skip
   all_goals first | subst ai | replace au:=And.intro ai au
   all_goals try simp only[au,LA,Aq,Ao,h1,dO,hlen,go_sem,simprocAttr])
 refine bo (fun m e H=>∃i:Nat,m=l.length - i∧i≤l.length∧e 11= .s (.int .i64 i)∧e 10= .s (.int .i64 l.length)∧e 9=x∧∃ko out,e 3=out∧LR H (some 37) ko out ((l.take i).map ae.enc)∧Fw [] h H∧h.length≤ko)
   (fun e H=>∃ko out,e 3=out∧LR H (some 37) ko out (l.map ae.enc)∧Fw [] h H∧h.length≤ko) l.length _ _ ⟨0,by omega,by omega,?_,?_,?_,h.length,.aq true (some 37) [],?_,.inl ⟨rfl,rfl⟩,Fw.refl _ _,abJ _⟩ ?_ ?_
 rotate_right 2
 ·rintro m e H ⟨i,rfl,hi,e11,e10,e9,ko,out,e3,lr,fw,hko⟩
  by_cases c:i < l.length
  ·have c':(i:Int)< l.length:=by omega
   have hv:l[i]? =some l[i]:=abE c
   have pT:=hs _ (abS hv)
   have dQ:l.take (i+1)=l.take i++[l[i]]:=by rw[adB,hv];rfl
   generalize l[i]=v at hv pT dQ
   have ff:=fun cf base=>(hx.fw fw).cZ (cf:=cf) (base:=base) (k:= .i64) (i:=i) (by simpa using c)
   have iO:=fun cf base=>(hx.fw fw).iy (cf:=cf) (base:=base) (i:=i) (v:=v.enc) (by rw[abT,hv];rfl) rfl
   have yC:=fun h0=> rS h.length h0 false v (by omega)
   rw[←ae.kG] at yC
   have jj:IntKind.i64.wrap ((i:Int)+1)=((i+1:Nat):Int):=q18z (by omega)
   obtain ⟨x',H',k',je,lr',fw',lX⟩:=lr.LX (T:=[.cells (some 37) [v.enc],.cells (some 37) [v.enc]]) (idy:=H.length+1) (z:=v.enc) (bytes:=96) hko fw (by rw[aJ];rfl) (lE v) (by simp;omega)
   have gr:=lE v
   have au:(0:Nat)=0:=rfl
   try simp only[e11,e10,e9,e3,c',ff,iO,yC,bq,bu,jj,je,gr,go_sem,simprocAttr]
   repeat' (
     first | refine q5z ?_ ?_ | refine q3z ?_ ?_ | refine q4z ?_ ?_
     all_goals intro ai
     all_goals first | replace ai:=q2z ai | replace ai:=q1z ai | skip
     all_goals first | subst ai | replace au:=And.intro ai au
     all_goals try simp only[au,e11,e10,e9,e3,c',ff,iO,yC,bq,bu,jj,je,gr,go_sem,simprocAttr])
   exact ⟨l.length - (i+1),by omega,i+1,rfl,by omega,rfl,_,_,rfl,by rw[dQ,acX];exact lr',fw',lX⟩
  ·have c':¬(i:Int)< l.length:=by omega
   obtain rfl:i=l.length:=by omega
   rw[ac5] at lr
   have au:(0:Nat)=0:=rfl
   try simp only[e11,e10,e9,e3,c',go_sem,simprocAttr]
   repeat' (
     first | refine q5z ?_ ?_ | refine q3z ?_ ?_ | refine q4z ?_ ?_
     all_goals intro ai
     all_goals first | replace ai:=q2z ai | replace ai:=q1z ai | skip
     all_goals first | subst ai | replace au:=And.intro ai au
     all_goals try simp only[au,e11,e10,e9,e3,c',go_sem,simprocAttr])
   exact ⟨ko,out,rfl,lr,fw,hko⟩
 ·rintro e H ⟨ko,out,e3,lr,fw,hko⟩
  have df:=lr.o4 hko (sV l)
  have dQ:=fw.take
  have au:(0:Nat)=0:=rfl
  try simp only[e3,df,dQ,go_sem,simprocAttr]
  repeat' (
    first | refine q5z ?_ ?_ | refine q3z ?_ ?_ | refine q4z ?_ ?_
    all_goals intro ai
    all_goals first | replace ai:=q2z ai | replace ai:=q1z ai | skip
    all_goals first | subst ai | replace au:=And.intro ai au
    all_goals try simp only[au,e3,df,dQ,go_sem,simprocAttr])
 all_goals rfl
instance (l :List ae):Decidable (fZ l):=by unfold fZ;infer_instance
def rising (l:List ae):Bool:=decide (l.length≤4)&& l.all aN && decide (fZ l)
theorem Ec {l:List ae} {i:Nat} {v w:ae} (hr:fZ (l.take (i+1))) (hv:l[i]? =some v) (hw:l[i+1]? =some w) (hc:cN v.iD w.iD < 0):fZ (l.take (i+2)):=by
 have h1:l.take (i+2)=l.take (i+1)++[w]:=by rw[adB,hw];rfl
 have h2:l.take (i+1)=l.take i++[v]:=by rw[adB,hv];rfl
 rw[h1]
 refine ad0.2 ⟨hr,by simp,?_⟩
 intro a ha b hb
 simp at hb;subst hb
 rw[h2] at hr ha
 rcases ab6.1 ha with ha | ha
 ·exact fL _ _ _ ((ad0.1 hr).2.2 a ha v (by simp)) hc
 ·simp at ha;subst ha;exact hc
theorem IM {l:List ae} {i:Nat} {v w:ae} (hv:l[i]? =some v) (hw:l[i+1]? =some w) (hc:¬cN v.iD w.iD < 0):¬fZ l:=by
 intro h
 have h1:=(abF.1 hv)
 have h2:=(abF.1 hw)
 obtain ⟨h1,rfl⟩:=h1
 obtain ⟨h2,rfl⟩:=h2
 exact hc (ad1.1 h i (i+1) h1 h2 (by omega))
theorem rU (b:Nat) (h:Hp):run fns pr b 42 [] h=some (.ptr h.length [0] 1,h++[.cells (some 138) [.st 138 [.aq true (some 37) []]]]):=by
 suffices hh:∃v h',run fns pr b 42 [] h=some (v,h')∧v= .ptr h.length [0] 1∧h'=h++[.cells (some 138) [.st 138 [.aq true (some 37) []]]] by
   obtain ⟨v,h',e,rfl,rfl⟩:=hh;exact e
 refine Vm.eU (nt:=3) rfl UP (by simp) ?_
 have au:(0:Nat)=0:=rfl
 try simp only[B42,go_sem,simprocAttr]
 repeat' (
   first | refine q5z ?_ ?_ | refine q3z ?_ ?_ | refine q4z ?_ ?_
   all_goals intro ai
   all_goals first | replace ai:=q2z ai | replace ai:=q1z ai | skip
   all_goals first | subst ai | replace au:=And.intro ai au
   all_goals try simp only[au,B42,go_sem,simprocAttr])
theorem yG (b:Nat) (h:Hp) (t k:Nat) (cH l:List ae) (x:V) (hb:b≤t) (ho:TR h t k cH) (hx:SR h x (some 37) (l.map ae.enc)) (hl:l.length≤1000):
 ∃h' k',run fns pr b 61 [.ptr t [0] 1,x] h=some (.s (.int .i64 (if rising l=true then 0 else 1)),h')∧TR h' t k' (if rising l=true then l else cH)∧Fw [t] h h'∧(k'=k∨k'=t∨h.length≤k'):=by
 have uM:=ho.lt
 have kF:=fun cf base h0=> hx.bG (cf:=cf) (base:=base) (h:=h0)
 simp only[abX] at kF
 have lF:=rU b h
 suffices hh:∃w h',run fns pr b 61 [.ptr t [0] 1,x] h=some (w,h')∧((rising l=true∧w= .s (.int .i64 0)∧∃k',TR h' t k' l∧Fw [t] h h'∧(k'=t∨h.length≤k'))∨(rising l=false∧w= .s (.int .i64 1)∧Fw [] h h')) by
   obtain ⟨w,h',e,⟨hr,rfl,k',h1,h2,h3⟩ | ⟨hr,rfl,h1⟩⟩:=hh
   ·rw[hr];exact ⟨h',k',e,h1,h2,.inr h3⟩
   ·rw[hr];exact ⟨h',k,e,ho.mono h1 (by simp) (by simp),h1.mono (by simp),.inl rfl⟩
 refine Vm.eU (nt:=57) rfl Vs (by simp) ?_
 by_cases h4:l.length≤4
 case neg=>
   have h1:(l.length:Int)> 4:=by omega
   have h2:rising l=false:=by simp[rising,h4]
   have au:(0:Nat)=0:=rfl
   try simp only[B61,yc,yb,kF,h1,h2,go_sem,↓reduceIte,Nat.reduceEqDiff,Nat.reduceBEq,Nat.reduceAdd,Nat.reduceSub,Nat.reduceLT,Nat.reduceLeDiff,Int.reduceLT,Int.reduceLE,Int.reduceEq,Int.reduceToNat]
   repeat' (
     first | refine q5z ?_ ?_ | refine q3z ?_ ?_ | refine q4z ?_ ?_
     all_goals intro ai
     all_goals first | replace ai:=q2z ai | replace ai:=q1z ai | skip
     all_goals first | subst ai | replace au:=And.intro ai au
     all_goals try simp only[au,B61,yc,yb,kF,h1,h2,go_sem,↓reduceIte,Nat.reduceEqDiff,Nat.reduceBEq,Nat.reduceAdd,Nat.reduceSub,Nat.reduceLT,Nat.reduceLeDiff,Int.reduceLT,Int.reduceLE,Int.reduceEq,Int.reduceToNat])
   exact .inr (Fw.refl _ _)
 have h1:¬(l.length:Int)> 4:=by omega
 have hbn:b≤h.length:=by omega
 have tt:=q10z ho.choose_spec.1
 have au:(0:Nat)=0:=rfl
 try simp only[B61,yc,yb,kF,h1,lF,go_sem,↓reduceIte,Nat.reduceEqDiff,Nat.reduceBEq,Nat.reduceAdd,Nat.reduceSub,Nat.reduceLT,Nat.reduceLeDiff,Int.reduceLT,Int.reduceLE,Int.reduceEq,Int.reduceToNat]
 repeat' (
   first | refine q5z ?_ ?_ | refine q3z ?_ ?_ | refine q4z ?_ ?_
   all_goals intro ai
   all_goals first | replace ai:=q2z ai | replace ai:=q1z ai | skip
   all_goals first | subst ai | replace au:=And.intro ai au
   all_goals try simp only[au,B61,yc,yb,kF,h1,lF,go_sem,↓reduceIte,Nat.reduceEqDiff,Nat.reduceBEq,Nat.reduceAdd,Nat.reduceSub,Nat.reduceLT,Nat.reduceLeDiff,Int.reduceLT,Int.reduceLE,Int.reduceEq,Int.reduceToNat])
 refine bo (fun m e H=>∃i:Nat,m=l.length - i∧i≤l.length∧e 14= .s (.int .i64 i)∧e 13= .s (.int .i64 l.length)∧e 12=x∧e 1=x∧e 0= .ptr t [0] 1∧e 5= .ptr h.length [0] 1∧
     (l.take i).all aN=true∧fZ (l.take i)∧∃ko out,H[h.length]? =some (.cells (some 138) [.st 138 [out]])∧XR H (some 37) ko out ((l.take i).map ae.enc)∧Fw [] h H∧h.length < ko)
   (fun e H=> rising l=true∧e 0= .ptr t [0] 1∧e 5= .ptr h.length [0] 1∧∃ko out,H[h.length]? =some (.cells (some 138) [.st 138 [out]])∧XR H (some 37) ko out (l.map ae.enc)∧Fw [] h H∧h.length < ko)
   l.length _ _ ⟨0,by omega,by omega,?_,?_,?_,?_,?_,?_,rfl,List.Pairwise.nil,h.length+1,.aq true (some 37) [],aS _ _,.inl ⟨rfl,rfl⟩,Fw.app _ _ _,by omega⟩ ?_ ?_
 rotate_right 2
 ·rintro m e H ⟨i,rfl,hi,e14,e13,e12,e1',e0',e5,ha,hri,ko,out,hn,xr,fw,hko⟩
  have hxH:=hx.fw fw
  by_cases c:i < l.length
  ·have c':(i:Int)< l.length:=by omega
   have hv:l[i]? =some l[i]:=abE c
   have dQ:l.take (i+1)=l.take i++[l[i]]:=by rw[adB,hv];rfl
   have XF:l[i]∈l:=acZ _
   generalize l[i]=v at hv dQ XF
   have ff:=fun cf base=> hxH.cZ (cf:=cf) (base:=base) (k:= .i64) (i:=i) (by simpa using c)
   have iO:=fun cf base=> hxH.iy (cf:=cf) (base:=base) (i:=i) (v:=v.enc) (by rw[abT,hv];rfl) rfl
   have jY:=fun h0=> dF b h0 false v
   simp only[←ae.kG] at jY
   have jj:IntKind.i64.wrap ((i:Int)+1)=((i+1:Nat):Int):=q18z (by omega)
   have gr:=lE v
   have nZ:=fw.len
   have fw1:Fw [] h (H++[.cells (some 37) [v.enc]]):=fw.trans (Fw.app _ _ _)
   cases hr:aN v with
   | false=>
     have AW:rising l=false:=by
       simp only[rising,adP,List.all_eq_false]
       exact .inl (.inr ⟨v,XF,by simp[hr]⟩)
     have au:(0:Nat)=0:=rfl
     try simp only[e14,e13,e12,e1',e0',e5,c',ff,iO,jY,hr,gr,bq,bu,go_sem,↓reduceIte,Nat.reduceEqDiff,Nat.reduceBEq,Nat.reduceAdd,Nat.reduceSub,Nat.reduceLT,Nat.reduceLeDiff,Int.reduceLT,Int.reduceLE,Int.reduceEq,Int.reduceToNat]
     repeat' (
       first | refine q5z ?_ ?_ | refine q3z ?_ ?_ | refine q4z ?_ ?_
       all_goals intro ai
       all_goals first | replace ai:=q2z ai | replace ai:=q1z ai | skip
       all_goals first | subst ai | replace au:=And.intro ai au
       all_goals try simp only[au,e14,e13,e12,e1',e0',e5,c',ff,iO,jY,hr,gr,bq,bu,go_sem,↓reduceIte,Nat.reduceEqDiff,Nat.reduceBEq,Nat.reduceAdd,Nat.reduceSub,Nat.reduceLT,Nat.reduceLeDiff,Int.reduceLT,Int.reduceLE,Int.reduceEq,Int.reduceToNat])
     all_goals first | exact .inr ⟨AW,rfl,fw1⟩ | exact .inr ⟨AW,fw1⟩ | (rw[AW];simp;exact fw1)
   | true=>
     have cJ:(l.take (i+1)).all aN=true:=by rw[dQ,List.all_append,ha];simp[hr]
     have yC:=fun h0=> rS b h0 false v (by have:=q14z hr;omega)
     rw[←ae.kG] at yC
     obtain ⟨x',H',k',je,xr',fw',lX,Rg⟩:=xr.LX (h:=h) (T:=[.cells (some 37) [v.enc],.cells (some 37) [v.enc]]) (idy:=H.length+1) (z:=v.enc) (bytes:=96) (by omega) fw (by rw[aJ];rfl) gr (by simp;omega)
     have vz:H'[h.length]? =some (.cells (some 138) [.st 138 [out]]):=Rg _ _ (by omega) (q10z hn _)
     have hgn:=fun T=> q10z hn T
     obtain ⟨ht1,ht2⟩:=xr.ty
     obtain ⟨ht3,ht4⟩:=xr'.ty
     have hdn:decide (b≤h.length)=true:=by simp[hbn]
     have rH:fZ (l.take (i+1))→∃m',m' < l.length - i∧∃j:Nat,m'=l.length - j∧j≤l.length∧((i+1:Nat):Int)=j∧(l.take j).all aN=true∧fZ (l.take j)∧∃ko out,(H'.set h.length (.cells (some 138) [.st 138 [x']]))[h.length]? =some (.cells (some 138) [.st 138 [out]])∧XR (H'.set h.length (.cells (some 138) [.st 138 [x']])) (some 37) ko out ((l.take j).map ae.enc)∧Fw [] h (H'.set h.length (.cells (some 138) [.st 138 [x']]))∧h.length < ko:=by
       intro aaf
       have AK:h.length < k':=by rcases lX with rfl | lX;exact hko;simp at lX;omega
       refine ⟨l.length - (i+1),by omega,i+1,rfl,by omega,rfl,cJ,aaf,k',x',q9z vz,?_,fw'.bX (abJ _) _,AK⟩
       rw[dQ,acX]
       rcases xr' with ⟨rfl,h0⟩ | ⟨rfl,h0⟩
       ·simp at h0
       ·exact .inr ⟨rfl,by rw[abM (by omega)];exact h0⟩
     cases i with
     | zero=>
       have z:¬((0:Nat):Int)> 0:=by decide
       have au:(0:Nat)=0:=rfl
       try simp only[e14,e13,e12,e1',e0',e5,c',ff,iO,jY,hr,gr,bq,bu,z,yC,hgn,hn,ht1,ht2,ht3,ht4,je,vz,hdn,jj,go_sem,↓reduceIte,Nat.reduceEqDiff,Nat.reduceBEq,Nat.reduceAdd,Nat.reduceSub,Nat.reduceLT,Nat.reduceLeDiff,Int.reduceLT,Int.reduceLE,Int.reduceEq,Int.reduceToNat]
       repeat' (
         first | refine q5z ?_ ?_ | refine q3z ?_ ?_ | refine q4z ?_ ?_
         all_goals intro ai
         all_goals first | replace ai:=q2z ai | replace ai:=q1z ai | skip
         all_goals first | subst ai | replace au:=And.intro ai au
         all_goals try simp only[au,e14,e13,e12,e1',e0',e5,c',ff,iO,jY,hr,gr,bq,bu,z,yC,hgn,hn,ht1,ht2,ht3,ht4,je,vz,hdn,jj,go_sem,↓reduceIte,Nat.reduceEqDiff,Nat.reduceBEq,Nat.reduceAdd,Nat.reduceSub,Nat.reduceLT,Nat.reduceLeDiff,Int.reduceLT,Int.reduceLE,Int.reduceEq,Int.reduceToNat])
       obtain ⟨m',q1,j,q2,q3,q4,q5⟩:=rH (by rw[dQ];simp[fZ])
       exact ⟨m',q1,j,q2,q3,congrArg _ q4,q5⟩
     | succ i=>
       have z:((i+1:Nat):Int)> 0:=by omega
       have hw:l[i]? =some l[i]:=abE (by omega)
       generalize l[i]=w at hw
       have hws:IntKind.i64.wrap (((i+1:Nat):Int) - 1)=(i:Int):=by rw[show ((i+1:Nat):Int) - 1=i by omega,wrap_i64 (by omega) (by omega)]
       have hwe:(l.map ae.enc)[i]? =some w.enc:=by rw[abT,hw];rfl
       have hib:=fun cf base T=>(hxH.app T).cZ (cf:=cf) (base:=base) (k:= .i64) (i:=i) (by simp;omega)
       have fa2:=fun cf base T=>(hxH.app T).AO (cf:=cf) (base:=base) (f:=0) hwe (by simp[ae.enc])
       have sl2:=fun cf base T=>(hxH.app T).OE (cf:=cf) (base:=base) (f:=0) (g':=none) hwe (by simp[ae.enc];exact ⟨rfl,rfl⟩)
       have el2:=fun T=> vv (hxH.app T) (f:=0) (g':=none) hwe (by simp[ae.enc];exact ⟨rfl,rfl⟩)
       simp only[abX] at sl2 el2
       have hcr:=fun x y h0=> CI b x y h0
       simp only[ae.enc] at iO jY yC je gr
       by_cases hc:cN w.iD v.iD < 0
       ·have Ed:¬(0≤cN w.iD v.iD):=by omega
        have au:(0:Nat)=0:=rfl
        try simp only[e14,e13,e12,e1',e0',e5,c',ff,iO,jY,hr,gr,z,yC,hgn,hn,ht1,ht2,ht3,ht4,je,vz,hdn,jj,hws,hib,fa2,sl2,el2,hcr,Ed,go_sem,↓reduceIte,Nat.reduceEqDiff,Nat.reduceBEq,Nat.reduceAdd,Nat.reduceSub,Nat.reduceLT,Nat.reduceLeDiff,Int.reduceLT,Int.reduceLE,Int.reduceEq,Int.reduceToNat]
        repeat' (
          first | refine q5z ?_ ?_ | refine q3z ?_ ?_ | refine q4z ?_ ?_
          all_goals intro ai
          all_goals first | replace ai:=q2z ai | replace ai:=q1z ai | skip
          all_goals first | subst ai | replace au:=And.intro ai au
          all_goals try simp only[au,e14,e13,e12,e1',e0',e5,c',ff,iO,jY,hr,gr,z,yC,hgn,hn,ht1,ht2,ht3,ht4,je,vz,hdn,jj,hws,hib,fa2,sl2,el2,hcr,Ed,go_sem,↓reduceIte,Nat.reduceEqDiff,Nat.reduceBEq,Nat.reduceAdd,Nat.reduceSub,Nat.reduceLT,Nat.reduceLeDiff,Int.reduceLT,Int.reduceLE,Int.reduceEq,Int.reduceToNat])
        obtain ⟨m',q1,j,q2,q3,q4,q5⟩:=rH (Ec hri hw hv hc)
        exact ⟨m',q1,j,q2,q3,congrArg _ q4,q5⟩
       ·have Ed:0≤cN w.iD v.iD:=by omega
        have AW:rising l=false:=by
          simp only[rising,adP,decide_eq_false_iff_not]
          exact .inr (IM hw hv hc)
        have au:(0:Nat)=0:=rfl
        try simp only[e14,e13,e12,e1',e0',e5,c',ff,iO,jY,hr,gr,z,hws,hib,fa2,sl2,el2,hcr,Ed,go_sem,↓reduceIte,Nat.reduceEqDiff,Nat.reduceBEq,Nat.reduceAdd,Nat.reduceSub,Nat.reduceLT,Nat.reduceLeDiff,Int.reduceLT,Int.reduceLE,Int.reduceEq,Int.reduceToNat]
        repeat' (
          first | refine q5z ?_ ?_ | refine q3z ?_ ?_ | refine q4z ?_ ?_
          all_goals intro ai
          all_goals first | replace ai:=q2z ai | replace ai:=q1z ai | skip
          all_goals first | subst ai | replace au:=And.intro ai au
          all_goals try simp only[au,e14,e13,e12,e1',e0',e5,c',ff,iO,jY,hr,gr,z,hws,hib,fa2,sl2,el2,hcr,Ed,go_sem,↓reduceIte,Nat.reduceEqDiff,Nat.reduceBEq,Nat.reduceAdd,Nat.reduceSub,Nat.reduceLT,Nat.reduceLeDiff,Int.reduceLT,Int.reduceLE,Int.reduceEq,Int.reduceToNat])
        all_goals first | exact .inr ⟨AW,rfl,fw1⟩ | exact .inr ⟨AW,fw1⟩ | (rw[AW];simp;exact fw1)
  ·have c':¬(i:Int)< l.length:=by omega
   rw[abG (by omega)] at ha hri xr
   have hq:rising l=true:=by
     simp[rising,h4,ha,hri]
   have au:(0:Nat)=0:=rfl
   try simp only[e14,e13,e12,e1',e0',e5,c',go_sem,↓reduceIte,Nat.reduceEqDiff,Nat.reduceBEq,Nat.reduceAdd,Nat.reduceSub,Nat.reduceLT,Nat.reduceLeDiff,Int.reduceLT,Int.reduceLE,Int.reduceEq,Int.reduceToNat]
   repeat' (
     first | refine q5z ?_ ?_ | refine q3z ?_ ?_ | refine q4z ?_ ?_
     all_goals intro ai
     all_goals first | replace ai:=q2z ai | replace ai:=q1z ai | skip
     all_goals first | subst ai | replace au:=And.intro ai au
     all_goals try simp only[au,e14,e13,e12,e1',e0',e5,c',go_sem,↓reduceIte,Nat.reduceEqDiff,Nat.reduceBEq,Nat.reduceAdd,Nat.reduceSub,Nat.reduceLT,Nat.reduceLeDiff,Int.reduceLT,Int.reduceLE,Int.reduceEq,Int.reduceToNat])
   exact ⟨hq,ko,out,hn,xr,fw,hko⟩
 ·rintro e H ⟨hq,e0',e5,ko,out,hn,xr,fw,hko⟩
  obtain ⟨y,tt1,tt2⟩:=ho
  have tH:=fw.cH _ _ tt1 (by simp)
  have hdn:decide (b≤t)=true:=by simp[hb]
  obtain ⟨ht1,ht2⟩:=xr.ty
  have hyt:y.ty=none:=by rcases tt2 with ⟨rfl,_⟩ | ⟨rfl,_⟩<;> rfl
  have au:(0:Nat)=0:=rfl
  try simp only[e0',e5,hn,tH,ht1,ht2,hdn,hyt,go_sem,↓reduceIte,Nat.reduceEqDiff,Nat.reduceBEq,Nat.reduceAdd,Nat.reduceSub,Nat.reduceLT,Nat.reduceLeDiff,Int.reduceLT,Int.reduceLE,Int.reduceEq,Int.reduceToNat]
  repeat' (
    first | refine q5z ?_ ?_ | refine q3z ?_ ?_ | refine q4z ?_ ?_
    all_goals intro ai
    all_goals first | replace ai:=q2z ai | replace ai:=q1z ai | skip
    all_goals first | subst ai | replace au:=And.intro ai au
    all_goals try simp only[au,e0',e5,hn,tH,ht1,ht2,hdn,hyt,go_sem,↓reduceIte,Nat.reduceEqDiff,Nat.reduceBEq,Nat.reduceAdd,Nat.reduceSub,Nat.reduceLT,Nat.reduceLeDiff,Int.reduceLT,Int.reduceLE,Int.reduceEq,Int.reduceToNat])
  left
  have fwt:Fw [t] h (H.set t (.cells (some 138) [.st 138 [out]])):=(fw.mono (by simp)).trans (Fw.set (by simp) tH)
  rcases xr with ⟨rfl,h0⟩ | ⟨rfl,h0⟩
  ·have:l=[]:=by simpa using h0
   subst this
   first
     | exact ⟨hq,rfl,t,⟨_,q9z tH,.inl ⟨rfl,rfl,rfl⟩⟩,fwt,.inl rfl⟩
     | exact ⟨hq,t,⟨_,q9z tH,.inl ⟨rfl,rfl,rfl⟩⟩,fwt,.inl rfl⟩
  ·have da:t≠ko:=by omega
   have q:TR (H.set t (.cells (some 138) [.st 138 [.ref ko [] (some 37) 0 (l.map ae.enc).length (l.map ae.enc).length]])) t ko l:=⟨_,q9z tH,.inr ⟨by rw[abX],ado da,by rw[abM da];exact h0⟩⟩
   first
     | exact ⟨hq,rfl,ko,q,fwt,.inr (by omega)⟩
     | exact ⟨hq,ko,q,fwt,.inr (by omega)⟩
 all_goals rfl
def il (l:List ae) (v:ae):List ae:=(l.filter fun w=> decide (cN w.iD v.iD < 0))++[v]++l.filter fun w=> decide (0 < cN w.iD v.iD)
theorem filter_lt {l:List ae} (hr:fZ l) (id:Bs):(l.filter fun w=> decide (cN w.iD id < 0))=l.take (pos l id):=by
 induction l with
 | nil=> rfl
 | cons w l ih=>
   obtain ⟨h1,h2⟩:=aey.1 hr
   by_cases hw:cN w.iD id < 0
   ·have e:pos (w::l) id=pos l id+1:=by simp[pos,hw]
    rw[e,aeF (by simpa using hw),ih h2];rfl
   ·have hz:∀x∈l,¬cN x.iD id < 0:=fun x hx h=> hw (fL _ _ _ (h1 x hx) h)
    have e:pos (w::l) id=0:=by
      rw[pos,aep]
      intro x hx
      rcases ack.1 hx with rfl | hx
      ·simpa using hw
      ·simpa using hz x hx
    rw[e,adI,List.filter_eq_nil_iff]
    intro x hx
    rcases ack.1 hx with rfl | hx
    ·simpa using hw
    ·simpa using hz x hx
theorem Ee {l:List ae} (hr:fZ l) (id:Bs):(l.filter fun w=> decide (0 < cN w.iD id))=if (l[pos l id]?).map ae.iD=some id then l.drop (pos l id+1) else l.drop (pos l id):=by
 induction l with
 | nil=> rfl
 | cons w l ih=>
   obtain ⟨h1,h2⟩:=aey.1 hr
   by_cases hw:cN w.iD id < 0
   ·have e:pos (w::l) id=pos l id+1:=by simp[pos,hw]
    rw[e,aeG (by simp;omega),ih h2]
    simp only[aeH,aeq]
   ·have hz:∀x∈l,0 < cN x.iD id:=fun x hx=> by
      have a1:=h1 x hx
      have a2:=sU x.iD id
      rcases Int.lt_or_le 0 (cN x.iD id) with h | h
      ·exact h
      ·exfalso
       rcases Int.lt_or_eq_of_le h with h | h
       ·exact hw (fL _ _ _ a1 h)
       ·rw[mP _ _ h] at a1;exact hw a1
    have e:pos (w::l) id=0:=by
      rw[pos,aep]
      intro x hx
      rcases ack.1 hx with rfl | hx
      ·simpa using hw
      ·have:=hz x hx;simp;omega
    have hl:l.filter (fun w=> decide (0 < cN w.iD id))=l:=List.filter_eq_self.2 fun x hx=> by simpa using hz x hx
    rw[e]
    simp only[ab0,ab5,Option.some.injEq,ab9,aeq,acg]
    by_cases hi:w.iD=id
    ·rw[if_pos hi,aeG (by rw[hi];simp[jq]),hl]
    ·rw[if_neg hi,aeF (by
     have:cN w.iD id≠0:=fun h=> hi (mP _ _ h)
     simp;omega),hl]
theorem yH {l:List ae} {v:ae} (hr:fZ l) (h:(pv l v).1=0):(pv l v).2=il l v:=by
 unfold il
 rw[filter_lt hr,Ee hr]
 unfold pv at h ⊢
 split
 ·rename_i h1;rw[if_pos h1] at h;cases h
 ·rename_i h1
  rw[if_neg h1] at h
  split
  ·rename_i h2
   have cF:pos l v.iD < l.length:=by
     cases hp:l[pos l v.iD]? with
     | none=> rw[hp] at h2;cases h2
     | some w=> exact (abF.1 hp).1
   rw[List.set_eq_take_append_cons_drop,if_pos cF];simp
  ·rename_i h2
   rw[if_neg h2] at h
   split
   ·rename_i h3;rw[if_pos h3] at h;cases h
   ·rfl
theorem pos_eq {l:List ae} (hr:fZ l) {j:Nat} {w:ae} {id:Bs} (h:l[j]? =some w) (hw:w.iD=id):pos l id=j:=by
 have h1:=xa (id:=id) hr h
 rw[hw,jq] at h1
 have h2:¬j < pos l id:=fun h=> absurd (h1.2 h) (by decide)
 rcases adg (pos l id) j with h3 | h3
 ·have hj:=(abF.1 h).1
  have hp:l[pos l id]? =some l[pos l id]:=abE (by omega)
  have h4:=xa (id:=id) hr hp
  have h5:=ad1.1 hr (pos l id) j (by omega) hj h3
  have h6:l[j]=w:=(abF.1 h).2
  rw[h6,hw] at h5
  exact absurd (h4.1 h5) (by omega)
 ·omega
theorem sY {l:List ae} (hr:fZ l) (v:ae):fZ (il l v):=by
 unfold fZ il
 have f1:(l.filter fun w=> decide (cN w.iD v.iD < 0)).Pairwise fun v w=> cN v.iD w.iD < 0:=hr.sublist List.filter_sublist
 have f2:(l.filter fun w=> decide (0 < cN w.iD v.iD)).Pairwise fun v w=> cN v.iD w.iD < 0:=hr.sublist List.filter_sublist
 refine ad0.2 ⟨ad0.2 ⟨f1,by simp,?_⟩,f2,?_⟩
 ·intro a ha b hb
  simp at ha hb;subst hb;exact ha.2
 ·intro a ha b hb
  have hb':cN v.iD b.iD < 0:=by
    have:=(aeZ.1 hb).2
    have q:=sU b.iD v.iD
    simp at this;omega
  rcases ab6.1 ha with ha | ha
  ·have:=(aeZ.1 ha).2
   exact fL _ _ _ (by simpa using this) hb'
  ·simp at ha;subst ha;exact hb'
structure pw where
 role:Int
 aI:Int
 to:Int
 vs:List ae
structure bF where
 mem:Int
 bL:Int
 p:Nat→pw
def bF.pU (s:bF) (n:Nat) (q:pw):bF:= {s with p:=fun j=> if j=n then q else s.p j}
def bF.new (a b:Int):bF:=⟨a,b,fun n=>⟨if (n:Int) % b=a then 1 else 0,1,0,[]⟩⟩
def ed (q:pw) (t:Nat):V:= .st 96 [.s (.int .i64 q.role),.s (.int .u64 q.aI),.s (.int .i64 q.to),.ptr t [0] 1]
def gK (p:Nat→pw) (ts:Nat→Nat×Nat) (n:Nat):List V:=(List.range n).map fun i=> ed (p i) (ts i).1
theorem Ef (p:Nat→pw) (ts:Nat→Nat×Nat) (n:Nat):gK p ts (n+1)=gK p ts n++[ed (p n) (ts n).1]:=by simp[gK,adt]
theorem bW (p:Nat→pw) (ts:Nat→Nat×Nat) (n:Nat):(gK p ts n).length=n:=by simp[gK]
theorem dt (p:Nat→pw) (ts:Nat→Nat×Nat) (n i:Nat) (h:i < n):(gK p ts n)[i]? =some (ed (p i) (ts i).1):=by simp[gK,h]
theorem sZ {p p':Nat→pw} {ts ts':Nat→Nat×Nat} {n:Nat} (h:∀i,i < n→p i=p' i∧(ts i).1=(ts' i).1):gK p ts n=gK p' ts' n:=by
 unfold gK
 apply aer
 intro i hi
 obtain ⟨h1,h2⟩:=h i (acL.1 hi)
 rw[h1,h2]
structure AX (h:Hp) (m:Nat) (s:bF) (F:List Nat) (r:Nat) (ts:Nat→Nat×Nat) (own:Nat→Nat):Prop where
 o:h[m]? =some (.cells (some 92) [.st 92 [.s (.int .i64 s.mem),.s (.int .i64 s.bL),.ref r [] (some 96) 0 16 16]])
 row:h[r]? =some (.cells (some 96) (gK s.p ts 16))
 tab:∀i,i < 16→TR h (ts i).1 (ts i).2 (s.p i).vs
 om:own m=100
 orr:own r=101
 ot:∀i,i < 16→own (ts i).1=i∧own (ts i).2=i
 fm:m∈F
 fr:r∈F
 ft:∀i,i < 16→(ts i).1∈F∧(ts i).2∈F
 fl:∀j∈F,j < h.length
def jf (h:Hp) (m:Nat) (s:bF) (F:List Nat):Prop:=∃(r:Nat) (ts:Nat→Nat×Nat) (own:Nat→Nat),AX h m s F r ts own
theorem AX.mono {S F:List Nat} {h h':Hp} {m r:Nat} {s:bF} {ts:Nat→Nat×Nat} {own:Nat→Nat} (hm:AX h m s F r ts own) (f:Fw S h h') (hd:∀j∈F,j∉S):AX h' m s F r ts own:=
 ⟨f.cH _ _ hm.o (hd _ hm.fm),f.cH _ _ hm.row (hd _ hm.fr),fun i hi=>(hm.tab i hi).mono f (hd _ (hm.ft i hi).1) (hd _ (hm.ft i hi).2),hm.om,hm.orr,hm.ot,hm.fm,hm.fr,hm.ft,fun j hj=> f.lt (hm.fl j hj)⟩
theorem jf.mono {S F:List Nat} {h h':Hp} {m:Nat} {s:bF} (hm:jf h m s F) (f:Fw S h h') (hd:∀j∈F,j∉S):jf h' m s F:=by
 obtain ⟨r,ts,own,hm⟩:=hm
 exact ⟨r,ts,own,hm.mono f hd⟩
theorem jf.lt {F:List Nat} {h:Hp} {m:Nat} {s:bF} (hm:jf h m s F):∀j∈F,j < h.length:=by
 obtain ⟨r,ts,own,hm⟩:=hm
 exact hm.fl
theorem jf.mem {F:List Nat} {h:Hp} {m:Nat} {s:bF} (hm:jf h m s F):m∈F:=by
 obtain ⟨r,ts,own,hm⟩:=hm
 exact hm.fm
theorem jf.app {F:List Nat} {h:Hp} {m:Nat} {s:bF} (hm:jf h m s F) (t:Hp):jf (h++t) m s F:=hm.mono (Fw.app [] h t) (by simp)
theorem AX.part {F:List Nat} {h h':Hp} {m r i t' k':Nat} {s:bF} {ts:Nat→Nat×Nat} {own:Nat→Nat} {q:pw} (hp:AX h m s F r ts own) (hi:i < 16)
 (hr:h'[r]? =some (.cells (some 96) ((gK s.p ts 16).set i (ed q t')))) (hT:TR h' t' k' q.vs)
 (ho:∀j b,j≠r→j≠(ts i).1→j≠(ts i).2→h[j]? =some b→h'[j]? =some b) (ht:t'=(ts i).1∨h.length≤t') (hk:k'=(ts i).2∨k'=(ts i).1∨h.length≤k') (hl:h.length≤h'.length):
 jf h' m (s.pU i q) (t'::k'::F):=by
 obtain ⟨a1,a2⟩:=hp.ot i hi
 have hold:∀j b,own j≠i→own j≠101→h[j]? =some b→h'[j]? =some b:=fun j b h1 h2 hb=>
   ho j b (fun e=> h2 (by rw[e];exact hp.orr)) (fun e=> h1 (by rw[e];exact a1)) (fun e=> h1 (by rw[e];exact a2)) hb
 have lF:∀j,own j≠i→j < h.length→j≠t'∧j≠k':=fun j h1 h2=> by
   constructor
   ·rintro rfl
    rcases ht with e | e
    ·rw[e] at h1;exact h1 a1
    ·omega
   ·rintro rfl
    rcases hk with e | e | e
    ·rw[e] at h1;exact h1 a2
    ·rw[e] at h1;exact h1 a1
    ·omega
 refine ⟨r,fun j=> if j=i then (t',k') else ts j,fun j=> if j=t' then i else if j=k' then i else own j,⟨hold _ _ (by rw[hp.om];omega) (by rw[hp.om];omega) hp.o,?_,?_,?_,?_,?_,?_,?_,?_,?_⟩⟩
 ·rw[hr]
  congr 2
  apply acB
  intro j
  rw[acs,bW]
  by_cases hj:j < 16
  ·rw[dt _ _ _ _ hj,dt _ _ _ _ hj]
   by_cases x5:i=j
   ·subst x5;simp[hi,bF.pU]
   ·simp[x5,ado x5,bF.pU]
  ·rw[if_neg (by omega),ach (by rw[bW];omega),ach (by rw[bW];omega)]
 ·intro j hj
  by_cases x5:j=i
  ·subst x5;simpa[bF.pU] using hT
  ·obtain ⟨b1,b2⟩:=hp.ot j hj
   simp only[x5,if_false,bF.pU]
   obtain ⟨x,c1,c2⟩:=hp.tab j hj
   refine ⟨x,hold _ _ (by omega) (by omega) c1,?_⟩
   rcases c2 with c2 | ⟨c3,c4,c5⟩
   ·exact .inl c2
   ·exact .inr ⟨c3,c4,hold _ _ (by omega) (by omega) c5⟩
 ·have:=lF m (by rw[hp.om];omega) (q6z hp.o)
  simp only[this.1,this.2,if_false];exact hp.om
 ·have:=lF r (by rw[hp.orr];omega) (q6z hp.row)
  simp only[this.1,this.2,if_false];exact hp.orr
 ·intro j hj
  by_cases x5:j=i
  ·subst x5;simp
  ·obtain ⟨b1,b2⟩:=hp.ot j hj
   obtain ⟨l1,l2⟩:=(hp.tab j hj).lt
   have n1:=lF (ts j).1 (by omega) l1
   have n2:=lF (ts j).2 (by omega) l2
   simp only[x5,if_false,n1.1,n1.2,n2.1,n2.2]
   exact ⟨b1,b2⟩
 ·simp[hp.fm]
 ·simp[hp.fr]
 ·intro j hj
  by_cases x5:j=i
  ·subst x5;simp
  ·have:=hp.ft j hj
   simp[x5,this]
 ·intro j hj
  rcases ack.1 hj with rfl | hj
  ·exact hT.lt.1
  ·rcases ack.1 hj with rfl | hj
   ·exact hT.lt.2
   ·exact adx (hp.fl j hj) hl
theorem nB (b:Nat) (h:Hp) (n:Int):run fns pr b 88 [.s (.int .i64 n)] h=some (.s (.bool (decide (0≤n)&& decide (n < 16))),h):=by
 refine Vm.aQ (nt:=9) rfl Wj (by simp) ?_
 by_cases h0:0≤n
 ·simp only[B88,h0,go_sem,simprocAttr]
 ·simp only[B88,h0,go_sem,simprocAttr]
theorem IN (b:Nat) (h:Hp) (n:Nat) (m:Int) (hn:n < 16) (h1:1≤m) (h2:m≤8):run fns pr b 43 [.s (.int .i64 (n:Nat)),.s (.int .i64 m)] h=some (.s (.int .i64 ((n:Int) % m)),h):=by
 refine Vm.aQ (nt:=13) rfl UR (by simp) ?_
 have hr:=fun h0=> nB h.length h0 n
 have q1:(0:Int)≤(n:Int):=by omega
 have q2:(n:Int)< 16:=by omega
 have q3:min m 8=m:=by omega
 have q4:max 1 m=m:=by omega
 have hq:=fun cf base h=> vg cf base h .i64 (n:Int) m (by omega)
 have hm:(n:Int).tmod m=(n:Int) % m:=ac7 q1
 simp only[B43,hr,q1,q2,q3,q4,hq,hm,go_sem,simprocAttr]
def SPp (p:Nat→pw) (a b:Int) (n:Nat) (H:Hp) (i:Nat) (y:V) (k:Nat) (ts:Nat→Nat×Nat) (own:Nat→Nat):Prop:=
 H[n]? =some (.cells (some 92) [.st 92 [.s (.int .i64 a),.s (.int .i64 b),y]])∧(i=0∧y= .aq true (some 96) []∨0 < i∧y= .ref k [] (some 96) 0 i i∧H[k]? =some (.cells (some 96) (gK p ts i))∧own k=101∧n≤k)∧own n=100∧
   (∀j,j < i→TR H (ts j).1 (ts j).2 []∧own (ts j).1=j∧own (ts j).2=j∧n≤(ts j).1∧n≤(ts j).2)
theorem SPp.step {p:Nat→pw} {a b:Int} {n i k k' t:Nat} {H H':Hp} {y:V} {ts:Nat→Nat×Nat} {own:Nat→Nat} (hp:SPp p a b n H i y k ts own) (hn:n < H.length) (ht:H.length≤t) (CL:k'≠t) (lX:k'=k∧0 < i∨H.length≤k') (hi:i < 16)
 (hm:H'[n]? =some (.cells (some 92) [.st 92 [.s (.int .i64 a),.s (.int .i64 b),.ref k' [] (some 96) 0 (i+1) (i+1)]])) (hr:H'[k']? =some (.cells (some 96) (gK p ts i++[ed (p i) t]))) (hT:TR H' t t []) (ho:∀(j:Nat) (b:aT),j≠n→(0 < i→j≠k)→H[j]? =some b→H'[j]? =some b):
 ∃ts' own',SPp p a b n H' (i+1) (.ref k' [] (some 96) 0 (i+1) (i+1)) k' ts' own':=by
 obtain ⟨h1,h2,h3,h4⟩:=hp
 refine ⟨fun j=> if j=i then (t,t) else ts j,fun j=> if j=t then i else if j=k' then 101 else own j,hm,.inr ⟨by omega,rfl,?_,by simp[CL],?_⟩,?_,?_⟩
 ·rw[hr,Ef,if_pos rfl]
  rw[sZ (p:=p) (p':=p) (ts:=ts) (ts':=fun j=> if j=i then (t,t) else ts j) (fun j hj=>⟨rfl,by rw[if_neg (by omega)]⟩)]
 ·rcases lX with ⟨rfl,xc⟩ | lX
  ·rcases h2 with ⟨h2,_⟩ | ⟨_,_,_,_,h2⟩
   ·omega
   ·exact h2
  ·omega
 ·have Eg:n≠k':=by
    rcases lX with ⟨rfl,xc⟩ | lX
    ·rcases h2 with ⟨h2,_⟩ | ⟨_,_,_,h2,_⟩
     ·omega
     ·intro e;rw[e,h2] at h3;cases h3
    ·omega
  simp only[show n≠t by omega,Eg,if_false];exact h3
 ·intro j hj
  by_cases x5:j=i
  ·subst x5
   simp only[if_true]
   exact ⟨hT,trivial,trivial,by omega,by omega⟩
  ·obtain ⟨a1,a2,a3,a4,a5⟩:=h4 j (by omega)
   have hl:=a1.lt
   simp only[x5,if_false]
   have hk1:0 < i→(ts j).1≠k∧(ts j).2≠k:=fun xc=> by
     rcases h2 with ⟨h2,_⟩ | ⟨_,_,_,h2,_⟩
     ·omega
     ·exact ⟨fun e=> by rw[e,h2] at a2;omega,fun e=> by rw[e,h2] at a3;omega⟩
   have Gs:(ts j).1≠n∧(ts j).2≠n:=⟨fun e=> by rw[e,h3] at a2;omega,fun e=> by rw[e,h3] at a3;omega⟩
   have hkk:(ts j).1≠k'∧(ts j).2≠k':=by
     rcases lX with ⟨rfl,xc⟩ | lX
     ·exact hk1 xc
     ·omega
   refine ⟨?_,by rw[if_neg (by omega),if_neg hkk.1];exact a2,by rw[if_neg (by omega),if_neg hkk.2];exact a3,a4,a5⟩
   obtain ⟨x,b1,b2⟩:=a1
   refine ⟨x,ho _ _ Gs.1 (fun h=>(hk1 h).1) b1,?_⟩
   rcases b2 with b2 | ⟨b3,b4,b5⟩
   ·exact .inl b2
   ·exact .inr ⟨b3,b4,ho _ _ Gs.2 (fun h=>(hk1 h).2) b5⟩
theorem CN (b:Nat) (h:Hp) (x z:Int) (hb:b≤h.length) (h1:1≤z) (h2:z≤8) (h3:0≤x) (h4:x < z):∃v h',run fns pr b 15 [.s (.int .i64 x),.s (.int .i64 z)] h=some (v,h')∧∃F,v= .ptr h.length [0] 1∧jf h' h.length (bF.new x z) F∧Fw [] h h'∧∀j∈F,h.length≤j:=by
 refine Vm.eU (nt:=50) rfl TW (by simp) ?_
 have q1:¬z < 1:=by omega
 have q2:¬8 < z:=by omega
 have q3:¬x < 0:=by omega
 have q4:¬z≤x:=by omega
 simp only[B15,Oi,Oh,q1,q2,q3,q4,go_sem,simprocAttr]
 refine bo (fun m e H=>∃i y k ts own,m=16 - i∧i≤16∧e 27= .s (.int .i64 (i:Nat))∧e 5= .ptr h.length [0] 1∧e 0= .s (.int .i64 x)∧e 1= .s (.int .i64 z)∧SPp (bF.new x z).p x z h.length H i y k ts own∧Fw [] h H)
   (fun e H=> e 5= .ptr h.length [0] 1∧∃y k ts own,SPp (bF.new x z).p x z h.length H 16 y k ts own∧Fw [] h H)
   16 _ _ ⟨0,_,0,fun _=>(0,0),fun _=> 100,rfl,by omega,rfl,rfl,rfl,rfl,⟨aS _ _,.inl ⟨rfl,rfl⟩,rfl,fun j hj=> by omega⟩,Fw.app _ _ _⟩ ?_ ?_
 ·rintro m e H ⟨i,y,k,ts,own,rfl,hi,e27,e5,e0,e1,hp,fw⟩
  have nC:=hp
  obtain ⟨hm,hy,hom,hts⟩:=nC
  have hlm:=q6z hm
  by_cases c:i < 16
  ·have c':(i:Int)< 16:=by omega
   have jj:IntKind.i64.wrap ((i:Int)+1)=((i+1:Nat):Int):=q18z (by omega)
   have hn:=fun b' h0=> rU b' h0
   have hf:=fun h0=> IN b h0 i z c h1 h2
   have hmT:=fun t=> q10z hm t
   have hstT:=fun t b'=> nA hlm t b'
   have gr:∀(p:Bool) (q:Nat),(p || decide (b≤h.length+q))=true:=fun p q=> by simp;right;omega
   have gr0:decide (b≤h.length)=true:=by simpa using hb
   have grH:decide (b≤H.length+1)=true:=by have:=fw.len;simp;omega
   obtain ⟨P,hP⟩:∃P,V.st 96 [.s (.int .i64 (if (i:Int) % z=x then 1 else 0)),.s (.int .u64 1),ki,.ptr H.length [0] 1]=P:=⟨_,rfl⟩
   have hpi:ed ((bF.new x z).p i) H.length=P:=hP
   have pty:P.ty=some 96:=by rw[←hP];rfl
   have pso:P.aw=true:=by rw[←hP];rfl
   obtain ⟨A,hA⟩:∃A:List aT,[aT.cells (some 138) [.st 138 [.aq true (some 37) []]],.cells (some 96) [P]]=A:=⟨_,rfl⟩
   have hAl:A.length=2:=by rw[←hA];rfl
   have hA0:(H++A)[H.length]? =some (aT.cells (some 138) [.st 138 [.aq true (some 37) []]]):=by rw[←hA];exact aJ _ _ 0
   have hA1:(H++A)[H.length+1]? =some (aT.cells (some 96) [P]):=by rw[←hA];exact aJ _ _ 1
   have hB1:(H++(A++[.cells (some 96) [P]]))[H.length+1]? =some (aT.cells (some 96) [P]):=by rw[←hA];exact aJ _ _ 1
   have hB2:(H++(A++[.cells (some 96) [P]]))[H.length+2]? =some (aT.cells (some 96) [P]):=by rw[←hA];exact aJ _ _ 2
   have jF:source (H++(A++[.cells (some 96) [P]])) (.ref (H.length+A.length) [] (some 96) 0 1 1)=some (some 96,[P]):=(lh (show (H++(A++[.cells (some 96) [P]]))[H.length+A.length]? =some (.cells (some 96) [P]) by rw[hAl];exact hB2) rfl).src
   have hB0:(H++(A++[.cells (some 96) [P]]))[H.length]? =some (aT.cells (some 138) [.st 138 [.aq true (some 37) []]]):=by rw[←hA];exact aJ _ _ 0
   have key:∀(k':Nat) (H':Hp),k'=k∧0 < i∨H.length+2≤k'→H'[h.length]? =some (.cells (some 92) [.st 92 [.s (.int .i64 x),.s (.int .i64 z),.ref k' [] (some 96) 0 (i+1) (i+1)]])→H'[k']? =some (.cells (some 96) (gK (bF.new x z).p ts i++[P]))→
    H'[H.length]? =some (aT.cells (some 138) [.st 138 [.aq true (some 37) []]])→(∀(j:Nat) (b:aT),j≠h.length→(0 < i→j≠k)→H[j]? =some b→H'[j]? =some b)→Fw [] h H'→
    ∃m,m < 16 - i∧∃(i':Nat) (y:V) (k:Nat) (ts:Nat→Nat×Nat) (own:Nat→Nat),m=16 - i'∧i'≤16∧Value.int IntKind.i64 ((i+1:Nat):Int)=Value.int IntKind.i64 (i':Int)∧SPp (bF.new x z).p x z h.length H' i' y k ts own∧Fw [] h H':=by
     intro k' H' a1 a2 a3 a4 a5 a6
     have CL:k'≠H.length:=by
       rcases a1 with ⟨rfl,xc⟩ | a1
       ·rcases hy with ⟨h0,_⟩ | ⟨_,_,hk,_⟩
        ·omega
        ·have:=q6z hk;omega
       ·omega
     rw[←hpi] at a3
     obtain ⟨ts',own',hp2⟩:=hp.step (k':=k') (t:=H.length) (H':=H') hlm (abJ _) CL (a1.imp id fun h=> by omega) c a2 a3 ⟨_,a4,.inl ⟨rfl,rfl,rfl⟩⟩ a5
     exact ⟨16 - (i+1),by omega,i+1,_,k',ts',own',rfl,by omega,rfl,hp2,a6⟩
   rcases hy with ⟨h0,rfl⟩ | ⟨xc,rfl,hk,iH,hkb⟩
   ·have yj:=fun cf base=> kK (cf:=cf) (base:=base) (h:=H++(A++[.cells (some 96) [P]])) (g:=some 96) (bytes:=32) (ys:=[P]) jF (by simp) (by simp)
    have fin:=fun B=> key (H.length+(A.length+1)) (H.set h.length (aT.cells (some 92) [V.st 92 [.s (.int .i64 x),.s (.int .i64 z),.ref (H.length+(A.length+1)) [] (some 96) 0 1 1]])++(A++[aT.cells (some 96) [P],aT.cells (some 96) B])) (.inr (by omega))
      (by rw[h0];exact q10z (q9z hm) _)
    have fin:=fin [P] (by rw[aZ (n:=H.length) (by simp),abU (by omega),h0];simp[gK]) (by rw[aU (n:=H.length) (by simp),←hA];rfl) (fun j b hj _ hb=> q10z (by rw[abM (ado hj)];exact hb) _) ((fw.bX (abJ _) _).trans (Fw.app _ _ _))
    by_cases cf:(i:Int) % z=x
    ·rw[if_pos cf] at hP
     simp only[e27,e5,e0,e1,c',jj,hn,hf,cf,gr,grH,gr0,hP,pty,pso,hA,hmT,hA1,hstT,yj,go_sem,simprocAttr]
     exact fin
    ·rw[if_neg cf] at hP
     simp only[e27,e5,e0,e1,c',jj,hn,hf,cf,gr,grH,gr0,hP,pty,pso,hA,hmT,hA1,hstT,yj,go_sem,simprocAttr]
     exact fin
   ·have yj:=fun cf=> gR (cf:=cf) (base:=b) (h:=H++(A++[.cells (some 96) [P]])) (g:=some 96) (bytes:=32) (ys:=[P]) (q10z hk (A++[.cells (some 96) [P]])) jF (by simp) (by simp[bT];left;omega) (by simp[bW];omega)
    simp only[bW] at yj
    have hkn:k≠h.length:=fun e=> by rw[e,hom] at iH;omega
    have ml:=q6z hk
    have hmk:∀c,((H++(A++[aT.cells (some 96) [P]])).set k c)[h.length]? =some (.cells (some 92) [.st 92 [.s (.int .i64 x),.s (.int .i64 z),.ref k [] (some 96) 0 i i]]):=fun c=> by rw[abM hkn];exact hmT _
    have fin:=key k (((H++(A++[aT.cells (some 96) [P]])).set k (.cells (some 96) (gK (bF.new x z).p ts i++[P]))).set h.length (.cells (some 92) [.st 92 [.s (.int .i64 x),.s (.int .i64 z),.ref k [] (some 96) 0 (i+1) (i+1)]])) (.inl ⟨rfl,xc⟩)
      (q9z (hmk _)) (by rw[abM (ado hkn)];exact q9z (q10z hk _)) (by rw[abM (by omega),abM (by omega)];exact hB0)
      (fun j b hj hk hb=> by rw[abM (ado hj),abM (ado (hk xc))];exact q10z hb _) (((fw.trans (Fw.app _ _ _)).bX hkb _).bX (abJ _) _)
    by_cases cf:(i:Int) % z=x
    ·rw[if_pos cf] at hP
     simp only[e27,e5,e0,e1,c',jj,hn,hf,cf,gr,grH,gr0,hP,pty,pso,hA,hmT,hA1,hstT,yj,hmk,go_sem,simprocAttr]
     exact fin
    ·rw[if_neg cf] at hP
     simp only[e27,e5,e0,e1,c',jj,hn,hf,cf,gr,grH,gr0,hP,pty,pso,hA,hmT,hA1,hstT,yj,hmk,go_sem,simprocAttr]
     exact fin
  ·have c':¬(i:Int)< 16:=by omega
   obtain rfl:i=16:=by omega
   simp only[e27,e5,c',go_sem,simprocAttr]
   all_goals exact ⟨y,k,ts,own,hp,fw⟩
 ·rintro e H ⟨e5,y,k,ts,own,hp,fw⟩
  simp only[e5,go_sem,simprocAttr]
  obtain ⟨h1,h2,h3,h4⟩:=hp
  rcases h2 with ⟨h2,_⟩ | ⟨_,rfl,h6,h7,h8⟩
  ·omega
  ·refine ⟨(h.length::k::(List.range 16).flatMap fun j=> [(ts j).1,(ts j).2]),⟨k,ts,own,⟨h1,h6,fun j hj=>(h4 j hj).1,h3,h7,fun j hj=>⟨(h4 j hj).2.1,(h4 j hj).2.2.1⟩,by simp,by simp,fun j hj=>⟨by simp;right;right;exact ⟨j,hj,.inl rfl⟩,by simp;right;right;exact ⟨j,hj,.inr rfl⟩⟩,?_⟩⟩,fw,?_⟩
   all_goals
     intro j hj
     simp only[ack,List.mem_flatMap,acL,aeO,or_false] at hj
     rcases hj with rfl | rfl | ⟨a,ha,rfl | rfl⟩
   ·exact q6z h1
   ·exact q6z h6
   ·exact (h4 a ha).1.lt.1
   ·exact (h4 a ha).1.lt.2
   ·exact abJ _
   ·exact h8
   ·exact (h4 a ha).2.2.2.1
   ·exact (h4 a ha).2.2.2.2
structure POk (s:bF) (i:Nat) (q:pw):Prop where
 role:q.role=0∨q.role=1∨q.role=2
 e1:1≤q.aI
 e2:q.aI≤1099511627776
 abk:q.role=2→0≤q.to∧q.to < s.bL∧q.to≠s.mem
 to0:q.role≠2→q.to=0
 XG:q.role=0→q.vs=[]
 Eh:fZ q.vs
 len:q.vs.length≤4
 vs:∀v∈q.vs,aN v=true∧v.wf∧al v.iD=i
structure mQ (s:bF):Prop where
 m1:1≤s.bL
 m2:s.bL≤8
 m3:0≤s.mem
 m4:s.mem < s.bL
 p:∀i,i < 16→POk s i (s.p i)
theorem mQ.new {a b:Int} (h1:1≤b) (h2:b≤8) (h3:0≤a) (h4:a < b):mQ (bF.new a b):=
 ⟨h1,h2,h3,h4,fun i hi=>⟨by simp only[bF.new];split <;> simp,by simp[bF.new],by simp[bF.new],by simp only[bF.new];split <;> simp,by simp[bF.new],by simp[bF.new],List.Pairwise.nil,by simp[bF.new],by simp[bF.new]⟩⟩
theorem AX.sr {F:List Nat} {h:Hp} {m r:Nat} {s:bF} {ts:Nat→Nat×Nat} {own:Nat→Nat} (hp:AX h m s F r ts own):SR h (.ref r [] (some 96) 0 16 16) (some 96) (gK s.p ts 16):=lh hp.row (bW _ _ _)
theorem AX.app {F:List Nat} {h:Hp} {m r:Nat} {s:bF} {ts:Nat→Nat×Nat} {own:Nat→Nat} (hp:AX h m s F r ts own) (X:Hp):AX (h++X) m s F r ts own:=hp.mono (Fw.app [] h X) (by simp)
theorem mR (q:pw) (t:Nat):(ed q t).ty=some 96:=rfl
theorem mS (q:pw) (t:Nat):(ed q t).aw=true:=rfl
theorem AY (b:Nat) (h:Hp) (m:Nat) (s:bF) (F:List Nat) (hs:jf h m s F):run fns pr b 35 [.ptr m [0] 1] h=some (.bM [.s (.int .i64 s.mem),.s (.int .i64 s.bL)],h):=by
 obtain ⟨r,ts,own,hp⟩:=hs
 refine Vm.aQ (nt:=12) rfl UB (by simp) ?_
 simp only[B35,hp.o,go_sem,simprocAttr]
theorem CO (b:Nat) (h:Hp) (m n:Nat) (s:bF) (F:List Nat) (hs:jf h m s F) (hn:n < 16):run fns pr b 75 [.ptr m [0] 1,.s (.int .i64 (n:Nat))] h=some (.bM [.s (.int .i64 (s.p n).role),.s (.int .u64 (s.p n).aI),.s (.int .i64 (s.p n).to)],h):=by
 obtain ⟨r,ts,own,hp⟩:=hs
 refine Vm.aQ (nt:=24) rfl VU (by simp) ?_
 have hr:=fun h0=> nB h.length h0 n
 have q1:(0:Int)≤(n:Int):=by omega
 have q2:(n:Int)< 16:=by omega
 have ff:=fun cf base=> hp.sr.cZ (cf:=cf) (base:=base) (k:= .i64) (i:=n) (by rw[bW];exact hn)
 have iO:=fun cf base=> hp.sr.iy (cf:=cf) (base:=base) (dt _ _ _ _ hn) rfl
 simp only[B75,hr,q1,q2,hp.o,ff,iO,mR,mS,go_sem,simprocAttr]
 simp only[ed,abL,go_sem,simprocAttr]
theorem ta (b:Nat) (h:Hp) (m n:Nat) (s:bF) (F:List Nat) (hs:jf h m s F) (hk:mQ s) (hn:n < 16):run fns pr b 78 [.ptr m [0] 1,.s (.int .i64 (n:Nat))] h=some (.aq false (some 37) ((s.p n).vs.map ae.enc),h):=by
 obtain ⟨r,ts,own,hp⟩:=hs
 refine Vm.aQ (nt:=28) rfl V0 (by simp) ?_
 have ok:=hk.p n hn
 have hr:=fun h0=> nB h.length h0 n
 have q1:(0:Int)≤(n:Int):=by omega
 have q2:(n:Int)< 16:=by omega
 have ff:=fun cf base=> hp.sr.cZ (cf:=cf) (base:=base) (k:= .i64) (i:=n) (by rw[bW];exact hn)
 have hpn:(gK s.p ts 16)[n]? =some (.st 96 [.s (.int .i64 (s.p n).role),.s (.int .u64 (s.p n).aI),.s (.int .i64 (s.p n).to),.ptr (ts n).1 [0] 1]):=dt _ _ _ _ hn
 have Gv:=fun cf base=> hp.sr.AO (cf:=cf) (base:=base) (f:=0) hpn (by simp)
 have hf3:=fun cf base=> hp.sr.AO (cf:=cf) (base:=base) (f:=3) hpn (by simp)
 have DX:=fun cf base=> hp.sr.IP (cf:=cf) (base:=base) (f:=0) (g':=none) hpn rfl rfl
 have xd:=fun cf base=> hp.sr.IP (cf:=cf) (base:=base) (f:=3) (g':=none) hpn rfl rfl
 have Gw:=CM h.length h (ts n).1 (ts n).2 (s.p n).vs (hp.tab n hn) (by have:=ok.len;omega) (fun v hv=> q14z (ok.vs v hv).1)
 by_cases c:(s.p n).role=0
 ·rw[ok.XG c]
  simp only[B78,hr,q1,q2,hp.o,ff,Gv,DX,c,ab1,go_sem,simprocAttr]
 ·simp only[B78,hr,q1,q2,hp.o,ff,Gv,hf3,DX,xd,c,Gw,sV,go_sem,simprocAttr]
theorem tc (id:Bs):ec [] id=none:=by simp[ec]
theorem Mn (b:Nat) (h:Hp) (m:Nat) (s:bF) (F:List Nat) (id:Bs) (hs:jf h m s F) (hk:mQ s) (hl:id.length≤1000000):
 run fns pr b 76 [.ptr m [0] 1,.arr 28 (id.map aa)] h=some (.bM [((ec (s.p (al id)).vs id).getD zeroV).enc,.s (.bool (ec (s.p (al id)).vs id).isSome)],h):=by
 obtain ⟨r,ts,own,hp⟩:=hs
 refine Vm.aQ (nt:=25) rfl VW (by simp) ?_
 have hn:=eD id
 have ok:=hk.p _ hn
 have p6:=fun b h0=> gW b h0 id hl
 have cI:=fun X=>(hp.app X).o
 have ff:=fun cf base X=>(hp.app X).sr.cZ (cf:=cf) (base:=base) (k:= .i64) (i:=al id) (by rw[bW];exact hn)
 have iO:=fun cf base X=>(hp.app X).sr.iy (cf:=cf) (base:=base) (dt _ _ _ _ hn) rfl
 have uK:=fun b X=> CK b (h++X) (ts (al id)).1 (ts (al id)).2 (s.p (al id)).vs id ((hp.app X).tab _ hn) ok.Eh (by have:=ok.len;omega) (fun v hv=> q14z (ok.vs v hv).1)
 have haw:=ok.XG
 generalize hS:al id=S at *
 by_cases c:(s.p S).role=0
 ·rw[haw c,tc]
  simp only[B76,p6,cI,ff,iO,mR,mS,go_sem,simprocAttr]
  simp only[ed,c,jK,dr,go_sem,simprocAttr]
  rfl
 ·generalize ec (s.p S).vs id=o at *
  simp only[B76,p6,cI,ff,iO,mR,mS,go_sem,simprocAttr]
  simp only[ed,c,uK,bq,bu,lq,go_sem,simprocAttr]
def iQ (P:ae→Bool):List ae→Nat→Int
 | [],_=> -1
 | x::l,i=> if P x=true then i else iQ P l (i+1)
theorem td (P:ae→Bool):∀(l:List ae) (i:Nat),decide (0≤iQ P l i)=l.any P
 | [],i=> rfl
 | x::l,i=> by
   unfold iQ
   by_cases c:P x=true
   ·rw[if_pos c,List.any_cons,c];simp
   ·rw[if_neg c,td P l (i+1),List.any_cons];simp[c]
theorem Ei (b:Nat) (h:Hp) (x:V) (l:List ae) (f:Nat) (cap:List V) (P:ae→Bool) (hx:SR h x (some 37) (l.map ae.enc)) (hl:l.length≤1000) (hP:∀b,∀v∈l,run fns pr b f (v.enc::cap) h=some (.s (.bool (P v)),h)):
 run fns pr b 135 [x,.fn f cap] h=some (.s (.int .i64 (iQ P l 0)),h):=by
 refine Vm.aQ (nt:=19) rfl Qu (by simp) ?_
 have kF:∀cf base H,aB cf base H .len [x]=some (.s (.int .i64 (l.length:Nat)),H):=fun cf base H=> by rw[hx.bG];simp
 simp only[Qs,HG,HF,kF,go_sem,simprocAttr]
 refine bo (fun n e H=>∃i:Nat,n=l.length - i∧i≤l.length∧e 8= .s (.int .i64 i)∧e 7= .s (.int .i64 l.length)∧e 0=x∧e 1= .fn f cap∧H=h∧iQ P l 0=iQ P (l.drop i) i)
   (fun e H=> H=h∧iQ P l 0= -1) l.length _ _ ⟨0,by omega,by omega,rfl,rfl,rfl,rfl,rfl,rfl⟩ ?_ ?_
 ·rintro n e H ⟨i,rfl,hi,e8,e7,e0,e1,rfl,hf⟩
  by_cases c:i < l.length
  ·have c':(i:Int)< l.length:=by omega
   have hw:IntKind.i64.wrap ((i:Int)+1)=((i+1:Nat):Int):=q18z (by omega)
   have hv:l[i]? =some l[i]:=abE c
   have hd:l.drop i=l[i]::l.drop (i+1):=acJ c
   have hm:l[i]∈l:=acZ c
   generalize l[i]=v at hv hd hm
   have hc:=fun b=> hP b v hm
   have ff:=fun cf base=> hx.cZ (cf:=cf) (base:=base) (k:= .i64) (i:=i) (by simpa using c)
   have iO:=fun cf base=> hx.iy (cf:=cf) (base:=base) (i:=i) (v:=v.enc) (by rw[abT,hv];rfl) rfl
   rw[hd] at hf
   by_cases cp:P v=true
   ·have hf2:iQ P l 0=i:=by rw[hf];simp[iQ,cp]
    rw[hf2]
    simp only[e8,e7,e0,e1,c',ff,iO,hc,cp,bq,bu,acu,acj,go_sem,simprocAttr]
   ·have hf2:iQ P l 0=iQ P (l.drop (i+1)) (i+1):=by rw[hf];simp[iQ,cp]
    simp only[e8,e7,e0,e1,c',ff,iO,hc,cp,hw,bq,bu,acu,acj,go_sem,simprocAttr]
    exact ⟨l.length - (i+1),by omega,i+1,rfl,by omega,rfl,hf2⟩
  ·have c':¬(i:Int)< l.length:=by omega
   simp only[e8,e7,e0,e1,c',go_sem,simprocAttr]
   rw[hf,aeS (by omega)];rfl
 ·rintro e H ⟨rfl,hf⟩
  rw[hf]
  simp only[abL,go_sem,simprocAttr]
theorem pz (b:Nat) (h:Hp) (x:V) (l:List ae) (f:Nat) (cap:List V) (P:ae→Bool) (hx:SR h x (some 37) (l.map ae.enc)) (hl:l.length≤1000) (hP:∀b,∀v∈l,run fns pr b f (v.enc::cap) h=some (.s (.bool (P v)),h)):
 run fns pr b 96 [x,.fn f cap] h=some (.s (.bool (l.any P)),h):=by
 refine Vm.aQ (nt:=9) rfl Ww (by simp) ?_
 have hi:=fun b=> Ei b h x l f cap P hx hl hP
 have ha:=td P l 0
 simp only[B96,hi,ha,go_sem,simprocAttr]
def oL (s:bF) (v:ae):Int:=
 if (s.p (al v.iD)).role=0 then 26 else if (s.p (al v.iD)).role=2 then 27
 else if (ec (s.p (al v.iD)).vs v.iD).isSome=false∧4≤(s.p (al v.iD)).vs.length then 13 else 0
def CP (s:bF) (r:aC):Int:=
 if s.bL≤r.dS∨r.dS=s.mem then 1 else if (s.p r.aD.toNat).role=0 then 26 else if (s.p r.aD.toNat).role=2 then 27
 else if r.aI=(s.p r.aD.toNat).aI+1 then 0 else 1
def xe (s:bF) (r:aC):Int:=
 if (r.aj.any fun v=> decide ((al v.iD:Int)≠r.aD))=true then 1 else if (s.p r.aD.toNat).role=1 then 26
 else if r.aI≤(s.p r.aD.toNat).aI then 31 else 0
def cY (s:bF) (r:aC):Int:=
 if bm r=false then 1 else if r.kind=1 then oL s r.ax else if r.kind=2 then CP s r else if r.kind=3 then xe s r
 else if (s.p r.aD.toNat).role=2∧(s.p r.aD.toNat).aI=r.aI then 0 else 26
theorem IQ (b:Nat) (h:Hp) (m:Nat) (s:bF) (F:List Nat) (f:Bool) (v:ae) (hs:jf h m s F) (hk:mQ s) (hl:v.iD.length≤1000000):
 run fns pr b 48 [.ptr m [0] 1,v.aH f] h=some (.s (.int .i64 (oL s v)),h):=by
 obtain ⟨r,ts,own,hp⟩:=hs
 obtain ⟨a1,a2,a3,a4,a5,a6,a7,a8,a9⟩:=v
 simp only at hl
 refine Vm.aQ (nt:=42) rfl U2 (by simp) ?_
 have hn:=eD a1
 have ok:=hk.p _ hn
 have p6:=fun b h0=> gW b h0 a1 hl
 have cI:=fun X=>(hp.app X).o
 have ff:=fun cf base X=>(hp.app X).sr.cZ (cf:=cf) (base:=base) (k:= .i64) (i:=al a1) (by rw[bW];exact hn)
 have iO:=fun cf base X=>(hp.app X).sr.iy (cf:=cf) (base:=base) (dt _ _ _ _ hn) rfl
 have uK:=fun b X=> CK b (h++X) (ts (al a1)).1 (ts (al a1)).2 (s.p (al a1)).vs a1 ((hp.app X).tab _ hn) ok.Eh (by have:=ok.len;omega) (fun v hv=> q14z (ok.vs v hv).1)
 have mo:=fun b X=> Mj b (h++X) (ts (al a1)).1 (ts (al a1)).2 (s.p (al a1)).vs ((hp.app X).tab _ hn)
 have mi:=ok.len
 unfold oL
 simp only
 generalize hS:al a1=S at *
 generalize ec (s.p S).vs a1=o at *
 simp only[B48,ae.aH,p6,cI,ff,iO,mR,mS,go_sem,simprocAttr]
 have hle:((4:Int)≤(((s.p S).vs.length:Nat):Int))=(4≤(s.p S).vs.length):=propext (by omega)
 by_cases c0:(s.p S).role=0
 ·simp only[ed,c0,uK,bq,bu,abL,go_sem,simprocAttr]
 ·by_cases c2:(s.p S).role=2
  ·simp only[ed,c0,c2,uK,bq,bu,abL,go_sem,simprocAttr]
  ·cases o with
   | none=>
     by_cases c4:4≤(s.p S).vs.length
     ·simp only[ed,c0,c2,uK,mo,bq,bu,abL,hle,c4,acW,go_sem,simprocAttr]
      all_goals rfl
     ·simp only[ed,c0,c2,uK,mo,bq,bu,abL,hle,c4,acW,go_sem,simprocAttr]
      all_goals rfl
   | some w=>
     simp only[ed,c0,c2,uK,mo,bq,bu,abL,acQ,go_sem,simprocAttr]
     all_goals rfl
theorem Mo (b:Nat) (h:Hp) (m:Nat) (s:bF) (F:List Nat) (r:aC) (hs:jf h m s F) (hk:mQ s) (h0:0≤r.aD) (h1:r.aD < 16):
 run fns pr b 49 [.ptr m [0] 1,r.enc] h=some (.s (.int .i64 (CP s r)),h):=by
 obtain ⟨rw,ts,own,hp⟩:=hs
 obtain ⟨kind,aD,dS,aI,ax,aj⟩:=r
 simp only at h0 h1
 obtain ⟨n,rfl⟩:∃n:Nat,aD=(n:Int):=⟨aD.toNat,by omega⟩
 have hn:n < 16:=by omega
 refine Vm.aQ (nt:=46) rfl U4 (by simp) ?_
 have ok:=hk.p _ hn
 have cI:=fun X=>(hp.app X).o
 have ff:=fun cf base X=>(hp.app X).sr.cZ (cf:=cf) (base:=base) (k:= .i64) (i:=n) (by rw[bW];exact hn)
 have iO:=fun cf base X=>(hp.app X).sr.iy (cf:=cf) (base:=base) (dt _ _ _ _ hn) rfl
 have hw:IntKind.u64.wrap ((s.p n).aI+1)=(s.p n).aI+1:=by have:=ok.e1;have:=ok.e2;exact wrap_u64 (by omega) (by omega)
 unfold CP
 simp only[aca]
 simp only[B49,aC.enc,cI,ff,iO,mR,mS,go_sem,simprocAttr]
 by_cases c1:s.bL≤dS
 ·simp only[c1,abL,go_sem,simprocAttr]
  all_goals rfl
 ·by_cases c2:dS=s.mem
  ·have c1':¬s.bL≤s.mem:=by rw[←c2];exact c1
   simp only[cI,c1,c1',c2,abL,go_sem,simprocAttr]
   all_goals rfl
  ·by_cases c3:(s.p n).role=0
   ·simp only[cI,c1,c2,c3,ed,abL,go_sem,simprocAttr]
    all_goals rfl
   ·by_cases c4:(s.p n).role=2
    ·simp only[cI,c1,c2,c3,c4,ed,abL,go_sem,simprocAttr]
     all_goals rfl
    ·by_cases c5:aI=(s.p n).aI+1
     ·simp only[cI,c1,c2,c3,c4,c5,hw,ed,abL,go_sem,simprocAttr]
      all_goals rfl
     ·simp only[cI,c1,c2,c3,c4,c5,hw,ed,abL,go_sem,simprocAttr]
      all_goals rfl
theorem Ej (b:Nat) (h:Hp) (n:Nat) (v:ae) (rest:List V) (id:Nat) (hl:v.iD.length≤1000000) (k:V) (hg:h[id]? =some (.cells (some 40) [.st 40 (k:: .s (.int .i64 (n:Nat))::rest)])):
 run fns pr b 97 [v.enc,.ptr id [0] 1] h=some (.s (.bool (decide ((al v.iD:Int)≠(n:Nat)))),h):=by
 refine Vm.aQ (nt:=10) rfl Wy (by simp) ?_
 obtain ⟨a1,a2,a3,a4,a5,a6,a7,a8,a9⟩:=v
 simp only at hl ⊢
 have p6:=fun b h0=> gW b h0 a1 hl
 have cI:=fun X=> q10z hg X
 generalize al a1=S at *
 have hq:1 < rest.length+1+1:=by omega
 simp only[B97,ae.enc,p6,cI,hq,abL,go_sem,simprocAttr]
 all_goals simp[bne,abK]
theorem IS (b:Nat) (h:Hp) (m:Nat) (s:bF) (F:List Nat) (r:aC) (hs:jf h m s F) (hk:mQ s) (h0:0≤r.aD) (h1:r.aD < 16) (hv:∀v∈r.aj,v.wf) (hl:r.aj.length≤4):
 run fns pr b 50 [.ptr m [0] 1,r.enc] h=some (.s (.int .i64 (xe s r)),h):=by
 obtain ⟨rw,ts,own,hp⟩:=hs
 obtain ⟨kind,aD,dS,aI,ax,aj⟩:=r
 simp only at h0 h1 hv hl
 obtain ⟨n,rfl⟩:∃n:Nat,aD=(n:Int):=⟨aD.toNat,by omega⟩
 have hn:n < 16:=by omega
 refine Vm.aQ (nt:=29) rfl U6 (by simp) ?_
 have ok:=hk.p _ hn
 have cI:=fun X=>(hp.app X).o
 have ff:=fun cf base X=>(hp.app X).sr.cZ (cf:=cf) (base:=base) (k:= .i64) (i:=n) (by rw[bW];exact hn)
 have iO:=fun cf base X=>(hp.app X).sr.iy (cf:=cf) (base:=base) (dt _ _ _ _ hn) rfl
 have hc:=fun b H (hg:H[h.length]? =_)=> pz b H (.aq false (some 37) (aj.map ae.enc)) aj 97 [.ptr h.length [0] 1] (fun v=> decide ((al v.iD:Int)≠(n:Nat))) (.inl ⟨_,rfl⟩) (by omega)
   (fun b v hm=> Ej b H n v [.s (.int .i64 dS),.s (.int .u64 aI),ax.enc,.aq false (some 37) (aj.map ae.enc)] h.length (by have:=(hv v hm).iD;omega) (.s (.int .i64 kind)) hg)
 have Gt:=fun b X=> hc b (h++aT.cells (some 40) [.st 40 [.s (.int .i64 kind),.s (.int .i64 n),.s (.int .i64 dS),.s (.int .u64 aI),ax.enc,.aq false (some 37) (aj.map ae.enc)]]::X) (by simp)
 unfold xe
 simp only[aca]
 generalize (aj.any fun v=> decide ((al v.iD:Int)≠(n:Nat)))=q at *
 simp only[B50,aC.enc,cI,ff,iO,mR,mS,go_sem,simprocAttr]
 cases q
 ·by_cases c3:(s.p n).role=1
  ·simp only[Gt,c3,ed,abL,go_sem,simprocAttr]
   all_goals rfl
  ·by_cases c4:aI≤(s.p n).aI
   ·simp only[Gt,c3,c4,ed,abL,go_sem,simprocAttr]
    all_goals rfl
   ·simp only[Gt,c3,c4,ed,abL,go_sem,simprocAttr]
    all_goals rfl
 ·simp only[Gt,abL,go_sem,simprocAttr]
  all_goals rfl
theorem nD {r:aC} (h:bm r=true) (h1:r.kind≠1):0≤r.aD∧r.aD < 16∧1≤r.aI∧r.aI≤1099511627776∧r.ax=zeroV:=by
 unfold bm lu at h
 rw[if_neg h1] at h
 split at h
 ·simp at h;simp[h]
 ·split at h
  ·simp at h;simp[h]
  ·split at h
   ·simp at h;simp[h]
   ·cases h
theorem qk {r:aC} (h:bm r=true):r.aj.length≤4:=by
 unfold bm at h
 split at h
 ·simp at h;simp[h]
 ·split at h
  ·simp at h;simp[h]
  ·split at h
   ·rw[abH] at h
    have:=h.2
    unfold dj at this
    rw[abH,decide_eq_true_eq] at this
    exact this.1
   ·split at h
    ·simp at h;simp[h]
    ·cases h
theorem yI (b:Nat) (h:Hp) (m:Nat) (s:bF) (F:List Nat) (r:aC) (hs:jf h m s F) (hk:mQ s) (hw:r.wf) (hv:∀v∈r.aj,v.wf):
 run fns pr b 20 [.ptr m [0] 1,r.enc] h=some (.s (.int .i64 (cY s r)),h):=by
 have xZ:=fun b X=> mI b (h++X) r hv
 have xf:=fun b X=> IQ b (h++X) m s F false r.ax (hs.app X) hk (by have:=hw.ax.iD;omega)
 have hgo:=fun b X h0 h1=> Mo b (h++X) m s F r (hs.app X) hk h0 h1
 have hco:=fun b X h0 h1 h4=> IS b (h++X) m s F r (hs.app X) hk h0 h1 hv h4
 have hgk:=nD (r:=r)
 have hg4:=qk (r:=r)
 have dO:r.enc.ty=some 40:=rfl
 have ny:r.enc.aw=true:=rfl
 obtain ⟨rw,ts,own,hp⟩:=hs
 refine Vm.aQ (nt:=45) rfl T7 (by simp) ?_
 unfold cY
 cases hr:bm r with
 | false=>
   rw[if_pos rfl]
   simp only[B20,xZ,hr,dO,ny,abL,go_sem,simprocAttr]
 | true=>
   rw[if_neg (by simp)]
   have h4:=hg4 hr
   have hgk:=hgk hr
   obtain ⟨kind,aD,dS,aI,ax,aj⟩:=r
   simp only[aC.enc,ae.kG] at *
   by_cases k1:kind=1
   ·subst k1
    rw[if_pos rfl]
    simp only[B20,xZ,hr,xf,iC,iE,abL,go_sem,simprocAttr]
   ·rw[if_neg k1]
    obtain ⟨g1,g2,g3,g4,g5⟩:=hgk k1
    have hgo:=fun b X=> hgo b X g1 g2
    have hco:=fun b X=> hco b X g1 g2 h4
    by_cases k2:kind=2
    ·subst k2
     rw[if_pos rfl]
     simp only[B20,xZ,hr,hgo,iC,iE,abL,go_sem,simprocAttr]
    ·rw[if_neg k2]
     by_cases k3:kind=3
     ·subst k3
      rw[if_pos rfl]
      simp only[B20,xZ,hr,hco,iC,iE,abL,go_sem,simprocAttr]
     ·rw[if_neg k3]
      obtain ⟨n,rfl⟩:∃n:Nat,aD=(n:Int):=⟨aD.toNat,by omega⟩
      have hn:n < 16:=by omega
      have cI:=fun X=>(hp.app X).o
      have ff:=fun cf base X=>(hp.app X).sr.cZ (cf:=cf) (base:=base) (k:= .i64) (i:=n) (by rw[bW];exact hn)
      have iO:=fun cf base X=>(hp.app X).sr.iy (cf:=cf) (base:=base) (dt _ _ _ _ hn) rfl
      simp only[aca]
      simp only[B20,xZ,hr,k1,k2,k3,cI,ff,iO,mR,mS,go_sem,simprocAttr]
      by_cases c1:(s.p n).role=2
      ·by_cases c2:(s.p n).aI=aI
       ·simp only[c1,c2,ed,abL,go_sem,simprocAttr]
        all_goals rfl
       ·simp only[c1,c2,ed,abL,go_sem,simprocAttr]
        all_goals rfl
      ·simp only[c1,ed,abL,go_sem,simprocAttr]
       all_goals rfl
def bE (s:bF) (r:aC):Int×bF:=
 if cY s r≠0 then (cY s r,s)
 else if r.kind=1 then ((pv (s.p (al r.ax.iD)).vs r.ax).1,s.pU (al r.ax.iD) {s.p (al r.ax.iD) with vs:=(pv (s.p (al r.ax.iD)).vs r.ax).2})
 else if r.kind=2 then (0,s.pU r.aD.toNat ⟨2,r.aI,r.dS,(s.p r.aD.toNat).vs⟩)
 else if r.kind=3 then (0,s.pU r.aD.toNat ⟨1,r.aI,0,r.aj⟩)
 else (0,s.pU r.aD.toNat ⟨0,r.aI,0,[]⟩)
theorem q27z {l:List ae} (h:dj l=true):∀(j i:Nat) (hij:i < j) (hj:j < l.length),cN (l[i]).iD (l[j]).iD < 0:=by
 unfold dj at h
 rw[abH,abZ] at h
 have step:∀i (hi:i+1 < l.length),cN (l[i]).iD (l[i+1]).iD < 0:=fun i hi=> by
   have:=h.2 (i+1) (acL.2 hi)
   unfold iP at this
   rw[abH] at this
   have:=this.2
   simp only[aez,List.getD,abE hi,abE (show i < l.length by omega),ace] at this
   simpa using this
 intro j
 induction j with
 | zero=> intro i hij;omega
 | succ j ih=>
   intro i hij hj
   rcases adg i j with h1 | h1
   ·exact fL _ _ _ (ih i h1 (by omega)) (step j hj)
   ·obtain rfl:i=j:=by omega
    exact step i hj
theorem q28z {l:List ae} (h:dj l=true):rising l=true:=by
 have h1:=q27z h
 unfold dj at h
 rw[abH,decide_eq_true_eq,abZ] at h
 unfold rising
 rw[abH,abH,decide_eq_true_eq,decide_eq_true_eq,abZ]
 refine ⟨⟨h.1,fun v hv=> ?_⟩,ad1.2 fun i j hi hj hij=> h1 j i hij hj⟩
 obtain ⟨i,hi,rfl⟩:=List.getElem_of_mem hv
 have:=h.2 i (acL.2 hi)
 unfold iP at this
 rw[abH,List.getD,abE hi] at this
 exact this.1
theorem q24z {l:List V} {i:Nat} {x:V} (h:l[i]? =some x):l.set i x=l:=acB fun k=> by
 rw[acs]
 by_cases hk:i=k
 ·subst hk
  obtain ⟨h1,h2⟩:=abF.1 h
  simp[h1,h,h2]
 ·simp[hk]
theorem AX.vs {F:List Nat} {h h':Hp} {m r i k':Nat} {s:bF} {ts:Nat→Nat×Nat} {own:Nat→Nat} {l:List ae} (hp:AX h m s F r ts own) (hi:i < 16)
 (hT:TR h' (ts i).1 k' l) (f:Fw [(ts i).1,(ts i).2] h h') (hk:k'=(ts i).2∨k'=(ts i).1∨h.length≤k'):
 ∃F',jf h' m (s.pU i {s.p i with vs:=l}) F'∧Fw F h h'∧∀j∈F',j∈F∨h.length≤j:=by
 obtain ⟨o1,o2⟩:=hp.ot _ hi
 have da:∀j,j≠(ts i).1→j≠(ts i).2→j∉ [(ts i).1,(ts i).2]:=fun j h1 h2=> by simp[h1,h2]
 have cw:=f.cH _ _ hp.row (da r (fun e=> by rw[←e,hp.orr] at o1;omega) (fun e=> by rw[←e,hp.orr] at o2;omega))
 refine ⟨_,hp.part (q:= {s.p i with vs:=l}) (t':=(ts i).1) hi ?_ hT (fun j b _ h1 h2 hb=> f.cH _ _ hb (da j h1 h2)) (.inl rfl) hk f.len,f.mono ?_,?_⟩
 ·rw[cw];congr 2;exact (q24z (dt _ _ _ _ hi)).symm
 ·intro j hj
  simp only[ack,aeO,or_false] at hj
  rcases hj with rfl | rfl
  ·exact (hp.ft _ hi).1
  ·exact (hp.ft _ hi).2
 ·intro j hj
  simp only[ack] at hj
  rcases hj with rfl | rfl | hj
  ·exact .inl (hp.ft _ hi).1
  ·rcases hk with rfl | rfl | hk
   ·exact .inl (hp.ft _ hi).2
   ·exact .inl (hp.ft _ hi).1
   ·exact .inr hk
  ·exact .inl hj
theorem AX.XH {F:List Nat} {h h':Hp} {m r i t' k':Nat} {s:bF} {ts:Nat→Nat×Nat} {own:Nat→Nat} {q:pw} (hp:AX h m s F r ts own) (hi:i < 16)
 (hr:h'[r]? =some (.cells (some 96) ((gK s.p ts 16).set i (ed q t')))) (hT:TR h' t' k' q.vs) (f:Fw [r,(ts i).1,(ts i).2] h h') (ht:t'=(ts i).1∨h.length≤t') (hk:k'=(ts i).2∨k'=(ts i).1∨h.length≤k'):
 ∃F',jf h' m (s.pU i q) F'∧Fw F h h'∧∀j∈F',j∈F∨h.length≤j:=by
 refine ⟨_,hp.part hi hr hT (fun j b h0 h1 h2 hb=> f.cH _ _ hb (by simp[h0,h1,h2])) ht hk f.len,f.mono ?_,?_⟩
 ·intro j hj
  simp only[ack,aeO,or_false] at hj
  rcases hj with rfl | rfl | rfl
  ·exact hp.fr
  ·exact (hp.ft _ hi).1
  ·exact (hp.ft _ hi).2
 ·intro j hj
  simp only[ack] at hj
  rcases hj with rfl | rfl | hj
  ·rcases ht with rfl | ht
   ·exact .inl (hp.ft _ hi).1
   ·exact .inr ht
  ·rcases hk with rfl | rfl | hk
   ·exact .inl (hp.ft _ hi).2
   ·exact .inl (hp.ft _ hi).1
   ·exact .inr hk
  ·exact .inl hj
theorem IT (b:Nat) (h:Hp) (m:Nat) (s:bF) (F:List Nat) (r:aC) (hF:∀j∈F,b≤j) (hs:jf h m s F) (hk:mQ s) (hw:r.wf) (hv:∀v∈r.aj,v.wf):
 ∃v h',run fns pr b 27 [.ptr m [0] 1,r.enc] h=some (v,h')∧v= .s (.int .i64 (bE s r).1)∧∃F',jf h' m (bE s r).2 F'∧Fw F h h'∧∀j∈F',j∈F∨h.length≤j:=by
 have Ad:=fun b X=> yI b (h++X) m s F r (hs.app X) hk hw hv
 have dO:r.enc.ty=some 40:=rfl
 have ny:r.enc.aw=true:=rfl
 have p7:=hs
 obtain ⟨rw,ts,own,hp⟩:=hs
 refine Vm.eU (nt:=79) rfl Ul (by simp) ?_
 unfold bE
 by_cases c0:cY s r=0
 case neg=>
   rw[if_pos c0]
   simp only[B27,Ad,c0,dO,ny,go_sem,simprocAttr]
   exact ⟨_,p7.app _,Fw.app _ _ _,fun j hj=> .inl hj⟩
 rw[if_neg (by simp[c0])]
 have hr:bm r=true:=by
   cases hr:bm r with
   | true=> rfl
   | false=> unfold cY at c0;rw[if_pos hr] at c0;cases c0
 have hgk:=nD hr
 rw[c0] at Ad
 by_cases k1:r.kind=1
 ·rw[if_pos k1]
  have jY:aN r.ax=true:=by unfold bm at hr;rw[if_pos k1] at hr;simp at hr;simp[hr]
  obtain ⟨kind,aD,dS,aI,ax,aj⟩:=r
  obtain ⟨w1,w2,w3,w4,w5,w6⟩:=hw
  simp only at k1 jY w5 ⊢
  subst k1
  have hvi:ax.iD.length=4:=by have:=w5.iD;omega
  have hn:=eD ax.iD
  have ok:=hk.p _ hn
  have p6:=fun b h0=> gW b h0 ax.iD (by omega)
  have cI:=fun X=>(hp.app X).o
  have ff:=fun cf base X=>(hp.app X).sr.cZ (cf:=cf) (base:=base) (k:= .i64) (i:=al ax.iD) (by rw[bW];exact hn)
  have hpn:(gK s.p ts 16)[al ax.iD]? =some (.st 96 [.s (.int .i64 (s.p (al ax.iD)).role),.s (.int .u64 (s.p (al ax.iD)).aI),.s (.int .i64 (s.p (al ax.iD)).to),.ptr (ts (al ax.iD)).1 [0] 1]):=dt _ _ _ _ hn
  have hf3:=fun cf base X=>(hp.app X).sr.AO (cf:=cf) (base:=base) (f:=3) hpn (by simp)
  have xd:=fun cf base X=>(hp.app X).sr.IP (cf:=cf) (base:=base) (f:=3) (g':=none) hpn rfl rfl
  have hpu:=Mm b (h++[aT.cells (some 40) [aC.enc ⟨1,aD,dS,aI,ax,aj⟩]]) (ts (al ax.iD)).1 (ts (al ax.iD)).2 (s.p (al ax.iD)).vs ax (hF _ (hp.ft _ hn).1) ((hp.app _).tab _ hn) ok.Eh ok.len
  have mT:aC.enc ⟨1,aD,dS,aI,ax,aj⟩=V.st 40 [.s (.int .i64 1),.s (.int .i64 aD),.s (.int .i64 dS),.s (.int .u64 aI),ax.enc,.aq false (some 37) (aj.map ae.enc)]:=rfl
  have hve:ax.enc= .st 37 [.arr 28 (ax.iD.map aa),.s (.int .u64 ax.gen),.arr 22 (ax.iY.map aa),.aq false none (ax.aL.map aa),.s (.int .i64 ax.bA),.s (.int .i64 ax.used),.arr 22 (ax.owner.map aa),.s (.bool ax.gone),.s (.bool ax.qJ)]:=rfl
  rw[mT] at Ad hpu ⊢
  rw[hve] at Ad hpu ⊢
  generalize hEs:(aj.map ae.enc)=es at *
  obtain ⟨H2,k2,hpu,hT,f2,AK⟩:=hpu
  have fA:∀X,Fw [] h (h++X):=fun X=> Fw.app [] h X
  have fin:=(hp.mono (fA _) (by simp)).vs hn hT f2 (by omega)
  obtain ⟨F',q1,q2,q3⟩:=fin
  have q2:=((fA _).mono (T:=F) (by simp)).trans q2
  have q3:∀j∈F',j∈F∨h.length≤j:=fun j hj=>(q3 j hj).imp id fun h=> by rw[abI] at h;omega
  simp only[B27,Ad,p6,cI,ff,hf3,xd,hpu,go_sem,simprocAttr]
  exact ⟨F',q1,q2,q3⟩
 ·rw[if_neg k1]
  obtain ⟨g1,g2,g3,g4,g5⟩:=hgk k1
  have h4:=qk hr
  have hrk:=q29z hr
  have yJ:r.kind=3→rising r.aj=true:=fun k3=> by
    unfold bm at hr
    rw[k3] at hr
    simp at hr
    exact q28z hr.2
  obtain ⟨kind,aD,dS,aI,ax,aj⟩:=r
  simp only at k1 g1 g2 g3 g4 h4 hrk yJ ⊢
  obtain ⟨n,rfl⟩:∃n:Nat,aD=(n:Int):=⟨aD.toNat,by omega⟩
  have hn:n < 16:=by omega
  simp only[aca]
  have mT:aC.enc ⟨kind,n,dS,aI,ax,aj⟩=V.st 40 [.s (.int .i64 kind),.s (.int .i64 n),.s (.int .i64 dS),.s (.int .u64 aI),ax.enc,.aq false (some 37) (aj.map ae.enc)]:=rfl
  rw[mT] at Ad ⊢
  have hpA:=hp.app [aT.cells (some 40) [V.st 40 [.s (.int .i64 kind),.s (.int .i64 n),.s (.int .i64 dS),.s (.int .u64 aI),ax.enc,.aq false (some 37) (aj.map ae.enc)]]]
  have fA:Fw [] h (h++[aT.cells (some 40) [V.st 40 [.s (.int .i64 kind),.s (.int .i64 n),.s (.int .i64 dS),.s (.int .u64 aI),ax.enc,.aq false (some 37) (aj.map ae.enc)]]]):=Fw.app [] h _
  have hid:(h++[aT.cells (some 40) [V.st 40 [.s (.int .i64 kind),.s (.int .i64 n),.s (.int .i64 dS),.s (.int .u64 aI),ax.enc,.aq false (some 37) (aj.map ae.enc)]]])[h.length]? =some (aT.cells (some 40) [V.st 40 [.s (.int .i64 kind),.s (.int .i64 n),.s (.int .i64 dS),.s (.int .u64 aI),ax.enc,.aq false (some 37) (aj.map ae.enc)]]):=aS _ _
  have hcA:=fun b=> Ad b [aT.cells (some 40) [V.st 40 [.s (.int .i64 kind),.s (.int .i64 n),.s (.int .i64 dS),.s (.int .u64 aI),ax.enc,.aq false (some 37) (aj.map ae.enc)]]]
  have hlA:(h++[aT.cells (some 40) [V.st 40 [.s (.int .i64 kind),.s (.int .i64 n),.s (.int .i64 dS),.s (.int .u64 aI),ax.enc,.aq false (some 37) (aj.map ae.enc)]]]).length=h.length+1:=by simp
  have rI:=q6z hp.row
  have da:rw≠h.length:=by omega
  clear Ad p7
  generalize hHA:h++[aT.cells (some 40) [V.st 40 [.s (.int .i64 kind),.s (.int .i64 n),.s (.int .i64 dS),.s (.int .u64 aI),ax.enc,.aq false (some 37) (aj.map ae.enc)]]]=HA at *
  have ff:=fun cf base=> hpA.sr.cZ (cf:=cf) (base:=base) (k:= .i64) (i:=n) (by rw[bW];exact hn)
  have hep:k8 (.ref rw [] (some 96) 0 16 16) n= .ptr rw [n] 16:=by simp[k8]
  simp only[hep] at ff
  have hPn:(gK s.p ts 16)[n]? =some (.st 96 [.s (.int .i64 (s.p n).role),.s (.int .u64 (s.p n).aI),.s (.int .i64 (s.p n).to),.ptr (ts n).1 [0] 1]):=dt _ _ _ _ hn
  have hPl:=bW s.p ts 16
  have hPs:∀x,((gK s.p ts 16).set n x)[n]? =some x:=fun x=> by rw[adK (by rw[hPl];exact hn)]
  have hgo:=hpA.o
  have Ab:=hpA.row
  have pA:b≤rw:=hF _ hp.fr
  have ba:∀B,(HA.set rw B)[rw]? =some B:=fun B=> q9z Ab
  have hsi:∀B,(HA.set rw B)[h.length]? =HA[h.length]? :=fun B=> by rw[abM da]
  have k9:∀es',Fw [rw,(ts n).1,(ts n).2] HA (HA.set rw (.cells (some 96) es')):=fun es'=> Fw.set (by simp) Ab
  have hnr:(ts n).1≠rw∧(ts n).2≠rw:=by
    obtain ⟨o1,o2⟩:=hp.ot _ hn
    exact ⟨fun e=> by rw[e,hp.orr] at o1;omega,fun e=> by rw[e,hp.orr] at o2;omega⟩
  have fin:∀(q:pw) (t' k':Nat) (h':Hp),h'[rw]? =some (.cells (some 96) ((gK s.p ts 16).set n (ed q t')))→TR h' t' k' q.vs→Fw [rw,(ts n).1,(ts n).2] HA h'→(t'=(ts n).1∨HA.length≤t')→(k'=(ts n).2∨k'=(ts n).1∨HA.length≤k')→∃F',jf h' m (s.pU n q) F'∧Fw F h h'∧∀j∈F',j∈F∨h.length≤j:=by
    intro q t' k' h' a1 a2 a3 a4 a5
    obtain ⟨F',q1,q2,q3⟩:=hpA.XH hn a1 a2 a3 a4 a5
    exact ⟨F',q1,(fA.mono (by simp)).trans q2,fun j hj=>(q3 j hj).imp id fun h=> by omega⟩
  by_cases k2:kind=2
  ·subst k2
   rw[if_pos rfl]
   simp only[B27,hHA,hcA,c0,hgo,ff,hid,Ab,hPn,hPs,hPl,ba,hsi,pA,acM,go_sem,simprocAttr]
   exact fin ⟨2,aI,dS,(s.p n).vs⟩ (ts n).1 (ts n).2 _ (ba _) ((hpA.tab n hn).mono (S:=[rw]) (Fw.set (by simp) Ab) (by simp[hnr]) (by simp[hnr])) (k9 _) (.inl rfl) (.inl rfl)
  ·rw[if_neg k2]
   by_cases k3:kind=3
   ·subst k3
    rw[if_pos rfl]
    have hTB:=fun es'=>(hpA.tab n hn).mono (S:=[rw]) (Fw.set (es':=es') (by simp) Ab) (by simp[hnr]) (by simp[hnr])
    have nZ:=yG b (HA.set rw (.cells (some 96) ((gK s.p ts 16).set n (ed ⟨1,aI,0,aj⟩ (ts n).1)))) (ts n).1 (ts n).2 (s.p n).vs aj (.aq false (some 37) (aj.map ae.enc)) (hF _ (hp.ft _ hn).1) (hTB _) (.inl ⟨_,rfl⟩) (by omega)
    rw[yJ rfl,if_pos rfl] at nZ
    obtain ⟨H2,k',nZ,hT,f2,lX⟩:=nZ
    simp only[ed] at nZ
    simp only[B27,hHA,hcA,c0,hgo,ff,hid,Ab,hPn,hPs,hPl,ba,hsi,pA,acM,nZ,go_sem,simprocAttr]
    have cw:=f2.cH _ _ (ba _) (by simp[ado hnr.1])
    exact fin ⟨1,aI,0,aj⟩ (ts n).1 k' _ cw hT ((k9 _).trans (f2.mono (by simp))) (.inl rfl) (by simpa using lX)
   ·rw[if_neg k3]
    have hnw:=rU b (HA.set rw (.cells (some 96) ((gK s.p ts 16).set n (.st 96 [.s (.int .i64 (s.p n).role),.s (.int .u64 aI),.s (.int .i64 (s.p n).to),.ptr (ts n).1 [0] 1]))))
    have qa:∀B X,(HA.set rw B++X)[rw]? =some B:=fun B X=> q10z (ba B) X
    have aag:∀B B' X,(HA.set rw B++X).set rw B'=HA.set rw B'++X:=fun B B' X=> by rw[nA (by rw[adf];exact q6z Ab),acM]
    have aah:∀B X,(HA.set rw B++X)[h.length]? =HA[h.length]? :=fun B X=> by rw[acq (by rw[adf];omega)];exact hsi B
    simp only[B27,hHA,hcA,c0,hgo,ff,hid,Ab,hPn,hPs,hPl,ba,hsi,pA,acM,hnw,k1,k2,k3,qa,aag,aah,go_sem,simprocAttr]
    exact fin ⟨0,aI,0,[]⟩ HA.length HA.length _ (qa _ _) ⟨_,by rw[abU (by simp)];simp,.inl ⟨rfl,rfl,rfl⟩⟩ ((k9 _).trans (Fw.app _ _ _)) (.inr (abJ _)) (.inr (.inr (abJ _)))
end Go.Proofs.YtggjbepemdhohaaGreat
