/- Texts for DeskShards, part 3. Conditions: none. -/
import Derived.Test.YtggjbepemdhohaaGreatCTb
set_option linter.unusedSimpArgs false
set_option linter.unusedVariables false
set_option linter.unusedSectionVars false
namespace Go.Proofs.YtggjbepemdhohaaGreat
open Go Go.Vm Go.Proofs Go.Cl
set_option maxRecDepth 100000
theorem Rw (n:Nat) (h:n < 256):(UInt8.ofNat n).toNat=n:=by
 rw[aeo];omega
def mu :List V:=bd.map aa
def wvR :List V:=[.s (.int .u32 1668047222),.s (.int .u32 1768383858),.s (.int .u32 1801807216),.s (.int .u32 1935763045)]
def mi (l:Bs) (z:Nat):Bs:=l++[128]++List.replicate z 0
theorem Bj (l:Bs) (z:Nat):mi l (z+1)=mi l z++[0]:=by simp[mi,List.replicate_succ']
theorem qx (l:Bs) (z:Nat):(mi l z).length=l.length+1+z:=by simp[mi];omega
theorem C4 (n:Nat):V.s (.int .u8 (IntKind.u8.wrap (n:Int)))=aa (UInt8.ofNat (n % 256)):=by
 have:IntKind.u8.wrap (n:Int)=(n:Int) % 256:=by
   simp only[IntKind.wrap,IntKind.bits,IntKind.signed];rfl
 rw[this,aa,Rw (n % 256) (by omega)]
 congr 2
theorem ri (n:Nat) (h:Hp):∀l:Bs,bE.all n h (l.map aa)=some (l.map aa)
 | []=> sV n h
 | b::l=> by rw[ab7,qh,ri n h l];rfl
theorem XJ (h:Hp) (a b:aT):(h++[a,b])[h.length]? =some a∧(h++[a,b])[h.length+1]? =some b:=by
 constructor
 ·rw[acb (ab0 _)];simp
 ·rw[acb (by omega)];simp
theorem xo (l:Bs):∀z∈l.map aa,V.ground z=true:=by
 intro z hz
 obtain ⟨b,_,rfl⟩:=acW.1 hz
 rfl
theorem yR (l:Bs):nS (l.take 4)=nS l:=by
 simp[nS,List.getD,ac7]
def GR (h:Hp):Hp:=h++[aT.cells (some 22) [.arr 22 mu],aT.cells none wvR]
def lF (Y:W) (i:Nat):W:=⟨Y.a / 256 ^ min i 4,Y.b / 256 ^(min i 8 - 4),Y.c / 256 ^(min i 12 - 8),Y.d / 256 ^(i - 12)⟩
theorem C5 (Y:W) (i:Nat) (hi:i < 16):(lF Y i).at (i / 4)=Y.at (i / 4)/ 2 ^(8 *(i % 4)):=by
 have:i=0∨i=1∨i=2∨i=3∨i=4∨i=5∨i=6∨i=7∨i=8∨i=9∨i=10∨i=11∨i=12∨i=13∨i=14∨i=15:=by omega
 rcases this with h | h | h | h | h | h | h | h | h | h | h | h | h | h | h | h <;> subst h <;> simp[lF,W.at]
theorem Eu (Y:W) (i:Nat) (hi:i < 16):(lF Y i).vs.set (i / 4) (.s (.int .u32 (((lF Y i).at (i / 4)/ 256:Nat):Int)))=(lF Y (i+1)).vs:=by
 have:i=0∨i=1∨i=2∨i=3∨i=4∨i=5∨i=6∨i=7∨i=8∨i=9∨i=10∨i=11∨i=12∨i=13∨i=14∨i=15:=by omega
 rcases this with h | h | h | h | h | h | h | h | h | h | h | h | h | h | h | h <;> subst h <;> simp[lF,W.at,W.vs,ad1]
theorem xp (b:Nat) (h:Hp) (x:V) (l:Bs) (hb:Rd h x l) (hl:l.length≤1000000):run fns pr b 18 [x] h=some (.arr 22 ((cP l).map aa),h):=by
 refine Vm.aR (nt:=104) rfl Uh (by simp) ?_
 obtain ⟨g0,g1⟩:(GR h)[h.length]? =_∧(GR h)[h.length+1]? =_:=XJ h (.cells (some 22) [.arr 22 mu]) (.cells none wvR)
 have hlG:(GR h).length=h.length+2:=by simp[GR]
 have hsx:source (GR h) x=some (none,l.map aa):=by
   have:=hb.1 (GR h) (Fw.app [] h _)
   cases x <;> first | exact this | (simp[elems] at this)
 obtain ⟨v,H1,k1,Mt,xr1,hk1,rb,_,_,pt⟩:=(XR.nil (GR h) none (h.length+2)).Rp (n:=h.length+2) (bytes:=1) (by omega) (by omega) hsx (xo l) (by simp;omega)
 obtain ⟨v2,H2,k2,yM,xr2,Bb,q8,_,_,C6⟩:=xr1.IW (m:=1) (ys:=[aa 128]) (bytes:=1) hk1 rb rfl (fun z hz=> by simp at hz;subst hz;rfl) (by simp;omega)
 have g0:=C6 _ _ (by omega) (pt _ _ (by omega) g0)
 have g1:=C6 _ _ (by omega) (pt _ _ (by omega) g1)
 have fw:Fw [] h H2:=Fw.A9 (by omega) fun j b hj=> by
   have:=q6z hj
   exact C6 _ _ (by omega) (pt _ _ (by omega) (q10z hj _))
 have hb8:aa 128= .s (.int .u8 128):=rfl
 rw[hb8] at yM
 have xr2:XR H2 none k2 v2 ((mi l 0).map aa):=by simpa[mi] using xr2
 have dQ:=xr1.ty
 simp only[GR,mu,wvR] at Mt
 have au:(0:Nat)=0:=rfl
 try simp only[B18,Hn,Hm,Hl,Hk,Hj,Hi,Hh,Hg,Hf,He,Mt,yM,go_sem,simprocAttr]
 repeat' (
   first | refine q5z ?_ ?_ | refine q3z ?_ ?_ | refine q4z ?_ ?_
   all_goals intro ai
   all_goals first | replace ai:=q2z ai | replace ai:=q1z ai | skip
   all_goals first | subst ai | replace au:=And.intro ai au
   all_goals try simp only[au,B18,Hn,Hm,Hl,Hk,Hj,Hi,Hh,Hg,Hf,He,Mt,yM,go_sem,simprocAttr])
 clear Mt yM pt C6 hsx
 have hxl:∀cf base (h0:Hp),aD cf base h0 .len [x]=some (.s (.int .i64 l.length),h0):=fun cf base h0=> Vm.bH cf base h0 x _ hb.2
 have w1:IntKind.u64.wrap (l.length:Int)=(l.length:Int):=wrap_u64 (by omega) (by omega)
 refine bw (fun m e H=>∃z k y,m=fR l.length - z∧z≤fR l.length∧e 0=x∧e 2= .ptr h.length [0] 1∧e 3= .ref (h.length+1) [] none 0 4 4∧e 4=y∧H[h.length]? =some (.cells (some 22) [.arr 22 mu])∧H[h.length+1]? =some (.cells none wvR)∧XR H none k y ((mi l z).map aa)∧Fw [] h H∧h.length+2≤k∧h.length+2≤H.length)
   (fun e H=>∃k y,e 0=x∧e 2= .ptr h.length [0] 1∧e 3= .ref (h.length+1) [] none 0 4 4∧e 4=y∧H[h.length]? =some (.cells (some 22) [.arr 22 mu])∧H[h.length+1]? =some (.cells none wvR)∧XR H none k y ((mi l (fR l.length)).map aa)∧Fw [] h H∧h.length+2≤k∧h.length+2≤H.length)
   (fR l.length) _ _ ⟨0,k2,v2,rfl,by omega,rfl,rfl,rfl,rfl,g0,g1,xr2,fw,Bb,q8⟩ ?_ ?_
 ·clear xr2 fw Bb q8 g0 g1 xr1 dQ
  rintro m e H ⟨z,k,y,rfl,hz,e0,e2,e3,e4,cL,cV,xr,fw,hk,hlH⟩
  have mA:=fun cf base=> xr.BR.bH (cf:=cf) (base:=base) (h:=H)
  rw[qx] at mA
  have hpd:fR l.length=(8 - (l.length+1) % 8) % 8:=rfl
  have CR:∀cf base h,aD cf base h (.bin .num .rem) [.s (.int .i64 ((l.length+1+z:Nat):Int)),.s (.int .i64 8)]=some (.s (.int .i64 (((l.length+1+z) % 8:Nat):Int)),h):=fun cf base h=> by
    rw[qY cf base h .i64 _ 8 (by omega),acY (by omega)];rfl
  by_cases c:z < fR l.length
  ·have c':¬(((l.length+1+z) % 8:Nat):Int)=0:=by omega
   obtain ⟨x',H',k',iP,xr',mg,dq,_,hg,hold⟩:=xr.IW (m:=1) (ys:=[.s (.int .u8 0)]) (bytes:=1) hk hlH rfl (fun z hz=> by simp at hz;subst hz;rfl) (by simp[qx];unfold fR at c;omega)
   have xr':XR H' none k' x' ((mi l (z+1)).map aa):=by rw[Bj,adh];exact xr'
   have fw':Fw [] h H':=fw.trans' hg hold hk
   have au:(0:Nat)=0:=rfl
   try simp only[e0,e2,e3,e4,mA,CR,c',iP,go_sem,simprocAttr]
   repeat' (
     first | refine q5z ?_ ?_ | refine q3z ?_ ?_ | refine q4z ?_ ?_
     all_goals intro ai
     all_goals first | replace ai:=q2z ai | replace ai:=q1z ai | skip
     all_goals first | subst ai | replace au:=And.intro ai au
     all_goals try simp only[au,e0,e2,e3,e4,mA,CR,c',iP,go_sem,simprocAttr])
   all_goals exact ⟨fR l.length - (z+1),by omega,z+1,k',x',rfl,by omega,rfl,hold _ _ (by omega) cL,hold _ _ (by omega) cV,xr',fw',mg,dq⟩
  ·have c':(((l.length+1+z) % 8:Nat):Int)=0:=by omega
   have:z=fR l.length:=by omega
   have au:(0:Nat)=0:=rfl
   try simp only[e0,e2,e3,e4,mA,CR,c',go_sem,simprocAttr]
   repeat' (
     first | refine q5z ?_ ?_ | refine q3z ?_ ?_ | refine q4z ?_ ?_
     all_goals intro ai
     all_goals first | replace ai:=q2z ai | replace ai:=q1z ai | skip
     all_goals first | subst ai | replace au:=And.intro ai au
     all_goals try simp only[au,e0,e2,e3,e4,mA,CR,c',go_sem,simprocAttr])
   all_goals (subst this;exact ⟨k,y,rfl,cL,cV,xr,fw,hk,hlH⟩)
 ·clear xr2 fw Bb q8 g0 g1 xr1 dQ
  rintro e H ⟨k,y,e0,e2,e3,e4,cL,cV,xr,fw,hk,hlH⟩
  have au:(0:Nat)=0:=rfl
  try simp only[e0,e2,e3,e4,hxl,w1,go_sem,simprocAttr]
  repeat' (
    first | refine q5z ?_ ?_ | refine q3z ?_ ?_ | refine q4z ?_ ?_
    all_goals intro ai
    all_goals first | replace ai:=q2z ai | replace ai:=q1z ai | skip
    all_goals first | subst ai | replace au:=And.intro ai au
    all_goals try simp only[au,e0,e2,e3,e4,hxl,w1,go_sem,simprocAttr])
  refine bw (fun m e H=>∃i k y,m=8 - i∧i≤8∧e 6= .s (.int .i64 (i:Nat))∧e 5= .s (.int .u64 ((l.length / 2 ^(8 * i):Nat):Int))∧e 2= .ptr h.length [0] 1∧e 3= .ref (h.length+1) [] none 0 4 4∧e 4=y∧H[h.length]? =some (.cells (some 22) [.arr 22 mu])∧H[h.length+1]? =some (.cells none wvR)∧XR H none k y ((mi l (fR l.length)++rR l.length i).map aa)∧Fw [] h H∧h.length+2≤k∧h.length+2≤H.length)
    (fun e H=>∃y,e 2= .ptr h.length [0] 1∧e 3= .ref (h.length+1) [] none 0 4 4∧e 4=y∧H[h.length]? =some (.cells (some 22) [.arr 22 mu])∧H[h.length+1]? =some (.cells none wvR)∧BR H y (fo l)∧Fw [] h H)
    8 _ _ ⟨0,k,y,rfl,by omega,rfl,by simp;rfl,e2,e3,e4,cL,cV,by simpa[rR] using xr,fw,hk,hlH⟩ ?_ ?_
  ·clear xr fw hk hlH cL cV e4 y k
   rintro m e H ⟨i,k,y,rfl,hi,e6,e5,e2,e3,e4,cL,cV,xr,fw,hk,hlH⟩
   by_cases c:i < 8
   ·have c':(i:Int)< 8:=by omega
    have jn:IntKind.i64.wrap ((i:Int)+1)=((i+1:Nat):Int):=q18z (by omega)
    have hq:∀cf base h,aD cf base h (.bin .num .quo) [.s (.int .u64 ((l.length / 2 ^(8 * i):Nat):Int)),.s (.int .u64 256)]=some (.s (.int .u64 ((l.length / 2 ^(8 *(i+1)):Nat):Int)),h):=fun cf base h=> by
      have h1:l.length / 2 ^(8 * i)≤l.length:=adS _ _
      have h2:l.length / 2 ^(8 *(i+1))=l.length / 2 ^(8 * i)/ 256:=by rw[ad1,show 8 *(i+1)=8 * i+8 by omega,Nat.pow_add]
      rw[CT cf base h .u64 _ 256 (by omega),h2]
      generalize l.length / 2 ^(8 * i)=n at h1
      rw[adr (by omega),wrap_u64 (by omega) (by omega)];rfl
    have pw:V.s (.int .u8 (IntKind.u8.wrap ((l.length / 2 ^(8 * i):Nat):Int)))=aa (UInt8.ofNat (l.length / 2 ^(8 * i) % 256)):=C4 _
    obtain ⟨x',H',k',iP,xr',mg,dq,_,hg,hold⟩:=xr.IW (m:=1) (ys:=[.s (.int .u8 (IntKind.u8.wrap ((l.length / 2 ^(8 * i):Nat):Int)))]) (bytes:=1) hk hlH rfl (fun z hz=> by simp at hz;subst hz;rfl) (by simp[qx,po];unfold fR;omega)
    have xr':XR H' none k' x' ((mi l (fR l.length)++rR l.length (i+1)).map aa):=by rw[rR,←List.append_assoc,adh,List.map_singleton,←pw];exact xr'
    have fw':Fw [] h H':=fw.trans' hg hold hk
    have au:(0:Nat)=0:=rfl
    try simp only[e6,e5,e2,e3,e4,c',iP,jn,hq,go_sem,simprocAttr]
    repeat' (
      first | refine q5z ?_ ?_ | refine q3z ?_ ?_ | refine q4z ?_ ?_
      all_goals intro ai
      all_goals first | replace ai:=q2z ai | replace ai:=q1z ai | skip
      all_goals first | subst ai | replace au:=And.intro ai au
      all_goals try simp only[au,e6,e5,e2,e3,e4,c',iP,jn,hq,go_sem,simprocAttr])
    all_goals exact ⟨8 - (i+1),by omega,i+1,k',x',rfl,by omega,rfl,rfl,rfl,hold _ _ (by omega) cL,hold _ _ (by omega) cV,xr',fw',mg,dq⟩
   ·have c':¬(i:Int)< 8:=by omega
    have:i=8:=by omega
    have au:(0:Nat)=0:=rfl
    try simp only[e6,e5,e2,e3,e4,c',go_sem,simprocAttr]
    repeat' (
      first | refine q5z ?_ ?_ | refine q3z ?_ ?_ | refine q4z ?_ ?_
      all_goals intro ai
      all_goals first | replace ai:=q2z ai | replace ai:=q1z ai | skip
      all_goals first | subst ai | replace au:=And.intro ai au
      all_goals try simp only[au,e6,e5,e2,e3,e4,c',go_sem,simprocAttr])
    all_goals (subst this;exact ⟨y,rfl,cL,cV,xr.BR,fw⟩)
  ·clear xr fw hk hlH cL cV e4 y k
   rintro e H ⟨y,e2,e3,e4,cL,cV,br,fw⟩
   have sY:cP l=fU (dD (lg (fo l) ((fo l).length / 8)) 8) 16:=rfl
   have Rn:=sP l
   obtain ⟨N,hN⟩:∃N,(fo l).length / 8=N:=⟨_,rfl⟩
   have hlP:=oJ l
   have hpd:fR l.length < 8:=by unfold fR;omega
   generalize fo l=P at Rn hN hlP br sY
   rw[hN] at sY
   have hP8:P.length=8 * N:=by omega
   have au:(0:Nat)=0:=rfl
   try simp only[e2,e3,e4,go_sem,simprocAttr]
   repeat' (
     first | refine q5z ?_ ?_ | refine q3z ?_ ?_ | refine q4z ?_ ?_
     all_goals intro ai
     all_goals first | replace ai:=q2z ai | replace ai:=q1z ai | skip
     all_goals first | subst ai | replace au:=And.intro ai au
     all_goals try simp only[au,e2,e3,e4,go_sem,simprocAttr])
   refine bw (fun m e H=>∃i,m=N - i∧i≤N∧e 7= .s (.int .i64 ((8 * i:Nat):Int))∧e 2= .ptr h.length [0] 1∧e 3= .ref (h.length+1) [] none 0 4 4∧e 4=y∧H[h.length]? =some (.cells (some 22) [.arr 22 mu])∧H[h.length+1]? =some (.cells none (lg P i).vs)∧BR H y P∧Fw [] h H)
     (fun e H=> e 2= .ptr h.length [0] 1∧e 3= .ref (h.length+1) [] none 0 4 4∧H[h.length]? =some (.cells (some 22) [.arr 22 mu])∧H[h.length+1]? =some (.cells none (lg P N).vs)∧Fw [] h H)
     N _ _ ⟨0,rfl,by omega,rfl,e2,e3,e4,cL,cV,by simpa using br,fw⟩ ?_ ?_
   ·clear br cL cV fw
    rintro m e H ⟨i,rfl,hi,e7,e2,e3,e4,cL,cV,br,fw⟩
    have mA:=fun cf base=> br.bH (cf:=cf) (base:=base) (h:=H)
    rw[hP8] at mA
    by_cases c:i < N
    ·have c':((8 * i:Nat):Int)<((8 * N:Nat):Int):=by omega
     have Ej:lg P (i+1)=Ri (lg P i) (P.drop (8 * i)):=rfl
     have hXok:=xb P i
     generalize lg P i=X at cV Ej hXok
     have oM:∀c,(H.set (h.length+1) c)[h.length+1]? =some c:=fun c=> q9z cV
     have IB:∀c d,(H.set (h.length+1) c).set (h.length+1) d=H.set (h.length+1) d:=fun c d=> ac4 ..
     have qj:∀c,(H.set (h.length+1) c)[h.length]? =some (.cells (some 22) [.arr 22 mu]):=fun c=> by rw[ab3 (by omega)];exact cL
     have lp:∀c,Fw [] h (H.set (h.length+1) c):=fun c=> fw.bY (by omega) c
     have IF:∀c,(∀bl:Bs,X.vs≠bl.map aa)→BR (H.set (h.length+1) c) y P:=fun c hq=> br.mono (Fw.XK (S:=[h.length+1]) (by simp) cV hq)
     have hnb:∀Z:W,∀bl:Bs,Z.vs≠bl.map aa:=fun Z bl he=> by
       cases bl with
       | nil=> simp[W.vs] at he
       | cons b bl=> simp[W.vs,aa] at he
     have IF:=fun c=> IF c (hnb X)
     have a1:IntKind.i64.wrap (((8 * i:Nat):Int)+4)=((8 * i+4:Nat):Int):=by rw[wrap_i64 (by omega) (by omega)];omega
     have a2:IntKind.i64.wrap (((8 * i:Nat):Int)+8)=((8 * i+8:Nat):Int):=by rw[wrap_i64 (by omega) (by omega)];omega
     obtain ⟨y1,hy1,br1⟩:=br.both (k:= .i64) (k':= .i64) (a:=8 * i) (r:=8 * i+4) (by omega) (by omega)
     have pz:=C3 h.length H y1 _ br1 (by simp;omega)
     have ht1:nS ((P.drop (8 * i)).take (8 * i+4 - 8 * i))=nS (P.drop (8 * i)):=by
       rw[show 8 * i+4 - 8 * i=4 by omega];exact yR _
     rw[ht1] at pz
     have A8:=cV
     simp only[W.vs] at A8
     have XL:∀cf base,aD cf base H (.j2 none true true false) [y,.s (.int .i64 ((8 * i:Nat):Int)),.s (.int .i64 ((8 * i+4:Nat):Int))]=some (y1,H):=hy1
     obtain ⟨y2,hy2,br2⟩:=(IF (.cells none [.s (.int .u32 (xr X.a (nS (P.drop (8 * i))):Nat)),.s (.int .u32 X.b),.s (.int .u32 X.c),.s (.int .u32 X.d)])).both (k:= .i64) (k':= .i64) (a:=8 * i+4) (r:=8 * i+8) (by omega) (by omega)
     have CS:=C3 h.length _ y2 _ br2 (by simp;omega)
     have ht2:nS ((P.drop (8 * i+4)).take (8 * i+8 - (8 * i+4)))=nS ((P.drop (8 * i)).drop 4):=by
       rw[show 8 * i+8 - (8 * i+4)=4 by omega,acP];exact yR _
     rw[ht2] at CS
     obtain ⟨W1,hW1⟩:∃W1:W,(⟨xr X.a (nS (P.drop (8 * i))),X.b,X.c,xr X.d (nS ((P.drop (8 * i)).drop 4))⟩:W)=W1:=⟨_,rfl⟩
     have Ro:lg P (i+1)=iy (iy (iy W1)):=by rw[Ej,←hW1];rfl
     have hW1ok:W1.ok:=by rw[←hW1];exact ⟨me _ _,hXok.2.1,hXok.2.2.1,me _ _⟩
     have hW1v:[V.s (.int .u32 ((xr X.a (nS (P.drop (8 * i))):Nat):Int)),.s (.int .u32 X.b),.s (.int .u32 X.c),.s (.int .u32 ((xr X.d (nS ((P.drop (8 * i)).drop 4)):Nat):Int))]=W1.vs:=by rw[←hW1];rfl
     have s1:=pD h.length (H.set (h.length+1) (.cells none W1.vs)) (h.length+1) W1 hW1ok (oM _)
     have s2:=pD h.length (H.set (h.length+1) (.cells none (iy W1).vs)) (h.length+1) (iy W1) (pk _) (oM _)
     have s3:=pD h.length (H.set (h.length+1) (.cells none (iy (iy W1)).vs)) (h.length+1) (iy (iy W1)) (pk _) (oM _)
     rw[IB] at s1 s2 s3
     have l0:(0:Int)<((4:Nat):Int):=by decide
     have l3:(3:Int)<((4:Nat):Int):=by decide
     have au:(0:Nat)=0:=rfl
     try simp only[e7,e2,e3,e4,mA,c',l0,l3,a1,a2,pz,A8,oM,IB,XL,hy2,CS,yB,eE,hW1v,s1,s2,s3,go_sem,simprocAttr]
     repeat' (
       first | refine q5z ?_ ?_ | refine q3z ?_ ?_ | refine q4z ?_ ?_
       all_goals intro ai
       all_goals first | replace ai:=q2z ai | replace ai:=q1z ai | skip
       all_goals first | subst ai | replace au:=And.intro ai au
       all_goals try simp only[au,e7,e2,e3,e4,mA,c',l0,l3,a1,a2,pz,A8,oM,IB,XL,hy2,CS,yB,eE,hW1v,s1,s2,s3,go_sem,simprocAttr])
     all_goals exact ⟨N - (i+1),by omega,i+1,rfl,by omega,rfl,qj _,by rw[Ro],IF _,lp _⟩
    ·have c':¬((8 * i:Nat):Int)<((8 * N:Nat):Int):=by omega
     have:i=N:=by omega
     have au:(0:Nat)=0:=rfl
     try simp only[e7,e2,e3,e4,mA,c',go_sem,simprocAttr]
     repeat' (
       first | refine q5z ?_ ?_ | refine q3z ?_ ?_ | refine q4z ?_ ?_
       all_goals intro ai
       all_goals first | replace ai:=q2z ai | replace ai:=q1z ai | skip
       all_goals first | subst ai | replace au:=And.intro ai au
       all_goals try simp only[au,e7,e2,e3,e4,mA,c',go_sem,simprocAttr])
     all_goals (subst this;exact ⟨cL,cV,fw⟩)
   ·clear br cL cV fw e4
    rintro e H ⟨e2,e3,cL,cV,fw⟩
    have hXok:=xb P N
    generalize lg P N=X at cV sY hXok
    have au:(0:Nat)=0:=rfl
    try simp only[e2,e3,go_sem,simprocAttr]
    repeat' (
      first | refine q5z ?_ ?_ | refine q3z ?_ ?_ | refine q4z ?_ ?_
      all_goals intro ai
      all_goals first | replace ai:=q2z ai | replace ai:=q1z ai | skip
      all_goals first | subst ai | replace au:=And.intro ai au
      all_goals try simp only[au,e2,e3,go_sem,simprocAttr])
    refine bw (fun m e H'=>∃j,m=8 - j∧j≤8∧e 8= .s (.int .i64 (j:Nat))∧e 2= .ptr h.length [0] 1∧e 3= .ref (h.length+1) [] none 0 4 4∧H'[h.length]? =some (.cells (some 22) [.arr 22 mu])∧H'[h.length+1]? =some (.cells none (dD X j).vs)∧Fw [] h H')
      (fun e H'=> e 2= .ptr h.length [0] 1∧e 3= .ref (h.length+1) [] none 0 4 4∧H'[h.length]? =some (.cells (some 22) [.arr 22 mu])∧H'[h.length+1]? =some (.cells none (dD X 8).vs)∧Fw [] h H')
      8 _ _ ⟨0,rfl,by omega,rfl,e2,e3,cL,cV,fw⟩ ?_ ?_
    ·clear cL cV fw
     rintro m e H' ⟨j,rfl,hj,e8,e2,e3,cL,cV,fw⟩
     by_cases c:j < 8
     ·have c':(j:Int)< 8:=by omega
      have aZ:=pD h.length H' (h.length+1) (dD X j) (sO hXok j) cV
      have aZ:run fns pr h.length 46 [.ref (h.length+1) [] none 0 4 4] H'=some (.bM [],H'.set (h.length+1) (.cells none (dD X (j+1)).vs)):=aZ
      have oM:=q9z cV (b:= .cells none (dD X (j+1)).vs)
      have qj:(H'.set (h.length+1) (.cells none (dD X (j+1)).vs))[h.length]? =some (.cells (some 22) [.arr 22 mu]):=by rw[ab3 (by omega)];exact cL
      have lp:Fw [] h (H'.set (h.length+1) (.cells none (dD X (j+1)).vs)):=fw.bY (by omega) _
      have jn:IntKind.i64.wrap ((j:Int)+1)=((j+1:Nat):Int):=q18z (by omega)
      have au:(0:Nat)=0:=rfl
      try simp only[e8,e2,e3,c',aZ,jn,go_sem,simprocAttr]
      repeat' (
        first | refine q5z ?_ ?_ | refine q3z ?_ ?_ | refine q4z ?_ ?_
        all_goals intro ai
        all_goals first | replace ai:=q2z ai | replace ai:=q1z ai | skip
        all_goals first | subst ai | replace au:=And.intro ai au
        all_goals try simp only[au,e8,e2,e3,c',aZ,jn,go_sem,simprocAttr])
      all_goals exact ⟨8 - (j+1),by omega,j+1,rfl,by omega,rfl,qj,oM,lp⟩
     ·have c':¬(j:Int)< 8:=by omega
      have:j=8:=by omega
      subst this
      have au:(0:Nat)=0:=rfl
      try simp only[e8,e2,e3,c',go_sem,simprocAttr]
      repeat' (
        first | refine q5z ?_ ?_ | refine q3z ?_ ?_ | refine q4z ?_ ?_
        all_goals intro ai
        all_goals first | replace ai:=q2z ai | replace ai:=q1z ai | skip
        all_goals first | subst ai | replace au:=And.intro ai au
        all_goals try simp only[au,e8,e2,e3,c',go_sem,simprocAttr])
      all_goals exact ⟨cL,cV,fw⟩
    ·clear cL cV fw
     rintro e H ⟨e2,e3,cL,cV,fw⟩
     have hYok:=sO hXok 8
     generalize dD X 8=Y at cV sY hYok
     have au:(0:Nat)=0:=rfl
     try simp only[e2,e3,go_sem,simprocAttr]
     repeat' (
       first | refine q5z ?_ ?_ | refine q3z ?_ ?_ | refine q4z ?_ ?_
       all_goals intro ai
       all_goals first | replace ai:=q2z ai | replace ai:=q1z ai | skip
       all_goals first | subst ai | replace au:=And.intro ai au
       all_goals try simp only[au,e2,e3,go_sem,simprocAttr])
     have iQ:h.length+1 < H.length:=q6z cV
     have hT:(H++[aT.cells (some 22) [.arr 22 mu]])[H.length]? =_:=aO H [aT.cells (some 22) [.arr 22 mu]]
     obtain ⟨o,ho⟩:∃o,H.length=o:=⟨_,rfl⟩
     refine bw (fun m e H'=>∃i,m=16 - i∧i≤16∧e 10= .s (.int .i64 (i:Nat))∧e 2= .ptr h.length [0] 1∧e 3= .ref (h.length+1) [] none 0 4 4∧e 9= .ptr o [0] 1∧H'[h.length]? =some (.cells (some 22) [.arr 22 mu])∧H'[h.length+1]? =some (.cells none (lF Y i).vs)∧H'[o]? =some (.cells (some 22) [.arr 22 ((fU Y i++List.replicate (16 - i) 0).map aa)])∧Fw [] h H')
       (fun e H'=> e 2= .ptr h.length [0] 1∧e 9= .ptr o [0] 1∧H'[h.length]? =some (.cells (some 22) [.arr 22 mu])∧H'[o]? =some (.cells (some 22) [.arr 22 ((fU Y 16).map aa)])∧Fw [] h H')
       16 _ _ ⟨0,rfl,by omega,rfl,e2,e3,by rw[←ho];rfl,q10z cL _,by rw[show lF Y 0=Y by simp[lF]];exact q10z cV _,by rw[←ho];exact hT,fw.trans (Fw.app _ _ _)⟩ ?_ ?_
     ·clear hT cL cV fw
      rintro m e H' ⟨i,rfl,hi,e10,e2,e3,e9,cL,cV,oO,fw⟩
      by_cases c:i < 16
      ·have c':(i:Int)< 16:=by omega
       have c16:(i:Int)<((16:Nat):Int):=by omega
       have i0:(0:Int)≤(i:Int):=by omega
       have hq:∀cf base h,aD cf base h (.bin .num .quo) [.s (.int .i64 i),.s (.int .i64 4)]=some (.s (.int .i64 ((i / 4:Nat):Int)),h):=fun cf base h=> by
         rw[CT cf base h .i64 _ 4 (by omega),adr (by omega),wrap_i64 (by omega) (by omega)];rfl
       have hYv:(lF Y i).vs[i / 4]? =some (.s (.int .u32 (((lF Y i).at (i / 4):Nat):Int))):=by
         have:i / 4=0∨i / 4=1∨i / 4=2∨i / 4=3:=by omega
         rcases this with h | h | h | h <;> rw[h]<;> rfl
       have hq2:∀cf base h,aD cf base h (.bin .num .quo) [.s (.int .u32 (((lF Y i).at (i / 4):Nat):Int)),.s (.int .u32 256)]=some (.s (.int .u32 (((lF Y i).at (i / 4)/ 256:Nat):Int)),h):=fun cf base h=> by
         have cJ:(lF Y i).at (i / 4)< 4294967296:=by
           rw[C5 Y i c]
           refine ad3 (adS _ _) ?_
           have:i / 4=0∨i / 4=1∨i / 4=2∨i / 4=3:=by omega
           rcases this with h | h | h | h <;> rw[h]
           ·exact hYok.1
           ·exact hYok.2.1
           ·exact hYok.2.2.1
           ·exact hYok.2.2.2
         generalize (lF Y i).at (i / 4)=n at cJ
         rw[CT cf base h .u32 _ 256 (by omega),adr (by omega),wrap_u32 (by omega) (by omega)];rfl
       have hYl:(lF Y i).vs.length=4:=rfl
       have c4:((i / 4:Nat):Int)< 4:=by omega
       have c4':((i / 4:Nat):Int)<((4:Nat):Int):=by omega
       have j0:(0:Int)≤((i / 4:Nat):Int):=by omega
       have c4n:i / 4 < 4:=by omega
       have Az:((fU Y i++List.replicate (16 - i) 0).map aa).length=16:=by rw[acf,abZ,iz,acJ];omega
       obtain ⟨z,hz,hzt⟩:∃z,((fU Y i++List.replicate (16 - i) 0).map aa)[i]? =some z∧z.ty=none:=by
         refine ⟨aa ((fU Y i++List.replicate (16 - i) 0)[i]'(by rw[acf] at Az;omega)),?_,rfl⟩
         rw[ab9,abV (by rw[acf] at Az;omega)];rfl
       have aZ:((fU Y i++List.replicate (16 - i) 0).map aa).set i (V.s (.int .u8 (IntKind.u8.wrap (((lF Y i).at (i / 4):Nat):Int))))=(fU Y (i+1)++List.replicate (16 - (i+1)) 0).map aa:=by
         rw[C4,C5 Y i c,←List.map_set,acF _ _ (by rw[iz];exact ab0 _),iz,aen,show 16 - i=(16 - (i+1))+1 by omega,adL,adC,fU,ab5]
         rfl
       have qm:=Eu Y i c
       generalize (fU Y i++List.replicate (16 - i) 0).map aa=vs at oO Az hz aZ
       generalize aaz:(lF Y (i+1)).vs=vs1 at qm
       generalize (lF Y i).vs=vs0 at cV hYv hYl qm
       generalize XM:(fU Y (i+1)++List.replicate (16 - (i+1)) 0).map aa=vo at aZ
       have aav:h.length+1≠o:=by omega
       have abB:o≠h.length+1:=by omega
       have aaw:h.length≠o:=by omega
       have p1:∀c,(H'.set o c)[h.length+1]? =some (.cells none vs0):=fun c=> by rw[ab3 (by omega)];exact cV
       have n0:∀c d,((H'.set o c).set (h.length+1) d)[h.length]? =some (.cells (some 22) [.arr 22 mu]):=fun c d=> by rw[ab3 (by omega),ab3 (by omega)];exact cL
       have n1:∀c d,((H'.set o c).set (h.length+1) d)[h.length+1]? =some d:=fun c d=> q9z (p1 c)
       have n2:∀c d,((H'.set o c).set (h.length+1) d)[o]? =some c:=fun c d=> by rw[ab3 (by omega)];exact q9z oO
       have nf:∀c d,Fw [] h ((H'.set o c).set (h.length+1) d):=fun c d=>(fw.bY (by omega) _).bY (by omega) _
       have jn:IntKind.i64.wrap ((i:Int)+1)=((i+1:Nat):Int):=q18z (by omega)
       have au:(0:Nat)=0:=rfl
       try simp only[e10,e2,e3,e9,c',c16,i0,hq,hq2,hYv,hYl,c4,c4',j0,c4n,Az,hz,hzt,aZ,qm,cL,cV,oO,p1,eE,jn,acu,go_sem,simprocAttr]
       repeat' (
         first | refine q5z ?_ ?_ | refine q3z ?_ ?_ | refine q4z ?_ ?_
         all_goals intro ai
         all_goals first | replace ai:=q2z ai | replace ai:=q1z ai | skip
         all_goals first | subst ai | replace au:=And.intro ai au
         all_goals try simp only[au,e10,e2,e3,e9,c',c16,i0,hq,hq2,hYv,hYl,c4,c4',j0,c4n,Az,hz,hzt,aZ,qm,cL,cV,oO,p1,eE,jn,acu,go_sem,simprocAttr])
       all_goals exact ⟨16 - (i+1),by omega,i+1,rfl,by omega,rfl,n0 _ _,by rw[aaz];exact n1 _ _,by rw[XM];exact n2 _ _,nf _ _⟩
      ·have c':¬(i:Int)< 16:=by omega
       have:i=16:=by omega
       subst this
       rw[aen,aeG,acr] at oO
       have au:(0:Nat)=0:=rfl
       try simp only[e10,e2,e3,e9,c',go_sem,simprocAttr]
       repeat' (
         first | refine q5z ?_ ?_ | refine q3z ?_ ?_ | refine q4z ?_ ?_
         all_goals intro ai
         all_goals first | replace ai:=q2z ai | replace ai:=q1z ai | skip
         all_goals first | subst ai | replace au:=And.intro ai au
         all_goals try simp only[au,e10,e2,e3,e9,c',go_sem,simprocAttr])
       all_goals exact ⟨cL,oO,fw⟩
     ·clear hT cL cV fw
      rintro e H' ⟨e2,e9,cL,oO,fw⟩
      have dU:∀c,(H'.set h.length c).take h.length=h:=fun c=>(fw.bY (ab0 _) c).take
      have oM:∀c,(H'.set h.length c)[h.length]? =some c:=fun c=> q9z cL
      rw[←sY] at oO
      have df:∀n h,bE.all n h ((cP l).map aa)=some ((cP l).map aa):=fun n h=> ri n h (cP l)
      generalize (cP l).map aa=ws at oO df
      have au:(0:Nat)=0:=rfl
      try simp only[e2,e9,cL,oO,dU,oM,eE,df,go_sem,simprocAttr]
      repeat' (
        first | refine q5z ?_ ?_ | refine q3z ?_ ?_ | refine q4z ?_ ?_
        all_goals intro ai
        all_goals first | replace ai:=q2z ai | replace ai:=q1z ai | skip
        all_goals first | subst ai | replace au:=And.intro ai au
        all_goals try simp only[au,e2,e9,cL,oO,dU,oM,eE,df,go_sem,simprocAttr])
def rZ (n c:Nat):List V:=List.replicate c (.s (.int .u8 0))++((aF n).drop c).map aa
theorem IX (n:Nat):rZ n 8=[.s (.int .u8 0),.s (.int .u8 0),.s (.int .u8 0),.s (.int .u8 0),.s (.int .u8 0),.s (.int .u8 0),.s (.int .u8 0),.s (.int .u8 0)]:=by simp[rZ,aF,adM]
theorem Ev (n:Nat):rZ n 0=(aF n).map aa:=by simp[rZ]
theorem IY (n c:Nat) (hc:c≤8):(rZ n c).length=8:=by simp[rZ];omega
theorem Ew (n c:Nat) (hc:c < 8):(rZ n (c+1)).set c (aa (UInt8.ofNat (n / 256 ^(7 - c) % 256)))=rZ n c:=by
 have:c=0∨c=1∨c=2∨c=3∨c=4∨c=5∨c=6∨c=7:=by omega
 rcases this with rfl | rfl | rfl | rfl | rfl | rfl | rfl | rfl <;> simp[rZ,aF,adM,List.replicate]
theorem IZ (n c:Nat) (hc:c < 8):∃o,(rZ n (c+1))[c]? =some (.s o):=by
 have:c=0∨c=1∨c=2∨c=3∨c=4∨c=5∨c=6∨c=7:=by omega
 rcases this with rfl | rfl | rfl | rfl | rfl | rfl | rfl | rfl <;> exact ⟨_,rfl⟩
theorem XN (cf:CF) (base:Nat) (h:Hp) (a:Nat) (ha:a < 18446744073709551616):aD cf base h (.bin .num .quo) [.s (.int .u64 (a:Int)),.s (.int .u64 256)]=some (.s (.int .u64 ((a / 256:Nat):Int)),h):=by
 have h2:Int.tdiv (a:Int) 256=((a / 256:Nat):Int):=by rw[adr (by omega)];rfl
 have h3:IntKind.u64.wrap ((a / 256:Nat):Int)=((a / 256:Nat):Int):=wrap_u64 (by omega) (by omega)
 simp only[aD,kN,vi,js,h2,h3,jM,adn,if_true,show ¬(256:Int)=0 by omega,if_false]
theorem fy (b:Nat) (h:Hp) (n:Nat) (hn:n < 18446744073709551616) (hb:b≤h.length):run fns pr b 30 [.s (.int .u64 n)] h=some (.ref h.length [] none 0 8 8,h++[.cells none ((aF n).map aa)]):=by
 refine Vm.runN (nt:=18) rfl UF (by simp) ?_
 simp only[B30,OF,OE,go_sem,↓reduceIte,Nat.reduceEqDiff,Nat.reduceBEq,Nat.reduceAdd,Nat.reduceSub,Nat.reduceLT,Nat.reduceLeDiff,Int.reduceLT,Int.reduceLE,Int.reduceEq,Int.reduceToNat]
 refine bw (fun m e H=>∃c,m=c∧c≤8∧e 4= .s (.int .i64 ((c:Int) - 1))∧e 3= .ref h.length [] none 0 8 8∧e 0= .s (.int .u64 ((n / 256 ^(8 - c):Nat):Int))∧H=h++[.cells none (rZ n c)])
   (fun e H=> e 3= .ref h.length [] none 0 8 8∧H=h++[.cells none (rZ n 0)]) 8 _ _ ⟨8,rfl,by omega,rfl,rfl,by simp;rfl,by rw[IX];rfl⟩ ?_ ?_
 ·rintro m e H ⟨c,rfl,hc,e4,e3,e0,rfl⟩
  cases m with
  | zero=>
    have c':¬(0:Int)≤((0:Nat):Int) - 1:=by omega
    simp only[e4,e3,c',go_sem,↓reduceIte,Nat.reduceEqDiff,Nat.reduceBEq,Nat.reduceAdd,Nat.reduceSub,Nat.reduceLT,Nat.reduceLeDiff,Int.reduceLT,Int.reduceLE,Int.reduceEq,Int.reduceToNat]
  | succ c=>
    have hc1:(((c+1:Nat):Int) - 1)=(c:Int):=by omega
    rw[hc1] at e4
    have hl:=IY n (c+1) hc
    have c':(0:Int)≤(c:Int):=by omega
    have w3:IntKind.i64.wrap ((c:Int) - 1)=(c:Int) - 1:=wrap_i64 (by omega) (by omega)
    have hle:n / 256 ^(8 - (c+1))≤n:=adS _ _
    have hq:=fun cf base h=> XN cf base h (n / 256 ^(8 - (c+1))) (by omega)
    have hpp:n / 256 ^(8 - (c+1))/ 256=n / 256 ^(8 - c):=by rw[ad1,←Nat.pow_succ,show (8 - (c+1)).succ=8 - c by omega]
    rw[hpp] at hq
    have he:8 - (c+1)=7 - c:=by omega
    rw[he] at hq e0
    obtain ⟨o,ho⟩:=IZ n c (by omega)
    have aZ:=Ew n c (by omega)
    have cc:((c:Int)<((8:Nat):Int)∧c < 8)=True:=by simp;omega
    have so:(aa (UInt8.ofNat (n / 256 ^(7 - c) % 256))).aw=true:=rfl
    have to:(aa (UInt8.ofNat (n / 256 ^(7 - c) % 256))).ty=none:=rfl
    have gr:(aa (UInt8.ofNat (n / 256 ^(7 - c) % 256))).ground=true:=rfl
    simp only[e4,e3,e0,c',w3,sS,hl,cc,ho,so,to,gr,aZ,hq,go_sem,↓reduceIte,Nat.reduceEqDiff,Nat.reduceBEq,Nat.reduceAdd,Nat.reduceSub,Nat.reduceLT,Nat.reduceLeDiff,Int.reduceLT,Int.reduceLE,Int.reduceEq,Int.reduceToNat]
    exact ⟨c,by omega,c,rfl,by omega,by simp_all⟩
 ·rintro e H ⟨e3,rfl⟩
  rw[Ev]
  simp only[e3,go_sem,↓reduceIte,Nat.reduceEqDiff,Nat.reduceBEq,Nat.reduceAdd,Nat.reduceSub,Nat.reduceLT,Nat.reduceLeDiff,Int.reduceLT,Int.reduceLE,Int.reduceEq,Int.reduceToNat]
theorem nC (b:Nat) (h:Hp) (x:V) (k l:Bs) (hk:k.length=16) (hr:Rd h x l) (hl:l.length≤900000):run fns pr b 70 [.arr 22 (k.map aa),x] h=some (.arr 22 ((cY k l).map aa),h):=by
 refine Vm.aR (nt:=11) rfl VY (by simp) ?_
 have dt:(k.map aa).length=16:=by simp[hk]
 generalize hGd:h++[aT.cells (some 22) [V.arr 22 (k.map aa)],aT.cells (some 22) [aK 22]]=G
 have hG:G.length=h.length+2:=by rw[←hGd];simp
 have fG:Fw [] h G:=by rw[←hGd];exact Fw.app [] h _
 have g0:G[h.length]? =some (.cells (some 22) [.arr 22 (k.map aa)]):=by rw[←hGd];exact (sW h _ _).1
 have g1:G[h.length+1]? =some (.cells (some 22) [aK 22]):=by rw[←hGd];exact (sW h _ _).2
 have hsk:source G (.ref h.length [0] none 0 16 1)=some (none,k.map aa):=by
   have:elems G (.ref h.length [0] none 0 16 1)=some (none,k.map aa):=by
     simp only[bO,go_sem,simprocAttr,ab5,abZ,Vm.aJ,Vm.bA,Vm.ba,Vm.aW,Vm.bf,Vm.aX,ab0,ack,g0,cS,acA,abX (ado dt)]
   exact this
 obtain ⟨v,H,iP,hN⟩:=(iV.nil G).app hsk (by simp;omega)
 obtain ⟨w,H2,yM,hN2⟩:=hN.app ((hr.fw (fG.trans hN.fw)).source) (by simp;omega)
 rw[acD] at hN2
 have IE:=fun b=> xp b H2 w (k++l) (BR.rd hN2.br) (by simp;omega)
 have g2:H2[h.length+1]? =some (.cells (some 22) [aK 22]):=hN2.fw.cw _ _ g1 (by simp)
 have xe:((cY k l).map aa).length=16:=by simp[jq]
 have tk:∀b,(H2.set (h.length+1) b).take h.length=h:=fun b=> by
   rw[aem (by omega)];exact (fG.trans hN2.fw).take
 simp only[B70,pE,dt,hGd,g0,iP,yM,IE,g2,tk,q9z g2,show cP (k++l)=cY k l from rfl,xe,oP,go_sem,simprocAttr]
theorem Mu (b:Nat) (h:Hp) (k l:Bs) (hk:k.length=16) (hl:l.length=16):run fns pr b 113 [.arr 22 (k.map aa),.arr 22 (l.map aa)] h=some (.arr 22 ((cY k l).map aa),h):=by
 refine Vm.aR (nt:=8) rfl PW (by simp) ?_
 have mr:(l.map aa).length=16:=by simp[hl]
 have xe:((cY k l).map aa).length=16:=by simp[cY,bG]
 have yr:=fun b=> nC b (h++[aT.cells (some 22) [V.arr 22 (k.map aa)],aT.cells (some 22) [V.arr 22 (l.map aa)],aT.cells (some 22) [aK 22]]) (.ref (h.length+1) [0] none 0 16 1) k l hk (Rd.mk' (by
   simp only[bO,go_sem,simprocAttr,ab5,abZ,Vm.aJ,Vm.bA,Vm.ba,Vm.aW,Vm.bf,Vm.aX,ab0,ack,cS,acA,abX (ado mr)]) (by simp[eN,hl])) (by omega)
 simp only[PU,mr,yr,xe,oP,go_sem,simprocAttr]
def lG (q:Request):Bs:=[bt q.op]++(q.iD++(q.jm++([bt q.bT]++(q.owner++(q.jJ++([bt q.aM]++(aF q.num.toNat++([bt q.aL.length]++q.aL))))))))
theorem rj (b:Nat) (h:Hp) (f:Bool) (q:Request) (hw:q.wf) (hs:q.aL.length≤100000):run fns pr b 10 [q.aI f] h=some (.aq false none ((lG q).map aa),h):=by
 refine Vm.aR (nt:=46) rfl T3 (by simp) ?_
 obtain ⟨w1,w2,w3,w4,w5,w6,w7,w8,w9⟩:=hw
 obtain ⟨op,id,jm,se,li,ow,ke,cl,nu⟩:=q
 simp only at w1 w2 w3 w4 w5 w6 w7 w8 w9 hs
 obtain ⟨g,rfl⟩:∃g:Nat,nu=(g:Int):=⟨nu.toNat,by omega⟩
 have l1:(id.map aa).length=4:=by simp[w2]
 have l2:(jm.map aa).length=16:=by simp[w3]
 have l3:(ow.map aa).length=16:=by simp[w6]
 have l4:(ke.map aa).length=16:=by simp[w7]
 have nB:Request.aI f ⟨op,id,jm,se,li,ow,ke,cl,g⟩= .st 33 [.s (.int .i64 op),.arr 28 (id.map aa),.arr 22 (jm.map aa),.aq f none (se.map aa),.s (.int .i64 li),.arr 22 (ow.map aa),.arr 22 (ke.map aa),.s (.int .i64 cl),.s (.int .u64 (g:Int))]:=rfl
 rw[nB]
 generalize hGd:h++[aT.cells (some 33) [V.st 33 [.s (.int .i64 op),.arr 28 (id.map aa),.arr 22 (jm.map aa),.aq f none (se.map aa),.s (.int .i64 li),.arr 22 (ow.map aa),.arr 22 (ke.map aa),.s (.int .i64 cl),.s (.int .u64 (g:Int))]]]=G
 have g0:G[h.length]? =some (aT.cells (some 33) [V.st 33 [.s (.int .i64 op),.arr 28 (id.map aa),.arr 22 (jm.map aa),.aq f none (se.map aa),.s (.int .i64 li),.arr 22 (ow.map aa),.arr 22 (ke.map aa),.s (.int .i64 cl),.s (.int .u64 (g:Int))]]):=by rw[←hGd];simp
 have fG:Fw [] h G:=by rw[←hGd];exact Fw.app [] h _
 have mG:=fG.len
 have N0:iV G (G++[.cells none [aa (bt op)]]) (.ref G.length [] none 0 1 1) [bt op]:=⟨G.length,.inr ⟨rfl,aO _ _⟩,ab0 _,Fw.app _ _ _⟩
 have gb:=N0.fw.cw _ _ g0 (by simp)
 have s1:source (G++[.cells none [aa (bt op)]]) (.ref h.length [0,1] none 0 4 1)=some (none,id.map aa):=(Rd.mk' (by simp only[bO,go_sem,↓reduceIte,Nat.reduceEqDiff,Nat.reduceBEq,Nat.reduceAdd,Nat.reduceSub,Nat.reduceLT,Nat.reduceLeDiff,Int.reduceLT,Int.reduceLE,Int.reduceEq,Int.reduceToNat,ab5,abZ,Vm.aJ,Vm.bA,Vm.ba,Vm.aW,Vm.bf,Vm.aX,ab0,ack,gb,cS,acA,abX (ado l1)]) (by simp[eN,w2])).source
 obtain ⟨v1,H1,a1,N1⟩:=N0.app s1 (by simp;omega)
 have g1:=N1.fw.cw _ _ g0 (by simp)
 have s2:source H1 (.ref h.length [0,2] none 0 16 1)=some (none,jm.map aa):=(Rd.mk' (by simp only[bO,go_sem,↓reduceIte,Nat.reduceEqDiff,Nat.reduceBEq,Nat.reduceAdd,Nat.reduceSub,Nat.reduceLT,Nat.reduceLeDiff,Int.reduceLT,Int.reduceLE,Int.reduceEq,Int.reduceToNat,ab5,abZ,Vm.aJ,Vm.bA,Vm.ba,Vm.aW,Vm.bf,Vm.aX,ab0,ack,g1,cS,acA,abX (ado l2)]) (by simp[eN,w3])).source
 obtain ⟨v2,H2,a2,N2⟩:=N1.app s2 (by simp;omega)
 have g2:=N2.fw.cw _ _ g0 (by simp)
 obtain ⟨v3,H3,a3,N3⟩:=N2.app (y:= .aq true none [aa (bt li)]) (m:=[bt li]) rfl (by simp;omega)
 have g3:=N3.fw.cw _ _ g0 (by simp)
 have s4:source H3 (.ref h.length [0,5] none 0 16 1)=some (none,ow.map aa):=(Rd.mk' (by simp only[bO,go_sem,↓reduceIte,Nat.reduceEqDiff,Nat.reduceBEq,Nat.reduceAdd,Nat.reduceSub,Nat.reduceLT,Nat.reduceLeDiff,Int.reduceLT,Int.reduceLE,Int.reduceEq,Int.reduceToNat,ab5,abZ,Vm.aJ,Vm.bA,Vm.ba,Vm.aW,Vm.bf,Vm.aX,ab0,ack,g3,cS,acA,abX (ado l3)]) (by simp[eN,w6])).source
 obtain ⟨v4,H4,a4,N4⟩:=N3.app s4 (by simp;omega)
 have g4:=N4.fw.cw _ _ g0 (by simp)
 have s5:source H4 (.ref h.length [0,6] none 0 16 1)=some (none,ke.map aa):=(Rd.mk' (by simp only[bO,go_sem,↓reduceIte,Nat.reduceEqDiff,Nat.reduceBEq,Nat.reduceAdd,Nat.reduceSub,Nat.reduceLT,Nat.reduceLeDiff,Int.reduceLT,Int.reduceLE,Int.reduceEq,Int.reduceToNat,ab5,abZ,Vm.aJ,Vm.bA,Vm.ba,Vm.aW,Vm.bf,Vm.aX,ab0,ack,g4,cS,acA,abX (ado l4)]) (by simp[eN,w7])).source
 obtain ⟨v5,H5,a5,N5⟩:=N4.app s5 (by simp;omega)
 have g5:=N5.fw.cw _ _ g0 (by simp)
 obtain ⟨v6,H6,a6,N6⟩:=N5.app (y:= .aq true none [aa (bt cl)]) (m:=[bt cl]) rfl (by simp;omega)
 have g6:=N6.fw.cw _ _ g0 (by simp)
 have n1:=fy h.length H6 g (by omega) (by have:=N6.fw.len;omega)
 have gn:=q10z g6 [.cells none ((aF g).map aa)]
 obtain ⟨v7,H7,a7,N7⟩:=(N6.mono (Fw.app [] H6 [.cells none ((aF g).map aa)])).app (y:= .ref H6.length [] none 0 8 8) (m:=aF g) (BR.src (ck (aO _ _) (aG _))) (by simp;omega)
 have g7:=N7.fw.cw _ _ g0 (by simp)
 obtain ⟨v8,H8,a8,N8⟩:=(N7.mono (Fw.app [] H7 [.cells none ([bt se.length].map aa)])).app (y:= .ref H7.length [] none 0 1 1) (m:=[bt se.length]) (BR.src (ck (aO _ _) rfl)) (by simp;omega)
 have gl:=q10z g7 [.cells none ([bt se.length].map aa)]
 have g8:=N8.fw.cw _ _ g0 (by simp)
 obtain ⟨v9,H9,a9,N9⟩:=N8.app (cm H8 f se).src (by simp;omega)
 have g9:=N9.fw.cw _ _ g0 (by simp)
 have fz:=N9.pe (n:=h.length) mG
 have tk:=(fG.trans N9.fw).take
 have hrb:lG ⟨op,id,jm,se,li,ow,ke,cl,g⟩=[bt op]++id++jm++[bt li]++ow++ke++[bt cl]++aF g++[bt se.length]++se:=by simp[lG]
 rw[hrb]
 simp only[ab7,acn] at a8 gl
 simp only[B10,l1,l2,l3,l4,j4,hGd,g0,gb,a1,g1,a2,g2,a3,g3,a4,g4,a5,g5,a6,g6,n1,gn,a7,g7,gl,a8,g8,a9,g9,fz,tk,or_true,go_sem,↓reduceIte,Nat.reduceEqDiff,Nat.reduceBEq,Nat.reduceAdd,Nat.reduceSub,Nat.reduceLT,Nat.reduceLeDiff,Int.reduceLT,Int.reduceLE,Int.reduceEq,Int.reduceToNat]
def u0 (f:Bool) (l:Bs) (bad:Bool):aT:= .cells (some 132) [.st 132 [.aq f none (l.map aa),.s (.bool bad)]]
def bN (n:Nat) (s:Bs×Bool):Bs×(Bs×Bool):=if s.2=false∧n≤s.1.length then (s.1.take n,(s.1.drop n,false)) else (List.replicate n 0,([],true))
theorem dI (n:Nat) (s:Bs×Bool):(bN n s).1.length=n:=by
 unfold bN
 split
 ·simp;omega
 ·simp
theorem pF (id n:Nat) (f bad:Bool) (l:Bs) (hn:n≤100000):
 ∃f',∀(b:Nat) (h:Hp) (hg:h[id]? =some (u0 f l bad)),run fns pr b 86 [.ptr id [0] 1,.s (.int .i64 n)] h=some (.aq false none ((bN n (l,bad)).1.map aa),h.set id (u0 f' (bN n (l,bad)).2.1 (bN n (l,bad)).2.2)):=by
 unfold bN
 by_cases c:bad=false∧n≤l.length
 ·rw[if_pos c]
  obtain ⟨rfl,c⟩:=c
  refine ⟨f,fun b h hg=> ?_⟩
  obtain ⟨v,H,ha,hN⟩:=(iV.nil (h.set id (u0 f (l.drop n) false))).app (y:= .aq (f && n==l.length) none ((l.take n).map aa)) (m:=l.take n) rfl (by rw[acz,acg];omega)
  have hz:=hN.pe (n:=h.length) (by simp)
  have tk:H.take h.length=h.set id (u0 f (l.drop n) false):=by have:=hN.fw.take;simpa using this
  refine Vm.aR (nt:=45) rfl OS (by simp) ?_
  have c':¬(n:Int)>((l.length:Nat):Int):=by omega
  have c'':¬((l.length:Nat):Int)<(n:Int):=by omega
  simp only[u0] at ha hz tk
  simp only[B86,hg,u0,c',c'',IS _ _ _ _ _ _ _ c,IT _ _ _ _ _ _ _ c,tk,Bg,ha,hz,go_sem,↓reduceIte,Nat.reduceEqDiff,Nat.reduceBEq,Nat.reduceAdd,Nat.reduceSub,Nat.reduceLT,Nat.reduceLeDiff,Int.reduceLT,Int.reduceLE,Int.reduceEq,Int.reduceToNat]
 ·rw[if_neg c]
  refine ⟨true,fun b h hg=> ?_⟩
  refine Vm.aR (nt:=45) rfl OS (by simp) ?_
  have m1:(0≤(n:Int)∧(n:Int)≤16777216)=True:=by simp;omega
  have hz:=vL n
  have mr:(List.replicate n (0:UInt8)).length=n:=by simp
  have tk2:∀X Y,(h.set id X++Y).take h.length=h.set id X:=fun X Y=> by rw[acq (by simp),abX (by simp)]
  have lp:=dW h.length (List.replicate n (0:UInt8))
  rw[mr] at lp
  cases bad with
  | true=>
    by_cases yq:n=0
    ·subst yq
     have m2:(((0:Nat):Int)=0)=True:=by simp
     have m3:(0≤((0:Nat):Int)∧((0:Nat):Int)≤16777216)=True:=by simp
     have tk3:∀X,(h.set id X).take h.length=h.set id X:=fun X=> abX (by simp)
     simp only[B86,hg,u0,tk2,tk3,xj,Mq,q9z hg,ac4,m1,m2,m3,mr,lp,go_sem,↓reduceIte,Nat.reduceEqDiff,Nat.reduceBEq,Nat.reduceAdd,Nat.reduceSub,Nat.reduceLT,Nat.reduceLeDiff,Int.reduceLT,Int.reduceLE,Int.reduceEq,Int.reduceToNat]
     rfl
    have m2:((n:Int)=0)=False:=by simp;omega
    simp only[B86,hg,u0,tk2,xj,Mq,q9z hg,ac4,m1,m2,hz,mr,lp,go_sem,↓reduceIte,Nat.reduceEqDiff,Nat.reduceBEq,Nat.reduceAdd,Nat.reduceSub,Nat.reduceLT,Nat.reduceLeDiff,Int.reduceLT,Int.reduceLE,Int.reduceEq,Int.reduceToNat]
  | false=>
    have c':((l.length:Nat):Int)<(n:Int):=by
      have:¬n≤l.length:=fun h0=> c ⟨rfl,h0⟩
      omega
    have yq:¬n=0:=by
      rintro rfl
      exact c ⟨rfl,by omega⟩
    have m2:((n:Int)=0)=False:=by simp;omega
    simp only[B86,hg,u0,c',tk2,xj,Mq,q9z hg,ac4,m1,m2,hz,mr,lp,go_sem,↓reduceIte,Nat.reduceEqDiff,Nat.reduceBEq,Nat.reduceAdd,Nat.reduceSub,Nat.reduceLT,Nat.reduceLeDiff,Int.reduceLT,Int.reduceLE,Int.reduceEq,Int.reduceToNat]
theorem si (id:Nat) (f bad:Bool) (l:Bs):
 ∃f',∀(b:Nat) (h:Hp) (hg:h[id]? =some (u0 f l bad)),run fns pr b 83 [.ptr id [0] 1] h=some (.s (.int .i64 (bg (bN 1 (l,bad)).1:Nat)),h.set id (u0 f' (bN 1 (l,bad)).2.1 (bN 1 (l,bad)).2.2)):=by
 obtain ⟨f',Et⟩:=pF id 1 f bad l (by omega)
 refine ⟨f',fun b h hg=> ?_⟩
 have ht:=Et h.length h hg
 refine Vm.aR (nt:=8) rfl Wo (by simp) ?_
 have hl:=dI 1 (l,bad)
 generalize (bN 1 (l,bad)).1=m at ht hl
 match m,hl with
 | [x],_=>
   have tk:∀b',(h.set id b').take h.length=h.set id b':=fun b'=> abX (by simp)
   have hw:IntKind.i64.wrap (x.toNat:Int)=(x.toNat:Int):=wrap_i64 (by omega) (by have:=x.toNat_lt;omega)
   simp only[B83,show (V.s (.int .i64 1))=V.s (.int .i64 ((1:Nat):Int)) from rfl,ht,ab7,acn,aa,hw,tk,bg,go_sem,simprocAttr]
theorem XO {a:Nat} (h:a * 256 < 18446744073709551616):IntKind.u64.wrap ((a:Int)* 256)=((a * 256:Nat):Int):=by
 rw[wrap_u64 (by omega) (by omega)];omega
theorem C7 (id:Nat) (f bad:Bool) (l:Bs):
 ∃f',∀(b:Nat) (h:Hp) (hg:h[id]? =some (u0 f l bad)),run fns pr b 85 [.ptr id [0] 1] h=some (.s (.int .u64 (eA (bN 8 (l,bad)).1:Nat)),h.set id (u0 f' (bN 8 (l,bad)).2.1 (bN 8 (l,bad)).2.2)):=by
 obtain ⟨f',Et⟩:=pF id 8 f bad l (by omega)
 refine ⟨f',fun b h hg=> ?_⟩
 have ht:=Et h.length h hg
 refine Vm.aR (nt:=21) rfl Ws (by simp) ?_
 have hl:=dI 8 (l,bad)
 generalize (bN 8 (l,bad)).1=m at ht hl ⊢
 generalize hR:h.set id (u0 f' (bN 8 (l,bad)).2.1 (bN 8 (l,bad)).2.2)=R at ht ⊢
 have tk:R.take h.length=R:=abX (by rw[←hR];simp)
 have tk2:m.take 8=m:=abX (by omega)
 have jK:∀H,SR H (.aq false none (m.map aa)) none (m.map aa):=fun H=> .inl ⟨false,rfl⟩
 generalize hx:V.aq false none (m.map aa)=x at ht jK
 simp only[B85,OR,OQ,show (V.s (.int .i64 8))=V.s (.int .i64 ((8:Nat):Int)) from rfl,ht,go_sem,simprocAttr]
 refine bw (fun q e H=>∃j,q=8 - j∧j≤8∧e 5= .s (.int .i64 (j:Nat))∧e 3=x∧e 4= .s (.int .u64 (eA (m.take j):Nat))∧H=R)
   (fun e H=> e 4= .s (.int .u64 (eA m:Nat))∧H=R) 8 _ _ ?_ ?_ ?_
 ·exact ⟨0,rfl,by omega,rfl,rfl,rfl,rfl⟩
 ·rintro q e H ⟨j,rfl,hj,e5,e3,e4,rfl⟩
  by_cases cd:j < 8
  ·have cj:(j:Int)< 8:=by omega
   have cj':(j:Int)<((8:Nat):Int):=by omega
   have i1:=fun cf base=>(jK H).cZ (cf:=cf) (base:=base) (k:= .i64) (i:=j) (by simp;omega)
   have i2:=fun cf base=>(jK H).iA (cf:=cf) (base:=base) (i:=j) (v:=aa (m.getD j 0)) (by rw[ab9,List.getD,abV (by omega)];rfl) rfl
   have w3:IntKind.i64.wrap ((j:Int)+1)=((j+1:Nat):Int):=q17z (by omega)
   have hb:=qu m j (by omega)
   have hy:=(m.getD j 0).toNat_lt
   have hp:256 ^ j * 256≤18446744073709551616:=by rw[←Nat.pow_succ];exact aeh (by omega) (show j+1≤8 by omega)
   have s1:=XO (a:=eA (m.take j)) (by omega)
   have hw:=jr (n:=(m.getD j 0).toNat) (by omega)
   have s2:IntKind.u64.wrap (((eA (m.take j)* 256:Nat):Int)+((m.getD j 0).toNat:Int))=((eA (m.take j)* 256+(m.getD j 0).toNat:Nat):Int):=by rw[wrap_u64 (by omega) (by omega)];omega
   simp only[e5,e3,e4,cj,cj',i1,i2,aa,w3,s1,hw,s2,go_sem,simprocAttr]
   refine ⟨8 - (j+1),by omega,j+1,rfl,by omega,rfl,?_⟩
   rw[mO (by omega)]
  ·have cj:¬(j:Int)< 8:=by omega
   have cj':¬(j:Int)<((8:Nat):Int):=by omega
   obtain rfl:j=8:=by omega
   simp only[e5,e3,e4,cj,cj',tk2,go_sem,simprocAttr]
 ·rintro e H ⟨e4,rfl⟩
  simp only[e4,tk,go_sem,simprocAttr]
theorem Ey {base id t n:Nat} {h:Hp} {es ys:List V} (hg:h[id]? =some (.cells (some t) [.arr t es])) (he:es.length=n) (hy:ys.length=n) (hm:ys.all (bS base id)=true):rk base none h (.ref id [0] none 0 n 1) none ys=some (.s (.int .i64 (n:Nat)),h.set id (.cells (some t) [.arr t ys])):=by
 have h1:ys.take n=ys:=abX (by omega)
 have h2:es.drop n=[]:=ae8 (by omega)
 simp only[rk,node,rowOf,hg,nodeAt]
 simp[hm,he,hy,h1,h2,nodeAt,Vm.store,rowOf,hg,putAt]
theorem Rx (id:Nat) (f bad:Bool) (l:Bs):
 ∃f',∀(b:Nat) (h:Hp) (hg:h[id]? =some (u0 f l bad)),run fns pr b 84 [.ptr id [0] 1] h=some (.arr 28 ((bN 4 (l,bad)).1.map aa),h.set id (u0 f' (bN 4 (l,bad)).2.1 (bN 4 (l,bad)).2.2)):=by
 obtain ⟨f',Et⟩:=pF id 4 f bad l (by omega)
 refine ⟨f',fun b h hg=> ?_⟩
 have cJ:=q6z hg
 have hl:=dI 4 (l,bad)
 have c1:∀A B,run fns pr h.length 86 [.ptr id [0] 1,.s (.int .i64 ((4:Nat):Int))] (h++[A,B])=some (.aq false none ((bN 4 (l,bad)).1.map aa),h.set id (u0 f' (bN 4 (l,bad)).2.1 (bN 4 (l,bad)).2.2)++[A,B]):=fun A B=> by
   rw[Et h.length (h++[A,B]) (q10z hg _),aeg _ _ cJ]
 generalize (bN 4 (l,bad)).1=m at c1 hl ⊢
 generalize hR:h.set id (u0 f' (bN 4 (l,bad)).2.1 (bN 4 (l,bad)).2.2)=R at c1 ⊢
 have hRl:R.length=h.length:=by rw[←hR];simp
 have tk:∀X,(R++X).take h.length=R:=fun X=> by rw[←hRl];simp
 have q0:∀A X,(R++A::X)[h.length]? =some A:=fun A X=> by rw[←hRl];simp
 have q1:∀A B,(R++[A,B])[h.length+1]? =some B:=fun A B=> by rw[←hRl,acb (by omega)];simp
 have s0:∀A X A',(R++A::X).set h.length A'=R++A'::X:=fun A X A'=> by rw[←hRl,acF _ _ (by omega)];simp
 have s1:∀A B B',(R++[A,B]).set (h.length+1) B'=R++[A,B']:=fun A B B'=> by rw[←hRl,acF _ _ (by omega)];simp
 have hc:∀cf A,aD cf h.length (R++[A,.cells (some 28) [z4 28]]) (.cpy none) [.ref (h.length+1) [0] none 0 4 1,.aq false none (m.map aa)]=some (.s (.int .i64 (4:Nat)),R++[A,.cells (some 28) [.arr 28 (m.map aa)]]):=fun cf A=> by
   rw[XP,show source (R++[A,.cells (some 28) [z4 28]]) (.aq false none (m.map aa))=some (none,m.map aa) from rfl,adn,Ey (q1 A _) (by rfl) (by simp[hl]) (by rw[ach];intro z hz;obtain ⟨w,_,rfl⟩:=acW.1 hz;simp[bS]),s1]
 refine Vm.aR (nt:=9) rfl Wq (by simp) ?_
 simp only[B84,show (V.s (.int .i64 4))=V.s (.int .i64 ((4:Nat):Int)) from rfl,c1,tk,q0,q1,s0,s1,hc,show oj.length=4 from rfl,go_sem,simprocAttr]
def xq (s:Bs×Bool):av×(Bs×Bool):=
 match bN 1 s with
 | (wh,s1)=> match bN 4 s1 with
   | (i,s2)=> match bN 8 s2 with
     | (g,s3)=> match bN 1 s3 with
       | (le,s4)=> match bN 1 s4 with
         | (cc,s5)=> match bN 8 s5 with
           | (nu,s6)=> match bN 1 s6 with
             | (n,s7)=> match bN (bg n) s7 with
               | (t,s8)=>(⟨(bg wh:Nat),i,(eA g:Nat),(bg le:Nat),t,(bg cc:Nat),(eA nu:Nat)⟩,s8)
def tl (l:Bs):av×Bool:=if ((xq (l,false)).2.2 || decide (0 <(xq (l,false)).2.1.length) || !bQ (xq (l,false)).1)=true then (kM,false) else ((xq (l,false)).1,true)
theorem yS {F:Nat} {h:Hp} {f bad:Bool} {l:Bs} {v:V} {R':aT} {us:List V} (c:∀(b:Nat) (h0:Hp) (_:h0[h.length+1]? =some (u0 f l bad)),run fns pr b F (.ptr (h.length+1) [0] 1::us) h0=some (v,h0.set (h.length+1) R')) (A:aT) (X:Hp):
 run fns pr h.length F (.ptr (h.length+1) [0] 1::us) (h++A::u0 f l bad::X)=some (v,h++A::R'::X):=by
 rw[c h.length (h++A::u0 f l bad::X) (by rw[acb (by omega)];simp)]
 rw[acF _ _ (by omega)]
 simp
theorem Bk (b:Nat) (h:Hp) (f:Bool) (l:Bs):
 run fns pr b 41 [.aq f none (l.map aa)] h=some (.bM [(tl l).1.enc,.s (.bool (tl l).2)],h):=by
 refine Vm.aR (nt:=53) rfl U2 (by simp) ?_
 unfold tl
 have dY:xq (l,false)=xq (l,false):=rfl
 conv at dY=> rhs;unfold xq
 obtain ⟨f1,c1⟩:=si (h.length+1) f false l
 replace c1:=yS c1
 have n1:=dI 1 (l,false)
 generalize bN 1 (l,false)=s1 at dY c1 n1
 obtain ⟨wh,l1,b1⟩:=s1
 simp only at c1 n1 dY
 obtain ⟨f2,c2⟩:=Rx (h.length+1) f1 b1 l1
 replace c2:=yS c2
 have n2:=dI 4 (l1,b1)
 generalize bN 4 (l1,b1)=s2 at dY c2 n2
 obtain ⟨i,l2,b2⟩:=s2
 simp only at c2 n2 dY
 obtain ⟨f3,c3⟩:=C7 (h.length+1) f2 b2 l2
 replace c3:=yS c3
 have n3:=dI 8 (l2,b2)
 generalize bN 8 (l2,b2)=s3 at dY c3 n3
 obtain ⟨g,l3,b3⟩:=s3
 simp only at c3 n3 dY
 obtain ⟨f4,c4⟩:=si (h.length+1) f3 b3 l3
 replace c4:=yS c4
 have n4:=dI 1 (l3,b3)
 generalize bN 1 (l3,b3)=s4 at dY c4 n4
 obtain ⟨le,l4,b4⟩:=s4
 simp only at c4 n4 dY
 obtain ⟨f5,c5⟩:=si (h.length+1) f4 b4 l4
 replace c5:=yS c5
 have n5:=dI 1 (l4,b4)
 generalize bN 1 (l4,b4)=s5 at dY c5 n5
 obtain ⟨cc,l5,b5⟩:=s5
 simp only at c5 n5 dY
 obtain ⟨f6,c6⟩:=C7 (h.length+1) f5 b5 l5
 replace c6:=yS c6
 have n6:=dI 8 (l5,b5)
 generalize bN 8 (l5,b5)=s6 at dY c6 n6
 obtain ⟨nu,l6,b6⟩:=s6
 simp only at c6 n6 dY
 obtain ⟨f7,c7⟩:=si (h.length+1) f6 b6 l6
 replace c7:=yS c7
 have n7:=dI 1 (l6,b6)
 generalize bN 1 (l6,b6)=s7 at dY c7 n7
 obtain ⟨n,l7,b7⟩:=s7
 simp only at c7 n7 dY
 obtain ⟨f8,c8⟩:=pF (h.length+1) (bg n) f7 b7 l7 (by have:=yP n;omega)
 replace c8:=yS c8
 have n8:=dI (bg n) (l7,b7)
 generalize bN (bg n) (l7,b7)=s8 at dY c8 n8
 obtain ⟨t,l8,b8⟩:=s8
 simp only at c8 n8 dY
 rw[dY]
 simp only
 have tk:∀X,(h++X).take h.length=h:=fun X=> by simp
 simp only[u0] at c1 c2 c3 c4 c5 c6 c7 c8
 obtain ⟨q,hq⟩:∃q:av,(⟨(bg wh:Nat),i,(eA g:Nat),(bg le:Nat),t,(bg cc:Nat),(eA nu:Nat)⟩:av)=q:=⟨_,rfl⟩
 have nB:q.enc= .st 45 [.s (.int .i64 (bg wh:Nat)),.arr 28 (i.map aa),.s (.int .u64 (eA g:Nat)),.s (.int .i64 (bg le:Nat)),.aq false none (t.map aa),.s (.int .i64 (bg cc:Nat)),.s (.int .u64 (eA nu:Nat))]:=by rw[←hq];rfl
 have hrq:∀H,run fns pr h.length 87 [.st 45 [.s (.int .i64 (bg wh:Nat)),.arr 28 (i.map aa),.s (.int .u64 (eA g:Nat)),.s (.int .i64 (bg le:Nat)),.aq false none (t.map aa),.s (.int .i64 (bg cc:Nat)),.s (.int .u64 (eA nu:Nat))]] H=some (.s (.bool (bQ q)),H):=fun H=> by rw[←nB];exact rY h.length H false q
 have yQ:kM.enc= .st 45 [ki,z4 28,ku,ki,kx,ki,ku]:=rfl
 have kK:∀cf base H f,aD cf base H .len [.aq f none (l8.map aa)]=some (.s (.int .i64 (l8.length:Nat)),H):=fun cf base H f=> by rw[qt];simp
 rw[hq]
 cases b8 with
 | true=>
   rw[adJ,adJ,if_pos rfl]
   simp only[B41,c1,c2,c3,c4,c5,c6,c7,c8,kK,tk,yQ,go_sem,simprocAttr]
 | false=>
   rw[afk]
   by_cases hl:0 < l8.length
   ·have dq:(0:Int)<(l8.length:Nat):=by omega
    rw[decide_eq_true hl,adJ,if_pos rfl]
    simp only[B41,c1,c2,c3,c4,c5,c6,c7,c8,kK,dq,tk,yQ,go_sem,simprocAttr]
   ·have dq:¬(0:Int)<(l8.length:Nat):=by omega
    rw[decide_eq_false hl,afk]
    cases hr:bQ q with
    | false=>
      rw[hr] at hrq
      rw[if_pos (show (!false)=true from rfl)]
      simp only[B41,c1,c2,c3,c4,c5,c6,c7,c8,kK,dq,tk,hrq,yQ,go_sem,simprocAttr]
    | true=>
      rw[hr] at hrq
      rw[if_neg (show ¬(!true)=true by simp)]
      simp only[B41,c1,c2,c3,c4,c5,c6,c7,c8,kK,dq,tk,hrq,nB,go_sem,simprocAttr]
theorem Bl (b:Nat) (h:Hp) (k:Bs) (n c:Nat) (hk:k.length=16) (hn:n < 18446744073709551616) (hc:c≤8192) (hb:b≤h.length):
 ∃v H,run fns pr b 112 [.arr 22 (k.map aa),.s (.int .u64 n),.s (.int .i64 c)] h=some (v,H)∧BR H v (iq k n c)∧Fw [] h H:=by
 refine Vm.eV (nt:=32) rfl PT (by simp) ?_
 have dt:(k.map aa).length=16:=by simp[hk]
 have m1:max (min (c:Int) 8192) 0=(c:Int):=by omega
 have au:(0:Nat)=0:=rfl
 try simp only[LU,AP,AO,dt,m1,go_sem,simprocAttr]
 repeat' (
   first | refine q5z ?_ ?_ | refine q3z ?_ ?_ | refine q4z ?_ ?_
   all_goals intro ai
   all_goals first | replace ai:=q2z ai | replace ai:=q1z ai | skip
   all_goals first | subst ai | replace au:=And.intro ai au
   all_goals try simp only[au,LU,AP,AO,dt,m1,go_sem,simprocAttr])
 generalize hGd:h++[aT.cells (some 22) [V.arr 22 (k.map aa)]]=G
 have hG:G.length=h.length+1:=by rw[←hGd];simp
 have gG:G[h.length]? =some (.cells (some 22) [V.arr 22 (k.map aa)]):=by rw[←hGd];simp
 have fG:Fw [] h G:=by rw[←hGd];exact Fw.app [] h _
 refine bw (fun m e H=>∃i v,m=(c+15)/ 16 - i∧i≤(c+15)/ 16∧e 8= .s (.int .u64 (i:Nat))∧e 7=v∧e 3= .ptr h.length [0] 1∧e 2= .s (.int .i64 c)∧e 1= .s (.int .u64 n)∧iV G H v (mh k n i))
   (fun e H=>∃v,e 7=v∧e 2= .s (.int .i64 c)∧iV G H v (mh k n ((c+15)/ 16))) ((c+15)/ 16) _ _
   ⟨0,_,rfl,by omega,rfl,rfl,rfl,rfl,rfl,iV.nil G⟩ ?_ ?_
 ·rintro m e H ⟨i,v,rfl,hi,e8,e7,e3,e2,e1,hN⟩
  have hlen:=fun cf base=> hN.br.bH (cf:=cf) (base:=base) (h:=H)
  rw[fL] at hlen
  by_cases cd:i <(c+15)/ 16
  ·have c':((16 * i:Nat):Int)<(c:Int):=by omega
   have hbH:b≤H.length:=by have:=hN.fw.len;have:=fG.len;omega
   have w3:IntKind.u64.wrap ((i:Int)+1)=((i+1:Nat):Int):=by rw[wrap_u64 (by omega) (by omega)];omega
   have gH:H[h.length]? =some (.cells (some 22) [V.arr 22 (k.map aa)]):=hN.fw.cw _ _ gG (by simp)
   have gH2:∀X,(H++X)[h.length]? =some (.cells (some 22) [V.arr 22 (k.map aa)]):=fun X=> q10z gH X
   have n1:=fy b H n hn hbH
   have n2:=fy b (H++[.cells none ((aF n).map aa)]) i (by omega) (by simp;omega)
   have ha:∀cf base,aD cf base (H++[.cells none ((aF n).map aa),.cells none ((aF i).map aa)]) (.app none 1) [.ref H.length [] none 0 8 8,.ref (H.length+1) [] none 0 8 8]=some (.ref H.length [] none 0 16 16,H++[.cells none ((aF n++aF i).map aa),.cells none ((aF i).map aa)]):=fun cf base=> by
     have:=xd (cf:=cf) (base:=base) (H:=H++[.cells none ((aF n).map aa),.cells none ((aF i).map aa)]) (id:=H.length) (l:=aF n) (m:=aF i) (y:= .ref (H.length+1) [] none 0 8 8) (sW H _ _).1 (BR.src (ck (sW H _ _).2 (aG i))) (by rw[aG,aG];omega)
     rw[aG,aG] at this
     rw[this]
     congr 2
     rw[mJ];rfl
   have yr:=fun b=> nC b (H++[aT.cells none ((aF n++aF i).map aa),.cells none ((aF i).map aa)]) (.ref H.length [] none 0 16 16) k (aF n++aF i) hk (BR.rd (ck (by simp) (by simp))) (by simp)
   obtain ⟨v2,H2,iP,hN2⟩:=(hN.mono (Fw.app [] H [.cells none ((aF n++aF i).map aa),.cells none ((aF i).map aa)])).app (y:= .aq true none ((cY k (aF n++aF i)).map aa)) (m:=cY k (aF n++aF i)) rfl (by rw[fL];simp[cY,bG];omega)
   rw[←sZ] at hN2
   simp only[e8,e7,e3,e2,e1,hlen,c',gH,gH2,n1,n2,ha,yr,lq,fq,gU,eC,iP,w3,go_sem,simprocAttr]
   exact ⟨(c+15)/ 16 - (i+1),by omega,i+1,v2,rfl,by omega,by simp_all⟩
  ·have c':¬((16 * i:Nat):Int)<(c:Int):=by omega
   have qa:i=(c+15)/ 16:=by omega
   subst qa
   simp only[e8,e7,e3,e2,e1,hlen,c',go_sem,simprocAttr]
   exact ⟨v,rfl,hN⟩
 ·rintro e H ⟨v,e7,e2,hN⟩
  have GU:c≤(mh k n ((c+15)/ 16)).length:=by rw[fL];omega
  obtain ⟨y,hy,pw⟩:=hN.br.hi (k:= .i64) (r:=c) GU
  simp only[e7,e2,hy,go_sem,simprocAttr]
  exact ⟨pw,fG.trans hN.fw⟩
theorem I0 (a b:Bs):iC a b=iC b a:=by
 unfold iC
 rw[List.zipWith_comm]
 congr 1
 funext x y
 exact UInt8.xor_comm y x
theorem yT (b:Nat) (h:Hp) (x:V) (k l:Bs) (n:Nat) (hk:k.length=16) (hn:n < 18446744073709551616) (hx:BR h x l) (hl:l.length≤8192) (hb:b≤h.length):
 ∃v H,run fns pr b 68 [.arr 22 (k.map aa),.s (.int .u64 n),x] h=some (v,H)∧iV h H v (lu k n l):=by
 refine Vm.eV (nt:=37) rfl VU (by simp) ?_
 have dt:(k.map aa).length=16:=by simp[hk]
 have kK:=fun cf base H=> hx.bH (cf:=cf) (base:=base) (h:=H)
 generalize hGd:h++[aT.cells (some 22) [V.arr 22 (k.map aa)]]=G
 have fG:Fw [] h G:=by rw[←hGd];exact Fw.app [] h _
 obtain ⟨z,H,aZ,hz,f⟩:=Bl b G k n l.length hk hn hl (by have:=fG.len;omega)
 have g0:G[h.length]? =some (.cells (some 22) [.arr 22 (k.map aa)]):=by rw[←hGd];simp
 obtain ⟨v,H2,iP,hN⟩:=(iV.nil H).app (BR.src (hx.mono (fG.trans f))) (m:=l) (by simp;omega)
 rw[acD] at hN
 obtain ⟨kid,xr,Ba,f2⟩:=hN
 simp only[B68,OL,OJ,pE,dt,kK,hGd,g0,aZ,iP,go_sem,simprocAttr]
 have hs:(iq k n l.length).length=l.length:=iB _ _ _
 unfold lu
 rw[I0]
 have sz:=(BR.sr hz).fw f2
 have fH:Fw [] h H2:=fG.trans (f.trans f2)
 have hkh:h.length≤kid:=acE (fG.trans f).len Ba
 generalize iq k n l.length=s at hs sz hz
 by_cases hl0:l=[]
 ·subst hl0
  have s0:s=[]:=adF.1 hs
  subst s0
  have Az:∀cf base H,aD cf base H .len [v]=some (.s (.int .i64 ((0:Nat):Int)),H):=fun cf base H=> XR.BR (l:=[]) xr |>.bH
  refine bw (fun m e H'=> m=0∧e 9= .s (.int .i64 0)∧e 8=v∧H'=H2) (fun e H'=> e 8=v∧H'=H2) 0 _ _ ⟨rfl,rfl,rfl,rfl⟩ ?_ ?_
  ·rintro m e H' ⟨rfl,e9,e8,rfl⟩
   have c':¬(0:Int)<((0:Nat):Int):=by omega
   simp only[e9,e8,c',Az,go_sem,simprocAttr]
   try simp_all
  ·rintro e H' ⟨e8,rfl⟩
   simp only[e8,go_sem,simprocAttr]
   exact ⟨kid,xr,hkh,fH⟩
 ·rcases xr with ⟨rfl,h0⟩ | ⟨rfl,hg⟩
  ·have:l.length=0:=by simpa using h0
   exact absurd (adF.1 (by omega)) hl0
  have yL:(l.map aa).length=l.length:=by simp
  rw[yL]
  refine bw (fun m e H'=>∃j,m=l.length - j∧j≤l.length∧e 9= .s (.int .i64 (j:Nat))∧e 8= .ref kid [] none 0 l.length l.length∧e 7=z∧H'=H2.set kid (.cells none ((jc l s j).map aa)))
    (fun e H'=> e 8= .ref kid [] none 0 l.length l.length∧H'=H2.set kid (.cells none ((iC l s).map aa))) l.length _ _
    ⟨0,rfl,by omega,rfl,rfl,rfl,by rw[vz,kJ hg]⟩ ?_ ?_
  ·rintro m e H' ⟨j,rfl,hj,e9,e8,e7,rfl⟩
   by_cases cd:j < l.length
   ·have c':(j:Int)<((l.length:Nat):Int):=by omega
    have w3:IntKind.i64.wrap ((j:Int)+1)=((j+1:Nat):Int):=q17z (by omega)
    have aaA:H.length≤kid:=Ba
    have jK:=(BR.sr hz).fw (f2.bY aaA (.cells none ((jc l s j).map aa)))
    have Ax:l.length=s.length:=hs.symm
    have CU:s[j]? =some (s.getD j 0):=by rw[List.getD,abV (by omega)];rfl
    have i1:=fun cf base=> jK.cZ (cf:=cf) (base:=base) (k:= .i64) (i:=j) (by simp;omega)
    have i2:=fun cf base=> jK.iA (cf:=cf) (base:=base) (i:=j) (v:= .s (.int .u8 ((s.getD j 0).toNat:Int))) (by rw[ab9,CU];rfl) rfl
    have CV:=yI Ax j (by omega)
    rw[hs] at CV
    have uZ:((jc l s j).map aa)[j]? =some (.s (.int .u8 ((l.getD j 0).toNat:Int))):=by rw[ab9,yK Ax (by omega)];rfl
    have jL:=q9z (b:= .cells none ((jc l s j).map aa)) hg
    have hxo:=Vm.u8_xor (l.getD j 0) (s.getD j 0)
    have qm:((jc l s j).map aa).set j (.s (.int .u8 ((l.getD j 0 ^^^ s.getD j 0).toNat:Int)))=(jc l s (j+1)).map aa:=by rw[←vA Ax (by omega),afc];rfl
    have cc:(0≤(j:Int)∧j < l.length)=True:=by simp;omega
    have gr:(V.s (.int .u8 ((l.getD j 0 ^^^ s.getD j 0).toNat:Int))).ground=true:=rfl
    simp only[e9,e8,e7,c',w3,i1,i2,jL,CV,cc,uZ,hxo,qm,gr,go_sem,simprocAttr]
    refine ⟨l.length - (j+1),by omega,j+1,rfl,by omega,rfl,rfl⟩
   ·have c':¬(j:Int)<((l.length:Nat):Int):=by omega
    have hj2:j=l.length:=by omega
    subst hj2
    rw[show jc l s l.length=iC l s by have:=yJ (s:=l) (l:=s) hs.symm;rwa [hs] at this]
    simp only[e9,e8,e7,c',go_sem,simprocAttr]
  ·rintro e H' ⟨e8,rfl⟩
   simp only[e8,go_sem,simprocAttr]
   refine ⟨kid,.inr ⟨by simp[iC,hs],q9z hg⟩,hkh,fH.bY hkh _⟩
theorem yU (b:Nat) (h:Hp) (x y:V) (k ad l:Bs) (n:Nat) (hk:k.length=16) (hn:n < 18446744073709551616) (hx:Rd h x ad) (hy:Rd h y l) (had:ad.length≤100000) (hl:l.length≤100000) (hb:b≤h.length):
 ∃v H,run fns pr b 69 [.arr 22 (k.map aa),.s (.int .u64 n),x,y] h=some (v,H)∧Rd H v (iW k n ad l)∧Fw [] h H:=by
 refine Vm.eV (nt:=30) rfl VW (by simp) ?_
 have dt:(k.map aa).length=16:=by simp[hk]
 have kK:=fun cf base H=> hx.bH (cf:=cf) (base:=base) (h:=H)
 generalize hGd:h++[aT.cells (some 22) [V.arr 22 (k.map aa)]]=G
 have hG:G.length=h.length+1:=by rw[←hGd];simp
 have g0:G[h.length]? =some (.cells (some 22) [.arr 22 (k.map aa)]):=by rw[←hGd];simp
 have fG:Fw [] h G:=by rw[←hGd];exact Fw.app [] h _
 have htw:=fun b H=> Mu b H k k hk hk
 have n1:=fy b G n hn (by omega)
 have n2:=fy b (G++[.cells none ((aF n).map aa)]) ad.length (by omega) (by simp;omega)
 have wl:IntKind.u64.wrap ((ad.length:Nat):Int)=((ad.length:Nat):Int):=wrap_u64 (by omega) (by omega)
 have N0:iV G (G++[.cells none ((aF n).map aa),.cells none ((aF ad.length).map aa)]) (.ref G.length [] none 0 8 8) (aF n):=⟨G.length,.inr ⟨by simp,by simp⟩,ab0 _,Fw.app [] G _⟩
 obtain ⟨v1,H1,a1,N1⟩:=N0.app (y:= .ref (G.length+1) [] none 0 8 8) (m:=aF ad.length) (BR.src (ck (sW G _ _).2 (aG _))) (by simp)
 obtain ⟨v2,H2,a2,N2⟩:=N1.app (hx.fw (fG.trans N1.fw)).source (by simp;omega)
 obtain ⟨v3,H3,a3,N3⟩:=N2.app (hy.fw (fG.trans N2.fw)).source (by simp;omega)
 have e3:aF n++aF ad.length++ad++l=aF n++(aF ad.length++(ad++l)):=by simp only[ab5]
 rw[e3] at N3
 have yr:=fun b=> nC b H3 v3 (cY k k) _ (jq k k) (BR.rd N3.br) (by simp;omega)
 have gH1:H1[h.length]? =some (.cells (some 22) [.arr 22 (k.map aa)]):=N1.fw.cw _ _ g0 (by simp)
 have Bb:(List.map aa (og k n ad l)).length=16:=by simp[og,jq]
 have hnd:node (H3++[.cells (some 22) [.arr 22 ((og k n ad l).map aa)]]) H3.length [0] 1=some (.arr 22 ((og k n ad l).map aa)):=by simp only[go_sem,simprocAttr,ab5,abZ,Vm.aJ,Vm.bA,Vm.ba,Vm.aW,Vm.bf,Vm.aX,ab0,ack]
 have Ax:=fun cf base=> IL (cf:=cf) (base:=base) (g:=none) (k:= .i64) (r:=8) hnd (by rw[Bb];omega)
 have oM:source (H3++[.cells (some 22) [.arr 22 ((og k n ad l).map aa)]]) (.ref H3.length [0] none 0 8 1)=some (none,(iW k n ad l).map aa):=by
   have:elems (H3++[.cells (some 22) [.arr 22 ((og k n ad l).map aa)]]) (.ref H3.length [0] none 0 8 1)=some (none,(iW k n ad l).map aa):=by
     rw[bO,Vm.oQ,hnd]
     simp only[qo,cS,acA,iW,aeb]
   exact this
 obtain ⟨v4,H4,a4,N4⟩:=(iV.nil _).app oM (by rw[gV];simp)
 rw[acD] at N4
 simp only[B69,dt,hGd,g0,htw,n1,kK,wl,n2,a1,gH1,a2,a3,yr,show cY (cY k k) (aF n++(aF ad.length++(ad++l)))=og k n ad l from rfl,Bb,tc,pE,show (V.s (.int .i64 8))=V.s (.int .i64 ((8:Nat):Int)) from rfl,Ax,a4,go_sem,simprocAttr]
 exact ⟨BR.rd N4.br,fG.trans (N3.fw.trans ((Fw.app [] H3 _).trans N4.fw))⟩
theorem I1 (b:Nat) (h:Hp) (x y:V) (k ad l:Bs) (n:Nat) (hk:k.length=16) (hn:n < 18446744073709551616) (hx:Rd h x ad) (hy:BR h y l) (had:ad.length≤100000):
 run fns pr b 31 [.arr 22 (k.map aa),.s (.int .u64 n),x,y] h=some (.aq false none ((ek k n ad l).map aa),h):=by
 refine Vm.aR (nt:=27) rfl UH (by simp) ?_
 have dt:(k.map aa).length=16:=by simp[hk]
 have lx:=fun cf base H=> hx.bH (cf:=cf) (base:=base) (h:=H)
 have ly:=fun cf base H=> hy.bH (cf:=cf) (base:=base) (h:=H)
 have fz:bE h.length h (.aq false none [])=some (.aq false none []):=rfl
 unfold ek
 by_cases c1:l.length≤8184
 ·have c1':¬(8184:Int)<((l.length:Nat):Int):=by omega
  by_cases c2:ad.length≤8192
  ·have c2':¬(8192:Int)<((ad.length:Nat):Int):=by omega
   rw[if_pos ⟨c1,c2⟩]
   generalize hGd:h++[aT.cells (some 22) [V.arr 22 (k.map aa)]]=G
   have hG:G.length=h.length+1:=by rw[←hGd];simp
   have g0:G[h.length]? =some (.cells (some 22) [.arr 22 (k.map aa)]):=by rw[←hGd];simp
   have fG:Fw [] h G:=by rw[←hGd];exact Fw.app [] h _
   obtain ⟨v,H,hh,hN⟩:=yT h.length G y k l n hk hn (hy.mono fG) (by omega) (by omega)
   have gH:H[h.length]? =some (.cells (some 22) [.arr 22 (k.map aa)]):=hN.fw.cw _ _ g0 (by simp)
   obtain ⟨w,H2,hm,hR,f2⟩:=yU h.length H x y k ad l n hk hn (hx.fw (fG.trans hN.fw)) (BR.rd (hy.mono (fG.trans hN.fw))) (by omega) (by omega) (by have:=hN.fw.len;omega)
   obtain ⟨u,H3,iP,hN3⟩:=(hN.mono f2).app hR.source (by rw[gd,gV];omega)
   have df:=hN3.pe (n:=h.length) (by omega)
   have dU:=(fG.trans hN3.fw).take
   simp only[B31,dt,lx,ly,c1',c2',hGd,g0,hh,gH,hm,iP,df,dU,go_sem,simprocAttr]
  ·have c2':(8192:Int)<((ad.length:Nat):Int):=by omega
   rw[if_neg (by omega)]
   simp only[B31,dt,lx,ly,c1',c2',ab2,go_sem,simprocAttr]
 ·have c1':(8184:Int)<((l.length:Nat):Int):=by omega
  rw[if_neg (by omega)]
  simp only[B31,dt,lx,ly,c1',ab2,go_sem,simprocAttr]
theorem I2 (b:Nat) (h:Hp) (x y:V) (k ad l:Bs) (n:Nat) (hk:k.length=16) (hn:n < 18446744073709551616) (hx:Rd h x ad) (hy:BR h y l):
 run fns pr b 82 [.arr 22 (k.map aa),.s (.int .u64 n),x,y] h=some (fM (mK k n ad l),h):=by
 refine Vm.aR (nt:=46) rfl Wm (by simp) ?_
 have dt:(k.map aa).length=16:=by simp[hk]
 have lx:=fun cf base H=> hx.bH (cf:=cf) (base:=base) (h:=H)
 have ly:=fun cf base H=> hy.bH (cf:=cf) (base:=base) (h:=H)
 unfold mK
 by_cases c0:l.length < 8
 ·have c0':((l.length:Nat):Int)< 8:=by omega
  rw[if_neg (by omega)]
  simp only[B82,dt,lx,ly,c0',fM,ab2,go_sem,simprocAttr]
 have c0':¬((l.length:Nat):Int)< 8:=by omega
 by_cases c1:8192 < l.length
 ·have c1':(8192:Int)<((l.length:Nat):Int):=by omega
  rw[if_neg (by omega)]
  simp only[B82,dt,lx,ly,c0',c1',fM,ab2,go_sem,simprocAttr]
 have c1':¬(8192:Int)<((l.length:Nat):Int):=by omega
 by_cases c2:8192 < ad.length
 ·have c2':(8192:Int)<((ad.length:Nat):Int):=by omega
  rw[if_neg (by omega)]
  simp only[B82,dt,lx,ly,c0',c1',c2',fM,ab2,go_sem,simprocAttr]
 have c2':¬(8192:Int)<((ad.length:Nat):Int):=by omega
 rw[if_pos ⟨by omega,by omega,by omega⟩]
 have w8:IntKind.i64.wrap (((l.length:Nat):Int) - 8)=((l.length - 8:Nat):Int):=by rw[wrap_i64 (by omega) (by omega)];omega
 generalize hGd:h++[aT.cells (some 22) [V.arr 22 (k.map aa)]]=G
 have hG:G.length=h.length+1:=by rw[←hGd];simp
 have g0:G[h.length]? =some (.cells (some 22) [.arr 22 (k.map aa)]):=by rw[←hGd];simp
 have fG:Fw [] h G:=by rw[←hGd];exact Fw.app [] h _
 obtain ⟨z,hz,hbz⟩:=(hy.mono fG).hi (k:= .i64) (r:=l.length - 8) (by omega)
 obtain ⟨v,H,hh,hN⟩:=yT h.length G z k (l.take (l.length - 8)) n hk hn hbz (by rw[acg];omega) (by omega)
 have gH:H[h.length]? =some (.cells (some 22) [.arr 22 (k.map aa)]):=hN.fw.cw _ _ g0 (by simp)
 obtain ⟨w,H2,hm,hR,f2⟩:=yU h.length H x v k ad (lu k n (l.take (l.length - 8))) n hk hn (hx.fw (fG.trans hN.fw)) (BR.rd hN.br) (by omega) (by rw[gd,acg];omega) (by have:=hN.fw.len;omega)
 have sy:=(BR.sr hy).fw (fG.trans (hN.fw.trans f2))
 have hu:=fun cf base=> sy.Mj (cf:=cf) (base:=base) (k:= .i64) (l:=l.length - 8) (by simp)
 have hu0:=fun cf base=>((BR.sr hy).fw (fG.trans hN.fw)).Mj (cf:=cf) (base:=base) (k:= .i64) (l:=l.length - 8) (by simp)
 have su:=sy.loR (l:=l.length - 8) (by simp)
 rw[←List.map_drop,acf] at su
 have ew:=hR.1 H2 (Fw.refl _ _)
 have eu:elems H2 (nU y none (l.length - 8) l.length)=some (none,(l.drop (l.length - 8)).map aa):=su.elems
 have df:=(hN.mono f2).pe (n:=h.length) (by omega)
 have dU:=(fG.trans (hN.fw.trans f2)).take
 have eu0:elems H (nU y none (l.length - 8) l.length)=some (none,(l.drop (l.length - 8)).map aa):=by
   have s0:=((BR.sr hy).fw (fG.trans hN.fw)).loR (l:=l.length - 8) (by simp)
   rw[←List.map_drop,acf] at s0
   exact s0.elems
 by_cases c3:iW k n ad (lu k n (l.take (l.length - 8)))=l.drop (l.length - 8)
 ·simp only[B82,dt,lx,ly,c0',c1',c2',w8,hGd,g0,hz,hh,gH,hm,hu,hu0,Bc,ew,eu,eu0,lC,IM,c3,df,dU,fM,go_sem,simprocAttr]
 ·simp only[B82,dt,lx,ly,c0',c1',c2',w8,hGd,g0,hz,hh,gH,hm,hu,hu0,Bc,ew,eu,eu0,lC,IM,c3,df,dU,fM,go_sem,simprocAttr]
def dZ (k:Bs) (n:Nat):Bs:=cY k (aF n)
theorem lH (k:Bs) (n:Nat):(dZ k n).length=16:=jq _ _
theorem yV (b:Nat) (h:Hp) (k:Bs) (n:Nat) (hk:k.length=16) (hn:n < 18446744073709551616):run fns pr b 118 [.arr 22 (k.map aa),.s (.int .u64 n)] h=some (.arr 22 ((dZ k n).map aa),h):=by
 refine Vm.aR (nt:=9) rfl P8 (by simp) ?_
 have dt:(k.map aa).length=16:=by simp[hk]
 obtain ⟨G,hGd⟩:∃G,h++[aT.cells (some 22) [V.arr 22 (k.map aa)],aT.cells (some 22) [aK 22]]=G:=⟨_,rfl⟩
 have hG:G.length=h.length+2:=by rw[←hGd];simp
 have g0:G[h.length]? =some (.cells (some 22) [.arr 22 (k.map aa)]):=by rw[←hGd];simp
 have g1:G[h.length+1]? =some (.cells (some 22) [aK 22]):=by rw[←hGd];simp
 have n1:=de h.length G n hn (by omega)
 have k1:=mI h.length (G++[.cells none ((aF n).map aa)]) (.ref G.length [] none 0 8 8) k (aF n) hk (BR.rd (ck (by simp) (aG _))) (by rw[aG];omega)
 have g2:=q10z g0 [.cells none ((aF n).map aa)]
 have g3:=q10z g1 [.cells none ((aF n).map aa)]
 have dU:∀x,((G++[aT.cells none ((aF n).map aa)]).set (h.length+1) x).take h.length=h:=fun x=> by rw[aem (by omega),←hGd];simp
 have hkz:∀t,(aK t).ty=some t:=fun _=> rfl
 simp only[P6,dt,hGd,g0,n1,g2,g3,k1,dU,or_true,hkz,show h.length+1 < G.length+1 from by omega,go_sem,simprocAttr]
 rfl
theorem vN (b:Nat) (h:Hp) (k:Bs) (n:Nat) (hk:k.length=16) (hn:n < 18446744073709551616):run fns pr b 32 [.arr 22 (k.map aa),.s (.int .u64 n)] h=some (.arr 22 ((dZ k n).map aa),h):=by
 refine Vm.aR (nt:=9) rfl UJ (by simp) ?_
 have dt:(k.map aa).length=16:=by simp[hk]
 obtain ⟨G,hGd⟩:∃G,h++[aT.cells (some 22) [V.arr 22 (k.map aa)],aT.cells (some 22) [aK 22]]=G:=⟨_,rfl⟩
 have hG:G.length=h.length+2:=by rw[←hGd];simp
 have g0:G[h.length]? =some (.cells (some 22) [.arr 22 (k.map aa)]):=by rw[←hGd];simp
 have g1:G[h.length+1]? =some (.cells (some 22) [aK 22]):=by rw[←hGd];simp
 have n1:=fy h.length G n hn (by omega)
 have k1:=nC h.length (G++[.cells none ((aF n).map aa)]) (.ref G.length [] none 0 8 8) k (aF n) hk (BR.rd (ck (by simp) (aG _))) (by rw[aG];omega)
 have g2:=q10z g0 [.cells none ((aF n).map aa)]
 have g3:=q10z g1 [.cells none ((aF n).map aa)]
 have dU:∀x,((G++[aT.cells none ((aF n).map aa)]).set (h.length+1) x).take h.length=h:=fun x=> by rw[aem (by omega),←hGd];simp
 have hkz:∀t,(aK t).ty=some t:=fun _=> rfl
 simp only[B32,dt,hGd,g0,n1,g2,g3,k1,dU,or_true,hkz,show h.length+1 < G.length+1 from by omega,go_sem,simprocAttr]
 rfl
theorem tm (k:Bs) (n:Nat) (ad l:Bs):(ek k n ad l).length≤8192:=by
 unfold ek
 split
 ·rw[abZ,gd,gV];omega
 ·simp
def cI (k:Bs) (n:Nat) (t:UInt8) (l:Bs):Bs:=aF n++ek (dZ k n) n [t] l
def oT (k:Bs) (n:Nat) (t:UInt8) (l:Bs):V:=if l.length≤8176 then .bM [.aq false none ((cI k n t l).map aa),.s (.int .i64 0)] else .bM [.aq false none [],.s (.int .i64 3)]
theorem Ez (b:Nat) (h:Hp) (y:V) (k l:Bs) (n:Nat) (t:UInt8) (hk:k.length=16) (hn:n < 18446744073709551616) (hy:BR h y l):run fns pr b 80 [.arr 22 (k.map aa),.s (.int .u64 n),aa t,y] h=some (oT k n t l,h):=by
 refine Vm.aR (nt:=24) rfl Wi (by simp) ?_
 have dt:(k.map aa).length=16:=by simp[hk]
 have ly:=fun cf base H=> hy.bH (cf:=cf) (base:=base) (h:=H)
 unfold oT
 by_cases c1:l.length≤8176
 ·have c1':¬(8176:Int)<((l.length:Nat):Int):=by omega
  rw[if_pos c1]
  obtain ⟨G,hGd⟩:∃G,h++[aT.cells (some 22) [V.arr 22 (k.map aa)]]=G:=⟨_,rfl⟩
  have hG:G.length=h.length+1:=by rw[←hGd];simp
  have g0:G[h.length]? =some (.cells (some 22) [.arr 22 (k.map aa)]):=by rw[←hGd];simp
  have fG:Fw [] h G:=by rw[←hGd];exact Fw.app [] h _
  have n1:=de h.length G n hn (by omega)
  have g2:=q10z g0 [.cells none ((aF n).map aa)]
  have fN:Fw [] h (G++[.cells none ((aF n).map aa)]):=fG.trans (Fw.app [] G _)
  have in1:=fun H=> yV h.length H k n hk hn
  have sl:=xg h.length (G++[.cells none ((aF n).map aa)]) (.aq true none [aa t]) y (dZ k n) [t] l n (lH k n) hn (ti true _ [t]) (hy.mono fN) (by simp)
  have N1:iV h (G++[.cells none ((aF n).map aa)]) (.ref G.length [] none 0 8 8) (aF n):=⟨G.length,.inr ⟨by simp[aG],aO _ _⟩,by omega,fN⟩
  obtain ⟨u,H3,iP,N3⟩:=N1.app (y:= .aq false none ((ek (dZ k n) n [t] l).map aa)) (m:=ek (dZ k n) n [t] l) rfl (by rw[aG];have:=tm (dZ k n) n [t] l;omega)
  have df:=N3.pe (n:=h.length) (by omega)
  have dU:=N3.fw.take
  simp only[B80,dt,ly,c1',hGd,g0,n1,g2,in1,sl,iP,df,dU,cI,or_true,go_sem,simprocAttr]
 ·have c1':(8176:Int)<((l.length:Nat):Int):=by omega
  rw[if_neg c1]
  simp only[B80,dt,ly,c1',ab2,go_sem,simprocAttr]
theorem vO (b:Nat) (h:Hp) (y:V) (k l:Bs) (n:Nat) (t:UInt8) (hk:k.length=16) (hn:n < 18446744073709551616) (hy:BR h y l):run fns pr b 9 [.arr 22 (k.map aa),.s (.int .u64 n),aa t,y] h=some (oT k n t l,h):=by
 refine Vm.aR (nt:=24) rfl aar (by simp) ?_
 have dt:(k.map aa).length=16:=by simp[hk]
 have ly:=fun cf base H=> hy.bH (cf:=cf) (base:=base) (h:=H)
 unfold oT
 by_cases c1:l.length≤8176
 ·have c1':¬(8176:Int)<((l.length:Nat):Int):=by omega
  rw[if_pos c1]
  obtain ⟨G,hGd⟩:∃G,h++[aT.cells (some 22) [V.arr 22 (k.map aa)]]=G:=⟨_,rfl⟩
  have hG:G.length=h.length+1:=by rw[←hGd];simp
  have g0:G[h.length]? =some (.cells (some 22) [.arr 22 (k.map aa)]):=by rw[←hGd];simp
  have fG:Fw [] h G:=by rw[←hGd];exact Fw.app [] h _
  have n1:=fy h.length G n hn (by omega)
  have g2:=q10z g0 [.cells none ((aF n).map aa)]
  have fN:Fw [] h (G++[.cells none ((aF n).map aa)]):=fG.trans (Fw.app [] G _)
  have in1:=fun H=> vN h.length H k n hk hn
  have sl:=I1 h.length (G++[.cells none ((aF n).map aa)]) (.aq true none [aa t]) y (dZ k n) [t] l n (lH k n) hn (ti true _ [t]) (hy.mono fN) (by simp)
  have N1:iV h (G++[.cells none ((aF n).map aa)]) (.ref G.length [] none 0 8 8) (aF n):=⟨G.length,.inr ⟨by simp[aG],aO _ _⟩,by omega,fN⟩
  obtain ⟨u,H3,iP,N3⟩:=N1.app (y:= .aq false none ((ek (dZ k n) n [t] l).map aa)) (m:=ek (dZ k n) n [t] l) rfl (by rw[aG];have:=tm (dZ k n) n [t] l;omega)
  have df:=N3.pe (n:=h.length) (by omega)
  have dU:=N3.fw.take
  simp only[B9,dt,ly,c1',hGd,g0,n1,g2,in1,sl,iP,df,dU,cI,or_true,go_sem,simprocAttr]
 ·have c1':(8176:Int)<((l.length:Nat):Int):=by omega
  rw[if_neg c1]
  simp only[B9,dt,ly,c1',ab2,go_sem,simprocAttr]
theorem Mv (b:Nat) (h:Hp) (y:V) (l:Bs) (hy:BR h y l) (hl:8≤l.length):run fns pr b 116 [y] h=some (.s (.int .u64 (eA (l.take 8):Nat)),h):=by
 refine Vm.aR (nt:=20) rfl P3 (by simp) ?_
 obtain ⟨z,hz,hzb⟩:=hy.hi (k:= .i64) (r:=8) (by omega)
 have nV:=hzb.sr
 have hlz:=fun cf base H=> hzb.bH (cf:=cf) (base:=base) (h:=H)
 rw[show (l.take 8).length=8 by simp;omega] at hlz
 simp only[ad4] at hz hlz
 simp only[P1,HT,HS,hz,hlz,go_sem,simprocAttr]
 refine bw (fun q e H=>∃j,q=8 - j∧j≤8∧e 9= .s (.int .i64 (j:Nat))∧e 8= .s (.int .i64 8)∧e 7=z∧e 3= .s (.int .u64 (eA (l.take j):Nat))∧H=h)
   (fun e H=> e 3= .s (.int .u64 (eA (l.take 8):Nat))∧H=h) 8 _ _ ⟨0,rfl,by omega,rfl,rfl,rfl,rfl,rfl⟩ ?_ ?_
 ·rintro q e H ⟨j,rfl,hj,e9,e8,e7,e3,rfl⟩
  by_cases cd:j < 8
  ·have cj:(j:Int)< 8:=by omega
   have i1:=fun cf base=> nV.cZ (cf:=cf) (base:=base) (k:= .i64) (i:=j) (by simp;omega)
   have i2:=fun cf base=> nV.iA (cf:=cf) (base:=base) (i:=j) (v:=aa (l.getD j 0)) (by rw[ab9,ac7,if_pos cd,List.getD,abV (by omega)];rfl) rfl
   have w3:IntKind.i64.wrap ((j:Int)+1)=((j+1:Nat):Int):=q17z (by omega)
   have hb:=qu l j (by omega)
   have hy:=(l.getD j 0).toNat_lt
   have hp:256 ^ j * 256≤18446744073709551616:=by rw[←Nat.pow_succ];exact aeh (by omega) (show j+1≤8 by omega)
   have hw:=jr (n:=(l.getD j 0).toNat) (by omega)
   have s1:=OY (a:=eA (l.take j)) (by omega)
   have s2:=XI (a:=eA (l.take j)) (y:=(l.getD j 0).toNat) (by omega) hy
   have h1:∀cf base h,aD cf base h (.bin .num .shl) [.s (.int .u64 (eA (l.take j):Nat)),.s (.int .u64 8)]=some (.s (.int .u64 ((eA (l.take j)* 256:Nat):Int)),h):=fun cf base h=> by rw[←s1];exact yH cf base h .u64 .u64 _ 8 (by omega)
   simp only[e9,e8,e7,e3,cj,i1,i2,aa,w3,h1,hw,s2,go_sem,simprocAttr]
   exact ⟨8 - (j+1),by omega,j+1,rfl,by omega,rfl,by rw[mO (by omega)]⟩
  ·have cj:¬(j:Int)< 8:=by omega
   obtain rfl:j=8:=by omega
   simp only[e9,e8,e7,e3,cj,go_sem,simprocAttr]
 ·rintro e H ⟨e3,rfl⟩
  simp only[e3,go_sem,simprocAttr]
theorem I3 (b:Nat) (h:Hp) (y:V) (l:Bs) (hy:BR h y l) (hl:8≤l.length):run fns pr b 81 [y] h=some (.s (.int .u64 (eA (l.take 8):Nat)),h):=by
 refine Vm.aR (nt:=18) rfl Wk (by simp) ?_
 simp only[B81,OP,OO,go_sem,simprocAttr]
 refine bw (fun q e H=>∃j,q=8 - j∧j≤8∧e 4= .s (.int .i64 (j:Nat))∧e 0=y∧e 3= .s (.int .u64 (eA (l.take j):Nat))∧H=h)
   (fun e H=> e 3= .s (.int .u64 (eA (l.take 8):Nat))∧H=h) 8 _ _ ⟨0,rfl,by omega,rfl,rfl,rfl,rfl⟩ ?_ ?_
 ·rintro q e H ⟨j,rfl,hj,e4,e0,e3,rfl⟩
  by_cases cd:j < 8
  ·have cj:(j:Int)< 8:=by omega
   have i1:=fun cf base=> hy.sr.cZ (cf:=cf) (base:=base) (k:= .i64) (i:=j) (by simp;omega)
   have i2:=fun cf base=> hy.sr.iA (cf:=cf) (base:=base) (i:=j) (v:=aa (l.getD j 0)) (by rw[ab9,List.getD,abV (by omega)];rfl) rfl
   have w3:IntKind.i64.wrap ((j:Int)+1)=((j+1:Nat):Int):=q17z (by omega)
   have hb:=qu l j (by omega)
   have hyl:=(l.getD j 0).toNat_lt
   have hp:256 ^ j * 256≤18446744073709551616:=by rw[←Nat.pow_succ];exact aeh (by omega) (show j+1≤8 by omega)
   have hw:=jr (n:=(l.getD j 0).toNat) (by omega)
   have w1:IntKind.u64.wrap ((eA (l.take j):Int)* 256)=((eA (l.take j)* 256:Nat):Int):=by rw[wrap_u64 (by omega) (by omega)];omega
   have w2:IntKind.u64.wrap (((eA (l.take j)* 256:Nat):Int)+((l.getD j 0).toNat:Int))=((eA (l.take j)* 256+(l.getD j 0).toNat:Nat):Int):=by rw[wrap_u64 (by omega) (by omega)];omega
   simp only[e4,e0,e3,cj,i1,i2,aa,w3,w1,hw,w2,go_sem,simprocAttr]
   exact ⟨8 - (j+1),by omega,j+1,rfl,by omega,rfl,by rw[mO (by omega)]⟩
  ·have cj:¬(j:Int)< 8:=by omega
   obtain rfl:j=8:=by omega
   simp only[e4,e0,e3,cj,go_sem,simprocAttr]
 ·rintro e H ⟨e3,rfl⟩
  simp only[e3,go_sem,simprocAttr]
def jt (k:Bs) (t:UInt8) (l:Bs):Option Bs:=mK (dZ k (eA (l.take 8))) (eA (l.take 8)) [t] (l.drop 8)
def kO (k:Bs) (t:UInt8) (l:Bs):V:=if l.length < 16 then .bM [.aq false none [],.s (.int .i64 12)] else if 8192 < l.length then .bM [.aq false none [],.s (.int .i64 3)] else fM (jt k t l)
theorem C8 {m:Bs} (hm:8≤m.length):eA (m.take 8)< 18446744073709551616:=qu m 8 hm
theorem I4 (b:Nat) (h:Hp) (y:V) (k l:Bs) (t:UInt8) (hk:k.length=16) (hy:BR h y l):run fns pr b 72 [.arr 22 (k.map aa),aa t,y] h=some (kO k t l,h):=by
 refine Vm.aR (nt:=30) rfl V2 (by simp) ?_
 have dt:(k.map aa).length=16:=by simp[hk]
 have ly:=fun cf base H=> hy.bH (cf:=cf) (base:=base) (h:=H)
 unfold kO
 by_cases c0:l.length < 16
 ·have c0':((l.length:Nat):Int)< 16:=by omega
  rw[if_pos c0]
  simp only[B72,dt,ly,c0',ab2,go_sem,simprocAttr]
 have c0':¬((l.length:Nat):Int)< 16:=by omega
 rw[if_neg c0]
 by_cases c1:8192 < l.length
 ·have c1':(8192:Int)<((l.length:Nat):Int):=by omega
  rw[if_pos c1]
  simp only[B72,dt,ly,c0',c1',ab2,go_sem,simprocAttr]
 have c1':¬(8192:Int)<((l.length:Nat):Int):=by omega
 rw[if_neg c1]
 obtain ⟨G,hGd⟩:∃G,h++[aT.cells (some 22) [V.arr 22 (k.map aa)]]=G:=⟨_,rfl⟩
 have g0:G[h.length]? =some (.cells (some 22) [.arr 22 (k.map aa)]):=by rw[←hGd];simp
 have fG:Fw [] h G:=by rw[←hGd];exact Fw.app [] h _
 have dU:=fG.take
 have hn:=C8 (m:=l) (by omega)
 have sd:=Mv h.length G y l (hy.mono fG) (by omega)
 have in1:=fun H=> yV h.length H k (eA (l.take 8)) hk hn
 obtain ⟨z,lo,lz⟩:=(hy.mono fG).lo (k:= .i64) (r:=8) (by omega)
 simp only[ad4] at lo
 have ob:=Mi h.length G (.aq true none [aa t]) z (dZ k (eA (l.take 8))) [t] (l.drop 8) (eA (l.take 8)) (lH _ _) hn (ti true _ [t]) lz
 unfold jt
 generalize mK (dZ k (eA (l.take 8))) (eA (l.take 8)) [t] (l.drop 8)=o at ob ⊢
 cases o with
 | none=>
   simp only[fM] at ob ⊢
   simp only[B72,dt,ly,c0',c1',hGd,g0,sd,in1,lo,ob,dU,or_true,go_sem,simprocAttr]
 | some zz=>
   simp only[fM] at ob ⊢
   simp only[B72,dt,ly,c0',c1',hGd,g0,sd,in1,lo,ob,dU,or_true,go_sem,simprocAttr]
theorem yW (b:Nat) (h:Hp) (y:V) (k l:Bs) (t:UInt8) (hk:k.length=16) (hy:BR h y l):run fns pr b 40 [.arr 22 (k.map aa),aa t,y] h=some (kO k t l,h):=by
 refine Vm.aR (nt:=28) rfl U0 (by simp) ?_
 have dt:(k.map aa).length=16:=by simp[hk]
 have ly:=fun cf base H=> hy.bH (cf:=cf) (base:=base) (h:=H)
 unfold kO
 by_cases c0:l.length < 16
 ·have c0':((l.length:Nat):Int)< 16:=by omega
  rw[if_pos c0]
  simp only[B40,dt,ly,c0',ab2,go_sem,simprocAttr]
 have c0':¬((l.length:Nat):Int)< 16:=by omega
 rw[if_neg c0]
 by_cases c1:8192 < l.length
 ·have c1':(8192:Int)<((l.length:Nat):Int):=by omega
  rw[if_pos c1]
  simp only[B40,dt,ly,c0',c1',ab2,go_sem,simprocAttr]
 have c1':¬(8192:Int)<((l.length:Nat):Int):=by omega
 rw[if_neg c1]
 obtain ⟨G,hGd⟩:∃G,h++[aT.cells (some 22) [V.arr 22 (k.map aa)]]=G:=⟨_,rfl⟩
 have g0:G[h.length]? =some (.cells (some 22) [.arr 22 (k.map aa)]):=by rw[←hGd];simp
 have fG:Fw [] h G:=by rw[←hGd];exact Fw.app [] h _
 have dU:=fG.take
 have hn:=C8 (m:=l) (by omega)
 have sd:=I3 h.length G y l (hy.mono fG) (by omega)
 have in1:=fun H=> vN h.length H k (eA (l.take 8)) hk hn
 obtain ⟨z,lo,lz⟩:=(hy.mono fG).lo (k:= .i64) (r:=8) (by omega)
 simp only[ad4] at lo
 have ob:=I2 h.length G (.aq true none [aa t]) z (dZ k (eA (l.take 8))) [t] (l.drop 8) (eA (l.take 8)) (lH _ _) hn (ti true _ [t]) lz
 unfold jt
 generalize mK (dZ k (eA (l.take 8))) (eA (l.take 8)) [t] (l.drop 8)=o at ob ⊢
 cases o with
 | none=>
   simp only[fM] at ob ⊢
   simp only[B40,dt,ly,c0',c1',hGd,g0,sd,in1,lo,ob,dU,or_true,go_sem,simprocAttr]
 | some zz=>
   simp only[fM] at ob ⊢
   simp only[B40,dt,ly,c0',c1',hGd,g0,sd,in1,lo,ob,dU,or_true,go_sem,simprocAttr]
abbrev cQ (a b:Bs):Int:=Lib.compareBytes a b
theorem ju :∀a:Bs,cQ a a=0
 | []=> rfl
 | x::a=> by simp only[cQ,Lib.compareBytes,UInt8.lt_irrefl,if_false];exact ju a
theorem mR :∀a b:Bs,cQ a b=0→a=b
 | [],[],_=> rfl
 | [],_::_,h=> by simp[cQ,Lib.compareBytes] at h
 | _::_,[],h=> by simp[cQ,Lib.compareBytes] at h
 | x::a,y::b,h=> by
   simp only[cQ,Lib.compareBytes] at h
   split at h
   ·cases h
   ·split at h
    ·cases h
    ·rename_i h1 h2
     rw[aey] at h1 h2
     have:x=y:=afd.1 (by omega)
     rw[this,mR a b h]
theorem tn :∀a b:Bs,cQ a b= - cQ b a
 | [],[]=> rfl
 | [],_::_=> rfl
 | _::_,[]=> rfl
 | x::a,y::b=> by
   have ih:=tn a b
   simp only[cQ] at ih
   simp only[cQ,Lib.compareBytes,aey]
   by_cases h1:x.toNat < y.toNat
   ·rw[if_pos h1,if_neg (by omega),if_pos h1]
   ·by_cases h2:y.toNat < x.toNat
    ·rw[if_neg h1,if_pos h2,if_pos h2];rfl
    ·rw[if_neg h1,if_neg h2,if_neg h2,if_neg h1];exact ih
theorem fO :∀a b c:Bs,cQ a b < 0→cQ b c < 0→cQ a c < 0
 | [],[],_,h,_=> by simp[cQ,Lib.compareBytes] at h
 | [],_::_,[],_,h=> by simp[cQ,Lib.compareBytes] at h
 | [],_::_,_::_,_,_=> by simp[cQ,Lib.compareBytes]
 | _::_,[],_,h,_=> by simp[cQ,Lib.compareBytes] at h
 | _::_,_::_,[],_,h=> by simp[cQ,Lib.compareBytes] at h
 | x::a,y::b,z::c,h1,h2=> by
   have ih:=fO a b c
   simp only[cQ] at ih
   simp only[cQ,Lib.compareBytes,aey] at h1 h2 ⊢
   split at h1
   ·split at h2
    ·rw[if_pos (by omega)];decide
    ·split at h2
     ·cases h2
     ·rw[if_pos (by omega)];decide
   ·split at h1
    ·cases h1
    ·split at h2
     ·rw[if_pos (by omega)];decide
     ·split at h2
      ·cases h2
      ·rw[if_neg (by omega),if_neg (by omega)];exact ih h1 h2
def gf (l:List ae):Prop:=l.Pairwise fun v w=> cQ v.iD w.iD < 0
def pos (l:List ae) (id:Bs):Nat:=l.countP fun v=> decide (cQ v.iD id < 0)
theorem I5 (l:List ae) (id:Bs):pos l id≤l.length:=List.countP_le_length
theorem xt {id:Bs}:∀ {l:List ae},gf l→∀ {i:Nat} {v:ae},l[i]? =some v→(cQ v.iD id < 0↔i < pos l id)
 | [],_,i,v,h=> by simp at h
 | w::l,hr,i,v,h=> by
   obtain ⟨h1,h2⟩:=aeO.1 hr
   simp only[pos,ae3]
   by_cases hw:cQ w.iD id < 0
   ·simp only[hw,decide_true,if_true]
    cases i with
    | zero=> simp at h;subst h;simp[hw]
    | succ i=>
      have:=xt (id:=id) h2 (by simpa using h)
      rw[this];unfold pos;omega
   ·simp only[hw,decide_false,aca,if_false,ad7]
    have hz:pos l id=0:=by
      rw[pos,aeI]
      intro x hx
      have h3:=h1 x hx
      simp only[decide_eq_true_eq]
      intro h4
      exact hw (fO _ _ _ h3 h4)
    unfold pos at hz
    rw[hz]
    cases i with
    | zero=> simp at h;subst h;simp[hw]
    | succ i=>
      have h3:=h1 v (ab8 (by simpa using h))
      constructor
      ·intro h4;exact absurd (fO _ _ _ h3 h4) hw
      ·omega
end Go.Proofs.YtggjbepemdhohaaGreat
namespace Go.Vm
theorem Bm {h:Hp} {j t:Nat} {g:Option Nat} {l:List UInt8} (hg:h[j]? =some (.cells g [.arr t (l.map aa)])):elems h (.ref j [0] none 0 l.length 1)=some (none,l.map aa):=by
 simp only[elems,Vm.rowAt,node,rowOf,hg,nodeAt,acj,acz,if_true,aci,aco,acA,pG]
end Go.Vm
namespace Go.Proofs.YtggjbepemdhohaaGreat
open Go Go.Vm Go.Proofs Go.Cl
set_option maxRecDepth 100000
def al (id:Bs):Nat:=((cP id).getD 0 0).toNat % 16
theorem eF (id:Bs):al id < 16:=adZ _ (by decide)
theorem Mw (b:Nat) (x:V) (h:Hp):run fns pr b 55 [x] h=yD [x] h:=by
 rw[oN fns pr rfl];rfl
theorem Mx (b:Nat) {h:Hp} {j t:Nat} {g:Option Nat} {l:Bs} (hg:h[j]? =some (.cells g [.arr t (l.map aa)])) (hl:l.length≤1000000):run fns pr b 55 [.ref j [0] none 0 l.length 1] h=some (.arr 22 ((cP l).map aa),h):=by
 rw[Mw];exact CO (Rd.mk' (Bm hg) rfl) hl
theorem XQ (l:Bs):∃u:Nat,u < 256∧((cP l).map aa)[0]? =some (.s (.int .u8 u))∧((cP l).getD 0 0).toNat=u:=by
 have h:=bG l
 refine ⟨((cP l).getD 0 0).toNat,UInt8.toNat_lt _,?_,rfl⟩
 rw[ab9,List.getD,abV (by omega)]
 rfl
theorem gX (b:Nat) (h:Hp) (id:Bs) (hl:id.length≤1000000):run fns pr b 59 [.arr 28 (id.map aa)] h=some (.s (.int .i64 (al id:Nat)),h):=by
 refine Vm.aR (nt:=8) rfl VD (by simp) ?_
 have hs:=Mx h.length (h:=h++[.cells (some 28) [.arr 28 (id.map aa)]]) (aO _ _) hl
 obtain ⟨u,hu,h0,he⟩:=XQ id
 have hlen:((cP id).map aa).length=16:=by rw[acf,bG]
 have hr:∀cf base h,aD cf base h (.bin .num .rem) [.s (.int .u8 (u:Int)),.s (.int .u8 16)]=some (.s (.int .u8 ((u % 16:Nat):Int)),h):=fun cf base h=> by
   rw[qY cf base h .u8 _ 16 (by omega),acY (by omega)];rfl
 have hw:IntKind.i64.wrap ((u % 16:Nat):Int)=((u % 16:Nat):Int):=wrap_i64 (by omega) (by omega)
 have pH:al id=u % 16:=by rw[al,he]
 generalize (cP id).map aa=ws at hs h0 hlen
 rw[pH]
 have hix:∀cf base h,aD cf base h (.idx 22) [.arr 22 ws,.s (.int .i64 0)]=some (.s (.int .u8 u),h):=fun cf base h=> by
   have h1:(0:Int)<((16:Nat):Int):=by decide
   simp only[aD,rl,numOf,hlen,h0,h1,Int.le_refl,and_self,if_true,Int.toNat_zero,aco]
 have au:(0:Nat)=0:=rfl
 try simp only[B59,hs,hix,hr,hw,go_sem,simprocAttr]
 repeat' (
   first | refine q5z ?_ ?_ | refine q3z ?_ ?_ | refine q4z ?_ ?_
   all_goals intro ai
   all_goals first | replace ai:=q2z ai | replace ai:=q1z ai | skip
   all_goals first | subst ai | replace au:=And.intro ai au
   all_goals try simp only[au,B59,hs,hix,hr,hw,go_sem,simprocAttr])
theorem yX (b:Nat) (h:Hp) (id:Bs) (hl:id.length≤1000000):run fns pr b 7 [.arr 28 (id.map aa)] h=some (.s (.int .i64 (al id:Nat)),h):=by
 refine Vm.aR (nt:=10) rfl aan (by simp) ?_
 have hs:=fun t=> xp h.length (h++t) (.ref h.length [0] none 0 id.length 1) id
 have hs:=xp h.length (h++[.cells (some 28) [.arr 28 (id.map aa)]]) (.ref h.length [0] none 0 id.length 1) id (Rd.mk' (Bm (aO _ _)) rfl) hl
 obtain ⟨u,hu,h0,he⟩:=XQ id
 have hlen:((cP id).map aa).length=16:=by rw[acf,bG]
 have hr:∀cf base h,aD cf base h (.bin .num .rem) [.s (.int .u8 (u:Int)),.s (.int .u8 16)]=some (.s (.int .u8 ((u % 16:Nat):Int)),h):=fun cf base h=> by
   rw[qY cf base h .u8 _ 16 (by omega),acY (by omega)];rfl
 have hw:IntKind.i64.wrap ((u % 16:Nat):Int)=((u % 16:Nat):Int):=wrap_i64 (by omega) (by omega)
 have pH:al id=u % 16:=by rw[al,he]
 generalize (cP id).map aa=ws at hs h0 hlen
 rw[pH]
 have au:(0:Nat)=0:=rfl
 try simp only[B7,ad4,hs,hlen,h0,hr,hw,go_sem,simprocAttr]
 repeat' (
   first | refine q5z ?_ ?_ | refine q3z ?_ ?_ | refine q4z ?_ ?_
   all_goals intro ai
   all_goals first | replace ai:=q2z ai | replace ai:=q1z ai | skip
   all_goals first | subst ai | replace au:=And.intro ai au
   all_goals try simp only[au,B7,ad4,hs,hlen,h0,hr,hw,go_sem,simprocAttr])
theorem C9 (b:Nat) (x y:V) (h:Hp):run fns pr b 110 [x,y] h=I6 (elems h x) (elems h y) h:=by
 rw[oN fns pr rfl];exact IQ _ _ _
theorem lI (b:Nat) (vs:List V) (h:Hp):run fns pr b 109 vs h=fe (some 37) 96 vs h:=by
 rw[oN fns pr rfl];rfl
theorem tp (l:List ae):V.plain.all (l.map ae.enc)=true:=by
 induction l with
 | nil=> rfl
 | cons v l ih=> simp only[ab7,tq,ih,ae.enc,go_sem]
def TR (h:Hp) (t k:Nat) (l:List ae):Prop:=
 ∃x,h[t]? =some (.cells (some 138) [.st 138 [x]])∧
  ((x= .aq true (some 37) []∧l=[]∧k=t)∨(x= .ref k [] (some 37) 0 l.length l.length∧k≠t∧h[k]? =some (.cells (some 37) (l.map ae.enc))))
theorem TR.mono {S:List Nat} {h h':Hp} {t k:Nat} {l:List ae} (ho:TR h t k l) (f:Fw S h h') (hi:t∉S) (hk:k∉S):TR h' t k l:=by
 obtain ⟨x,h1,h2⟩:=ho
 refine ⟨x,f.cw _ _ h1 hi,?_⟩
 rcases h2 with h2 | ⟨a,b,c⟩
 ·exact .inl h2
 ·exact .inr ⟨a,b,f.cw _ _ c hk⟩
theorem TR.lt {h:Hp} {t k:Nat} {l:List ae} (ho:TR h t k l):t < h.length∧k < h.length:=by
 obtain ⟨x,h1,h2⟩:=ho
 refine ⟨q6z h1,?_⟩
 rcases h2 with ⟨_,_,rfl⟩ | ⟨_,_,h3⟩
 ·exact q6z h1
 ·exact q6z h3
theorem My (b:Nat) (h:Hp) (t k:Nat) (l:List ae) (ho:TR h t k l):run fns pr b 95 [.ptr t [0] 1] h=some (.s (.int .i64 l.length),h):=by
 refine Vm.aR (nt:=8) rfl WJ (by simp) ?_
 obtain ⟨x,h1,⟨rfl,rfl,rfl⟩ | ⟨rfl,h2,h3⟩⟩:=ho
 ·have au:(0:Nat)=0:=rfl
  try simp only[B95,h1,go_sem,simprocAttr]
  repeat' (
    first | refine q5z ?_ ?_ | refine q3z ?_ ?_ | refine q4z ?_ ?_
    all_goals intro ai
    all_goals first | replace ai:=q2z ai | replace ai:=q1z ai | skip
    all_goals first | subst ai | replace au:=And.intro ai au
    all_goals try simp only[au,B95,h1,go_sem,simprocAttr])
  all_goals rfl
 ·have au:(0:Nat)=0:=rfl
  try simp only[B95,h1,go_sem,simprocAttr]
  repeat' (
    first | refine q5z ?_ ?_ | refine q3z ?_ ?_ | refine q4z ?_ ?_
    all_goals intro ai
    all_goals first | replace ai:=q2z ai | replace ai:=q1z ai | skip
    all_goals first | subst ai | replace au:=And.intro ai au
    all_goals try simp only[au,B95,h1,go_sem,simprocAttr])
theorem sj (b:Nat) (h:Hp) (f:Bool) (v:ae) (hl:v.aL.length≤140737488355328):run fns pr b 108 [v.aI f] h=some (v.enc,h):=by
 refine Vm.aR (nt:=8) rfl PO (by simp) ?_
 obtain ⟨a1,a2,a3,a4,a5,a6,a7,a8,a9⟩:=v
 simp only at hl
 have hc:=fun h0=> td (h:=h0) (cm h0 f a4) hl
 have cl:∀A B C D,bE h.length (h++A::B::ct a4) (cv (h++[C,D]) a4)=some (.aq false none (a4.map aa)):=fun A B C D=> by
   have:=Mz h.length (h++[C,D]) (h++[A,B]) a4 (by simp) (by simp)
   rwa [ab5] at this
 simp only[PM,ae.aI,ae.enc,gR,hc,OZ,yY,cl,ab2,go_sem,simprocAttr]
theorem I7 (b:Nat) (h:Hp) (v:ae) (id:Bs):run fns pr b 139 [v.enc,.arr 28 (id.map aa)] h=some (.s (.int .i64 (cQ v.iD id)),h):=by
 refine Vm.aR (nt:=9) rfl QW (by simp) ?_
 have hc:=fun x y h0=> C9 h.length x y h0
 have au:(0:Nat)=0:=rfl
 try simp only[L4,ae.enc,hc,go_sem,simprocAttr]
 repeat' (
   first | refine q5z ?_ ?_ | refine q3z ?_ ?_ | refine q4z ?_ ?_
   all_goals intro ai
   all_goals first | replace ai:=q2z ai | replace ai:=q1z ai | skip
   all_goals first | subst ai | replace au:=And.intro ai au
   all_goals try simp only[au,L4,ae.enc,hc,go_sem,simprocAttr])
theorem EA (b:Nat) (h:Hp) (x:V) (l:List ae) (id:Bs) (hx:SR h x (some 37) (l.map ae.enc)) (hr:gf l) (hl:l.length≤1000):
 run fns pr b 138 [x,.arr 28 (id.map aa),.fn 139 []] h=some (.bM [.s (.int .i64 (pos l id)),.s (.bool (decide ((l[pos l id]?).map ae.iD=some id)))],h):=by
 refine Vm.aR (nt:=49) rfl QU (by simp) ?_
 have hlen:=fun cf base h0=> hx.bH (cf:=cf) (base:=base) (h:=h0)
 simp only[acf] at hlen
 have nW:SR (h++[.cells (some 28) [.arr 28 (id.map aa)]]) x (some 37) (l.map ae.enc):=hx.app _
 generalize hH:h++[.cells (some 28) [.arr 28 (id.map aa)]]=H at nW
 have hHl:H[h.length]? =some (.cells (some 28) [.arr 28 (id.map aa)]):=by rw[←hH];exact aO _ _
 have hHt:H.take h.length=h:=by rw[←hH];simp
 have hp:=I5 l id
 have MA:=fun cf base k (i:Nat) hi=> nW.cZ (cf:=cf) (base:=base) (k:=k) (i:=i) hi
 have ID:=fun cf base (i:Nat) (v:ae) (hv:l[i]? =some v)=> nW.iA (cf:=cf) (base:=base) (i:=i) (v:=v.enc) (by rw[ab9,hv];rfl) rfl
 have hf:=fun h0 v=> I7 h.length h0 v id
 simp only[acf] at MA
 have au:(0:Nat)=0:=rfl
 try simp only[L3,AW,AV,hlen,hH,go_sem,simprocAttr]
 repeat' (
   first | refine q5z ?_ ?_ | refine q3z ?_ ?_ | refine q4z ?_ ?_
   all_goals intro ai
   all_goals first | replace ai:=q2z ai | replace ai:=q1z ai | skip
   all_goals first | subst ai | replace au:=And.intro ai au
   all_goals try simp only[au,L3,AW,AV,hlen,hH,go_sem,simprocAttr])
 refine bw (fun m e hh=>∃i j:Nat,m=j - i∧i≤pos l id∧pos l id≤j∧j≤l.length∧e 9= .s (.int .i64 i)∧e 10= .s (.int .i64 j)∧e 8= .s (.int .i64 l.length)∧e 0=x∧e 2= .fn 139 []∧e 4= .ptr h.length [0] 1∧hh=H)
   (fun e hh=> e 9= .s (.int .i64 (pos l id))∧e 8= .s (.int .i64 l.length)∧e 0=x∧e 2= .fn 139 []∧e 4= .ptr h.length [0] 1∧hh=H) l.length _ _ ⟨0,l.length,by omega,by omega,hp,by omega,?_,?_,?_,?_,?_,?_,rfl⟩ ?_ ?_
 rotate_right 2
 ·rintro m e hh ⟨i,j,rfl,h1,h2,h3,e9,e10,e8,e0',e2,e4,rfl⟩
  by_cases c:i < j
  ·have c':(i:Int)< j:=by omega
   have pz:IntKind.i64.wrap ((i:Int)+j)=(i:Int)+j:=wrap_i64 (by omega) (by omega)
   have CS:IntKind.u64.wrap ((i:Int)+j)=(i:Int)+j:=wrap_u64 (by omega) (by omega)
   have pv:=fun cf base h=> sR (cf:=cf) (base:=base) (h:=h) .u64 .u64 ((i:Int)+j) 1 (by decide)
   have Ry:=fun cf base h=> sR (cf:=cf) (base:=base) (h:=h) .u64 .i64 ((i:Int)+j) 1 (by decide)
   have hs:sN .u64 ((i:Int)+j) 1=(((i+j)/ 2:Nat):Int):=by
     simp only[sN,show min (Int.toNat 1) IntKind.u64.bits=1 from rfl]
     rw[aef _ (by decide)];omega
   have hw3:IntKind.i64.wrap (((i+j)/ 2:Nat):Int)=(((i+j)/ 2:Nat):Int):=wrap_i64 (by omega) (by omega)
   obtain ⟨t,ht⟩:∃t,t=(i+j)/ 2:=⟨_,rfl⟩
   rw[←ht] at hs hw3
   have hti:i≤t:=by omega
   have htj:t < j:=by omega
   have u4:t < l.length:=by omega
   have hv:l[t]? =some l[t]:=abV u4
   generalize l[t]=v at hv
   have cJ:=xt hr hv (id:=id)
   have fg:=fun cf base k=> MA cf base k t u4
   have iQ:=fun cf base=> ID cf base t v hv
   have hw4:IntKind.i64.wrap ((t:Int)+1)=((t+1:Nat):Int):=q18z (by omega)
   have au:(0:Nat)=0:=rfl
   try simp only[e9,e10,e8,e0',e2,e4,c',pz,CS,pv,Ry,hs,hw3,fg,iQ,hHl,hf,hw4,aci,go_sem,simprocAttr]
   repeat' (
     first | refine q5z ?_ ?_ | refine q3z ?_ ?_ | refine q4z ?_ ?_
     all_goals intro ai
     all_goals first | replace ai:=q2z ai | replace ai:=q1z ai | skip
     all_goals first | subst ai | replace au:=And.intro ai au
     all_goals try simp only[au,e9,e10,e8,e0',e2,e4,c',pz,CS,pv,Ry,hs,hw3,fg,iQ,hHl,hf,hw4,aci,go_sem,simprocAttr])
   all_goals clear MA ID fg iQ hf hlen pv Ry
   ·simp only[decide_eq_true_eq] at au
    exact ⟨j - (t+1),by omega,t+1,j,rfl,by omega,h2,h3,rfl,rfl⟩
   ·simp only[decide_eq_false_iff_not] at au
    exact ⟨t - i,by omega,i,t,rfl,h1,by omega,by omega,rfl,rfl⟩
  ·have c':¬(i:Int)< j:=by omega
   obtain rfl:i=pos l id:=by omega
   have au:(0:Nat)=0:=rfl
   try simp only[e9,e10,e8,e0',e2,e4,c',go_sem,simprocAttr]
   repeat' (
     first | refine q5z ?_ ?_ | refine q3z ?_ ?_ | refine q4z ?_ ?_
     all_goals intro ai
     all_goals first | replace ai:=q2z ai | replace ai:=q1z ai | skip
     all_goals first | subst ai | replace au:=And.intro ai au
     all_goals try simp only[au,e9,e10,e8,e0',e2,e4,c',go_sem,simprocAttr])
 ·rintro e hh ⟨e9,e8,e0',e2,e4,rfl⟩
  by_cases c:pos l id < l.length
  ·have c':(pos l id:Int)< l.length:=by omega
   have hv:l[pos l id]? =some l[pos l id]:=abV c
   generalize l[pos l id]=v at hv
   have fg:=fun cf base k=> MA cf base k _ c
   have iQ:=fun cf base=> ID cf base _ v hv
   have hz:decide (v.iD=id)=decide (cQ v.iD id=0):=by
     rw[decide_eq_decide]
     exact ⟨fun h=> by rw[h];exact ju _,mR _ _⟩
   have au:(0:Nat)=0:=rfl
   try simp only[e9,e8,e0',e2,e4,c',hv,fg,iQ,hHl,hHt,hf,hz,aci,aco,go_sem,simprocAttr]
   repeat' (
     first | refine q5z ?_ ?_ | refine q3z ?_ ?_ | refine q4z ?_ ?_
     all_goals intro ai
     all_goals first | replace ai:=q2z ai | replace ai:=q1z ai | skip
     all_goals first | subst ai | replace au:=And.intro ai au
     all_goals try simp only[au,e9,e8,e0',e2,e4,c',hv,fg,iQ,hHl,hHt,hf,hz,aci,aco,go_sem,simprocAttr])
  ·have c':¬(pos l id:Int)< l.length:=by omega
   have hv:l[pos l id]? =none:=acB (by omega)
   have au:(0:Nat)=0:=rfl
   try simp only[e9,e8,e0',e2,e4,c',hv,hHt,aep,go_sem,simprocAttr]
   repeat' (
     first | refine q5z ?_ ?_ | refine q3z ?_ ?_ | refine q4z ?_ ?_
     all_goals intro ai
     all_goals first | replace ai:=q2z ai | replace ai:=q1z ai | skip
     all_goals first | subst ai | replace au:=And.intro ai au
     all_goals try simp only[au,e9,e8,e0',e2,e4,c',hv,hHt,aep,go_sem,simprocAttr])
   all_goals simp
 all_goals rfl
theorem Da (b:Nat) (h:Hp) (t k:Nat) (l:List ae) (id:Bs) (ho:TR h t k l) (hr:gf l) (hl:l.length≤1000):
 run fns pr b 107 [.ptr t [0] 1,.arr 28 (id.map aa)] h=some (.bM [.s (.int .i64 (pos l id)),.s (.bool (decide ((l[pos l id]?).map ae.iD=some id)))],h):=by
 refine Vm.aR (nt:=14) rfl PL (by simp) ?_
 obtain ⟨x,h1,hh⟩:=ho
 have hx:SR h x (some 37) (l.map ae.enc):=by
   rcases hh with ⟨rfl,rfl,_⟩ | ⟨rfl,_,h3⟩
   ·exact .inl ⟨_,rfl⟩
   ·exact lB h3 (by simp)
 have dQ:=hx.ty
 have hs:=fun t'=> EA h.length (h++t') x l id (hx.app t') hr hl
 have hg:=fun t'=> q10z h1 t'
 have au:(0:Nat)=0:=rfl
 try simp only[LQ,hs,hg,dQ,go_sem,simprocAttr]
 repeat' (
   first | refine q5z ?_ ?_ | refine q3z ?_ ?_ | refine q4z ?_ ?_
   all_goals intro ai
   all_goals first | replace ai:=q2z ai | replace ai:=q1z ai | skip
   all_goals first | subst ai | replace au:=And.intro ai au
   all_goals try simp only[au,LQ,hs,hg,dQ,go_sem,simprocAttr])
def eO (l:List ae) (id:Bs):Option ae:=if (l[pos l id]?).map ae.iD=some id then l[pos l id]? else none
theorem Db (b:Nat) (h:Hp) (t k:Nat) (l:List ae) (id:Bs) (ho:TR h t k l) (hr:gf l) (hl:l.length≤1000) (hs:∀v∈l,v.aL.length≤64):
 run fns pr b 94 [.ptr t [0] 1,.arr 28 (id.map aa)] h=some (.bM [((eO l id).getD zeroV).enc,.s (.bool (eO l id).isSome)],h):=by
 refine Vm.aR (nt:=25) rfl WH (by simp) ?_
 have hf:=fun t'=> Da h.length (h++t') t k l id (ho.mono (Fw.app [] h t') (by simp) (by simp)) hr hl
 obtain ⟨x,h1,hh⟩:=ho
 have hx:SR h x (some 37) (l.map ae.enc):=by
   rcases hh with ⟨rfl,rfl,_⟩ | ⟨rfl,_,h3⟩
   ·exact .inl ⟨_,rfl⟩
   ·exact lB h3 (by simp)
 have dQ:=hx.ty
 have hg:=fun t'=> q10z h1 t'
 unfold eO
 by_cases c:(l[pos l id]?).map ae.iD=some id
 ·rw[if_pos c]
  cases hv:l[pos l id]? with
  | none=> rw[hv] at c;cases c
  | some v=>
    have cJ:=(abW.1 hv).1
    have qb:=hs v (ab8 hv)
    have fg:=fun cf base t'=>(hx.app t').cZ (cf:=cf) (base:=base) (k:= .i64) (i:=pos l id) (by simpa using cJ)
    have iQ:=fun cf base t'=>(hx.app t').iA (cf:=cf) (base:=base) (i:=pos l id) (v:=v.enc) (by rw[ab9,hv];rfl) rfl
    have yZ:=fun h0=> sj h.length h0 false v (by omega)
    rw[←ae.kL] at yZ
    have au:(0:Nat)=0:=rfl
    try simp only[B94,hf,hg,dQ,c,fg,iQ,yZ,bq,bu,lD,acx,ac8,go_sem,simprocAttr]
    repeat' (
      first | refine q5z ?_ ?_ | refine q3z ?_ ?_ | refine q4z ?_ ?_
      all_goals intro ai
      all_goals first | replace ai:=q2z ai | replace ai:=q1z ai | skip
      all_goals first | subst ai | replace au:=And.intro ai au
      all_goals try simp only[au,B94,hf,hg,dQ,c,fg,iQ,yZ,bq,bu,lD,acx,ac8,go_sem,simprocAttr])
 ·rw[if_neg c]
  have au:(0:Nat)=0:=rfl
  try simp only[B94,hf,hg,dQ,c,jO,du,go_sem,simprocAttr]
  repeat' (
    first | refine q5z ?_ ?_ | refine q3z ?_ ?_ | refine q4z ?_ ?_
    all_goals intro ai
    all_goals first | replace ai:=q2z ai | replace ai:=q1z ai | skip
    all_goals first | subst ai | replace au:=And.intro ai au
    all_goals try simp only[au,B94,hf,hg,dQ,c,jO,du,go_sem,simprocAttr])
  rfl
theorem lJ (v:ae):v.enc.ground=true:=by
 have:v.enc.plain=true:=by simp only[ae.enc,go_sem]
 exact jd _ this
def pI (l:List ae) (v:ae):Int×List ae:=
 if aQ v=false then (1,l) else if (l[pos l v.iD]?).map ae.iD=some v.iD then (0,l.set (pos l v.iD) v) else if 4≤l.length then (13,l) else (0,l.take (pos l v.iD)++[v]++l.drop (pos l v.iD))
theorem MB (b:Nat) (h:Hp) (t k:Nat) (l:List ae) (v:ae) (hb:b≤t) (ho:TR h t k l) (hr:gf l) (hl:l.length≤4):
 ∃h' k',run fns pr b 60 [.ptr t [0] 1,v.enc] h=some (.s (.int .i64 (pI l v).1),h')∧TR h' t k' (pI l v).2∧Fw [t,k] h h'∧(k'=k∨h.length≤k'):=by
 have hf:=fun t'=> Da b (h++t') t k l v.iD (ho.mono (Fw.app [] h t') (by simp) (by simp)) hr (by omega)
 have j5:=fun h0 f=> dH b h0 f v
 have yZ:=fun hs h0=> sj b h0 false v hs
 simp only[←ae.kL] at yZ
 have nY:=fun h0=> j5 h0 false
 simp only[←ae.kL] at nY
 have u4:=ho.lt
 unfold pI
 cases hv:aQ v with
 | false=>
   rw[if_pos rfl]
   suffices h:∃w h',run fns pr b 60 [.ptr t [0] 1,v.enc] h=some (w,h')∧w= .s (.int .i64 1)∧h'=h++[.cells (some 37) [v.enc]] by
     obtain ⟨w,h',e,rfl,rfl⟩:=h
     exact ⟨_,k,e,ho.mono (Fw.app [] h _) (by simp) (by simp),Fw.app _ _ _,.inl rfl⟩
   refine Vm.eV (nt:=47) rfl yx (by simp) ?_
   simp only[ae.enc] at hf nY ⊢
   have au:(0:Nat)=0:=rfl
   try simp only[GS,hf,nY,hv,go_sem,↓reduceIte,Nat.reduceEqDiff,Nat.reduceBEq,Nat.reduceAdd,Nat.reduceSub,Nat.reduceLT,Nat.reduceLeDiff,Int.reduceLT,Int.reduceLE,Int.reduceEq,Int.reduceToNat]
   repeat' (
     first | refine q5z ?_ ?_ | refine q3z ?_ ?_ | refine q4z ?_ ?_
     all_goals intro ai
     all_goals first | replace ai:=q2z ai | replace ai:=q1z ai | skip
     all_goals first | subst ai | replace au:=And.intro ai au
     all_goals try simp only[au,GS,hf,nY,hv,go_sem,↓reduceIte,Nat.reduceEqDiff,Nat.reduceBEq,Nat.reduceAdd,Nat.reduceSub,Nat.reduceLT,Nat.reduceLeDiff,Int.reduceLT,Int.reduceLE,Int.reduceEq,Int.reduceToNat])
 | true=>
   have hs:=q14z hv
   have xu:=yZ (by omega)
   rw[if_neg (by simp)]
   obtain ⟨x,h1,hh⟩:=ho
   have hg:=fun t'=> q10z h1 t'
   have aZ:=fun t' b'=> nD u4.1 t' b'
   have gr:=lJ v
   by_cases c1:(l[pos l v.iD]?).map ae.iD=some v.iD
   ·rw[if_pos c1]
    rcases hh with ⟨rfl,rfl,rfl⟩ | ⟨rfl,Dc,h3⟩
    ·simp at c1
    ·have cJ:pos l v.iD < l.length:=by
       cases hp:l[pos l v.iD]? with
       | none=> rw[hp] at c1;cases c1
       | some w=> exact (abW.1 hp).1
     have y0:=fun t'=> q10z h3 t'
     have Rz:=fun t' b'=> nD u4.2 t' b'
     have I8:(pos l v.iD:Int)< l.length:=by omega
     have XS:(0:Int)≤pos l v.iD:=by omega
     have ca:(l.map ae.enc)[pos l v.iD]? =some (l[pos l v.iD]).enc:=by rw[ab9,abV cJ];rfl
     have dQ:(l[pos l v.iD]).enc.ty=some 37:=rfl
     generalize hpp:pos l v.iD=p at *
     suffices h:∃w h',run fns pr b 60 [.ptr t [0] 1,v.enc] h=some (w,h')∧w= .s (.int .i64 0)∧h'=h.set k (.cells (some 37) ((l.map ae.enc).set p v.enc))++[.cells (some 37) [v.enc]] by
       obtain ⟨w,h',e,rfl,rfl⟩:=h
       refine ⟨_,k,e,⟨.ref k [] (some 37) 0 l.length l.length,?_,.inr ⟨by simp,Dc,?_⟩⟩,?_,.inl rfl⟩
       ·exact q10z (by rw[ab3 Dc];exact h1) _
       ·exact q10z (by rw[q9z h3,←List.map_set]) _
       ·exact (Fw.set (S:=[t,k]) (by simp) h3).trans (Fw.app _ _ _)
     refine Vm.eV (nt:=47) rfl yx (by simp) ?_
     have mw:=u4.2
     simp only[ae.enc] at hf nY xu gr ⊢
     have au:(0:Nat)=0:=rfl
     try simp only[GS,hf,nY,hv,c1,hg,y0,Rz,I8,XS,cJ,ca,dQ,xu,gr,go_sem,↓reduceIte,Nat.reduceEqDiff,Nat.reduceBEq,Nat.reduceAdd,Nat.reduceSub,Nat.reduceLT,Nat.reduceLeDiff,Int.reduceLT,Int.reduceLE,Int.reduceEq,Int.reduceToNat]
     repeat' (
       first | refine q5z ?_ ?_ | refine q3z ?_ ?_ | refine q4z ?_ ?_
       all_goals intro ai
       all_goals first | replace ai:=q2z ai | replace ai:=q1z ai | skip
       all_goals first | subst ai | replace au:=And.intro ai au
       all_goals try simp only[au,GS,hf,nY,hv,c1,hg,y0,Rz,I8,XS,cJ,ca,dQ,xu,gr,go_sem,↓reduceIte,Nat.reduceEqDiff,Nat.reduceBEq,Nat.reduceAdd,Nat.reduceSub,Nat.reduceLT,Nat.reduceLeDiff,Int.reduceLT,Int.reduceLE,Int.reduceEq,Int.reduceToNat])
   ·rw[if_neg c1]
    have XU:eN x=some l.length:=by
      rcases hh with ⟨rfl,rfl,_⟩ | ⟨rfl,_⟩<;> rfl
    have hxt:x.ty=none:=by
      rcases hh with ⟨rfl,rfl,_⟩ | ⟨rfl,_⟩<;> rfl
    have nW:x.aw=true:=by
      rcases hh with ⟨rfl,rfl,_⟩ | ⟨rfl,_⟩<;> rfl
    have hlen:=fun cf base h0=> bH cf base h0 x _ XU
    by_cases c2:4≤l.length
    ·rw[if_pos c2]
     have c2':(4:Int)≤l.length:=by omega
     suffices h:∃w h',run fns pr b 60 [.ptr t [0] 1,v.enc] h=some (w,h')∧w= .s (.int .i64 13)∧h'=h++[.cells (some 37) [v.enc]] by
       obtain ⟨w,h',e,rfl,rfl⟩:=h
       exact ⟨_,k,e,⟨x,hg _,by
         rcases hh with hh | ⟨rfl,Dc,h3⟩
         ·exact .inl hh
         ·exact .inr ⟨rfl,Dc,q10z h3 _⟩⟩,Fw.app _ _ _,.inl rfl⟩
     refine Vm.eV (nt:=47) rfl yx (by simp) ?_
     simp only[ae.enc] at hf nY ⊢
     have au:(0:Nat)=0:=rfl
     try simp only[GS,hf,nY,hv,c1,hg,hxt,hlen,c2',go_sem,↓reduceIte,Nat.reduceEqDiff,Nat.reduceBEq,Nat.reduceAdd,Nat.reduceSub,Nat.reduceLT,Nat.reduceLeDiff,Int.reduceLT,Int.reduceLE,Int.reduceEq,Int.reduceToNat]
     repeat' (
       first | refine q5z ?_ ?_ | refine q3z ?_ ?_ | refine q4z ?_ ?_
       all_goals intro ai
       all_goals first | replace ai:=q2z ai | replace ai:=q1z ai | skip
       all_goals first | subst ai | replace au:=And.intro ai au
       all_goals try simp only[au,GS,hf,nY,hv,c1,hg,hxt,hlen,c2',go_sem,↓reduceIte,Nat.reduceEqDiff,Nat.reduceBEq,Nat.reduceAdd,Nat.reduceSub,Nat.reduceLT,Nat.reduceLeDiff,Int.reduceLT,Int.reduceLE,Int.reduceEq,Int.reduceToNat])
    ·rw[if_neg c2]
     have c2':¬(4:Int)≤l.length:=by omega
     have hgv:=hg
     have XV:=I5 l v.iD
     generalize hpp:pos l v.iD=p at *
     rcases hh with ⟨rfl,rfl,rfl⟩ | ⟨rfl,Dc,h3⟩
     ·obtain rfl:p=0:=by simpa using XV
      have GV:fe (some 37) 96 [.aq true (some 37) [],.s (.int .i64 ((0:Nat):Int)),.ref (h.length+1) [] (some 37) 0 1 1] (h++[.cells (some 37) [v.enc],.cells (some 37) [v.enc]])=some (.ref (h.length+2) [] (some 37) 0 1 1,h++[.cells (some 37) [v.enc],.cells (some 37) [v.enc],.cells (some 37) [v.enc]]):=by
        have:=y3 (g:=some 37) (by_:=96) (h:=h++[.cells (some 37) [v.enc],.cells (some 37) [v.enc]]) (idy:=h.length+1) (e:=v.enc) (by rw[aJ];rfl) gr
        rw[show (((0:Nat):Int))=0 from rfl,this]
        simp
      have c2'':¬(4:Int)≤((0:Nat):Int):=by decide
      suffices h:∃w h',run fns pr b 60 [.ptr k [0] 1,v.enc] h=some (w,h')∧w= .s (.int .i64 0)∧h'=h.set k (.cells (some 138) [.st 138 [.ref (h.length+2) [] (some 37) 0 1 1]])++[.cells (some 37) [v.enc],.cells (some 37) [v.enc],.cells (some 37) [v.enc]] by
        obtain ⟨w,h',e,rfl,rfl⟩:=h
        refine ⟨_,h.length+2,e,⟨.ref (h.length+2) [] (some 37) 0 1 1,?_,.inr ⟨rfl,by omega,?_⟩⟩,?_,.inr (by omega)⟩
        ·exact q10z (q9z h1) _
        ·rw[ba (by simp)];rfl
        ·exact (Fw.set (S:=[k,k]) (by simp) h1).trans (Fw.app _ _ _)
      refine Vm.eV (nt:=47) rfl yx (by simp) ?_
      simp only[ae.enc] at hf nY xu gr GV ⊢
      have au:(0:Nat)=0:=rfl
      try simp only[GS,hf,nY,hv,c1,hg,aZ,hxt,hlen,c2'',hb,xu,gr,lI,GV,acz,go_sem,↓reduceIte,Nat.reduceEqDiff,Nat.reduceBEq,Nat.reduceAdd,Nat.reduceSub,Nat.reduceLT,Nat.reduceLeDiff,Int.reduceLT,Int.reduceLE,Int.reduceEq,Int.reduceToNat]
      repeat' (
        first | refine q5z ?_ ?_ | refine q3z ?_ ?_ | refine q4z ?_ ?_
        all_goals intro ai
        all_goals first | replace ai:=q2z ai | replace ai:=q1z ai | skip
        all_goals first | subst ai | replace au:=And.intro ai au
        all_goals try simp only[au,GS,hf,nY,hv,c1,hg,aZ,hxt,hlen,c2'',hb,xu,gr,lI,GV,acz,go_sem,↓reduceIte,Nat.reduceEqDiff,Nat.reduceBEq,Nat.reduceAdd,Nat.reduceSub,Nat.reduceLT,Nat.reduceLeDiff,Int.reduceLT,Int.reduceLE,Int.reduceEq,Int.reduceToNat])
     ·have GV:fe (some 37) 96 [.ref k [] (some 37) 0 l.length l.length,.s (.int .i64 p),.ref (h.length+1) [] (some 37) 0 1 1] (h++[.cells (some 37) [v.enc],.cells (some 37) [v.enc]])=some (.ref k [] (some 37) 0 (l.length+1) (l.length+1),h.set k (.cells (some 37) ((l.take p++[v]++l.drop p).map ae.enc))++[.cells (some 37) [v.enc],.cells (some 37) [v.enc]]):=by
        rw[y5 (e:=v.enc) (q10z h3 _) (by simp) (by rw[aJ];rfl) (by omega) XV (by omega) gr,nD u4.2]
        simp[aeb,List.map_drop]
      have hgk:∀(b':aT) (t':Hp),(h.set k b'++t')[t]? =some (.cells (some 138) [.st 138 [.ref k [] (some 37) 0 l.length l.length]]):=fun b' t'=> q10z (by rw[ab3 Dc];exact h1) _
      have hsk:∀(b' b2:aT) (t':Hp),(h.set k b'++t').set t b2=(h.set k b').set t b2++t':=fun b' b2 t'=> nD (by simp;exact u4.1) t' b2
      suffices h:∃w h',run fns pr b 60 [.ptr t [0] 1,v.enc] h=some (w,h')∧w= .s (.int .i64 0)∧h'=(h.set k (.cells (some 37) ((l.take p++[v]++l.drop p).map ae.enc))).set t (.cells (some 138) [.st 138 [.ref k [] (some 37) 0 (l.length+1) (l.length+1)]])++[.cells (some 37) [v.enc],.cells (some 37) [v.enc]] by
        obtain ⟨w,h',e,rfl,rfl⟩:=h
        have va:(l.take p++[v]++l.drop p).length=l.length+1:=by simp;omega
        refine ⟨_,k,e,⟨.ref k [] (some 37) 0 (l.length+1) (l.length+1),?_,.inr ⟨by rw[va],Dc,?_⟩⟩,?_,.inl rfl⟩
        ·exact q10z (q9z (by rw[ab3 Dc];exact h1)) _
        ·exact q10z (by rw[ab3 (adG Dc)];exact q9z h3) _
        ·exact ((Fw.set (S:=[t,k]) (by simp) h3).trans (Fw.set (S:=[t,k]) (by simp) (by rw[ab3 Dc];exact h1))).trans (Fw.app _ _ _)
      refine Vm.eV (nt:=47) rfl yx (by simp) ?_
      simp only[ae.enc] at hf nY xu gr GV ⊢
      have au:(0:Nat)=0:=rfl
      try simp only[GS,hf,nY,hv,c1,hg,hgk,hsk,aZ,hxt,hlen,c2',hb,xu,gr,lI,GV,go_sem,↓reduceIte,Nat.reduceEqDiff,Nat.reduceBEq,Nat.reduceAdd,Nat.reduceSub,Nat.reduceLT,Nat.reduceLeDiff,Int.reduceLT,Int.reduceLE,Int.reduceEq,Int.reduceToNat]
      repeat' (
        first | refine q5z ?_ ?_ | refine q3z ?_ ?_ | refine q4z ?_ ?_
        all_goals intro ai
        all_goals first | replace ai:=q2z ai | replace ai:=q1z ai | skip
        all_goals first | subst ai | replace au:=And.intro ai au
        all_goals try simp only[au,GS,hf,nY,hv,c1,hg,hgk,hsk,aZ,hxt,hlen,c2',hb,xu,gr,lI,GV,go_sem,↓reduceIte,Nat.reduceEqDiff,Nat.reduceBEq,Nat.reduceAdd,Nat.reduceSub,Nat.reduceLT,Nat.reduceLeDiff,Int.reduceLT,Int.reduceLE,Int.reduceEq,Int.reduceToNat])
theorem Dd (b:Nat) (h:Hp) (t k:Nat) (l:List ae) (ho:TR h t k l) (hl:l.length≤1000) (hs:∀v∈l,v.aL.length≤64):
 run fns pr b 115 [.ptr t [0] 1] h=some (.aq false (some 37) (l.map ae.enc),h):=by
 refine Vm.aR (nt:=22) rfl P0 (by simp) ?_
 have u4:=ho.lt
 obtain ⟨x,h1,hh⟩:=ho
 have hx:SR h x (some 37) (l.map ae.enc):=by
   rcases hh with ⟨rfl,rfl,_⟩ | ⟨rfl,_,h3⟩
   ·exact .inl ⟨_,rfl⟩
   ·exact lB h3 (by simp)
 have dQ:=hx.ty
 have hlen:=fun cf base h0=> hx.bH (cf:=cf) (base:=base) (h:=h0)
 simp only[acf] at hlen
 have au:(0:Nat)=0:=rfl
 try simp only[LV,AR,AQ,h1,dQ,hlen,go_sem,simprocAttr]
 repeat' (
   first | refine q5z ?_ ?_ | refine q3z ?_ ?_ | refine q4z ?_ ?_
   all_goals intro ai
   all_goals first | replace ai:=q2z ai | replace ai:=q1z ai | skip
   all_goals first | subst ai | replace au:=And.intro ai au
   all_goals try simp only[au,LV,AR,AQ,h1,dQ,hlen,go_sem,simprocAttr])
 refine bw (fun m e H=>∃i:Nat,m=l.length - i∧i≤l.length∧e 11= .s (.int .i64 i)∧e 10= .s (.int .i64 l.length)∧e 9=x∧∃ko out,e 3=out∧LR H (some 37) ko out ((l.take i).map ae.enc)∧Fw [] h H∧h.length≤ko)
   (fun e H=>∃ko out,e 3=out∧LR H (some 37) ko out (l.map ae.enc)∧Fw [] h H∧h.length≤ko) l.length _ _ ⟨0,by omega,by omega,?_,?_,?_,h.length,.aq true (some 37) [],?_,.inl ⟨rfl,rfl⟩,Fw.refl _ _,ab0 _⟩ ?_ ?_
 rotate_right 2
 ·rintro m e H ⟨i,rfl,hi,e11,e10,e9,ko,out,e3,lr,fw,hko⟩
  by_cases c:i < l.length
  ·have c':(i:Int)< l.length:=by omega
   have hv:l[i]? =some l[i]:=abV c
   have qb:=hs _ (ab8 hv)
   have dU:l.take (i+1)=l.take i++[l[i]]:=by rw[adT,hv];rfl
   generalize l[i]=v at hv qb dU
   have fg:=fun cf base=>(hx.fw fw).cZ (cf:=cf) (base:=base) (k:= .i64) (i:=i) (by simpa using c)
   have iQ:=fun cf base=>(hx.fw fw).iA (cf:=cf) (base:=base) (i:=i) (v:=v.enc) (by rw[ab9,hv];rfl) rfl
   have yZ:=fun h0=> sj h.length h0 false v (by omega)
   rw[←ae.kL] at yZ
   have jn:IntKind.i64.wrap ((i:Int)+1)=((i+1:Nat):Int):=q18z (by omega)
   obtain ⟨x',H',k',iP,lr',fw',mg⟩:=lr.Md (T:=[.cells (some 37) [v.enc],.cells (some 37) [v.enc]]) (idy:=H.length+1) (z:=v.enc) (bytes:=96) hko fw (by rw[aJ];rfl) (lJ v) (by simp;omega)
   have gr:=lJ v
   have au:(0:Nat)=0:=rfl
   try simp only[e11,e10,e9,e3,c',fg,iQ,yZ,bq,bu,jn,iP,gr,go_sem,simprocAttr]
   repeat' (
     first | refine q5z ?_ ?_ | refine q3z ?_ ?_ | refine q4z ?_ ?_
     all_goals intro ai
     all_goals first | replace ai:=q2z ai | replace ai:=q1z ai | skip
     all_goals first | subst ai | replace au:=And.intro ai au
     all_goals try simp only[au,e11,e10,e9,e3,c',fg,iQ,yZ,bq,bu,jn,iP,gr,go_sem,simprocAttr])
   exact ⟨l.length - (i+1),by omega,i+1,rfl,by omega,rfl,_,_,rfl,by rw[dU,adh];exact lr',fw',mg⟩
  ·have c':¬(i:Int)< l.length:=by omega
   obtain rfl:i=l.length:=by omega
   rw[adp] at lr
   have au:(0:Nat)=0:=rfl
   try simp only[e11,e10,e9,e3,c',go_sem,simprocAttr]
   repeat' (
     first | refine q5z ?_ ?_ | refine q3z ?_ ?_ | refine q4z ?_ ?_
     all_goals intro ai
     all_goals first | replace ai:=q2z ai | replace ai:=q1z ai | skip
     all_goals first | subst ai | replace au:=And.intro ai au
     all_goals try simp only[au,e11,e10,e9,e3,c',go_sem,simprocAttr])
   exact ⟨ko,out,rfl,lr,fw,hko⟩
 ·rintro e H ⟨ko,out,e3,lr,fw,hko⟩
  have df:=lr.pe hko (tp l)
  have dU:=fw.take
  have au:(0:Nat)=0:=rfl
  try simp only[e3,df,dU,go_sem,simprocAttr]
  repeat' (
    first | refine q5z ?_ ?_ | refine q3z ?_ ?_ | refine q4z ?_ ?_
    all_goals intro ai
    all_goals first | replace ai:=q2z ai | replace ai:=q1z ai | skip
    all_goals first | subst ai | replace au:=And.intro ai au
    all_goals try simp only[au,e3,df,dU,go_sem,simprocAttr])
 all_goals rfl
instance (l :List ae):Decidable (gf l):=by unfold gf;infer_instance
def rising (l:List ae):Bool:=decide (l.length≤4)&& l.all aQ && decide (gf l)
theorem EB {l:List ae} {i:Nat} {v w:ae} (hr:gf (l.take (i+1))) (hv:l[i]? =some v) (hw:l[i+1]? =some w) (hc:cQ v.iD w.iD < 0):gf (l.take (i+2)):=by
 have h1:l.take (i+2)=l.take (i+1)++[w]:=by rw[adT,hw];rfl
 have h2:l.take (i+1)=l.take i++[v]:=by rw[adT,hv];rfl
 rw[h1]
 refine aei.2 ⟨hr,by simp,?_⟩
 intro a ha b hb
 simp at hb;subst hb
 rw[h2] at hr ha
 rcases acp.1 ha with ha | ha
 ·exact fO _ _ _ ((aei.1 hr).2.2 a ha v (by simp)) hc
 ·simp at ha;subst ha;exact hc
theorem I9 {l:List ae} {i:Nat} {v w:ae} (hv:l[i]? =some v) (hw:l[i+1]? =some w) (hc:¬cQ v.iD w.iD < 0):¬gf l:=by
 intro h
 have h1:=(abW.1 hv)
 have h2:=(abW.1 hw)
 obtain ⟨h1,rfl⟩:=h1
 obtain ⟨h2,rfl⟩:=h2
 exact hc (aej.1 h i (i+1) h1 h2 (by omega))
theorem sn (b:Nat) (h:Hp):run fns pr b 42 [] h=some (.ptr h.length [0] 1,h++[.cells (some 138) [.st 138 [.aq true (some 37) []]]]):=by
 suffices hh:∃v h',run fns pr b 42 [] h=some (v,h')∧v= .ptr h.length [0] 1∧h'=h++[.cells (some 138) [.st 138 [.aq true (some 37) []]]] by
   obtain ⟨v,h',e,rfl,rfl⟩:=hh;exact e
 refine Vm.eV (nt:=3) rfl U4 (by simp) ?_
 have au:(0:Nat)=0:=rfl
 try simp only[B42,go_sem,simprocAttr]
 repeat' (
   first | refine q5z ?_ ?_ | refine q3z ?_ ?_ | refine q4z ?_ ?_
   all_goals intro ai
   all_goals first | replace ai:=q2z ai | replace ai:=q1z ai | skip
   all_goals first | subst ai | replace au:=And.intro ai au
   all_goals try simp only[au,B42,go_sem,simprocAttr])
theorem y6 (b:Nat) (h:Hp) (t k:Nat) (cw l:List ae) (x:V) (hb:b≤t) (ho:TR h t k cw) (hx:SR h x (some 37) (l.map ae.enc)) (hl:l.length≤1000):
 ∃h' k',run fns pr b 61 [.ptr t [0] 1,x] h=some (.s (.int .i64 (if rising l=true then 0 else 1)),h')∧TR h' t k' (if rising l=true then l else cw)∧Fw [t] h h'∧(k'=k∨k'=t∨h.length≤k'):=by
 have u4:=ho.lt
 have kK:=fun cf base h0=> hx.bH (cf:=cf) (base:=base) (h:=h0)
 simp only[acf] at kK
 have lK:=sn b h
 suffices hh:∃w h',run fns pr b 61 [.ptr t [0] 1,x] h=some (w,h')∧((rising l=true∧w= .s (.int .i64 0)∧∃k',TR h' t k' l∧Fw [t] h h'∧(k'=t∨h.length≤k'))∨(rising l=false∧w= .s (.int .i64 1)∧Fw [] h h')) by
   obtain ⟨w,h',e,⟨hr,rfl,k',h1,h2,h3⟩ | ⟨hr,rfl,h1⟩⟩:=hh
   ·rw[hr];exact ⟨h',k',e,h1,h2,.inr h3⟩
   ·rw[hr];exact ⟨h',k,e,ho.mono h1 (by simp) (by simp),h1.mono (by simp),.inl rfl⟩
 refine Vm.eV (nt:=57) rfl VG (by simp) ?_
 by_cases h4:l.length≤4
 case neg=>
   have h1:(l.length:Int)> 4:=by omega
   have h2:rising l=false:=by simp[rising,h4]
   have au:(0:Nat)=0:=rfl
   try simp only[B61,yz,yy,kK,h1,h2,go_sem,↓reduceIte,Nat.reduceEqDiff,Nat.reduceBEq,Nat.reduceAdd,Nat.reduceSub,Nat.reduceLT,Nat.reduceLeDiff,Int.reduceLT,Int.reduceLE,Int.reduceEq,Int.reduceToNat]
   repeat' (
     first | refine q5z ?_ ?_ | refine q3z ?_ ?_ | refine q4z ?_ ?_
     all_goals intro ai
     all_goals first | replace ai:=q2z ai | replace ai:=q1z ai | skip
     all_goals first | subst ai | replace au:=And.intro ai au
     all_goals try simp only[au,B61,yz,yy,kK,h1,h2,go_sem,↓reduceIte,Nat.reduceEqDiff,Nat.reduceBEq,Nat.reduceAdd,Nat.reduceSub,Nat.reduceLT,Nat.reduceLeDiff,Int.reduceLT,Int.reduceLE,Int.reduceEq,Int.reduceToNat])
   exact .inr (Fw.refl _ _)
 have h1:¬(l.length:Int)> 4:=by omega
 have hbn:b≤h.length:=by omega
 have tt:=q10z ho.choose_spec.1
 have au:(0:Nat)=0:=rfl
 try simp only[B61,yz,yy,kK,h1,lK,go_sem,↓reduceIte,Nat.reduceEqDiff,Nat.reduceBEq,Nat.reduceAdd,Nat.reduceSub,Nat.reduceLT,Nat.reduceLeDiff,Int.reduceLT,Int.reduceLE,Int.reduceEq,Int.reduceToNat]
 repeat' (
   first | refine q5z ?_ ?_ | refine q3z ?_ ?_ | refine q4z ?_ ?_
   all_goals intro ai
   all_goals first | replace ai:=q2z ai | replace ai:=q1z ai | skip
   all_goals first | subst ai | replace au:=And.intro ai au
   all_goals try simp only[au,B61,yz,yy,kK,h1,lK,go_sem,↓reduceIte,Nat.reduceEqDiff,Nat.reduceBEq,Nat.reduceAdd,Nat.reduceSub,Nat.reduceLT,Nat.reduceLeDiff,Int.reduceLT,Int.reduceLE,Int.reduceEq,Int.reduceToNat])
 refine bw (fun m e H=>∃i:Nat,m=l.length - i∧i≤l.length∧e 14= .s (.int .i64 i)∧e 13= .s (.int .i64 l.length)∧e 12=x∧e 1=x∧e 0= .ptr t [0] 1∧e 5= .ptr h.length [0] 1∧
     (l.take i).all aQ=true∧gf (l.take i)∧∃ko out,H[h.length]? =some (.cells (some 138) [.st 138 [out]])∧XR H (some 37) ko out ((l.take i).map ae.enc)∧Fw [] h H∧h.length < ko)
   (fun e H=> rising l=true∧e 0= .ptr t [0] 1∧e 5= .ptr h.length [0] 1∧∃ko out,H[h.length]? =some (.cells (some 138) [.st 138 [out]])∧XR H (some 37) ko out (l.map ae.enc)∧Fw [] h H∧h.length < ko)
   l.length _ _ ⟨0,by omega,by omega,?_,?_,?_,?_,?_,?_,rfl,List.Pairwise.nil,h.length+1,.aq true (some 37) [],aO _ _,.inl ⟨rfl,rfl⟩,Fw.app _ _ _,by omega⟩ ?_ ?_
 rotate_right 2
 ·rintro m e H ⟨i,rfl,hi,e14,e13,e12,e1',e0',e5,ha,hri,ko,out,hn,xr,fw,hko⟩
  have hxH:=hx.fw fw
  by_cases c:i < l.length
  ·have c':(i:Int)< l.length:=by omega
   have hv:l[i]? =some l[i]:=abV c
   have dU:l.take (i+1)=l.take i++[l[i]]:=by rw[adT,hv];rfl
   have XW:l[i]∈l:=adj _
   generalize l[i]=v at hv dU XW
   have fg:=fun cf base=> hxH.cZ (cf:=cf) (base:=base) (k:= .i64) (i:=i) (by simpa using c)
   have iQ:=fun cf base=> hxH.iA (cf:=cf) (base:=base) (i:=i) (v:=v.enc) (by rw[ab9,hv];rfl) rfl
   have j5:=fun h0=> dH b h0 false v
   simp only[←ae.kL] at j5
   have jn:IntKind.i64.wrap ((i:Int)+1)=((i+1:Nat):Int):=q18z (by omega)
   have gr:=lJ v
   have oe:=fw.len
   have fw1:Fw [] h (H++[.cells (some 37) [v.enc]]):=fw.trans (Fw.app _ _ _)
   cases hr:aQ v with
   | false=>
     have Bn:rising l=false:=by
       simp only[rising,ad8,List.all_eq_false]
       exact .inl (.inr ⟨v,XW,by simp[hr]⟩)
     have au:(0:Nat)=0:=rfl
     try simp only[e14,e13,e12,e1',e0',e5,c',fg,iQ,j5,hr,gr,bq,bu,go_sem,↓reduceIte,Nat.reduceEqDiff,Nat.reduceBEq,Nat.reduceAdd,Nat.reduceSub,Nat.reduceLT,Nat.reduceLeDiff,Int.reduceLT,Int.reduceLE,Int.reduceEq,Int.reduceToNat]
     repeat' (
       first | refine q5z ?_ ?_ | refine q3z ?_ ?_ | refine q4z ?_ ?_
       all_goals intro ai
       all_goals first | replace ai:=q2z ai | replace ai:=q1z ai | skip
       all_goals first | subst ai | replace au:=And.intro ai au
       all_goals try simp only[au,e14,e13,e12,e1',e0',e5,c',fg,iQ,j5,hr,gr,bq,bu,go_sem,↓reduceIte,Nat.reduceEqDiff,Nat.reduceBEq,Nat.reduceAdd,Nat.reduceSub,Nat.reduceLT,Nat.reduceLeDiff,Int.reduceLT,Int.reduceLE,Int.reduceEq,Int.reduceToNat])
     all_goals first | exact .inr ⟨Bn,rfl,fw1⟩ | exact .inr ⟨Bn,fw1⟩ | (rw[Bn];simp;exact fw1)
   | true=>
     have cM:(l.take (i+1)).all aQ=true:=by rw[dU,List.all_append,ha];simp[hr]
     have yZ:=fun h0=> sj b h0 false v (by have:=q14z hr;omega)
     rw[←ae.kL] at yZ
     obtain ⟨x',H',k',iP,xr',fw',mg,RA⟩:=xr.Md (h:=h) (T:=[.cells (some 37) [v.enc],.cells (some 37) [v.enc]]) (idy:=H.length+1) (z:=v.enc) (bytes:=96) (by omega) fw (by rw[aJ];rfl) gr (by simp;omega)
     have vP:H'[h.length]? =some (.cells (some 138) [.st 138 [out]]):=RA _ _ (by omega) (q10z hn _)
     have hgn:=fun T=> q10z hn T
     obtain ⟨ht1,ht2⟩:=xr.ty
     obtain ⟨ht3,ht4⟩:=xr'.ty
     have hdn:decide (b≤h.length)=true:=by simp[hbn]
     have pH:gf (l.take (i+1))→∃m',m' < l.length - i∧∃j:Nat,m'=l.length - j∧j≤l.length∧((i+1:Nat):Int)=j∧(l.take j).all aQ=true∧gf (l.take j)∧∃ko out,(H'.set h.length (.cells (some 138) [.st 138 [x']]))[h.length]? =some (.cells (some 138) [.st 138 [out]])∧XR (H'.set h.length (.cells (some 138) [.st 138 [x']])) (some 37) ko out ((l.take j).map ae.enc)∧Fw [] h (H'.set h.length (.cells (some 138) [.st 138 [x']]))∧h.length < ko:=by
       intro aaB
       have Bb:h.length < k':=by rcases mg with rfl | mg;exact hko;simp at mg;omega
       refine ⟨l.length - (i+1),by omega,i+1,rfl,by omega,rfl,cM,aaB,k',x',q9z vP,?_,fw'.bY (ab0 _) _,Bb⟩
       rw[dU,adh]
       rcases xr' with ⟨rfl,h0⟩ | ⟨rfl,h0⟩
       ·simp at h0
       ·exact .inr ⟨rfl,by rw[ab3 (by omega)];exact h0⟩
     cases i with
     | zero=>
       have z:¬((0:Nat):Int)> 0:=by decide
       have au:(0:Nat)=0:=rfl
       try simp only[e14,e13,e12,e1',e0',e5,c',fg,iQ,j5,hr,gr,bq,bu,z,yZ,hgn,hn,ht1,ht2,ht3,ht4,iP,vP,hdn,jn,go_sem,↓reduceIte,Nat.reduceEqDiff,Nat.reduceBEq,Nat.reduceAdd,Nat.reduceSub,Nat.reduceLT,Nat.reduceLeDiff,Int.reduceLT,Int.reduceLE,Int.reduceEq,Int.reduceToNat]
       repeat' (
         first | refine q5z ?_ ?_ | refine q3z ?_ ?_ | refine q4z ?_ ?_
         all_goals intro ai
         all_goals first | replace ai:=q2z ai | replace ai:=q1z ai | skip
         all_goals first | subst ai | replace au:=And.intro ai au
         all_goals try simp only[au,e14,e13,e12,e1',e0',e5,c',fg,iQ,j5,hr,gr,bq,bu,z,yZ,hgn,hn,ht1,ht2,ht3,ht4,iP,vP,hdn,jn,go_sem,↓reduceIte,Nat.reduceEqDiff,Nat.reduceBEq,Nat.reduceAdd,Nat.reduceSub,Nat.reduceLT,Nat.reduceLeDiff,Int.reduceLT,Int.reduceLE,Int.reduceEq,Int.reduceToNat])
       obtain ⟨m',q1,j,q2,q3,q4,q5⟩:=pH (by rw[dU];simp[gf])
       exact ⟨m',q1,j,q2,q3,congrArg _ q4,q5⟩
     | succ i=>
       have z:((i+1:Nat):Int)> 0:=by omega
       have hw:l[i]? =some l[i]:=abV (by omega)
       generalize l[i]=w at hw
       have hws:IntKind.i64.wrap (((i+1:Nat):Int) - 1)=(i:Int):=by rw[show ((i+1:Nat):Int) - 1=i by omega,wrap_i64 (by omega) (by omega)]
       have hwe:(l.map ae.enc)[i]? =some w.enc:=by rw[ab9,hw];rfl
       have hib:=fun cf base T=>(hxH.app T).cZ (cf:=cf) (base:=base) (k:= .i64) (i:=i) (by simp;omega)
       have fa2:=fun cf base T=>(hxH.app T).Bf (cf:=cf) (base:=base) (f:=0) hwe (by simp[ae.enc])
       have sl2:=fun cf base T=>(hxH.app T).OX (cf:=cf) (base:=base) (f:=0) (g':=none) hwe (by simp[ae.enc];exact ⟨rfl,rfl⟩)
       have el2:=fun T=> vJ (hxH.app T) (f:=0) (g':=none) hwe (by simp[ae.enc];exact ⟨rfl,rfl⟩)
       simp only[acf] at sl2 el2
       have hcr:=fun x y h0=> C9 b x y h0
       simp only[ae.enc] at iQ j5 yZ iP gr
       by_cases hc:cQ w.iD v.iD < 0
       ·have EC:¬(0≤cQ w.iD v.iD):=by omega
        have au:(0:Nat)=0:=rfl
        try simp only[e14,e13,e12,e1',e0',e5,c',fg,iQ,j5,hr,gr,z,yZ,hgn,hn,ht1,ht2,ht3,ht4,iP,vP,hdn,jn,hws,hib,fa2,sl2,el2,hcr,EC,go_sem,↓reduceIte,Nat.reduceEqDiff,Nat.reduceBEq,Nat.reduceAdd,Nat.reduceSub,Nat.reduceLT,Nat.reduceLeDiff,Int.reduceLT,Int.reduceLE,Int.reduceEq,Int.reduceToNat]
        repeat' (
          first | refine q5z ?_ ?_ | refine q3z ?_ ?_ | refine q4z ?_ ?_
          all_goals intro ai
          all_goals first | replace ai:=q2z ai | replace ai:=q1z ai | skip
          all_goals first | subst ai | replace au:=And.intro ai au
          all_goals try simp only[au,e14,e13,e12,e1',e0',e5,c',fg,iQ,j5,hr,gr,z,yZ,hgn,hn,ht1,ht2,ht3,ht4,iP,vP,hdn,jn,hws,hib,fa2,sl2,el2,hcr,EC,go_sem,↓reduceIte,Nat.reduceEqDiff,Nat.reduceBEq,Nat.reduceAdd,Nat.reduceSub,Nat.reduceLT,Nat.reduceLeDiff,Int.reduceLT,Int.reduceLE,Int.reduceEq,Int.reduceToNat])
        obtain ⟨m',q1,j,q2,q3,q4,q5⟩:=pH (EB hri hw hv hc)
        exact ⟨m',q1,j,q2,q3,congrArg _ q4,q5⟩
       ·have EC:0≤cQ w.iD v.iD:=by omega
        have Bn:rising l=false:=by
          simp only[rising,ad8,decide_eq_false_iff_not]
          exact .inr (I9 hw hv hc)
        have au:(0:Nat)=0:=rfl
        try simp only[e14,e13,e12,e1',e0',e5,c',fg,iQ,j5,hr,gr,z,hws,hib,fa2,sl2,el2,hcr,EC,go_sem,↓reduceIte,Nat.reduceEqDiff,Nat.reduceBEq,Nat.reduceAdd,Nat.reduceSub,Nat.reduceLT,Nat.reduceLeDiff,Int.reduceLT,Int.reduceLE,Int.reduceEq,Int.reduceToNat]
        repeat' (
          first | refine q5z ?_ ?_ | refine q3z ?_ ?_ | refine q4z ?_ ?_
          all_goals intro ai
          all_goals first | replace ai:=q2z ai | replace ai:=q1z ai | skip
          all_goals first | subst ai | replace au:=And.intro ai au
          all_goals try simp only[au,e14,e13,e12,e1',e0',e5,c',fg,iQ,j5,hr,gr,z,hws,hib,fa2,sl2,el2,hcr,EC,go_sem,↓reduceIte,Nat.reduceEqDiff,Nat.reduceBEq,Nat.reduceAdd,Nat.reduceSub,Nat.reduceLT,Nat.reduceLeDiff,Int.reduceLT,Int.reduceLE,Int.reduceEq,Int.reduceToNat])
        all_goals first | exact .inr ⟨Bn,rfl,fw1⟩ | exact .inr ⟨Bn,fw1⟩ | (rw[Bn];simp;exact fw1)
  ·have c':¬(i:Int)< l.length:=by omega
   rw[abX (by omega)] at ha hri xr
   have hq:rising l=true:=by
     simp[rising,h4,ha,hri]
   have au:(0:Nat)=0:=rfl
   try simp only[e14,e13,e12,e1',e0',e5,c',go_sem,↓reduceIte,Nat.reduceEqDiff,Nat.reduceBEq,Nat.reduceAdd,Nat.reduceSub,Nat.reduceLT,Nat.reduceLeDiff,Int.reduceLT,Int.reduceLE,Int.reduceEq,Int.reduceToNat]
   repeat' (
     first | refine q5z ?_ ?_ | refine q3z ?_ ?_ | refine q4z ?_ ?_
     all_goals intro ai
     all_goals first | replace ai:=q2z ai | replace ai:=q1z ai | skip
     all_goals first | subst ai | replace au:=And.intro ai au
     all_goals try simp only[au,e14,e13,e12,e1',e0',e5,c',go_sem,↓reduceIte,Nat.reduceEqDiff,Nat.reduceBEq,Nat.reduceAdd,Nat.reduceSub,Nat.reduceLT,Nat.reduceLeDiff,Int.reduceLT,Int.reduceLE,Int.reduceEq,Int.reduceToNat])
   exact ⟨hq,ko,out,hn,xr,fw,hko⟩
 ·rintro e H ⟨hq,e0',e5,ko,out,hn,xr,fw,hko⟩
  obtain ⟨y,tt1,tt2⟩:=ho
  have tH:=fw.cw _ _ tt1 (by simp)
  have hdn:decide (b≤t)=true:=by simp[hb]
  obtain ⟨ht1,ht2⟩:=xr.ty
  have hyt:y.ty=none:=by rcases tt2 with ⟨rfl,_⟩ | ⟨rfl,_⟩<;> rfl
  have au:(0:Nat)=0:=rfl
  try simp only[e0',e5,hn,tH,ht1,ht2,hdn,hyt,go_sem,↓reduceIte,Nat.reduceEqDiff,Nat.reduceBEq,Nat.reduceAdd,Nat.reduceSub,Nat.reduceLT,Nat.reduceLeDiff,Int.reduceLT,Int.reduceLE,Int.reduceEq,Int.reduceToNat]
  repeat' (
    first | refine q5z ?_ ?_ | refine q3z ?_ ?_ | refine q4z ?_ ?_
    all_goals intro ai
    all_goals first | replace ai:=q2z ai | replace ai:=q1z ai | skip
    all_goals first | subst ai | replace au:=And.intro ai au
    all_goals try simp only[au,e0',e5,hn,tH,ht1,ht2,hdn,hyt,go_sem,↓reduceIte,Nat.reduceEqDiff,Nat.reduceBEq,Nat.reduceAdd,Nat.reduceSub,Nat.reduceLT,Nat.reduceLeDiff,Int.reduceLT,Int.reduceLE,Int.reduceEq,Int.reduceToNat])
  left
  have fwt:Fw [t] h (H.set t (.cells (some 138) [.st 138 [out]])):=(fw.mono (by simp)).trans (Fw.set (by simp) tH)
  rcases xr with ⟨rfl,h0⟩ | ⟨rfl,h0⟩
  ·have:l=[]:=by simpa using h0
   subst this
   first
     | exact ⟨hq,rfl,t,⟨_,q9z tH,.inl ⟨rfl,rfl,rfl⟩⟩,fwt,.inl rfl⟩
     | exact ⟨hq,t,⟨_,q9z tH,.inl ⟨rfl,rfl,rfl⟩⟩,fwt,.inl rfl⟩
  ·have da:t≠ko:=by omega
   have q:TR (H.set t (.cells (some 138) [.st 138 [.ref ko [] (some 37) 0 (l.map ae.enc).length (l.map ae.enc).length]])) t ko l:=⟨_,q9z tH,.inr ⟨by rw[acf],adG da,by rw[ab3 da];exact h0⟩⟩
   first
     | exact ⟨hq,rfl,ko,q,fwt,.inr (by omega)⟩
     | exact ⟨hq,ko,q,fwt,.inr (by omega)⟩
 all_goals rfl
def ir (l:List ae) (v:ae):List ae:=(l.filter fun w=> decide (cQ w.iD v.iD < 0))++[v]++l.filter fun w=> decide (0 < cQ w.iD v.iD)
theorem filter_lt {l:List ae} (hr:gf l) (id:Bs):(l.filter fun w=> decide (cQ w.iD id < 0))=l.take (pos l id):=by
 induction l with
 | nil=> rfl
 | cons w l ih=>
   obtain ⟨h1,h2⟩:=aeO.1 hr
   by_cases hw:cQ w.iD id < 0
   ·have e:pos (w::l) id=pos l id+1:=by simp[pos,hw]
    rw[e,aeV (by simpa using hw),ih h2];rfl
   ·have hz:∀x∈l,¬cQ x.iD id < 0:=fun x hx h=> hw (fO _ _ _ (h1 x hx) h)
    have e:pos (w::l) id=0:=by
      rw[pos,aeI]
      intro x hx
      rcases acC.1 hx with rfl | hx
      ·simpa using hw
      ·simpa using hz x hx
    rw[e,ad0,List.filter_eq_nil_iff]
    intro x hx
    rcases acC.1 hx with rfl | hx
    ·simpa using hw
    ·simpa using hz x hx
theorem ED {l:List ae} (hr:gf l) (id:Bs):(l.filter fun w=> decide (0 < cQ w.iD id))=if (l[pos l id]?).map ae.iD=some id then l.drop (pos l id+1) else l.drop (pos l id):=by
 induction l with
 | nil=> rfl
 | cons w l ih=>
   obtain ⟨h1,h2⟩:=aeO.1 hr
   by_cases hw:cQ w.iD id < 0
   ·have e:pos (w::l) id=pos l id+1:=by simp[pos,hw]
    rw[e,aeW (by simp;omega),ih h2]
    simp only[aeX,aeJ]
   ·have hz:∀x∈l,0 < cQ x.iD id:=fun x hx=> by
      have a1:=h1 x hx
      have a2:=tn x.iD id
      rcases Int.lt_or_le 0 (cQ x.iD id) with h | h
      ·exact h
      ·exfalso
       rcases Int.lt_or_eq_of_le h with h | h
       ·exact hw (fO _ _ _ a1 h)
       ·rw[mR _ _ h] at a1;exact hw a1
    have e:pos (w::l) id=0:=by
      rw[pos,aeI]
      intro x hx
      rcases acC.1 hx with rfl | hx
      ·simpa using hw
      ·have:=hz x hx;simp;omega
    have hl:l.filter (fun w=> decide (0 < cQ w.iD id))=l:=List.filter_eq_self.2 fun x hx=> by simpa using hz x hx
    rw[e]
    simp only[aci,aco,Option.some.injEq,acs,aeJ,acA]
    by_cases hi:w.iD=id
    ·rw[if_pos hi,aeW (by rw[hi];simp[ju]),hl]
    ·rw[if_neg hi,aeV (by
     have:cQ w.iD id≠0:=fun h=> hi (mR _ _ h)
     simp;omega),hl]
theorem y7 {l:List ae} {v:ae} (hr:gf l) (h:(pI l v).1=0):(pI l v).2=ir l v:=by
 unfold ir
 rw[filter_lt hr,ED hr]
 unfold pI at h ⊢
 split
 ·rename_i h1;rw[if_pos h1] at h;cases h
 ·rename_i h1
  rw[if_neg h1] at h
  split
  ·rename_i h2
   have cJ:pos l v.iD < l.length:=by
     cases hp:l[pos l v.iD]? with
     | none=> rw[hp] at h2;cases h2
     | some w=> exact (abW.1 hp).1
   rw[List.set_eq_take_append_cons_drop,if_pos cJ];simp
  ·rename_i h2
   rw[if_neg h2] at h
   split
   ·rename_i h3;rw[if_pos h3] at h;cases h
   ·rfl
theorem pos_eq {l:List ae} (hr:gf l) {j:Nat} {w:ae} {id:Bs} (h:l[j]? =some w) (hw:w.iD=id):pos l id=j:=by
 have h1:=xt (id:=id) hr h
 rw[hw,ju] at h1
 have h2:¬j < pos l id:=fun h=> absurd (h1.2 h) (by decide)
 rcases adx (pos l id) j with h3 | h3
 ·have hj:=(abW.1 h).1
  have hp:l[pos l id]? =some l[pos l id]:=abV (by omega)
  have h4:=xt (id:=id) hr hp
  have h5:=aej.1 hr (pos l id) j (by omega) hj h3
  have h6:l[j]=w:=(abW.1 h).2
  rw[h6,hw] at h5
  exact absurd (h4.1 h5) (by omega)
 ·omega
theorem tu {l:List ae} (hr:gf l) (v:ae):gf (ir l v):=by
 unfold gf ir
 have f1:(l.filter fun w=> decide (cQ w.iD v.iD < 0)).Pairwise fun v w=> cQ v.iD w.iD < 0:=hr.sublist List.filter_sublist
 have f2:(l.filter fun w=> decide (0 < cQ w.iD v.iD)).Pairwise fun v w=> cQ v.iD w.iD < 0:=hr.sublist List.filter_sublist
 refine aei.2 ⟨aei.2 ⟨f1,by simp,?_⟩,f2,?_⟩
 ·intro a ha b hb
  simp at ha hb;subst hb;exact ha.2
 ·intro a ha b hb
  have hb':cQ v.iD b.iD < 0:=by
    have:=(afe.1 hb).2
    have q:=tn b.iD v.iD
    simp at this;omega
  rcases acp.1 ha with ha | ha
  ·have:=(afe.1 ha).2
   exact fO _ _ _ (by simpa using this) hb'
  ·simp at ha;subst ha;exact hb'
structure pJ where
 role:Int
 aH:Int
 to:Int
 vs:List ae
structure bD where
 mem:Int
 bF:Int
 p:Nat→pJ
def bD.qc (s:bD) (n:Nat) (q:pJ):bD:= {s with p:=fun j=> if j=n then q else s.p j}
def bD.new (a b:Int):bD:=⟨a,b,fun n=>⟨if (n:Int) % b=a then 1 else 0,1,0,[]⟩⟩
def eg (q:pJ) (t:Nat):V:= .st 96 [.s (.int .i64 q.role),.s (.int .u64 q.aH),.s (.int .i64 q.to),.ptr t [0] 1]
def gK (p:Nat→pJ) (ts:Nat→Nat×Nat) (n:Nat):List V:=(List.range n).map fun i=> eg (p i) (ts i).1
theorem EE (p:Nat→pJ) (ts:Nat→Nat×Nat) (n:Nat):gK p ts (n+1)=gK p ts n++[eg (p n) (ts n).1]:=by simp[gK,adM]
theorem bX (p:Nat→pJ) (ts:Nat→Nat×Nat) (n:Nat):(gK p ts n).length=n:=by simp[gK]
theorem dv (p:Nat→pJ) (ts:Nat→Nat×Nat) (n i:Nat) (h:i < n):(gK p ts n)[i]? =some (eg (p i) (ts i).1):=by simp[gK,h]
theorem tv {p p':Nat→pJ} {ts ts':Nat→Nat×Nat} {n:Nat} (h:∀i,i < n→p i=p' i∧(ts i).1=(ts' i).1):gK p ts n=gK p' ts' n:=by
 unfold gK
 apply aeK
 intro i hi
 obtain ⟨h1,h2⟩:=h i (ac3.1 hi)
 rw[h1,h2]
structure Bo (h:Hp) (m:Nat) (s:bD) (F:List Nat) (r:Nat) (ts:Nat→Nat×Nat) (own:Nat→Nat):Prop where
 o:h[m]? =some (.cells (some 92) [.st 92 [.s (.int .i64 s.mem),.s (.int .i64 s.bF),.ref r [] (some 96) 0 16 16]])
 row:h[r]? =some (.cells (some 96) (gK s.p ts 16))
 tab:∀i,i < 16→TR h (ts i).1 (ts i).2 (s.p i).vs
 om:own m=100
 orr:own r=101
 ot:∀i,i < 16→own (ts i).1=i∧own (ts i).2=i
 fm:m∈F
 fr:r∈F
 ft:∀i,i < 16→(ts i).1∈F∧(ts i).2∈F
 fl:∀j∈F,j < h.length
def ji (h:Hp) (m:Nat) (s:bD) (F:List Nat):Prop:=∃(r:Nat) (ts:Nat→Nat×Nat) (own:Nat→Nat),Bo h m s F r ts own
theorem Bo.mono {S F:List Nat} {h h':Hp} {m r:Nat} {s:bD} {ts:Nat→Nat×Nat} {own:Nat→Nat} (hm:Bo h m s F r ts own) (f:Fw S h h') (hd:∀j∈F,j∉S):Bo h' m s F r ts own:=
 ⟨f.cw _ _ hm.o (hd _ hm.fm),f.cw _ _ hm.row (hd _ hm.fr),fun i hi=>(hm.tab i hi).mono f (hd _ (hm.ft i hi).1) (hd _ (hm.ft i hi).2),hm.om,hm.orr,hm.ot,hm.fm,hm.fr,hm.ft,fun j hj=> f.lt (hm.fl j hj)⟩
theorem ji.mono {S F:List Nat} {h h':Hp} {m:Nat} {s:bD} (hm:ji h m s F) (f:Fw S h h') (hd:∀j∈F,j∉S):ji h' m s F:=by
 obtain ⟨r,ts,own,hm⟩:=hm
 exact ⟨r,ts,own,hm.mono f hd⟩
theorem ji.lt {F:List Nat} {h:Hp} {m:Nat} {s:bD} (hm:ji h m s F):∀j∈F,j < h.length:=by
 obtain ⟨r,ts,own,hm⟩:=hm
 exact hm.fl
theorem ji.mem {F:List Nat} {h:Hp} {m:Nat} {s:bD} (hm:ji h m s F):m∈F:=by
 obtain ⟨r,ts,own,hm⟩:=hm
 exact hm.fm
theorem ji.app {F:List Nat} {h:Hp} {m:Nat} {s:bD} (hm:ji h m s F) (t:Hp):ji (h++t) m s F:=hm.mono (Fw.app [] h t) (by simp)
theorem Bo.part {F:List Nat} {h h':Hp} {m r i t' k':Nat} {s:bD} {ts:Nat→Nat×Nat} {own:Nat→Nat} {q:pJ} (hp:Bo h m s F r ts own) (hi:i < 16)
 (hr:h'[r]? =some (.cells (some 96) ((gK s.p ts 16).set i (eg q t')))) (hT:TR h' t' k' q.vs)
 (ho:∀j b,j≠r→j≠(ts i).1→j≠(ts i).2→h[j]? =some b→h'[j]? =some b) (ht:t'=(ts i).1∨h.length≤t') (hk:k'=(ts i).2∨k'=(ts i).1∨h.length≤k') (hl:h.length≤h'.length):
 ji h' m (s.qc i q) (t'::k'::F):=by
 obtain ⟨a1,a2⟩:=hp.ot i hi
 have hold:∀j b,own j≠i→own j≠101→h[j]? =some b→h'[j]? =some b:=fun j b h1 h2 hb=>
   ho j b (fun e=> h2 (by rw[e];exact hp.orr)) (fun e=> h1 (by rw[e];exact a1)) (fun e=> h1 (by rw[e];exact a2)) hb
 have lK:∀j,own j≠i→j < h.length→j≠t'∧j≠k':=fun j h1 h2=> by
   constructor
   ·rintro rfl
    rcases ht with e | e
    ·rw[e] at h1;exact h1 a1
    ·omega
   ·rintro rfl
    rcases hk with e | e | e
    ·rw[e] at h1;exact h1 a2
    ·rw[e] at h1;exact h1 a1
    ·omega
 refine ⟨r,fun j=> if j=i then (t',k') else ts j,fun j=> if j=t' then i else if j=k' then i else own j,⟨hold _ _ (by rw[hp.om];omega) (by rw[hp.om];omega) hp.o,?_,?_,?_,?_,?_,?_,?_,?_,?_⟩⟩
 ·rw[hr]
  congr 2
  apply acS
  intro j
  rw[acK,bX]
  by_cases hj:j < 16
  ·rw[dv _ _ _ _ hj,dv _ _ _ _ hj]
   by_cases yu:i=j
   ·subst yu;simp[hi,bD.qc]
   ·simp[yu,adG yu,bD.qc]
  ·rw[if_neg (by omega),acB (by rw[bX];omega),acB (by rw[bX];omega)]
 ·intro j hj
  by_cases yu:j=i
  ·subst yu;simpa[bD.qc] using hT
  ·obtain ⟨b1,b2⟩:=hp.ot j hj
   simp only[yu,if_false,bD.qc]
   obtain ⟨x,c1,c2⟩:=hp.tab j hj
   refine ⟨x,hold _ _ (by omega) (by omega) c1,?_⟩
   rcases c2 with c2 | ⟨c3,c4,c5⟩
   ·exact .inl c2
   ·exact .inr ⟨c3,c4,hold _ _ (by omega) (by omega) c5⟩
 ·have:=lK m (by rw[hp.om];omega) (q6z hp.o)
  simp only[this.1,this.2,if_false];exact hp.om
 ·have:=lK r (by rw[hp.orr];omega) (q6z hp.row)
  simp only[this.1,this.2,if_false];exact hp.orr
 ·intro j hj
  by_cases yu:j=i
  ·subst yu;simp
  ·obtain ⟨b1,b2⟩:=hp.ot j hj
   obtain ⟨l1,l2⟩:=(hp.tab j hj).lt
   have n1:=lK (ts j).1 (by omega) l1
   have n2:=lK (ts j).2 (by omega) l2
   simp only[yu,if_false,n1.1,n1.2,n2.1,n2.2]
   exact ⟨b1,b2⟩
 ·simp[hp.fm]
 ·simp[hp.fr]
 ·intro j hj
  by_cases yu:j=i
  ·subst yu;simp
  ·have:=hp.ft j hj
   simp[yu,this]
 ·intro j hj
  rcases acC.1 hj with rfl | hj
  ·exact hT.lt.1
  ·rcases acC.1 hj with rfl | hj
   ·exact hT.lt.2
   ·exact adP (hp.fl j hj) hl
theorem nE (b:Nat) (h:Hp) (n:Int):run fns pr b 88 [.s (.int .i64 n)] h=some (.s (.bool (decide (0≤n)&& decide (n < 16))),h):=by
 refine Vm.aR (nt:=9) rfl Wx (by simp) ?_
 by_cases h0:0≤n
 ·simp only[B88,h0,go_sem,simprocAttr]
 ·simp only[B88,h0,go_sem,simprocAttr]
theorem Ja (b:Nat) (h:Hp) (n:Nat) (m:Int) (hn:n < 16) (h1:1≤m) (h2:m≤8):run fns pr b 43 [.s (.int .i64 (n:Nat)),.s (.int .i64 m)] h=some (.s (.int .i64 ((n:Int) % m)),h):=by
 refine Vm.aR (nt:=13) rfl U6 (by simp) ?_
 have hr:=fun h0=> nE h.length h0 n
 have q1:(0:Int)≤(n:Int):=by omega
 have q2:(n:Int)< 16:=by omega
 have q3:min m 8=m:=by omega
 have q4:max 1 m=m:=by omega
 have hq:=fun cf base h=> qY cf base h .i64 (n:Int) m (by omega)
 have hm:(n:Int).tmod m=(n:Int) % m:=acY q1
 simp only[B43,hr,q1,q2,q3,q4,hq,hm,go_sem,simprocAttr]
def SPp (p:Nat→pJ) (a b:Int) (n:Nat) (H:Hp) (i:Nat) (y:V) (k:Nat) (ts:Nat→Nat×Nat) (own:Nat→Nat):Prop:=
 H[n]? =some (.cells (some 92) [.st 92 [.s (.int .i64 a),.s (.int .i64 b),y]])∧(i=0∧y= .aq true (some 96) []∨0 < i∧y= .ref k [] (some 96) 0 i i∧H[k]? =some (.cells (some 96) (gK p ts i))∧own k=101∧n≤k)∧own n=100∧
   (∀j,j < i→TR H (ts j).1 (ts j).2 []∧own (ts j).1=j∧own (ts j).2=j∧n≤(ts j).1∧n≤(ts j).2)
theorem SPp.step {p:Nat→pJ} {a b:Int} {n i k k' t:Nat} {H H':Hp} {y:V} {ts:Nat→Nat×Nat} {own:Nat→Nat} (hp:SPp p a b n H i y k ts own) (hn:n < H.length) (ht:H.length≤t) (Dc:k'≠t) (mg:k'=k∧0 < i∨H.length≤k') (hi:i < 16)
 (hm:H'[n]? =some (.cells (some 92) [.st 92 [.s (.int .i64 a),.s (.int .i64 b),.ref k' [] (some 96) 0 (i+1) (i+1)]])) (hr:H'[k']? =some (.cells (some 96) (gK p ts i++[eg (p i) t]))) (hT:TR H' t t []) (ho:∀(j:Nat) (b:aT),j≠n→(0 < i→j≠k)→H[j]? =some b→H'[j]? =some b):
 ∃ts' own',SPp p a b n H' (i+1) (.ref k' [] (some 96) 0 (i+1) (i+1)) k' ts' own':=by
 obtain ⟨h1,h2,h3,h4⟩:=hp
 refine ⟨fun j=> if j=i then (t,t) else ts j,fun j=> if j=t then i else if j=k' then 101 else own j,hm,.inr ⟨by omega,rfl,?_,by simp[Dc],?_⟩,?_,?_⟩
 ·rw[hr,EE,if_pos rfl]
  rw[tv (p:=p) (p':=p) (ts:=ts) (ts':=fun j=> if j=i then (t,t) else ts j) (fun j hj=>⟨rfl,by rw[if_neg (by omega)]⟩)]
 ·rcases mg with ⟨rfl,y9⟩ | mg
  ·rcases h2 with ⟨h2,_⟩ | ⟨_,_,_,_,h2⟩
   ·omega
   ·exact h2
  ·omega
 ·have hnk:n≠k':=by
    rcases mg with ⟨rfl,y9⟩ | mg
    ·rcases h2 with ⟨h2,_⟩ | ⟨_,_,_,h2,_⟩
     ·omega
     ·intro e;rw[e,h2] at h3;cases h3
    ·omega
  simp only[show n≠t by omega,hnk,if_false];exact h3
 ·intro j hj
  by_cases yu:j=i
  ·subst yu
   simp only[if_true]
   exact ⟨hT,trivial,trivial,by omega,by omega⟩
  ·obtain ⟨a1,a2,a3,a4,a5⟩:=h4 j (by omega)
   have hl:=a1.lt
   simp only[yu,if_false]
   have hk1:0 < i→(ts j).1≠k∧(ts j).2≠k:=fun y9=> by
     rcases h2 with ⟨h2,_⟩ | ⟨_,_,_,h2,_⟩
     ·omega
     ·exact ⟨fun e=> by rw[e,h2] at a2;omega,fun e=> by rw[e,h2] at a3;omega⟩
   have hn1:(ts j).1≠n∧(ts j).2≠n:=⟨fun e=> by rw[e,h3] at a2;omega,fun e=> by rw[e,h3] at a3;omega⟩
   have hkk:(ts j).1≠k'∧(ts j).2≠k':=by
     rcases mg with ⟨rfl,y9⟩ | mg
     ·exact hk1 y9
     ·omega
   refine ⟨?_,by rw[if_neg (by omega),if_neg hkk.1];exact a2,by rw[if_neg (by omega),if_neg hkk.2];exact a3,a4,a5⟩
   obtain ⟨x,b1,b2⟩:=a1
   refine ⟨x,ho _ _ hn1.1 (fun h=>(hk1 h).1) b1,?_⟩
   rcases b2 with b2 | ⟨b3,b4,b5⟩
   ·exact .inl b2
   ·exact .inr ⟨b3,b4,ho _ _ hn1.2 (fun h=>(hk1 h).2) b5⟩
theorem De (b:Nat) (h:Hp) (x z:Int) (hb:b≤h.length) (h1:1≤z) (h2:z≤8) (h3:0≤x) (h4:x < z):∃v h',run fns pr b 15 [.s (.int .i64 x),.s (.int .i64 z)] h=some (v,h')∧∃F,v= .ptr h.length [0] 1∧ji h' h.length (bD.new x z) F∧Fw [] h h'∧∀j∈F,h.length≤j:=by
 refine Vm.eV (nt:=50) rfl Ub (by simp) ?_
 have q1:¬z < 1:=by omega
 have q2:¬8 < z:=by omega
 have q3:¬x < 0:=by omega
 have q4:¬z≤x:=by omega
 simp only[B15,OD,OC,q1,q2,q3,q4,go_sem,simprocAttr]
 refine bw (fun m e H=>∃i y k ts own,m=16 - i∧i≤16∧e 27= .s (.int .i64 (i:Nat))∧e 5= .ptr h.length [0] 1∧e 0= .s (.int .i64 x)∧e 1= .s (.int .i64 z)∧SPp (bD.new x z).p x z h.length H i y k ts own∧Fw [] h H)
   (fun e H=> e 5= .ptr h.length [0] 1∧∃y k ts own,SPp (bD.new x z).p x z h.length H 16 y k ts own∧Fw [] h H)
   16 _ _ ⟨0,_,0,fun _=>(0,0),fun _=> 100,rfl,by omega,rfl,rfl,rfl,rfl,⟨aO _ _,.inl ⟨rfl,rfl⟩,rfl,fun j hj=> by omega⟩,Fw.app _ _ _⟩ ?_ ?_
 ·rintro m e H ⟨i,y,k,ts,own,rfl,hi,e27,e5,e0,e1,hp,fw⟩
  have nF:=hp
  obtain ⟨hm,hy,hom,hts⟩:=nF
  have hlm:=q6z hm
  by_cases c:i < 16
  ·have c':(i:Int)< 16:=by omega
   have jn:IntKind.i64.wrap ((i:Int)+1)=((i+1:Nat):Int):=q18z (by omega)
   have hn:=fun b' h0=> sn b' h0
   have hf:=fun h0=> Ja b h0 i z c h1 h2
   have hmT:=fun t=> q10z hm t
   have hstT:=fun t b'=> nD hlm t b'
   have gr:∀(p:Bool) (q:Nat),(p || decide (b≤h.length+q))=true:=fun p q=> by simp;right;omega
   have gr0:decide (b≤h.length)=true:=by simpa using hb
   have grH:decide (b≤H.length+1)=true:=by have:=fw.len;simp;omega
   obtain ⟨P,hP⟩:∃P,V.st 96 [.s (.int .i64 (if (i:Int) % z=x then 1 else 0)),.s (.int .u64 1),ki,.ptr H.length [0] 1]=P:=⟨_,rfl⟩
   have hpi:eg ((bD.new x z).p i) H.length=P:=hP
   have pty:P.ty=some 96:=by rw[←hP];rfl
   have pso:P.aw=true:=by rw[←hP];rfl
   obtain ⟨A,hA⟩:∃A:List aT,[aT.cells (some 138) [.st 138 [.aq true (some 37) []]],.cells (some 96) [P]]=A:=⟨_,rfl⟩
   have hAl:A.length=2:=by rw[←hA];rfl
   have hA0:(H++A)[H.length]? =some (aT.cells (some 138) [.st 138 [.aq true (some 37) []]]):=by rw[←hA];exact aJ _ _ 0
   have hA1:(H++A)[H.length+1]? =some (aT.cells (some 96) [P]):=by rw[←hA];exact aJ _ _ 1
   have hB1:(H++(A++[.cells (some 96) [P]]))[H.length+1]? =some (aT.cells (some 96) [P]):=by rw[←hA];exact aJ _ _ 1
   have hB2:(H++(A++[.cells (some 96) [P]]))[H.length+2]? =some (aT.cells (some 96) [P]):=by rw[←hA];exact aJ _ _ 2
   have jK:source (H++(A++[.cells (some 96) [P]])) (.ref (H.length+A.length) [] (some 96) 0 1 1)=some (some 96,[P]):=(lB (show (H++(A++[.cells (some 96) [P]]))[H.length+A.length]? =some (.cells (some 96) [P]) by rw[hAl];exact hB2) rfl).src
   have hB0:(H++(A++[.cells (some 96) [P]]))[H.length]? =some (aT.cells (some 138) [.st 138 [.aq true (some 37) []]]):=by rw[←hA];exact aJ _ _ 0
   have key:∀(k':Nat) (H':Hp),k'=k∧0 < i∨H.length+2≤k'→H'[h.length]? =some (.cells (some 92) [.st 92 [.s (.int .i64 x),.s (.int .i64 z),.ref k' [] (some 96) 0 (i+1) (i+1)]])→H'[k']? =some (.cells (some 96) (gK (bD.new x z).p ts i++[P]))→
    H'[H.length]? =some (aT.cells (some 138) [.st 138 [.aq true (some 37) []]])→(∀(j:Nat) (b:aT),j≠h.length→(0 < i→j≠k)→H[j]? =some b→H'[j]? =some b)→Fw [] h H'→
    ∃m,m < 16 - i∧∃(i':Nat) (y:V) (k:Nat) (ts:Nat→Nat×Nat) (own:Nat→Nat),m=16 - i'∧i'≤16∧Value.int IntKind.i64 ((i+1:Nat):Int)=Value.int IntKind.i64 (i':Int)∧SPp (bD.new x z).p x z h.length H' i' y k ts own∧Fw [] h H':=by
     intro k' H' a1 a2 a3 a4 a5 a6
     have Dc:k'≠H.length:=by
       rcases a1 with ⟨rfl,y9⟩ | a1
       ·rcases hy with ⟨h0,_⟩ | ⟨_,_,hk,_⟩
        ·omega
        ·have:=q6z hk;omega
       ·omega
     rw[←hpi] at a3
     obtain ⟨ts',own',hp2⟩:=hp.step (k':=k') (t:=H.length) (H':=H') hlm (ab0 _) Dc (a1.imp id fun h=> by omega) c a2 a3 ⟨_,a4,.inl ⟨rfl,rfl,rfl⟩⟩ a5
     exact ⟨16 - (i+1),by omega,i+1,_,k',ts',own',rfl,by omega,rfl,hp2,a6⟩
   rcases hy with ⟨h0,rfl⟩ | ⟨y9,rfl,hk,iJ,hkb⟩
   ·have yF:=fun cf base=> kP (cf:=cf) (base:=base) (h:=H++(A++[.cells (some 96) [P]])) (g:=some 96) (bytes:=32) (ys:=[P]) jK (by simp) (by simp)
    have fin:=fun B=> key (H.length+(A.length+1)) (H.set h.length (aT.cells (some 92) [V.st 92 [.s (.int .i64 x),.s (.int .i64 z),.ref (H.length+(A.length+1)) [] (some 96) 0 1 1]])++(A++[aT.cells (some 96) [P],aT.cells (some 96) B])) (.inr (by omega))
      (by rw[h0];exact q10z (q9z hm) _)
    have fin:=fin [P] (by rw[ba (n:=H.length) (by simp),acb (by omega),h0];simp[gK]) (by rw[aW (n:=H.length) (by simp),←hA];rfl) (fun j b hj _ hb=> q10z (by rw[ab3 (adG hj)];exact hb) _) ((fw.bY (ab0 _) _).trans (Fw.app _ _ _))
    by_cases cf:(i:Int) % z=x
    ·rw[if_pos cf] at hP
     simp only[e27,e5,e0,e1,c',jn,hn,hf,cf,gr,grH,gr0,hP,pty,pso,hA,hmT,hA1,hstT,yF,go_sem,simprocAttr]
     exact fin
    ·rw[if_neg cf] at hP
     simp only[e27,e5,e0,e1,c',jn,hn,hf,cf,gr,grH,gr0,hP,pty,pso,hA,hmT,hA1,hstT,yF,go_sem,simprocAttr]
     exact fin
   ·have yF:=fun cf=> gS (cf:=cf) (base:=b) (h:=H++(A++[.cells (some 96) [P]])) (g:=some 96) (bytes:=32) (ys:=[P]) (q10z hk (A++[.cells (some 96) [P]])) jK (by simp) (by simp[bS];left;omega) (by simp[bX];omega)
    simp only[bX] at yF
    have hkn:k≠h.length:=fun e=> by rw[e,hom] at iJ;omega
    have mw:=q6z hk
    have hmk:∀c,((H++(A++[aT.cells (some 96) [P]])).set k c)[h.length]? =some (.cells (some 92) [.st 92 [.s (.int .i64 x),.s (.int .i64 z),.ref k [] (some 96) 0 i i]]):=fun c=> by rw[ab3 hkn];exact hmT _
    have fin:=key k (((H++(A++[aT.cells (some 96) [P]])).set k (.cells (some 96) (gK (bD.new x z).p ts i++[P]))).set h.length (.cells (some 92) [.st 92 [.s (.int .i64 x),.s (.int .i64 z),.ref k [] (some 96) 0 (i+1) (i+1)]])) (.inl ⟨rfl,y9⟩)
      (q9z (hmk _)) (by rw[ab3 (adG hkn)];exact q9z (q10z hk _)) (by rw[ab3 (by omega),ab3 (by omega)];exact hB0)
      (fun j b hj hk hb=> by rw[ab3 (adG hj),ab3 (adG (hk y9))];exact q10z hb _) (((fw.trans (Fw.app _ _ _)).bY hkb _).bY (ab0 _) _)
    by_cases cf:(i:Int) % z=x
    ·rw[if_pos cf] at hP
     simp only[e27,e5,e0,e1,c',jn,hn,hf,cf,gr,grH,gr0,hP,pty,pso,hA,hmT,hA1,hstT,yF,hmk,go_sem,simprocAttr]
     exact fin
    ·rw[if_neg cf] at hP
     simp only[e27,e5,e0,e1,c',jn,hn,hf,cf,gr,grH,gr0,hP,pty,pso,hA,hmT,hA1,hstT,yF,hmk,go_sem,simprocAttr]
     exact fin
  ·have c':¬(i:Int)< 16:=by omega
   obtain rfl:i=16:=by omega
   simp only[e27,e5,c',go_sem,simprocAttr]
   all_goals exact ⟨y,k,ts,own,hp,fw⟩
 ·rintro e H ⟨e5,y,k,ts,own,hp,fw⟩
  simp only[e5,go_sem,simprocAttr]
  obtain ⟨h1,h2,h3,h4⟩:=hp
  rcases h2 with ⟨h2,_⟩ | ⟨_,rfl,h6,h7,h8⟩
  ·omega
  ·refine ⟨(h.length::k::(List.range 16).flatMap fun j=> [(ts j).1,(ts j).2]),⟨k,ts,own,⟨h1,h6,fun j hj=>(h4 j hj).1,h3,h7,fun j hj=>⟨(h4 j hj).2.1,(h4 j hj).2.2.1⟩,by simp,by simp,fun j hj=>⟨by simp;right;right;exact ⟨j,hj,.inl rfl⟩,by simp;right;right;exact ⟨j,hj,.inr rfl⟩⟩,?_⟩⟩,fw,?_⟩
   all_goals
     intro j hj
     simp only[acC,List.mem_flatMap,ac3,ae4,or_false] at hj
     rcases hj with rfl | rfl | ⟨a,ha,rfl | rfl⟩
   ·exact q6z h1
   ·exact q6z h6
   ·exact (h4 a ha).1.lt.1
   ·exact (h4 a ha).1.lt.2
   ·exact ab0 _
   ·exact h8
   ·exact (h4 a ha).2.2.2.1
   ·exact (h4 a ha).2.2.2.2
structure POk (s:bD) (i:Nat) (q:pJ):Prop where
 role:q.role=0∨q.role=1∨q.role=2
 e1:1≤q.aH
 e2:q.aH≤1099511627776
 MC:q.role=2→0≤q.to∧q.to < s.bF∧q.to≠s.mem
 to0:q.role≠2→q.to=0
 XX:q.role=0→q.vs=[]
 EF:gf q.vs
 len:q.vs.length≤4
 vs:∀v∈q.vs,aQ v=true∧v.wf∧al v.iD=i
structure mS (s:bD):Prop where
 m1:1≤s.bF
 m2:s.bF≤8
 m3:0≤s.mem
 m4:s.mem < s.bF
 p:∀i,i < 16→POk s i (s.p i)
theorem mS.new {a b:Int} (h1:1≤b) (h2:b≤8) (h3:0≤a) (h4:a < b):mS (bD.new a b):=
 ⟨h1,h2,h3,h4,fun i hi=>⟨by simp only[bD.new];split <;> simp,by simp[bD.new],by simp[bD.new],by simp only[bD.new];split <;> simp,by simp[bD.new],by simp[bD.new],List.Pairwise.nil,by simp[bD.new],by simp[bD.new]⟩⟩
theorem Bo.sr {F:List Nat} {h:Hp} {m r:Nat} {s:bD} {ts:Nat→Nat×Nat} {own:Nat→Nat} (hp:Bo h m s F r ts own):SR h (.ref r [] (some 96) 0 16 16) (some 96) (gK s.p ts 16):=lB hp.row (bX _ _ _)
theorem Bo.app {F:List Nat} {h:Hp} {m r:Nat} {s:bD} {ts:Nat→Nat×Nat} {own:Nat→Nat} (hp:Bo h m s F r ts own) (X:Hp):Bo (h++X) m s F r ts own:=hp.mono (Fw.app [] h X) (by simp)
theorem mT (q:pJ) (t:Nat):(eg q t).ty=some 96:=rfl
theorem mU (q:pJ) (t:Nat):(eg q t).aw=true:=rfl
theorem Bp (b:Nat) (h:Hp) (m:Nat) (s:bD) (F:List Nat) (hs:ji h m s F):run fns pr b 35 [.ptr m [0] 1] h=some (.bM [.s (.int .i64 s.mem),.s (.int .i64 s.bF)],h):=by
 obtain ⟨r,ts,own,hp⟩:=hs
 refine Vm.aR (nt:=12) rfl UP (by simp) ?_
 simp only[B35,hp.o,go_sem,simprocAttr]
theorem Df (b:Nat) (h:Hp) (m n:Nat) (s:bD) (F:List Nat) (hs:ji h m s F) (hn:n < 16):run fns pr b 75 [.ptr m [0] 1,.s (.int .i64 (n:Nat))] h=some (.bM [.s (.int .i64 (s.p n).role),.s (.int .u64 (s.p n).aH),.s (.int .i64 (s.p n).to)],h):=by
 obtain ⟨r,ts,own,hp⟩:=hs
 refine Vm.aR (nt:=24) rfl V8 (by simp) ?_
 have hr:=fun h0=> nE h.length h0 n
 have q1:(0:Int)≤(n:Int):=by omega
 have q2:(n:Int)< 16:=by omega
 have fg:=fun cf base=> hp.sr.cZ (cf:=cf) (base:=base) (k:= .i64) (i:=n) (by rw[bX];exact hn)
 have iQ:=fun cf base=> hp.sr.iA (cf:=cf) (base:=base) (dv _ _ _ _ hn) rfl
 simp only[B75,hr,q1,q2,hp.o,fg,iQ,mT,mU,go_sem,simprocAttr]
 simp only[eg,ab2,go_sem,simprocAttr]
theorem tw (b:Nat) (h:Hp) (m n:Nat) (s:bD) (F:List Nat) (hs:ji h m s F) (hk:mS s) (hn:n < 16):run fns pr b 78 [.ptr m [0] 1,.s (.int .i64 (n:Nat))] h=some (.aq false (some 37) ((s.p n).vs.map ae.enc),h):=by
 obtain ⟨r,ts,own,hp⟩:=hs
 refine Vm.aR (nt:=28) rfl We (by simp) ?_
 have ok:=hk.p n hn
 have hr:=fun h0=> nE h.length h0 n
 have q1:(0:Int)≤(n:Int):=by omega
 have q2:(n:Int)< 16:=by omega
 have fg:=fun cf base=> hp.sr.cZ (cf:=cf) (base:=base) (k:= .i64) (i:=n) (by rw[bX];exact hn)
 have hpn:(gK s.p ts 16)[n]? =some (.st 96 [.s (.int .i64 (s.p n).role),.s (.int .u64 (s.p n).aH),.s (.int .i64 (s.p n).to),.ptr (ts n).1 [0] 1]):=dv _ _ _ _ hn
 have GW:=fun cf base=> hp.sr.Bf (cf:=cf) (base:=base) (f:=0) hpn (by simp)
 have hf3:=fun cf base=> hp.sr.Bf (cf:=cf) (base:=base) (f:=3) hpn (by simp)
 have hl0:=fun cf base=> hp.sr.Jb (cf:=cf) (base:=base) (f:=0) (g':=none) hpn rfl rfl
 have xv:=fun cf base=> hp.sr.Jb (cf:=cf) (base:=base) (f:=3) (g':=none) hpn rfl rfl
 have GX:=Dd h.length h (ts n).1 (ts n).2 (s.p n).vs (hp.tab n hn) (by have:=ok.len;omega) (fun v hv=> q14z (ok.vs v hv).1)
 by_cases c:(s.p n).role=0
 ·rw[ok.XX c]
  simp only[B78,hr,q1,q2,hp.o,fg,GW,hl0,c,acn,go_sem,simprocAttr]
 ·simp only[B78,hr,q1,q2,hp.o,fg,GW,hf3,hl0,xv,c,GX,tp,go_sem,simprocAttr]
theorem tx (id:Bs):eO [] id=none:=by simp[eO]
theorem MD (b:Nat) (h:Hp) (m:Nat) (s:bD) (F:List Nat) (id:Bs) (hs:ji h m s F) (hk:mS s) (hl:id.length≤1000000):
 run fns pr b 76 [.ptr m [0] 1,.arr 28 (id.map aa)] h=some (.bM [((eO (s.p (al id)).vs id).getD zeroV).enc,.s (.bool (eO (s.p (al id)).vs id).isSome)],h):=by
 obtain ⟨r,ts,own,hp⟩:=hs
 refine Vm.aR (nt:=25) rfl Wa (by simp) ?_
 have hn:=eF id
 have ok:=hk.p _ hn
 have pv:=fun b h0=> gX b h0 id hl
 have cL:=fun X=>(hp.app X).o
 have fg:=fun cf base X=>(hp.app X).sr.cZ (cf:=cf) (base:=base) (k:= .i64) (i:=al id) (by rw[bX];exact hn)
 have iQ:=fun cf base X=>(hp.app X).sr.iA (cf:=cf) (base:=base) (dv _ _ _ _ hn) rfl
 have uZ:=fun b X=> Db b (h++X) (ts (al id)).1 (ts (al id)).2 (s.p (al id)).vs id ((hp.app X).tab _ hn) ok.EF (by have:=ok.len;omega) (fun v hv=> q14z (ok.vs v hv).1)
 have haw:=ok.XX
 generalize hS:al id=S at *
 by_cases c:(s.p S).role=0
 ·rw[haw c,tx]
  simp only[B76,pv,cL,fg,iQ,mT,mU,go_sem,simprocAttr]
  simp only[eg,c,jO,du,go_sem,simprocAttr]
  rfl
 ·generalize eO (s.p S).vs id=o at *
  simp only[B76,pv,cL,fg,iQ,mT,mU,go_sem,simprocAttr]
  simp only[eg,c,uZ,bq,bu,lD,go_sem,simprocAttr]
def iS (P:ae→Bool):List ae→Nat→Int
 | [],_=> -1
 | x::l,i=> if P x=true then i else iS P l (i+1)
theorem tz (P:ae→Bool):∀(l:List ae) (i:Nat),decide (0≤iS P l i)=l.any P
 | [],i=> rfl
 | x::l,i=> by
   unfold iS
   by_cases c:P x=true
   ·rw[if_pos c,List.any_cons,c];simp
   ·rw[if_neg c,tz P l (i+1),List.any_cons];simp[c]
theorem EG (b:Nat) (h:Hp) (x:V) (l:List ae) (f:Nat) (cap:List V) (P:ae→Bool) (hx:SR h x (some 37) (l.map ae.enc)) (hl:l.length≤1000) (hP:∀b,∀v∈l,run fns pr b f (v.enc::cap) h=some (.s (.bool (P v)),h)):
 run fns pr b 135 [x,.fn f cap] h=some (.s (.int .i64 (iS P l 0)),h):=by
 refine Vm.aR (nt:=19) rfl QO (by simp) ?_
 have kK:∀cf base H,aD cf base H .len [x]=some (.s (.int .i64 (l.length:Nat)),H):=fun cf base H=> by rw[hx.bH];simp
 simp only[QM,Ie,Ic,kK,go_sem,simprocAttr]
 refine bw (fun n e H=>∃i:Nat,n=l.length - i∧i≤l.length∧e 8= .s (.int .i64 i)∧e 7= .s (.int .i64 l.length)∧e 0=x∧e 1= .fn f cap∧H=h∧iS P l 0=iS P (l.drop i) i)
   (fun e H=> H=h∧iS P l 0= -1) l.length _ _ ⟨0,by omega,by omega,rfl,rfl,rfl,rfl,rfl,rfl⟩ ?_ ?_
 ·rintro n e H ⟨i,rfl,hi,e8,e7,e0,e1,rfl,hf⟩
  by_cases c:i < l.length
  ·have c':(i:Int)< l.length:=by omega
   have hw:IntKind.i64.wrap ((i:Int)+1)=((i+1:Nat):Int):=q18z (by omega)
   have hv:l[i]? =some l[i]:=abV c
   have hd:l.drop i=l[i]::l.drop (i+1):=ac1 c
   have hm:l[i]∈l:=adj c
   generalize l[i]=v at hv hd hm
   have hc:=fun b=> hP b v hm
   have fg:=fun cf base=> hx.cZ (cf:=cf) (base:=base) (k:= .i64) (i:=i) (by simpa using c)
   have iQ:=fun cf base=> hx.iA (cf:=cf) (base:=base) (i:=i) (v:=v.enc) (by rw[ab9,hv];rfl) rfl
   rw[hd] at hf
   by_cases cp:P v=true
   ·have hf2:iS P l 0=i:=by rw[hf];simp[iS,cp]
    rw[hf2]
    simp only[e8,e7,e0,e1,c',fg,iQ,hc,cp,bq,bu,acL,acD,go_sem,simprocAttr]
   ·have hf2:iS P l 0=iS P (l.drop (i+1)) (i+1):=by rw[hf];simp[iS,cp]
    simp only[e8,e7,e0,e1,c',fg,iQ,hc,cp,hw,bq,bu,acL,acD,go_sem,simprocAttr]
    exact ⟨l.length - (i+1),by omega,i+1,rfl,by omega,rfl,hf2⟩
  ·have c':¬(i:Int)< l.length:=by omega
   simp only[e8,e7,e0,e1,c',go_sem,simprocAttr]
   rw[hf,ae8 (by omega)];rfl
 ·rintro e H ⟨rfl,hf⟩
  rw[hf]
  simp only[ab2,go_sem,simprocAttr]
theorem pK (b:Nat) (h:Hp) (x:V) (l:List ae) (f:Nat) (cap:List V) (P:ae→Bool) (hx:SR h x (some 37) (l.map ae.enc)) (hl:l.length≤1000) (hP:∀b,∀v∈l,run fns pr b f (v.enc::cap) h=some (.s (.bool (P v)),h)):
 run fns pr b 96 [x,.fn f cap] h=some (.s (.bool (l.any P)),h):=by
 refine Vm.aR (nt:=9) rfl WL (by simp) ?_
 have hi:=fun b=> EG b h x l f cap P hx hl hP
 have ha:=tz P l 0
 simp only[B96,hi,ha,go_sem,simprocAttr]
def oU (s:bD) (v:ae):Int:=
 if (s.p (al v.iD)).role=0 then 26 else if (s.p (al v.iD)).role=2 then 27
 else if (eO (s.p (al v.iD)).vs v.iD).isSome=false∧4≤(s.p (al v.iD)).vs.length then 13 else 0
def za (s:bD) (r:aB):Int:=
 if s.bF≤r.dS∨r.dS=s.mem then 1 else if (s.p r.aC.toNat).role=0 then 26 else if (s.p r.aC.toNat).role=2 then 27
 else if r.aH=(s.p r.aC.toNat).aH+1 then 0 else 1
def xw (s:bD) (r:aB):Int:=
 if (r.aj.any fun v=> decide ((al v.iD:Int)≠r.aC))=true then 1 else if (s.p r.aC.toNat).role=1 then 26
 else if r.aH≤(s.p r.aC.toNat).aH then 31 else 0
def cD (s:bD) (r:aB):Int:=
 if bj r=false then 1 else if r.kind=1 then oU s r.ax else if r.kind=2 then za s r else if r.kind=3 then xw s r
 else if (s.p r.aC.toNat).role=2∧(s.p r.aC.toNat).aH=r.aH then 0 else 26
theorem Jc (b:Nat) (h:Hp) (m:Nat) (s:bD) (F:List Nat) (f:Bool) (v:ae) (hs:ji h m s F) (hk:mS s) (hl:v.iD.length≤1000000):
 run fns pr b 48 [.ptr m [0] 1,v.aI f] h=some (.s (.int .i64 (oU s v)),h):=by
 obtain ⟨r,ts,own,hp⟩:=hs
 obtain ⟨a1,a2,a3,a4,a5,a6,a7,a8,a9⟩:=v
 simp only at hl
 refine Vm.aR (nt:=42) rfl Vg (by simp) ?_
 have hn:=eF a1
 have ok:=hk.p _ hn
 have pv:=fun b h0=> gX b h0 a1 hl
 have cL:=fun X=>(hp.app X).o
 have fg:=fun cf base X=>(hp.app X).sr.cZ (cf:=cf) (base:=base) (k:= .i64) (i:=al a1) (by rw[bX];exact hn)
 have iQ:=fun cf base X=>(hp.app X).sr.iA (cf:=cf) (base:=base) (dv _ _ _ _ hn) rfl
 have uZ:=fun b X=> Db b (h++X) (ts (al a1)).1 (ts (al a1)).2 (s.p (al a1)).vs a1 ((hp.app X).tab _ hn) ok.EF (by have:=ok.len;omega) (fun v hv=> q14z (ok.vs v hv).1)
 have mA:=fun b X=> My b (h++X) (ts (al a1)).1 (ts (al a1)).2 (s.p (al a1)).vs ((hp.app X).tab _ hn)
 have mr:=ok.len
 unfold oU
 simp only
 generalize hS:al a1=S at *
 generalize eO (s.p S).vs a1=o at *
 simp only[B48,ae.aI,pv,cL,fg,iQ,mT,mU,go_sem,simprocAttr]
 have hle:((4:Int)≤(((s.p S).vs.length:Nat):Int))=(4≤(s.p S).vs.length):=propext (by omega)
 by_cases c0:(s.p S).role=0
 ·simp only[eg,c0,uZ,bq,bu,ab2,go_sem,simprocAttr]
 ·by_cases c2:(s.p S).role=2
  ·simp only[eg,c0,c2,uZ,bq,bu,ab2,go_sem,simprocAttr]
  ·cases o with
   | none=>
     by_cases c4:4≤(s.p S).vs.length
     ·simp only[eg,c0,c2,uZ,mA,bq,bu,ab2,hle,c4,adg,go_sem,simprocAttr]
      all_goals rfl
     ·simp only[eg,c0,c2,uZ,mA,bq,bu,ab2,hle,c4,adg,go_sem,simprocAttr]
      all_goals rfl
   | some w=>
     simp only[eg,c0,c2,uZ,mA,bq,bu,ab2,ac8,go_sem,simprocAttr]
     all_goals rfl
theorem ME (b:Nat) (h:Hp) (m:Nat) (s:bD) (F:List Nat) (r:aB) (hs:ji h m s F) (hk:mS s) (h0:0≤r.aC) (h1:r.aC < 16):
 run fns pr b 49 [.ptr m [0] 1,r.enc] h=some (.s (.int .i64 (za s r)),h):=by
 obtain ⟨rw,ts,own,hp⟩:=hs
 obtain ⟨kind,aC,dS,aH,ax,aj⟩:=r
 simp only at h0 h1
 obtain ⟨n,rfl⟩:∃n:Nat,aC=(n:Int):=⟨aC.toNat,by omega⟩
 have hn:n < 16:=by omega
 refine Vm.aR (nt:=46) rfl Vi (by simp) ?_
 have ok:=hk.p _ hn
 have cL:=fun X=>(hp.app X).o
 have fg:=fun cf base X=>(hp.app X).sr.cZ (cf:=cf) (base:=base) (k:= .i64) (i:=n) (by rw[bX];exact hn)
 have iQ:=fun cf base X=>(hp.app X).sr.iA (cf:=cf) (base:=base) (dv _ _ _ _ hn) rfl
 have hw:IntKind.u64.wrap ((s.p n).aH+1)=(s.p n).aH+1:=by have:=ok.e1;have:=ok.e2;exact wrap_u64 (by omega) (by omega)
 unfold za
 simp only[acu]
 simp only[B49,aB.enc,cL,fg,iQ,mT,mU,go_sem,simprocAttr]
 by_cases c1:s.bF≤dS
 ·simp only[c1,ab2,go_sem,simprocAttr]
  all_goals rfl
 ·by_cases c2:dS=s.mem
  ·have c1':¬s.bF≤s.mem:=by rw[←c2];exact c1
   simp only[cL,c1,c1',c2,ab2,go_sem,simprocAttr]
   all_goals rfl
  ·by_cases c3:(s.p n).role=0
   ·simp only[cL,c1,c2,c3,eg,ab2,go_sem,simprocAttr]
    all_goals rfl
   ·by_cases c4:(s.p n).role=2
    ·simp only[cL,c1,c2,c3,c4,eg,ab2,go_sem,simprocAttr]
     all_goals rfl
    ·by_cases c5:aH=(s.p n).aH+1
     ·simp only[cL,c1,c2,c3,c4,c5,hw,eg,ab2,go_sem,simprocAttr]
      all_goals rfl
     ·simp only[cL,c1,c2,c3,c4,c5,hw,eg,ab2,go_sem,simprocAttr]
      all_goals rfl
theorem EH (b:Nat) (h:Hp) (n:Nat) (v:ae) (rest:List V) (id:Nat) (hl:v.iD.length≤1000000) (k:V) (hg:h[id]? =some (.cells (some 40) [.st 40 (k:: .s (.int .i64 (n:Nat))::rest)])):
 run fns pr b 97 [v.enc,.ptr id [0] 1] h=some (.s (.bool (decide ((al v.iD:Int)≠(n:Nat)))),h):=by
 refine Vm.aR (nt:=10) rfl WN (by simp) ?_
 obtain ⟨a1,a2,a3,a4,a5,a6,a7,a8,a9⟩:=v
 simp only at hl ⊢
 have pv:=fun b h0=> gX b h0 a1 hl
 have cL:=fun X=> q10z hg X
 generalize al a1=S at *
 have hq:1 < rest.length+1+1:=by omega
 simp only[B97,ae.enc,pv,cL,hq,ab2,go_sem,simprocAttr]
 all_goals simp[bne,ab1]
theorem Jd (b:Nat) (h:Hp) (m:Nat) (s:bD) (F:List Nat) (r:aB) (hs:ji h m s F) (hk:mS s) (h0:0≤r.aC) (h1:r.aC < 16) (hv:∀v∈r.aj,v.wf) (hl:r.aj.length≤4):
 run fns pr b 50 [.ptr m [0] 1,r.enc] h=some (.s (.int .i64 (xw s r)),h):=by
 obtain ⟨rw,ts,own,hp⟩:=hs
 obtain ⟨kind,aC,dS,aH,ax,aj⟩:=r
 simp only at h0 h1 hv hl
 obtain ⟨n,rfl⟩:∃n:Nat,aC=(n:Int):=⟨aC.toNat,by omega⟩
 have hn:n < 16:=by omega
 refine Vm.aR (nt:=29) rfl Vk (by simp) ?_
 have ok:=hk.p _ hn
 have cL:=fun X=>(hp.app X).o
 have fg:=fun cf base X=>(hp.app X).sr.cZ (cf:=cf) (base:=base) (k:= .i64) (i:=n) (by rw[bX];exact hn)
 have iQ:=fun cf base X=>(hp.app X).sr.iA (cf:=cf) (base:=base) (dv _ _ _ _ hn) rfl
 have hc:=fun b H (hg:H[h.length]? =_)=> pK b H (.aq false (some 37) (aj.map ae.enc)) aj 97 [.ptr h.length [0] 1] (fun v=> decide ((al v.iD:Int)≠(n:Nat))) (.inl ⟨_,rfl⟩) (by omega)
   (fun b v hm=> EH b H n v [.s (.int .i64 dS),.s (.int .u64 aH),ax.enc,.aq false (some 37) (aj.map ae.enc)] h.length (by have:=(hv v hm).iD;omega) (.s (.int .i64 kind)) hg)
 have GU:=fun b X=> hc b (h++aT.cells (some 40) [.st 40 [.s (.int .i64 kind),.s (.int .i64 n),.s (.int .i64 dS),.s (.int .u64 aH),ax.enc,.aq false (some 37) (aj.map ae.enc)]]::X) (by simp)
 unfold xw
 simp only[acu]
 generalize (aj.any fun v=> decide ((al v.iD:Int)≠(n:Nat)))=q at *
 simp only[B50,aB.enc,cL,fg,iQ,mT,mU,go_sem,simprocAttr]
 cases q
 ·by_cases c3:(s.p n).role=1
  ·simp only[GU,c3,eg,ab2,go_sem,simprocAttr]
   all_goals rfl
  ·by_cases c4:aH≤(s.p n).aH
   ·simp only[GU,c3,c4,eg,ab2,go_sem,simprocAttr]
    all_goals rfl
   ·simp only[GU,c3,c4,eg,ab2,go_sem,simprocAttr]
    all_goals rfl
 ·simp only[GU,ab2,go_sem,simprocAttr]
  all_goals rfl
theorem nG {r:aB} (h:bj r=true) (h1:r.kind≠1):0≤r.aC∧r.aC < 16∧1≤r.aH∧r.aH≤1099511627776∧r.ax=zeroV:=by
 unfold bj lE at h
 rw[if_neg h1] at h
 split at h
 ·simp at h;simp[h]
 ·split at h
  ·simp at h;simp[h]
  ·split at h
   ·simp at h;simp[h]
   ·cases h
theorem qy {r:aB} (h:bj r=true):r.aj.length≤4:=by
 unfold bj at h
 split at h
 ·simp at h;simp[h]
 ·split at h
  ·simp at h;simp[h]
  ·split at h
   ·rw[abY] at h
    have:=h.2
    unfold dn at this
    rw[abY,decide_eq_true_eq] at this
    exact this.1
   ·split at h
    ·simp at h;simp[h]
    ·cases h
theorem zb (b:Nat) (h:Hp) (m:Nat) (s:bD) (F:List Nat) (r:aB) (hs:ji h m s F) (hk:mS s) (hw:r.wf) (hv:∀v∈r.aj,v.wf):
 run fns pr b 20 [.ptr m [0] 1,r.enc] h=some (.s (.int .i64 (cD s r)),h):=by
 have AE:=fun b X=> mM b (h++X) r hv
 have xx:=fun b X=> Jc b (h++X) m s F false r.ax (hs.app X) hk (by have:=hw.ax.iD;omega)
 have hgo:=fun b X h0 h1=> ME b (h++X) m s F r (hs.app X) hk h0 h1
 have hco:=fun b X h0 h1 h4=> Jd b (h++X) m s F r (hs.app X) hk h0 h1 hv h4
 have hgk:=nG (r:=r)
 have hg4:=qy (r:=r)
 have dQ:r.enc.ty=some 40:=rfl
 have nA:r.enc.aw=true:=rfl
 obtain ⟨rw,ts,own,hp⟩:=hs
 refine Vm.aR (nt:=45) rfl Ul (by simp) ?_
 unfold cD
 cases hr:bj r with
 | false=>
   rw[if_pos rfl]
   simp only[B20,AE,hr,dQ,nA,ab2,go_sem,simprocAttr]
 | true=>
   rw[if_neg (by simp)]
   have h4:=hg4 hr
   have hgk:=hgk hr
   obtain ⟨kind,aC,dS,aH,ax,aj⟩:=r
   simp only[aB.enc,ae.kL] at *
   by_cases k1:kind=1
   ·subst k1
    rw[if_pos rfl]
    simp only[B20,AE,hr,xx,iF,iG,ab2,go_sem,simprocAttr]
   ·rw[if_neg k1]
    obtain ⟨g1,g2,g3,g4,g5⟩:=hgk k1
    have hgo:=fun b X=> hgo b X g1 g2
    have hco:=fun b X=> hco b X g1 g2 h4
    by_cases k2:kind=2
    ·subst k2
     rw[if_pos rfl]
     simp only[B20,AE,hr,hgo,iF,iG,ab2,go_sem,simprocAttr]
    ·rw[if_neg k2]
     by_cases k3:kind=3
     ·subst k3
      rw[if_pos rfl]
      simp only[B20,AE,hr,hco,iF,iG,ab2,go_sem,simprocAttr]
     ·rw[if_neg k3]
      obtain ⟨n,rfl⟩:∃n:Nat,aC=(n:Int):=⟨aC.toNat,by omega⟩
      have hn:n < 16:=by omega
      have cL:=fun X=>(hp.app X).o
      have fg:=fun cf base X=>(hp.app X).sr.cZ (cf:=cf) (base:=base) (k:= .i64) (i:=n) (by rw[bX];exact hn)
      have iQ:=fun cf base X=>(hp.app X).sr.iA (cf:=cf) (base:=base) (dv _ _ _ _ hn) rfl
      simp only[acu]
      simp only[B20,AE,hr,k1,k2,k3,cL,fg,iQ,mT,mU,go_sem,simprocAttr]
      by_cases c1:(s.p n).role=2
      ·by_cases c2:(s.p n).aH=aH
       ·simp only[c1,c2,eg,ab2,go_sem,simprocAttr]
        all_goals rfl
       ·simp only[c1,c2,eg,ab2,go_sem,simprocAttr]
        all_goals rfl
      ·simp only[c1,eg,ab2,go_sem,simprocAttr]
       all_goals rfl
def bp (s:bD) (r:aB):Int×bD:=
 if cD s r≠0 then (cD s r,s)
 else if r.kind=1 then ((pI (s.p (al r.ax.iD)).vs r.ax).1,s.qc (al r.ax.iD) {s.p (al r.ax.iD) with vs:=(pI (s.p (al r.ax.iD)).vs r.ax).2})
 else if r.kind=2 then (0,s.qc r.aC.toNat ⟨2,r.aH,r.dS,(s.p r.aC.toNat).vs⟩)
 else if r.kind=3 then (0,s.qc r.aC.toNat ⟨1,r.aH,0,r.aj⟩)
 else (0,s.qc r.aC.toNat ⟨0,r.aH,0,[]⟩)
theorem q27z {l:List ae} (h:dn l=true):∀(j i:Nat) (hij:i < j) (hj:j < l.length),cQ (l[i]).iD (l[j]).iD < 0:=by
 unfold dn at h
 rw[abY,ach] at h
 have step:∀i (hi:i+1 < l.length),cQ (l[i]).iD (l[i+1]).iD < 0:=fun i hi=> by
   have:=h.2 (i+1) (ac3.2 hi)
   unfold iR at this
   rw[abY] at this
   have:=this.2
   simp only[aeP,List.getD,abV hi,abV (show i < l.length by omega),acx] at this
   simpa using this
 intro j
 induction j with
 | zero=> intro i hij;omega
 | succ j ih=>
   intro i hij hj
   rcases adx i j with h1 | h1
   ·exact fO _ _ _ (ih i h1 (by omega)) (step j hj)
   ·obtain rfl:i=j:=by omega
    exact step i hj
theorem q28z {l:List ae} (h:dn l=true):rising l=true:=by
 have h1:=q27z h
 unfold dn at h
 rw[abY,decide_eq_true_eq,ach] at h
 unfold rising
 rw[abY,abY,decide_eq_true_eq,decide_eq_true_eq,ach]
 refine ⟨⟨h.1,fun v hv=> ?_⟩,aej.2 fun i j hi hj hij=> h1 j i hij hj⟩
 obtain ⟨i,hi,rfl⟩:=List.getElem_of_mem hv
 have:=h.2 i (ac3.2 hi)
 unfold iR at this
 rw[abY,List.getD,abV hi] at this
 exact this.1
theorem q24z {l:List V} {i:Nat} {x:V} (h:l[i]? =some x):l.set i x=l:=acS fun k=> by
 rw[acK]
 by_cases hk:i=k
 ·subst hk
  obtain ⟨h1,h2⟩:=abW.1 h
  simp[h1,h,h2]
 ·simp[hk]
theorem Bo.vs {F:List Nat} {h h':Hp} {m r i k':Nat} {s:bD} {ts:Nat→Nat×Nat} {own:Nat→Nat} {l:List ae} (hp:Bo h m s F r ts own) (hi:i < 16)
 (hT:TR h' (ts i).1 k' l) (f:Fw [(ts i).1,(ts i).2] h h') (hk:k'=(ts i).2∨k'=(ts i).1∨h.length≤k'):
 ∃F',ji h' m (s.qc i {s.p i with vs:=l}) F'∧Fw F h h'∧∀j∈F',j∈F∨h.length≤j:=by
 obtain ⟨o1,o2⟩:=hp.ot _ hi
 have da:∀j,j≠(ts i).1→j≠(ts i).2→j∉ [(ts i).1,(ts i).2]:=fun j h1 h2=> by simp[h1,h2]
 have cy:=f.cw _ _ hp.row (da r (fun e=> by rw[←e,hp.orr] at o1;omega) (fun e=> by rw[←e,hp.orr] at o2;omega))
 refine ⟨_,hp.part (q:= {s.p i with vs:=l}) (t':=(ts i).1) hi ?_ hT (fun j b _ h1 h2 hb=> f.cw _ _ hb (da j h1 h2)) (.inl rfl) hk f.len,f.mono ?_,?_⟩
 ·rw[cy];congr 2;exact (q24z (dv _ _ _ _ hi)).symm
 ·intro j hj
  simp only[acC,ae4,or_false] at hj
  rcases hj with rfl | rfl
  ·exact (hp.ft _ hi).1
  ·exact (hp.ft _ hi).2
 ·intro j hj
  simp only[acC] at hj
  rcases hj with rfl | rfl | hj
  ·exact .inl (hp.ft _ hi).1
  ·rcases hk with rfl | rfl | hk
   ·exact .inl (hp.ft _ hi).2
   ·exact .inl (hp.ft _ hi).1
   ·exact .inr hk
  ·exact .inl hj
theorem Bo.XY {F:List Nat} {h h':Hp} {m r i t' k':Nat} {s:bD} {ts:Nat→Nat×Nat} {own:Nat→Nat} {q:pJ} (hp:Bo h m s F r ts own) (hi:i < 16)
 (hr:h'[r]? =some (.cells (some 96) ((gK s.p ts 16).set i (eg q t')))) (hT:TR h' t' k' q.vs) (f:Fw [r,(ts i).1,(ts i).2] h h') (ht:t'=(ts i).1∨h.length≤t') (hk:k'=(ts i).2∨k'=(ts i).1∨h.length≤k'):
 ∃F',ji h' m (s.qc i q) F'∧Fw F h h'∧∀j∈F',j∈F∨h.length≤j:=by
 refine ⟨_,hp.part hi hr hT (fun j b h0 h1 h2 hb=> f.cw _ _ hb (by simp[h0,h1,h2])) ht hk f.len,f.mono ?_,?_⟩
 ·intro j hj
  simp only[acC,ae4,or_false] at hj
  rcases hj with rfl | rfl | rfl
  ·exact hp.fr
  ·exact (hp.ft _ hi).1
  ·exact (hp.ft _ hi).2
 ·intro j hj
  simp only[acC] at hj
  rcases hj with rfl | rfl | hj
  ·rcases ht with rfl | ht
   ·exact .inl (hp.ft _ hi).1
   ·exact .inr ht
  ·rcases hk with rfl | rfl | hk
   ·exact .inl (hp.ft _ hi).2
   ·exact .inl (hp.ft _ hi).1
   ·exact .inr hk
  ·exact .inl hj
theorem Je (b:Nat) (h:Hp) (m:Nat) (s:bD) (F:List Nat) (r:aB) (hF:∀j∈F,b≤j) (hs:ji h m s F) (hk:mS s) (hw:r.wf) (hv:∀v∈r.aj,v.wf):
 ∃v h',run fns pr b 27 [.ptr m [0] 1,r.enc] h=some (v,h')∧v= .s (.int .i64 (bp s r).1)∧∃F',ji h' m (bp s r).2 F'∧Fw F h h'∧∀j∈F',j∈F∨h.length≤j:=by
 have AF:=fun b X=> zb b (h++X) m s F r (hs.app X) hk hw hv
 have dQ:r.enc.ty=some 40:=rfl
 have nA:r.enc.aw=true:=rfl
 have qj:=hs
 obtain ⟨rw,ts,own,hp⟩:=hs
 refine Vm.eV (nt:=79) rfl Uz (by simp) ?_
 unfold bp
 by_cases c0:cD s r=0
 case neg=>
   rw[if_pos c0]
   simp only[B27,AF,c0,dQ,nA,go_sem,simprocAttr]
   exact ⟨_,qj.app _,Fw.app _ _ _,fun j hj=> .inl hj⟩
 rw[if_neg (by simp[c0])]
 have hr:bj r=true:=by
   cases hr:bj r with
   | true=> rfl
   | false=> unfold cD at c0;rw[if_pos hr] at c0;cases c0
 have hgk:=nG hr
 rw[c0] at AF
 by_cases k1:r.kind=1
 ·rw[if_pos k1]
  have j5:aQ r.ax=true:=by unfold bj at hr;rw[if_pos k1] at hr;simp at hr;simp[hr]
  obtain ⟨kind,aC,dS,aH,ax,aj⟩:=r
  obtain ⟨w1,w2,w3,w4,w5,w6⟩:=hw
  simp only at k1 j5 w5 ⊢
  subst k1
  have hvi:ax.iD.length=4:=by have:=w5.iD;omega
  have hn:=eF ax.iD
  have ok:=hk.p _ hn
  have pv:=fun b h0=> gX b h0 ax.iD (by omega)
  have cL:=fun X=>(hp.app X).o
  have fg:=fun cf base X=>(hp.app X).sr.cZ (cf:=cf) (base:=base) (k:= .i64) (i:=al ax.iD) (by rw[bX];exact hn)
  have hpn:(gK s.p ts 16)[al ax.iD]? =some (.st 96 [.s (.int .i64 (s.p (al ax.iD)).role),.s (.int .u64 (s.p (al ax.iD)).aH),.s (.int .i64 (s.p (al ax.iD)).to),.ptr (ts (al ax.iD)).1 [0] 1]):=dv _ _ _ _ hn
  have hf3:=fun cf base X=>(hp.app X).sr.Bf (cf:=cf) (base:=base) (f:=3) hpn (by simp)
  have xv:=fun cf base X=>(hp.app X).sr.Jb (cf:=cf) (base:=base) (f:=3) (g':=none) hpn rfl rfl
  have hpu:=MB b (h++[aT.cells (some 40) [aB.enc ⟨1,aC,dS,aH,ax,aj⟩]]) (ts (al ax.iD)).1 (ts (al ax.iD)).2 (s.p (al ax.iD)).vs ax (hF _ (hp.ft _ hn).1) ((hp.app _).tab _ hn) ok.EF ok.len
  have mV:aB.enc ⟨1,aC,dS,aH,ax,aj⟩=V.st 40 [.s (.int .i64 1),.s (.int .i64 aC),.s (.int .i64 dS),.s (.int .u64 aH),ax.enc,.aq false (some 37) (aj.map ae.enc)]:=rfl
  have hve:ax.enc= .st 37 [.arr 28 (ax.iD.map aa),.s (.int .u64 ax.gen),.arr 22 (ax.jm.map aa),.aq false none (ax.aL.map aa),.s (.int .i64 ax.bT),.s (.int .i64 ax.used),.arr 22 (ax.owner.map aa),.s (.bool ax.gone),.s (.bool ax.qX)]:=rfl
  rw[mV] at AF hpu ⊢
  rw[hve] at AF hpu ⊢
  generalize hEs:(aj.map ae.enc)=es at *
  obtain ⟨H2,k2,hpu,hT,f2,Bb⟩:=hpu
  have fA:∀X,Fw [] h (h++X):=fun X=> Fw.app [] h X
  have fin:=(hp.mono (fA _) (by simp)).vs hn hT f2 (by omega)
  obtain ⟨F',q1,q2,q3⟩:=fin
  have q2:=((fA _).mono (T:=F) (by simp)).trans q2
  have q3:∀j∈F',j∈F∨h.length≤j:=fun j hj=>(q3 j hj).imp id fun h=> by rw[abZ] at h;omega
  simp only[B27,AF,pv,cL,fg,hf3,xv,hpu,go_sem,simprocAttr]
  exact ⟨F',q1,q2,q3⟩
 ·rw[if_neg k1]
  obtain ⟨g1,g2,g3,g4,g5⟩:=hgk k1
  have h4:=qy hr
  have hrk:=q29z hr
  have zd:r.kind=3→rising r.aj=true:=fun k3=> by
    unfold bj at hr
    rw[k3] at hr
    simp at hr
    exact q28z hr.2
  obtain ⟨kind,aC,dS,aH,ax,aj⟩:=r
  simp only at k1 g1 g2 g3 g4 h4 hrk zd ⊢
  obtain ⟨n,rfl⟩:∃n:Nat,aC=(n:Int):=⟨aC.toNat,by omega⟩
  have hn:n < 16:=by omega
  simp only[acu]
  have mV:aB.enc ⟨kind,n,dS,aH,ax,aj⟩=V.st 40 [.s (.int .i64 kind),.s (.int .i64 n),.s (.int .i64 dS),.s (.int .u64 aH),ax.enc,.aq false (some 37) (aj.map ae.enc)]:=rfl
  rw[mV] at AF ⊢
  have hpA:=hp.app [aT.cells (some 40) [V.st 40 [.s (.int .i64 kind),.s (.int .i64 n),.s (.int .i64 dS),.s (.int .u64 aH),ax.enc,.aq false (some 37) (aj.map ae.enc)]]]
  have fA:Fw [] h (h++[aT.cells (some 40) [V.st 40 [.s (.int .i64 kind),.s (.int .i64 n),.s (.int .i64 dS),.s (.int .u64 aH),ax.enc,.aq false (some 37) (aj.map ae.enc)]]]):=Fw.app [] h _
  have hid:(h++[aT.cells (some 40) [V.st 40 [.s (.int .i64 kind),.s (.int .i64 n),.s (.int .i64 dS),.s (.int .u64 aH),ax.enc,.aq false (some 37) (aj.map ae.enc)]]])[h.length]? =some (aT.cells (some 40) [V.st 40 [.s (.int .i64 kind),.s (.int .i64 n),.s (.int .i64 dS),.s (.int .u64 aH),ax.enc,.aq false (some 37) (aj.map ae.enc)]]):=aO _ _
  have hcA:=fun b=> AF b [aT.cells (some 40) [V.st 40 [.s (.int .i64 kind),.s (.int .i64 n),.s (.int .i64 dS),.s (.int .u64 aH),ax.enc,.aq false (some 37) (aj.map ae.enc)]]]
  have hlA:(h++[aT.cells (some 40) [V.st 40 [.s (.int .i64 kind),.s (.int .i64 n),.s (.int .i64 dS),.s (.int .u64 aH),ax.enc,.aq false (some 37) (aj.map ae.enc)]]]).length=h.length+1:=by simp
  have r5:=q6z hp.row
  have da:rw≠h.length:=by omega
  clear AF qj
  generalize hHA:h++[aT.cells (some 40) [V.st 40 [.s (.int .i64 kind),.s (.int .i64 n),.s (.int .i64 dS),.s (.int .u64 aH),ax.enc,.aq false (some 37) (aj.map ae.enc)]]]=HA at *
  have fg:=fun cf base=> hpA.sr.cZ (cf:=cf) (base:=base) (k:= .i64) (i:=n) (by rw[bX];exact hn)
  have hep:lh (.ref rw [] (some 96) 0 16 16) n= .ptr rw [n] 16:=by simp[lh]
  simp only[hep] at fg
  have hPn:(gK s.p ts 16)[n]? =some (.st 96 [.s (.int .i64 (s.p n).role),.s (.int .u64 (s.p n).aH),.s (.int .i64 (s.p n).to),.ptr (ts n).1 [0] 1]):=dv _ _ _ _ hn
  have hPl:=bX s.p ts 16
  have hPs:∀x,((gK s.p ts 16).set n x)[n]? =some x:=fun x=> by rw[ad2 (by rw[hPl];exact hn)]
  have hgo:=hpA.o
  have AA:=hpA.row
  have pL:b≤rw:=hF _ hp.fr
  have aZ:∀B,(HA.set rw B)[rw]? =some B:=fun B=> q9z AA
  have hsi:∀B,(HA.set rw B)[h.length]? =HA[h.length]? :=fun B=> by rw[ab3 da]
  have lp:∀es',Fw [rw,(ts n).1,(ts n).2] HA (HA.set rw (.cells (some 96) es')):=fun es'=> Fw.set (by simp) AA
  have hnr:(ts n).1≠rw∧(ts n).2≠rw:=by
    obtain ⟨o1,o2⟩:=hp.ot _ hn
    exact ⟨fun e=> by rw[e,hp.orr] at o1;omega,fun e=> by rw[e,hp.orr] at o2;omega⟩
  have fin:∀(q:pJ) (t' k':Nat) (h':Hp),h'[rw]? =some (.cells (some 96) ((gK s.p ts 16).set n (eg q t')))→TR h' t' k' q.vs→Fw [rw,(ts n).1,(ts n).2] HA h'→(t'=(ts n).1∨HA.length≤t')→(k'=(ts n).2∨k'=(ts n).1∨HA.length≤k')→∃F',ji h' m (s.qc n q) F'∧Fw F h h'∧∀j∈F',j∈F∨h.length≤j:=by
    intro q t' k' h' a1 a2 a3 a4 a5
    obtain ⟨F',q1,q2,q3⟩:=hpA.XY hn a1 a2 a3 a4 a5
    exact ⟨F',q1,(fA.mono (by simp)).trans q2,fun j hj=>(q3 j hj).imp id fun h=> by omega⟩
  by_cases k2:kind=2
  ·subst k2
   rw[if_pos rfl]
   simp only[B27,hHA,hcA,c0,hgo,fg,hid,AA,hPn,hPs,hPl,aZ,hsi,pL,ac4,go_sem,simprocAttr]
   exact fin ⟨2,aH,dS,(s.p n).vs⟩ (ts n).1 (ts n).2 _ (aZ _) ((hpA.tab n hn).mono (S:=[rw]) (Fw.set (by simp) AA) (by simp[hnr]) (by simp[hnr])) (lp _) (.inl rfl) (.inl rfl)
  ·rw[if_neg k2]
   by_cases k3:kind=3
   ·subst k3
    rw[if_pos rfl]
    have hTB:=fun es'=>(hpA.tab n hn).mono (S:=[rw]) (Fw.set (es':=es') (by simp) AA) (by simp[hnr]) (by simp[hnr])
    have oe:=y6 b (HA.set rw (.cells (some 96) ((gK s.p ts 16).set n (eg ⟨1,aH,0,aj⟩ (ts n).1)))) (ts n).1 (ts n).2 (s.p n).vs aj (.aq false (some 37) (aj.map ae.enc)) (hF _ (hp.ft _ hn).1) (hTB _) (.inl ⟨_,rfl⟩) (by omega)
    rw[zd rfl,if_pos rfl] at oe
    obtain ⟨H2,k',oe,hT,f2,mg⟩:=oe
    simp only[eg] at oe
    simp only[B27,hHA,hcA,c0,hgo,fg,hid,AA,hPn,hPs,hPl,aZ,hsi,pL,ac4,oe,go_sem,simprocAttr]
    have cy:=f2.cw _ _ (aZ _) (by simp[adG hnr.1])
    exact fin ⟨1,aH,0,aj⟩ (ts n).1 k' _ cy hT ((lp _).trans (f2.mono (by simp))) (.inl rfl) (by simpa using mg)
   ·rw[if_neg k3]
    have hnw:=sn b (HA.set rw (.cells (some 96) ((gK s.p ts 16).set n (.st 96 [.s (.int .i64 (s.p n).role),.s (.int .u64 aH),.s (.int .i64 (s.p n).to),.ptr (ts n).1 [0] 1]))))
    have qm:∀B X,(HA.set rw B++X)[rw]? =some B:=fun B X=> q10z (aZ B) X
    have aaC:∀B B' X,(HA.set rw B++X).set rw B'=HA.set rw B'++X:=fun B B' X=> by rw[nD (by rw[adw];exact q6z AA),ac4]
    have aaD:∀B X,(HA.set rw B++X)[h.length]? =HA[h.length]? :=fun B X=> by rw[acI (by rw[adw];omega)];exact hsi B
    simp only[B27,hHA,hcA,c0,hgo,fg,hid,AA,hPn,hPs,hPl,aZ,hsi,pL,ac4,hnw,k1,k2,k3,qm,aaC,aaD,go_sem,simprocAttr]
    exact fin ⟨0,aH,0,[]⟩ HA.length HA.length _ (qm _ _) ⟨_,by rw[acb (by simp)];simp,.inl ⟨rfl,rfl,rfl⟩⟩ ((lp _).trans (Fw.app _ _ _)) (.inr (ab0 _)) (.inr (.inr (ab0 _)))
end Go.Proofs.YtggjbepemdhohaaGreat
