/- Texts for DeviceTorn, part 3. Conditions: none. -/
import Derived.Test.YtannfageakbpmaaGreatCTb
set_option linter.unusedSimpArgs false
set_option linter.unusedVariables false
set_option linter.unusedSectionVars false
namespace Go.Proofs.YtannfageakbpmaaGreat
open Go Go.Vm Go.Proofs Go.Cl
set_option maxRecDepth 100000
theorem Pl (n:Nat) (h:n < 256):(UInt8.ofNat n).toNat=n:=by
 rw[UInt8.toNat_ofNat'];omega
def lQ :List V:=bN.map aa
def wvR :List V:=[.s (.int .u32 1668047222),.s (.int .u32 1768383858),.s (.int .u32 1801807216),.s (.int .u32 1935763045)]
def lI (l:Bs) (z:Nat):Bs:=l++[128]++List.replicate z 0
theorem zT (l:Bs) (z:Nat):lI l (z+1)=lI l z++[0]:=by simp[lI,List.replicate_succ']
theorem pR (l:Bs) (z:Nat):(lI l z).length=l.length+1+z:=by simp[lI];omega
theorem BH (n:Nat):V.s (.int .u8 (IntKind.u8.wrap (n:Int)))=aa (UInt8.ofNat (n % 256)):=by
 have:IntKind.u8.wrap (n:Int)=(n:Int) % 256:=by
   simp only[IntKind.wrap,IntKind.bits,IntKind.signed];rfl
 rw[this,aa,Pl (n % 256) (by omega)]
 congr 2
theorem qy (n:Nat) (h:Hp):∀l:Bs,bA.all n h (l.map aa)=some (l.map aa)
 | []=> rR n h
 | b::l=> by rw[List.map_cons,pI,qy n h l];rfl
theorem Vg (h:Hp) (a b:aV):(h++[a,b])[h.length]? =some a∧(h++[a,b])[h.length+1]? =some b:=by
 constructor
 ·rw[List.getElem?_append_right (Nat.le_refl _)];simp
 ·rw[List.getElem?_append_right (by omega)];simp
theorem vB (l:Bs):∀z∈l.map aa,V.ground z=true:=by
 intro z hz
 obtain ⟨b,_,rfl⟩:=List.mem_map.1 hz
 rfl
theorem xi (l:Bs):nn (l.take 4)=nn l:=by
 simp[nn,List.getD,List.getElem?_take]
def GR (h:Hp):Hp:=h++[aV.cells (some 25) [.arr 25 lQ],aV.cells none wvR]
def kM (Y:W) (i:Nat):W:=⟨Y.a / 256 ^ min i 4,Y.b / 256 ^(min i 8 - 4),Y.c / 256 ^(min i 12 - 8),Y.d / 256 ^(i - 12)⟩
theorem BI (Y:W) (i:Nat) (hi:i < 16):(kM Y i).at (i / 4)=Y.at (i / 4)/ 2 ^(8 *(i % 4)):=by
 have:i=0∨i=1∨i=2∨i=3∨i=4∨i=5∨i=6∨i=7∨i=8∨i=9∨i=10∨i=11∨i=12∨i=13∨i=14∨i=15:=by omega
 rcases this with h | h | h | h | h | h | h | h | h | h | h | h | h | h | h | h <;> subst h <;> simp[kM,W.at]
theorem C6 (Y:W) (i:Nat) (hi:i < 16):(kM Y i).vs.set (i / 4) (.s (.int .u32 (((kM Y i).at (i / 4)/ 256:Nat):Int)))=(kM Y (i+1)).vs:=by
 have:i=0∨i=1∨i=2∨i=3∨i=4∨i=5∨i=6∨i=7∨i=8∨i=9∨i=10∨i=11∨i=12∨i=13∨i=14∨i=15:=by omega
 rcases this with h | h | h | h | h | h | h | h | h | h | h | h | h | h | h | h <;> subst h <;> simp[kM,W.at,W.vs,Nat.div_div_eq_div_mul]
theorem KH (b:Nat) (h:Hp) (x:V) (l:Bs) (hb:Rd h x l) (hl:l.length≤1000000):run fns pr b 105 [x] h=some (.arr 25 ((cS l).map aa),h):=by
 refine Vm.aU (nt:=104) rfl NN (by simp) ?_
 obtain ⟨g0,g1⟩:(GR h)[h.length]? =_∧(GR h)[h.length+1]? =_:=Vg h (.cells (some 25) [.arr 25 lQ]) (.cells none wvR)
 have hlG:(GR h).length=h.length+2:=by simp[GR]
 have hsx:source (GR h) x=some (none,l.map aa):=by
   have:=hb.1 (GR h) (Fw.app [] h _)
   cases x <;> first | exact this | (simp[elems] at this)
 obtain ⟨v,H1,k1,KI,xr1,hk1,qw,_,_,oS⟩:=(XR.nil (GR h) none (h.length+2)).O9 (n:=h.length+2) (bytes:=1) (by omega) (by omega) hsx (vB l) (by simp;omega)
 obtain ⟨v2,H2,k2,xe,xr2,zQ,qu,_,_,BJ⟩:=xr1.uq (m:=1) (ys:=[aa 128]) (bytes:=1) hk1 qw rfl (fun z hz=> by simp at hz;subst hz;rfl) (by simp;omega)
 have g0:=BJ _ _ (by omega) (oS _ _ (by omega) g0)
 have g1:=BJ _ _ (by omega) (oS _ _ (by omega) g1)
 have fw:Fw [] h H2:=Fw.zL (by omega) fun j b hj=> by
   have:=q6z hj
   exact BJ _ _ (by omega) (oS _ _ (by omega) (q10z hj _))
 have hb8:aa 128= .s (.int .u8 128):=rfl
 rw[hb8] at xe
 have xr2:XR H2 none k2 v2 ((lI l 0).map aa):=by simpa[lI] using xr2
 have du:=xr1.ty
 simp only[GR,lQ,wvR] at KI
 have au:(0:Nat)=0:=rfl
 try simp only[Kc,zp,zo,zn,zm,zl,zk,zj,zi,zh,zg,KI,xe,go_sem,↓reduceIte,Nat.reduceEqDiff,Nat.reduceBEq,Nat.reduceAdd,Nat.reduceSub,Nat.reduceLT,Nat.reduceLeDiff,Int.reduceLT,Int.reduceLE,Int.reduceEq,Int.reduceToNat]
 repeat' (
   first | refine q5z ?_ ?_ | refine q3z ?_ ?_ | refine q4z ?_ ?_
   all_goals intro aj
   all_goals first | replace aj:=q2z aj | replace aj:=q1z aj | skip
   all_goals first | subst aj | replace au:=And.intro aj au
   all_goals try simp only[au,Kc,zp,zo,zn,zm,zl,zk,zj,zi,zh,zg,KI,xe,go_sem,↓reduceIte,Nat.reduceEqDiff,Nat.reduceBEq,Nat.reduceAdd,Nat.reduceSub,Nat.reduceLT,Nat.reduceLeDiff,Int.reduceLT,Int.reduceLE,Int.reduceEq,Int.reduceToNat])
 clear KI xe oS BJ hsx
 have hxl:∀cf base (h0:Hp),aB cf base h0 .len [x]=some (.s (.int .i64 l.length),h0):=fun cf base h0=> Vm.cE cf base h0 x _ hb.2
 have w1:IntKind.u64.wrap (l.length:Int)=(l.length:Int):=wrap_u64 (by omega) (by omega)
 refine bh (fun m e H=>∃z k y,m=ff l.length - z∧z≤ff l.length∧e 0=x∧e 2= .ptr h.length [0] 1∧e 3= .ref (h.length+1) [] none 0 4 4∧e 4=y∧H[h.length]? =some (.cells (some 25) [.arr 25 lQ])∧H[h.length+1]? =some (.cells none wvR)∧XR H none k y ((lI l z).map aa)∧Fw [] h H∧h.length+2≤k∧h.length+2≤H.length)
   (fun e H=>∃k y,e 0=x∧e 2= .ptr h.length [0] 1∧e 3= .ref (h.length+1) [] none 0 4 4∧e 4=y∧H[h.length]? =some (.cells (some 25) [.arr 25 lQ])∧H[h.length+1]? =some (.cells none wvR)∧XR H none k y ((lI l (ff l.length)).map aa)∧Fw [] h H∧h.length+2≤k∧h.length+2≤H.length)
   (ff l.length) _ _ ⟨0,k2,v2,rfl,by omega,rfl,rfl,rfl,rfl,g0,g1,xr2,fw,zQ,qu⟩ ?_ ?_
 ·clear xr2 fw zQ qu g0 g1 xr1 du
  rintro m e H ⟨z,k,y,rfl,hz,e0,e2,e3,e4,cR,cH,xr,fw,hk,hlH⟩
  have lz:=fun cf base=> xr.BR.cE (cf:=cf) (base:=base) (h:=H)
  rw[pR] at lz
  have hpd:ff l.length=(8 - (l.length+1) % 8) % 8:=rfl
  have wI:∀cf base h,aB cf base h (.bin .num .rem) [.s (.int .i64 ((l.length+1+z:Nat):Int)),.s (.int .i64 8)]=some (.s (.int .i64 (((l.length+1+z) % 8:Nat):Int)),h):=fun cf base h=> by
    rw[lY cf base h .i64 _ 8 (by omega),Int.tmod_eq_emod_of_nonneg (by omega)];rfl
  by_cases c:z < ff l.length
  ·have c':¬(((l.length+1+z) % 8:Nat):Int)=0:=by omega
   obtain ⟨x',H',k',jb,xr',lC,dv,_,hg,hold⟩:=xr.uq (m:=1) (ys:=[.s (.int .u8 0)]) (bytes:=1) hk hlH rfl (fun z hz=> by simp at hz;subst hz;rfl) (by simp[pR];unfold ff at c;omega)
   have xr':XR H' none k' x' ((lI l (z+1)).map aa):=by rw[zT,List.map_append];exact xr'
   have fw':Fw [] h H':=fw.trans' hg hold hk
   have au:(0:Nat)=0:=rfl
   try simp only[e0,e2,e3,e4,lz,wI,c',jb,go_sem,↓reduceIte,Nat.reduceEqDiff,Nat.reduceBEq,Nat.reduceAdd,Nat.reduceSub,Nat.reduceLT,Nat.reduceLeDiff,Int.reduceLT,Int.reduceLE,Int.reduceEq,Int.reduceToNat]
   repeat' (
     first | refine q5z ?_ ?_ | refine q3z ?_ ?_ | refine q4z ?_ ?_
     all_goals intro aj
     all_goals first | replace aj:=q2z aj | replace aj:=q1z aj | skip
     all_goals first | subst aj | replace au:=And.intro aj au
     all_goals try simp only[au,e0,e2,e3,e4,lz,wI,c',jb,go_sem,↓reduceIte,Nat.reduceEqDiff,Nat.reduceBEq,Nat.reduceAdd,Nat.reduceSub,Nat.reduceLT,Nat.reduceLeDiff,Int.reduceLT,Int.reduceLE,Int.reduceEq,Int.reduceToNat])
   all_goals exact ⟨ff l.length - (z+1),by omega,z+1,k',x',rfl,by omega,rfl,hold _ _ (by omega) cR,hold _ _ (by omega) cH,xr',fw',lC,dv⟩
  ·have c':(((l.length+1+z) % 8:Nat):Int)=0:=by omega
   have:z=ff l.length:=by omega
   have au:(0:Nat)=0:=rfl
   try simp only[e0,e2,e3,e4,lz,wI,c',go_sem,↓reduceIte,Nat.reduceEqDiff,Nat.reduceBEq,Nat.reduceAdd,Nat.reduceSub,Nat.reduceLT,Nat.reduceLeDiff,Int.reduceLT,Int.reduceLE,Int.reduceEq,Int.reduceToNat]
   repeat' (
     first | refine q5z ?_ ?_ | refine q3z ?_ ?_ | refine q4z ?_ ?_
     all_goals intro aj
     all_goals first | replace aj:=q2z aj | replace aj:=q1z aj | skip
     all_goals first | subst aj | replace au:=And.intro aj au
     all_goals try simp only[au,e0,e2,e3,e4,lz,wI,c',go_sem,↓reduceIte,Nat.reduceEqDiff,Nat.reduceBEq,Nat.reduceAdd,Nat.reduceSub,Nat.reduceLT,Nat.reduceLeDiff,Int.reduceLT,Int.reduceLE,Int.reduceEq,Int.reduceToNat])
   all_goals (subst this;exact ⟨k,y,rfl,cR,cH,xr,fw,hk,hlH⟩)
 ·clear xr2 fw zQ qu g0 g1 xr1 du
  rintro e H ⟨k,y,e0,e2,e3,e4,cR,cH,xr,fw,hk,hlH⟩
  have au:(0:Nat)=0:=rfl
  try simp only[e0,e2,e3,e4,hxl,w1,go_sem,↓reduceIte,Nat.reduceEqDiff,Nat.reduceBEq,Nat.reduceAdd,Nat.reduceSub,Nat.reduceLT,Nat.reduceLeDiff,Int.reduceLT,Int.reduceLE,Int.reduceEq,Int.reduceToNat]
  repeat' (
    first | refine q5z ?_ ?_ | refine q3z ?_ ?_ | refine q4z ?_ ?_
    all_goals intro aj
    all_goals first | replace aj:=q2z aj | replace aj:=q1z aj | skip
    all_goals first | subst aj | replace au:=And.intro aj au
    all_goals try simp only[au,e0,e2,e3,e4,hxl,w1,go_sem,↓reduceIte,Nat.reduceEqDiff,Nat.reduceBEq,Nat.reduceAdd,Nat.reduceSub,Nat.reduceLT,Nat.reduceLeDiff,Int.reduceLT,Int.reduceLE,Int.reduceEq,Int.reduceToNat])
  refine bh (fun m e H=>∃i k y,m=8 - i∧i≤8∧e 6= .s (.int .i64 (i:Nat))∧e 5= .s (.int .u64 ((l.length / 2 ^(8 * i):Nat):Int))∧e 2= .ptr h.length [0] 1∧e 3= .ref (h.length+1) [] none 0 4 4∧e 4=y∧H[h.length]? =some (.cells (some 25) [.arr 25 lQ])∧H[h.length+1]? =some (.cells none wvR)∧XR H none k y ((lI l (ff l.length)++qZ l.length i).map aa)∧Fw [] h H∧h.length+2≤k∧h.length+2≤H.length)
    (fun e H=>∃y,e 2= .ptr h.length [0] 1∧e 3= .ref (h.length+1) [] none 0 4 4∧e 4=y∧H[h.length]? =some (.cells (some 25) [.arr 25 lQ])∧H[h.length+1]? =some (.cells none wvR)∧BR H y (eT l)∧Fw [] h H)
    8 _ _ ⟨0,k,y,rfl,by omega,rfl,by simp;rfl,e2,e3,e4,cR,cH,by simpa[qZ] using xr,fw,hk,hlH⟩ ?_ ?_
  ·clear xr fw hk hlH cR cH e4 y k
   rintro m e H ⟨i,k,y,rfl,hi,e6,e5,e2,e3,e4,cR,cH,xr,fw,hk,hlH⟩
   by_cases c:i < 8
   ·have c':(i:Int)< 8:=by omega
    have iy:IntKind.i64.wrap ((i:Int)+1)=((i+1:Nat):Int):=q18z (by omega)
    have hq:∀cf base h,aB cf base h (.bin .num .quo) [.s (.int .u64 ((l.length / 2 ^(8 * i):Nat):Int)),.s (.int .u64 256)]=some (.s (.int .u64 ((l.length / 2 ^(8 *(i+1)):Nat):Int)),h):=fun cf base h=> by
      have h1:l.length / 2 ^(8 * i)≤l.length:=Nat.div_le_self _ _
      have h2:l.length / 2 ^(8 *(i+1))=l.length / 2 ^(8 * i)/ 256:=by rw[Nat.div_div_eq_div_mul,show 8 *(i+1)=8 * i+8 by omega,Nat.pow_add]
      rw[xd cf base h .u64 _ 256 (by omega),h2]
      generalize l.length / 2 ^(8 * i)=n at h1
      rw[Int.tdiv_eq_ediv_of_nonneg (by omega),wrap_u64 (by omega) (by omega)];rfl
    have mX:V.s (.int .u8 (IntKind.u8.wrap ((l.length / 2 ^(8 * i):Nat):Int)))=aa (UInt8.ofNat (l.length / 2 ^(8 * i) % 256)):=BH _
    obtain ⟨x',H',k',jb,xr',lC,dv,_,hg,hold⟩:=xr.uq (m:=1) (ys:=[.s (.int .u8 (IntKind.u8.wrap ((l.length / 2 ^(8 * i):Nat):Int)))]) (bytes:=1) hk hlH rfl (fun z hz=> by simp at hz;subst hz;rfl) (by simp[pR,oO];unfold ff;omega)
    have xr':XR H' none k' x' ((lI l (ff l.length)++qZ l.length (i+1)).map aa):=by rw[qZ,←List.append_assoc,List.map_append,List.map_singleton,←mX];exact xr'
    have fw':Fw [] h H':=fw.trans' hg hold hk
    have au:(0:Nat)=0:=rfl
    try simp only[e6,e5,e2,e3,e4,c',jb,iy,hq,go_sem,↓reduceIte,Nat.reduceEqDiff,Nat.reduceBEq,Nat.reduceAdd,Nat.reduceSub,Nat.reduceLT,Nat.reduceLeDiff,Int.reduceLT,Int.reduceLE,Int.reduceEq,Int.reduceToNat]
    repeat' (
      first | refine q5z ?_ ?_ | refine q3z ?_ ?_ | refine q4z ?_ ?_
      all_goals intro aj
      all_goals first | replace aj:=q2z aj | replace aj:=q1z aj | skip
      all_goals first | subst aj | replace au:=And.intro aj au
      all_goals try simp only[au,e6,e5,e2,e3,e4,c',jb,iy,hq,go_sem,↓reduceIte,Nat.reduceEqDiff,Nat.reduceBEq,Nat.reduceAdd,Nat.reduceSub,Nat.reduceLT,Nat.reduceLeDiff,Int.reduceLT,Int.reduceLE,Int.reduceEq,Int.reduceToNat])
    all_goals exact ⟨8 - (i+1),by omega,i+1,k',x',rfl,by omega,rfl,rfl,rfl,hold _ _ (by omega) cR,hold _ _ (by omega) cH,xr',fw',lC,dv⟩
   ·have c':¬(i:Int)< 8:=by omega
    have:i=8:=by omega
    have au:(0:Nat)=0:=rfl
    try simp only[e6,e5,e2,e3,e4,c',go_sem,↓reduceIte,Nat.reduceEqDiff,Nat.reduceBEq,Nat.reduceAdd,Nat.reduceSub,Nat.reduceLT,Nat.reduceLeDiff,Int.reduceLT,Int.reduceLE,Int.reduceEq,Int.reduceToNat]
    repeat' (
      first | refine q5z ?_ ?_ | refine q3z ?_ ?_ | refine q4z ?_ ?_
      all_goals intro aj
      all_goals first | replace aj:=q2z aj | replace aj:=q1z aj | skip
      all_goals first | subst aj | replace au:=And.intro aj au
      all_goals try simp only[au,e6,e5,e2,e3,e4,c',go_sem,↓reduceIte,Nat.reduceEqDiff,Nat.reduceBEq,Nat.reduceAdd,Nat.reduceSub,Nat.reduceLT,Nat.reduceLeDiff,Int.reduceLT,Int.reduceLE,Int.reduceEq,Int.reduceToNat])
    all_goals (subst this;exact ⟨y,rfl,cR,cH,xr.BR,fw⟩)
  ·clear xr fw hk hlH cR cH e4 y k
   rintro e H ⟨y,e2,e3,e4,cR,cH,br,fw⟩
   have rS:cS l=fg (dC (kG (eT l) ((eT l).length / 8)) 8) 16:=rfl
   have O7:=rO l
   obtain ⟨N,hN⟩:∃N,(eT l).length / 8=N:=⟨_,rfl⟩
   have hlP:=nW l
   have hpd:ff l.length < 8:=by unfold ff;omega
   generalize eT l=P at O7 hN hlP br rS
   rw[hN] at rS
   have hP8:P.length=8 * N:=by omega
   have au:(0:Nat)=0:=rfl
   try simp only[e2,e3,e4,go_sem,↓reduceIte,Nat.reduceEqDiff,Nat.reduceBEq,Nat.reduceAdd,Nat.reduceSub,Nat.reduceLT,Nat.reduceLeDiff,Int.reduceLT,Int.reduceLE,Int.reduceEq,Int.reduceToNat]
   repeat' (
     first | refine q5z ?_ ?_ | refine q3z ?_ ?_ | refine q4z ?_ ?_
     all_goals intro aj
     all_goals first | replace aj:=q2z aj | replace aj:=q1z aj | skip
     all_goals first | subst aj | replace au:=And.intro aj au
     all_goals try simp only[au,e2,e3,e4,go_sem,↓reduceIte,Nat.reduceEqDiff,Nat.reduceBEq,Nat.reduceAdd,Nat.reduceSub,Nat.reduceLT,Nat.reduceLeDiff,Int.reduceLT,Int.reduceLE,Int.reduceEq,Int.reduceToNat])
   refine bh (fun m e H=>∃i,m=N - i∧i≤N∧e 7= .s (.int .i64 ((8 * i:Nat):Int))∧e 2= .ptr h.length [0] 1∧e 3= .ref (h.length+1) [] none 0 4 4∧e 4=y∧H[h.length]? =some (.cells (some 25) [.arr 25 lQ])∧H[h.length+1]? =some (.cells none (kG P i).vs)∧BR H y P∧Fw [] h H)
     (fun e H=> e 2= .ptr h.length [0] 1∧e 3= .ref (h.length+1) [] none 0 4 4∧H[h.length]? =some (.cells (some 25) [.arr 25 lQ])∧H[h.length+1]? =some (.cells none (kG P N).vs)∧Fw [] h H)
     N _ _ ⟨0,rfl,by omega,rfl,e2,e3,e4,cR,cH,by simpa using br,fw⟩ ?_ ?_
   ·clear br cR cH fw
    rintro m e H ⟨i,rfl,hi,e7,e2,e3,e4,cR,cH,br,fw⟩
    have lz:=fun cf base=> br.cE (cf:=cf) (base:=base) (h:=H)
    rw[hP8] at lz
    by_cases c:i < N
    ·have c':((8 * i:Nat):Int)<((8 * N:Nat):Int):=by omega
     have CS:kG P (i+1)=O2 (kG P i) (P.drop (8 * i)):=rfl
     have hXok:=vu P i
     generalize kG P i=X at cH CS hXok
     have oR:∀c,(H.set (h.length+1) c)[h.length+1]? =some c:=fun c=> q9z cH
     have CQ:∀c d,(H.set (h.length+1) c).set (h.length+1) d=H.set (h.length+1) d:=fun c d=> List.set_set ..
     have rk:∀c,(H.set (h.length+1) c)[h.length]? =some (.cells (some 25) [.arr 25 lQ]):=fun c=> by rw[List.getElem?_set_ne (by omega)];exact cR
     have mY:∀c,Fw [] h (H.set (h.length+1) c):=fun c=> fw.cK (by omega) c
     have GV:∀c,(∀bl:Bs,X.vs≠bl.map aa)→BR (H.set (h.length+1) c) y P:=fun c hq=> br.mono (Fw.KJ (S:=[h.length+1]) (by simp) cH hq)
     have hnb:∀Z:W,∀bl:Bs,Z.vs≠bl.map aa:=fun Z bl he=> by
       cases bl with
       | nil=> simp[W.vs] at he
       | cons b bl=> simp[W.vs,aa] at he
     have GV:=fun c=> GV c (hnb X)
     have a1:IntKind.i64.wrap (((8 * i:Nat):Int)+4)=((8 * i+4:Nat):Int):=by rw[wrap_i64 (by omega) (by omega)];omega
     have a2:IntKind.i64.wrap (((8 * i:Nat):Int)+8)=((8 * i+8:Nat):Int):=by rw[wrap_i64 (by omega) (by omega)];omega
     obtain ⟨y1,hy1,br1⟩:=br.both (k:= .i64) (k':= .i64) (a:=8 * i) (r:=8 * i+4) (by omega) (by omega)
     have lT:=BG h.length H y1 _ br1 (by simp;omega)
     have Hg:nn ((P.drop (8 * i)).take (8 * i+4 - 8 * i))=nn (P.drop (8 * i)):=by
       rw[show 8 * i+4 - 8 * i=4 by omega];exact xi _
     rw[Hg] at lT
     have zJ:=cH
     simp only[W.vs] at zJ
     have Vh:∀cf base,aB cf base H (.jg none true true false) [y,.s (.int .i64 ((8 * i:Nat):Int)),.s (.int .i64 ((8 * i+4:Nat):Int))]=some (y1,H):=hy1
     obtain ⟨y2,hy2,br2⟩:=(GV (.cells none [.s (.int .u32 (xr X.a (nn (P.drop (8 * i))):Nat)),.s (.int .u32 X.b),.s (.int .u32 X.c),.s (.int .u32 X.d)])).both (k:= .i64) (k':= .i64) (a:=8 * i+4) (r:=8 * i+8) (by omega) (by omega)
     have vw:=BG h.length _ y2 _ br2 (by simp;omega)
     have ht2:nn ((P.drop (8 * i+4)).take (8 * i+8 - (8 * i+4)))=nn ((P.drop (8 * i)).drop 4):=by
       rw[show 8 * i+8 - (8 * i+4)=4 by omega,List.drop_drop];exact xi _
     rw[ht2] at vw
     obtain ⟨W1,hW1⟩:∃W1:W,(⟨xr X.a (nn (P.drop (8 * i))),X.b,X.c,xr X.d (nn ((P.drop (8 * i)).drop 4))⟩:W)=W1:=⟨_,rfl⟩
     have O8:kG P (i+1)=gK (gK (gK W1)):=by rw[CS,←hW1];rfl
     have hW1ok:W1.ok:=by rw[←hW1];exact ⟨lq _ _,hXok.2.1,hXok.2.2.1,lq _ _⟩
     have hW1v:[V.s (.int .u32 ((xr X.a (nn (P.drop (8 * i))):Nat):Int)),.s (.int .u32 X.b),.s (.int .u32 X.c),.s (.int .u32 ((xr X.d (nn ((P.drop (8 * i)).drop 4)):Nat):Int))]=W1.vs:=by rw[←hW1];rfl
     have s1:=o3 h.length (H.set (h.length+1) (.cells none W1.vs)) (h.length+1) W1 hW1ok (oR _)
     have s2:=o3 h.length (H.set (h.length+1) (.cells none (gK W1).vs)) (h.length+1) (gK W1) (oN _) (oR _)
     have s3:=o3 h.length (H.set (h.length+1) (.cells none (gK (gK W1)).vs)) (h.length+1) (gK (gK W1)) (oN _) (oR _)
     rw[CQ] at s1 s2 s3
     have l0:(0:Int)<((4:Nat):Int):=by decide
     have l3:(3:Int)<((4:Nat):Int):=by decide
     have au:(0:Nat)=0:=rfl
     try simp only[e7,e2,e3,e4,lz,c',l0,l3,a1,a2,lT,zJ,oR,CQ,Vh,hy2,vw,wT,eh,hW1v,s1,s2,s3,go_sem,↓reduceIte,Nat.reduceEqDiff,Nat.reduceBEq,Nat.reduceAdd,Nat.reduceSub,Nat.reduceLT,Nat.reduceLeDiff,Int.reduceLT,Int.reduceLE,Int.reduceEq,Int.reduceToNat]
     repeat' (
       first | refine q5z ?_ ?_ | refine q3z ?_ ?_ | refine q4z ?_ ?_
       all_goals intro aj
       all_goals first | replace aj:=q2z aj | replace aj:=q1z aj | skip
       all_goals first | subst aj | replace au:=And.intro aj au
       all_goals try simp only[au,e7,e2,e3,e4,lz,c',l0,l3,a1,a2,lT,zJ,oR,CQ,Vh,hy2,vw,wT,eh,hW1v,s1,s2,s3,go_sem,↓reduceIte,Nat.reduceEqDiff,Nat.reduceBEq,Nat.reduceAdd,Nat.reduceSub,Nat.reduceLT,Nat.reduceLeDiff,Int.reduceLT,Int.reduceLE,Int.reduceEq,Int.reduceToNat])
     all_goals exact ⟨N - (i+1),by omega,i+1,rfl,by omega,rfl,rk _,by rw[O8],GV _,mY _⟩
    ·have c':¬((8 * i:Nat):Int)<((8 * N:Nat):Int):=by omega
     have:i=N:=by omega
     have au:(0:Nat)=0:=rfl
     try simp only[e7,e2,e3,e4,lz,c',go_sem,↓reduceIte,Nat.reduceEqDiff,Nat.reduceBEq,Nat.reduceAdd,Nat.reduceSub,Nat.reduceLT,Nat.reduceLeDiff,Int.reduceLT,Int.reduceLE,Int.reduceEq,Int.reduceToNat]
     repeat' (
       first | refine q5z ?_ ?_ | refine q3z ?_ ?_ | refine q4z ?_ ?_
       all_goals intro aj
       all_goals first | replace aj:=q2z aj | replace aj:=q1z aj | skip
       all_goals first | subst aj | replace au:=And.intro aj au
       all_goals try simp only[au,e7,e2,e3,e4,lz,c',go_sem,↓reduceIte,Nat.reduceEqDiff,Nat.reduceBEq,Nat.reduceAdd,Nat.reduceSub,Nat.reduceLT,Nat.reduceLeDiff,Int.reduceLT,Int.reduceLE,Int.reduceEq,Int.reduceToNat])
     all_goals (subst this;exact ⟨cR,cH,fw⟩)
   ·clear br cR cH fw e4
    rintro e H ⟨e2,e3,cR,cH,fw⟩
    have hXok:=vu P N
    generalize kG P N=X at cH rS hXok
    have au:(0:Nat)=0:=rfl
    try simp only[e2,e3,go_sem,↓reduceIte,Nat.reduceEqDiff,Nat.reduceBEq,Nat.reduceAdd,Nat.reduceSub,Nat.reduceLT,Nat.reduceLeDiff,Int.reduceLT,Int.reduceLE,Int.reduceEq,Int.reduceToNat]
    repeat' (
      first | refine q5z ?_ ?_ | refine q3z ?_ ?_ | refine q4z ?_ ?_
      all_goals intro aj
      all_goals first | replace aj:=q2z aj | replace aj:=q1z aj | skip
      all_goals first | subst aj | replace au:=And.intro aj au
      all_goals try simp only[au,e2,e3,go_sem,↓reduceIte,Nat.reduceEqDiff,Nat.reduceBEq,Nat.reduceAdd,Nat.reduceSub,Nat.reduceLT,Nat.reduceLeDiff,Int.reduceLT,Int.reduceLE,Int.reduceEq,Int.reduceToNat])
    refine bh (fun m e H'=>∃j,m=8 - j∧j≤8∧e 8= .s (.int .i64 (j:Nat))∧e 2= .ptr h.length [0] 1∧e 3= .ref (h.length+1) [] none 0 4 4∧H'[h.length]? =some (.cells (some 25) [.arr 25 lQ])∧H'[h.length+1]? =some (.cells none (dC X j).vs)∧Fw [] h H')
      (fun e H'=> e 2= .ptr h.length [0] 1∧e 3= .ref (h.length+1) [] none 0 4 4∧H'[h.length]? =some (.cells (some 25) [.arr 25 lQ])∧H'[h.length+1]? =some (.cells none (dC X 8).vs)∧Fw [] h H')
      8 _ _ ⟨0,rfl,by omega,rfl,e2,e3,cR,cH,fw⟩ ?_ ?_
    ·clear cR cH fw
     rintro m e H' ⟨j,rfl,hj,e8,e2,e3,cR,cH,fw⟩
     by_cases c:j < 8
     ·have c':(j:Int)< 8:=by omega
      have aR:=o3 h.length H' (h.length+1) (dC X j) (rN hXok j) cH
      have aR:run fns pr h.length 122 [.ref (h.length+1) [] none 0 4 4] H'=some (.bI [],H'.set (h.length+1) (.cells none (dC X (j+1)).vs)):=aR
      have oR:=q9z cH (b:= .cells none (dC X (j+1)).vs)
      have rk:(H'.set (h.length+1) (.cells none (dC X (j+1)).vs))[h.length]? =some (.cells (some 25) [.arr 25 lQ]):=by rw[List.getElem?_set_ne (by omega)];exact cR
      have mY:Fw [] h (H'.set (h.length+1) (.cells none (dC X (j+1)).vs)):=fw.cK (by omega) _
      have iy:IntKind.i64.wrap ((j:Int)+1)=((j+1:Nat):Int):=q18z (by omega)
      have au:(0:Nat)=0:=rfl
      try simp only[e8,e2,e3,c',aR,iy,go_sem,↓reduceIte,Nat.reduceEqDiff,Nat.reduceBEq,Nat.reduceAdd,Nat.reduceSub,Nat.reduceLT,Nat.reduceLeDiff,Int.reduceLT,Int.reduceLE,Int.reduceEq,Int.reduceToNat]
      repeat' (
        first | refine q5z ?_ ?_ | refine q3z ?_ ?_ | refine q4z ?_ ?_
        all_goals intro aj
        all_goals first | replace aj:=q2z aj | replace aj:=q1z aj | skip
        all_goals first | subst aj | replace au:=And.intro aj au
        all_goals try simp only[au,e8,e2,e3,c',aR,iy,go_sem,↓reduceIte,Nat.reduceEqDiff,Nat.reduceBEq,Nat.reduceAdd,Nat.reduceSub,Nat.reduceLT,Nat.reduceLeDiff,Int.reduceLT,Int.reduceLE,Int.reduceEq,Int.reduceToNat])
      all_goals exact ⟨8 - (j+1),by omega,j+1,rfl,by omega,rfl,rk,oR,mY⟩
     ·have c':¬(j:Int)< 8:=by omega
      have:j=8:=by omega
      subst this
      have au:(0:Nat)=0:=rfl
      try simp only[e8,e2,e3,c',go_sem,↓reduceIte,Nat.reduceEqDiff,Nat.reduceBEq,Nat.reduceAdd,Nat.reduceSub,Nat.reduceLT,Nat.reduceLeDiff,Int.reduceLT,Int.reduceLE,Int.reduceEq,Int.reduceToNat]
      repeat' (
        first | refine q5z ?_ ?_ | refine q3z ?_ ?_ | refine q4z ?_ ?_
        all_goals intro aj
        all_goals first | replace aj:=q2z aj | replace aj:=q1z aj | skip
        all_goals first | subst aj | replace au:=And.intro aj au
        all_goals try simp only[au,e8,e2,e3,c',go_sem,↓reduceIte,Nat.reduceEqDiff,Nat.reduceBEq,Nat.reduceAdd,Nat.reduceSub,Nat.reduceLT,Nat.reduceLeDiff,Int.reduceLT,Int.reduceLE,Int.reduceEq,Int.reduceToNat])
      all_goals exact ⟨cR,cH,fw⟩
    ·clear cR cH fw
     rintro e H ⟨e2,e3,cR,cH,fw⟩
     have hYok:=rN hXok 8
     generalize dC X 8=Y at cH rS hYok
     have au:(0:Nat)=0:=rfl
     try simp only[e2,e3,go_sem,↓reduceIte,Nat.reduceEqDiff,Nat.reduceBEq,Nat.reduceAdd,Nat.reduceSub,Nat.reduceLT,Nat.reduceLeDiff,Int.reduceLT,Int.reduceLE,Int.reduceEq,Int.reduceToNat]
     repeat' (
       first | refine q5z ?_ ?_ | refine q3z ?_ ?_ | refine q4z ?_ ?_
       all_goals intro aj
       all_goals first | replace aj:=q2z aj | replace aj:=q1z aj | skip
       all_goals first | subst aj | replace au:=And.intro aj au
       all_goals try simp only[au,e2,e3,go_sem,↓reduceIte,Nat.reduceEqDiff,Nat.reduceBEq,Nat.reduceAdd,Nat.reduceSub,Nat.reduceLT,Nat.reduceLeDiff,Int.reduceLT,Int.reduceLE,Int.reduceEq,Int.reduceToNat])
     have gh:h.length+1 < H.length:=q6z cH
     have hT:(H++[aV.cells (some 25) [.arr 25 lQ]])[H.length]? =_:=aM H [aV.cells (some 25) [.arr 25 lQ]]
     obtain ⟨o,ho⟩:∃o,H.length=o:=⟨_,rfl⟩
     refine bh (fun m e H'=>∃i,m=16 - i∧i≤16∧e 10= .s (.int .i64 (i:Nat))∧e 2= .ptr h.length [0] 1∧e 3= .ref (h.length+1) [] none 0 4 4∧e 9= .ptr o [0] 1∧H'[h.length]? =some (.cells (some 25) [.arr 25 lQ])∧H'[h.length+1]? =some (.cells none (kM Y i).vs)∧H'[o]? =some (.cells (some 25) [.arr 25 ((fg Y i++List.replicate (16 - i) 0).map aa)])∧Fw [] h H')
       (fun e H'=> e 2= .ptr h.length [0] 1∧e 9= .ptr o [0] 1∧H'[h.length]? =some (.cells (some 25) [.arr 25 lQ])∧H'[o]? =some (.cells (some 25) [.arr 25 ((fg Y 16).map aa)])∧Fw [] h H')
       16 _ _ ⟨0,rfl,by omega,rfl,e2,e3,by rw[←ho];rfl,q10z cR _,by rw[show kM Y 0=Y by simp[kM]];exact q10z cH _,by rw[←ho];exact hT,fw.trans (Fw.app _ _ _)⟩ ?_ ?_
     ·clear hT cR cH fw
      rintro m e H' ⟨i,rfl,hi,e10,e2,e3,e9,cR,cH,jc,fw⟩
      by_cases c:i < 16
      ·have c':(i:Int)< 16:=by omega
       have c16:(i:Int)<((16:Nat):Int):=by omega
       have i0:(0:Int)≤(i:Int):=by omega
       have hq:∀cf base h,aB cf base h (.bin .num .quo) [.s (.int .i64 i),.s (.int .i64 4)]=some (.s (.int .i64 ((i / 4:Nat):Int)),h):=fun cf base h=> by
         rw[xd cf base h .i64 _ 4 (by omega),Int.tdiv_eq_ediv_of_nonneg (by omega),wrap_i64 (by omega) (by omega)];rfl
       have hYv:(kM Y i).vs[i / 4]? =some (.s (.int .u32 (((kM Y i).at (i / 4):Nat):Int))):=by
         have:i / 4=0∨i / 4=1∨i / 4=2∨i / 4=3:=by omega
         rcases this with h | h | h | h <;> rw[h]<;> rfl
       have Hh:∀cf base h,aB cf base h (.bin .num .quo) [.s (.int .u32 (((kM Y i).at (i / 4):Nat):Int)),.s (.int .u32 256)]=some (.s (.int .u32 (((kM Y i).at (i / 4)/ 256:Nat):Int)),h):=fun cf base h=> by
         have bW:(kM Y i).at (i / 4)< 4294967296:=by
           rw[BI Y i c]
           refine Nat.lt_of_le_of_lt (Nat.div_le_self _ _) ?_
           have:i / 4=0∨i / 4=1∨i / 4=2∨i / 4=3:=by omega
           rcases this with h | h | h | h <;> rw[h]
           ·exact hYok.1
           ·exact hYok.2.1
           ·exact hYok.2.2.1
           ·exact hYok.2.2.2
         generalize (kM Y i).at (i / 4)=n at bW
         rw[xd cf base h .u32 _ 256 (by omega),Int.tdiv_eq_ediv_of_nonneg (by omega),wrap_u32 (by omega) (by omega)];rfl
       have hYl:(kM Y i).vs.length=4:=rfl
       have c4:((i / 4:Nat):Int)< 4:=by omega
       have c4':((i / 4:Nat):Int)<((4:Nat):Int):=by omega
       have j0:(0:Int)≤((i / 4:Nat):Int):=by omega
       have c4n:i / 4 < 4:=by omega
       have Bu:((fg Y i++List.replicate (16 - i) 0).map aa).length=16:=by rw[List.length_map,List.length_append,gL,List.length_replicate];omega
       obtain ⟨z,hz,hzt⟩:∃z,((fg Y i++List.replicate (16 - i) 0).map aa)[i]? =some z∧z.ty=none:=by
         refine ⟨aa ((fg Y i++List.replicate (16 - i) 0)[i]'(by rw[List.length_map] at Bu;omega)),?_,rfl⟩
         rw[List.getElem?_map,List.getElem?_eq_getElem (by rw[List.length_map] at Bu;omega)];rfl
       have aR:((fg Y i++List.replicate (16 - i) 0).map aa).set i (V.s (.int .u8 (IntKind.u8.wrap (((kM Y i).at (i / 4):Nat):Int))))=(fg Y (i+1)++List.replicate (16 - (i+1)) 0).map aa:=by
         rw[BH,BI Y i c,←List.map_set,List.set_append_right _ _ (by rw[gL];exact Nat.le_refl _),gL,Nat.sub_self,show 16 - i=(16 - (i+1))+1 by omega,List.replicate_succ,List.set_cons_zero,fg,List.append_assoc]
         rfl
       have rT:=C6 Y i c
       generalize (fg Y i++List.replicate (16 - i) 0).map aa=vs at jc Bu hz aR
       generalize XZ:(kM Y (i+1)).vs=vs1 at rT
       generalize (kM Y i).vs=vs0 at cH hYv hYl rT
       generalize Vi:(fg Y (i+1)++List.replicate (16 - (i+1)) 0).map aa=vo at aR
       have XW:h.length+1≠o:=by omega
       have YZ:o≠h.length+1:=by omega
       have XX:h.length≠o:=by omega
       have p1:∀c,(H'.set o c)[h.length+1]? =some (.cells none vs0):=fun c=> by rw[List.getElem?_set_ne (by omega)];exact cH
       have n0:∀c d,((H'.set o c).set (h.length+1) d)[h.length]? =some (.cells (some 25) [.arr 25 lQ]):=fun c d=> by rw[List.getElem?_set_ne (by omega),List.getElem?_set_ne (by omega)];exact cR
       have n1:∀c d,((H'.set o c).set (h.length+1) d)[h.length+1]? =some d:=fun c d=> q9z (p1 c)
       have n2:∀c d,((H'.set o c).set (h.length+1) d)[o]? =some c:=fun c d=> by rw[List.getElem?_set_ne (by omega)];exact q9z jc
       have nf:∀c d,Fw [] h ((H'.set o c).set (h.length+1) d):=fun c d=>(fw.cK (by omega) _).cK (by omega) _
       have iy:IntKind.i64.wrap ((i:Int)+1)=((i+1:Nat):Int):=q18z (by omega)
       have au:(0:Nat)=0:=rfl
       try simp only[e10,e2,e3,e9,c',c16,i0,hq,Hh,hYv,hYl,c4,c4',j0,c4n,Bu,hz,hzt,aR,rT,cR,cH,jc,p1,eh,iy,Int.toNat_natCast,go_sem,↓reduceIte,Nat.reduceEqDiff,Nat.reduceBEq,Nat.reduceAdd,Nat.reduceSub,Nat.reduceLT,Nat.reduceLeDiff,Int.reduceLT,Int.reduceLE,Int.reduceEq,Int.reduceToNat]
       repeat' (
         first | refine q5z ?_ ?_ | refine q3z ?_ ?_ | refine q4z ?_ ?_
         all_goals intro aj
         all_goals first | replace aj:=q2z aj | replace aj:=q1z aj | skip
         all_goals first | subst aj | replace au:=And.intro aj au
         all_goals try simp only[au,e10,e2,e3,e9,c',c16,i0,hq,Hh,hYv,hYl,c4,c4',j0,c4n,Bu,hz,hzt,aR,rT,cR,cH,jc,p1,eh,iy,Int.toNat_natCast,go_sem,↓reduceIte,Nat.reduceEqDiff,Nat.reduceBEq,Nat.reduceAdd,Nat.reduceSub,Nat.reduceLT,Nat.reduceLeDiff,Int.reduceLT,Int.reduceLE,Int.reduceEq,Int.reduceToNat])
       all_goals exact ⟨16 - (i+1),by omega,i+1,rfl,by omega,rfl,n0 _ _,by rw[XZ];exact n1 _ _,by rw[Vi];exact n2 _ _,nf _ _⟩
      ·have c':¬(i:Int)< 16:=by omega
       have:i=16:=by omega
       subst this
       rw[Nat.sub_self,List.replicate_zero,List.append_nil] at jc
       have au:(0:Nat)=0:=rfl
       try simp only[e10,e2,e3,e9,c',go_sem,↓reduceIte,Nat.reduceEqDiff,Nat.reduceBEq,Nat.reduceAdd,Nat.reduceSub,Nat.reduceLT,Nat.reduceLeDiff,Int.reduceLT,Int.reduceLE,Int.reduceEq,Int.reduceToNat]
       repeat' (
         first | refine q5z ?_ ?_ | refine q3z ?_ ?_ | refine q4z ?_ ?_
         all_goals intro aj
         all_goals first | replace aj:=q2z aj | replace aj:=q1z aj | skip
         all_goals first | subst aj | replace au:=And.intro aj au
         all_goals try simp only[au,e10,e2,e3,e9,c',go_sem,↓reduceIte,Nat.reduceEqDiff,Nat.reduceBEq,Nat.reduceAdd,Nat.reduceSub,Nat.reduceLT,Nat.reduceLeDiff,Int.reduceLT,Int.reduceLE,Int.reduceEq,Int.reduceToNat])
       all_goals exact ⟨cR,jc,fw⟩
     ·clear hT cR cH fw
      rintro e H' ⟨e2,e9,cR,jc,fw⟩
      have eA:∀c,(H'.set h.length c).take h.length=h:=fun c=>(fw.cK (Nat.le_refl _) c).take
      have oR:∀c,(H'.set h.length c)[h.length]? =some c:=fun c=> q9z cR
      rw[←rS] at jc
      have df:∀n h,bA.all n h ((cS l).map aa)=some ((cS l).map aa):=fun n h=> qy n h (cS l)
      generalize (cS l).map aa=ws at jc df
      have au:(0:Nat)=0:=rfl
      try simp only[e2,e9,cR,jc,eA,oR,eh,df,go_sem,↓reduceIte,Nat.reduceEqDiff,Nat.reduceBEq,Nat.reduceAdd,Nat.reduceSub,Nat.reduceLT,Nat.reduceLeDiff,Int.reduceLT,Int.reduceLE,Int.reduceEq,Int.reduceToNat]
      repeat' (
        first | refine q5z ?_ ?_ | refine q3z ?_ ?_ | refine q4z ?_ ?_
        all_goals intro aj
        all_goals first | replace aj:=q2z aj | replace aj:=q1z aj | skip
        all_goals first | subst aj | replace au:=And.intro aj au
        all_goals try simp only[au,e2,e9,cR,jc,eA,oR,eh,df,go_sem,↓reduceIte,Nat.reduceEqDiff,Nat.reduceBEq,Nat.reduceAdd,Nat.reduceSub,Nat.reduceLT,Nat.reduceLeDiff,Int.reduceLT,Int.reduceLE,Int.reduceEq,Int.reduceToNat])
end Go.Proofs.YtannfageakbpmaaGreat
namespace Go.Vm
theorem zU {h:Hp} {j t:Nat} {g:Option Nat} {l:List UInt8} (hg:h[j]? =some (.cells g [.arr t (l.map aa)])):elems h (.ref j [0] none 0 l.length 1)=some (none,l.map aa):=by
 simp only[elems,Vm.rowAt,node,rowOf,hg,nodeAt,List.length_cons,List.length_nil,if_true,List.getElem?_cons_zero,Option.map_some,List.drop_zero,o4]
end Go.Vm
namespace Go.Proofs.YtannfageakbpmaaGreat
open Go Go.Vm Go.Proofs Go.Cl
set_option maxRecDepth 100000
def aH (id:Bs):Nat:=((cS id).getD 0 0).toNat % 16
theorem kN (id:Bs):aH id < 16:=Nat.mod_lt _ (by decide)
theorem KK (b:Nat) (x:V) (h:Hp):run fns pr b 60 [x] h=wV [x] h:=by
 rw[nZ fns pr rfl];rfl
theorem KL (b:Nat) {h:Hp} {j t:Nat} {g:Option Nat} {l:Bs} (hg:h[j]? =some (.cells g [.arr t (l.map aa)])) (hl:l.length≤1000000):run fns pr b 60 [.ref j [0] none 0 l.length 1] h=some (.arr 25 ((cS l).map aa),h):=by
 rw[KK];exact Br (Rd.mk' (zU hg) rfl) hl
theorem X1 (l:Bs):∃u:Nat,u < 256∧((cS l).map aa)[0]? =some (.s (.int .u8 u))∧((cS l).getD 0 0).toNat=u:=by
 have h:=bj l
 refine ⟨((cS l).getD 0 0).toNat,UInt8.toNat_lt _,?_,rfl⟩
 rw[List.getElem?_map,List.getD,List.getElem?_eq_getElem (by omega)]
 rfl
theorem kO (b:Nat) (h:Hp) (id:Bs) (hl:id.length≤1000000):run fns pr b 63 [.arr 27 (id.map aa)] h=some (.s (.int .i64 (aH id:Nat)),h):=by
 refine Vm.aU (nt:=8) rfl Tv (by simp) ?_
 have hs:=KL h.length (h:=h++[.cells (some 27) [.arr 27 (id.map aa)]]) (aM _ _) hl
 obtain ⟨u,hu,h0,he⟩:=X1 id
 have hlen:((cS id).map aa).length=16:=by rw[List.length_map,bj]
 have hr:∀cf base h,aB cf base h (.bin .num .rem) [.s (.int .u8 (u:Int)),.s (.int .u8 16)]=some (.s (.int .u8 ((u % 16:Nat):Int)),h):=fun cf base h=> by
   rw[lY cf base h .u8 _ 16 (by omega),Int.tmod_eq_emod_of_nonneg (by omega)];rfl
 have hw:IntKind.i64.wrap ((u % 16:Nat):Int)=((u % 16:Nat):Int):=wrap_i64 (by omega) (by omega)
 have j4:aH id=u % 16:=by rw[aH,he]
 generalize (cS id).map aa=ws at hs h0 hlen
 rw[j4]
 have hix:∀cf base h,aB cf base h (.idx 25) [.arr 25 ws,.s (.int .i64 0)]=some (.s (.int .u8 u),h):=fun cf base h=> by
   have h1:(0:Int)<((16:Nat):Int):=by decide
   simp only[aB,qz,numOf,hlen,h0,h1,Int.le_refl,and_self,if_true,Int.toNat_zero,Option.map_some]
 have au:(0:Nat)=0:=rfl
 try simp only[B63,hs,hix,hr,hw,go_sem,↓reduceIte,Nat.reduceEqDiff,Nat.reduceBEq,Nat.reduceAdd,Nat.reduceSub,Nat.reduceLT,Nat.reduceLeDiff,Int.reduceLT,Int.reduceLE,Int.reduceEq,Int.reduceToNat]
 repeat' (
   first | refine q5z ?_ ?_ | refine q3z ?_ ?_ | refine q4z ?_ ?_
   all_goals intro aj
   all_goals first | replace aj:=q2z aj | replace aj:=q1z aj | skip
   all_goals first | subst aj | replace au:=And.intro aj au
   all_goals try simp only[au,B63,hs,hix,hr,hw,go_sem,↓reduceIte,Nat.reduceEqDiff,Nat.reduceBEq,Nat.reduceAdd,Nat.reduceSub,Nat.reduceLT,Nat.reduceLeDiff,Int.reduceLT,Int.reduceLE,Int.reduceEq,Int.reduceToNat])
theorem BK (b:Nat) (x y:V) (h:Hp):run fns pr b 98 [x,y] h=Hi (elems h x) (elems h y) h:=by
 rw[nZ fns pr rfl];exact G8 _ _ _
theorem kP (b:Nat) (vs:List V) (h:Hp):run fns pr b 97 vs h=eP (some 31) 96 vs h:=by
 rw[nZ fns pr rfl];rfl
theorem kQ (l:List ag):V.plain.all (l.map ag.enc)=true:=by
 induction l with
 | nil=> rfl
 | cons v l ih=> simp only[List.map_cons,r9,ih,ag.enc,go_sem]
def TR (h:Hp) (t k:Nat) (l:List ag):Prop:=
 ∃x,h[t]? =some (.cells (some 146) [.st 146 [x]])∧
  ((x= .al true (some 31) []∧l=[]∧k=t)∨(x= .ref k [] (some 31) 0 l.length l.length∧k≠t∧h[k]? =some (.cells (some 31) (l.map ag.enc))))
theorem TR.mono {S:List Nat} {h h':Hp} {t k:Nat} {l:List ag} (ho:TR h t k l) (f:Fw S h h') (hi:t∉S) (hk:k∉S):TR h' t k l:=by
 obtain ⟨x,h1,h2⟩:=ho
 refine ⟨x,f.dw _ _ h1 hi,?_⟩
 rcases h2 with h2 | ⟨a,b,c⟩
 ·exact .inl h2
 ·exact .inr ⟨a,b,f.dw _ _ c hk⟩
theorem TR.lt {h:Hp} {t k:Nat} {l:List ag} (ho:TR h t k l):t < h.length∧k < h.length:=by
 obtain ⟨x,h1,h2⟩:=ho
 refine ⟨q6z h1,?_⟩
 rcases h2 with ⟨_,_,rfl⟩ | ⟨_,_,h3⟩
 ·exact q6z h1
 ·exact q6z h3
theorem KM (b:Nat) (h:Hp) (t k:Nat) (l:List ag) (ho:TR h t k l):run fns pr b 86 [.ptr t [0] 1] h=some (.s (.int .i64 l.length),h):=by
 refine Vm.aU (nt:=8) rfl Uh (by simp) ?_
 obtain ⟨x,h1,⟨rfl,rfl,rfl⟩ | ⟨rfl,h2,h3⟩⟩:=ho
 ·have au:(0:Nat)=0:=rfl
  try simp only[B86,h1,go_sem,↓reduceIte,Nat.reduceEqDiff,Nat.reduceBEq,Nat.reduceAdd,Nat.reduceSub,Nat.reduceLT,Nat.reduceLeDiff,Int.reduceLT,Int.reduceLE,Int.reduceEq,Int.reduceToNat]
  repeat' (
    first | refine q5z ?_ ?_ | refine q3z ?_ ?_ | refine q4z ?_ ?_
    all_goals intro aj
    all_goals first | replace aj:=q2z aj | replace aj:=q1z aj | skip
    all_goals first | subst aj | replace au:=And.intro aj au
    all_goals try simp only[au,B86,h1,go_sem,↓reduceIte,Nat.reduceEqDiff,Nat.reduceBEq,Nat.reduceAdd,Nat.reduceSub,Nat.reduceLT,Nat.reduceLeDiff,Int.reduceLT,Int.reduceLE,Int.reduceEq,Int.reduceToNat])
  all_goals rfl
 ·have au:(0:Nat)=0:=rfl
  try simp only[B86,h1,go_sem,↓reduceIte,Nat.reduceEqDiff,Nat.reduceBEq,Nat.reduceAdd,Nat.reduceSub,Nat.reduceLT,Nat.reduceLeDiff,Int.reduceLT,Int.reduceLE,Int.reduceEq,Int.reduceToNat]
  repeat' (
    first | refine q5z ?_ ?_ | refine q3z ?_ ?_ | refine q4z ?_ ?_
    all_goals intro aj
    all_goals first | replace aj:=q2z aj | replace aj:=q1z aj | skip
    all_goals first | subst aj | replace au:=And.intro aj au
    all_goals try simp only[au,B86,h1,go_sem,↓reduceIte,Nat.reduceEqDiff,Nat.reduceBEq,Nat.reduceAdd,Nat.reduceSub,Nat.reduceLT,Nat.reduceLeDiff,Int.reduceLT,Int.reduceLE,Int.reduceEq,Int.reduceToNat])
theorem rm (b:Nat) (h:Hp) (f:Bool) (v:ag) (hl:v.bY.length≤140737488355328):run fns pr b 82 [v.gk f] h=some (v.enc,h):=by
 refine Vm.aU (nt:=8) rfl T9 (by simp) ?_
 obtain ⟨a1,a2,a3,a4,a5,a6,a7,a8,a9⟩:=v
 simp only at hl
 have hc:=fun h0=> xj (h:=h0) (cY h0 f a4) hl
 have cl:∀A B C D,bA h.length (h++A::B::ct a4) (cv (h++[C,D]) a4)=some (.al false none (a4.map aa)):=fun A B C D=> by
   have:=KN h.length (h++[C,D]) (h++[A,B]) a4 (by simp) (by simp)
   rwa [List.append_assoc] at this
 simp only[B82,ag.gk,ag.enc,iG,hc,M8,xk,cl,List.take_left,go_sem,↓reduceIte,Nat.reduceEqDiff,Nat.reduceBEq,Nat.reduceAdd,Nat.reduceSub,Nat.reduceLT,Nat.reduceLeDiff,Int.reduceLT,Int.reduceLE,Int.reduceEq,Int.reduceToNat]
theorem Hj (b:Nat) (h:Hp) (v:ag) (id:Bs):run fns pr b 112 [v.enc,.arr 27 (id.map aa)] h=some (.s (.int .i64 (cP v.iD id)),h):=by
 refine Vm.aU (nt:=9) rfl N8 (by simp) ?_
 have hc:=fun x y h0=> BK h.length x y h0
 have au:(0:Nat)=0:=rfl
 try simp only[Kh,ag.enc,hc,go_sem,↓reduceIte,Nat.reduceEqDiff,Nat.reduceBEq,Nat.reduceAdd,Nat.reduceSub,Nat.reduceLT,Nat.reduceLeDiff,Int.reduceLT,Int.reduceLE,Int.reduceEq,Int.reduceToNat]
 repeat' (
   first | refine q5z ?_ ?_ | refine q3z ?_ ?_ | refine q4z ?_ ?_
   all_goals intro aj
   all_goals first | replace aj:=q2z aj | replace aj:=q1z aj | skip
   all_goals first | subst aj | replace au:=And.intro aj au
   all_goals try simp only[au,Kh,ag.enc,hc,go_sem,↓reduceIte,Nat.reduceEqDiff,Nat.reduceBEq,Nat.reduceAdd,Nat.reduceSub,Nat.reduceLT,Nat.reduceLeDiff,Int.reduceLT,Int.reduceLE,Int.reduceEq,Int.reduceToNat])
theorem C7 (b:Nat) (h:Hp) (x:V) (l:List ag) (id:Bs) (hx:SR h x (some 31) (l.map ag.enc)) (hr:gO l) (hl:l.length≤1000):
 run fns pr b 111 [x,.arr 27 (id.map aa),.fn 112 []] h=some (.bI [.s (.int .i64 (pos l id)),.s (.bool (decide ((l[pos l id]?).map ag.iD=some id)))],h):=by
 refine Vm.aU (nt:=49) rfl N6 (by simp) ?_
 have hlen:=fun cf base h0=> hx.cE (cf:=cf) (base:=base) (h:=h0)
 simp only[List.length_map] at hlen
 have nw:SR (h++[.cells (some 27) [.arr 27 (id.map aa)]]) x (some 31) (l.map ag.enc):=hx.app _
 generalize hH:h++[.cells (some 27) [.arr 27 (id.map aa)]]=H at nw
 have hHl:H[h.length]? =some (.cells (some 27) [.arr 27 (id.map aa)]):=by rw[←hH];exact aM _ _
 have hHt:H.take h.length=h:=by rw[←hH];simp
 have hp:=He l id
 have KO:=fun cf base k (i:Nat) hi=> nw.cX (cf:=cf) (base:=base) (k:=k) (i:=i) hi
 have GU:=fun cf base (i:Nat) (v:ag) (hv:l[i]? =some v)=> nw.g8 (cf:=cf) (base:=base) (i:=i) (v:=v.enc) (by rw[List.getElem?_map,hv];rfl) rfl
 have hf:=fun h0 v=> Hj h.length h0 v id
 simp only[List.length_map] at KO
 have au:(0:Nat)=0:=rfl
 try simp only[Kg,zu,zt,hlen,hH,go_sem,↓reduceIte,Nat.reduceEqDiff,Nat.reduceBEq,Nat.reduceAdd,Nat.reduceSub,Nat.reduceLT,Nat.reduceLeDiff,Int.reduceLT,Int.reduceLE,Int.reduceEq,Int.reduceToNat]
 repeat' (
   first | refine q5z ?_ ?_ | refine q3z ?_ ?_ | refine q4z ?_ ?_
   all_goals intro aj
   all_goals first | replace aj:=q2z aj | replace aj:=q1z aj | skip
   all_goals first | subst aj | replace au:=And.intro aj au
   all_goals try simp only[au,Kg,zu,zt,hlen,hH,go_sem,↓reduceIte,Nat.reduceEqDiff,Nat.reduceBEq,Nat.reduceAdd,Nat.reduceSub,Nat.reduceLT,Nat.reduceLeDiff,Int.reduceLT,Int.reduceLE,Int.reduceEq,Int.reduceToNat])
 refine bh (fun m e hh=>∃i j:Nat,m=j - i∧i≤pos l id∧pos l id≤j∧j≤l.length∧e 9= .s (.int .i64 i)∧e 10= .s (.int .i64 j)∧e 8= .s (.int .i64 l.length)∧e 0=x∧e 2= .fn 112 []∧e 4= .ptr h.length [0] 1∧hh=H)
   (fun e hh=> e 9= .s (.int .i64 (pos l id))∧e 8= .s (.int .i64 l.length)∧e 0=x∧e 2= .fn 112 []∧e 4= .ptr h.length [0] 1∧hh=H) l.length _ _ ⟨0,l.length,by omega,by omega,hp,by omega,?_,?_,?_,?_,?_,?_,rfl⟩ ?_ ?_
 rotate_right 2
 ·rintro m e hh ⟨i,j,rfl,h1,h2,h3,e9,e10,e8,e0',e2,e4,rfl⟩
  by_cases c:i < j
  ·have c':(i:Int)< j:=by omega
   have lT:IntKind.i64.wrap ((i:Int)+j)=(i:Int)+j:=wrap_i64 (by omega) (by omega)
   have vw:IntKind.u64.wrap ((i:Int)+j)=(i:Int)+j:=wrap_u64 (by omega) (by omega)
   have xc:=fun cf base h=> oQ (cf:=cf) (base:=base) (h:=h) .u64 .u64 ((i:Int)+j) 1 (by decide)
   have Pm:=fun cf base h=> oQ (cf:=cf) (base:=base) (h:=h) .u64 .i64 ((i:Int)+j) 1 (by decide)
   have hs:pG .u64 ((i:Int)+j) 1=(((i+j)/ 2:Nat):Int):=by
     simp only[pG,show min (Int.toNat 1) IntKind.u64.bits=1 from rfl]
     rw[Int.fdiv_eq_ediv_of_nonneg _ (by decide)];omega
   have hw3:IntKind.i64.wrap (((i+j)/ 2:Nat):Int)=(((i+j)/ 2:Nat):Int):=wrap_i64 (by omega) (by omega)
   obtain ⟨t,ht⟩:∃t,t=(i+j)/ 2:=⟨_,rfl⟩
   rw[←ht] at hs hw3
   have hti:i≤t:=by omega
   have htj:t < j:=by omega
   have tF:t < l.length:=by omega
   have hv:l[t]? =some l[t]:=List.getElem?_eq_getElem tF
   generalize l[t]=v at hv
   have bW:=Hf hr hv (id:=id)
   have fi:=fun cf base k=> KO cf base k t tF
   have gh:=fun cf base=> GU cf base t v hv
   have hw4:IntKind.i64.wrap ((t:Int)+1)=((t+1:Nat):Int):=q18z (by omega)
   have au:(0:Nat)=0:=rfl
   try simp only[e9,e10,e8,e0',e2,e4,c',lT,vw,xc,Pm,hs,hw3,fi,gh,hHl,hf,hw4,List.getElem?_cons_zero,go_sem,↓reduceIte,Nat.reduceEqDiff,Nat.reduceBEq,Nat.reduceAdd,Nat.reduceSub,Nat.reduceLT,Nat.reduceLeDiff,Int.reduceLT,Int.reduceLE,Int.reduceEq,Int.reduceToNat]
   repeat' (
     first | refine q5z ?_ ?_ | refine q3z ?_ ?_ | refine q4z ?_ ?_
     all_goals intro aj
     all_goals first | replace aj:=q2z aj | replace aj:=q1z aj | skip
     all_goals first | subst aj | replace au:=And.intro aj au
     all_goals try simp only[au,e9,e10,e8,e0',e2,e4,c',lT,vw,xc,Pm,hs,hw3,fi,gh,hHl,hf,hw4,List.getElem?_cons_zero,go_sem,↓reduceIte,Nat.reduceEqDiff,Nat.reduceBEq,Nat.reduceAdd,Nat.reduceSub,Nat.reduceLT,Nat.reduceLeDiff,Int.reduceLT,Int.reduceLE,Int.reduceEq,Int.reduceToNat])
   all_goals clear KO GU fi gh hf hlen xc Pm
   ·simp only[decide_eq_true_eq] at au
    exact ⟨j - (t+1),by omega,t+1,j,rfl,by omega,h2,h3,rfl,rfl⟩
   ·simp only[decide_eq_false_iff_not] at au
    exact ⟨t - i,by omega,i,t,rfl,h1,by omega,by omega,rfl,rfl⟩
  ·have c':¬(i:Int)< j:=by omega
   obtain rfl:i=pos l id:=by omega
   have au:(0:Nat)=0:=rfl
   try simp only[e9,e10,e8,e0',e2,e4,c',go_sem,↓reduceIte,Nat.reduceEqDiff,Nat.reduceBEq,Nat.reduceAdd,Nat.reduceSub,Nat.reduceLT,Nat.reduceLeDiff,Int.reduceLT,Int.reduceLE,Int.reduceEq,Int.reduceToNat]
   repeat' (
     first | refine q5z ?_ ?_ | refine q3z ?_ ?_ | refine q4z ?_ ?_
     all_goals intro aj
     all_goals first | replace aj:=q2z aj | replace aj:=q1z aj | skip
     all_goals first | subst aj | replace au:=And.intro aj au
     all_goals try simp only[au,e9,e10,e8,e0',e2,e4,c',go_sem,↓reduceIte,Nat.reduceEqDiff,Nat.reduceBEq,Nat.reduceAdd,Nat.reduceSub,Nat.reduceLT,Nat.reduceLeDiff,Int.reduceLT,Int.reduceLE,Int.reduceEq,Int.reduceToNat])
 ·rintro e hh ⟨e9,e8,e0',e2,e4,rfl⟩
  by_cases c:pos l id < l.length
  ·have c':(pos l id:Int)< l.length:=by omega
   have hv:l[pos l id]? =some l[pos l id]:=List.getElem?_eq_getElem c
   generalize l[pos l id]=v at hv
   have fi:=fun cf base k=> KO cf base k _ c
   have gh:=fun cf base=> GU cf base _ v hv
   have hz:decide (v.iD=id)=decide (cP v.iD id=0):=by
     rw[decide_eq_decide]
     exact ⟨fun h=> by rw[h];exact j3 _,mi _ _⟩
   have au:(0:Nat)=0:=rfl
   try simp only[e9,e8,e0',e2,e4,c',hv,fi,gh,hHl,hHt,hf,hz,List.getElem?_cons_zero,Option.map_some,go_sem,↓reduceIte,Nat.reduceEqDiff,Nat.reduceBEq,Nat.reduceAdd,Nat.reduceSub,Nat.reduceLT,Nat.reduceLeDiff,Int.reduceLT,Int.reduceLE,Int.reduceEq,Int.reduceToNat]
   repeat' (
     first | refine q5z ?_ ?_ | refine q3z ?_ ?_ | refine q4z ?_ ?_
     all_goals intro aj
     all_goals first | replace aj:=q2z aj | replace aj:=q1z aj | skip
     all_goals first | subst aj | replace au:=And.intro aj au
     all_goals try simp only[au,e9,e8,e0',e2,e4,c',hv,fi,gh,hHl,hHt,hf,hz,List.getElem?_cons_zero,Option.map_some,go_sem,↓reduceIte,Nat.reduceEqDiff,Nat.reduceBEq,Nat.reduceAdd,Nat.reduceSub,Nat.reduceLT,Nat.reduceLeDiff,Int.reduceLT,Int.reduceLE,Int.reduceEq,Int.reduceToNat])
  ·have c':¬(pos l id:Int)< l.length:=by omega
   have hv:l[pos l id]? =none:=List.getElem?_eq_none (by omega)
   have au:(0:Nat)=0:=rfl
   try simp only[e9,e8,e0',e2,e4,c',hv,hHt,Option.map_none,go_sem,↓reduceIte,Nat.reduceEqDiff,Nat.reduceBEq,Nat.reduceAdd,Nat.reduceSub,Nat.reduceLT,Nat.reduceLeDiff,Int.reduceLT,Int.reduceLE,Int.reduceEq,Int.reduceToNat]
   repeat' (
     first | refine q5z ?_ ?_ | refine q3z ?_ ?_ | refine q4z ?_ ?_
     all_goals intro aj
     all_goals first | replace aj:=q2z aj | replace aj:=q1z aj | skip
     all_goals first | subst aj | replace au:=And.intro aj au
     all_goals try simp only[au,e9,e8,e0',e2,e4,c',hv,hHt,Option.map_none,go_sem,↓reduceIte,Nat.reduceEqDiff,Nat.reduceBEq,Nat.reduceAdd,Nat.reduceSub,Nat.reduceLT,Nat.reduceLeDiff,Int.reduceLT,Int.reduceLE,Int.reduceEq,Int.reduceToNat])
   all_goals simp
 all_goals rfl
theorem BL (b:Nat) (h:Hp) (t k:Nat) (l:List ag) (id:Bs) (ho:TR h t k l) (hr:gO l) (hl:l.length≤1000):
 run fns pr b 96 [.ptr t [0] 1,.arr 27 (id.map aa)] h=some (.bI [.s (.int .i64 (pos l id)),.s (.bool (decide ((l[pos l id]?).map ag.iD=some id)))],h):=by
 refine Vm.aU (nt:=14) rfl Ux (by simp) ?_
 obtain ⟨x,h1,hh⟩:=ho
 have hx:SR h x (some 31) (l.map ag.enc):=by
   rcases hh with ⟨rfl,rfl,_⟩ | ⟨rfl,_,h3⟩
   ·exact .inl ⟨_,rfl⟩
   ·exact kJ h3 (by simp)
 have du:=hx.ty
 have hs:=fun t'=> C7 h.length (h++t') x l id (hx.app t') hr hl
 have hg:=fun t'=> q10z h1 t'
 have au:(0:Nat)=0:=rfl
 try simp only[B96,hs,hg,du,go_sem,↓reduceIte,Nat.reduceEqDiff,Nat.reduceBEq,Nat.reduceAdd,Nat.reduceSub,Nat.reduceLT,Nat.reduceLeDiff,Int.reduceLT,Int.reduceLE,Int.reduceEq,Int.reduceToNat]
 repeat' (
   first | refine q5z ?_ ?_ | refine q3z ?_ ?_ | refine q4z ?_ ?_
   all_goals intro aj
   all_goals first | replace aj:=q2z aj | replace aj:=q1z aj | skip
   all_goals first | subst aj | replace au:=And.intro aj au
   all_goals try simp only[au,B96,hs,hg,du,go_sem,↓reduceIte,Nat.reduceEqDiff,Nat.reduceBEq,Nat.reduceAdd,Nat.reduceSub,Nat.reduceLT,Nat.reduceLeDiff,Int.reduceLT,Int.reduceLE,Int.reduceEq,Int.reduceToNat])
def oh (l:List ag) (id:Bs):Option ag:=if (l[pos l id]?).map ag.iD=some id then l[pos l id]? else none
theorem KP (b:Nat) (h:Hp) (t k:Nat) (l:List ag) (id:Bs) (ho:TR h t k l) (hr:gO l) (hl:l.length≤1000) (hs:∀v∈l,v.bY.length≤64):
 run fns pr b 85 [.ptr t [0] 1,.arr 27 (id.map aa)] h=some (.bI [((oh l id).getD zeroV).enc,.s (.bool (oh l id).isSome)],h):=by
 refine Vm.aU (nt:=25) rfl Uf (by simp) ?_
 have hf:=fun t'=> BL h.length (h++t') t k l id (ho.mono (Fw.app [] h t') (by simp) (by simp)) hr hl
 obtain ⟨x,h1,hh⟩:=ho
 have hx:SR h x (some 31) (l.map ag.enc):=by
   rcases hh with ⟨rfl,rfl,_⟩ | ⟨rfl,_,h3⟩
   ·exact .inl ⟨_,rfl⟩
   ·exact kJ h3 (by simp)
 have du:=hx.ty
 have hg:=fun t'=> q10z h1 t'
 unfold oh
 by_cases c:(l[pos l id]?).map ag.iD=some id
 ·rw[if_pos c]
  cases hv:l[pos l id]? with
  | none=> rw[hv] at c;cases c
  | some v=>
    have bW:=(List.getElem?_eq_some_iff.1 hv).1
    have sa:=hs v (List.mem_of_getElem? hv)
    have fi:=fun cf base t'=>(hx.app t').cX (cf:=cf) (base:=base) (k:= .i64) (i:=pos l id) (by simpa using bW)
    have gh:=fun cf base t'=>(hx.app t').g8 (cf:=cf) (base:=base) (i:=pos l id) (v:=v.enc) (by rw[List.getElem?_map,hv];rfl) rfl
    have nm:=fun h0=> rm h.length h0 false v (by omega)
    rw[←ag.lE] at nm
    have au:(0:Nat)=0:=rfl
    try simp only[B85,hf,hg,du,c,fi,gh,nm,aX,aY,vz,Option.getD_some,Option.isSome_some,go_sem,↓reduceIte,Nat.reduceEqDiff,Nat.reduceBEq,Nat.reduceAdd,Nat.reduceSub,Nat.reduceLT,Nat.reduceLeDiff,Int.reduceLT,Int.reduceLE,Int.reduceEq,Int.reduceToNat]
    repeat' (
      first | refine q5z ?_ ?_ | refine q3z ?_ ?_ | refine q4z ?_ ?_
      all_goals intro aj
      all_goals first | replace aj:=q2z aj | replace aj:=q1z aj | skip
      all_goals first | subst aj | replace au:=And.intro aj au
      all_goals try simp only[au,B85,hf,hg,du,c,fi,gh,nm,aX,aY,vz,Option.getD_some,Option.isSome_some,go_sem,↓reduceIte,Nat.reduceEqDiff,Nat.reduceBEq,Nat.reduceAdd,Nat.reduceSub,Nat.reduceLT,Nat.reduceLeDiff,Int.reduceLT,Int.reduceLE,Int.reduceEq,Int.reduceToNat])
 ·rw[if_neg c]
  have au:(0:Nat)=0:=rfl
  try simp only[B85,hf,hg,du,c,iz,ef,go_sem,↓reduceIte,Nat.reduceEqDiff,Nat.reduceBEq,Nat.reduceAdd,Nat.reduceSub,Nat.reduceLT,Nat.reduceLeDiff,Int.reduceLT,Int.reduceLE,Int.reduceEq,Int.reduceToNat]
  repeat' (
    first | refine q5z ?_ ?_ | refine q3z ?_ ?_ | refine q4z ?_ ?_
    all_goals intro aj
    all_goals first | replace aj:=q2z aj | replace aj:=q1z aj | skip
    all_goals first | subst aj | replace au:=And.intro aj au
    all_goals try simp only[au,B85,hf,hg,du,c,iz,ef,go_sem,↓reduceIte,Nat.reduceEqDiff,Nat.reduceBEq,Nat.reduceAdd,Nat.reduceSub,Nat.reduceLT,Nat.reduceLeDiff,Int.reduceLT,Int.reduceLE,Int.reduceEq,Int.reduceToNat])
  rfl
theorem iN (v:ag):v.enc.ground=true:=by
 have:v.enc.plain=true:=by simp only[ag.enc,go_sem]
 exact kL _ this
def o5 (l:List ag) (v:ag):Int×List ag:=
 if aP v=false then (1,l) else if (l[pos l v.iD]?).map ag.iD=some v.iD then (0,l.set (pos l v.iD) v) else if 4≤l.length then (13,l) else (0,l.take (pos l v.iD)++[v]++l.drop (pos l v.iD))
theorem KQ (b:Nat) (h:Hp) (t k:Nat) (l:List ag) (v:ag) (hb:b≤t) (ho:TR h t k l) (hr:gO l) (hl:l.length≤4):
 ∃h' k',run fns pr b 64 [.ptr t [0] 1,v.enc] h=some (.s (.int .i64 (o5 l v).1),h')∧TR h' t k' (o5 l v).2∧Fw [t,k] h h'∧(k'=k∨h.length≤k'):=by
 have hf:=fun t'=> BL b (h++t') t k l v.iD (ho.mono (Fw.app [] h t') (by simp) (by simp)) hr (by omega)
 have jC:=fun h0 f=> fH b h0 f v
 have nm:=fun hs h0=> rm b h0 false v hs
 simp only[←ag.lE] at nm
 have ny:=fun h0=> jC h0 false
 simp only[←ag.lE] at ny
 have tF:=ho.lt
 unfold o5
 cases hv:aP v with
 | false=>
   rw[if_pos rfl]
   suffices h:∃w h',run fns pr b 64 [.ptr t [0] 1,v.enc] h=some (w,h')∧w= .s (.int .i64 1)∧h'=h++[.cells (some 31) [v.enc]] by
     obtain ⟨w,h',e,rfl,rfl⟩:=h
     exact ⟨_,k,e,ho.mono (Fw.app [] h _) (by simp) (by simp),Fw.app _ _ _,.inl rfl⟩
   refine Vm.dZ (nt:=47) rfl wO (by simp) ?_
   simp only[ag.enc] at hf ny ⊢
   have au:(0:Nat)=0:=rfl
   try simp only[Fy,hf,ny,hv,go_sem,↓reduceIte,Nat.reduceEqDiff,Nat.reduceBEq,Nat.reduceAdd,Nat.reduceSub,Nat.reduceLT,Nat.reduceLeDiff,Int.reduceLT,Int.reduceLE,Int.reduceEq,Int.reduceToNat]
   repeat' (
     first | refine q5z ?_ ?_ | refine q3z ?_ ?_ | refine q4z ?_ ?_
     all_goals intro aj
     all_goals first | replace aj:=q2z aj | replace aj:=q1z aj | skip
     all_goals first | subst aj | replace au:=And.intro aj au
     all_goals try simp only[au,Fy,hf,ny,hv,go_sem,↓reduceIte,Nat.reduceEqDiff,Nat.reduceBEq,Nat.reduceAdd,Nat.reduceSub,Nat.reduceLT,Nat.reduceLeDiff,Int.reduceLT,Int.reduceLE,Int.reduceEq,Int.reduceToNat])
 | true=>
   have hs:=q14z hv
   have vC:=nm (by omega)
   rw[if_neg (by simp)]
   obtain ⟨x,h1,hh⟩:=ho
   have hg:=fun t'=> q10z h1 t'
   have aR:=fun t' b'=> m0 tF.1 t' b'
   have gr:=iN v
   by_cases c1:(l[pos l v.iD]?).map ag.iD=some v.iD
   ·rw[if_pos c1]
    rcases hh with ⟨rfl,rfl,rfl⟩ | ⟨rfl,BM,h3⟩
    ·simp at c1
    ·have bW:pos l v.iD < l.length:=by
       cases hp:l[pos l v.iD]? with
       | none=> rw[hp] at c1;cases c1
       | some w=> exact (List.getElem?_eq_some_iff.1 hp).1
     have xl:=fun t'=> q10z h3 t'
     have Pn:=fun t' b'=> m0 tF.2 t' b'
     have Hk:(pos l v.iD:Int)< l.length:=by omega
     have C8:(0:Int)≤pos l v.iD:=by omega
     have bP:(l.map ag.enc)[pos l v.iD]? =some (l[pos l v.iD]).enc:=by rw[List.getElem?_map,List.getElem?_eq_getElem bW];rfl
     have du:(l[pos l v.iD]).enc.ty=some 31:=rfl
     generalize hpp:pos l v.iD=p at *
     suffices h:∃w h',run fns pr b 64 [.ptr t [0] 1,v.enc] h=some (w,h')∧w= .s (.int .i64 0)∧h'=h.set k (.cells (some 31) ((l.map ag.enc).set p v.enc))++[.cells (some 31) [v.enc]] by
       obtain ⟨w,h',e,rfl,rfl⟩:=h
       refine ⟨_,k,e,⟨.ref k [] (some 31) 0 l.length l.length,?_,.inr ⟨by simp,BM,?_⟩⟩,?_,.inl rfl⟩
       ·exact q10z (by rw[List.getElem?_set_ne BM];exact h1) _
       ·exact q10z (by rw[q9z h3,←List.map_set]) _
       ·exact (Fw.set (S:=[t,k]) (by simp) h3).trans (Fw.app _ _ _)
     refine Vm.dZ (nt:=47) rfl wO (by simp) ?_
     have lR:=tF.2
     simp only[ag.enc] at hf ny vC gr ⊢
     have au:(0:Nat)=0:=rfl
     try simp only[Fy,hf,ny,hv,c1,hg,xl,Pn,Hk,C8,bW,bP,du,vC,gr,go_sem,↓reduceIte,Nat.reduceEqDiff,Nat.reduceBEq,Nat.reduceAdd,Nat.reduceSub,Nat.reduceLT,Nat.reduceLeDiff,Int.reduceLT,Int.reduceLE,Int.reduceEq,Int.reduceToNat]
     repeat' (
       first | refine q5z ?_ ?_ | refine q3z ?_ ?_ | refine q4z ?_ ?_
       all_goals intro aj
       all_goals first | replace aj:=q2z aj | replace aj:=q1z aj | skip
       all_goals first | subst aj | replace au:=And.intro aj au
       all_goals try simp only[au,Fy,hf,ny,hv,c1,hg,xl,Pn,Hk,C8,bW,bP,du,vC,gr,go_sem,↓reduceIte,Nat.reduceEqDiff,Nat.reduceBEq,Nat.reduceAdd,Nat.reduceSub,Nat.reduceLT,Nat.reduceLeDiff,Int.reduceLT,Int.reduceLE,Int.reduceEq,Int.reduceToNat])
   ·rw[if_neg c1]
    have Vj:fq x=some l.length:=by
      rcases hh with ⟨rfl,rfl,_⟩ | ⟨rfl,_⟩<;> rfl
    have FA:x.ty=none:=by
      rcases hh with ⟨rfl,rfl,_⟩ | ⟨rfl,_⟩<;> rfl
    have nw:x.ax=true:=by
      rcases hh with ⟨rfl,rfl,_⟩ | ⟨rfl,_⟩<;> rfl
    have hlen:=fun cf base h0=> cE cf base h0 x _ Vj
    by_cases c2:4≤l.length
    ·rw[if_pos c2]
     have c2':(4:Int)≤l.length:=by omega
     suffices h:∃w h',run fns pr b 64 [.ptr t [0] 1,v.enc] h=some (w,h')∧w= .s (.int .i64 13)∧h'=h++[.cells (some 31) [v.enc]] by
       obtain ⟨w,h',e,rfl,rfl⟩:=h
       exact ⟨_,k,e,⟨x,hg _,by
         rcases hh with hh | ⟨rfl,BM,h3⟩
         ·exact .inl hh
         ·exact .inr ⟨rfl,BM,q10z h3 _⟩⟩,Fw.app _ _ _,.inl rfl⟩
     refine Vm.dZ (nt:=47) rfl wO (by simp) ?_
     simp only[ag.enc] at hf ny ⊢
     have au:(0:Nat)=0:=rfl
     try simp only[Fy,hf,ny,hv,c1,hg,FA,hlen,c2',go_sem,↓reduceIte,Nat.reduceEqDiff,Nat.reduceBEq,Nat.reduceAdd,Nat.reduceSub,Nat.reduceLT,Nat.reduceLeDiff,Int.reduceLT,Int.reduceLE,Int.reduceEq,Int.reduceToNat]
     repeat' (
       first | refine q5z ?_ ?_ | refine q3z ?_ ?_ | refine q4z ?_ ?_
       all_goals intro aj
       all_goals first | replace aj:=q2z aj | replace aj:=q1z aj | skip
       all_goals first | subst aj | replace au:=And.intro aj au
       all_goals try simp only[au,Fy,hf,ny,hv,c1,hg,FA,hlen,c2',go_sem,↓reduceIte,Nat.reduceEqDiff,Nat.reduceBEq,Nat.reduceAdd,Nat.reduceSub,Nat.reduceLT,Nat.reduceLeDiff,Int.reduceLT,Int.reduceLE,Int.reduceEq,Int.reduceToNat])
    ·rw[if_neg c2]
     have c2':¬(4:Int)≤l.length:=by omega
     have hgv:=hg
     have Vk:=He l v.iD
     generalize hpp:pos l v.iD=p at *
     rcases hh with ⟨rfl,rfl,rfl⟩ | ⟨rfl,BM,h3⟩
     ·obtain rfl:p=0:=by simpa using Vk
      have FB:eP (some 31) 96 [.al true (some 31) [],.s (.int .i64 ((0:Nat):Int)),.ref (h.length+1) [] (some 31) 0 1 1] (h++[.cells (some 31) [v.enc],.cells (some 31) [v.enc]])=some (.ref (h.length+2) [] (some 31) 0 1 1,h++[.cells (some 31) [v.enc],.cells (some 31) [v.enc],.cells (some 31) [v.enc]]):=by
        have:=xm (g:=some 31) (by_:=96) (h:=h++[.cells (some 31) [v.enc],.cells (some 31) [v.enc]]) (idy:=h.length+1) (e:=v.enc) (by rw[aK];rfl) gr
        rw[show (((0:Nat):Int))=0 from rfl,this]
        simp
      have c2'':¬(4:Int)≤((0:Nat):Int):=by decide
      suffices h:∃w h',run fns pr b 64 [.ptr k [0] 1,v.enc] h=some (w,h')∧w= .s (.int .i64 0)∧h'=h.set k (.cells (some 146) [.st 146 [.ref (h.length+2) [] (some 31) 0 1 1]])++[.cells (some 31) [v.enc],.cells (some 31) [v.enc],.cells (some 31) [v.enc]] by
        obtain ⟨w,h',e,rfl,rfl⟩:=h
        refine ⟨_,h.length+2,e,⟨.ref (h.length+2) [] (some 31) 0 1 1,?_,.inr ⟨rfl,by omega,?_⟩⟩,?_,.inr (by omega)⟩
        ·exact q10z (q9z h1) _
        ·rw[bu (by simp)];rfl
        ·exact (Fw.set (S:=[k,k]) (by simp) h1).trans (Fw.app _ _ _)
      refine Vm.dZ (nt:=47) rfl wO (by simp) ?_
      simp only[ag.enc] at hf ny vC gr FB ⊢
      have au:(0:Nat)=0:=rfl
      try simp only[Fy,hf,ny,hv,c1,hg,aR,FA,hlen,c2'',hb,vC,gr,kP,FB,List.length_nil,go_sem,↓reduceIte,Nat.reduceEqDiff,Nat.reduceBEq,Nat.reduceAdd,Nat.reduceSub,Nat.reduceLT,Nat.reduceLeDiff,Int.reduceLT,Int.reduceLE,Int.reduceEq,Int.reduceToNat]
      repeat' (
        first | refine q5z ?_ ?_ | refine q3z ?_ ?_ | refine q4z ?_ ?_
        all_goals intro aj
        all_goals first | replace aj:=q2z aj | replace aj:=q1z aj | skip
        all_goals first | subst aj | replace au:=And.intro aj au
        all_goals try simp only[au,Fy,hf,ny,hv,c1,hg,aR,FA,hlen,c2'',hb,vC,gr,kP,FB,List.length_nil,go_sem,↓reduceIte,Nat.reduceEqDiff,Nat.reduceBEq,Nat.reduceAdd,Nat.reduceSub,Nat.reduceLT,Nat.reduceLeDiff,Int.reduceLT,Int.reduceLE,Int.reduceEq,Int.reduceToNat])
     ·have FB:eP (some 31) 96 [.ref k [] (some 31) 0 l.length l.length,.s (.int .i64 p),.ref (h.length+1) [] (some 31) 0 1 1] (h++[.cells (some 31) [v.enc],.cells (some 31) [v.enc]])=some (.ref k [] (some 31) 0 (l.length+1) (l.length+1),h.set k (.cells (some 31) ((l.take p++[v]++l.drop p).map ag.enc))++[.cells (some 31) [v.enc],.cells (some 31) [v.enc]]):=by
        rw[xn (e:=v.enc) (q10z h3 _) (by simp) (by rw[aK];rfl) (by omega) Vk (by omega) gr,m0 tF.2]
        simp[List.map_take,List.map_drop]
      have hgk:∀(b':aV) (t':Hp),(h.set k b'++t')[t]? =some (.cells (some 146) [.st 146 [.ref k [] (some 31) 0 l.length l.length]]):=fun b' t'=> q10z (by rw[List.getElem?_set_ne BM];exact h1) _
      have hsk:∀(b' b2:aV) (t':Hp),(h.set k b'++t').set t b2=(h.set k b').set t b2++t':=fun b' b2 t'=> m0 (by simp;exact tF.1) t' b2
      suffices h:∃w h',run fns pr b 64 [.ptr t [0] 1,v.enc] h=some (w,h')∧w= .s (.int .i64 0)∧h'=(h.set k (.cells (some 31) ((l.take p++[v]++l.drop p).map ag.enc))).set t (.cells (some 146) [.st 146 [.ref k [] (some 31) 0 (l.length+1) (l.length+1)]])++[.cells (some 31) [v.enc],.cells (some 31) [v.enc]] by
        obtain ⟨w,h',e,rfl,rfl⟩:=h
        have tX:(l.take p++[v]++l.drop p).length=l.length+1:=by simp;omega
        refine ⟨_,k,e,⟨.ref k [] (some 31) 0 (l.length+1) (l.length+1),?_,.inr ⟨by rw[tX],BM,?_⟩⟩,?_,.inl rfl⟩
        ·exact q10z (q9z (by rw[List.getElem?_set_ne BM];exact h1)) _
        ·exact q10z (by rw[List.getElem?_set_ne (Ne.symm BM)];exact q9z h3) _
        ·exact ((Fw.set (S:=[t,k]) (by simp) h3).trans (Fw.set (S:=[t,k]) (by simp) (by rw[List.getElem?_set_ne BM];exact h1))).trans (Fw.app _ _ _)
      refine Vm.dZ (nt:=47) rfl wO (by simp) ?_
      simp only[ag.enc] at hf ny vC gr FB ⊢
      have au:(0:Nat)=0:=rfl
      try simp only[Fy,hf,ny,hv,c1,hg,hgk,hsk,aR,FA,hlen,c2',hb,vC,gr,kP,FB,go_sem,↓reduceIte,Nat.reduceEqDiff,Nat.reduceBEq,Nat.reduceAdd,Nat.reduceSub,Nat.reduceLT,Nat.reduceLeDiff,Int.reduceLT,Int.reduceLE,Int.reduceEq,Int.reduceToNat]
      repeat' (
        first | refine q5z ?_ ?_ | refine q3z ?_ ?_ | refine q4z ?_ ?_
        all_goals intro aj
        all_goals first | replace aj:=q2z aj | replace aj:=q1z aj | skip
        all_goals first | subst aj | replace au:=And.intro aj au
        all_goals try simp only[au,Fy,hf,ny,hv,c1,hg,hgk,hsk,aR,FA,hlen,c2',hb,vC,gr,kP,FB,go_sem,↓reduceIte,Nat.reduceEqDiff,Nat.reduceBEq,Nat.reduceAdd,Nat.reduceSub,Nat.reduceLT,Nat.reduceLeDiff,Int.reduceLT,Int.reduceLE,Int.reduceEq,Int.reduceToNat])
theorem BN (b:Nat) (h:Hp) (t k:Nat) (l:List ag) (ho:TR h t k l) (hl:l.length≤1000) (hs:∀v∈l,v.bY.length≤64):
 run fns pr b 51 [.ptr t [0] 1] h=some (.al false (some 31) (l.map ag.enc),h):=by
 refine Vm.aU (nt:=22) rfl S5 (by simp) ?_
 have tF:=ho.lt
 obtain ⟨x,h1,hh⟩:=ho
 have hx:SR h x (some 31) (l.map ag.enc):=by
   rcases hh with ⟨rfl,rfl,_⟩ | ⟨rfl,_,h3⟩
   ·exact .inl ⟨_,rfl⟩
   ·exact kJ h3 (by simp)
 have du:=hx.ty
 have hlen:=fun cf base h0=> hx.cE (cf:=cf) (base:=base) (h:=h0)
 simp only[List.length_map] at hlen
 have au:(0:Nat)=0:=rfl
 try simp only[B51,FU,FT,h1,du,hlen,go_sem,↓reduceIte,Nat.reduceEqDiff,Nat.reduceBEq,Nat.reduceAdd,Nat.reduceSub,Nat.reduceLT,Nat.reduceLeDiff,Int.reduceLT,Int.reduceLE,Int.reduceEq,Int.reduceToNat]
 repeat' (
   first | refine q5z ?_ ?_ | refine q3z ?_ ?_ | refine q4z ?_ ?_
   all_goals intro aj
   all_goals first | replace aj:=q2z aj | replace aj:=q1z aj | skip
   all_goals first | subst aj | replace au:=And.intro aj au
   all_goals try simp only[au,B51,FU,FT,h1,du,hlen,go_sem,↓reduceIte,Nat.reduceEqDiff,Nat.reduceBEq,Nat.reduceAdd,Nat.reduceSub,Nat.reduceLT,Nat.reduceLeDiff,Int.reduceLT,Int.reduceLE,Int.reduceEq,Int.reduceToNat])
 refine bh (fun m e H=>∃i:Nat,m=l.length - i∧i≤l.length∧e 11= .s (.int .i64 i)∧e 10= .s (.int .i64 l.length)∧e 9=x∧∃ko out,e 3=out∧LR H (some 31) ko out ((l.take i).map ag.enc)∧Fw [] h H∧h.length≤ko)
   (fun e H=>∃ko out,e 3=out∧LR H (some 31) ko out (l.map ag.enc)∧Fw [] h H∧h.length≤ko) l.length _ _ ⟨0,by omega,by omega,?_,?_,?_,h.length,.al true (some 31) [],?_,.inl ⟨rfl,rfl⟩,Fw.refl _ _,Nat.le_refl _⟩ ?_ ?_
 rotate_right 2
 ·rintro m e H ⟨i,rfl,hi,e11,e10,e9,ko,out,e3,lr,fw,wJ⟩
  by_cases c:i < l.length
  ·have c':(i:Int)< l.length:=by omega
   have hv:l[i]? =some l[i]:=List.getElem?_eq_getElem c
   have sa:=hs _ (List.mem_of_getElem? hv)
   have eA:l.take (i+1)=l.take i++[l[i]]:=by rw[List.take_add_one,hv];rfl
   generalize l[i]=v at hv sa eA
   have fi:=fun cf base=>(hx.fw fw).cX (cf:=cf) (base:=base) (k:= .i64) (i:=i) (by simpa using c)
   have gh:=fun cf base=>(hx.fw fw).g8 (cf:=cf) (base:=base) (i:=i) (v:=v.enc) (by rw[List.getElem?_map,hv];rfl) rfl
   have nm:=fun h0=> rm h.length h0 false v (by omega)
   rw[←ag.lE] at nm
   have iy:IntKind.i64.wrap ((i:Int)+1)=((i+1:Nat):Int):=q18z (by omega)
   obtain ⟨x',H',k',jb,lr',fw',lC⟩:=lr.Ks (T:=[.cells (some 31) [v.enc],.cells (some 31) [v.enc]]) (idy:=H.length+1) (z:=v.enc) (bytes:=96) wJ fw (by rw[aK];rfl) (iN v) (by simp;omega)
   have gr:=iN v
   have au:(0:Nat)=0:=rfl
   try simp only[e11,e10,e9,e3,c',fi,gh,nm,aX,aY,iy,jb,gr,go_sem,↓reduceIte,Nat.reduceEqDiff,Nat.reduceBEq,Nat.reduceAdd,Nat.reduceSub,Nat.reduceLT,Nat.reduceLeDiff,Int.reduceLT,Int.reduceLE,Int.reduceEq,Int.reduceToNat]
   repeat' (
     first | refine q5z ?_ ?_ | refine q3z ?_ ?_ | refine q4z ?_ ?_
     all_goals intro aj
     all_goals first | replace aj:=q2z aj | replace aj:=q1z aj | skip
     all_goals first | subst aj | replace au:=And.intro aj au
     all_goals try simp only[au,e11,e10,e9,e3,c',fi,gh,nm,aX,aY,iy,jb,gr,go_sem,↓reduceIte,Nat.reduceEqDiff,Nat.reduceBEq,Nat.reduceAdd,Nat.reduceSub,Nat.reduceLT,Nat.reduceLeDiff,Int.reduceLT,Int.reduceLE,Int.reduceEq,Int.reduceToNat])
   exact ⟨l.length - (i+1),by omega,i+1,rfl,by omega,rfl,_,_,rfl,by rw[eA,List.map_append];exact lr',fw',lC⟩
  ·have c':¬(i:Int)< l.length:=by omega
   obtain rfl:i=l.length:=by omega
   rw[List.take_length] at lr
   have au:(0:Nat)=0:=rfl
   try simp only[e11,e10,e9,e3,c',go_sem,↓reduceIte,Nat.reduceEqDiff,Nat.reduceBEq,Nat.reduceAdd,Nat.reduceSub,Nat.reduceLT,Nat.reduceLeDiff,Int.reduceLT,Int.reduceLE,Int.reduceEq,Int.reduceToNat]
   repeat' (
     first | refine q5z ?_ ?_ | refine q3z ?_ ?_ | refine q4z ?_ ?_
     all_goals intro aj
     all_goals first | replace aj:=q2z aj | replace aj:=q1z aj | skip
     all_goals first | subst aj | replace au:=And.intro aj au
     all_goals try simp only[au,e11,e10,e9,e3,c',go_sem,↓reduceIte,Nat.reduceEqDiff,Nat.reduceBEq,Nat.reduceAdd,Nat.reduceSub,Nat.reduceLT,Nat.reduceLeDiff,Int.reduceLT,Int.reduceLE,Int.reduceEq,Int.reduceToNat])
   exact ⟨ko,out,rfl,lr,fw,wJ⟩
 ·rintro e H ⟨ko,out,e3,lr,fw,wJ⟩
  have df:=lr.qX wJ (kQ l)
  have eA:=fw.take
  have au:(0:Nat)=0:=rfl
  try simp only[e3,df,eA,go_sem,↓reduceIte,Nat.reduceEqDiff,Nat.reduceBEq,Nat.reduceAdd,Nat.reduceSub,Nat.reduceLT,Nat.reduceLeDiff,Int.reduceLT,Int.reduceLE,Int.reduceEq,Int.reduceToNat]
  repeat' (
    first | refine q5z ?_ ?_ | refine q3z ?_ ?_ | refine q4z ?_ ?_
    all_goals intro aj
    all_goals first | replace aj:=q2z aj | replace aj:=q1z aj | skip
    all_goals first | subst aj | replace au:=And.intro aj au
    all_goals try simp only[au,e3,df,eA,go_sem,↓reduceIte,Nat.reduceEqDiff,Nat.reduceBEq,Nat.reduceAdd,Nat.reduceSub,Nat.reduceLT,Nat.reduceLeDiff,Int.reduceLT,Int.reduceLE,Int.reduceEq,Int.reduceToNat])
 all_goals rfl
instance (l :List ag):Decidable (gO l):=by unfold gO;infer_instance
def rising (l:List ag):Bool:=decide (l.length≤4)&& l.all aP && decide (gO l)
theorem C9 {l:List ag} {i:Nat} {v w:ag} (hr:gO (l.take (i+1))) (hv:l[i]? =some v) (hw:l[i+1]? =some w) (hc:cP v.iD w.iD < 0):gO (l.take (i+2)):=by
 have h1:l.take (i+2)=l.take (i+1)++[w]:=by rw[List.take_add_one,hw];rfl
 have h2:l.take (i+1)=l.take i++[v]:=by rw[List.take_add_one,hv];rfl
 rw[h1]
 refine List.pairwise_append.2 ⟨hr,by simp,?_⟩
 intro a ha b hb
 simp at hb;subst hb
 rw[h2] at hr ha
 rcases List.mem_append.1 ha with ha | ha
 ·exact fc _ _ _ ((List.pairwise_append.1 hr).2.2 a ha v (by simp)) hc
 ·simp at ha;subst ha;exact hc
theorem Hl {l:List ag} {i:Nat} {v w:ag} (hv:l[i]? =some v) (hw:l[i+1]? =some w) (hc:¬cP v.iD w.iD < 0):¬gO l:=by
 intro h
 have h1:=(List.getElem?_eq_some_iff.1 hv)
 have h2:=(List.getElem?_eq_some_iff.1 hw)
 obtain ⟨h1,rfl⟩:=h1
 obtain ⟨h2,rfl⟩:=h2
 exact hc (List.pairwise_iff_getElem.1 h i (i+1) h1 h2 (by omega))
theorem rn (b:Nat) (h:Hp):run fns pr b 66 [] h=some (.ptr h.length [0] 1,h++[.cells (some 146) [.st 146 [.al true (some 31) []]]]):=by
 suffices hh:∃v h',run fns pr b 66 [] h=some (v,h')∧v= .ptr h.length [0] 1∧h'=h++[.cells (some 146) [.st 146 [.al true (some 31) []]]] by
   obtain ⟨v,h',e,rfl,rfl⟩:=hh;exact e
 refine Vm.dZ (nt:=3) rfl TA (by simp) ?_
 have au:(0:Nat)=0:=rfl
 try simp only[B66,go_sem,↓reduceIte,Nat.reduceEqDiff,Nat.reduceBEq,Nat.reduceAdd,Nat.reduceSub,Nat.reduceLT,Nat.reduceLeDiff,Int.reduceLT,Int.reduceLE,Int.reduceEq,Int.reduceToNat]
 repeat' (
   first | refine q5z ?_ ?_ | refine q3z ?_ ?_ | refine q4z ?_ ?_
   all_goals intro aj
   all_goals first | replace aj:=q2z aj | replace aj:=q1z aj | skip
   all_goals first | subst aj | replace au:=And.intro aj au
   all_goals try simp only[au,B66,go_sem,↓reduceIte,Nat.reduceEqDiff,Nat.reduceBEq,Nat.reduceAdd,Nat.reduceSub,Nat.reduceLT,Nat.reduceLeDiff,Int.reduceLT,Int.reduceLE,Int.reduceEq,Int.reduceToNat])
theorem xo (b:Nat) (h:Hp) (t k:Nat) (dw l:List ag) (x:V) (hb:b≤t) (ho:TR h t k dw) (hx:SR h x (some 31) (l.map ag.enc)) (hl:l.length≤1000):
 ∃h' k',run fns pr b 65 [.ptr t [0] 1,x] h=some (.s (.int .i64 (if rising l=true then 0 else 1)),h')∧TR h' t k' (if rising l=true then l else dw)∧Fw [t] h h'∧(k'=k∨k'=t∨h.length≤k'):=by
 have tF:=ho.lt
 have jd:=fun cf base h0=> hx.cE (cf:=cf) (base:=base) (h:=h0)
 simp only[List.length_map] at jd
 have kR:=rn b h
 suffices hh:∃w h',run fns pr b 65 [.ptr t [0] 1,x] h=some (w,h')∧((rising l=true∧w= .s (.int .i64 0)∧∃k',TR h' t k' l∧Fw [t] h h'∧(k'=t∨h.length≤k'))∨(rising l=false∧w= .s (.int .i64 1)∧Fw [] h h')) by
   obtain ⟨w,h',e,⟨hr,rfl,k',h1,h2,h3⟩ | ⟨hr,rfl,h1⟩⟩:=hh
   ·rw[hr];exact ⟨h',k',e,h1,h2,.inr h3⟩
   ·rw[hr];exact ⟨h',k,e,ho.mono h1 (by simp) (by simp),h1.mono (by simp),.inl rfl⟩
 refine Vm.dZ (nt:=57) rfl Ty (by simp) ?_
 by_cases h4:l.length≤4
 case neg=>
   have h1:(l.length:Int)> 4:=by omega
   have h2:rising l=false:=by simp[rising,h4]
   have au:(0:Nat)=0:=rfl
   try simp only[B65,wQ,wP,jd,h1,h2,go_sem,↓reduceIte,Nat.reduceEqDiff,Nat.reduceBEq,Nat.reduceAdd,Nat.reduceSub,Nat.reduceLT,Nat.reduceLeDiff,Int.reduceLT,Int.reduceLE,Int.reduceEq,Int.reduceToNat]
   repeat' (
     first | refine q5z ?_ ?_ | refine q3z ?_ ?_ | refine q4z ?_ ?_
     all_goals intro aj
     all_goals first | replace aj:=q2z aj | replace aj:=q1z aj | skip
     all_goals first | subst aj | replace au:=And.intro aj au
     all_goals try simp only[au,B65,wQ,wP,jd,h1,h2,go_sem,↓reduceIte,Nat.reduceEqDiff,Nat.reduceBEq,Nat.reduceAdd,Nat.reduceSub,Nat.reduceLT,Nat.reduceLeDiff,Int.reduceLT,Int.reduceLE,Int.reduceEq,Int.reduceToNat])
   exact .inr (Fw.refl _ _)
 have h1:¬(l.length:Int)> 4:=by omega
 have hbn:b≤h.length:=by omega
 have tt:=q10z ho.choose_spec.1
 have au:(0:Nat)=0:=rfl
 try simp only[B65,wQ,wP,jd,h1,kR,go_sem,↓reduceIte,Nat.reduceEqDiff,Nat.reduceBEq,Nat.reduceAdd,Nat.reduceSub,Nat.reduceLT,Nat.reduceLeDiff,Int.reduceLT,Int.reduceLE,Int.reduceEq,Int.reduceToNat]
 repeat' (
   first | refine q5z ?_ ?_ | refine q3z ?_ ?_ | refine q4z ?_ ?_
   all_goals intro aj
   all_goals first | replace aj:=q2z aj | replace aj:=q1z aj | skip
   all_goals first | subst aj | replace au:=And.intro aj au
   all_goals try simp only[au,B65,wQ,wP,jd,h1,kR,go_sem,↓reduceIte,Nat.reduceEqDiff,Nat.reduceBEq,Nat.reduceAdd,Nat.reduceSub,Nat.reduceLT,Nat.reduceLeDiff,Int.reduceLT,Int.reduceLE,Int.reduceEq,Int.reduceToNat])
 refine bh (fun m e H=>∃i:Nat,m=l.length - i∧i≤l.length∧e 14= .s (.int .i64 i)∧e 13= .s (.int .i64 l.length)∧e 12=x∧e 1=x∧e 0= .ptr t [0] 1∧e 5= .ptr h.length [0] 1∧
     (l.take i).all aP=true∧gO (l.take i)∧∃ko out,H[h.length]? =some (.cells (some 146) [.st 146 [out]])∧XR H (some 31) ko out ((l.take i).map ag.enc)∧Fw [] h H∧h.length < ko)
   (fun e H=> rising l=true∧e 0= .ptr t [0] 1∧e 5= .ptr h.length [0] 1∧∃ko out,H[h.length]? =some (.cells (some 146) [.st 146 [out]])∧XR H (some 31) ko out (l.map ag.enc)∧Fw [] h H∧h.length < ko)
   l.length _ _ ⟨0,by omega,by omega,?_,?_,?_,?_,?_,?_,rfl,List.Pairwise.nil,h.length+1,.al true (some 31) [],aM _ _,.inl ⟨rfl,rfl⟩,Fw.app _ _ _,by omega⟩ ?_ ?_
 rotate_right 2
 ·rintro m e H ⟨i,rfl,hi,e14,e13,e12,e1',e0',e5,ha,wK,ko,out,hn,xr,fw,wJ⟩
  have hxH:=hx.fw fw
  by_cases c:i < l.length
  ·have c':(i:Int)< l.length:=by omega
   have hv:l[i]? =some l[i]:=List.getElem?_eq_getElem c
   have eA:l.take (i+1)=l.take i++[l[i]]:=by rw[List.take_add_one,hv];rfl
   have Vl:l[i]∈l:=List.getElem_mem _
   generalize l[i]=v at hv eA Vl
   have fi:=fun cf base=> hxH.cX (cf:=cf) (base:=base) (k:= .i64) (i:=i) (by simpa using c)
   have gh:=fun cf base=> hxH.g8 (cf:=cf) (base:=base) (i:=i) (v:=v.enc) (by rw[List.getElem?_map,hv];rfl) rfl
   have jC:=fun h0=> fH b h0 false v
   simp only[←ag.lE] at jC
   have iy:IntKind.i64.wrap ((i:Int)+1)=((i+1:Nat):Int):=q18z (by omega)
   have gr:=iN v
   have ma:=fw.len
   have fw1:Fw [] h (H++[.cells (some 31) [v.enc]]):=fw.trans (Fw.app _ _ _)
   cases hr:aP v with
   | false=>
     have zV:rising l=false:=by
       simp only[rising,Bool.and_eq_false_iff,List.all_eq_false]
       exact .inl (.inr ⟨v,Vl,by simp[hr]⟩)
     have au:(0:Nat)=0:=rfl
     try simp only[e14,e13,e12,e1',e0',e5,c',fi,gh,jC,hr,gr,aX,aY,go_sem,↓reduceIte,Nat.reduceEqDiff,Nat.reduceBEq,Nat.reduceAdd,Nat.reduceSub,Nat.reduceLT,Nat.reduceLeDiff,Int.reduceLT,Int.reduceLE,Int.reduceEq,Int.reduceToNat]
     repeat' (
       first | refine q5z ?_ ?_ | refine q3z ?_ ?_ | refine q4z ?_ ?_
       all_goals intro aj
       all_goals first | replace aj:=q2z aj | replace aj:=q1z aj | skip
       all_goals first | subst aj | replace au:=And.intro aj au
       all_goals try simp only[au,e14,e13,e12,e1',e0',e5,c',fi,gh,jC,hr,gr,aX,aY,go_sem,↓reduceIte,Nat.reduceEqDiff,Nat.reduceBEq,Nat.reduceAdd,Nat.reduceSub,Nat.reduceLT,Nat.reduceLeDiff,Int.reduceLT,Int.reduceLE,Int.reduceEq,Int.reduceToNat])
     all_goals first | exact .inr ⟨zV,rfl,fw1⟩ | exact .inr ⟨zV,fw1⟩ | (rw[zV];simp;exact fw1)
   | true=>
     have cJ:(l.take (i+1)).all aP=true:=by rw[eA,List.all_append,ha];simp[hr]
     have nm:=fun h0=> rm b h0 false v (by have:=q14z hr;omega)
     rw[←ag.lE] at nm
     obtain ⟨x',H',k',jb,xr',fw',lC,Po⟩:=xr.Ks (h:=h) (T:=[.cells (some 31) [v.enc],.cells (some 31) [v.enc]]) (idy:=H.length+1) (z:=v.enc) (bytes:=96) (by omega) fw (by rw[aK];rfl) gr (by simp;omega)
     have uu:H'[h.length]? =some (.cells (some 146) [.st 146 [out]]):=Po _ _ (by omega) (q10z hn _)
     have hgn:=fun T=> q10z hn T
     obtain ⟨Hg,ht2⟩:=xr.ty
     obtain ⟨ht3,ht4⟩:=xr'.ty
     have Hm:decide (b≤h.length)=true:=by simp[hbn]
     have j4:gO (l.take (i+1))→∃m',m' < l.length - i∧∃j:Nat,m'=l.length - j∧j≤l.length∧((i+1:Nat):Int)=j∧(l.take j).all aP=true∧gO (l.take j)∧∃ko out,(H'.set h.length (.cells (some 146) [.st 146 [x']]))[h.length]? =some (.cells (some 146) [.st 146 [out]])∧XR (H'.set h.length (.cells (some 146) [.st 146 [x']])) (some 31) ko out ((l.take j).map ag.enc)∧Fw [] h (H'.set h.length (.cells (some 146) [.st 146 [x']]))∧h.length < ko:=by
       intro X2
       have zQ:h.length < k':=by rcases lC with rfl | lC;exact wJ;simp at lC;omega
       refine ⟨l.length - (i+1),by omega,i+1,rfl,by omega,rfl,cJ,X2,k',x',q9z uu,?_,fw'.cK (Nat.le_refl _) _,zQ⟩
       rw[eA,List.map_append]
       rcases xr' with ⟨rfl,h0⟩ | ⟨rfl,h0⟩
       ·simp at h0
       ·exact .inr ⟨rfl,by rw[List.getElem?_set_ne (by omega)];exact h0⟩
     cases i with
     | zero=>
       have z:¬((0:Nat):Int)> 0:=by decide
       have au:(0:Nat)=0:=rfl
       try simp only[e14,e13,e12,e1',e0',e5,c',fi,gh,jC,hr,gr,aX,aY,z,nm,hgn,hn,Hg,ht2,ht3,ht4,jb,uu,Hm,iy,go_sem,↓reduceIte,Nat.reduceEqDiff,Nat.reduceBEq,Nat.reduceAdd,Nat.reduceSub,Nat.reduceLT,Nat.reduceLeDiff,Int.reduceLT,Int.reduceLE,Int.reduceEq,Int.reduceToNat]
       repeat' (
         first | refine q5z ?_ ?_ | refine q3z ?_ ?_ | refine q4z ?_ ?_
         all_goals intro aj
         all_goals first | replace aj:=q2z aj | replace aj:=q1z aj | skip
         all_goals first | subst aj | replace au:=And.intro aj au
         all_goals try simp only[au,e14,e13,e12,e1',e0',e5,c',fi,gh,jC,hr,gr,aX,aY,z,nm,hgn,hn,Hg,ht2,ht3,ht4,jb,uu,Hm,iy,go_sem,↓reduceIte,Nat.reduceEqDiff,Nat.reduceBEq,Nat.reduceAdd,Nat.reduceSub,Nat.reduceLT,Nat.reduceLeDiff,Int.reduceLT,Int.reduceLE,Int.reduceEq,Int.reduceToNat])
       obtain ⟨m',q1,j,q2,q3,q4,q5⟩:=j4 (by rw[eA];simp[gO])
       exact ⟨m',q1,j,q2,q3,congrArg _ q4,q5⟩
     | succ i=>
       have z:((i+1:Nat):Int)> 0:=by omega
       have hw:l[i]? =some l[i]:=List.getElem?_eq_getElem (by omega)
       generalize l[i]=w at hw
       have hws:IntKind.i64.wrap (((i+1:Nat):Int) - 1)=(i:Int):=by rw[show ((i+1:Nat):Int) - 1=i by omega,wrap_i64 (by omega) (by omega)]
       have hwe:(l.map ag.enc)[i]? =some w.enc:=by rw[List.getElem?_map,hw];rfl
       have hib:=fun cf base T=>(hxH.app T).cX (cf:=cf) (base:=base) (k:= .i64) (i:=i) (by simp;omega)
       have fa2:=fun cf base T=>(hxH.app T).zR (cf:=cf) (base:=base) (f:=0) hwe (by simp[ag.enc])
       have sl2:=fun cf base T=>(hxH.app T).M5 (cf:=cf) (base:=base) (f:=0) (g':=none) hwe (by simp[ag.enc];exact ⟨rfl,rfl⟩)
       have el2:=fun T=> uj (hxH.app T) (f:=0) (g':=none) hwe (by simp[ag.enc];exact ⟨rfl,rfl⟩)
       simp only[List.length_map] at sl2 el2
       have hcr:=fun x y h0=> BK b x y h0
       simp only[ag.enc] at gh jC nm jb gr
       by_cases hc:cP w.iD v.iD < 0
       ·have Da:¬(0≤cP w.iD v.iD):=by omega
        have au:(0:Nat)=0:=rfl
        try simp only[e14,e13,e12,e1',e0',e5,c',fi,gh,jC,hr,gr,z,nm,hgn,hn,Hg,ht2,ht3,ht4,jb,uu,Hm,iy,hws,hib,fa2,sl2,el2,hcr,Da,go_sem,↓reduceIte,Nat.reduceEqDiff,Nat.reduceBEq,Nat.reduceAdd,Nat.reduceSub,Nat.reduceLT,Nat.reduceLeDiff,Int.reduceLT,Int.reduceLE,Int.reduceEq,Int.reduceToNat]
        repeat' (
          first | refine q5z ?_ ?_ | refine q3z ?_ ?_ | refine q4z ?_ ?_
          all_goals intro aj
          all_goals first | replace aj:=q2z aj | replace aj:=q1z aj | skip
          all_goals first | subst aj | replace au:=And.intro aj au
          all_goals try simp only[au,e14,e13,e12,e1',e0',e5,c',fi,gh,jC,hr,gr,z,nm,hgn,hn,Hg,ht2,ht3,ht4,jb,uu,Hm,iy,hws,hib,fa2,sl2,el2,hcr,Da,go_sem,↓reduceIte,Nat.reduceEqDiff,Nat.reduceBEq,Nat.reduceAdd,Nat.reduceSub,Nat.reduceLT,Nat.reduceLeDiff,Int.reduceLT,Int.reduceLE,Int.reduceEq,Int.reduceToNat])
        obtain ⟨m',q1,j,q2,q3,q4,q5⟩:=j4 (C9 wK hw hv hc)
        exact ⟨m',q1,j,q2,q3,congrArg _ q4,q5⟩
       ·have Da:0≤cP w.iD v.iD:=by omega
        have zV:rising l=false:=by
          simp only[rising,Bool.and_eq_false_iff,decide_eq_false_iff_not]
          exact .inr (Hl hw hv hc)
        have au:(0:Nat)=0:=rfl
        try simp only[e14,e13,e12,e1',e0',e5,c',fi,gh,jC,hr,gr,z,hws,hib,fa2,sl2,el2,hcr,Da,go_sem,↓reduceIte,Nat.reduceEqDiff,Nat.reduceBEq,Nat.reduceAdd,Nat.reduceSub,Nat.reduceLT,Nat.reduceLeDiff,Int.reduceLT,Int.reduceLE,Int.reduceEq,Int.reduceToNat]
        repeat' (
          first | refine q5z ?_ ?_ | refine q3z ?_ ?_ | refine q4z ?_ ?_
          all_goals intro aj
          all_goals first | replace aj:=q2z aj | replace aj:=q1z aj | skip
          all_goals first | subst aj | replace au:=And.intro aj au
          all_goals try simp only[au,e14,e13,e12,e1',e0',e5,c',fi,gh,jC,hr,gr,z,hws,hib,fa2,sl2,el2,hcr,Da,go_sem,↓reduceIte,Nat.reduceEqDiff,Nat.reduceBEq,Nat.reduceAdd,Nat.reduceSub,Nat.reduceLT,Nat.reduceLeDiff,Int.reduceLT,Int.reduceLE,Int.reduceEq,Int.reduceToNat])
        all_goals first | exact .inr ⟨zV,rfl,fw1⟩ | exact .inr ⟨zV,fw1⟩ | (rw[zV];simp;exact fw1)
  ·have c':¬(i:Int)< l.length:=by omega
   rw[List.take_of_length_le (by omega)] at ha wK xr
   have hq:rising l=true:=by
     simp[rising,h4,ha,wK]
   have au:(0:Nat)=0:=rfl
   try simp only[e14,e13,e12,e1',e0',e5,c',go_sem,↓reduceIte,Nat.reduceEqDiff,Nat.reduceBEq,Nat.reduceAdd,Nat.reduceSub,Nat.reduceLT,Nat.reduceLeDiff,Int.reduceLT,Int.reduceLE,Int.reduceEq,Int.reduceToNat]
   repeat' (
     first | refine q5z ?_ ?_ | refine q3z ?_ ?_ | refine q4z ?_ ?_
     all_goals intro aj
     all_goals first | replace aj:=q2z aj | replace aj:=q1z aj | skip
     all_goals first | subst aj | replace au:=And.intro aj au
     all_goals try simp only[au,e14,e13,e12,e1',e0',e5,c',go_sem,↓reduceIte,Nat.reduceEqDiff,Nat.reduceBEq,Nat.reduceAdd,Nat.reduceSub,Nat.reduceLT,Nat.reduceLeDiff,Int.reduceLT,Int.reduceLE,Int.reduceEq,Int.reduceToNat])
   exact ⟨hq,ko,out,hn,xr,fw,wJ⟩
 ·rintro e H ⟨hq,e0',e5,ko,out,hn,xr,fw,wJ⟩
  obtain ⟨y,tt1,tt2⟩:=ho
  have tH:=fw.dw _ _ tt1 (by simp)
  have Hm:decide (b≤t)=true:=by simp[hb]
  obtain ⟨Hg,ht2⟩:=xr.ty
  have hyt:y.ty=none:=by rcases tt2 with ⟨rfl,_⟩ | ⟨rfl,_⟩<;> rfl
  have au:(0:Nat)=0:=rfl
  try simp only[e0',e5,hn,tH,Hg,ht2,Hm,hyt,go_sem,↓reduceIte,Nat.reduceEqDiff,Nat.reduceBEq,Nat.reduceAdd,Nat.reduceSub,Nat.reduceLT,Nat.reduceLeDiff,Int.reduceLT,Int.reduceLE,Int.reduceEq,Int.reduceToNat]
  repeat' (
    first | refine q5z ?_ ?_ | refine q3z ?_ ?_ | refine q4z ?_ ?_
    all_goals intro aj
    all_goals first | replace aj:=q2z aj | replace aj:=q1z aj | skip
    all_goals first | subst aj | replace au:=And.intro aj au
    all_goals try simp only[au,e0',e5,hn,tH,Hg,ht2,Hm,hyt,go_sem,↓reduceIte,Nat.reduceEqDiff,Nat.reduceBEq,Nat.reduceAdd,Nat.reduceSub,Nat.reduceLT,Nat.reduceLeDiff,Int.reduceLT,Int.reduceLE,Int.reduceEq,Int.reduceToNat])
  left
  have fwt:Fw [t] h (H.set t (.cells (some 146) [.st 146 [out]])):=(fw.mono (by simp)).trans (Fw.set (by simp) tH)
  rcases xr with ⟨rfl,h0⟩ | ⟨rfl,h0⟩
  ·have:l=[]:=by simpa using h0
   subst this
   first
     | exact ⟨hq,rfl,t,⟨_,q9z tH,.inl ⟨rfl,rfl,rfl⟩⟩,fwt,.inl rfl⟩
     | exact ⟨hq,t,⟨_,q9z tH,.inl ⟨rfl,rfl,rfl⟩⟩,fwt,.inl rfl⟩
  ·have cD:t≠ko:=by omega
   have q:TR (H.set t (.cells (some 146) [.st 146 [.ref ko [] (some 31) 0 (l.map ag.enc).length (l.map ag.enc).length]])) t ko l:=⟨_,q9z tH,.inr ⟨by rw[List.length_map],Ne.symm cD,by rw[List.getElem?_set_ne cD];exact h0⟩⟩
   first
     | exact ⟨hq,rfl,ko,q,fwt,.inr (by omega)⟩
     | exact ⟨hq,ko,q,fwt,.inr (by omega)⟩
 all_goals rfl
def jo (l:List ag) (v:ag):List ag:=(l.filter fun w=> decide (cP w.iD v.iD < 0))++[v]++l.filter fun w=> decide (0 < cP w.iD v.iD)
theorem filter_lt {l:List ag} (hr:gO l) (id:Bs):(l.filter fun w=> decide (cP w.iD id < 0))=l.take (pos l id):=by
 induction l with
 | nil=> rfl
 | cons w l ih=>
   obtain ⟨h1,h2⟩:=List.pairwise_cons.1 hr
   by_cases hw:cP w.iD id < 0
   ·have e:pos (w::l) id=pos l id+1:=by simp[pos,hw]
    rw[e,List.filter_cons_of_pos (by simpa using hw),ih h2];rfl
   ·have hz:∀x∈l,¬cP x.iD id < 0:=fun x hx h=> hw (fc _ _ _ (h1 x hx) h)
    have e:pos (w::l) id=0:=by
      rw[pos,List.countP_eq_zero]
      intro x hx
      rcases List.mem_cons.1 hx with rfl | hx
      ·simpa using hw
      ·simpa using hz x hx
    rw[e,List.take_zero,List.filter_eq_nil_iff]
    intro x hx
    rcases List.mem_cons.1 hx with rfl | hx
    ·simpa using hw
    ·simpa using hz x hx
theorem Db {l:List ag} (hr:gO l) (id:Bs):(l.filter fun w=> decide (0 < cP w.iD id))=if (l[pos l id]?).map ag.iD=some id then l.drop (pos l id+1) else l.drop (pos l id):=by
 induction l with
 | nil=> rfl
 | cons w l ih=>
   obtain ⟨h1,h2⟩:=List.pairwise_cons.1 hr
   by_cases hw:cP w.iD id < 0
   ·have e:pos (w::l) id=pos l id+1:=by simp[pos,hw]
    rw[e,List.filter_cons_of_neg (by simp;omega),ih h2]
    simp only[List.getElem?_cons_succ,List.drop_succ_cons]
   ·have hz:∀x∈l,0 < cP x.iD id:=fun x hx=> by
      have a1:=h1 x hx
      have a2:=r6 x.iD id
      rcases Int.lt_or_le 0 (cP x.iD id) with h | h
      ·exact h
      ·exfalso
       rcases Int.lt_or_eq_of_le h with h | h
       ·exact hw (fc _ _ _ a1 h)
       ·rw[mi _ _ h] at a1;exact hw a1
    have e:pos (w::l) id=0:=by
      rw[pos,List.countP_eq_zero]
      intro x hx
      rcases List.mem_cons.1 hx with rfl | hx
      ·simpa using hw
      ·have:=hz x hx;simp;omega
    have hl:l.filter (fun w=> decide (0 < cP w.iD id))=l:=List.filter_eq_self.2 fun x hx=> by simpa using hz x hx
    rw[e]
    simp only[List.getElem?_cons_zero,Option.map_some,Option.some.injEq,Nat.zero_add,List.drop_succ_cons,List.drop_zero]
    by_cases hi:w.iD=id
    ·rw[if_pos hi,List.filter_cons_of_neg (by rw[hi];simp[j3]),hl]
    ·rw[if_neg hi,List.filter_cons_of_pos (by
     have:cP w.iD id≠0:=fun h=> hi (mi _ _ h)
     simp;omega),hl]
theorem xp {l:List ag} {v:ag} (hr:gO l) (h:(o5 l v).1=0):(o5 l v).2=jo l v:=by
 unfold jo
 rw[filter_lt hr,Db hr]
 unfold o5 at h ⊢
 split
 ·rename_i h1;rw[if_pos h1] at h;cases h
 ·rename_i h1
  rw[if_neg h1] at h
  split
  ·rename_i h2
   have bW:pos l v.iD < l.length:=by
     cases hp:l[pos l v.iD]? with
     | none=> rw[hp] at h2;cases h2
     | some w=> exact (List.getElem?_eq_some_iff.1 hp).1
   rw[List.set_eq_take_append_cons_drop,if_pos bW];simp
  ·rename_i h2
   rw[if_neg h2] at h
   split
   ·rename_i h3;rw[if_pos h3] at h;cases h
   ·rfl
theorem sb {l:List ag} (hr:gO l) (v:ag):gO (jo l v):=by
 unfold gO jo
 have f1:(l.filter fun w=> decide (cP w.iD v.iD < 0)).Pairwise fun v w=> cP v.iD w.iD < 0:=hr.sublist List.filter_sublist
 have f2:(l.filter fun w=> decide (0 < cP w.iD v.iD)).Pairwise fun v w=> cP v.iD w.iD < 0:=hr.sublist List.filter_sublist
 refine List.pairwise_append.2 ⟨List.pairwise_append.2 ⟨f1,by simp,?_⟩,f2,?_⟩
 ·intro a ha b hb
  simp at ha hb;subst hb;exact ha.2
 ·intro a ha b hb
  have Hd:cP v.iD b.iD < 0:=by
    have:=(List.mem_filter.1 hb).2
    have q:=r6 b.iD v.iD
    simp at this;omega
  rcases List.mem_append.1 ha with ha | ha
  ·have:=(List.mem_filter.1 ha).2
   exact fc _ _ _ (by simpa using this) Hd
  ·simp at ha;subst ha;exact Hd
structure kF where
 role:Int
 aD:Int
 to:Int
 vs:List ag
structure bg where
 mem:Int
 bm:Int
 p:Nat→kF
def bg.o6 (s:bg) (n:Nat) (q:kF):bg:= {s with p:=fun j=> if j=n then q else s.p j}
def bg.new (a b:Int):bg:=⟨a,b,fun n=>⟨if (n:Int) % b=a then 1 else 0,1,0,[]⟩⟩
def ei (q:kF) (t:Nat):V:= .st 104 [.s (.int .i64 q.role),.s (.int .u64 q.aD),.s (.int .i64 q.to),.ptr t [0] 1]
def fW (p:Nat→kF) (ts:Nat→Nat×Nat) (n:Nat):List V:=(List.range n).map fun i=> ei (p i) (ts i).1
theorem Dc (p:Nat→kF) (ts:Nat→Nat×Nat) (n:Nat):fW p ts (n+1)=fW p ts n++[ei (p n) (ts n).1]:=by simp[fW,List.range_succ]
theorem bT (p:Nat→kF) (ts:Nat→Nat×Nat) (n:Nat):(fW p ts n).length=n:=by simp[fW]
theorem dI (p:Nat→kF) (ts:Nat→Nat×Nat) (n i:Nat) (h:i < n):(fW p ts n)[i]? =some (ei (p i) (ts i).1):=by simp[fW,h]
theorem sd {p p':Nat→kF} {ts ts':Nat→Nat×Nat} {n:Nat} (h:∀i,i < n→p i=p' i∧(ts i).1=(ts' i).1):fW p ts n=fW p' ts' n:=by
 unfold fW
 apply List.map_congr_left
 intro i hi
 obtain ⟨h1,h2⟩:=h i (List.mem_range.1 hi)
 rw[h1,h2]
structure zW (h:Hp) (m:Nat) (s:bg) (F:List Nat) (r:Nat) (ts:Nat→Nat×Nat) (own:Nat→Nat):Prop where
 o:h[m]? =some (.cells (some 101) [.st 101 [.s (.int .i64 s.mem),.s (.int .i64 s.bm),.ref r [] (some 104) 0 16 16]])
 row:h[r]? =some (.cells (some 104) (fW s.p ts 16))
 FC:∀i,i < 16→TR h (ts i).1 (ts i).2 (s.p i).vs
 om:own m=100
 orr:own r=101
 ot:∀i,i < 16→own (ts i).1=i∧own (ts i).2=i
 fm:m∈F
 fr:r∈F
 ft:∀i,i < 16→(ts i).1∈F∧(ts i).2∈F
 fl:∀j∈F,j < h.length
def gY (h:Hp) (m:Nat) (s:bg) (F:List Nat):Prop:=∃(r:Nat) (ts:Nat→Nat×Nat) (own:Nat→Nat),zW h m s F r ts own
theorem zW.mono {S F:List Nat} {h h':Hp} {m r:Nat} {s:bg} {ts:Nat→Nat×Nat} {own:Nat→Nat} (hm:zW h m s F r ts own) (f:Fw S h h') (hd:∀j∈F,j∉S):zW h' m s F r ts own:=
 ⟨f.dw _ _ hm.o (hd _ hm.fm),f.dw _ _ hm.row (hd _ hm.fr),fun i hi=>(hm.FC i hi).mono f (hd _ (hm.ft i hi).1) (hd _ (hm.ft i hi).2),hm.om,hm.orr,hm.ot,hm.fm,hm.fr,hm.ft,fun j hj=> f.lt (hm.fl j hj)⟩
theorem gY.mono {S F:List Nat} {h h':Hp} {m:Nat} {s:bg} (hm:gY h m s F) (f:Fw S h h') (hd:∀j∈F,j∉S):gY h' m s F:=by
 obtain ⟨r,ts,own,hm⟩:=hm
 exact ⟨r,ts,own,hm.mono f hd⟩
theorem gY.lt {F:List Nat} {h:Hp} {m:Nat} {s:bg} (hm:gY h m s F):∀j∈F,j < h.length:=by
 obtain ⟨r,ts,own,hm⟩:=hm
 exact hm.fl
theorem gY.mem {F:List Nat} {h:Hp} {m:Nat} {s:bg} (hm:gY h m s F):m∈F:=by
 obtain ⟨r,ts,own,hm⟩:=hm
 exact hm.fm
theorem gY.app {F:List Nat} {h:Hp} {m:Nat} {s:bg} (hm:gY h m s F) (t:Hp):gY (h++t) m s F:=hm.mono (Fw.app [] h t) (by simp)
theorem zW.part {F:List Nat} {h h':Hp} {m r i t' k':Nat} {s:bg} {ts:Nat→Nat×Nat} {own:Nat→Nat} {q:kF} (hp:zW h m s F r ts own) (hi:i < 16)
 (hr:h'[r]? =some (.cells (some 104) ((fW s.p ts 16).set i (ei q t')))) (hT:TR h' t' k' q.vs)
 (ho:∀j b,j≠r→j≠(ts i).1→j≠(ts i).2→h[j]? =some b→h'[j]? =some b) (ht:t'=(ts i).1∨h.length≤t') (hk:k'=(ts i).2∨k'=(ts i).1∨h.length≤k') (hl:h.length≤h'.length):
 gY h' m (s.o6 i q) (t'::k'::F):=by
 obtain ⟨a1,a2⟩:=hp.ot i hi
 have hold:∀j b,own j≠i→own j≠101→h[j]? =some b→h'[j]? =some b:=fun j b h1 h2 hb=>
   ho j b (fun e=> h2 (by rw[e];exact hp.orr)) (fun e=> h1 (by rw[e];exact a1)) (fun e=> h1 (by rw[e];exact a2)) hb
 have kR:∀j,own j≠i→j < h.length→j≠t'∧j≠k':=fun j h1 h2=> by
   constructor
   ·rintro rfl
    rcases ht with e | e
    ·rw[e] at h1;exact h1 a1
    ·omega
   ·rintro rfl
    rcases hk with e | e | e
    ·rw[e] at h1;exact h1 a2
    ·rw[e] at h1;exact h1 a1
    ·omega
 refine ⟨r,fun j=> if j=i then (t',k') else ts j,fun j=> if j=t' then i else if j=k' then i else own j,⟨hold _ _ (by rw[hp.om];omega) (by rw[hp.om];omega) hp.o,?_,?_,?_,?_,?_,?_,?_,?_,?_⟩⟩
 ·rw[hr]
  congr 2
  apply List.ext_getElem?
  intro j
  rw[List.getElem?_set,bT]
  by_cases hj:j < 16
  ·rw[dI _ _ _ _ hj,dI _ _ _ _ hj]
   by_cases tG:i=j
   ·subst tG;simp[hi,bg.o6]
   ·simp[tG,Ne.symm tG,bg.o6]
  ·rw[if_neg (by omega),List.getElem?_eq_none (by rw[bT];omega),List.getElem?_eq_none (by rw[bT];omega)]
 ·intro j hj
  by_cases tG:j=i
  ·subst tG;simpa[bg.o6] using hT
  ·obtain ⟨b1,b2⟩:=hp.ot j hj
   simp only[tG,if_false,bg.o6]
   obtain ⟨x,c1,c2⟩:=hp.FC j hj
   refine ⟨x,hold _ _ (by omega) (by omega) c1,?_⟩
   rcases c2 with c2 | ⟨c3,c4,c5⟩
   ·exact .inl c2
   ·exact .inr ⟨c3,c4,hold _ _ (by omega) (by omega) c5⟩
 ·have:=kR m (by rw[hp.om];omega) (q6z hp.o)
  simp only[this.1,this.2,if_false];exact hp.om
 ·have:=kR r (by rw[hp.orr];omega) (q6z hp.row)
  simp only[this.1,this.2,if_false];exact hp.orr
 ·intro j hj
  by_cases tG:j=i
  ·subst tG;simp
  ·obtain ⟨b1,b2⟩:=hp.ot j hj
   obtain ⟨l1,l2⟩:=(hp.FC j hj).lt
   have n1:=kR (ts j).1 (by omega) l1
   have n2:=kR (ts j).2 (by omega) l2
   simp only[tG,if_false,n1.1,n1.2,n2.1,n2.2]
   exact ⟨b1,b2⟩
 ·simp[hp.fm]
 ·simp[hp.fr]
 ·intro j hj
  by_cases tG:j=i
  ·subst tG;simp
  ·have:=hp.ft j hj
   simp[tG,this]
 ·intro j hj
  rcases List.mem_cons.1 hj with rfl | hj
  ·exact hT.lt.1
  ·rcases List.mem_cons.1 hj with rfl | hj
   ·exact hT.lt.2
   ·exact Nat.lt_of_lt_of_le (hp.fl j hj) hl
theorem m6 (b:Nat) (h:Hp) (n:Int):run fns pr b 74 [.s (.int .i64 n)] h=some (.s (.bool (decide (0≤n)&& decide (n < 16))),h):=by
 refine Vm.aU (nt:=9) rfl TS (by simp) ?_
 by_cases h0:0≤n
 ·simp only[B74,h0,go_sem,↓reduceIte,Nat.reduceEqDiff,Nat.reduceBEq,Nat.reduceAdd,Nat.reduceSub,Nat.reduceLT,Nat.reduceLeDiff,Int.reduceLT,Int.reduceLE,Int.reduceEq,Int.reduceToNat]
 ·simp only[B74,h0,go_sem,↓reduceIte,Nat.reduceEqDiff,Nat.reduceBEq,Nat.reduceAdd,Nat.reduceSub,Nat.reduceLT,Nat.reduceLeDiff,Int.reduceLT,Int.reduceLE,Int.reduceEq,Int.reduceToNat]
theorem Hn (b:Nat) (h:Hp) (n:Nat) (m:Int) (hn:n < 16) (h1:1≤m) (h2:m≤8):run fns pr b 78 [.s (.int .i64 (n:Nat)),.s (.int .i64 m)] h=some (.s (.int .i64 ((n:Int) % m)),h):=by
 refine Vm.aU (nt:=13) rfl T0 (by simp) ?_
 have hr:=fun h0=> m6 h.length h0 n
 have q1:(0:Int)≤(n:Int):=by omega
 have q2:(n:Int)< 16:=by omega
 have q3:min m 8=m:=by omega
 have q4:max 1 m=m:=by omega
 have hq:=fun cf base h=> lY cf base h .i64 (n:Int) m (by omega)
 have hm:(n:Int).tmod m=(n:Int) % m:=Int.tmod_eq_emod_of_nonneg q1
 simp only[B78,hr,q1,q2,q3,q4,hq,hm,go_sem,↓reduceIte,Nat.reduceEqDiff,Nat.reduceBEq,Nat.reduceAdd,Nat.reduceSub,Nat.reduceLT,Nat.reduceLeDiff,Int.reduceLT,Int.reduceLE,Int.reduceEq,Int.reduceToNat]
def SPp (p:Nat→kF) (a b:Int) (n:Nat) (H:Hp) (i:Nat) (y:V) (k:Nat) (ts:Nat→Nat×Nat) (own:Nat→Nat):Prop:=
 H[n]? =some (.cells (some 101) [.st 101 [.s (.int .i64 a),.s (.int .i64 b),y]])∧(i=0∧y= .al true (some 104) []∨0 < i∧y= .ref k [] (some 104) 0 i i∧H[k]? =some (.cells (some 104) (fW p ts i))∧own k=101∧n≤k)∧own n=100∧
   (∀j,j < i→TR H (ts j).1 (ts j).2 []∧own (ts j).1=j∧own (ts j).2=j∧n≤(ts j).1∧n≤(ts j).2)
theorem SPp.step {p:Nat→kF} {a b:Int} {n i k k' t:Nat} {H H':Hp} {y:V} {ts:Nat→Nat×Nat} {own:Nat→Nat} (hp:SPp p a b n H i y k ts own) (hn:n < H.length) (ht:H.length≤t) (BM:k'≠t) (lC:k'=k∧0 < i∨H.length≤k') (hi:i < 16)
 (hm:H'[n]? =some (.cells (some 101) [.st 101 [.s (.int .i64 a),.s (.int .i64 b),.ref k' [] (some 104) 0 (i+1) (i+1)]])) (hr:H'[k']? =some (.cells (some 104) (fW p ts i++[ei (p i) t]))) (hT:TR H' t t []) (ho:∀(j:Nat) (b:aV),j≠n→(0 < i→j≠k)→H[j]? =some b→H'[j]? =some b):
 ∃ts' own',SPp p a b n H' (i+1) (.ref k' [] (some 104) 0 (i+1) (i+1)) k' ts' own':=by
 obtain ⟨h1,h2,h3,h4⟩:=hp
 refine ⟨fun j=> if j=i then (t,t) else ts j,fun j=> if j=t then i else if j=k' then 101 else own j,hm,.inr ⟨by omega,rfl,?_,by simp[BM],?_⟩,?_,?_⟩
 ·rw[hr,Dc,if_pos rfl]
  rw[sd (p:=p) (p':=p) (ts:=ts) (ts':=fun j=> if j=i then (t,t) else ts j) (fun j hj=>⟨rfl,by rw[if_neg (by omega)]⟩)]
 ·rcases lC with ⟨rfl,vD⟩ | lC
  ·rcases h2 with ⟨h2,_⟩ | ⟨_,_,_,_,h2⟩
   ·omega
   ·exact h2
  ·omega
 ·have hnk:n≠k':=by
    rcases lC with ⟨rfl,vD⟩ | lC
    ·rcases h2 with ⟨h2,_⟩ | ⟨_,_,_,h2,_⟩
     ·omega
     ·intro e;rw[e,h2] at h3;cases h3
    ·omega
  simp only[show n≠t by omega,hnk,if_false];exact h3
 ·intro j hj
  by_cases tG:j=i
  ·subst tG
   simp only[if_true]
   exact ⟨hT,trivial,trivial,by omega,by omega⟩
  ·obtain ⟨a1,a2,a3,a4,a5⟩:=h4 j (by omega)
   have hl:=a1.lt
   simp only[tG,if_false]
   have hk1:0 < i→(ts j).1≠k∧(ts j).2≠k:=fun vD=> by
     rcases h2 with ⟨h2,_⟩ | ⟨_,_,_,h2,_⟩
     ·omega
     ·exact ⟨fun e=> by rw[e,h2] at a2;omega,fun e=> by rw[e,h2] at a3;omega⟩
   have hn1:(ts j).1≠n∧(ts j).2≠n:=⟨fun e=> by rw[e,h3] at a2;omega,fun e=> by rw[e,h3] at a3;omega⟩
   have Dd:(ts j).1≠k'∧(ts j).2≠k':=by
     rcases lC with ⟨rfl,vD⟩ | lC
     ·exact hk1 vD
     ·omega
   refine ⟨?_,by rw[if_neg (by omega),if_neg Dd.1];exact a2,by rw[if_neg (by omega),if_neg Dd.2];exact a3,a4,a5⟩
   obtain ⟨x,b1,b2⟩:=a1
   refine ⟨x,ho _ _ hn1.1 (fun h=>(hk1 h).1) b1,?_⟩
   rcases b2 with b2 | ⟨b3,b4,b5⟩
   ·exact .inl b2
   ·exact .inr ⟨b3,b4,ho _ _ hn1.2 (fun h=>(hk1 h).2) b5⟩
theorem rp (b:Nat) (h:Hp) (x z:Int) (hb:b≤h.length) (h1:1≤z) (h2:z≤8) (h3:0≤x) (h4:x < z):∃v h',run fns pr b 44 [.s (.int .i64 x),.s (.int .i64 z)] h=some (v,h')∧∃F,v= .ptr h.length [0] 1∧gY h' h.length (bg.new x z) F∧Fw [] h h'∧∀j∈F,h.length≤j:=by
 refine Vm.dZ (nt:=50) rfl SN (by simp) ?_
 have q1:¬z < 1:=by omega
 have q2:¬8 < z:=by omega
 have q3:¬x < 0:=by omega
 have q4:¬z≤x:=by omega
 simp only[B44,MS,MR,q1,q2,q3,q4,go_sem,↓reduceIte,Nat.reduceEqDiff,Nat.reduceBEq,Nat.reduceAdd,Nat.reduceSub,Nat.reduceLT,Nat.reduceLeDiff,Int.reduceLT,Int.reduceLE,Int.reduceEq,Int.reduceToNat]
 refine bh (fun m e H=>∃i y k ts own,m=16 - i∧i≤16∧e 27= .s (.int .i64 (i:Nat))∧e 5= .ptr h.length [0] 1∧e 0= .s (.int .i64 x)∧e 1= .s (.int .i64 z)∧SPp (bg.new x z).p x z h.length H i y k ts own∧Fw [] h H)
   (fun e H=> e 5= .ptr h.length [0] 1∧∃y k ts own,SPp (bg.new x z).p x z h.length H 16 y k ts own∧Fw [] h H)
   16 _ _ ⟨0,_,0,fun _=>(0,0),fun _=> 100,rfl,by omega,rfl,rfl,rfl,rfl,⟨aM _ _,.inl ⟨rfl,rfl⟩,rfl,fun j hj=> by omega⟩,Fw.app _ _ _⟩ ?_ ?_
 ·rintro m e H ⟨i,y,k,ts,own,rfl,hi,e27,e5,e0,e1,hp,fw⟩
  have m7:=hp
  obtain ⟨hm,hy,hom,hts⟩:=m7
  have hlm:=q6z hm
  by_cases c:i < 16
  ·have c':(i:Int)< 16:=by omega
   have iy:IntKind.i64.wrap ((i:Int)+1)=((i+1:Nat):Int):=q18z (by omega)
   have hn:=fun b' h0=> rn b' h0
   have hf:=fun h0=> Hn b h0 i z c h1 h2
   have hmT:=fun t=> q10z hm t
   have hstT:=fun t b'=> m0 hlm t b'
   have gr:∀(p:Bool) (q:Nat),(p || decide (b≤h.length+q))=true:=fun p q=> by simp;right;omega
   have gr0:decide (b≤h.length)=true:=by simpa using hb
   have grH:decide (b≤H.length+1)=true:=by have:=fw.len;simp;omega
   obtain ⟨P,hP⟩:∃P,V.st 104 [.s (.int .i64 (if (i:Int) % z=x then 1 else 0)),.s (.int .u64 1),ki,.ptr H.length [0] 1]=P:=⟨_,rfl⟩
   have hpi:ei ((bg.new x z).p i) H.length=P:=hP
   have pty:P.ty=some 104:=by rw[←hP];rfl
   have pso:P.ax=true:=by rw[←hP];rfl
   obtain ⟨A,hA⟩:∃A:List aV,[aV.cells (some 146) [.st 146 [.al true (some 31) []]],.cells (some 104) [P]]=A:=⟨_,rfl⟩
   have hAl:A.length=2:=by rw[←hA];rfl
   have hA0:(H++A)[H.length]? =some (aV.cells (some 146) [.st 146 [.al true (some 31) []]]):=by rw[←hA];exact aK _ _ 0
   have hA1:(H++A)[H.length+1]? =some (aV.cells (some 104) [P]):=by rw[←hA];exact aK _ _ 1
   have hB1:(H++(A++[.cells (some 104) [P]]))[H.length+1]? =some (aV.cells (some 104) [P]):=by rw[←hA];exact aK _ _ 1
   have hB2:(H++(A++[.cells (some 104) [P]]))[H.length+2]? =some (aV.cells (some 104) [P]):=by rw[←hA];exact aK _ _ 2
   have gW:source (H++(A++[.cells (some 104) [P]])) (.ref (H.length+A.length) [] (some 104) 0 1 1)=some (some 104,[P]):=(kJ (show (H++(A++[.cells (some 104) [P]]))[H.length+A.length]? =some (.cells (some 104) [P]) by rw[hAl];exact hB2) rfl).src
   have hB0:(H++(A++[.cells (some 104) [P]]))[H.length]? =some (aV.cells (some 146) [.st 146 [.al true (some 31) []]]):=by rw[←hA];exact aK _ _ 0
   have key:∀(k':Nat) (H':Hp),k'=k∧0 < i∨H.length+2≤k'→H'[h.length]? =some (.cells (some 101) [.st 101 [.s (.int .i64 x),.s (.int .i64 z),.ref k' [] (some 104) 0 (i+1) (i+1)]])→H'[k']? =some (.cells (some 104) (fW (bg.new x z).p ts i++[P]))→
    H'[H.length]? =some (aV.cells (some 146) [.st 146 [.al true (some 31) []]])→(∀(j:Nat) (b:aV),j≠h.length→(0 < i→j≠k)→H[j]? =some b→H'[j]? =some b)→Fw [] h H'→
    ∃m,m < 16 - i∧∃(i':Nat) (y:V) (k:Nat) (ts:Nat→Nat×Nat) (own:Nat→Nat),m=16 - i'∧i'≤16∧Value.int IntKind.i64 ((i+1:Nat):Int)=Value.int IntKind.i64 (i':Int)∧SPp (bg.new x z).p x z h.length H' i' y k ts own∧Fw [] h H':=by
     intro k' H' a1 a2 a3 a4 a5 a6
     have BM:k'≠H.length:=by
       rcases a1 with ⟨rfl,vD⟩ | a1
       ·rcases hy with ⟨h0,_⟩ | ⟨_,_,hk,_⟩
        ·omega
        ·have:=q6z hk;omega
       ·omega
     rw[←hpi] at a3
     obtain ⟨ts',own',hp2⟩:=hp.step (k':=k') (t:=H.length) (H':=H') hlm (Nat.le_refl _) BM (a1.imp id fun h=> by omega) c a2 a3 ⟨_,a4,.inl ⟨rfl,rfl,rfl⟩⟩ a5
     exact ⟨16 - (i+1),by omega,i+1,_,k',ts',own',rfl,by omega,rfl,hp2,a6⟩
   rcases hy with ⟨h0,rfl⟩ | ⟨vD,rfl,hk,gP,hkb⟩
   ·have wZ:=fun cf base=> iH (cf:=cf) (base:=base) (h:=H++(A++[.cells (some 104) [P]])) (g:=some 104) (bytes:=32) (ys:=[P]) gW (by simp) (by simp)
    have fin:=fun B=> key (H.length+(A.length+1)) (H.set h.length (aV.cells (some 101) [V.st 101 [.s (.int .i64 x),.s (.int .i64 z),.ref (H.length+(A.length+1)) [] (some 104) 0 1 1]])++(A++[aV.cells (some 104) [P],aV.cells (some 104) B])) (.inr (by omega))
      (by rw[h0];exact q10z (q9z hm) _)
    have fin:=fin [P] (by rw[bu (n:=H.length) (by simp),List.getElem?_append_right (by omega),h0];simp[fW]) (by rw[bo (n:=H.length) (by simp),←hA];rfl) (fun j b hj _ hb=> q10z (by rw[List.getElem?_set_ne (Ne.symm hj)];exact hb) _) ((fw.cK (Nat.le_refl _) _).trans (Fw.app _ _ _))
    by_cases cf:(i:Int) % z=x
    ·rw[if_pos cf] at hP
     simp only[e27,e5,e0,e1,c',iy,hn,hf,cf,gr,grH,gr0,hP,pty,pso,hA,hmT,hA1,hstT,wZ,go_sem,↓reduceIte,Nat.reduceEqDiff,Nat.reduceBEq,Nat.reduceAdd,Nat.reduceSub,Nat.reduceLT,Nat.reduceLeDiff,Int.reduceLT,Int.reduceLE,Int.reduceEq,Int.reduceToNat]
     exact fin
    ·rw[if_neg cf] at hP
     simp only[e27,e5,e0,e1,c',iy,hn,hf,cf,gr,grH,gr0,hP,pty,pso,hA,hmT,hA1,hstT,wZ,go_sem,↓reduceIte,Nat.reduceEqDiff,Nat.reduceBEq,Nat.reduceAdd,Nat.reduceSub,Nat.reduceLT,Nat.reduceLeDiff,Int.reduceLT,Int.reduceLE,Int.reduceEq,Int.reduceToNat]
     exact fin
   ·have wZ:=fun cf=> gj (cf:=cf) (base:=b) (h:=H++(A++[.cells (some 104) [P]])) (g:=some 104) (bytes:=32) (ys:=[P]) (q10z hk (A++[.cells (some 104) [P]])) gW (by simp) (by simp[bO];left;omega) (by simp[bT];omega)
    simp only[bT] at wZ
    have hkn:k≠h.length:=fun e=> by rw[e,hom] at gP;omega
    have lR:=q6z hk
    have hmk:∀c,((H++(A++[aV.cells (some 104) [P]])).set k c)[h.length]? =some (.cells (some 101) [.st 101 [.s (.int .i64 x),.s (.int .i64 z),.ref k [] (some 104) 0 i i]]):=fun c=> by rw[List.getElem?_set_ne hkn];exact hmT _
    have fin:=key k (((H++(A++[aV.cells (some 104) [P]])).set k (.cells (some 104) (fW (bg.new x z).p ts i++[P]))).set h.length (.cells (some 101) [.st 101 [.s (.int .i64 x),.s (.int .i64 z),.ref k [] (some 104) 0 (i+1) (i+1)]])) (.inl ⟨rfl,vD⟩)
      (q9z (hmk _)) (by rw[List.getElem?_set_ne (Ne.symm hkn)];exact q9z (q10z hk _)) (by rw[List.getElem?_set_ne (by omega),List.getElem?_set_ne (by omega)];exact hB0)
      (fun j b hj hk hb=> by rw[List.getElem?_set_ne (Ne.symm hj),List.getElem?_set_ne (Ne.symm (hk vD))];exact q10z hb _) (((fw.trans (Fw.app _ _ _)).cK hkb _).cK (Nat.le_refl _) _)
    by_cases cf:(i:Int) % z=x
    ·rw[if_pos cf] at hP
     simp only[e27,e5,e0,e1,c',iy,hn,hf,cf,gr,grH,gr0,hP,pty,pso,hA,hmT,hA1,hstT,wZ,hmk,go_sem,↓reduceIte,Nat.reduceEqDiff,Nat.reduceBEq,Nat.reduceAdd,Nat.reduceSub,Nat.reduceLT,Nat.reduceLeDiff,Int.reduceLT,Int.reduceLE,Int.reduceEq,Int.reduceToNat]
     exact fin
    ·rw[if_neg cf] at hP
     simp only[e27,e5,e0,e1,c',iy,hn,hf,cf,gr,grH,gr0,hP,pty,pso,hA,hmT,hA1,hstT,wZ,hmk,go_sem,↓reduceIte,Nat.reduceEqDiff,Nat.reduceBEq,Nat.reduceAdd,Nat.reduceSub,Nat.reduceLT,Nat.reduceLeDiff,Int.reduceLT,Int.reduceLE,Int.reduceEq,Int.reduceToNat]
     exact fin
  ·have c':¬(i:Int)< 16:=by omega
   obtain rfl:i=16:=by omega
   simp only[e27,e5,c',go_sem,↓reduceIte,Nat.reduceEqDiff,Nat.reduceBEq,Nat.reduceAdd,Nat.reduceSub,Nat.reduceLT,Nat.reduceLeDiff,Int.reduceLT,Int.reduceLE,Int.reduceEq,Int.reduceToNat]
   all_goals exact ⟨y,k,ts,own,hp,fw⟩
 ·rintro e H ⟨e5,y,k,ts,own,hp,fw⟩
  simp only[e5,go_sem,↓reduceIte,Nat.reduceEqDiff,Nat.reduceBEq,Nat.reduceAdd,Nat.reduceSub,Nat.reduceLT,Nat.reduceLeDiff,Int.reduceLT,Int.reduceLE,Int.reduceEq,Int.reduceToNat]
  obtain ⟨h1,h2,h3,h4⟩:=hp
  rcases h2 with ⟨h2,_⟩ | ⟨_,rfl,h6,h7,h8⟩
  ·omega
  ·refine ⟨(h.length::k::(List.range 16).flatMap fun j=> [(ts j).1,(ts j).2]),⟨k,ts,own,⟨h1,h6,fun j hj=>(h4 j hj).1,h3,h7,fun j hj=>⟨(h4 j hj).2.1,(h4 j hj).2.2.1⟩,by simp,by simp,fun j hj=>⟨by simp;right;right;exact ⟨j,hj,.inl rfl⟩,by simp;right;right;exact ⟨j,hj,.inr rfl⟩⟩,?_⟩⟩,fw,?_⟩
   all_goals
     intro j hj
     simp only[List.mem_cons,List.mem_flatMap,List.mem_range,List.not_mem_nil,or_false] at hj
     rcases hj with rfl | rfl | ⟨a,ha,rfl | rfl⟩
   ·exact q6z h1
   ·exact q6z h6
   ·exact (h4 a ha).1.lt.1
   ·exact (h4 a ha).1.lt.2
   ·exact Nat.le_refl _
   ·exact h8
   ·exact (h4 a ha).2.2.2.1
   ·exact (h4 a ha).2.2.2.2
structure POk (s:bg) (i:Nat) (q:kF):Prop where
 role:q.role=0∨q.role=1∨q.role=2
 e1:1≤q.aD
 e2:q.aD≤1099511627776
 Y0:q.role=2→0≤q.to∧q.to < s.bm∧q.to≠s.mem
 to0:q.role≠2→q.to=0
 X3:q.role=0→q.vs=[]
 Pp:gO q.vs
 len:q.vs.length≤4
 vs:∀v∈q.vs,aP v=true∧v.wf∧aH v.iD=i
structure j5 (s:bg):Prop where
 m1:1≤s.bm
 m2:s.bm≤8
 m3:0≤s.mem
 m4:s.mem < s.bm
 p:∀i,i < 16→POk s i (s.p i)
theorem j5.new {a b:Int} (h1:1≤b) (h2:b≤8) (h3:0≤a) (h4:a < b):j5 (bg.new a b):=
 ⟨h1,h2,h3,h4,fun i hi=>⟨by simp only[bg.new];split <;> simp,by simp[bg.new],by simp[bg.new],by simp only[bg.new];split <;> simp,by simp[bg.new],by simp[bg.new],List.Pairwise.nil,by simp[bg.new],by simp[bg.new]⟩⟩
theorem zW.sr {F:List Nat} {h:Hp} {m r:Nat} {s:bg} {ts:Nat→Nat×Nat} {own:Nat→Nat} (hp:zW h m s F r ts own):SR h (.ref r [] (some 104) 0 16 16) (some 104) (fW s.p ts 16):=kJ hp.row (bT _ _ _)
theorem zW.app {F:List Nat} {h:Hp} {m r:Nat} {s:bg} {ts:Nat→Nat×Nat} {own:Nat→Nat} (hp:zW h m s F r ts own) (X:Hp):zW (h++X) m s F r ts own:=hp.mono (Fw.app [] h X) (by simp)
theorem pS (q:kF) (t:Nat):(ei q t).ty=some 104:=rfl
theorem pT (q:kF) (t:Nat):(ei q t).ax=true:=rfl
theorem Pq (b:Nat) (h:Hp) (m:Nat) (s:bg) (F:List Nat) (hs:gY h m s F):run fns pr b 38 [.ptr m [0] 1] h=some (.bI [.s (.int .i64 s.mem),.s (.int .i64 s.bm)],h):=by
 obtain ⟨r,ts,own,hp⟩:=hs
 refine Vm.aU (nt:=12) rfl SB (by simp) ?_
 simp only[B38,hp.o,go_sem,↓reduceIte,Nat.reduceEqDiff,Nat.reduceBEq,Nat.reduceAdd,Nat.reduceSub,Nat.reduceLT,Nat.reduceLeDiff,Int.reduceLT,Int.reduceLE,Int.reduceEq,Int.reduceToNat]
theorem KS (b:Nat) (h:Hp) (m n:Nat) (s:bg) (F:List Nat) (hs:gY h m s F) (hn:n < 16):run fns pr b 39 [.ptr m [0] 1,.s (.int .i64 (n:Nat))] h=some (.bI [.s (.int .i64 (s.p n).role),.s (.int .u64 (s.p n).aD),.s (.int .i64 (s.p n).to)],h):=by
 obtain ⟨r,ts,own,hp⟩:=hs
 refine Vm.aU (nt:=24) rfl SD (by simp) ?_
 have hr:=fun h0=> m6 h.length h0 n
 have q1:(0:Int)≤(n:Int):=by omega
 have q2:(n:Int)< 16:=by omega
 have fi:=fun cf base=> hp.sr.cX (cf:=cf) (base:=base) (k:= .i64) (i:=n) (by rw[bT];exact hn)
 have gh:=fun cf base=> hp.sr.g8 (cf:=cf) (base:=base) (dI _ _ _ _ hn) rfl
 simp only[B39,hr,q1,q2,hp.o,fi,gh,pS,pT,go_sem,↓reduceIte,Nat.reduceEqDiff,Nat.reduceBEq,Nat.reduceAdd,Nat.reduceSub,Nat.reduceLT,Nat.reduceLeDiff,Int.reduceLT,Int.reduceLE,Int.reduceEq,Int.reduceToNat]
 simp only[ei,List.take_left,go_sem,↓reduceIte,Nat.reduceEqDiff,Nat.reduceBEq,Nat.reduceAdd,Nat.reduceSub,Nat.reduceLT,Nat.reduceLeDiff,Int.reduceLT,Int.reduceLE,Int.reduceEq,Int.reduceToNat]
theorem zX (b:Nat) (h:Hp) (m n:Nat) (s:bg) (F:List Nat) (hs:gY h m s F) (hk:j5 s) (hn:n < 16):run fns pr b 40 [.ptr m [0] 1,.s (.int .i64 (n:Nat))] h=some (.al false (some 31) ((s.p n).vs.map ag.enc),h):=by
 obtain ⟨r,ts,own,hp⟩:=hs
 refine Vm.aU (nt:=28) rfl SF (by simp) ?_
 have ok:=hk.p n hn
 have hr:=fun h0=> m6 h.length h0 n
 have q1:(0:Int)≤(n:Int):=by omega
 have q2:(n:Int)< 16:=by omega
 have fi:=fun cf base=> hp.sr.cX (cf:=cf) (base:=base) (k:= .i64) (i:=n) (by rw[bT];exact hn)
 have hpn:(fW s.p ts 16)[n]? =some (.st 104 [.s (.int .i64 (s.p n).role),.s (.int .u64 (s.p n).aD),.s (.int .i64 (s.p n).to),.ptr (ts n).1 [0] 1]):=dI _ _ _ _ hn
 have BO:=fun cf base=> hp.sr.zR (cf:=cf) (base:=base) (f:=0) hpn (by simp)
 have hf3:=fun cf base=> hp.sr.zR (cf:=cf) (base:=base) (f:=3) hpn (by simp)
 have hl0:=fun cf base=> hp.sr.Ho (cf:=cf) (base:=base) (f:=0) (g':=none) hpn rfl rfl
 have wL:=fun cf base=> hp.sr.Ho (cf:=cf) (base:=base) (f:=3) (g':=none) hpn rfl rfl
 have FD:=BN h.length h (ts n).1 (ts n).2 (s.p n).vs (hp.FC n hn) (by have:=ok.len;omega) (fun v hv=> q14z (ok.vs v hv).1)
 by_cases c:(s.p n).role=0
 ·rw[ok.X3 c]
  simp only[B40,hr,q1,q2,hp.o,fi,BO,hl0,c,List.map_nil,go_sem,↓reduceIte,Nat.reduceEqDiff,Nat.reduceBEq,Nat.reduceAdd,Nat.reduceSub,Nat.reduceLT,Nat.reduceLeDiff,Int.reduceLT,Int.reduceLE,Int.reduceEq,Int.reduceToNat]
 ·simp only[B40,hr,q1,q2,hp.o,fi,BO,hf3,hl0,wL,c,FD,kQ,go_sem,↓reduceIte,Nat.reduceEqDiff,Nat.reduceBEq,Nat.reduceAdd,Nat.reduceSub,Nat.reduceLT,Nat.reduceLeDiff,Int.reduceLT,Int.reduceLE,Int.reduceEq,Int.reduceToNat]
def ia (P:ag→Bool):List ag→Nat→Int
 | [],_=> -1
 | x::l,i=> if P x=true then i else ia P l (i+1)
theorem sf (P:ag→Bool):∀(l:List ag) (i:Nat),decide (0≤ia P l i)=l.any P
 | [],i=> rfl
 | x::l,i=> by
   unfold ia
   by_cases c:P x=true
   ·rw[if_pos c,List.any_cons,c];simp
   ·rw[if_neg c,sf P l (i+1),List.any_cons];simp[c]
theorem De (b:Nat) (h:Hp) (x:V) (l:List ag) (f:Nat) (cap:List V) (P:ag→Bool) (hx:SR h x (some 31) (l.map ag.enc)) (hl:l.length≤1000) (hP:∀b,∀v∈l,run fns pr b f (v.enc::cap) h=some (.s (.bool (P v)),h)):
 run fns pr b 108 [x,.fn f cap] h=some (.s (.int .i64 (ia P l 0)),h):=by
 refine Vm.aU (nt:=19) rfl NV (by simp) ?_
 have jd:∀cf base H,aB cf base H .len [x]=some (.s (.int .i64 (l.length:Nat)),H):=fun cf base H=> by rw[hx.cE];simp
 simp only[NT,Gq,Gp,jd,go_sem,↓reduceIte,Nat.reduceEqDiff,Nat.reduceBEq,Nat.reduceAdd,Nat.reduceSub,Nat.reduceLT,Nat.reduceLeDiff,Int.reduceLT,Int.reduceLE,Int.reduceEq,Int.reduceToNat]
 refine bh (fun n e H=>∃i:Nat,n=l.length - i∧i≤l.length∧e 8= .s (.int .i64 i)∧e 7= .s (.int .i64 l.length)∧e 0=x∧e 1= .fn f cap∧H=h∧ia P l 0=ia P (l.drop i) i)
   (fun e H=> H=h∧ia P l 0= -1) l.length _ _ ⟨0,by omega,by omega,rfl,rfl,rfl,rfl,rfl,rfl⟩ ?_ ?_
 ·rintro n e H ⟨i,rfl,hi,e8,e7,e0,e1,rfl,hf⟩
  by_cases c:i < l.length
  ·have c':(i:Int)< l.length:=by omega
   have hw:IntKind.i64.wrap ((i:Int)+1)=((i+1:Nat):Int):=q18z (by omega)
   have hv:l[i]? =some l[i]:=List.getElem?_eq_getElem c
   have hd:l.drop i=l[i]::l.drop (i+1):=List.drop_eq_getElem_cons c
   have hm:l[i]∈l:=List.getElem_mem c
   generalize l[i]=v at hv hd hm
   have hc:=fun b=> hP b v hm
   have fi:=fun cf base=> hx.cX (cf:=cf) (base:=base) (k:= .i64) (i:=i) (by simpa using c)
   have gh:=fun cf base=> hx.g8 (cf:=cf) (base:=base) (i:=i) (v:=v.enc) (by rw[List.getElem?_map,hv];rfl) rfl
   rw[hd] at hf
   by_cases cp:P v=true
   ·have hf2:ia P l 0=i:=by rw[hf];simp[ia,cp]
    rw[hf2]
    simp only[e8,e7,e0,e1,c',fi,gh,hc,cp,aX,aY,List.cons_append,List.nil_append,go_sem,↓reduceIte,Nat.reduceEqDiff,Nat.reduceBEq,Nat.reduceAdd,Nat.reduceSub,Nat.reduceLT,Nat.reduceLeDiff,Int.reduceLT,Int.reduceLE,Int.reduceEq,Int.reduceToNat]
   ·have hf2:ia P l 0=ia P (l.drop (i+1)) (i+1):=by rw[hf];simp[ia,cp]
    simp only[e8,e7,e0,e1,c',fi,gh,hc,cp,hw,aX,aY,List.cons_append,List.nil_append,go_sem,↓reduceIte,Nat.reduceEqDiff,Nat.reduceBEq,Nat.reduceAdd,Nat.reduceSub,Nat.reduceLT,Nat.reduceLeDiff,Int.reduceLT,Int.reduceLE,Int.reduceEq,Int.reduceToNat]
    exact ⟨l.length - (i+1),by omega,i+1,rfl,by omega,rfl,hf2⟩
  ·have c':¬(i:Int)< l.length:=by omega
   simp only[e8,e7,e0,e1,c',go_sem,↓reduceIte,Nat.reduceEqDiff,Nat.reduceBEq,Nat.reduceAdd,Nat.reduceSub,Nat.reduceLT,Nat.reduceLeDiff,Int.reduceLT,Int.reduceLE,Int.reduceEq,Int.reduceToNat]
   rw[hf,List.drop_eq_nil_of_le (by omega)];rfl
 ·rintro e H ⟨rfl,hf⟩
  rw[hf]
  simp only[List.take_left,go_sem,↓reduceIte,Nat.reduceEqDiff,Nat.reduceBEq,Nat.reduceAdd,Nat.reduceSub,Nat.reduceLT,Nat.reduceLeDiff,Int.reduceLT,Int.reduceLE,Int.reduceEq,Int.reduceToNat]
theorem o7 (b:Nat) (h:Hp) (x:V) (l:List ag) (f:Nat) (cap:List V) (P:ag→Bool) (hx:SR h x (some 31) (l.map ag.enc)) (hl:l.length≤1000) (hP:∀b,∀v∈l,run fns pr b f (v.enc::cap) h=some (.s (.bool (P v)),h)):
 run fns pr b 87 [x,.fn f cap] h=some (.s (.bool (l.any P)),h):=by
 refine Vm.aU (nt:=9) rfl Uj (by simp) ?_
 have hi:=fun b=> De b h x l f cap P hx hl hP
 have ha:=sf P l 0
 simp only[B87,hi,ha,go_sem,↓reduceIte,Nat.reduceEqDiff,Nat.reduceBEq,Nat.reduceAdd,Nat.reduceSub,Nat.reduceLT,Nat.reduceLeDiff,Int.reduceLT,Int.reduceLE,Int.reduceEq,Int.reduceToNat]
def mj (s:bg) (v:ag):Int:=
 if (s.p (aH v.iD)).role=0 then 26 else if (s.p (aH v.iD)).role=2 then 27
 else if (oh (s.p (aH v.iD)).vs v.iD).isSome=false∧4≤(s.p (aH v.iD)).vs.length then 13 else 0
def BP (s:bg) (r:aq):Int:=
 if s.bm≤r.dz∨r.dz=s.mem then 1 else if (s.p r.aA.toNat).role=0 then 26 else if (s.p r.aA.toNat).role=2 then 27
 else if r.aD=(s.p r.aA.toNat).aD+1 then 0 else 1
def vE (s:bg) (r:aq):Int:=
 if (r.ai.any fun v=> decide ((aH v.iD:Int)≠r.aA))=true then 1 else if (s.p r.aA.toNat).role=1 then 26
 else if r.aD≤(s.p r.aA.toNat).aD then 31 else 0
def bU (s:bg) (r:aq):Int:=
 if aS r=false then 1 else if r.kind=1 then mj s r.av else if r.kind=2 then BP s r else if r.kind=3 then vE s r
 else if (s.p r.aA.toNat).role=2∧(s.p r.aA.toNat).aD=r.aD then 0 else 26
theorem Hq (b:Nat) (h:Hp) (m:Nat) (s:bg) (F:List Nat) (f:Bool) (v:ag) (hs:gY h m s F) (hk:j5 s) (hl:v.iD.length≤1000000):
 run fns pr b 53 [.ptr m [0] 1,v.gk f] h=some (.s (.int .i64 (mj s v)),h):=by
 obtain ⟨r,ts,own,hp⟩:=hs
 obtain ⟨a1,a2,a3,a4,a5,a6,a7,a8,a9⟩:=v
 simp only at hl
 refine Vm.aU (nt:=42) rfl S9 (by simp) ?_
 have hn:=kN a1
 have ok:=hk.p _ hn
 have xc:=fun b h0=> kO b h0 a1 hl
 have cR:=fun X=>(hp.app X).o
 have fi:=fun cf base X=>(hp.app X).sr.cX (cf:=cf) (base:=base) (k:= .i64) (i:=aH a1) (by rw[bT];exact hn)
 have gh:=fun cf base X=>(hp.app X).sr.g8 (cf:=cf) (base:=base) (dI _ _ _ _ hn) rfl
 have zO:=fun b X=> KP b (h++X) (ts (aH a1)).1 (ts (aH a1)).2 (s.p (aH a1)).vs a1 ((hp.app X).FC _ hn) ok.Pp (by have:=ok.len;omega) (fun v hv=> q14z (ok.vs v hv).1)
 have lz:=fun b X=> KM b (h++X) (ts (aH a1)).1 (ts (aH a1)).2 (s.p (aH a1)).vs ((hp.app X).FC _ hn)
 have n9:=ok.len
 unfold mj
 simp only
 generalize hS:aH a1=S at *
 generalize oh (s.p S).vs a1=o at *
 simp only[B53,ag.gk,xc,cR,fi,gh,pS,pT,go_sem,↓reduceIte,Nat.reduceEqDiff,Nat.reduceBEq,Nat.reduceAdd,Nat.reduceSub,Nat.reduceLT,Nat.reduceLeDiff,Int.reduceLT,Int.reduceLE,Int.reduceEq,Int.reduceToNat]
 have hle:((4:Int)≤(((s.p S).vs.length:Nat):Int))=(4≤(s.p S).vs.length):=propext (by omega)
 by_cases c0:(s.p S).role=0
 ·simp only[ei,c0,zO,aX,aY,List.take_left,go_sem,↓reduceIte,Nat.reduceEqDiff,Nat.reduceBEq,Nat.reduceAdd,Nat.reduceSub,Nat.reduceLT,Nat.reduceLeDiff,Int.reduceLT,Int.reduceLE,Int.reduceEq,Int.reduceToNat]
 ·by_cases c2:(s.p S).role=2
  ·simp only[ei,c0,c2,zO,aX,aY,List.take_left,go_sem,↓reduceIte,Nat.reduceEqDiff,Nat.reduceBEq,Nat.reduceAdd,Nat.reduceSub,Nat.reduceLT,Nat.reduceLeDiff,Int.reduceLT,Int.reduceLE,Int.reduceEq,Int.reduceToNat]
  ·cases o with
   | none=>
     by_cases c4:4≤(s.p S).vs.length
     ·simp only[ei,c0,c2,zO,lz,aX,aY,List.take_left,hle,c4,Option.isSome_none,go_sem,↓reduceIte,Nat.reduceEqDiff,Nat.reduceBEq,Nat.reduceAdd,Nat.reduceSub,Nat.reduceLT,Nat.reduceLeDiff,Int.reduceLT,Int.reduceLE,Int.reduceEq,Int.reduceToNat]
      all_goals rfl
     ·simp only[ei,c0,c2,zO,lz,aX,aY,List.take_left,hle,c4,Option.isSome_none,go_sem,↓reduceIte,Nat.reduceEqDiff,Nat.reduceBEq,Nat.reduceAdd,Nat.reduceSub,Nat.reduceLT,Nat.reduceLeDiff,Int.reduceLT,Int.reduceLE,Int.reduceEq,Int.reduceToNat]
      all_goals rfl
   | some w=>
     simp only[ei,c0,c2,zO,lz,aX,aY,List.take_left,Option.isSome_some,go_sem,↓reduceIte,Nat.reduceEqDiff,Nat.reduceBEq,Nat.reduceAdd,Nat.reduceSub,Nat.reduceLT,Nat.reduceLeDiff,Int.reduceLT,Int.reduceLE,Int.reduceEq,Int.reduceToNat]
     all_goals rfl
theorem KT (b:Nat) (h:Hp) (m:Nat) (s:bg) (F:List Nat) (r:aq) (hs:gY h m s F) (hk:j5 s) (h0:0≤r.aA) (h1:r.aA < 16):
 run fns pr b 54 [.ptr m [0] 1,r.enc] h=some (.s (.int .i64 (BP s r)),h):=by
 obtain ⟨rw,ts,own,hp⟩:=hs
 obtain ⟨kind,aA,dz,aD,av,ai⟩:=r
 simp only at h0 h1
 obtain ⟨n,rfl⟩:∃n:Nat,aA=(n:Int):=⟨aA.toNat,by omega⟩
 have hn:n < 16:=by omega
 refine Vm.aU (nt:=46) rfl Tb (by simp) ?_
 have ok:=hk.p _ hn
 have cR:=fun X=>(hp.app X).o
 have fi:=fun cf base X=>(hp.app X).sr.cX (cf:=cf) (base:=base) (k:= .i64) (i:=n) (by rw[bT];exact hn)
 have gh:=fun cf base X=>(hp.app X).sr.g8 (cf:=cf) (base:=base) (dI _ _ _ _ hn) rfl
 have hw:IntKind.u64.wrap ((s.p n).aD+1)=(s.p n).aD+1:=by have:=ok.e1;have:=ok.e2;exact wrap_u64 (by omega) (by omega)
 unfold BP
 simp only[Int.toNat_natCast]
 simp only[B54,aq.enc,cR,fi,gh,pS,pT,go_sem,↓reduceIte,Nat.reduceEqDiff,Nat.reduceBEq,Nat.reduceAdd,Nat.reduceSub,Nat.reduceLT,Nat.reduceLeDiff,Int.reduceLT,Int.reduceLE,Int.reduceEq,Int.reduceToNat]
 by_cases c1:s.bm≤dz
 ·simp only[c1,List.take_left,go_sem,↓reduceIte,Nat.reduceEqDiff,Nat.reduceBEq,Nat.reduceAdd,Nat.reduceSub,Nat.reduceLT,Nat.reduceLeDiff,Int.reduceLT,Int.reduceLE,Int.reduceEq,Int.reduceToNat]
  all_goals rfl
 ·by_cases c2:dz=s.mem
  ·have c1':¬s.bm≤s.mem:=by rw[←c2];exact c1
   simp only[cR,c1,c1',c2,List.take_left,go_sem,↓reduceIte,Nat.reduceEqDiff,Nat.reduceBEq,Nat.reduceAdd,Nat.reduceSub,Nat.reduceLT,Nat.reduceLeDiff,Int.reduceLT,Int.reduceLE,Int.reduceEq,Int.reduceToNat]
   all_goals rfl
  ·by_cases c3:(s.p n).role=0
   ·simp only[cR,c1,c2,c3,ei,List.take_left,go_sem,↓reduceIte,Nat.reduceEqDiff,Nat.reduceBEq,Nat.reduceAdd,Nat.reduceSub,Nat.reduceLT,Nat.reduceLeDiff,Int.reduceLT,Int.reduceLE,Int.reduceEq,Int.reduceToNat]
    all_goals rfl
   ·by_cases c4:(s.p n).role=2
    ·simp only[cR,c1,c2,c3,c4,ei,List.take_left,go_sem,↓reduceIte,Nat.reduceEqDiff,Nat.reduceBEq,Nat.reduceAdd,Nat.reduceSub,Nat.reduceLT,Nat.reduceLeDiff,Int.reduceLT,Int.reduceLE,Int.reduceEq,Int.reduceToNat]
     all_goals rfl
    ·by_cases c5:aD=(s.p n).aD+1
     ·simp only[cR,c1,c2,c3,c4,c5,hw,ei,List.take_left,go_sem,↓reduceIte,Nat.reduceEqDiff,Nat.reduceBEq,Nat.reduceAdd,Nat.reduceSub,Nat.reduceLT,Nat.reduceLeDiff,Int.reduceLT,Int.reduceLE,Int.reduceEq,Int.reduceToNat]
      all_goals rfl
     ·simp only[cR,c1,c2,c3,c4,c5,hw,ei,List.take_left,go_sem,↓reduceIte,Nat.reduceEqDiff,Nat.reduceBEq,Nat.reduceAdd,Nat.reduceSub,Nat.reduceLT,Nat.reduceLeDiff,Int.reduceLT,Int.reduceLE,Int.reduceEq,Int.reduceToNat]
      all_goals rfl
theorem Df (b:Nat) (h:Hp) (n:Nat) (v:ag) (rest:List V) (id:Nat) (hl:v.iD.length≤1000000) (k:V) (hg:h[id]? =some (.cells (some 41) [.st 41 (k:: .s (.int .i64 (n:Nat))::rest)])):
 run fns pr b 88 [v.enc,.ptr id [0] 1] h=some (.s (.bool (decide ((aH v.iD:Int)≠(n:Nat)))),h):=by
 refine Vm.aU (nt:=10) rfl Ul (by simp) ?_
 obtain ⟨a1,a2,a3,a4,a5,a6,a7,a8,a9⟩:=v
 simp only at hl ⊢
 have xc:=fun b h0=> kO b h0 a1 hl
 have cR:=fun X=> q10z hg X
 generalize aH a1=S at *
 have hq:1 < rest.length+1+1:=by omega
 simp only[B88,ag.enc,xc,cR,hq,List.take_left,go_sem,↓reduceIte,Nat.reduceEqDiff,Nat.reduceBEq,Nat.reduceAdd,Nat.reduceSub,Nat.reduceLT,Nat.reduceLeDiff,Int.reduceLT,Int.reduceLE,Int.reduceEq,Int.reduceToNat]
 all_goals simp[bne,Bool.beq_eq_decide_eq]
theorem Hr (b:Nat) (h:Hp) (m:Nat) (s:bg) (F:List Nat) (r:aq) (hs:gY h m s F) (hk:j5 s) (h0:0≤r.aA) (h1:r.aA < 16) (hv:∀v∈r.ai,v.wf) (hl:r.ai.length≤4):
 run fns pr b 55 [.ptr m [0] 1,r.enc] h=some (.s (.int .i64 (vE s r)),h):=by
 obtain ⟨rw,ts,own,hp⟩:=hs
 obtain ⟨kind,aA,dz,aD,av,ai⟩:=r
 simp only at h0 h1 hv hl
 obtain ⟨n,rfl⟩:∃n:Nat,aA=(n:Int):=⟨aA.toNat,by omega⟩
 have hn:n < 16:=by omega
 refine Vm.aU (nt:=29) rfl Td (by simp) ?_
 have ok:=hk.p _ hn
 have cR:=fun X=>(hp.app X).o
 have fi:=fun cf base X=>(hp.app X).sr.cX (cf:=cf) (base:=base) (k:= .i64) (i:=n) (by rw[bT];exact hn)
 have gh:=fun cf base X=>(hp.app X).sr.g8 (cf:=cf) (base:=base) (dI _ _ _ _ hn) rfl
 have hc:=fun b H (hg:H[h.length]? =_)=> o7 b H (.al false (some 31) (ai.map ag.enc)) ai 88 [.ptr h.length [0] 1] (fun v=> decide ((aH v.iD:Int)≠(n:Nat))) (.inl ⟨_,rfl⟩) (by omega)
   (fun b v hm=> Df b H n v [.s (.int .i64 dz),.s (.int .u64 aD),av.enc,.al false (some 31) (ai.map ag.enc)] h.length (by have:=(hv v hm).iD;omega) (.s (.int .i64 kind)) hg)
 have hc2:=fun b X=> hc b (h++aV.cells (some 41) [.st 41 [.s (.int .i64 kind),.s (.int .i64 n),.s (.int .i64 dz),.s (.int .u64 aD),av.enc,.al false (some 31) (ai.map ag.enc)]]::X) (by simp)
 unfold vE
 simp only[Int.toNat_natCast]
 generalize (ai.any fun v=> decide ((aH v.iD:Int)≠(n:Nat)))=q at *
 simp only[B55,aq.enc,cR,fi,gh,pS,pT,go_sem,↓reduceIte,Nat.reduceEqDiff,Nat.reduceBEq,Nat.reduceAdd,Nat.reduceSub,Nat.reduceLT,Nat.reduceLeDiff,Int.reduceLT,Int.reduceLE,Int.reduceEq,Int.reduceToNat]
 cases q
 ·by_cases c3:(s.p n).role=1
  ·simp only[hc2,c3,ei,List.take_left,go_sem,↓reduceIte,Nat.reduceEqDiff,Nat.reduceBEq,Nat.reduceAdd,Nat.reduceSub,Nat.reduceLT,Nat.reduceLeDiff,Int.reduceLT,Int.reduceLE,Int.reduceEq,Int.reduceToNat]
   all_goals rfl
  ·by_cases c4:aD≤(s.p n).aD
   ·simp only[hc2,c3,c4,ei,List.take_left,go_sem,↓reduceIte,Nat.reduceEqDiff,Nat.reduceBEq,Nat.reduceAdd,Nat.reduceSub,Nat.reduceLT,Nat.reduceLeDiff,Int.reduceLT,Int.reduceLE,Int.reduceEq,Int.reduceToNat]
    all_goals rfl
   ·simp only[hc2,c3,c4,ei,List.take_left,go_sem,↓reduceIte,Nat.reduceEqDiff,Nat.reduceBEq,Nat.reduceAdd,Nat.reduceSub,Nat.reduceLT,Nat.reduceLeDiff,Int.reduceLT,Int.reduceLE,Int.reduceEq,Int.reduceToNat]
    all_goals rfl
 ·simp only[hc2,List.take_left,go_sem,↓reduceIte,Nat.reduceEqDiff,Nat.reduceBEq,Nat.reduceAdd,Nat.reduceSub,Nat.reduceLT,Nat.reduceLeDiff,Int.reduceLT,Int.reduceLE,Int.reduceEq,Int.reduceToNat]
  all_goals rfl
theorem m8 {r:aq} (h:aS r=true) (h1:r.kind≠1):0≤r.aA∧r.aA < 16∧1≤r.aD∧r.aD≤1099511627776∧r.av=zeroV:=by
 unfold aS kK at h
 rw[if_neg h1] at h
 split at h
 ·simp at h;simp[h]
 ·split at h
  ·simp at h;simp[h]
  ·split at h
   ·simp at h;simp[h]
   ·cases h
theorem pU {r:aq} (h:aS r=true):r.ai.length≤4:=by
 unfold aS at h
 split at h
 ·simp at h;simp[h]
 ·split at h
  ·simp at h;simp[h]
  ·split at h
   ·rw[Bool.and_eq_true] at h
    have:=h.2
    unfold dd at this
    rw[Bool.and_eq_true,decide_eq_true_eq] at this
    exact this.1
   ·split at h
    ·simp at h;simp[h]
    ·cases h
theorem xq (b:Nat) (h:Hp) (m:Nat) (s:bg) (F:List Nat) (r:aq) (hs:gY h m s F) (hk:j5 s) (hw:r.wf) (hv:∀v∈r.ai,v.wf):
 run fns pr b 26 [.ptr m [0] 1,r.enc] h=some (.s (.int .i64 (bU s r)),h):=by
 have xf:=fun b X=> me b (h++X) r hv
 have xt:=fun b X=> Hq b (h++X) m s F false r.av (hs.app X) hk (by have:=hw.av.iD;omega)
 have hgo:=fun b X h0 h1=> KT b (h++X) m s F r (hs.app X) hk h0 h1
 have hco:=fun b X h0 h1 h4=> Hr b (h++X) m s F r (hs.app X) hk h0 h1 hv h4
 have hgk:=m8 (r:=r)
 have hg4:=pU (r:=r)
 have du:r.enc.ty=some 41:=rfl
 have jB:r.enc.ax=true:=rfl
 obtain ⟨rw,ts,own,hp⟩:=hs
 refine Vm.aU (nt:=45) rfl Sc (by simp) ?_
 unfold bU
 cases hr:aS r with
 | false=>
   rw[if_pos rfl]
   simp only[B26,xf,hr,du,jB,List.take_left,go_sem,↓reduceIte,Nat.reduceEqDiff,Nat.reduceBEq,Nat.reduceAdd,Nat.reduceSub,Nat.reduceLT,Nat.reduceLeDiff,Int.reduceLT,Int.reduceLE,Int.reduceEq,Int.reduceToNat]
 | true=>
   rw[if_neg (by simp)]
   have h4:=hg4 hr
   have hgk:=hgk hr
   obtain ⟨kind,aA,dz,aD,av,ai⟩:=r
   simp only[aq.enc,ag.lE] at *
   by_cases k1:kind=1
   ·subst k1
    rw[if_pos rfl]
    simp only[B26,xf,hr,xt,fE,fF,List.take_left,go_sem,↓reduceIte,Nat.reduceEqDiff,Nat.reduceBEq,Nat.reduceAdd,Nat.reduceSub,Nat.reduceLT,Nat.reduceLeDiff,Int.reduceLT,Int.reduceLE,Int.reduceEq,Int.reduceToNat]
   ·rw[if_neg k1]
    obtain ⟨g1,g2,g3,g4,g5⟩:=hgk k1
    have hgo:=fun b X=> hgo b X g1 g2
    have hco:=fun b X=> hco b X g1 g2 h4
    by_cases k2:kind=2
    ·subst k2
     rw[if_pos rfl]
     simp only[B26,xf,hr,hgo,fE,fF,List.take_left,go_sem,↓reduceIte,Nat.reduceEqDiff,Nat.reduceBEq,Nat.reduceAdd,Nat.reduceSub,Nat.reduceLT,Nat.reduceLeDiff,Int.reduceLT,Int.reduceLE,Int.reduceEq,Int.reduceToNat]
    ·rw[if_neg k2]
     by_cases k3:kind=3
     ·subst k3
      rw[if_pos rfl]
      simp only[B26,xf,hr,hco,fE,fF,List.take_left,go_sem,↓reduceIte,Nat.reduceEqDiff,Nat.reduceBEq,Nat.reduceAdd,Nat.reduceSub,Nat.reduceLT,Nat.reduceLeDiff,Int.reduceLT,Int.reduceLE,Int.reduceEq,Int.reduceToNat]
     ·rw[if_neg k3]
      obtain ⟨n,rfl⟩:∃n:Nat,aA=(n:Int):=⟨aA.toNat,by omega⟩
      have hn:n < 16:=by omega
      have cR:=fun X=>(hp.app X).o
      have fi:=fun cf base X=>(hp.app X).sr.cX (cf:=cf) (base:=base) (k:= .i64) (i:=n) (by rw[bT];exact hn)
      have gh:=fun cf base X=>(hp.app X).sr.g8 (cf:=cf) (base:=base) (dI _ _ _ _ hn) rfl
      simp only[Int.toNat_natCast]
      simp only[B26,xf,hr,k1,k2,k3,cR,fi,gh,pS,pT,go_sem,↓reduceIte,Nat.reduceEqDiff,Nat.reduceBEq,Nat.reduceAdd,Nat.reduceSub,Nat.reduceLT,Nat.reduceLeDiff,Int.reduceLT,Int.reduceLE,Int.reduceEq,Int.reduceToNat]
      by_cases c1:(s.p n).role=2
      ·by_cases c2:(s.p n).aD=aD
       ·simp only[c1,c2,ei,List.take_left,go_sem,↓reduceIte,Nat.reduceEqDiff,Nat.reduceBEq,Nat.reduceAdd,Nat.reduceSub,Nat.reduceLT,Nat.reduceLeDiff,Int.reduceLT,Int.reduceLE,Int.reduceEq,Int.reduceToNat]
        all_goals rfl
       ·simp only[c1,c2,ei,List.take_left,go_sem,↓reduceIte,Nat.reduceEqDiff,Nat.reduceBEq,Nat.reduceAdd,Nat.reduceSub,Nat.reduceLT,Nat.reduceLeDiff,Int.reduceLT,Int.reduceLE,Int.reduceEq,Int.reduceToNat]
        all_goals rfl
      ·simp only[c1,ei,List.take_left,go_sem,↓reduceIte,Nat.reduceEqDiff,Nat.reduceBEq,Nat.reduceAdd,Nat.reduceSub,Nat.reduceLT,Nat.reduceLeDiff,Int.reduceLT,Int.reduceLE,Int.reduceEq,Int.reduceToNat]
       all_goals rfl
def bE (s:bg) (r:aq):Int×bg:=
 if bU s r≠0 then (bU s r,s)
 else if r.kind=1 then ((o5 (s.p (aH r.av.iD)).vs r.av).1,s.o6 (aH r.av.iD) {s.p (aH r.av.iD) with vs:=(o5 (s.p (aH r.av.iD)).vs r.av).2})
 else if r.kind=2 then (0,s.o6 r.aA.toNat ⟨2,r.aD,r.dz,(s.p r.aA.toNat).vs⟩)
 else if r.kind=3 then (0,s.o6 r.aA.toNat ⟨1,r.aD,0,r.ai⟩)
 else (0,s.o6 r.aA.toNat ⟨0,r.aD,0,[]⟩)
theorem q31z {l:List ag} (h:dd l=true):∀(j i:Nat) (hij:i < j) (hj:j < l.length),cP (l[i]).iD (l[j]).iD < 0:=by
 unfold dd at h
 rw[Bool.and_eq_true,List.all_eq_true] at h
 have step:∀i (hi:i+1 < l.length),cP (l[i]).iD (l[i+1]).iD < 0:=fun i hi=> by
   have:=h.2 (i+1) (List.mem_range.2 hi)
   unfold g9 at this
   rw[Bool.and_eq_true] at this
   have:=this.2
   simp only[Nat.add_sub_cancel,List.getD,List.getElem?_eq_getElem hi,List.getElem?_eq_getElem (show i < l.length by omega),Option.getD_some] at this
   simpa using this
 intro j
 induction j with
 | zero=> intro i hij;omega
 | succ j ih=>
   intro i hij hj
   rcases Nat.lt_or_ge i j with h1 | h1
   ·exact fc _ _ _ (ih i h1 (by omega)) (step j hj)
   ·obtain rfl:i=j:=by omega
    exact step i hj
theorem q32z {l:List ag} (h:dd l=true):rising l=true:=by
 have h1:=q31z h
 unfold dd at h
 rw[Bool.and_eq_true,decide_eq_true_eq,List.all_eq_true] at h
 unfold rising
 rw[Bool.and_eq_true,Bool.and_eq_true,decide_eq_true_eq,decide_eq_true_eq,List.all_eq_true]
 refine ⟨⟨h.1,fun v hv=> ?_⟩,List.pairwise_iff_getElem.2 fun i j hi hj hij=> h1 j i hij hj⟩
 obtain ⟨i,hi,rfl⟩:=List.getElem_of_mem hv
 have:=h.2 i (List.mem_range.2 hi)
 unfold g9 at this
 rw[Bool.and_eq_true,List.getD,List.getElem?_eq_getElem hi] at this
 exact this.1
theorem q25z {l:List V} {i:Nat} {x:V} (h:l[i]? =some x):l.set i x=l:=List.ext_getElem? fun k=> by
 rw[List.getElem?_set]
 by_cases hk:i=k
 ·subst hk
  obtain ⟨h1,h2⟩:=List.getElem?_eq_some_iff.1 h
  simp[h1,h,h2]
 ·simp[hk]
theorem zW.vs {F:List Nat} {h h':Hp} {m r i k':Nat} {s:bg} {ts:Nat→Nat×Nat} {own:Nat→Nat} {l:List ag} (hp:zW h m s F r ts own) (hi:i < 16)
 (hT:TR h' (ts i).1 k' l) (f:Fw [(ts i).1,(ts i).2] h h') (hk:k'=(ts i).2∨k'=(ts i).1∨h.length≤k'):
 ∃F',gY h' m (s.o6 i {s.p i with vs:=l}) F'∧Fw F h h'∧∀j∈F',j∈F∨h.length≤j:=by
 obtain ⟨o1,o2⟩:=hp.ot _ hi
 have cD:∀j,j≠(ts i).1→j≠(ts i).2→j∉ [(ts i).1,(ts i).2]:=fun j h1 h2=> by simp[h1,h2]
 have ck:=f.dw _ _ hp.row (cD r (fun e=> by rw[←e,hp.orr] at o1;omega) (fun e=> by rw[←e,hp.orr] at o2;omega))
 refine ⟨_,hp.part (q:= {s.p i with vs:=l}) (t':=(ts i).1) hi ?_ hT (fun j b _ h1 h2 hb=> f.dw _ _ hb (cD j h1 h2)) (.inl rfl) hk f.len,f.mono ?_,?_⟩
 ·rw[ck];congr 2;exact (q25z (dI _ _ _ _ hi)).symm
 ·intro j hj
  simp only[List.mem_cons,List.not_mem_nil,or_false] at hj
  rcases hj with rfl | rfl
  ·exact (hp.ft _ hi).1
  ·exact (hp.ft _ hi).2
 ·intro j hj
  simp only[List.mem_cons] at hj
  rcases hj with rfl | rfl | hj
  ·exact .inl (hp.ft _ hi).1
  ·rcases hk with rfl | rfl | hk
   ·exact .inl (hp.ft _ hi).2
   ·exact .inl (hp.ft _ hi).1
   ·exact .inr hk
  ·exact .inl hj
theorem zW.Vn {F:List Nat} {h h':Hp} {m r i t' k':Nat} {s:bg} {ts:Nat→Nat×Nat} {own:Nat→Nat} {q:kF} (hp:zW h m s F r ts own) (hi:i < 16)
 (hr:h'[r]? =some (.cells (some 104) ((fW s.p ts 16).set i (ei q t')))) (hT:TR h' t' k' q.vs) (f:Fw [r,(ts i).1,(ts i).2] h h') (ht:t'=(ts i).1∨h.length≤t') (hk:k'=(ts i).2∨k'=(ts i).1∨h.length≤k'):
 ∃F',gY h' m (s.o6 i q) F'∧Fw F h h'∧∀j∈F',j∈F∨h.length≤j:=by
 refine ⟨_,hp.part hi hr hT (fun j b h0 h1 h2 hb=> f.dw _ _ hb (by simp[h0,h1,h2])) ht hk f.len,f.mono ?_,?_⟩
 ·intro j hj
  simp only[List.mem_cons,List.not_mem_nil,or_false] at hj
  rcases hj with rfl | rfl | rfl
  ·exact hp.fr
  ·exact (hp.ft _ hi).1
  ·exact (hp.ft _ hi).2
 ·intro j hj
  simp only[List.mem_cons] at hj
  rcases hj with rfl | rfl | hj
  ·rcases ht with rfl | ht
   ·exact .inl (hp.ft _ hi).1
   ·exact .inr ht
  ·rcases hk with rfl | rfl | hk
   ·exact .inl (hp.ft _ hi).2
   ·exact .inl (hp.ft _ hi).1
   ·exact .inr hk
  ·exact .inl hj
theorem sg (b:Nat) (h:Hp) (m:Nat) (s:bg) (F:List Nat) (r:aq) (hF:∀j∈F,b≤j) (hs:gY h m s F) (hk:j5 s) (hw:r.wf) (hv:∀v∈r.ai,v.wf):
 ∃v h',run fns pr b 33 [.ptr m [0] 1,r.enc] h=some (v,h')∧v= .s (.int .i64 (bE s r).1)∧∃F',gY h' m (bE s r).2 F'∧Fw F h h'∧∀j∈F',j∈F∨h.length≤j:=by
 have yZ:=fun b X=> xq b (h++X) m s F r (hs.app X) hk hw hv
 have du:r.enc.ty=some 41:=rfl
 have jB:r.enc.ax=true:=rfl
 have rk:=hs
 obtain ⟨rw,ts,own,hp⟩:=hs
 refine Vm.dZ (nt:=79) rfl Sq (by simp) ?_
 unfold bE
 by_cases c0:bU s r=0
 case neg=>
   rw[if_pos c0]
   simp only[B33,yZ,c0,du,jB,go_sem,↓reduceIte,Nat.reduceEqDiff,Nat.reduceBEq,Nat.reduceAdd,Nat.reduceSub,Nat.reduceLT,Nat.reduceLeDiff,Int.reduceLT,Int.reduceLE,Int.reduceEq,Int.reduceToNat]
   exact ⟨_,rk.app _,Fw.app _ _ _,fun j hj=> .inl hj⟩
 rw[if_neg (by simp[c0])]
 have hr:aS r=true:=by
   cases hr:aS r with
   | true=> rfl
   | false=> unfold bU at c0;rw[if_pos hr] at c0;cases c0
 have hgk:=m8 hr
 rw[c0] at yZ
 by_cases k1:r.kind=1
 ·rw[if_pos k1]
  have jC:aP r.av=true:=by unfold aS at hr;rw[if_pos k1] at hr;simp at hr;simp[hr]
  obtain ⟨kind,aA,dz,aD,av,ai⟩:=r
  obtain ⟨w1,w2,w3,w4,w5,w6⟩:=hw
  simp only at k1 jC w5 ⊢
  subst k1
  have hvi:av.iD.length=4:=by have:=w5.iD;omega
  have hn:=kN av.iD
  have ok:=hk.p _ hn
  have xc:=fun b h0=> kO b h0 av.iD (by omega)
  have cR:=fun X=>(hp.app X).o
  have fi:=fun cf base X=>(hp.app X).sr.cX (cf:=cf) (base:=base) (k:= .i64) (i:=aH av.iD) (by rw[bT];exact hn)
  have hpn:(fW s.p ts 16)[aH av.iD]? =some (.st 104 [.s (.int .i64 (s.p (aH av.iD)).role),.s (.int .u64 (s.p (aH av.iD)).aD),.s (.int .i64 (s.p (aH av.iD)).to),.ptr (ts (aH av.iD)).1 [0] 1]):=dI _ _ _ _ hn
  have hf3:=fun cf base X=>(hp.app X).sr.zR (cf:=cf) (base:=base) (f:=3) hpn (by simp)
  have wL:=fun cf base X=>(hp.app X).sr.Ho (cf:=cf) (base:=base) (f:=3) (g':=none) hpn rfl rfl
  have hpu:=KQ b (h++[aV.cells (some 41) [aq.enc ⟨1,aA,dz,aD,av,ai⟩]]) (ts (aH av.iD)).1 (ts (aH av.iD)).2 (s.p (aH av.iD)).vs av (hF _ (hp.ft _ hn).1) ((hp.app _).FC _ hn) ok.Pp ok.len
  have nz:aq.enc ⟨1,aA,dz,aD,av,ai⟩=V.st 41 [.s (.int .i64 1),.s (.int .i64 aA),.s (.int .i64 dz),.s (.int .u64 aD),av.enc,.al false (some 31) (ai.map ag.enc)]:=rfl
  have hve:av.enc= .st 31 [.arr 27 (av.iD.map aa),.s (.int .u64 av.gen),.arr 25 (av.qY.map aa),.al false none (av.bY.map aa),.s (.int .i64 av.bX),.s (.int .i64 av.used),.arr 25 (av.owner.map aa),.s (.bool av.gone),.s (.bool av.qq)]:=rfl
  rw[nz] at yZ hpu ⊢
  rw[hve] at yZ hpu ⊢
  generalize hEs:(ai.map ag.enc)=es at *
  obtain ⟨H2,k2,hpu,hT,f2,zQ⟩:=hpu
  have fA:∀X,Fw [] h (h++X):=fun X=> Fw.app [] h X
  have fin:=(hp.mono (fA _) (by simp)).vs hn hT f2 (by omega)
  obtain ⟨F',q1,q2,q3⟩:=fin
  have q2:=((fA _).mono (T:=F) (by simp)).trans q2
  have q3:∀j∈F',j∈F∨h.length≤j:=fun j hj=>(q3 j hj).imp id fun h=> by rw[List.length_append] at h;omega
  simp only[B33,yZ,xc,cR,fi,hf3,wL,hpu,go_sem,↓reduceIte,Nat.reduceEqDiff,Nat.reduceBEq,Nat.reduceAdd,Nat.reduceSub,Nat.reduceLT,Nat.reduceLeDiff,Int.reduceLT,Int.reduceLE,Int.reduceEq,Int.reduceToNat]
  exact ⟨F',q1,q2,q3⟩
 ·rw[if_neg k1]
  obtain ⟨g1,g2,g3,g4,g5⟩:=hgk k1
  have h4:=pU hr
  have hrk:=q33z hr
  have xu:r.kind=3→rising r.ai=true:=fun k3=> by
    unfold aS at hr
    rw[k3] at hr
    simp at hr
    exact q32z hr.2
  obtain ⟨kind,aA,dz,aD,av,ai⟩:=r
  simp only at k1 g1 g2 g3 g4 h4 hrk xu ⊢
  obtain ⟨n,rfl⟩:∃n:Nat,aA=(n:Int):=⟨aA.toNat,by omega⟩
  have hn:n < 16:=by omega
  simp only[Int.toNat_natCast]
  have nz:aq.enc ⟨kind,n,dz,aD,av,ai⟩=V.st 41 [.s (.int .i64 kind),.s (.int .i64 n),.s (.int .i64 dz),.s (.int .u64 aD),av.enc,.al false (some 31) (ai.map ag.enc)]:=rfl
  rw[nz] at yZ ⊢
  have hpA:=hp.app [aV.cells (some 41) [V.st 41 [.s (.int .i64 kind),.s (.int .i64 n),.s (.int .i64 dz),.s (.int .u64 aD),av.enc,.al false (some 31) (ai.map ag.enc)]]]
  have fA:Fw [] h (h++[aV.cells (some 41) [V.st 41 [.s (.int .i64 kind),.s (.int .i64 n),.s (.int .i64 dz),.s (.int .u64 aD),av.enc,.al false (some 31) (ai.map ag.enc)]]]):=Fw.app [] h _
  have hid:(h++[aV.cells (some 41) [V.st 41 [.s (.int .i64 kind),.s (.int .i64 n),.s (.int .i64 dz),.s (.int .u64 aD),av.enc,.al false (some 31) (ai.map ag.enc)]]])[h.length]? =some (aV.cells (some 41) [V.st 41 [.s (.int .i64 kind),.s (.int .i64 n),.s (.int .i64 dz),.s (.int .u64 aD),av.enc,.al false (some 31) (ai.map ag.enc)]]):=aM _ _
  have hcA:=fun b=> yZ b [aV.cells (some 41) [V.st 41 [.s (.int .i64 kind),.s (.int .i64 n),.s (.int .i64 dz),.s (.int .u64 aD),av.enc,.al false (some 31) (ai.map ag.enc)]]]
  have hlA:(h++[aV.cells (some 41) [V.st 41 [.s (.int .i64 kind),.s (.int .i64 n),.s (.int .i64 dz),.s (.int .u64 aD),av.enc,.al false (some 31) (ai.map ag.enc)]]]).length=h.length+1:=by simp
  have q9:=q6z hp.row
  have cD:rw≠h.length:=by omega
  clear yZ rk
  generalize hHA:h++[aV.cells (some 41) [V.st 41 [.s (.int .i64 kind),.s (.int .i64 n),.s (.int .i64 dz),.s (.int .u64 aD),av.enc,.al false (some 31) (ai.map ag.enc)]]]=HA at *
  have fi:=fun cf base=> hpA.sr.cX (cf:=cf) (base:=base) (k:= .i64) (i:=n) (by rw[bT];exact hn)
  have hep:jh (.ref rw [] (some 104) 0 16 16) n= .ptr rw [n] 16:=by simp[jh]
  simp only[hep] at fi
  have hPn:(fW s.p ts 16)[n]? =some (.st 104 [.s (.int .i64 (s.p n).role),.s (.int .u64 (s.p n).aD),.s (.int .i64 (s.p n).to),.ptr (ts n).1 [0] 1]):=dI _ _ _ _ hn
  have hPl:=bT s.p ts 16
  have hPs:∀x,((fW s.p ts 16).set n x)[n]? =some x:=fun x=> by rw[List.getElem?_set_self (by rw[hPl];exact hn)]
  have hgo:=hpA.o
  have vy:=hpA.row
  have lU:b≤rw:=hF _ hp.fr
  have aR:∀B,(HA.set rw B)[rw]? =some B:=fun B=> q9z vy
  have hsi:∀B,(HA.set rw B)[h.length]? =HA[h.length]? :=fun B=> by rw[List.getElem?_set_ne cD]
  have mY:∀es',Fw [rw,(ts n).1,(ts n).2] HA (HA.set rw (.cells (some 104) es')):=fun es'=> Fw.set (by simp) vy
  have hnr:(ts n).1≠rw∧(ts n).2≠rw:=by
    obtain ⟨o1,o2⟩:=hp.ot _ hn
    exact ⟨fun e=> by rw[e,hp.orr] at o1;omega,fun e=> by rw[e,hp.orr] at o2;omega⟩
  have fin:∀(q:kF) (t' k':Nat) (h':Hp),h'[rw]? =some (.cells (some 104) ((fW s.p ts 16).set n (ei q t')))→TR h' t' k' q.vs→Fw [rw,(ts n).1,(ts n).2] HA h'→(t'=(ts n).1∨HA.length≤t')→(k'=(ts n).2∨k'=(ts n).1∨HA.length≤k')→∃F',gY h' m (s.o6 n q) F'∧Fw F h h'∧∀j∈F',j∈F∨h.length≤j:=by
    intro q t' k' h' a1 a2 a3 a4 a5
    obtain ⟨F',q1,q2,q3⟩:=hpA.Vn hn a1 a2 a3 a4 a5
    exact ⟨F',q1,(fA.mono (by simp)).trans q2,fun j hj=>(q3 j hj).imp id fun h=> by omega⟩
  by_cases k2:kind=2
  ·subst k2
   rw[if_pos rfl]
   simp only[B33,hHA,hcA,c0,hgo,fi,hid,vy,hPn,hPs,hPl,aR,hsi,lU,List.set_set,go_sem,↓reduceIte,Nat.reduceEqDiff,Nat.reduceBEq,Nat.reduceAdd,Nat.reduceSub,Nat.reduceLT,Nat.reduceLeDiff,Int.reduceLT,Int.reduceLE,Int.reduceEq,Int.reduceToNat]
   exact fin ⟨2,aD,dz,(s.p n).vs⟩ (ts n).1 (ts n).2 _ (aR _) ((hpA.FC n hn).mono (S:=[rw]) (Fw.set (by simp) vy) (by simp[hnr]) (by simp[hnr])) (mY _) (.inl rfl) (.inl rfl)
  ·rw[if_neg k2]
   by_cases k3:kind=3
   ·subst k3
    rw[if_pos rfl]
    have hTB:=fun es'=>(hpA.FC n hn).mono (S:=[rw]) (Fw.set (es':=es') (by simp) vy) (by simp[hnr]) (by simp[hnr])
    have ma:=xo b (HA.set rw (.cells (some 104) ((fW s.p ts 16).set n (ei ⟨1,aD,0,ai⟩ (ts n).1)))) (ts n).1 (ts n).2 (s.p n).vs ai (.al false (some 31) (ai.map ag.enc)) (hF _ (hp.ft _ hn).1) (hTB _) (.inl ⟨_,rfl⟩) (by omega)
    rw[xu rfl,if_pos rfl] at ma
    obtain ⟨H2,k',ma,hT,f2,lC⟩:=ma
    simp only[ei] at ma
    simp only[B33,hHA,hcA,c0,hgo,fi,hid,vy,hPn,hPs,hPl,aR,hsi,lU,List.set_set,ma,go_sem,↓reduceIte,Nat.reduceEqDiff,Nat.reduceBEq,Nat.reduceAdd,Nat.reduceSub,Nat.reduceLT,Nat.reduceLeDiff,Int.reduceLT,Int.reduceLE,Int.reduceEq,Int.reduceToNat]
    have ck:=f2.dw _ _ (aR _) (by simp[Ne.symm hnr.1])
    exact fin ⟨1,aD,0,ai⟩ (ts n).1 k' _ ck hT ((mY _).trans (f2.mono (by simp))) (.inl rfl) (by simpa using lC)
   ·rw[if_neg k3]
    have hnw:=rn b (HA.set rw (.cells (some 104) ((fW s.p ts 16).set n (.st 104 [.s (.int .i64 (s.p n).role),.s (.int .u64 aD),.s (.int .i64 (s.p n).to),.ptr (ts n).1 [0] 1]))))
    have rT:∀B X,(HA.set rw B++X)[rw]? =some B:=fun B X=> q10z (aR B) X
    have X4:∀B B' X,(HA.set rw B++X).set rw B'=HA.set rw B'++X:=fun B B' X=> by rw[m0 (by rw[List.length_set];exact q6z vy),List.set_set]
    have X5:∀B X,(HA.set rw B++X)[h.length]? =HA[h.length]? :=fun B X=> by rw[List.getElem?_append_left (by rw[List.length_set];omega)];exact hsi B
    simp only[B33,hHA,hcA,c0,hgo,fi,hid,vy,hPn,hPs,hPl,aR,hsi,lU,List.set_set,hnw,k1,k2,k3,rT,X4,X5,go_sem,↓reduceIte,Nat.reduceEqDiff,Nat.reduceBEq,Nat.reduceAdd,Nat.reduceSub,Nat.reduceLT,Nat.reduceLeDiff,Int.reduceLT,Int.reduceLE,Int.reduceEq,Int.reduceToNat]
    exact fin ⟨0,aD,0,[]⟩ HA.length HA.length _ (rT _ _) ⟨_,by rw[List.getElem?_append_right (by simp)];simp,.inl ⟨rfl,rfl,rfl⟩⟩ ((mY _).trans (Fw.app _ _ _)) (.inr (Nat.le_refl _)) (.inr (.inr (Nat.le_refl _)))
theorem KU {l:List ag} {id:Bs} {v:ag} (h:oh l id=some v):v.iD=id∧v∈l:=by
 unfold oh at h
 split at h
 ·rename_i hc
  rw[h] at hc
  exact ⟨by simpa using hc,List.mem_of_getElem? h⟩
 ·cases h
theorem zY {l:List ag} {v:ag} (hr:gO l) (hv:aP v=true) (hc:oh l v.iD=none→l.length < 4):(o5 l v).2=jo l v:=by
 refine xp hr ?_
 unfold o5
 rw[if_neg (by simp[hv])]
 by_cases c:(l[pos l v.iD]?).map ag.iD=some v.iD
 ·rw[if_pos c]
 ·rw[if_neg c,if_neg ?_]
  have:oh l v.iD=none:=by unfold oh;rw[if_neg c]
  have:=hc this
  omega
theorem oi {l:List ag} (v w:ag):w∈jo l v↔w=v∨w∈l∧w.iD≠v.iD:=by
 simp only[jo,List.mem_append,List.mem_filter,List.mem_singleton,decide_eq_true_eq]
 constructor
 ·rintro ((⟨h1,h2⟩ | h) | ⟨h1,h2⟩)
  ·exact .inr ⟨h1,fun e=> by rw[e,j3] at h2;omega⟩
  ·exact .inl h
  ·exact .inr ⟨h1,fun e=> by rw[e,j3] at h2;omega⟩
 ·rintro (h | ⟨h1,h2⟩)
  ·exact .inl (.inr h)
  ·by_cases h3:cP w.iD v.iD < 0
   ·exact .inl (.inl ⟨h1,h3⟩)
   ·refine .inr ⟨h1,?_⟩
    have:cP w.iD v.iD≠0:=fun e=> h2 (mi _ _ e)
    omega
theorem zZ {l:List ag} (hr:gO l):(l.map ag.iD).Nodup:=by
 rw[List.nodup_iff_pairwise_ne,List.pairwise_map]
 exact hr.imp fun {a b} h e=> by rw[e,j3] at h;omega
theorem Hs {l m:List Bs}:l.Nodup→(∀x∈l,x∈m)→l.length≤m.length:=by
 induction l generalizing m with
 | nil=> intro _ _;exact Nat.zero_le _
 | cons a l ih=>
   intro hn hs
   obtain ⟨h1,h2⟩:=List.nodup_cons.1 hn
   have ha:=hs a (by simp)
   have:=ih (m:=m.erase a) h2 fun x hx=> by
     have cD:x≠a:=fun e=> h1 (e ▸ hx)
     exact (List.mem_erase_of_ne cD).2 (hs x (by simp[hx]))
   rw[List.length_erase_of_mem ha] at this
   have:=List.length_pos_of_mem ha
   simp only[List.length_cons];omega
theorem z0 {l:List ag} (hr:gO l) (v:ag) (hc:oh l v.iD=none→l.length < 4) (h4:l.length≤4):(jo l v).length≤4:=by
 have hn:=zZ (sb hr v)
 by_cases hg:oh l v.iD=none
 ·have h1:=hc hg
  have:=Hs (m:=v.iD::l.map ag.iD) hn fun x hx=> by
    obtain ⟨w,hw,rfl⟩:=List.mem_map.1 hx
    rcases (oi v w).1 hw with rfl | ⟨h,_⟩
    ·simp
    ·simp only[List.mem_cons,List.mem_map];exact .inr ⟨w,h,rfl⟩
  simp at this;omega
 ·obtain ⟨w,hw⟩:=Option.ne_none_iff_exists'.1 hg
  obtain ⟨lT,vw⟩:=KU hw
  have:=Hs (m:=l.map ag.iD) hn fun x hx=> by
    obtain ⟨u,hu,rfl⟩:=List.mem_map.1 hx
    rcases (oi v u).1 hu with rfl | ⟨h,_⟩
    ·rw[←lT];exact List.mem_map.2 ⟨w,vw,rfl⟩
    ·exact List.mem_map.2 ⟨u,h,rfl⟩
  simp at this;omega
theorem xv (s:bg) (n:Nat) (q:kF):(s.o6 n q).p n=q:=by simp[bg.o6]
theorem Aa (s:bg) (n j:Nat) (q:kF) (h:j≠n):(s.o6 n q).p j=s.p j:=by simp[bg.o6,h]
theorem j5.o6 {s:bg} (hk:j5 s) {n:Nat} {q:kF} (hq:n < 16→POk s n q):j5 (s.o6 n q):=
 ⟨hk.m1,hk.m2,hk.m3,hk.m4,fun i hi=> by
   by_cases h:i=n
   ·subst h
    rw[xv]
    obtain ⟨a1,a2,a3,a4,a5,a6,a7,a8,a9⟩:=hq hi
    exact ⟨a1,a2,a3,a4,a5,a6,a7,a8,a9⟩
   ·rw[Aa _ _ _ _ h]
    obtain ⟨a1,a2,a3,a4,a5,a6,a7,a8,a9⟩:=hk.p i hi
    exact ⟨a1,a2,a3,a4,a5,a6,a7,a8,a9⟩⟩
theorem vF {s:bg} {r:aq} (h:bU s r=0):aS r=true:=by
 unfold bU at h
 split at h
 ·cases h
 ·simpa using ‹¬aS r=false›
theorem M9 {s:bg} (hk:j5 s) {v:ag} (h:mj s v=0):oh (s.p (aH v.iD)).vs v.iD=none→(s.p (aH v.iD)).vs.length < 4:=by
 intro hn
 unfold mj at h
 split at h
 ·cases h
 ·split at h
  ·cases h
  ·rw[hn] at h
   simp at h
   exact h
theorem ml {s:bg} (hk:j5 s) {r:aq} (hw:r.wf) (hv:∀v∈r.ai,v.wf):j5 (bE s r).2:=by
 unfold bE
 by_cases c0:bU s r=0
 case neg=> rw[if_pos c0];exact hk
 rw[if_neg (by simp[c0])]
 have hr:=vF c0
 have c1:=c0
 unfold bU at c1
 rw[if_neg (by simp[hr])] at c1
 by_cases k1:r.kind=1
 ·rw[if_pos k1]
  rw[if_pos k1] at c1
  have jC:aP r.av=true:=by unfold aS at hr;rw[if_pos k1] at hr;simp at hr;simp[hr]
  refine hk.o6 fun hi=> ?_
  have ok:=hk.p _ hi
  have oj:=M9 hk c1
  have Vo:(s.p (aH r.av.iD)).role≠0:=by
    intro e;unfold mj at c1;rw[if_pos e] at c1;cases c1
  have hpt:=zY ok.Pp jC oj
  obtain ⟨a1,a2,a3,a4,a5,a6,a7,a8,a9⟩:=ok
  refine ⟨a1,a2,a3,a4,a5,fun h=> absurd h Vo,?_,?_,?_⟩
  ·show gO (o5 _ _).2
   rw[hpt];exact sb a7 _
  ·show (o5 _ _).2.length≤4
   rw[hpt];exact z0 a7 _ oj a8
  ·show ∀v∈(o5 _ _).2,_
   rw[hpt]
   intro v hv
   rcases (oi r.av v).1 hv with rfl | ⟨h,_⟩
   ·exact ⟨jC,hw.av,rfl⟩
   ·exact a9 v h
 ·rw[if_neg k1]
  rw[if_neg k1] at c1
  obtain ⟨g1,g2,g3,g4,g5⟩:=m8 hr k1
  by_cases k2:r.kind=2
  ·rw[if_pos k2]
   rw[if_pos k2] at c1
   refine hk.o6 fun hi=> ?_
   have ok:=hk.p _ hi
   have hto:0≤r.dz:=by unfold aS at hr;rw[if_neg k1,if_pos k2] at hr;simp at hr;omega
   obtain ⟨a1,a2,a3,a4,a5,a6,a7,a8,a9⟩:=ok
   unfold BP at c1
   split at c1
   ·cases c1
   ·split at c1
    ·cases c1
    ·refine ⟨by simp,g3,g4,fun _=> by simp only;omega,fun h=> absurd rfl h,(fun h=> by cases h),a7,a8,a9⟩
  ·rw[if_neg k2]
   rw[if_neg k2] at c1
   by_cases k3:r.kind=3
   ·rw[if_pos k3]
    rw[if_pos k3] at c1
    refine hk.o6 fun hi=> ?_
    have xu:rising r.ai=true:=by
      unfold aS at hr
      rw[k3] at hr
      simp at hr
      exact q32z hr.2
    unfold rising at xu
    simp only[Bool.and_eq_true,decide_eq_true_eq,List.all_eq_true] at xu
    unfold vE at c1
    split at c1
    ·cases c1
    ·rename_i Vp
     simp only[List.any_eq_true,decide_eq_true_eq,not_exists,not_and,Decidable.not_not] at Vp
     refine ⟨by simp,g3,g4,(fun h=> by cases h),fun _=> rfl,(fun h=> by cases h),xu.2,xu.1.1,fun v hm=>⟨xu.1.2 v hm,hv v hm,?_⟩⟩
     have:=Vp v hm
     omega
   ·rw[if_neg k3]
    refine hk.o6 fun hi=> ?_
    exact ⟨by simp,g3,g4,(fun h=> by cases h),fun _=> rfl,fun _=> rfl,List.Pairwise.nil,by simp,by simp⟩
def mm (s:bg) (n:Nat) (q:kF):Bool:=
 if q.role < 0∨2 < q.role∨q.aD < 1∨1099511627776 < q.aD then false
 else if q.role=2∧(q.to < 0∨s.bm≤q.to∨q.to=s.mem)∨q.role≠2∧q.to≠0 then false
 else if q.role=0∧0 < q.vs.length then false
 else !(q.vs.any fun v=> decide ((aH v.iD:Int)≠(n:Nat)))
theorem Dg (b:Nat) (h:Hp) (n:Nat) (v:ag) (id:Nat) (hl:v.iD.length≤1000000) (hg:h[id]? =some (.cells none [.s (.int .i64 (n:Nat))])):
 run fns pr b 106 [v.enc,.ptr id [0] 1] h=some (.s (.bool (decide ((aH v.iD:Int)≠(n:Nat)))),h):=by
 refine Vm.aU (nt:=9) rfl NQ (by simp) ?_
 obtain ⟨a1,a2,a3,a4,a5,a6,a7,a8,a9⟩:=v
 simp only at hl ⊢
 have xc:=fun b h0=> kO b h0 a1 hl
 have cR:=fun X=> q10z hg X
 generalize aH a1=S at *
 simp only[NO,ag.enc,xc,cR,List.take_left,go_sem,↓reduceIte,Nat.reduceEqDiff,Nat.reduceBEq,Nat.reduceAdd,Nat.reduceSub,Nat.reduceLT,Nat.reduceLeDiff,Int.reduceLT,Int.reduceLE,Int.reduceEq,Int.reduceToNat]
 all_goals simp[bne,Bool.beq_eq_decide_eq]
theorem Ab (b:Nat) (h:Hp) (m n:Nat) (s:bg) (F:List Nat) (q:kF) (hs:gY h m s F) (hn:n < 16) (hl:q.vs.length≤1000) (hv:∀v∈q.vs,v.wf):
 run fns pr b 81 [.ptr m [0] 1,.s (.int .i64 (n:Nat)),.s (.int .i64 q.role),.s (.int .u64 q.aD),.s (.int .i64 q.to),.al false (some 31) (q.vs.map ag.enc)] h=some (.s (.bool (mm s n q)),h):=by
 obtain ⟨r,ts,own,hp⟩:=hs
 obtain ⟨role,aD,to,vs⟩:=q
 simp only at hl hv ⊢
 refine Vm.aU (nt:=74) rfl T7 (by simp) ?_
 have hr:=fun b h0=> m6 b h0 n
 have q1:(0:Int)≤(n:Int):=by omega
 have q2:(n:Int)< 16:=by omega
 have hc:=fun b H (hg:H[h.length]? =_)=> o7 b H (.al false (some 31) (vs.map ag.enc)) vs 106 [.ptr h.length [0] 1] (fun v=> decide ((aH v.iD:Int)≠(n:Nat))) (.inl ⟨_,rfl⟩) (by omega)
   (fun b v hm=> Dg b H n v h.length (by have:=(hv v hm).iD;omega) hg)
 have hc2:=fun b=> hc b (h++[aV.cells none [.s (.int .i64 (n:Nat))]]) (aM _ _)
 have cR:=fun X=>(hp.app X).o
 have jd:∀cf base H,aB cf base H .len [.al false (some 31) (vs.map ag.enc)]=some (.s (.int .i64 (vs.length:Nat)),H):=fun cf base H=> by rw[oe];simp
 unfold mm
 simp only
 by_cases c1:role < 0
 ·rw[if_pos (.inl c1)]
  simp only[Bp,hr,q1,q2,c1,List.take_left,go_sem,↓reduceIte,Nat.reduceEqDiff,Nat.reduceBEq,Nat.reduceAdd,Nat.reduceSub,Nat.reduceLT,Nat.reduceLeDiff,Int.reduceLT,Int.reduceLE,Int.reduceEq,Int.reduceToNat]
  all_goals rfl
 by_cases c2:2 < role
 ·rw[if_pos (.inr (.inl c2))]
  simp only[Bp,hr,q1,q2,c1,c2,List.take_left,go_sem,↓reduceIte,Nat.reduceEqDiff,Nat.reduceBEq,Nat.reduceAdd,Nat.reduceSub,Nat.reduceLT,Nat.reduceLeDiff,Int.reduceLT,Int.reduceLE,Int.reduceEq,Int.reduceToNat]
  all_goals rfl
 by_cases c3:aD < 1
 ·rw[if_pos (.inr (.inr (.inl c3)))]
  simp only[Bp,hr,q1,q2,c1,c2,c3,List.take_left,go_sem,↓reduceIte,Nat.reduceEqDiff,Nat.reduceBEq,Nat.reduceAdd,Nat.reduceSub,Nat.reduceLT,Nat.reduceLeDiff,Int.reduceLT,Int.reduceLE,Int.reduceEq,Int.reduceToNat]
  all_goals rfl
 by_cases c4:1099511627776 < aD
 ·rw[if_pos (.inr (.inr (.inr c4)))]
  simp only[Bp,hr,q1,q2,c1,c2,c3,c4,List.take_left,go_sem,↓reduceIte,Nat.reduceEqDiff,Nat.reduceBEq,Nat.reduceAdd,Nat.reduceSub,Nat.reduceLT,Nat.reduceLeDiff,Int.reduceLT,Int.reduceLE,Int.reduceEq,Int.reduceToNat]
  all_goals rfl
 rw[if_neg (by omega)]
 generalize (vs.any fun v=> decide ((aH v.iD:Int)≠(n:Nat)))=an at *
 by_cases k2:role=2
 ·subst k2
  have k0:¬(2:Int)=0:=by decide
  by_cases t1:to < 0
  ·rw[if_pos (.inl ⟨rfl,.inl t1⟩)]
   simp only[Bp,hr,q1,q2,c3,c4,t1,List.take_left,go_sem,↓reduceIte,Nat.reduceEqDiff,Nat.reduceBEq,Nat.reduceAdd,Nat.reduceSub,Nat.reduceLT,Nat.reduceLeDiff,Int.reduceLT,Int.reduceLE,Int.reduceEq,Int.reduceToNat]
   all_goals rfl
  by_cases t2:s.bm≤to
  ·rw[if_pos (.inl ⟨rfl,.inr (.inl t2)⟩)]
   simp only[Bp,hr,q1,q2,c3,c4,t1,t2,cR,List.take_left,go_sem,↓reduceIte,Nat.reduceEqDiff,Nat.reduceBEq,Nat.reduceAdd,Nat.reduceSub,Nat.reduceLT,Nat.reduceLeDiff,Int.reduceLT,Int.reduceLE,Int.reduceEq,Int.reduceToNat]
   all_goals rfl
  by_cases t3:to=s.mem
  ·rw[if_pos (.inl ⟨rfl,.inr (.inr t3)⟩)]
   have t1':¬s.mem < 0:=by rw[←t3];exact t1
   have t2':¬s.bm≤s.mem:=by rw[←t3];exact t2
   simp only[Bp,hr,q1,q2,c3,c4,t1,t2,t1',t2',t3,cR,List.take_left,go_sem,↓reduceIte,Nat.reduceEqDiff,Nat.reduceBEq,Nat.reduceAdd,Nat.reduceSub,Nat.reduceLT,Nat.reduceLeDiff,Int.reduceLT,Int.reduceLE,Int.reduceEq,Int.reduceToNat]
   all_goals rfl
  rw[if_neg (by omega),if_neg (by omega)]
  simp only[Bp,hr,q1,q2,c3,c4,t1,t2,t3,cR,hc2,List.take_left,go_sem,↓reduceIte,Nat.reduceEqDiff,Nat.reduceBEq,Nat.reduceAdd,Nat.reduceSub,Nat.reduceLT,Nat.reduceLeDiff,Int.reduceLT,Int.reduceLE,Int.reduceEq,Int.reduceToNat]
  all_goals rfl
 ·by_cases t0:to=0
  ·rw[if_neg (by omega)]
   subst t0
   by_cases k0:role=0
   ·subst k0
    by_cases l0:0 < vs.length
    ·have l0':(0:Int)<((vs.length:Nat):Int):=by omega
     rw[if_pos ⟨rfl,l0⟩]
     simp only[Bp,hr,q1,q2,c3,c4,jd,l0',List.take_left,go_sem,↓reduceIte,Nat.reduceEqDiff,Nat.reduceBEq,Nat.reduceAdd,Nat.reduceSub,Nat.reduceLT,Nat.reduceLeDiff,Int.reduceLT,Int.reduceLE,Int.reduceEq,Int.reduceToNat]
     all_goals rfl
    ·have l0':¬(0:Int)<((vs.length:Nat):Int):=by omega
     rw[if_neg (by omega)]
     simp only[Bp,hr,q1,q2,c3,c4,jd,l0',hc2,List.take_left,go_sem,↓reduceIte,Nat.reduceEqDiff,Nat.reduceBEq,Nat.reduceAdd,Nat.reduceSub,Nat.reduceLT,Nat.reduceLeDiff,Int.reduceLT,Int.reduceLE,Int.reduceEq,Int.reduceToNat]
     all_goals rfl
   ·rw[if_neg (by omega)]
    simp only[Bp,hr,q1,q2,c1,c2,c3,c4,k2,k0,hc2,List.take_left,go_sem,↓reduceIte,Nat.reduceEqDiff,Nat.reduceBEq,Nat.reduceAdd,Nat.reduceSub,Nat.reduceLT,Nat.reduceLeDiff,Int.reduceLT,Int.reduceLE,Int.reduceEq,Int.reduceToNat]
    all_goals rfl
  ·rw[if_pos (.inr ⟨k2,t0⟩)]
   simp only[Bp,hr,q1,q2,c1,c2,c3,c4,k2,t0,List.take_left,go_sem,↓reduceIte,Nat.reduceEqDiff,Nat.reduceBEq,Nat.reduceAdd,Nat.reduceSub,Nat.reduceLT,Nat.reduceLeDiff,Int.reduceLT,Int.reduceLE,Int.reduceEq,Int.reduceToNat]
   all_goals rfl
def nA (s:bg) (n:Nat) (q:kF):Int×bg:=if mm s n q=true∧rising q.vs=true then (0,s.o6 n q) else (1,s)
theorem Ht (b:Nat) (h:Hp) (m n:Nat) (s:bg) (F:List Nat) (q:kF) (hF:∀j∈F,b≤j) (hs:gY h m s F) (hn:n < 16) (hl:q.vs.length≤1000) (hv:∀v∈q.vs,v.wf):
 ∃v h',run fns pr b 50 [.ptr m [0] 1,.s (.int .i64 (n:Nat)),.s (.int .i64 q.role),.s (.int .u64 q.aD),.s (.int .i64 q.to),.al false (some 31) (q.vs.map ag.enc)] h=some (v,h')∧v= .s (.int .i64 (nA s n q).1)∧∃F',gY h' m (nA s n q).2 F'∧Fw F h h'∧∀j∈F',j∈F∨h.length≤j:=by
 have rk:=hs
 have hbh:b≤h.length:=by have:=hF m hs.mem;have:=hs.lt m hs.mem;omega
 have wK:=fun b X=> Ab b (h++X) m n s F q (hs.app X) hn hl hv
 obtain ⟨r,ts,own,hp⟩:=hs
 refine Vm.dZ (nt:=40) rfl S3 (by simp) ?_
 have hnw:=rn b h
 have fA:Fw [] h (h++[aV.cells (some 146) [.st 146 [.al true (some 31) []]]]):=Fw.app [] h _
 have hT:TR (h++[aV.cells (some 146) [.st 146 [.al true (some 31) []]]]) h.length h.length []:=⟨_,aM _ _,.inl ⟨rfl,rfl,rfl⟩⟩
 unfold nA
 cases c1:mm s n q with
 | false=>
   rw[if_neg (by simp)]
   simp only[B50,hnw,wK,c1,go_sem,↓reduceIte,Nat.reduceEqDiff,Nat.reduceBEq,Nat.reduceAdd,Nat.reduceSub,Nat.reduceLT,Nat.reduceLeDiff,Int.reduceLT,Int.reduceLE,Int.reduceEq,Int.reduceToNat]
   exact ⟨F,rk.mono fA (by simp),fA.mono (by simp),fun j hj=> .inl hj⟩
 | true=>
   obtain ⟨H2,k',ma,hT2,f2,lC⟩:=xo b _ h.length h.length [] q.vs (.al false (some 31) (q.vs.map ag.enc)) hbh hT (.inl ⟨_,rfl⟩) hl
   have f02:Fw [] h H2:=fA.new f2 (fun j hj=> by simp at hj;subst hj;exact .inl (Nat.le_refl _))
   cases c2:rising q.vs with
   | false=>
     rw[if_neg (by simp)]
     rw[c2,if_neg (by simp)] at ma
     simp only[B50,hnw,wK,c1,ma,go_sem,↓reduceIte,Nat.reduceEqDiff,Nat.reduceBEq,Nat.reduceAdd,Nat.reduceSub,Nat.reduceLT,Nat.reduceLeDiff,Int.reduceLT,Int.reduceLE,Int.reduceEq,Int.reduceToNat]
     exact ⟨F,rk.mono f02 (by simp),f02.mono (by simp),fun j hj=> .inl hj⟩
   | true=>
     rw[if_pos ⟨rfl,rfl⟩]
     rw[c2,if_pos rfl] at ma hT2
     have hpA:=hp.mono f02 (by simp)
     have fi:=fun cf base=> hpA.sr.cX (cf:=cf) (base:=base) (k:= .i64) (i:=n) (by rw[bT];exact hn)
     have hep:jh (.ref r [] (some 104) 0 16 16) n= .ptr r [n] 16:=by simp[jh]
     simp only[hep] at fi
     have hPn:(fW s.p ts 16)[n]? =some (.st 104 [.s (.int .i64 (s.p n).role),.s (.int .u64 (s.p n).aD),.s (.int .i64 (s.p n).to),.ptr (ts n).1 [0] 1]):=dI _ _ _ _ hn
     have hPl:=bT s.p ts 16
     have hgo:=hpA.o
     have vy:=hpA.row
     have lU:b≤r:=hF _ hp.fr
     have bW:=q6z vy
     simp only[B50,hnw,wK,c1,ma,hgo,fi,vy,hPn,hPl,lU,bW,hn,go_sem,↓reduceIte,Nat.reduceEqDiff,Nat.reduceBEq,Nat.reduceAdd,Nat.reduceSub,Nat.reduceLT,Nat.reduceLeDiff,Int.reduceLT,Int.reduceLE,Int.reduceEq,Int.reduceToNat]
     have q9:=q6z hp.row
     have zQ:h.length≤k':=by rcases lC with h1 | h1 | h1 <;> first | omega | (rw[List.length_append] at h1;omega)
     have fs:Fw [r] H2 (H2.set r (.cells (some 104) ((fW s.p ts 16).set n (ei q h.length)))):=Fw.set (by simp) vy
     exact hp.Vn (q:=q) (t':=h.length) (k':=k') hn (q9z vy) (hT2.mono fs (by simp;omega) (by simp;omega)) ((f02.mono (by simp)).trans (fs.mono (by simp))) (.inr (Nat.le_refl _)) (.inr (.inr zQ))
theorem gY.congr {h:Hp} {m:Nat} {s s':bg} {F:List Nat} (hs:gY h m s F) (h1:s'.mem=s.mem) (h2:s'.bm=s.bm) (h3:∀i,i < 16→s'.p i=s.p i):gY h m s' F:=by
 obtain ⟨r,ts,own,o,row,FC,om,orr,ot,fm,fr,ft,fl⟩:=hs
 refine ⟨r,ts,own,by rw[h1,h2];exact o,?_,fun i hi=> by rw[h3 i hi];exact FC i hi,om,orr,ot,fm,fr,ft,fl⟩
 rw[row,sd (p:=s'.p) (p':=s.p) (ts:=ts) (ts':=ts) fun i hi=>⟨h3 i hi,rfl⟩]
theorem POk.right {s t:bg} {n:Nat} {q:kF} (hk:POk s n q) (h1:t.mem=s.mem) (h2:t.bm=s.bm):mm t n q=true∧rising q.vs=true:=by
 obtain ⟨a1,a2,a3,a4,a5,a6,a7,a8,a9⟩:=hk
 constructor
 ·unfold mm
  rw[h1,h2,if_neg (by omega),if_neg,if_neg]
  ·simp only[Bool.not_eq_true',List.any_eq_false,decide_eq_true_eq,Decidable.not_not]
   intro v hv
   rw[(a9 v hv).2.2]
  ·rintro ⟨c1,c2⟩
   rw[a6 c1] at c2
   simp at c2
  ·rintro (⟨c1,c2⟩ | ⟨c1,c2⟩)
   ·have:=a4 c1;omega
   ·exact c2 (a5 c1)
 ·unfold rising
  simp only[Bool.and_eq_true,decide_eq_true_eq,List.all_eq_true]
  exact ⟨⟨a8,fun v hv=>(a9 v hv).1⟩,a7⟩
def jE (s t:bg) (n:Nat):bg:= {s with p:=fun j=> if j < n then s.p j else t.p j}
theorem Hu (b:Nat) (h:Hp) (m:Nat) (s:bg) (F:List Nat) (hb:b≤h.length) (hs:gY h m s F) (hk:j5 s):
 ∃v h',run fns pr b 24 [.ptr m [0] 1] h=some (v,h')∧∃F',v= .ptr h.length [0] 1∧gY h' h.length s F'∧Fw [] h h'∧∀j∈F',h.length≤j:=by
 refine Vm.dZ (nt:=39) rfl R8 (by simp) ?_
 obtain ⟨v1,H1,e1,F1,rfl,s1,f1,n1⟩:=rp b h s.mem s.bm hb hk.m1 hk.m2 hk.m3 hk.m4
 have uv:=hs.mono f1 (by simp)
 have rk:=hs
 obtain ⟨r,ts,own,hp⟩:=hs
 have Hv:=hp.mono f1 (by simp)
 have hg:=hp.o
 have cH:=Hv.o
 have jd:∀cf base H,aB cf base H .len [.ref r [] (some 104) 0 16 16]=some (.s (.int .i64 (16:Nat)),H):=fun cf base H=> by rw[SR.cE hp.sr,bT]
 have s1:gY H1 h.length (jE s (bg.new s.mem s.bm) 0) F1:=s1.congr rfl rfl fun i hi=> by simp[jE]
 simp only[B24,MQ,MP,hg,e1,cH,jd,go_sem,↓reduceIte,Nat.reduceEqDiff,Nat.reduceBEq,Nat.reduceAdd,Nat.reduceSub,Nat.reduceLT,Nat.reduceLeDiff,Int.reduceLT,Int.reduceLE,Int.reduceEq,Int.reduceToNat]
 refine bh (fun q e H=>∃(i:Nat) (F':List Nat),q=16 - i∧i≤16∧e 20= .s (.int .i64 (i:Nat))∧e 19= .s (.int .i64 (16:Nat))∧e 18= .ref r [] (some 104) 0 16 16∧e 3= .ptr h.length [0] 1∧gY H h.length (jE s (bg.new s.mem s.bm) i) F'∧Fw [] h H∧∀j∈F',h.length≤j)
   (fun e H=>∃(F':List Nat),e 3= .ptr h.length [0] 1∧gY H h.length s F'∧Fw [] h H∧∀j∈F',h.length≤j) 16 _ _ ⟨0,F1,rfl,by omega,rfl,rfl,rfl,rfl,s1,f1,n1⟩ ?_ ?_
 ·rintro q e H ⟨i,F',rfl,hi,e20,e19,e18,e3,hm,fw,hn⟩
  by_cases c:i < 16
  ·have c':(i:Int)<((16:Nat):Int):=by omega
   have iy:IntKind.i64.wrap ((i:Int)+1)=((i+1:Nat):Int):=q18z (by omega)
   have ok:=hk.p i c
   have hpH:=hp.mono fw (by simp)
   have fi:=fun cf base=> hpH.sr.cX (cf:=cf) (base:=base) (k:= .i64) (i:=i) (by rw[bT];exact c)
   have gh:=fun cf base=> hpH.sr.g8 (cf:=cf) (base:=base) (dI _ _ _ _ c) rfl
   have hbH:b≤H.length:=Nat.le_trans hb fw.len
   have fP:Fw [] H (H++[aV.cells (some 104) [ei (s.p i) (ts i).1]]):=Fw.app [] H _
   have FD:=fun b=> BN b (H++[aV.cells (some 104) [ei (s.p i) (ts i).1]]) (ts i).1 (ts i).2 (s.p i).vs ((hpH.mono fP (by simp)).FC i c) (by have:=ok.len;omega) (fun v hv=> q14z (ok.vs v hv).1)
   obtain ⟨v2,H2,e2,rfl,F2,qu,f2,hn2⟩:=Ht b _ h.length i _ F' (s.p i) (fun j hj=> Nat.le_trans hb (hn j hj)) (hm.mono fP (by simp)) c (by have:=ok.len;omega) (fun v hv=>(ok.vs v hv).2.1)
   have aR:nA (jE s (bg.new s.mem s.bm) i) i (s.p i)=(0,(jE s (bg.new s.mem s.bm) i).o6 i (s.p i)):=by
     unfold nA;rw[if_pos (ok.right (t:=jE s (bg.new s.mem s.bm) i) rfl rfl)]
   rw[aR] at e2 qu
   have o8:∀x,(decide (b≤H.length) || x)=true:=fun x=> by rw[decide_eq_true hbH];rfl
   have hgp:(H++[aV.cells (some 104) [ei (s.p i) (ts i).1]])[H.length]? =some (aV.cells (some 104) [ei (s.p i) (ts i).1]):=aM _ _
   have f02:Fw [] h H2:=(fw.trans fP).new f2 (fun j hj=> .inl (hn j hj))
   have Hw:gY H2 h.length (jE s (bg.new s.mem s.bm) (i+1)) F2:=qu.congr rfl rfl fun j hj=> by
     simp only[jE,bg.o6]
     by_cases tG:j=i
     ·subst tG;simp
     ·simp only[tG,if_false]
      by_cases h1:j < i
      ·simp[h1,show j < i+1 by omega]
      ·simp[h1,show ¬j < i+1 by omega]
   have Hx:∀j∈F2,h.length≤j:=fun j hj=>(hn2 j hj).elim (hn j) fun h1=> by have:=fw.len;have:=fP.len;omega
   simp only[e20,e19,e18,e3,c',iy,fi,gh,o8,pS,pT,go_sem,↓reduceIte,Nat.reduceEqDiff,Nat.reduceBEq,Nat.reduceAdd,Nat.reduceSub,Nat.reduceLT,Nat.reduceLeDiff,Int.reduceLT,Int.reduceLE,Int.reduceEq,Int.reduceToNat]
   simp only[ei] at FD e2 hgp
   simp only[ei,FD,e2,hgp,iy,e20,e19,e18,e3,go_sem,↓reduceIte,Nat.reduceEqDiff,Nat.reduceBEq,Nat.reduceAdd,Nat.reduceSub,Nat.reduceLT,Nat.reduceLeDiff,Int.reduceLT,Int.reduceLE,Int.reduceEq,Int.reduceToNat]
   exact ⟨16 - (i+1),by omega,i+1,F2,rfl,by omega,rfl,Hw,f02,Hx⟩
  ·have c':¬(i:Int)<((16:Nat):Int):=by omega
   obtain rfl:i=16:=by omega
   have qu:gY H h.length s F':=hm.congr rfl rfl fun j hj=> by simp[jE,hj]
   simp only[e20,e19,e18,e3,c',go_sem,↓reduceIte,Nat.reduceEqDiff,Nat.reduceBEq,Nat.reduceAdd,Nat.reduceSub,Nat.reduceLT,Nat.reduceLeDiff,Int.reduceLT,Int.reduceLE,Int.reduceEq,Int.reduceToNat]
   exact ⟨F',qu,fw,hn⟩
 ·rintro e H ⟨F',e3,hm,fw,hn⟩
  simp only[e3,go_sem,↓reduceIte,Nat.reduceEqDiff,Nat.reduceBEq,Nat.reduceAdd,Nat.reduceSub,Nat.reduceLT,Nat.reduceLeDiff,Int.reduceLT,Int.reduceLE,Int.reduceEq,Int.reduceToNat]
  exact ⟨F',hm,fw,hn⟩
def ik :ae:=⟨0,0,0,bN,0⟩
def ba (r:ae):Bool:=decide (r.bw≤1099511627776)&& decide (r.count≤1099511627776)&& decide (r.base≤r.count)&& decide (r.count - r.base≤8)&&(decide (r.aF=0) || decide (r.aF=1))&&(decide (0 < r.count) || decide (r.head=bN))
def vG (a r:ae):ae×Bool:=if ba a=true∧ba r=true then (r,true) else (ik,false)
def ej (r:ae) (hd:Bs):ae×Bool:=vG r ⟨r.bw,r.count+1,r.base,hd,r.aF⟩
def cm (r:ae):ae×Bool:=vG r ⟨r.bw+1,r.count,r.base,r.head,r.aF⟩
def gQ (r:ae) (hd:Bs):ae×Bool:=if r.count≤r.base then (ik,false) else vG r ⟨r.bw,r.count,r.count,hd,1 - r.aF⟩
def bf (r:ae):Int:=if ba r=true then r.count - r.base else 0
theorem ae.cF (r:ae):r.enc.ty=some 53:=rfl
theorem ae.cG (r:ae):r.enc.ax=true:=rfl
theorem ae.pV (n:Nat) (h:Hp) (r:ae):bA n h r.enc=some r.enc:=by simp only[ae.enc,go_sem]
theorem o9 (b:Nat) (h:Hp) (r:ae) (hw:r.wf):run fns pr b 67 [r.enc] h=some (.s (.bool (ba r)),h):=by
 refine Vm.aU (nt:=47) rfl TC (by simp) ?_
 obtain ⟨bw,count,base,head,aF⟩:=r
 obtain ⟨w1,w2,w3,w4,w5⟩:=hw
 simp only at w1 w2 w3 w4 w5
 unfold ba
 simp only
 by_cases c1:bw≤1099511627776
 case neg=>
   simp only[CL,ae.enc,c1,List.take_left,go_sem,↓reduceIte,Nat.reduceEqDiff,Nat.reduceBEq,Nat.reduceAdd,Nat.reduceSub,Nat.reduceLT,Nat.reduceLeDiff,Int.reduceLT,Int.reduceLE,Int.reduceEq,Int.reduceToNat]
 by_cases c2:count≤1099511627776
 case neg=>
   simp only[CL,ae.enc,c1,c2,List.take_left,go_sem,↓reduceIte,Nat.reduceEqDiff,Nat.reduceBEq,Nat.reduceAdd,Nat.reduceSub,Nat.reduceLT,Nat.reduceLeDiff,Int.reduceLT,Int.reduceLE,Int.reduceEq,Int.reduceToNat]
 by_cases c3:base≤count
 case neg=>
   simp only[CL,ae.enc,c1,c2,c3,List.take_left,go_sem,↓reduceIte,Nat.reduceEqDiff,Nat.reduceBEq,Nat.reduceAdd,Nat.reduceSub,Nat.reduceLT,Nat.reduceLeDiff,Int.reduceLT,Int.reduceLE,Int.reduceEq,Int.reduceToNat]
 have lT:IntKind.u64.wrap (count - base)=count - base:=wrap_u64 (by omega) (by omega)
 by_cases c4:count - base≤8
 case neg=>
   simp only[CL,ae.enc,c1,c2,c3,lT,c4,List.take_left,go_sem,↓reduceIte,Nat.reduceEqDiff,Nat.reduceBEq,Nat.reduceAdd,Nat.reduceSub,Nat.reduceLT,Nat.reduceLeDiff,Int.reduceLT,Int.reduceLE,Int.reduceEq,Int.reduceToNat]
 by_cases c5:aF=0
 ·by_cases c6:0 < count
  ·simp only[CL,ae.enc,c1,c2,c3,lT,c4,c5,c6,List.take_left,go_sem,↓reduceIte,Nat.reduceEqDiff,Nat.reduceBEq,Nat.reduceAdd,Nat.reduceSub,Nat.reduceLT,Nat.reduceLeDiff,Int.reduceLT,Int.reduceLE,Int.reduceEq,Int.reduceToNat]
  ·by_cases c7:head=bN
   ·simp only[CL,ae.enc,c1,c2,c3,lT,c4,c5,c6,c7,cg,cZ,List.take_left,go_sem,↓reduceIte,Nat.reduceEqDiff,Nat.reduceBEq,Nat.reduceAdd,Nat.reduceSub,Nat.reduceLT,Nat.reduceLeDiff,Int.reduceLT,Int.reduceLE,Int.reduceEq,Int.reduceToNat]
   ·simp only[CL,ae.enc,c1,c2,c3,lT,c4,c5,c6,c7,cg,cZ,List.take_left,go_sem,↓reduceIte,Nat.reduceEqDiff,Nat.reduceBEq,Nat.reduceAdd,Nat.reduceSub,Nat.reduceLT,Nat.reduceLeDiff,Int.reduceLT,Int.reduceLE,Int.reduceEq,Int.reduceToNat]
 ·by_cases c8:aF=1
  ·by_cases c6:0 < count
   ·simp only[CL,ae.enc,c1,c2,c3,lT,c4,c5,c8,c6,List.take_left,go_sem,↓reduceIte,Nat.reduceEqDiff,Nat.reduceBEq,Nat.reduceAdd,Nat.reduceSub,Nat.reduceLT,Nat.reduceLeDiff,Int.reduceLT,Int.reduceLE,Int.reduceEq,Int.reduceToNat]
   ·by_cases c7:head=bN
    ·simp only[CL,ae.enc,c1,c2,c3,lT,c4,c5,c8,c6,c7,cg,cZ,List.take_left,go_sem,↓reduceIte,Nat.reduceEqDiff,Nat.reduceBEq,Nat.reduceAdd,Nat.reduceSub,Nat.reduceLT,Nat.reduceLeDiff,Int.reduceLT,Int.reduceLE,Int.reduceEq,Int.reduceToNat]
    ·simp only[CL,ae.enc,c1,c2,c3,lT,c4,c5,c8,c6,c7,cg,cZ,List.take_left,go_sem,↓reduceIte,Nat.reduceEqDiff,Nat.reduceBEq,Nat.reduceAdd,Nat.reduceSub,Nat.reduceLT,Nat.reduceLeDiff,Int.reduceLT,Int.reduceLE,Int.reduceEq,Int.reduceToNat]
  ·simp only[CL,ae.enc,c1,c2,c3,lT,c4,c5,c8,List.take_left,go_sem,↓reduceIte,Nat.reduceEqDiff,Nat.reduceBEq,Nat.reduceAdd,Nat.reduceSub,Nat.reduceLT,Nat.reduceLeDiff,Int.reduceLT,Int.reduceLE,Int.reduceEq,Int.reduceToNat]
theorem Hy (b:Nat) (h:Hp) (a r:ae) (ha:a.wf) (hr:ba a=true→r.wf):run fns pr b 58 [a.enc,r.enc] h=some (.bI [(vG a r).1.enc,.s (.bool (vG a r).2)],h):=by
 refine Vm.aU (nt:=16) rfl Tj (by simp) ?_
 have h1:=fun h0=> o9 h.length h0 a ha
 have h2:=fun h0 hr=> o9 h.length h0 r hr
 unfold vG
 have hz:V.st 53 [.s (.int .u64 0),.s (.int .u64 0),.s (.int .u64 0),bC 25,.s (.int .i64 0)]=ik.enc:=rfl
 cases c1:ba a with
 | false=>
   rw[if_neg (by simp)]
   simp only[B58,ae.cF,ae.cG,h1,c1,go_sem,↓reduceIte,Nat.reduceEqDiff,Nat.reduceBEq,Nat.reduceAdd,Nat.reduceSub,Nat.reduceLT,Nat.reduceLeDiff,Int.reduceLT,Int.reduceLE,Int.reduceEq,Int.reduceToNat]
   all_goals rfl
 | true=>
   have h2:=fun h0=> h2 h0 (hr c1)
   cases c2:ba r with
   | false=>
     rw[if_neg (by simp)]
     simp only[B58,ae.cF,ae.cG,h1,h2,c1,c2,go_sem,↓reduceIte,Nat.reduceEqDiff,Nat.reduceBEq,Nat.reduceAdd,Nat.reduceSub,Nat.reduceLT,Nat.reduceLeDiff,Int.reduceLT,Int.reduceLE,Int.reduceEq,Int.reduceToNat]
     all_goals rfl
   | true=>
     rw[if_pos ⟨rfl,rfl⟩]
     simp only[B58,ae.cF,ae.cG,ae.pV,h1,h2,c1,c2,go_sem,↓reduceIte,Nat.reduceEqDiff,Nat.reduceBEq,Nat.reduceAdd,Nat.reduceSub,Nat.reduceLT,Nat.reduceLeDiff,Int.reduceLT,Int.reduceLE,Int.reduceEq,Int.reduceToNat]
theorem q11z {r:ae} (h:ba r=true):r.bw≤1099511627776∧r.count≤1099511627776∧r.base≤r.count∧r.count - r.base≤8∧(r.aF=0∨r.aF=1)∧(0 < r.count∨r.head=bN):=by
 unfold ba at h
 simp only[Bool.and_eq_true,Bool.or_eq_true,decide_eq_true_eq] at h
 obtain ⟨⟨⟨⟨⟨h1,h2⟩,h3⟩,h4⟩,h5⟩,h6⟩:=h
 exact ⟨h1,h2,h3,h4,h5,h6⟩
theorem Ac {a r r':ae} (h:ba a=false):vG a r=vG a r':=by
 unfold vG;rw[h];simp
theorem KW (b:Nat) (h:Hp) (r:ae) (hd:Bs) (hw:r.wf) (hl:hd.length=16):run fns pr b 28 [r.enc,.arr 25 (hd.map aa)] h=some (.bI [(ej r hd).1.enc,.s (.bool (ej r hd).2)],h):=by
 refine Vm.aU (nt:=19) rfl Sg (by simp) ?_
 have hs:∀c,(ba r=true→c=r.count+1)→∀h0,run fns pr h.length 58 [r.enc,ae.enc ⟨r.bw,c,r.base,hd,r.aF⟩] h0=some (.bI [(ej r hd).1.enc,.s (.bool (ej r hd).2)],h0):=by
   intro c hc h0
   have h1:=Hy h.length h0 r ⟨r.bw,c,r.base,hd,r.aF⟩ hw (fun q=> by
     have:=q11z q
     have hc:=hc q
     obtain ⟨w1,w2,w3,w4,w5⟩:=hw
     exact ⟨w1,by simp only;omega,w3,hl,w5⟩)
   rw[h1]
   cases q:ba r with
   | true=> rw[hc q];rfl
   | false=> unfold ej;rw[Ac (r:=⟨r.bw,c,r.base,hd,r.aF⟩) (r':=⟨r.bw,r.count+1,r.base,hd,r.aF⟩) q]
 have iy:ba r=true→IntKind.u64.wrap (r.count+1)=r.count+1:=fun q=> by
   have:=q11z q
   obtain ⟨w1,w2,w3,w4,w5⟩:=hw
   exact wrap_u64 (by omega) (by omega)
 have hs:=hs _ iy
 have f1:=fun n H=> ae.pV n H (ej r hd).1
 have f2:=ae.cF (ej r hd).1
 have f3:=ae.cG (ej r hd).1
 generalize ej r hd=x at *
 obtain ⟨bw,count,base,head,aF⟩:=r
 simp only[ae.enc] at hs ⊢
 generalize hx:V.st 53 [.s (.int .u64 x.1.bw),.s (.int .u64 x.1.count),.s (.int .u64 x.1.base),.arr 25 (x.1.head.map aa),.s (.int .i64 x.1.aF)]=X at *
 simp only[ae.enc,hx] at f1 f2 f3
 simp only[B28,hs,f1,f2,f3,go_sem,↓reduceIte,Nat.reduceEqDiff,Nat.reduceBEq,Nat.reduceAdd,Nat.reduceSub,Nat.reduceLT,Nat.reduceLeDiff,Int.reduceLT,Int.reduceLE,Int.reduceEq,Int.reduceToNat]
theorem KX (b:Nat) (h:Hp) (r:ae) (hw:r.wf):run fns pr b 36 [r.enc] h=some (.bI [(cm r).1.enc,.s (.bool (cm r).2)],h):=by
 refine Vm.aU (nt:=15) rfl Sx (by simp) ?_
 have hs:∀c,(ba r=true→c=r.bw+1)→∀h0,run fns pr h.length 58 [r.enc,ae.enc ⟨c,r.count,r.base,r.head,r.aF⟩] h0=some (.bI [(cm r).1.enc,.s (.bool (cm r).2)],h0):=by
   intro c hc h0
   have h1:=Hy h.length h0 r ⟨c,r.count,r.base,r.head,r.aF⟩ hw (fun q=> by
     have:=q11z q
     have hc:=hc q
     obtain ⟨w1,w2,w3,w4,w5⟩:=hw
     exact ⟨by simp only;omega,w2,w3,w4,w5⟩)
   rw[h1]
   cases q:ba r with
   | true=> rw[hc q];rfl
   | false=> unfold cm;rw[Ac (r:=⟨c,r.count,r.base,r.head,r.aF⟩) (r':=⟨r.bw+1,r.count,r.base,r.head,r.aF⟩) q]
 have iy:ba r=true→IntKind.u64.wrap (r.bw+1)=r.bw+1:=fun q=> by
   have:=q11z q
   obtain ⟨w1,w2,w3,w4,w5⟩:=hw
   exact wrap_u64 (by omega) (by omega)
 have hs:=hs _ iy
 have f1:=fun n H=> ae.pV n H (cm r).1
 have f2:=ae.cF (cm r).1
 have f3:=ae.cG (cm r).1
 generalize cm r=x at *
 obtain ⟨bw,count,base,head,aF⟩:=r
 simp only[ae.enc] at hs ⊢
 generalize hx:V.st 53 [.s (.int .u64 x.1.bw),.s (.int .u64 x.1.count),.s (.int .u64 x.1.base),.arr 25 (x.1.head.map aa),.s (.int .i64 x.1.aF)]=X at *
 simp only[ae.enc,hx] at f1 f2 f3
 simp only[B36,hs,f1,f2,f3,go_sem,↓reduceIte,Nat.reduceEqDiff,Nat.reduceBEq,Nat.reduceAdd,Nat.reduceSub,Nat.reduceLT,Nat.reduceLeDiff,Int.reduceLT,Int.reduceLE,Int.reduceEq,Int.reduceToNat]
theorem KY (b:Nat) (h:Hp) (r:ae) (hd:Bs) (hw:r.wf) (hl:hd.length=16):run fns pr b 70 [r.enc,.arr 25 (hd.map aa)] h=some (.bI [(gQ r hd).1.enc,.s (.bool (gQ r hd).2)],h):=by
 refine Vm.aU (nt:=28) rfl TJ (by simp) ?_
 unfold gQ
 by_cases c0:r.count≤r.base
 ·rw[if_pos c0]
  obtain ⟨bw,count,base,head,aF⟩:=r
  simp only at c0
  simp only[B70,ae.enc,c0,ik,cg,go_sem,↓reduceIte,Nat.reduceEqDiff,Nat.reduceBEq,Nat.reduceAdd,Nat.reduceSub,Nat.reduceLT,Nat.reduceLeDiff,Int.reduceLT,Int.reduceLE,Int.reduceEq,Int.reduceToNat]
  all_goals rfl
 rw[if_neg c0]
 have hs:∀c,(ba r=true→c=1 - r.aF)→∀h0,run fns pr h.length 58 [r.enc,ae.enc ⟨r.bw,r.count,r.count,hd,c⟩] h0=some (.bI [(vG r ⟨r.bw,r.count,r.count,hd,1 - r.aF⟩).1.enc,.s (.bool (vG r ⟨r.bw,r.count,r.count,hd,1 - r.aF⟩).2)],h0):=by
   intro c hc h0
   have h1:=Hy h.length h0 r ⟨r.bw,r.count,r.count,hd,c⟩ hw (fun q=> by
     have:=q11z q
     have hc:=hc q
     obtain ⟨w1,w2,w3,w4,w5⟩:=hw
     exact ⟨w1,w2,w2,hl,by simp only;omega⟩)
   rw[h1]
   cases q:ba r with
   | true=> rw[hc q]
   | false=> rw[Ac (r:=⟨r.bw,r.count,r.count,hd,c⟩) (r':=⟨r.bw,r.count,r.count,hd,1 - r.aF⟩) q]
 have iy:ba r=true→IntKind.i64.wrap (1 - r.aF)=1 - r.aF:=fun q=> by
   have:=q11z q
   exact wrap_i64 (by omega) (by omega)
 have hs:=hs _ iy
 generalize vG r ⟨r.bw,r.count,r.count,hd,1 - r.aF⟩=x at *
 have f1:=fun n H=> ae.pV n H x.1
 have f2:=ae.cF x.1
 have f3:=ae.cG x.1
 obtain ⟨bw,count,base,head,aF⟩:=r
 simp only[ae.enc] at hs c0 ⊢
 generalize hx:V.st 53 [.s (.int .u64 x.1.bw),.s (.int .u64 x.1.count),.s (.int .u64 x.1.base),.arr 25 (x.1.head.map aa),.s (.int .i64 x.1.aF)]=X at *
 simp only[ae.enc,hx] at f1 f2 f3
 simp only[B70,c0,hs,f1,f2,f3,go_sem,↓reduceIte,Nat.reduceEqDiff,Nat.reduceBEq,Nat.reduceAdd,Nat.reduceSub,Nat.reduceLT,Nat.reduceLeDiff,Int.reduceLT,Int.reduceLE,Int.reduceEq,Int.reduceToNat]
theorem rq (b:Nat) (h:Hp) (r:ae) (hw:r.wf):run fns pr b 34 [r.enc] h=some (.s (.int .i64 (bf r)),h):=by
 refine Vm.aU (nt:=12) rfl Ss (by simp) ?_
 have h1:=fun h0=> o9 h.length h0 r hw
 unfold bf
 cases c1:ba r with
 | false=>
   rw[if_neg (by simp)]
   simp only[B34,ae.cF,ae.cG,h1,c1,List.take_left,go_sem,↓reduceIte,Nat.reduceEqDiff,Nat.reduceBEq,Nat.reduceAdd,Nat.reduceSub,Nat.reduceLT,Nat.reduceLeDiff,Int.reduceLT,Int.reduceLE,Int.reduceEq,Int.reduceToNat]
 | true=>
   have:=q11z c1
   obtain ⟨w1,w2,w3,w4,w5⟩:=hw
   have q1:IntKind.u64.wrap (r.count - r.base)=r.count - r.base:=wrap_u64 (by omega) (by omega)
   have q2:IntKind.i64.wrap (r.count - r.base)=r.count - r.base:=wrap_i64 (by omega) (by omega)
   rw[if_pos rfl]
   obtain ⟨bw,count,base,head,aF⟩:=r
   simp only[ae.enc] at *
   simp only[B34,h1,c1,q1,q2,List.take_left,go_sem,↓reduceIte,Nat.reduceEqDiff,Nat.reduceBEq,Nat.reduceAdd,Nat.reduceSub,Nat.reduceLT,Nat.reduceLeDiff,Int.reduceLT,Int.reduceLE,Int.reduceEq,Int.reduceToNat]
def aW (r:ae):Int:=if 8≤bf r then -1 else 2+bf r
theorem iO (r:ae) (hw:r.wf):0≤bf r∧bf r≤8:=by
 unfold bf
 split
 ·have:=q11z (by assumption);omega
 ·omega
theorem Hz (b:Nat) (h:Hp) (r:ae) (hw:r.wf):run fns pr b 31 [r.enc] h=some (.s (.int .i64 (aW r)),h):=by
 refine Vm.aU (nt:=10) rfl Sm (by simp) ?_
 have h1:=fun h0=> rq h.length h0 r hw
 have hl:=iO r hw
 unfold aW
 by_cases c:8≤bf r
 ·rw[if_pos c]
  simp only[B31,ae.cF,ae.cG,h1,c,List.take_left,go_sem,↓reduceIte,Nat.reduceEqDiff,Nat.reduceBEq,Nat.reduceAdd,Nat.reduceSub,Nat.reduceLT,Nat.reduceLeDiff,Int.reduceLT,Int.reduceLE,Int.reduceEq,Int.reduceToNat]
 ·rw[if_neg c]
  have hw:IntKind.i64.wrap (2+bf r)=2+bf r:=wrap_i64 (by omega) (by omega)
  simp only[B31,ae.cF,ae.cG,h1,c,hw,List.take_left,go_sem,↓reduceIte,Nat.reduceEqDiff,Nat.reduceBEq,Nat.reduceAdd,Nat.reduceSub,Nat.reduceLT,Nat.reduceLeDiff,Int.reduceLT,Int.reduceLE,Int.reduceEq,Int.reduceToNat]
theorem KZ (b:Nat) (h:Hp) (r:ae) (hp:r.aF=0∨r.aF=1):run fns pr b 69 [r.enc] h=some (.s (.int .i64 (1 - r.aF)),h):=by
 refine Vm.aU (nt:=6) rfl TH (by simp) ?_
 have hw:IntKind.i64.wrap (1 - r.aF)=1 - r.aF:=wrap_i64 (by omega) (by omega)
 simp only[B69,ae.enc,hw,List.take_left,go_sem,↓reduceIte,Nat.reduceEqDiff,Nat.reduceBEq,Nat.reduceAdd,Nat.reduceSub,Nat.reduceLT,Nat.reduceLeDiff,Int.reduceLT,Int.reduceLE,Int.reduceEq,Int.reduceToNat]
theorem bG (l:Bs):(V.arr 25 (l.map aa)).ty=some 25:=rfl
theorem uw (b:Nat) (h:Hp) (x:V) (l:Bs) (hx:BR h x l) (hl:l.length≤1000000):run fns pr b 71 [x] h=some (.arr 25 ((cS l).map aa),h):=by
 refine Vm.aU (nt:=5) rfl TL (by simp) ?_
 have hs:=fun b X=> vx b (h++X) x l (BR.rd (hx.mono (Fw.app [] h X))) hl
 have lz:((cS l).map aa).length=16:=by rw[List.length_map,bj]
 simp only[B71,hs,lz,bG,List.take_left,go_sem,↓reduceIte,Nat.reduceEqDiff,Nat.reduceBEq,Nat.reduceAdd,Nat.reduceSub,Nat.reduceLT,Nat.reduceLeDiff,Int.reduceLT,Int.reduceLE,Int.reduceEq,Int.reduceToNat]
def mn :Bs:=[105,109,97,103,101]
def jF (k:Bs) (r:ae) (l:Bs):Bs×Int:=if 8184 < l.length then ([],3) else (lD k r.count.toNat mn l,0)
theorem HC (b:Nat) (h:Hp) (x:V) (k l:Bs) (r:ae) (hk:k.length=16) (hw:r.wf) (hx:BR h x l):run fns pr b 68 [.arr 25 (k.map aa),r.enc,x] h=some (.bI [.al false none ((jF k r l).1.map aa),.s (.int .i64 (jF k r l).2)],h):=by
 refine Vm.aU (nt:=18) rfl TE (by simp) ?_
 have fV:(k.map aa).length=16:=by simp[hk]
 have ly:=fun cf base H=> hx.cE (cf:=cf) (base:=base) (h:=H)
 have him:∀f H,Rd H (.al f none (mn.map aa)) mn:=fun f H=> BR.rd (cY H f mn)
 have hse:=fun b f X=> BA b (h++X) (.al f none (mn.map aa)) x k mn l r.count.toNat hk (by have:=hw.count;omega) (him f _) (hx.mono (Fw.app [] h X)) (by decide)
 have hc:((r.count.toNat:Nat):Int)=r.count:=by have:=hw.count;omega
 rw[hc] at hse
 unfold jF
 by_cases c:8184 < l.length
 ·have c':(8184:Int)<((l.length:Nat):Int):=by omega
  rw[if_pos c]
  simp only[B68,ae.enc,fV,ly,c',List.take_left,go_sem,↓reduceIte,Nat.reduceEqDiff,Nat.reduceBEq,Nat.reduceAdd,Nat.reduceSub,Nat.reduceLT,Nat.reduceLeDiff,Int.reduceLT,Int.reduceLE,Int.reduceEq,Int.reduceToNat]
  all_goals rfl
 ·have c':¬(8184:Int)<((l.length:Nat):Int):=by omega
  rw[if_neg c]
  obtain ⟨bw,count,base,head,aF⟩:=r
  simp only at hse hc ⊢
  have hiw:mn.map aa=[.s (.int .u8 105),.s (.int .u8 109),.s (.int .u8 97),.s (.int .u8 103),.s (.int .u8 101)]:=rfl
  rw[hiw] at hse
  simp only[B68,ae.enc,fV,ly,c',hse,bG,go_sem,↓reduceIte,Nat.reduceEqDiff,Nat.reduceBEq,Nat.reduceAdd,Nat.reduceSub,Nat.reduceLT,Nat.reduceLeDiff,Int.reduceLT,Int.reduceLE,Int.reduceEq,Int.reduceToNat]
  all_goals rfl
def kS (k:Bs) (n:Nat) (prev:Bs) (r:aq):Bs×Int:=if aS r=true then (lD k n prev (mf r),0) else ([],1)
theorem HE (b:Nat) (h:Hp) (k prev:Bs) (n:Nat) (r:aq) (hk:k.length=16) (hp:prev.length=16) (hn:n < 18446744073709551616) (hw:r.wf) (G9:∀v∈r.ai,v.wf):run fns pr b 27 [.arr 25 (k.map aa),.s (.int .u64 n),.arr 25 (prev.map aa),r.enc] h=some (.bI [.al false none ((kS k n prev r).1.map aa),.s (.int .i64 (kS k n prev r).2)],h):=by
 refine Vm.aU (nt:=25) rfl Se (by simp) ?_
 have fV:(k.map aa).length=16:=by simp[hk]
 have ra:(prev.map aa).length=16:=by simp[hp]
 have du:r.enc.ty=some 41:=rfl
 have jB:r.enc.ax=true:=rfl
 generalize hGd:h++[aV.cells (some 25) [V.arr 25 (k.map aa)],aV.cells (some 25) [V.arr 25 (prev.map aa)],aV.cells (some 41) [r.enc]]=G
 have g1:G[h.length+1]? =some (aV.cells (some 25) [V.arr 25 (prev.map aa)]):=by rw[←hGd];exact aK _ _ 1
 have FE:=Rd.mk' (h:=G) (x:= .ref (h.length+1) [0] none 0 prev.length 1) (l:=prev) (zU g1) rfl
 rw[hp] at FE
 have hse:=fun b f=> BA b G (.ref (h.length+1) [0] none 0 16 1) (.al f none ((mf r).map aa)) k prev (mf r) n hk hn FE (cY _ _ _) (by omega)
 have g0:G[h.length]? =some (aV.cells (some 25) [V.arr 25 (k.map aa)]):=by rw[←hGd];exact aK _ _ 0
 have g2:G[h.length+2]? =some (aV.cells (some 41) [r.enc]):=by rw[←hGd];exact aK _ _ 2
 have Dh:=fun b=> C2 b G r hw G9
 have eA:G.take h.length=h:=by rw[←hGd,List.take_left]
 unfold kS
 cases hr:aS r with
 | false=>
   rw[hr] at Dh
   rw[if_neg (by simp)] at Dh ⊢
   simp only[B27,fV,ra,du,jB,hGd,Dh,g0,g1,g2,eA,go_sem,↓reduceIte,Nat.reduceEqDiff,Nat.reduceBEq,Nat.reduceAdd,Nat.reduceSub,Nat.reduceLT,Nat.reduceLeDiff,Int.reduceLT,Int.reduceLE,Int.reduceEq,Int.reduceToNat]
   all_goals rfl
 | true=>
   rw[hr] at Dh
   rw[if_pos rfl] at Dh ⊢
   simp only[B27,fV,ra,du,jB,hGd,Dh,g0,g1,g2,eA,hse,bG,go_sem,↓reduceIte,Nat.reduceEqDiff,Nat.reduceBEq,Nat.reduceAdd,Nat.reduceSub,Nat.reduceLT,Nat.reduceLeDiff,Int.reduceLT,Int.reduceLE,Int.reduceEq,Int.reduceToNat]
   all_goals rfl
def dn (prev b:Bs):Bs:=dj prev (cS b)
theorem xw (b:Nat) (h:Hp) (x:V) (prev l:Bs) (hp:prev.length=16) (hx:BR h x l) (hl:l.length≤1000000):run fns pr b 29 [.arr 25 (prev.map aa),x] h=some (.arr 25 ((dn prev l).map aa),h):=by
 refine Vm.aU (nt:=9) rfl Si (by simp) ?_
 have ra:(prev.map aa).length=16:=by simp[hp]
 have hs:=fun b X=> vx b (h++X) x l (BR.rd (hx.mono (Fw.app [] h X))) hl
 have ht:=fun b h0=> GZ b h0 prev (cS l) hp (bj l)
 have lz:((dj prev (cS l)).map aa).length=16:=by simp[dj,bj]
 unfold dn
 simp only[B29,ra,hs,ht,lz,bG,List.take_left,go_sem,↓reduceIte,Nat.reduceEqDiff,Nat.reduceBEq,Nat.reduceAdd,Nat.reduceSub,Nat.reduceLT,Nat.reduceLeDiff,Int.reduceLT,Int.reduceLE,Int.reduceEq,Int.reduceToNat]
 all_goals rfl
theorem K0 (b:Nat) (h:Hp) (k:Bs) (m:Int) (hk:k.length=16):run fns pr b 45 [.arr 25 (k.map aa),.s (.int .i64 m)] h=some (.arr 25 ((dj k [bt m]).map aa),h):=by
 refine Vm.aU (nt:=10) rfl SP (by simp) ?_
 have fV:(k.map aa).length=16:=by simp[hk]
 have FE:∀A B,Rd (h++[A,B,aV.cells none [aa (bt m)]]) (.ref (h.length+2) [] none 0 1 1) [bt m]:=fun A B=> BR.rd (dH (aK _ _ 2) rfl)
 have yX:=fun b A B=> oT b (h++[A,B,aV.cells none [aa (bt m)]]) (.ref (h.length+2) [] none 0 1 1) k [bt m] hk (FE A B) (by simp)
 have lz:((dj k [bt m]).map aa).length=16:=by simp[dj,bj]
 simp only[B45,fV,od,lz,bG,List.take_left,yX,go_sem,↓reduceIte,Nat.reduceEqDiff,Nat.reduceBEq,Nat.reduceAdd,Nat.reduceSub,Nat.reduceLT,Nat.reduceLeDiff,Int.reduceLT,Int.reduceLE,Int.reduceEq,Int.reduceToNat]
end Go.Proofs.YtannfageakbpmaaGreat
namespace Go.Cl
structure Dk where
 now:List (Option Bs)
 bz:List (Option Bs)
 dR:Nat
 at_:Nat
 last:Bs
def Dk.new :Dk:=⟨List.replicate 10 none,List.replicate 10 none,0,0,[]⟩
def Dk.jq (n:Int) (l:Bs):Bool:=decide (0≤n)&& decide (n < 10)&& decide (l.length≤8192)
def Dk.put (D:Dk) (n:Nat) (l:Bs):Dk:= {D with now:=D.now.set n (some l),dR:=D.dR+1,at_:=n,last:=l}
def Dk.get (D:Dk) (n:Int):Option Bs:=if 0≤n∧n < 10 then D.now.getD n.toNat none else none
def Dk.sync (D:Dk):Dk:= {D with bz:=D.now,dR:=0}
def Dk.dJ (D:Dk) (t:Int):List (Option Bs):=if 0 < D.dR∧0 < t then D.bz.set D.at_ (some (D.last.take t.toNat)) else D.bz
def Dk.il (D:Dk) (t:Int):Dk:= {D with now:=D.dJ t,bz:=D.dJ t,dR:=0}
def Dk.copy (D:Dk):Dk:=⟨D.now,D.now,0,0,[]⟩
def flip (l:Bs) (k:Nat):Bs:=l.set k (l.getD k 0 ^^^ 1)
def Dk.turns (D:Dk) (n k:Int):Bool:=decide (0≤n)&& decide (n < 10)&& decide (0≤k)&& decide (k <((D.now.getD n.toNat none).getD []).length)
def Dk.Pr (D:Dk) (n k:Nat):Dk:= {D with now:=D.now.set n (some (flip ((D.now.getD n none).getD []) k)),bz:=D.bz.set n (some (flip ((D.now.getD n none).getD []) k))}
structure Dk.OK (D:Dk):Prop where
 now:D.now.length=10
 bz:D.bz.length=10
 at_:D.at_ < 10
 ns:∀n,((D.now.getD n none).getD []).length≤8192
 ls:∀n,((D.bz.getD n none).getD []).length≤8192
 last:D.last.length≤8192
theorem xx (n k:Nat):(List.replicate n (none:Option Bs)).getD k none=none:=by
 rw[List.getD_eq_getElem?_getD,List.getElem?_replicate];split <;> rfl
theorem Dk.sh :Dk.new.OK:=⟨by simp[Dk.new],by simp[Dk.new],by simp[Dk.new],fun n=> by simp only[Dk.new,xx];simp,fun n=> by simp only[Dk.new,xx];simp,by simp[Dk.new]⟩
theorem sj {α:Type} (l:List α) (i j:Nat) (x d:α):(l.set i x).getD j d=if i=j∧i < l.length then x else l.getD j d:=by
 simp only[List.getD_eq_getElem?_getD,List.getElem?_set]
 by_cases h:i=j
 ·subst h
  by_cases h2:i < l.length <;> simp[h2]
 ·simp[h]
theorem j6 {l:List (Option Bs)} (h:∀n,((l.getD n none).getD []).length≤8192) (i:Nat) {x:Bs} (hx:x.length≤8192):∀n,(((l.set i (some x)).getD n none).getD []).length≤8192:=by
 intro n
 rw[sj]
 split
 ·exact hx
 ·exact h n
theorem Dk.HF {D:Dk} (h:D.OK) {n:Nat} {l:Bs} (hn:n < 10) (hl:l.length≤8192):(D.put n l).OK:=
 ⟨by simp[Dk.put,h.now],h.bz,hn,j6 h.ns n hl,h.ls,hl⟩
theorem Dk.vH {D:Dk} (h:D.OK):D.sync.OK:=⟨h.now,h.now,h.at_,h.ns,h.ns,h.last⟩
theorem Dk.rr {D:Dk} (h:D.OK) (t:Int):(D.dJ t).length=10∧∀n,(((D.dJ t).getD n none).getD []).length≤8192:=by
 unfold Dk.dJ
 split
 ·exact ⟨by simp[h.bz],j6 h.ls _ (by have:=h.last;simp;omega)⟩
 ·exact ⟨h.bz,h.ls⟩
theorem Dk.HG {D:Dk} (h:D.OK) (t:Int):(D.il t).OK:=⟨(D.rr h t).1,(D.rr h t).1,h.at_,(D.rr h t).2,(D.rr h t).2,h.last⟩
theorem Dk.o0 {D:Dk} (h:D.OK) (n k:Nat):(D.Pr n k).OK:=
 ⟨by simp[Dk.Pr,h.now],by simp[Dk.Pr,h.bz],h.at_,j6 h.ns n (by simp[flip];exact h.ns n),j6 h.ls n (by simp[flip];exact h.ns n),h.last⟩
end Go.Cl
