/- Texts for DeviceSteps, part 3. Conditions: none. -/
import Derived.Test.YtannfageakbpmaaGreatCTb
set_option linter.unusedSimpArgs false
set_option linter.unusedVariables false
set_option linter.unusedSectionVars false
namespace Go.Proofs.YtannfageakbpmaaGreat
open Go Go.Vm Go.Proofs Go.Cl
set_option maxRecDepth 100000
theorem Pp (n:Nat) (h:n < 256):(UInt8.ofNat n).toNat=n:=by
 rw[UInt8.toNat_ofNat'];omega
def lS :List V:=bO.map aa
def wvR :List V:=[.s (.int .u32 1668047222),.s (.int .u32 1768383858),.s (.int .u32 1801807216),.s (.int .u32 1935763045)]
def lL (l:Bs) (z:Nat):Bs:=l++[128]++List.replicate z 0
theorem zW (l:Bs) (z:Nat):lL l (z+1)=lL l z++[0]:=by simp[lL,List.replicate_succ']
theorem pT (l:Bs) (z:Nat):(lL l z).length=l.length+1+z:=by simp[lL];omega
theorem BJ (n:Nat):V.s (.int .u8 (IntKind.u8.wrap (n:Int)))=aa (UInt8.ofNat (n % 256)):=by
 have:IntKind.u8.wrap (n:Int)=(n:Int) % 256:=by
   simp only[IntKind.wrap,IntKind.bits,IntKind.signed];rfl
 rw[this,aa,Pp (n % 256) (by omega)]
 congr 2
theorem qB (n:Nat) (h:Hp):∀l:Bs,bB.all n h (l.map aa)=some (l.map aa)
 | []=> rR n h
 | b::l=> by rw[List.map_cons,pK,qB n h l];rfl
theorem Vk (h:Hp) (a b:aW):(h++[a,b])[h.length]? =some a∧(h++[a,b])[h.length+1]? =some b:=by
 constructor
 ·rw[List.getElem?_append_right (Nat.le_refl _)];simp
 ·rw[List.getElem?_append_right (by omega)];simp
theorem vB (l:Bs):∀z∈l.map aa,V.ground z=true:=by
 intro z hz
 obtain ⟨b,_,rfl⟩:=List.mem_map.1 hz
 rfl
theorem xg (l:Bs):nr (l.take 4)=nr l:=by
 simp[nr,List.getD,List.getElem?_take]
def GR (h:Hp):Hp:=h++[aW.cells (some 25) [.arr 25 lS],aW.cells none wvR]
def kP (Y:W) (i:Nat):W:=⟨Y.a / 256 ^ min i 4,Y.b / 256 ^(min i 8 - 4),Y.c / 256 ^(min i 12 - 8),Y.d / 256 ^(i - 12)⟩
theorem BK (Y:W) (i:Nat) (hi:i < 16):(kP Y i).at (i / 4)=Y.at (i / 4)/ 2 ^(8 *(i % 4)):=by
 have:i=0∨i=1∨i=2∨i=3∨i=4∨i=5∨i=6∨i=7∨i=8∨i=9∨i=10∨i=11∨i=12∨i=13∨i=14∨i=15:=by omega
 rcases this with h | h | h | h | h | h | h | h | h | h | h | h | h | h | h | h <;> subst h <;> simp[kP,W.at]
theorem C9 (Y:W) (i:Nat) (hi:i < 16):(kP Y i).vs.set (i / 4) (.s (.int .u32 (((kP Y i).at (i / 4)/ 256:Nat):Int)))=(kP Y (i+1)).vs:=by
 have:i=0∨i=1∨i=2∨i=3∨i=4∨i=5∨i=6∨i=7∨i=8∨i=9∨i=10∨i=11∨i=12∨i=13∨i=14∨i=15:=by omega
 rcases this with h | h | h | h | h | h | h | h | h | h | h | h | h | h | h | h <;> subst h <;> simp[kP,W.at,W.vs,Nat.div_div_eq_div_mul]
theorem KM (b:Nat) (h:Hp) (x:V) (l:Bs) (hb:Rd h x l) (hl:l.length≤1000000):run fns pr b 105 [x] h=some (.arr 25 ((cT l).map aa),h):=by
 refine Vm.aT (nt:=104) rfl NR (by simp) ?_
 obtain ⟨g0,g1⟩:(GR h)[h.length]? =_∧(GR h)[h.length+1]? =_:=Vk h (.cells (some 25) [.arr 25 lS]) (.cells none wvR)
 have hlG:(GR h).length=h.length+2:=by simp[GR]
 have hsx:source (GR h) x=some (none,l.map aa):=by
   have:=hb.1 (GR h) (Fw.app [] h _)
   cases x <;> first | exact this | (simp[elems] at this)
 obtain ⟨v,H1,k1,KN,xr1,hk1,qz,_,_,oU⟩:=(XR.nil (GR h) none (h.length+2)).Pd (n:=h.length+2) (bytes:=1) (by omega) (by omega) hsx (vB l) (by simp;omega)
 obtain ⟨v2,H2,k2,xe,xr2,zT,qx,_,_,BL⟩:=xr1.uq (m:=1) (ys:=[aa 128]) (bytes:=1) hk1 qz rfl (fun z hz=> by simp at hz;subst hz;rfl) (by simp;omega)
 have g0:=BL _ _ (by omega) (oU _ _ (by omega) g0)
 have g1:=BL _ _ (by omega) (oU _ _ (by omega) g1)
 have fw:Fw [] h H2:=Fw.zO (by omega) fun j b hj=> by
   have:=q6z hj
   exact BL _ _ (by omega) (oU _ _ (by omega) (q10z hj _))
 have hb8:aa 128= .s (.int .u8 128):=rfl
 rw[hb8] at xe
 have xr2:XR H2 none k2 v2 ((lL l 0).map aa):=by simpa[lL] using xr2
 have du:=xr1.ty
 simp only[GR,lS,wvR] at KN
 have au:(0:Nat)=0:=rfl
 try simp only[Kh,zt,zr,zq,zp,zo,zn,zm,zl,zk,zj,KN,xe,go_sem,↓reduceIte,Nat.reduceEqDiff,Nat.reduceBEq,Nat.reduceAdd,Nat.reduceSub,Nat.reduceLT,Nat.reduceLeDiff,Int.reduceLT,Int.reduceLE,Int.reduceEq,Int.reduceToNat]
 repeat' (
   first | refine q5z ?_ ?_ | refine q3z ?_ ?_ | refine q4z ?_ ?_
   all_goals intro aj
   all_goals first | replace aj:=q2z aj | replace aj:=q1z aj | skip
   all_goals first | subst aj | replace au:=And.intro aj au
   all_goals try simp only[au,Kh,zt,zr,zq,zp,zo,zn,zm,zl,zk,zj,KN,xe,go_sem,↓reduceIte,Nat.reduceEqDiff,Nat.reduceBEq,Nat.reduceAdd,Nat.reduceSub,Nat.reduceLT,Nat.reduceLeDiff,Int.reduceLT,Int.reduceLE,Int.reduceEq,Int.reduceToNat])
 clear KN xe oU BL hsx
 have hxl:∀cf base (h0:Hp),aB cf base h0 .len [x]=some (.s (.int .i64 l.length),h0):=fun cf base h0=> Vm.cF cf base h0 x _ hb.2
 have w1:IntKind.u64.wrap (l.length:Int)=(l.length:Int):=wrap_u64 (by omega) (by omega)
 refine bj (fun m e H=>∃z k y,m=ff l.length - z∧z≤ff l.length∧e 0=x∧e 2= .ptr h.length [0] 1∧e 3= .ref (h.length+1) [] none 0 4 4∧e 4=y∧H[h.length]? =some (.cells (some 25) [.arr 25 lS])∧H[h.length+1]? =some (.cells none wvR)∧XR H none k y ((lL l z).map aa)∧Fw [] h H∧h.length+2≤k∧h.length+2≤H.length)
   (fun e H=>∃k y,e 0=x∧e 2= .ptr h.length [0] 1∧e 3= .ref (h.length+1) [] none 0 4 4∧e 4=y∧H[h.length]? =some (.cells (some 25) [.arr 25 lS])∧H[h.length+1]? =some (.cells none wvR)∧XR H none k y ((lL l (ff l.length)).map aa)∧Fw [] h H∧h.length+2≤k∧h.length+2≤H.length)
   (ff l.length) _ _ ⟨0,k2,v2,rfl,by omega,rfl,rfl,rfl,rfl,g0,g1,xr2,fw,zT,qx⟩ ?_ ?_
 ·clear xr2 fw zT qx g0 g1 xr1 du
  rintro m e H ⟨z,k,y,rfl,hz,e0,e2,e3,e4,cS,cI,xr,fw,hk,hlH⟩
  have lE:=fun cf base=> xr.BR.cF (cf:=cf) (base:=base) (h:=H)
  rw[pT] at lE
  have hpd:ff l.length=(8 - (l.length+1) % 8) % 8:=rfl
  have wH:∀cf base h,aB cf base h (.bin .num .rem) [.s (.int .i64 ((l.length+1+z:Nat):Int)),.s (.int .i64 8)]=some (.s (.int .i64 (((l.length+1+z) % 8:Nat):Int)),h):=fun cf base h=> by
    rw[lC cf base h .i64 _ 8 (by omega),Int.tmod_eq_emod_of_nonneg (by omega)];rfl
  by_cases c:z < ff l.length
  ·have c':¬(((l.length+1+z) % 8:Nat):Int)=0:=by omega
   obtain ⟨x',H',k',je,xr',lF,dv,_,hg,hold⟩:=xr.uq (m:=1) (ys:=[.s (.int .u8 0)]) (bytes:=1) hk hlH rfl (fun z hz=> by simp at hz;subst hz;rfl) (by simp[pT];unfold ff at c;omega)
   have xr':XR H' none k' x' ((lL l (z+1)).map aa):=by rw[zW,List.map_append];exact xr'
   have fw':Fw [] h H':=fw.trans' hg hold hk
   have au:(0:Nat)=0:=rfl
   try simp only[e0,e2,e3,e4,lE,wH,c',je,go_sem,↓reduceIte,Nat.reduceEqDiff,Nat.reduceBEq,Nat.reduceAdd,Nat.reduceSub,Nat.reduceLT,Nat.reduceLeDiff,Int.reduceLT,Int.reduceLE,Int.reduceEq,Int.reduceToNat]
   repeat' (
     first | refine q5z ?_ ?_ | refine q3z ?_ ?_ | refine q4z ?_ ?_
     all_goals intro aj
     all_goals first | replace aj:=q2z aj | replace aj:=q1z aj | skip
     all_goals first | subst aj | replace au:=And.intro aj au
     all_goals try simp only[au,e0,e2,e3,e4,lE,wH,c',je,go_sem,↓reduceIte,Nat.reduceEqDiff,Nat.reduceBEq,Nat.reduceAdd,Nat.reduceSub,Nat.reduceLT,Nat.reduceLeDiff,Int.reduceLT,Int.reduceLE,Int.reduceEq,Int.reduceToNat])
   all_goals exact ⟨ff l.length - (z+1),by omega,z+1,k',x',rfl,by omega,rfl,hold _ _ (by omega) cS,hold _ _ (by omega) cI,xr',fw',lF,dv⟩
  ·have c':(((l.length+1+z) % 8:Nat):Int)=0:=by omega
   have:z=ff l.length:=by omega
   have au:(0:Nat)=0:=rfl
   try simp only[e0,e2,e3,e4,lE,wH,c',go_sem,↓reduceIte,Nat.reduceEqDiff,Nat.reduceBEq,Nat.reduceAdd,Nat.reduceSub,Nat.reduceLT,Nat.reduceLeDiff,Int.reduceLT,Int.reduceLE,Int.reduceEq,Int.reduceToNat]
   repeat' (
     first | refine q5z ?_ ?_ | refine q3z ?_ ?_ | refine q4z ?_ ?_
     all_goals intro aj
     all_goals first | replace aj:=q2z aj | replace aj:=q1z aj | skip
     all_goals first | subst aj | replace au:=And.intro aj au
     all_goals try simp only[au,e0,e2,e3,e4,lE,wH,c',go_sem,↓reduceIte,Nat.reduceEqDiff,Nat.reduceBEq,Nat.reduceAdd,Nat.reduceSub,Nat.reduceLT,Nat.reduceLeDiff,Int.reduceLT,Int.reduceLE,Int.reduceEq,Int.reduceToNat])
   all_goals (subst this;exact ⟨k,y,rfl,cS,cI,xr,fw,hk,hlH⟩)
 ·clear xr2 fw zT qx g0 g1 xr1 du
  rintro e H ⟨k,y,e0,e2,e3,e4,cS,cI,xr,fw,hk,hlH⟩
  have au:(0:Nat)=0:=rfl
  try simp only[e0,e2,e3,e4,hxl,w1,go_sem,↓reduceIte,Nat.reduceEqDiff,Nat.reduceBEq,Nat.reduceAdd,Nat.reduceSub,Nat.reduceLT,Nat.reduceLeDiff,Int.reduceLT,Int.reduceLE,Int.reduceEq,Int.reduceToNat]
  repeat' (
    first | refine q5z ?_ ?_ | refine q3z ?_ ?_ | refine q4z ?_ ?_
    all_goals intro aj
    all_goals first | replace aj:=q2z aj | replace aj:=q1z aj | skip
    all_goals first | subst aj | replace au:=And.intro aj au
    all_goals try simp only[au,e0,e2,e3,e4,hxl,w1,go_sem,↓reduceIte,Nat.reduceEqDiff,Nat.reduceBEq,Nat.reduceAdd,Nat.reduceSub,Nat.reduceLT,Nat.reduceLeDiff,Int.reduceLT,Int.reduceLE,Int.reduceEq,Int.reduceToNat])
  refine bj (fun m e H=>∃i k y,m=8 - i∧i≤8∧e 6= .s (.int .i64 (i:Nat))∧e 5= .s (.int .u64 ((l.length / 2 ^(8 * i):Nat):Int))∧e 2= .ptr h.length [0] 1∧e 3= .ref (h.length+1) [] none 0 4 4∧e 4=y∧H[h.length]? =some (.cells (some 25) [.arr 25 lS])∧H[h.length+1]? =some (.cells none wvR)∧XR H none k y ((lL l (ff l.length)++ra l.length i).map aa)∧Fw [] h H∧h.length+2≤k∧h.length+2≤H.length)
    (fun e H=>∃y,e 2= .ptr h.length [0] 1∧e 3= .ref (h.length+1) [] none 0 4 4∧e 4=y∧H[h.length]? =some (.cells (some 25) [.arr 25 lS])∧H[h.length+1]? =some (.cells none wvR)∧BR H y (eT l)∧Fw [] h H)
    8 _ _ ⟨0,k,y,rfl,by omega,rfl,by simp;rfl,e2,e3,e4,cS,cI,by simpa[ra] using xr,fw,hk,hlH⟩ ?_ ?_
  ·clear xr fw hk hlH cS cI e4 y k
   rintro m e H ⟨i,k,y,rfl,hi,e6,e5,e2,e3,e4,cS,cI,xr,fw,hk,hlH⟩
   by_cases c:i < 8
   ·have c':(i:Int)< 8:=by omega
    have iA:IntKind.i64.wrap ((i:Int)+1)=((i+1:Nat):Int):=q18z (by omega)
    have hq:∀cf base h,aB cf base h (.bin .num .quo) [.s (.int .u64 ((l.length / 2 ^(8 * i):Nat):Int)),.s (.int .u64 256)]=some (.s (.int .u64 ((l.length / 2 ^(8 *(i+1)):Nat):Int)),h):=fun cf base h=> by
      have h1:l.length / 2 ^(8 * i)≤l.length:=Nat.div_le_self _ _
      have h2:l.length / 2 ^(8 *(i+1))=l.length / 2 ^(8 * i)/ 256:=by rw[Nat.div_div_eq_div_mul,show 8 *(i+1)=8 * i+8 by omega,Nat.pow_add]
      rw[xd cf base h .u64 _ 256 (by omega),h2]
      generalize l.length / 2 ^(8 * i)=n at h1
      rw[Int.tdiv_eq_ediv_of_nonneg (by omega),wrap_u64 (by omega) (by omega)];rfl
    have m0:V.s (.int .u8 (IntKind.u8.wrap ((l.length / 2 ^(8 * i):Nat):Int)))=aa (UInt8.ofNat (l.length / 2 ^(8 * i) % 256)):=BJ _
    obtain ⟨x',H',k',je,xr',lF,dv,_,hg,hold⟩:=xr.uq (m:=1) (ys:=[.s (.int .u8 (IntKind.u8.wrap ((l.length / 2 ^(8 * i):Nat):Int)))]) (bytes:=1) hk hlH rfl (fun z hz=> by simp at hz;subst hz;rfl) (by simp[pT,oQ];unfold ff;omega)
    have xr':XR H' none k' x' ((lL l (ff l.length)++ra l.length (i+1)).map aa):=by rw[ra,←List.append_assoc,List.map_append,List.map_singleton,←m0];exact xr'
    have fw':Fw [] h H':=fw.trans' hg hold hk
    have au:(0:Nat)=0:=rfl
    try simp only[e6,e5,e2,e3,e4,c',je,iA,hq,go_sem,↓reduceIte,Nat.reduceEqDiff,Nat.reduceBEq,Nat.reduceAdd,Nat.reduceSub,Nat.reduceLT,Nat.reduceLeDiff,Int.reduceLT,Int.reduceLE,Int.reduceEq,Int.reduceToNat]
    repeat' (
      first | refine q5z ?_ ?_ | refine q3z ?_ ?_ | refine q4z ?_ ?_
      all_goals intro aj
      all_goals first | replace aj:=q2z aj | replace aj:=q1z aj | skip
      all_goals first | subst aj | replace au:=And.intro aj au
      all_goals try simp only[au,e6,e5,e2,e3,e4,c',je,iA,hq,go_sem,↓reduceIte,Nat.reduceEqDiff,Nat.reduceBEq,Nat.reduceAdd,Nat.reduceSub,Nat.reduceLT,Nat.reduceLeDiff,Int.reduceLT,Int.reduceLE,Int.reduceEq,Int.reduceToNat])
    all_goals exact ⟨8 - (i+1),by omega,i+1,k',x',rfl,by omega,rfl,rfl,rfl,hold _ _ (by omega) cS,hold _ _ (by omega) cI,xr',fw',lF,dv⟩
   ·have c':¬(i:Int)< 8:=by omega
    have:i=8:=by omega
    have au:(0:Nat)=0:=rfl
    try simp only[e6,e5,e2,e3,e4,c',go_sem,↓reduceIte,Nat.reduceEqDiff,Nat.reduceBEq,Nat.reduceAdd,Nat.reduceSub,Nat.reduceLT,Nat.reduceLeDiff,Int.reduceLT,Int.reduceLE,Int.reduceEq,Int.reduceToNat]
    repeat' (
      first | refine q5z ?_ ?_ | refine q3z ?_ ?_ | refine q4z ?_ ?_
      all_goals intro aj
      all_goals first | replace aj:=q2z aj | replace aj:=q1z aj | skip
      all_goals first | subst aj | replace au:=And.intro aj au
      all_goals try simp only[au,e6,e5,e2,e3,e4,c',go_sem,↓reduceIte,Nat.reduceEqDiff,Nat.reduceBEq,Nat.reduceAdd,Nat.reduceSub,Nat.reduceLT,Nat.reduceLeDiff,Int.reduceLT,Int.reduceLE,Int.reduceEq,Int.reduceToNat])
    all_goals (subst this;exact ⟨y,rfl,cS,cI,xr.BR,fw⟩)
  ·clear xr fw hk hlH cS cI e4 y k
   rintro e H ⟨y,e2,e3,e4,cS,cI,br,fw⟩
   have rS:cT l=fg (dz (kJ (eT l) ((eT l).length / 8)) 8) 16:=rfl
   have Pb:=rO l
   obtain ⟨N,hN⟩:∃N,(eT l).length / 8=N:=⟨_,rfl⟩
   have hlP:=nZ l
   have hpd:ff l.length < 8:=by unfold ff;omega
   generalize eT l=P at Pb hN hlP br rS
   rw[hN] at rS
   have hP8:P.length=8 * N:=by omega
   have au:(0:Nat)=0:=rfl
   try simp only[e2,e3,e4,go_sem,↓reduceIte,Nat.reduceEqDiff,Nat.reduceBEq,Nat.reduceAdd,Nat.reduceSub,Nat.reduceLT,Nat.reduceLeDiff,Int.reduceLT,Int.reduceLE,Int.reduceEq,Int.reduceToNat]
   repeat' (
     first | refine q5z ?_ ?_ | refine q3z ?_ ?_ | refine q4z ?_ ?_
     all_goals intro aj
     all_goals first | replace aj:=q2z aj | replace aj:=q1z aj | skip
     all_goals first | subst aj | replace au:=And.intro aj au
     all_goals try simp only[au,e2,e3,e4,go_sem,↓reduceIte,Nat.reduceEqDiff,Nat.reduceBEq,Nat.reduceAdd,Nat.reduceSub,Nat.reduceLT,Nat.reduceLeDiff,Int.reduceLT,Int.reduceLE,Int.reduceEq,Int.reduceToNat])
   refine bj (fun m e H=>∃i,m=N - i∧i≤N∧e 7= .s (.int .i64 ((8 * i:Nat):Int))∧e 2= .ptr h.length [0] 1∧e 3= .ref (h.length+1) [] none 0 4 4∧e 4=y∧H[h.length]? =some (.cells (some 25) [.arr 25 lS])∧H[h.length+1]? =some (.cells none (kJ P i).vs)∧BR H y P∧Fw [] h H)
     (fun e H=> e 2= .ptr h.length [0] 1∧e 3= .ref (h.length+1) [] none 0 4 4∧H[h.length]? =some (.cells (some 25) [.arr 25 lS])∧H[h.length+1]? =some (.cells none (kJ P N).vs)∧Fw [] h H)
     N _ _ ⟨0,rfl,by omega,rfl,e2,e3,e4,cS,cI,by simpa using br,fw⟩ ?_ ?_
   ·clear br cS cI fw
    rintro m e H ⟨i,rfl,hi,e7,e2,e3,e4,cS,cI,br,fw⟩
    have lE:=fun cf base=> br.cF (cf:=cf) (base:=base) (h:=H)
    rw[hP8] at lE
    by_cases c:i < N
    ·have c':((8 * i:Nat):Int)<((8 * N:Nat):Int):=by omega
     have CU:kJ P (i+1)=O6 (kJ P i) (P.drop (8 * i)):=rfl
     have hXok:=vu P i
     generalize kJ P i=X at cI CU hXok
     have oT:∀c,(H.set (h.length+1) c)[h.length+1]? =some c:=fun c=> q9z cI
     have CS:∀c d,(H.set (h.length+1) c).set (h.length+1) d=H.set (h.length+1) d:=fun c d=> List.set_set ..
     have qw:∀c,(H.set (h.length+1) c)[h.length]? =some (.cells (some 25) [.arr 25 lS]):=fun c=> by rw[List.getElem?_set_ne (by omega)];exact cS
     have m6:∀c,Fw [] h (H.set (h.length+1) c):=fun c=> fw.cL (by omega) c
     have GY:∀c,(∀bl:Bs,X.vs≠bl.map aa)→BR (H.set (h.length+1) c) y P:=fun c hq=> br.mono (Fw.KO (S:=[h.length+1]) (by simp) cI hq)
     have hnb:∀Z:W,∀bl:Bs,Z.vs≠bl.map aa:=fun Z bl he=> by
       cases bl with
       | nil=> simp[W.vs] at he
       | cons b bl=> simp[W.vs,aa] at he
     have GY:=fun c=> GY c (hnb X)
     have a1:IntKind.i64.wrap (((8 * i:Nat):Int)+4)=((8 * i+4:Nat):Int):=by rw[wrap_i64 (by omega) (by omega)];omega
     have a2:IntKind.i64.wrap (((8 * i:Nat):Int)+8)=((8 * i+8:Nat):Int):=by rw[wrap_i64 (by omega) (by omega)];omega
     obtain ⟨y1,hy1,br1⟩:=br.both (k:= .i64) (k':= .i64) (a:=8 * i) (r:=8 * i+4) (by omega) (by omega)
     have lV:=BI h.length H y1 _ br1 (by simp;omega)
     have ht1:nr ((P.drop (8 * i)).take (8 * i+4 - 8 * i))=nr (P.drop (8 * i)):=by
       rw[show 8 * i+4 - 8 * i=4 by omega];exact xg _
     rw[ht1] at lV
     have zM:=cI
     simp only[W.vs] at zM
     have Vl:∀cf base,aB cf base H (.ji none true true false) [y,.s (.int .i64 ((8 * i:Nat):Int)),.s (.int .i64 ((8 * i+4:Nat):Int))]=some (y1,H):=hy1
     obtain ⟨y2,hy2,br2⟩:=(GY (.cells none [.s (.int .u32 (xr X.a (nr (P.drop (8 * i))):Nat)),.s (.int .u32 X.b),.s (.int .u32 X.c),.s (.int .u32 X.d)])).both (k:= .i64) (k':= .i64) (a:=8 * i+4) (r:=8 * i+8) (by omega) (by omega)
     have vw:=BI h.length _ y2 _ br2 (by simp;omega)
     have ht2:nr ((P.drop (8 * i+4)).take (8 * i+8 - (8 * i+4)))=nr ((P.drop (8 * i)).drop 4):=by
       rw[show 8 * i+8 - (8 * i+4)=4 by omega,List.drop_drop];exact xg _
     rw[ht2] at vw
     obtain ⟨W1,hW1⟩:∃W1:W,(⟨xr X.a (nr (P.drop (8 * i))),X.b,X.c,xr X.d (nr ((P.drop (8 * i)).drop 4))⟩:W)=W1:=⟨_,rfl⟩
     have Pc:kJ P (i+1)=gL (gL (gL W1)):=by rw[CU,←hW1];rfl
     have hW1ok:W1.ok:=by rw[←hW1];exact ⟨lz _ _,hXok.2.1,hXok.2.2.1,lz _ _⟩
     have hW1v:[V.s (.int .u32 ((xr X.a (nr (P.drop (8 * i))):Nat):Int)),.s (.int .u32 X.b),.s (.int .u32 X.c),.s (.int .u32 ((xr X.d (nr ((P.drop (8 * i)).drop 4)):Nat):Int))]=W1.vs:=by rw[←hW1];rfl
     have s1:=o5 h.length (H.set (h.length+1) (.cells none W1.vs)) (h.length+1) W1 hW1ok (oT _)
     have s2:=o5 h.length (H.set (h.length+1) (.cells none (gL W1).vs)) (h.length+1) (gL W1) (oP _) (oT _)
     have s3:=o5 h.length (H.set (h.length+1) (.cells none (gL (gL W1)).vs)) (h.length+1) (gL (gL W1)) (oP _) (oT _)
     rw[CS] at s1 s2 s3
     have l0:(0:Int)<((4:Nat):Int):=by decide
     have l3:(3:Int)<((4:Nat):Int):=by decide
     have au:(0:Nat)=0:=rfl
     try simp only[e7,e2,e3,e4,lE,c',l0,l3,a1,a2,lV,zM,oT,CS,Vl,hy2,vw,wU,eh,hW1v,s1,s2,s3,go_sem,↓reduceIte,Nat.reduceEqDiff,Nat.reduceBEq,Nat.reduceAdd,Nat.reduceSub,Nat.reduceLT,Nat.reduceLeDiff,Int.reduceLT,Int.reduceLE,Int.reduceEq,Int.reduceToNat]
     repeat' (
       first | refine q5z ?_ ?_ | refine q3z ?_ ?_ | refine q4z ?_ ?_
       all_goals intro aj
       all_goals first | replace aj:=q2z aj | replace aj:=q1z aj | skip
       all_goals first | subst aj | replace au:=And.intro aj au
       all_goals try simp only[au,e7,e2,e3,e4,lE,c',l0,l3,a1,a2,lV,zM,oT,CS,Vl,hy2,vw,wU,eh,hW1v,s1,s2,s3,go_sem,↓reduceIte,Nat.reduceEqDiff,Nat.reduceBEq,Nat.reduceAdd,Nat.reduceSub,Nat.reduceLT,Nat.reduceLeDiff,Int.reduceLT,Int.reduceLE,Int.reduceEq,Int.reduceToNat])
     all_goals exact ⟨N - (i+1),by omega,i+1,rfl,by omega,rfl,qw _,by rw[Pc],GY _,m6 _⟩
    ·have c':¬((8 * i:Nat):Int)<((8 * N:Nat):Int):=by omega
     have:i=N:=by omega
     have au:(0:Nat)=0:=rfl
     try simp only[e7,e2,e3,e4,lE,c',go_sem,↓reduceIte,Nat.reduceEqDiff,Nat.reduceBEq,Nat.reduceAdd,Nat.reduceSub,Nat.reduceLT,Nat.reduceLeDiff,Int.reduceLT,Int.reduceLE,Int.reduceEq,Int.reduceToNat]
     repeat' (
       first | refine q5z ?_ ?_ | refine q3z ?_ ?_ | refine q4z ?_ ?_
       all_goals intro aj
       all_goals first | replace aj:=q2z aj | replace aj:=q1z aj | skip
       all_goals first | subst aj | replace au:=And.intro aj au
       all_goals try simp only[au,e7,e2,e3,e4,lE,c',go_sem,↓reduceIte,Nat.reduceEqDiff,Nat.reduceBEq,Nat.reduceAdd,Nat.reduceSub,Nat.reduceLT,Nat.reduceLeDiff,Int.reduceLT,Int.reduceLE,Int.reduceEq,Int.reduceToNat])
     all_goals (subst this;exact ⟨cS,cI,fw⟩)
   ·clear br cS cI fw e4
    rintro e H ⟨e2,e3,cS,cI,fw⟩
    have hXok:=vu P N
    generalize kJ P N=X at cI rS hXok
    have au:(0:Nat)=0:=rfl
    try simp only[e2,e3,go_sem,↓reduceIte,Nat.reduceEqDiff,Nat.reduceBEq,Nat.reduceAdd,Nat.reduceSub,Nat.reduceLT,Nat.reduceLeDiff,Int.reduceLT,Int.reduceLE,Int.reduceEq,Int.reduceToNat]
    repeat' (
      first | refine q5z ?_ ?_ | refine q3z ?_ ?_ | refine q4z ?_ ?_
      all_goals intro aj
      all_goals first | replace aj:=q2z aj | replace aj:=q1z aj | skip
      all_goals first | subst aj | replace au:=And.intro aj au
      all_goals try simp only[au,e2,e3,go_sem,↓reduceIte,Nat.reduceEqDiff,Nat.reduceBEq,Nat.reduceAdd,Nat.reduceSub,Nat.reduceLT,Nat.reduceLeDiff,Int.reduceLT,Int.reduceLE,Int.reduceEq,Int.reduceToNat])
    refine bj (fun m e H'=>∃j,m=8 - j∧j≤8∧e 8= .s (.int .i64 (j:Nat))∧e 2= .ptr h.length [0] 1∧e 3= .ref (h.length+1) [] none 0 4 4∧H'[h.length]? =some (.cells (some 25) [.arr 25 lS])∧H'[h.length+1]? =some (.cells none (dz X j).vs)∧Fw [] h H')
      (fun e H'=> e 2= .ptr h.length [0] 1∧e 3= .ref (h.length+1) [] none 0 4 4∧H'[h.length]? =some (.cells (some 25) [.arr 25 lS])∧H'[h.length+1]? =some (.cells none (dz X 8).vs)∧Fw [] h H')
      8 _ _ ⟨0,rfl,by omega,rfl,e2,e3,cS,cI,fw⟩ ?_ ?_
    ·clear cS cI fw
     rintro m e H' ⟨j,rfl,hj,e8,e2,e3,cS,cI,fw⟩
     by_cases c:j < 8
     ·have c':(j:Int)< 8:=by omega
      have aP:=o5 h.length H' (h.length+1) (dz X j) (rN hXok j) cI
      have aP:run fns pr h.length 122 [.ref (h.length+1) [] none 0 4 4] H'=some (.bI [],H'.set (h.length+1) (.cells none (dz X (j+1)).vs)):=aP
      have oT:=q9z cI (b:= .cells none (dz X (j+1)).vs)
      have qw:(H'.set (h.length+1) (.cells none (dz X (j+1)).vs))[h.length]? =some (.cells (some 25) [.arr 25 lS]):=by rw[List.getElem?_set_ne (by omega)];exact cS
      have m6:Fw [] h (H'.set (h.length+1) (.cells none (dz X (j+1)).vs)):=fw.cL (by omega) _
      have iA:IntKind.i64.wrap ((j:Int)+1)=((j+1:Nat):Int):=q18z (by omega)
      have au:(0:Nat)=0:=rfl
      try simp only[e8,e2,e3,c',aP,iA,go_sem,↓reduceIte,Nat.reduceEqDiff,Nat.reduceBEq,Nat.reduceAdd,Nat.reduceSub,Nat.reduceLT,Nat.reduceLeDiff,Int.reduceLT,Int.reduceLE,Int.reduceEq,Int.reduceToNat]
      repeat' (
        first | refine q5z ?_ ?_ | refine q3z ?_ ?_ | refine q4z ?_ ?_
        all_goals intro aj
        all_goals first | replace aj:=q2z aj | replace aj:=q1z aj | skip
        all_goals first | subst aj | replace au:=And.intro aj au
        all_goals try simp only[au,e8,e2,e3,c',aP,iA,go_sem,↓reduceIte,Nat.reduceEqDiff,Nat.reduceBEq,Nat.reduceAdd,Nat.reduceSub,Nat.reduceLT,Nat.reduceLeDiff,Int.reduceLT,Int.reduceLE,Int.reduceEq,Int.reduceToNat])
      all_goals exact ⟨8 - (j+1),by omega,j+1,rfl,by omega,rfl,qw,oT,m6⟩
     ·have c':¬(j:Int)< 8:=by omega
      have:j=8:=by omega
      subst this
      have au:(0:Nat)=0:=rfl
      try simp only[e8,e2,e3,c',go_sem,↓reduceIte,Nat.reduceEqDiff,Nat.reduceBEq,Nat.reduceAdd,Nat.reduceSub,Nat.reduceLT,Nat.reduceLeDiff,Int.reduceLT,Int.reduceLE,Int.reduceEq,Int.reduceToNat]
      repeat' (
        first | refine q5z ?_ ?_ | refine q3z ?_ ?_ | refine q4z ?_ ?_
        all_goals intro aj
        all_goals first | replace aj:=q2z aj | replace aj:=q1z aj | skip
        all_goals first | subst aj | replace au:=And.intro aj au
        all_goals try simp only[au,e8,e2,e3,c',go_sem,↓reduceIte,Nat.reduceEqDiff,Nat.reduceBEq,Nat.reduceAdd,Nat.reduceSub,Nat.reduceLT,Nat.reduceLeDiff,Int.reduceLT,Int.reduceLE,Int.reduceEq,Int.reduceToNat])
      all_goals exact ⟨cS,cI,fw⟩
    ·clear cS cI fw
     rintro e H ⟨e2,e3,cS,cI,fw⟩
     have hYok:=rN hXok 8
     generalize dz X 8=Y at cI rS hYok
     have au:(0:Nat)=0:=rfl
     try simp only[e2,e3,go_sem,↓reduceIte,Nat.reduceEqDiff,Nat.reduceBEq,Nat.reduceAdd,Nat.reduceSub,Nat.reduceLT,Nat.reduceLeDiff,Int.reduceLT,Int.reduceLE,Int.reduceEq,Int.reduceToNat]
     repeat' (
       first | refine q5z ?_ ?_ | refine q3z ?_ ?_ | refine q4z ?_ ?_
       all_goals intro aj
       all_goals first | replace aj:=q2z aj | replace aj:=q1z aj | skip
       all_goals first | subst aj | replace au:=And.intro aj au
       all_goals try simp only[au,e2,e3,go_sem,↓reduceIte,Nat.reduceEqDiff,Nat.reduceBEq,Nat.reduceAdd,Nat.reduceSub,Nat.reduceLT,Nat.reduceLeDiff,Int.reduceLT,Int.reduceLE,Int.reduceEq,Int.reduceToNat])
     have gh:h.length+1 < H.length:=q6z cI
     have hT:(H++[aW.cells (some 25) [.arr 25 lS]])[H.length]? =_:=aM H [aW.cells (some 25) [.arr 25 lS]]
     obtain ⟨o,ho⟩:∃o,H.length=o:=⟨_,rfl⟩
     refine bj (fun m e H'=>∃i,m=16 - i∧i≤16∧e 10= .s (.int .i64 (i:Nat))∧e 2= .ptr h.length [0] 1∧e 3= .ref (h.length+1) [] none 0 4 4∧e 9= .ptr o [0] 1∧H'[h.length]? =some (.cells (some 25) [.arr 25 lS])∧H'[h.length+1]? =some (.cells none (kP Y i).vs)∧H'[o]? =some (.cells (some 25) [.arr 25 ((fg Y i++List.replicate (16 - i) 0).map aa)])∧Fw [] h H')
       (fun e H'=> e 2= .ptr h.length [0] 1∧e 9= .ptr o [0] 1∧H'[h.length]? =some (.cells (some 25) [.arr 25 lS])∧H'[o]? =some (.cells (some 25) [.arr 25 ((fg Y 16).map aa)])∧Fw [] h H')
       16 _ _ ⟨0,rfl,by omega,rfl,e2,e3,by rw[←ho];rfl,q10z cS _,by rw[show kP Y 0=Y by simp[kP]];exact q10z cI _,by rw[←ho];exact hT,fw.trans (Fw.app _ _ _)⟩ ?_ ?_
     ·clear hT cS cI fw
      rintro m e H' ⟨i,rfl,hi,e10,e2,e3,e9,cS,cI,jf,fw⟩
      by_cases c:i < 16
      ·have c':(i:Int)< 16:=by omega
       have c16:(i:Int)<((16:Nat):Int):=by omega
       have i0:(0:Int)≤(i:Int):=by omega
       have hq:∀cf base h,aB cf base h (.bin .num .quo) [.s (.int .i64 i),.s (.int .i64 4)]=some (.s (.int .i64 ((i / 4:Nat):Int)),h):=fun cf base h=> by
         rw[xd cf base h .i64 _ 4 (by omega),Int.tdiv_eq_ediv_of_nonneg (by omega),wrap_i64 (by omega) (by omega)];rfl
       have hYv:(kP Y i).vs[i / 4]? =some (.s (.int .u32 (((kP Y i).at (i / 4):Nat):Int))):=by
         have:i / 4=0∨i / 4=1∨i / 4=2∨i / 4=3:=by omega
         rcases this with h | h | h | h <;> rw[h]<;> rfl
       have Hj:∀cf base h,aB cf base h (.bin .num .quo) [.s (.int .u32 (((kP Y i).at (i / 4):Nat):Int)),.s (.int .u32 256)]=some (.s (.int .u32 (((kP Y i).at (i / 4)/ 256:Nat):Int)),h):=fun cf base h=> by
         have bW:(kP Y i).at (i / 4)< 4294967296:=by
           rw[BK Y i c]
           refine Nat.lt_of_le_of_lt (Nat.div_le_self _ _) ?_
           have:i / 4=0∨i / 4=1∨i / 4=2∨i / 4=3:=by omega
           rcases this with h | h | h | h <;> rw[h]
           ·exact hYok.1
           ·exact hYok.2.1
           ·exact hYok.2.2.1
           ·exact hYok.2.2.2
         generalize (kP Y i).at (i / 4)=n at bW
         rw[xd cf base h .u32 _ 256 (by omega),Int.tdiv_eq_ediv_of_nonneg (by omega),wrap_u32 (by omega) (by omega)];rfl
       have hYl:(kP Y i).vs.length=4:=rfl
       have c4:((i / 4:Nat):Int)< 4:=by omega
       have c4':((i / 4:Nat):Int)<((4:Nat):Int):=by omega
       have j0:(0:Int)≤((i / 4:Nat):Int):=by omega
       have c4n:i / 4 < 4:=by omega
       have Bw:((fg Y i++List.replicate (16 - i) 0).map aa).length=16:=by rw[List.length_map,List.length_append,gM,List.length_replicate];omega
       obtain ⟨z,hz,hzt⟩:∃z,((fg Y i++List.replicate (16 - i) 0).map aa)[i]? =some z∧z.ty=none:=by
         refine ⟨aa ((fg Y i++List.replicate (16 - i) 0)[i]'(by rw[List.length_map] at Bw;omega)),?_,rfl⟩
         rw[List.getElem?_map,List.getElem?_eq_getElem (by rw[List.length_map] at Bw;omega)];rfl
       have aP:((fg Y i++List.replicate (16 - i) 0).map aa).set i (V.s (.int .u8 (IntKind.u8.wrap (((kP Y i).at (i / 4):Nat):Int))))=(fg Y (i+1)++List.replicate (16 - (i+1)) 0).map aa:=by
         rw[BJ,BK Y i c,←List.map_set,List.set_append_right _ _ (by rw[gM];exact Nat.le_refl _),gM,Nat.sub_self,show 16 - i=(16 - (i+1))+1 by omega,List.replicate_succ,List.set_cons_zero,fg,List.append_assoc]
         rfl
       have ny:=C9 Y i c
       generalize (fg Y i++List.replicate (16 - i) 0).map aa=vs at jf Bw hz aP
       generalize X7:(kP Y (i+1)).vs=vs1 at ny
       generalize (kP Y i).vs=vs0 at cI hYv hYl ny
       generalize Vn:(fg Y (i+1)++List.replicate (16 - (i+1)) 0).map aa=vo at aP
       have X4:h.length+1≠o:=by omega
       have Y4:o≠h.length+1:=by omega
       have X5:h.length≠o:=by omega
       have p1:∀c,(H'.set o c)[h.length+1]? =some (.cells none vs0):=fun c=> by rw[List.getElem?_set_ne (by omega)];exact cI
       have n0:∀c d,((H'.set o c).set (h.length+1) d)[h.length]? =some (.cells (some 25) [.arr 25 lS]):=fun c d=> by rw[List.getElem?_set_ne (by omega),List.getElem?_set_ne (by omega)];exact cS
       have n1:∀c d,((H'.set o c).set (h.length+1) d)[h.length+1]? =some d:=fun c d=> q9z (p1 c)
       have n2:∀c d,((H'.set o c).set (h.length+1) d)[o]? =some c:=fun c d=> by rw[List.getElem?_set_ne (by omega)];exact q9z jf
       have nf:∀c d,Fw [] h ((H'.set o c).set (h.length+1) d):=fun c d=>(fw.cL (by omega) _).cL (by omega) _
       have iA:IntKind.i64.wrap ((i:Int)+1)=((i+1:Nat):Int):=q18z (by omega)
       have au:(0:Nat)=0:=rfl
       try simp only[e10,e2,e3,e9,c',c16,i0,hq,Hj,hYv,hYl,c4,c4',j0,c4n,Bw,hz,hzt,aP,ny,cS,cI,jf,p1,eh,iA,Int.toNat_natCast,go_sem,↓reduceIte,Nat.reduceEqDiff,Nat.reduceBEq,Nat.reduceAdd,Nat.reduceSub,Nat.reduceLT,Nat.reduceLeDiff,Int.reduceLT,Int.reduceLE,Int.reduceEq,Int.reduceToNat]
       repeat' (
         first | refine q5z ?_ ?_ | refine q3z ?_ ?_ | refine q4z ?_ ?_
         all_goals intro aj
         all_goals first | replace aj:=q2z aj | replace aj:=q1z aj | skip
         all_goals first | subst aj | replace au:=And.intro aj au
         all_goals try simp only[au,e10,e2,e3,e9,c',c16,i0,hq,Hj,hYv,hYl,c4,c4',j0,c4n,Bw,hz,hzt,aP,ny,cS,cI,jf,p1,eh,iA,Int.toNat_natCast,go_sem,↓reduceIte,Nat.reduceEqDiff,Nat.reduceBEq,Nat.reduceAdd,Nat.reduceSub,Nat.reduceLT,Nat.reduceLeDiff,Int.reduceLT,Int.reduceLE,Int.reduceEq,Int.reduceToNat])
       all_goals exact ⟨16 - (i+1),by omega,i+1,rfl,by omega,rfl,n0 _ _,by rw[X7];exact n1 _ _,by rw[Vn];exact n2 _ _,nf _ _⟩
      ·have c':¬(i:Int)< 16:=by omega
       have:i=16:=by omega
       subst this
       rw[Nat.sub_self,List.replicate_zero,List.append_nil] at jf
       have au:(0:Nat)=0:=rfl
       try simp only[e10,e2,e3,e9,c',go_sem,↓reduceIte,Nat.reduceEqDiff,Nat.reduceBEq,Nat.reduceAdd,Nat.reduceSub,Nat.reduceLT,Nat.reduceLeDiff,Int.reduceLT,Int.reduceLE,Int.reduceEq,Int.reduceToNat]
       repeat' (
         first | refine q5z ?_ ?_ | refine q3z ?_ ?_ | refine q4z ?_ ?_
         all_goals intro aj
         all_goals first | replace aj:=q2z aj | replace aj:=q1z aj | skip
         all_goals first | subst aj | replace au:=And.intro aj au
         all_goals try simp only[au,e10,e2,e3,e9,c',go_sem,↓reduceIte,Nat.reduceEqDiff,Nat.reduceBEq,Nat.reduceAdd,Nat.reduceSub,Nat.reduceLT,Nat.reduceLeDiff,Int.reduceLT,Int.reduceLE,Int.reduceEq,Int.reduceToNat])
       all_goals exact ⟨cS,jf,fw⟩
     ·clear hT cS cI fw
      rintro e H' ⟨e2,e9,cS,jf,fw⟩
      have eI:∀c,(H'.set h.length c).take h.length=h:=fun c=>(fw.cL (Nat.le_refl _) c).take
      have oT:∀c,(H'.set h.length c)[h.length]? =some c:=fun c=> q9z cS
      rw[←rS] at jf
      have df:∀n h,bB.all n h ((cT l).map aa)=some ((cT l).map aa):=fun n h=> qB n h (cT l)
      generalize (cT l).map aa=ws at jf df
      have au:(0:Nat)=0:=rfl
      try simp only[e2,e9,cS,jf,eI,oT,eh,df,go_sem,↓reduceIte,Nat.reduceEqDiff,Nat.reduceBEq,Nat.reduceAdd,Nat.reduceSub,Nat.reduceLT,Nat.reduceLeDiff,Int.reduceLT,Int.reduceLE,Int.reduceEq,Int.reduceToNat]
      repeat' (
        first | refine q5z ?_ ?_ | refine q3z ?_ ?_ | refine q4z ?_ ?_
        all_goals intro aj
        all_goals first | replace aj:=q2z aj | replace aj:=q1z aj | skip
        all_goals first | subst aj | replace au:=And.intro aj au
        all_goals try simp only[au,e2,e9,cS,jf,eI,oT,eh,df,go_sem,↓reduceIte,Nat.reduceEqDiff,Nat.reduceBEq,Nat.reduceAdd,Nat.reduceSub,Nat.reduceLT,Nat.reduceLeDiff,Int.reduceLT,Int.reduceLE,Int.reduceEq,Int.reduceToNat])
end Go.Proofs.YtannfageakbpmaaGreat
namespace Go.Vm
theorem zX {h:Hp} {j t:Nat} {g:Option Nat} {l:List UInt8} (hg:h[j]? =some (.cells g [.arr t (l.map aa)])):elems h (.ref j [0] none 0 l.length 1)=some (none,l.map aa):=by
 simp only[elems,Vm.rowAt,node,rowOf,hg,nodeAt,List.length_cons,List.length_nil,if_true,List.getElem?_cons_zero,Option.map_some,List.drop_zero,o6]
end Go.Vm
namespace Go.Proofs.YtannfageakbpmaaGreat
open Go Go.Vm Go.Proofs Go.Cl
set_option maxRecDepth 100000
def aI (id:Bs):Nat:=((cT id).getD 0 0).toNat % 16
theorem kQ (id:Bs):aI id < 16:=Nat.mod_lt _ (by decide)
theorem KP (b:Nat) (x:V) (h:Hp):run fns pr b 60 [x] h=wW [x] h:=by
 rw[oc fns pr rfl];rfl
theorem KQ (b:Nat) {h:Hp} {j t:Nat} {g:Option Nat} {l:Bs} (hg:h[j]? =some (.cells g [.arr t (l.map aa)])) (hl:l.length≤1000000):run fns pr b 60 [.ref j [0] none 0 l.length 1] h=some (.arr 25 ((cT l).map aa),h):=by
 rw[KP];exact Bt (Rd.mk' (zX hg) rfl) hl
theorem X8 (l:Bs):∃u:Nat,u < 256∧((cT l).map aa)[0]? =some (.s (.int .u8 u))∧((cT l).getD 0 0).toNat=u:=by
 have h:=bm l
 refine ⟨((cT l).getD 0 0).toNat,UInt8.toNat_lt _,?_,rfl⟩
 rw[List.getElem?_map,List.getD,List.getElem?_eq_getElem (by omega)]
 rfl
theorem kR (b:Nat) (h:Hp) (id:Bs) (hl:id.length≤1000000):run fns pr b 63 [.arr 27 (id.map aa)] h=some (.s (.int .i64 (aI id:Nat)),h):=by
 refine Vm.aT (nt:=8) rfl Tz (by simp) ?_
 have hs:=KQ h.length (h:=h++[.cells (some 27) [.arr 27 (id.map aa)]]) (aM _ _) hl
 obtain ⟨u,hu,h0,he⟩:=X8 id
 have hlen:((cT id).map aa).length=16:=by rw[List.length_map,bm]
 have hr:∀cf base h,aB cf base h (.bin .num .rem) [.s (.int .u8 (u:Int)),.s (.int .u8 16)]=some (.s (.int .u8 ((u % 16:Nat):Int)),h):=fun cf base h=> by
   rw[lC cf base h .u8 _ 16 (by omega),Int.tmod_eq_emod_of_nonneg (by omega)];rfl
 have hw:IntKind.i64.wrap ((u % 16:Nat):Int)=((u % 16:Nat):Int):=wrap_i64 (by omega) (by omega)
 have iP:aI id=u % 16:=by rw[aI,he]
 generalize (cT id).map aa=ws at hs h0 hlen
 rw[iP]
 have hix:∀cf base h,aB cf base h (.idx 25) [.arr 25 ws,.s (.int .i64 0)]=some (.s (.int .u8 u),h):=fun cf base h=> by
   have h1:(0:Int)<((16:Nat):Int):=by decide
   simp only[aB,qC,numOf,hlen,h0,h1,Int.le_refl,and_self,if_true,Int.toNat_zero,Option.map_some]
 have au:(0:Nat)=0:=rfl
 try simp only[B63,hs,hix,hr,hw,go_sem,↓reduceIte,Nat.reduceEqDiff,Nat.reduceBEq,Nat.reduceAdd,Nat.reduceSub,Nat.reduceLT,Nat.reduceLeDiff,Int.reduceLT,Int.reduceLE,Int.reduceEq,Int.reduceToNat]
 repeat' (
   first | refine q5z ?_ ?_ | refine q3z ?_ ?_ | refine q4z ?_ ?_
   all_goals intro aj
   all_goals first | replace aj:=q2z aj | replace aj:=q1z aj | skip
   all_goals first | subst aj | replace au:=And.intro aj au
   all_goals try simp only[au,B63,hs,hix,hr,hw,go_sem,↓reduceIte,Nat.reduceEqDiff,Nat.reduceBEq,Nat.reduceAdd,Nat.reduceSub,Nat.reduceLT,Nat.reduceLeDiff,Int.reduceLT,Int.reduceLE,Int.reduceEq,Int.reduceToNat])
theorem BM (b:Nat) (x y:V) (h:Hp):run fns pr b 98 [x,y] h=Hk (elems h x) (elems h y) h:=by
 rw[oc fns pr rfl];exact Hb _ _ _
theorem kS (b:Nat) (vs:List V) (h:Hp):run fns pr b 97 vs h=eQ (some 31) 96 vs h:=by
 rw[oc fns pr rfl];rfl
theorem kT (l:List ag):V.plain.all (l.map ag.enc)=true:=by
 induction l with
 | nil=> rfl
 | cons v l ih=> simp only[List.map_cons,r6,ih,ag.enc,go_sem]
def TR (h:Hp) (t k:Nat) (l:List ag):Prop:=
 ∃x,h[t]? =some (.cells (some 146) [.st 146 [x]])∧
  ((x= .al true (some 31) []∧l=[]∧k=t)∨(x= .ref k [] (some 31) 0 l.length l.length∧k≠t∧h[k]? =some (.cells (some 31) (l.map ag.enc))))
theorem TR.mono {S:List Nat} {h h':Hp} {t k:Nat} {l:List ag} (ho:TR h t k l) (f:Fw S h h') (hi:t∉S) (hk:k∉S):TR h' t k l:=by
 obtain ⟨x,h1,h2⟩:=ho
 refine ⟨x,f.dO _ _ h1 hi,?_⟩
 rcases h2 with h2 | ⟨a,b,c⟩
 ·exact .inl h2
 ·exact .inr ⟨a,b,f.dO _ _ c hk⟩
theorem TR.lt {h:Hp} {t k:Nat} {l:List ag} (ho:TR h t k l):t < h.length∧k < h.length:=by
 obtain ⟨x,h1,h2⟩:=ho
 refine ⟨q6z h1,?_⟩
 rcases h2 with ⟨_,_,rfl⟩ | ⟨_,_,h3⟩
 ·exact q6z h1
 ·exact q6z h3
theorem KS (b:Nat) (h:Hp) (t k:Nat) (l:List ag) (ho:TR h t k l):run fns pr b 86 [.ptr t [0] 1] h=some (.s (.int .i64 l.length),h):=by
 refine Vm.aT (nt:=8) rfl Ul (by simp) ?_
 obtain ⟨x,h1,⟨rfl,rfl,rfl⟩ | ⟨rfl,h2,h3⟩⟩:=ho
 ·have au:(0:Nat)=0:=rfl
  try simp only[B86,h1,go_sem,↓reduceIte,Nat.reduceEqDiff,Nat.reduceBEq,Nat.reduceAdd,Nat.reduceSub,Nat.reduceLT,Nat.reduceLeDiff,Int.reduceLT,Int.reduceLE,Int.reduceEq,Int.reduceToNat]
  repeat' (
    first | refine q5z ?_ ?_ | refine q3z ?_ ?_ | refine q4z ?_ ?_
    all_goals intro aj
    all_goals first | replace aj:=q2z aj | replace aj:=q1z aj | skip
    all_goals first | subst aj | replace au:=And.intro aj au
    all_goals try simp only[au,B86,h1,go_sem,↓reduceIte,Nat.reduceEqDiff,Nat.reduceBEq,Nat.reduceAdd,Nat.reduceSub,Nat.reduceLT,Nat.reduceLeDiff,Int.reduceLT,Int.reduceLE,Int.reduceEq,Int.reduceToNat])
  all_goals rfl
 ·have au:(0:Nat)=0:=rfl
  try simp only[B86,h1,go_sem,↓reduceIte,Nat.reduceEqDiff,Nat.reduceBEq,Nat.reduceAdd,Nat.reduceSub,Nat.reduceLT,Nat.reduceLeDiff,Int.reduceLT,Int.reduceLE,Int.reduceEq,Int.reduceToNat]
  repeat' (
    first | refine q5z ?_ ?_ | refine q3z ?_ ?_ | refine q4z ?_ ?_
    all_goals intro aj
    all_goals first | replace aj:=q2z aj | replace aj:=q1z aj | skip
    all_goals first | subst aj | replace au:=And.intro aj au
    all_goals try simp only[au,B86,h1,go_sem,↓reduceIte,Nat.reduceEqDiff,Nat.reduceBEq,Nat.reduceAdd,Nat.reduceSub,Nat.reduceLT,Nat.reduceLeDiff,Int.reduceLT,Int.reduceLE,Int.reduceEq,Int.reduceToNat])
theorem rp (b:Nat) (h:Hp) (f:Bool) (v:ag) (hl:v.bY.length≤140737488355328):run fns pr b 82 [v.gk f] h=some (v.enc,h):=by
 refine Vm.aT (nt:=8) rfl Ud (by simp) ?_
 obtain ⟨a1,a2,a3,a4,a5,a6,a7,a8,a9⟩:=v
 simp only at hl
 have hc:=fun h0=> xh (h:=h0) (dj h0 f a4) hl
 have cl:∀A B C D,bB h.length (h++A::B::ct a4) (cv (h++[C,D]) a4)=some (.al false none (a4.map aa)):=fun A B C D=> by
   have:=KT h.length (h++[C,D]) (h++[A,B]) a4 (by simp) (by simp)
   rwa [List.append_assoc] at this
 simp only[B82,ag.gk,ag.enc,iI,hc,Nd,xi,cl,List.take_left,go_sem,↓reduceIte,Nat.reduceEqDiff,Nat.reduceBEq,Nat.reduceAdd,Nat.reduceSub,Nat.reduceLT,Nat.reduceLeDiff,Int.reduceLT,Int.reduceLE,Int.reduceEq,Int.reduceToNat]
theorem Hl (b:Nat) (h:Hp) (v:ag) (id:Bs):run fns pr b 112 [v.enc,.arr 27 (id.map aa)] h=some (.s (.int .i64 (cQ v.iD id)),h):=by
 refine Vm.aT (nt:=9) rfl Oc (by simp) ?_
 have hc:=fun x y h0=> BM h.length x y h0
 have au:(0:Nat)=0:=rfl
 try simp only[Km,ag.enc,hc,go_sem,↓reduceIte,Nat.reduceEqDiff,Nat.reduceBEq,Nat.reduceAdd,Nat.reduceSub,Nat.reduceLT,Nat.reduceLeDiff,Int.reduceLT,Int.reduceLE,Int.reduceEq,Int.reduceToNat]
 repeat' (
   first | refine q5z ?_ ?_ | refine q3z ?_ ?_ | refine q4z ?_ ?_
   all_goals intro aj
   all_goals first | replace aj:=q2z aj | replace aj:=q1z aj | skip
   all_goals first | subst aj | replace au:=And.intro aj au
   all_goals try simp only[au,Km,ag.enc,hc,go_sem,↓reduceIte,Nat.reduceEqDiff,Nat.reduceBEq,Nat.reduceAdd,Nat.reduceSub,Nat.reduceLT,Nat.reduceLeDiff,Int.reduceLT,Int.reduceLE,Int.reduceEq,Int.reduceToNat])
theorem Da (b:Nat) (h:Hp) (x:V) (l:List ag) (id:Bs) (hx:SR h x (some 31) (l.map ag.enc)) (hr:gQ l) (hl:l.length≤1000):
 run fns pr b 111 [x,.arr 27 (id.map aa),.fn 112 []] h=some (.bI [.s (.int .i64 (pos l id)),.s (.bool (decide ((l[pos l id]?).map ag.iD=some id)))],h):=by
 refine Vm.aT (nt:=49) rfl Oa (by simp) ?_
 have hlen:=fun cf base h0=> hx.cF (cf:=cf) (base:=base) (h:=h0)
 simp only[List.length_map] at hlen
 have nB:SR (h++[.cells (some 27) [.arr 27 (id.map aa)]]) x (some 31) (l.map ag.enc):=hx.app _
 generalize hH:h++[.cells (some 27) [.arr 27 (id.map aa)]]=H at nB
 have hHl:H[h.length]? =some (.cells (some 27) [.arr 27 (id.map aa)]):=by rw[←hH];exact aM _ _
 have hHt:H.take h.length=h:=by rw[←hH];simp
 have hp:=Hh l id
 have KU:=fun cf base k (i:Nat) hi=> nB.cY (cf:=cf) (base:=base) (k:=k) (i:=i) hi
 have GX:=fun cf base (i:Nat) (v:ag) (hv:l[i]? =some v)=> nB.g8 (cf:=cf) (base:=base) (i:=i) (v:=v.enc) (by rw[List.getElem?_map,hv];rfl) rfl
 have hf:=fun h0 v=> Hl h.length h0 v id
 simp only[List.length_map] at KU
 have au:(0:Nat)=0:=rfl
 try simp only[Kl,zy,zx,hlen,hH,go_sem,↓reduceIte,Nat.reduceEqDiff,Nat.reduceBEq,Nat.reduceAdd,Nat.reduceSub,Nat.reduceLT,Nat.reduceLeDiff,Int.reduceLT,Int.reduceLE,Int.reduceEq,Int.reduceToNat]
 repeat' (
   first | refine q5z ?_ ?_ | refine q3z ?_ ?_ | refine q4z ?_ ?_
   all_goals intro aj
   all_goals first | replace aj:=q2z aj | replace aj:=q1z aj | skip
   all_goals first | subst aj | replace au:=And.intro aj au
   all_goals try simp only[au,Kl,zy,zx,hlen,hH,go_sem,↓reduceIte,Nat.reduceEqDiff,Nat.reduceBEq,Nat.reduceAdd,Nat.reduceSub,Nat.reduceLT,Nat.reduceLeDiff,Int.reduceLT,Int.reduceLE,Int.reduceEq,Int.reduceToNat])
 refine bj (fun m e hh=>∃i j:Nat,m=j - i∧i≤pos l id∧pos l id≤j∧j≤l.length∧e 9= .s (.int .i64 i)∧e 10= .s (.int .i64 j)∧e 8= .s (.int .i64 l.length)∧e 0=x∧e 2= .fn 112 []∧e 4= .ptr h.length [0] 1∧hh=H)
   (fun e hh=> e 9= .s (.int .i64 (pos l id))∧e 8= .s (.int .i64 l.length)∧e 0=x∧e 2= .fn 112 []∧e 4= .ptr h.length [0] 1∧hh=H) l.length _ _ ⟨0,l.length,by omega,by omega,hp,by omega,?_,?_,?_,?_,?_,?_,rfl⟩ ?_ ?_
 rotate_right 2
 ·rintro m e hh ⟨i,j,rfl,h1,h2,h3,e9,e10,e8,e0',e2,e4,rfl⟩
  by_cases c:i < j
  ·have c':(i:Int)< j:=by omega
   have lV:IntKind.i64.wrap ((i:Int)+j)=(i:Int)+j:=wrap_i64 (by omega) (by omega)
   have vw:IntKind.u64.wrap ((i:Int)+j)=(i:Int)+j:=wrap_u64 (by omega) (by omega)
   have xc:=fun cf base h=> oS (cf:=cf) (base:=base) (h:=h) .u64 .u64 ((i:Int)+j) 1 (by decide)
   have Pq:=fun cf base h=> oS (cf:=cf) (base:=base) (h:=h) .u64 .i64 ((i:Int)+j) 1 (by decide)
   have hs:pI .u64 ((i:Int)+j) 1=(((i+j)/ 2:Nat):Int):=by
     simp only[pI,show min (Int.toNat 1) IntKind.u64.bits=1 from rfl]
     rw[Int.fdiv_eq_ediv_of_nonneg _ (by decide)];omega
   have hw3:IntKind.i64.wrap (((i+j)/ 2:Nat):Int)=(((i+j)/ 2:Nat):Int):=wrap_i64 (by omega) (by omega)
   obtain ⟨t,ht⟩:∃t,t=(i+j)/ 2:=⟨_,rfl⟩
   rw[←ht] at hs hw3
   have hti:i≤t:=by omega
   have htj:t < j:=by omega
   have tE:t < l.length:=by omega
   have hv:l[t]? =some l[t]:=List.getElem?_eq_getElem tE
   generalize l[t]=v at hv
   have bW:=Hi hr hv (id:=id)
   have fi:=fun cf base k=> KU cf base k t tE
   have gh:=fun cf base=> GX cf base t v hv
   have hw4:IntKind.i64.wrap ((t:Int)+1)=((t+1:Nat):Int):=q18z (by omega)
   have au:(0:Nat)=0:=rfl
   try simp only[e9,e10,e8,e0',e2,e4,c',lV,vw,xc,Pq,hs,hw3,fi,gh,hHl,hf,hw4,List.getElem?_cons_zero,go_sem,↓reduceIte,Nat.reduceEqDiff,Nat.reduceBEq,Nat.reduceAdd,Nat.reduceSub,Nat.reduceLT,Nat.reduceLeDiff,Int.reduceLT,Int.reduceLE,Int.reduceEq,Int.reduceToNat]
   repeat' (
     first | refine q5z ?_ ?_ | refine q3z ?_ ?_ | refine q4z ?_ ?_
     all_goals intro aj
     all_goals first | replace aj:=q2z aj | replace aj:=q1z aj | skip
     all_goals first | subst aj | replace au:=And.intro aj au
     all_goals try simp only[au,e9,e10,e8,e0',e2,e4,c',lV,vw,xc,Pq,hs,hw3,fi,gh,hHl,hf,hw4,List.getElem?_cons_zero,go_sem,↓reduceIte,Nat.reduceEqDiff,Nat.reduceBEq,Nat.reduceAdd,Nat.reduceSub,Nat.reduceLT,Nat.reduceLeDiff,Int.reduceLT,Int.reduceLE,Int.reduceEq,Int.reduceToNat])
   all_goals clear KU GX fi gh hf hlen xc Pq
   ·simp only[decide_eq_true_eq] at au
    exact ⟨j - (t+1),by omega,t+1,j,rfl,by omega,h2,h3,rfl,rfl⟩
   ·simp only[decide_eq_false_iff_not] at au
    exact ⟨t - i,by omega,i,t,rfl,h1,by omega,by omega,rfl,rfl⟩
  ·have c':¬(i:Int)< j:=by omega
   obtain rfl:i=pos l id:=by omega
   have au:(0:Nat)=0:=rfl
   try simp only[e9,e10,e8,e0',e2,e4,c',go_sem,↓reduceIte,Nat.reduceEqDiff,Nat.reduceBEq,Nat.reduceAdd,Nat.reduceSub,Nat.reduceLT,Nat.reduceLeDiff,Int.reduceLT,Int.reduceLE,Int.reduceEq,Int.reduceToNat]
   repeat' (
     first | refine q5z ?_ ?_ | refine q3z ?_ ?_ | refine q4z ?_ ?_
     all_goals intro aj
     all_goals first | replace aj:=q2z aj | replace aj:=q1z aj | skip
     all_goals first | subst aj | replace au:=And.intro aj au
     all_goals try simp only[au,e9,e10,e8,e0',e2,e4,c',go_sem,↓reduceIte,Nat.reduceEqDiff,Nat.reduceBEq,Nat.reduceAdd,Nat.reduceSub,Nat.reduceLT,Nat.reduceLeDiff,Int.reduceLT,Int.reduceLE,Int.reduceEq,Int.reduceToNat])
 ·rintro e hh ⟨e9,e8,e0',e2,e4,rfl⟩
  by_cases c:pos l id < l.length
  ·have c':(pos l id:Int)< l.length:=by omega
   have hv:l[pos l id]? =some l[pos l id]:=List.getElem?_eq_getElem c
   generalize l[pos l id]=v at hv
   have fi:=fun cf base k=> KU cf base k _ c
   have gh:=fun cf base=> GX cf base _ v hv
   have hz:decide (v.iD=id)=decide (cQ v.iD id=0):=by
     rw[decide_eq_decide]
     exact ⟨fun h=> by rw[h];exact j5 _,mj _ _⟩
   have au:(0:Nat)=0:=rfl
   try simp only[e9,e8,e0',e2,e4,c',hv,fi,gh,hHl,hHt,hf,hz,List.getElem?_cons_zero,Option.map_some,go_sem,↓reduceIte,Nat.reduceEqDiff,Nat.reduceBEq,Nat.reduceAdd,Nat.reduceSub,Nat.reduceLT,Nat.reduceLeDiff,Int.reduceLT,Int.reduceLE,Int.reduceEq,Int.reduceToNat]
   repeat' (
     first | refine q5z ?_ ?_ | refine q3z ?_ ?_ | refine q4z ?_ ?_
     all_goals intro aj
     all_goals first | replace aj:=q2z aj | replace aj:=q1z aj | skip
     all_goals first | subst aj | replace au:=And.intro aj au
     all_goals try simp only[au,e9,e8,e0',e2,e4,c',hv,fi,gh,hHl,hHt,hf,hz,List.getElem?_cons_zero,Option.map_some,go_sem,↓reduceIte,Nat.reduceEqDiff,Nat.reduceBEq,Nat.reduceAdd,Nat.reduceSub,Nat.reduceLT,Nat.reduceLeDiff,Int.reduceLT,Int.reduceLE,Int.reduceEq,Int.reduceToNat])
  ·have c':¬(pos l id:Int)< l.length:=by omega
   have hv:l[pos l id]? =none:=List.getElem?_eq_none (by omega)
   have au:(0:Nat)=0:=rfl
   try simp only[e9,e8,e0',e2,e4,c',hv,hHt,Option.map_none,go_sem,↓reduceIte,Nat.reduceEqDiff,Nat.reduceBEq,Nat.reduceAdd,Nat.reduceSub,Nat.reduceLT,Nat.reduceLeDiff,Int.reduceLT,Int.reduceLE,Int.reduceEq,Int.reduceToNat]
   repeat' (
     first | refine q5z ?_ ?_ | refine q3z ?_ ?_ | refine q4z ?_ ?_
     all_goals intro aj
     all_goals first | replace aj:=q2z aj | replace aj:=q1z aj | skip
     all_goals first | subst aj | replace au:=And.intro aj au
     all_goals try simp only[au,e9,e8,e0',e2,e4,c',hv,hHt,Option.map_none,go_sem,↓reduceIte,Nat.reduceEqDiff,Nat.reduceBEq,Nat.reduceAdd,Nat.reduceSub,Nat.reduceLT,Nat.reduceLeDiff,Int.reduceLT,Int.reduceLE,Int.reduceEq,Int.reduceToNat])
   all_goals simp
 all_goals rfl
theorem BN (b:Nat) (h:Hp) (t k:Nat) (l:List ag) (id:Bs) (ho:TR h t k l) (hr:gQ l) (hl:l.length≤1000):
 run fns pr b 96 [.ptr t [0] 1,.arr 27 (id.map aa)] h=some (.bI [.s (.int .i64 (pos l id)),.s (.bool (decide ((l[pos l id]?).map ag.iD=some id)))],h):=by
 refine Vm.aT (nt:=14) rfl UB (by simp) ?_
 obtain ⟨x,h1,hh⟩:=ho
 have hx:SR h x (some 31) (l.map ag.enc):=by
   rcases hh with ⟨rfl,rfl,_⟩ | ⟨rfl,_,h3⟩
   ·exact .inl ⟨_,rfl⟩
   ·exact kM h3 (by simp)
 have du:=hx.ty
 have hs:=fun t'=> Da h.length (h++t') x l id (hx.app t') hr hl
 have hg:=fun t'=> q10z h1 t'
 have au:(0:Nat)=0:=rfl
 try simp only[B96,hs,hg,du,go_sem,↓reduceIte,Nat.reduceEqDiff,Nat.reduceBEq,Nat.reduceAdd,Nat.reduceSub,Nat.reduceLT,Nat.reduceLeDiff,Int.reduceLT,Int.reduceLE,Int.reduceEq,Int.reduceToNat]
 repeat' (
   first | refine q5z ?_ ?_ | refine q3z ?_ ?_ | refine q4z ?_ ?_
   all_goals intro aj
   all_goals first | replace aj:=q2z aj | replace aj:=q1z aj | skip
   all_goals first | subst aj | replace au:=And.intro aj au
   all_goals try simp only[au,B96,hs,hg,du,go_sem,↓reduceIte,Nat.reduceEqDiff,Nat.reduceBEq,Nat.reduceAdd,Nat.reduceSub,Nat.reduceLT,Nat.reduceLeDiff,Int.reduceLT,Int.reduceLE,Int.reduceEq,Int.reduceToNat])
def oo (l:List ag) (id:Bs):Option ag:=if (l[pos l id]?).map ag.iD=some id then l[pos l id]? else none
theorem KW (b:Nat) (h:Hp) (t k:Nat) (l:List ag) (id:Bs) (ho:TR h t k l) (hr:gQ l) (hl:l.length≤1000) (hs:∀v∈l,v.bY.length≤64):
 run fns pr b 85 [.ptr t [0] 1,.arr 27 (id.map aa)] h=some (.bI [((oo l id).getD zeroV).enc,.s (.bool (oo l id).isSome)],h):=by
 refine Vm.aT (nt:=25) rfl Uj (by simp) ?_
 have hf:=fun t'=> BN h.length (h++t') t k l id (ho.mono (Fw.app [] h t') (by simp) (by simp)) hr hl
 obtain ⟨x,h1,hh⟩:=ho
 have hx:SR h x (some 31) (l.map ag.enc):=by
   rcases hh with ⟨rfl,rfl,_⟩ | ⟨rfl,_,h3⟩
   ·exact .inl ⟨_,rfl⟩
   ·exact kM h3 (by simp)
 have du:=hx.ty
 have hg:=fun t'=> q10z h1 t'
 unfold oo
 by_cases c:(l[pos l id]?).map ag.iD=some id
 ·rw[if_pos c]
  cases hv:l[pos l id]? with
  | none=> rw[hv] at c;cases c
  | some v=>
    have bW:=(List.getElem?_eq_some_iff.1 hv).1
    have r9:=hs v (List.mem_of_getElem? hv)
    have fi:=fun cf base t'=>(hx.app t').cY (cf:=cf) (base:=base) (k:= .i64) (i:=pos l id) (by simpa using bW)
    have gh:=fun cf base t'=>(hx.app t').g8 (cf:=cf) (base:=base) (i:=pos l id) (v:=v.enc) (by rw[List.getElem?_map,hv];rfl) rfl
    have nq:=fun h0=> rp h.length h0 false v (by omega)
    rw[←ag.lH] at nq
    have au:(0:Nat)=0:=rfl
    try simp only[B85,hf,hg,du,c,fi,gh,nq,aY,aZ,vz,Option.getD_some,Option.isSome_some,go_sem,↓reduceIte,Nat.reduceEqDiff,Nat.reduceBEq,Nat.reduceAdd,Nat.reduceSub,Nat.reduceLT,Nat.reduceLeDiff,Int.reduceLT,Int.reduceLE,Int.reduceEq,Int.reduceToNat]
    repeat' (
      first | refine q5z ?_ ?_ | refine q3z ?_ ?_ | refine q4z ?_ ?_
      all_goals intro aj
      all_goals first | replace aj:=q2z aj | replace aj:=q1z aj | skip
      all_goals first | subst aj | replace au:=And.intro aj au
      all_goals try simp only[au,B85,hf,hg,du,c,fi,gh,nq,aY,aZ,vz,Option.getD_some,Option.isSome_some,go_sem,↓reduceIte,Nat.reduceEqDiff,Nat.reduceBEq,Nat.reduceAdd,Nat.reduceSub,Nat.reduceLT,Nat.reduceLeDiff,Int.reduceLT,Int.reduceLE,Int.reduceEq,Int.reduceToNat])
 ·rw[if_neg c]
  have au:(0:Nat)=0:=rfl
  try simp only[B85,hf,hg,du,c,iB,ef,go_sem,↓reduceIte,Nat.reduceEqDiff,Nat.reduceBEq,Nat.reduceAdd,Nat.reduceSub,Nat.reduceLT,Nat.reduceLeDiff,Int.reduceLT,Int.reduceLE,Int.reduceEq,Int.reduceToNat]
  repeat' (
    first | refine q5z ?_ ?_ | refine q3z ?_ ?_ | refine q4z ?_ ?_
    all_goals intro aj
    all_goals first | replace aj:=q2z aj | replace aj:=q1z aj | skip
    all_goals first | subst aj | replace au:=And.intro aj au
    all_goals try simp only[au,B85,hf,hg,du,c,iB,ef,go_sem,↓reduceIte,Nat.reduceEqDiff,Nat.reduceBEq,Nat.reduceAdd,Nat.reduceSub,Nat.reduceLT,Nat.reduceLeDiff,Int.reduceLT,Int.reduceLE,Int.reduceEq,Int.reduceToNat])
  rfl
theorem iQ (v:ag):v.enc.ground=true:=by
 have:v.enc.plain=true:=by simp only[ag.enc,go_sem]
 exact kO _ this
def o7 (l:List ag) (v:ag):Int×List ag:=
 if aQ v=false then (1,l) else if (l[pos l v.iD]?).map ag.iD=some v.iD then (0,l.set (pos l v.iD) v) else if 4≤l.length then (13,l) else (0,l.take (pos l v.iD)++[v]++l.drop (pos l v.iD))
theorem KX (b:Nat) (h:Hp) (t k:Nat) (l:List ag) (v:ag) (hb:b≤t) (ho:TR h t k l) (hr:gQ l) (hl:l.length≤4):
 ∃h' k',run fns pr b 64 [.ptr t [0] 1,v.enc] h=some (.s (.int .i64 (o7 l v).1),h')∧TR h' t k' (o7 l v).2∧Fw [t,k] h h'∧(k'=k∨h.length≤k'):=by
 have hf:=fun t'=> BN b (h++t') t k l v.iD (ho.mono (Fw.app [] h t') (by simp) (by simp)) hr (by omega)
 have jF:=fun h0 f=> fH b h0 f v
 have nq:=fun hs h0=> rp b h0 false v hs
 simp only[←ag.lH] at nq
 have nC:=fun h0=> jF h0 false
 simp only[←ag.lH] at nC
 have tE:=ho.lt
 unfold o7
 cases hv:aQ v with
 | false=>
   rw[if_pos rfl]
   suffices h:∃w h',run fns pr b 64 [.ptr t [0] 1,v.enc] h=some (w,h')∧w= .s (.int .i64 1)∧h'=h++[.cells (some 31) [v.enc]] by
     obtain ⟨w,h',e,rfl,rfl⟩:=h
     exact ⟨_,k,e,ho.mono (Fw.app [] h _) (by simp) (by simp),Fw.app _ _ _,.inl rfl⟩
   refine Vm.dZ (nt:=47) rfl wP (by simp) ?_
   simp only[ag.enc] at hf nC ⊢
   have au:(0:Nat)=0:=rfl
   try simp only[FB,hf,nC,hv,go_sem,↓reduceIte,Nat.reduceEqDiff,Nat.reduceBEq,Nat.reduceAdd,Nat.reduceSub,Nat.reduceLT,Nat.reduceLeDiff,Int.reduceLT,Int.reduceLE,Int.reduceEq,Int.reduceToNat]
   repeat' (
     first | refine q5z ?_ ?_ | refine q3z ?_ ?_ | refine q4z ?_ ?_
     all_goals intro aj
     all_goals first | replace aj:=q2z aj | replace aj:=q1z aj | skip
     all_goals first | subst aj | replace au:=And.intro aj au
     all_goals try simp only[au,FB,hf,nC,hv,go_sem,↓reduceIte,Nat.reduceEqDiff,Nat.reduceBEq,Nat.reduceAdd,Nat.reduceSub,Nat.reduceLT,Nat.reduceLeDiff,Int.reduceLT,Int.reduceLE,Int.reduceEq,Int.reduceToNat])
 | true=>
   have hs:=q14z hv
   have vC:=nq (by omega)
   rw[if_neg (by simp)]
   obtain ⟨x,h1,hh⟩:=ho
   have hg:=fun t'=> q10z h1 t'
   have aP:=fun t' b'=> m8 tE.1 t' b'
   have gr:=iQ v
   by_cases c1:(l[pos l v.iD]?).map ag.iD=some v.iD
   ·rw[if_pos c1]
    rcases hh with ⟨rfl,rfl,rfl⟩ | ⟨rfl,BO,h3⟩
    ·simp at c1
    ·have bW:pos l v.iD < l.length:=by
       cases hp:l[pos l v.iD]? with
       | none=> rw[hp] at c1;cases c1
       | some w=> exact (List.getElem?_eq_some_iff.1 hp).1
     have xj:=fun t'=> q10z h3 t'
     have xk:=fun t' b'=> m8 tE.2 t' b'
     have Hm:(pos l v.iD:Int)< l.length:=by omega
     have Db:(0:Int)≤pos l v.iD:=by omega
     have bQ:(l.map ag.enc)[pos l v.iD]? =some (l[pos l v.iD]).enc:=by rw[List.getElem?_map,List.getElem?_eq_getElem bW];rfl
     have du:(l[pos l v.iD]).enc.ty=some 31:=rfl
     generalize hpp:pos l v.iD=p at *
     suffices h:∃w h',run fns pr b 64 [.ptr t [0] 1,v.enc] h=some (w,h')∧w= .s (.int .i64 0)∧h'=h.set k (.cells (some 31) ((l.map ag.enc).set p v.enc))++[.cells (some 31) [v.enc]] by
       obtain ⟨w,h',e,rfl,rfl⟩:=h
       refine ⟨_,k,e,⟨.ref k [] (some 31) 0 l.length l.length,?_,.inr ⟨by simp,BO,?_⟩⟩,?_,.inl rfl⟩
       ·exact q10z (by rw[List.getElem?_set_ne BO];exact h1) _
       ·exact q10z (by rw[q9z h3,←List.map_set]) _
       ·exact (Fw.set (S:=[t,k]) (by simp) h3).trans (Fw.app _ _ _)
     refine Vm.dZ (nt:=47) rfl wP (by simp) ?_
     have lT:=tE.2
     simp only[ag.enc] at hf nC vC gr ⊢
     have au:(0:Nat)=0:=rfl
     try simp only[FB,hf,nC,hv,c1,hg,xj,xk,Hm,Db,bW,bQ,du,vC,gr,go_sem,↓reduceIte,Nat.reduceEqDiff,Nat.reduceBEq,Nat.reduceAdd,Nat.reduceSub,Nat.reduceLT,Nat.reduceLeDiff,Int.reduceLT,Int.reduceLE,Int.reduceEq,Int.reduceToNat]
     repeat' (
       first | refine q5z ?_ ?_ | refine q3z ?_ ?_ | refine q4z ?_ ?_
       all_goals intro aj
       all_goals first | replace aj:=q2z aj | replace aj:=q1z aj | skip
       all_goals first | subst aj | replace au:=And.intro aj au
       all_goals try simp only[au,FB,hf,nC,hv,c1,hg,xj,xk,Hm,Db,bW,bQ,du,vC,gr,go_sem,↓reduceIte,Nat.reduceEqDiff,Nat.reduceBEq,Nat.reduceAdd,Nat.reduceSub,Nat.reduceLT,Nat.reduceLeDiff,Int.reduceLT,Int.reduceLE,Int.reduceEq,Int.reduceToNat])
   ·rw[if_neg c1]
    have Vo:fq x=some l.length:=by
      rcases hh with ⟨rfl,rfl,_⟩ | ⟨rfl,_⟩<;> rfl
    have FD:x.ty=none:=by
      rcases hh with ⟨rfl,rfl,_⟩ | ⟨rfl,_⟩<;> rfl
    have nB:x.ax=true:=by
      rcases hh with ⟨rfl,rfl,_⟩ | ⟨rfl,_⟩<;> rfl
    have hlen:=fun cf base h0=> cF cf base h0 x _ Vo
    by_cases c2:4≤l.length
    ·rw[if_pos c2]
     have c2':(4:Int)≤l.length:=by omega
     suffices h:∃w h',run fns pr b 64 [.ptr t [0] 1,v.enc] h=some (w,h')∧w= .s (.int .i64 13)∧h'=h++[.cells (some 31) [v.enc]] by
       obtain ⟨w,h',e,rfl,rfl⟩:=h
       exact ⟨_,k,e,⟨x,hg _,by
         rcases hh with hh | ⟨rfl,BO,h3⟩
         ·exact .inl hh
         ·exact .inr ⟨rfl,BO,q10z h3 _⟩⟩,Fw.app _ _ _,.inl rfl⟩
     refine Vm.dZ (nt:=47) rfl wP (by simp) ?_
     simp only[ag.enc] at hf nC ⊢
     have au:(0:Nat)=0:=rfl
     try simp only[FB,hf,nC,hv,c1,hg,FD,hlen,c2',go_sem,↓reduceIte,Nat.reduceEqDiff,Nat.reduceBEq,Nat.reduceAdd,Nat.reduceSub,Nat.reduceLT,Nat.reduceLeDiff,Int.reduceLT,Int.reduceLE,Int.reduceEq,Int.reduceToNat]
     repeat' (
       first | refine q5z ?_ ?_ | refine q3z ?_ ?_ | refine q4z ?_ ?_
       all_goals intro aj
       all_goals first | replace aj:=q2z aj | replace aj:=q1z aj | skip
       all_goals first | subst aj | replace au:=And.intro aj au
       all_goals try simp only[au,FB,hf,nC,hv,c1,hg,FD,hlen,c2',go_sem,↓reduceIte,Nat.reduceEqDiff,Nat.reduceBEq,Nat.reduceAdd,Nat.reduceSub,Nat.reduceLT,Nat.reduceLeDiff,Int.reduceLT,Int.reduceLE,Int.reduceEq,Int.reduceToNat])
    ·rw[if_neg c2]
     have c2':¬(4:Int)≤l.length:=by omega
     have hgv:=hg
     have Vp:=Hh l v.iD
     generalize hpp:pos l v.iD=p at *
     rcases hh with ⟨rfl,rfl,rfl⟩ | ⟨rfl,BO,h3⟩
     ·obtain rfl:p=0:=by simpa using Vp
      have FE:eQ (some 31) 96 [.al true (some 31) [],.s (.int .i64 ((0:Nat):Int)),.ref (h.length+1) [] (some 31) 0 1 1] (h++[.cells (some 31) [v.enc],.cells (some 31) [v.enc]])=some (.ref (h.length+2) [] (some 31) 0 1 1,h++[.cells (some 31) [v.enc],.cells (some 31) [v.enc],.cells (some 31) [v.enc]]):=by
        have:=xl (g:=some 31) (by_:=96) (h:=h++[.cells (some 31) [v.enc],.cells (some 31) [v.enc]]) (idy:=h.length+1) (e:=v.enc) (by rw[aK];rfl) gr
        rw[show (((0:Nat):Int))=0 from rfl,this]
        simp
      have c2'':¬(4:Int)≤((0:Nat):Int):=by decide
      suffices h:∃w h',run fns pr b 64 [.ptr k [0] 1,v.enc] h=some (w,h')∧w= .s (.int .i64 0)∧h'=h.set k (.cells (some 146) [.st 146 [.ref (h.length+2) [] (some 31) 0 1 1]])++[.cells (some 31) [v.enc],.cells (some 31) [v.enc],.cells (some 31) [v.enc]] by
        obtain ⟨w,h',e,rfl,rfl⟩:=h
        refine ⟨_,h.length+2,e,⟨.ref (h.length+2) [] (some 31) 0 1 1,?_,.inr ⟨rfl,by omega,?_⟩⟩,?_,.inr (by omega)⟩
        ·exact q10z (q9z h1) _
        ·rw[bw (by simp)];rfl
        ·exact (Fw.set (S:=[k,k]) (by simp) h1).trans (Fw.app _ _ _)
      refine Vm.dZ (nt:=47) rfl wP (by simp) ?_
      simp only[ag.enc] at hf nC vC gr FE ⊢
      have au:(0:Nat)=0:=rfl
      try simp only[FB,hf,nC,hv,c1,hg,aP,FD,hlen,c2'',hb,vC,gr,kS,FE,List.length_nil,go_sem,↓reduceIte,Nat.reduceEqDiff,Nat.reduceBEq,Nat.reduceAdd,Nat.reduceSub,Nat.reduceLT,Nat.reduceLeDiff,Int.reduceLT,Int.reduceLE,Int.reduceEq,Int.reduceToNat]
      repeat' (
        first | refine q5z ?_ ?_ | refine q3z ?_ ?_ | refine q4z ?_ ?_
        all_goals intro aj
        all_goals first | replace aj:=q2z aj | replace aj:=q1z aj | skip
        all_goals first | subst aj | replace au:=And.intro aj au
        all_goals try simp only[au,FB,hf,nC,hv,c1,hg,aP,FD,hlen,c2'',hb,vC,gr,kS,FE,List.length_nil,go_sem,↓reduceIte,Nat.reduceEqDiff,Nat.reduceBEq,Nat.reduceAdd,Nat.reduceSub,Nat.reduceLT,Nat.reduceLeDiff,Int.reduceLT,Int.reduceLE,Int.reduceEq,Int.reduceToNat])
     ·have FE:eQ (some 31) 96 [.ref k [] (some 31) 0 l.length l.length,.s (.int .i64 p),.ref (h.length+1) [] (some 31) 0 1 1] (h++[.cells (some 31) [v.enc],.cells (some 31) [v.enc]])=some (.ref k [] (some 31) 0 (l.length+1) (l.length+1),h.set k (.cells (some 31) ((l.take p++[v]++l.drop p).map ag.enc))++[.cells (some 31) [v.enc],.cells (some 31) [v.enc]]):=by
        rw[xm (e:=v.enc) (q10z h3 _) (by simp) (by rw[aK];rfl) (by omega) Vp (by omega) gr,m8 tE.2]
        simp[List.map_take,List.map_drop]
      have hgk:∀(b':aW) (t':Hp),(h.set k b'++t')[t]? =some (.cells (some 146) [.st 146 [.ref k [] (some 31) 0 l.length l.length]]):=fun b' t'=> q10z (by rw[List.getElem?_set_ne BO];exact h1) _
      have hsk:∀(b' b2:aW) (t':Hp),(h.set k b'++t').set t b2=(h.set k b').set t b2++t':=fun b' b2 t'=> m8 (by simp;exact tE.1) t' b2
      suffices h:∃w h',run fns pr b 64 [.ptr t [0] 1,v.enc] h=some (w,h')∧w= .s (.int .i64 0)∧h'=(h.set k (.cells (some 31) ((l.take p++[v]++l.drop p).map ag.enc))).set t (.cells (some 146) [.st 146 [.ref k [] (some 31) 0 (l.length+1) (l.length+1)]])++[.cells (some 31) [v.enc],.cells (some 31) [v.enc]] by
        obtain ⟨w,h',e,rfl,rfl⟩:=h
        have tX:(l.take p++[v]++l.drop p).length=l.length+1:=by simp;omega
        refine ⟨_,k,e,⟨.ref k [] (some 31) 0 (l.length+1) (l.length+1),?_,.inr ⟨by rw[tX],BO,?_⟩⟩,?_,.inl rfl⟩
        ·exact q10z (q9z (by rw[List.getElem?_set_ne BO];exact h1)) _
        ·exact q10z (by rw[List.getElem?_set_ne (Ne.symm BO)];exact q9z h3) _
        ·exact ((Fw.set (S:=[t,k]) (by simp) h3).trans (Fw.set (S:=[t,k]) (by simp) (by rw[List.getElem?_set_ne BO];exact h1))).trans (Fw.app _ _ _)
      refine Vm.dZ (nt:=47) rfl wP (by simp) ?_
      simp only[ag.enc] at hf nC vC gr FE ⊢
      have au:(0:Nat)=0:=rfl
      try simp only[FB,hf,nC,hv,c1,hg,hgk,hsk,aP,FD,hlen,c2',hb,vC,gr,kS,FE,go_sem,↓reduceIte,Nat.reduceEqDiff,Nat.reduceBEq,Nat.reduceAdd,Nat.reduceSub,Nat.reduceLT,Nat.reduceLeDiff,Int.reduceLT,Int.reduceLE,Int.reduceEq,Int.reduceToNat]
      repeat' (
        first | refine q5z ?_ ?_ | refine q3z ?_ ?_ | refine q4z ?_ ?_
        all_goals intro aj
        all_goals first | replace aj:=q2z aj | replace aj:=q1z aj | skip
        all_goals first | subst aj | replace au:=And.intro aj au
        all_goals try simp only[au,FB,hf,nC,hv,c1,hg,hgk,hsk,aP,FD,hlen,c2',hb,vC,gr,kS,FE,go_sem,↓reduceIte,Nat.reduceEqDiff,Nat.reduceBEq,Nat.reduceAdd,Nat.reduceSub,Nat.reduceLT,Nat.reduceLeDiff,Int.reduceLT,Int.reduceLE,Int.reduceEq,Int.reduceToNat])
theorem BP (b:Nat) (h:Hp) (t k:Nat) (l:List ag) (ho:TR h t k l) (hl:l.length≤1000) (hs:∀v∈l,v.bY.length≤64):
 run fns pr b 51 [.ptr t [0] 1] h=some (.al false (some 31) (l.map ag.enc),h):=by
 refine Vm.aT (nt:=22) rfl S9 (by simp) ?_
 have tE:=ho.lt
 obtain ⟨x,h1,hh⟩:=ho
 have hx:SR h x (some 31) (l.map ag.enc):=by
   rcases hh with ⟨rfl,rfl,_⟩ | ⟨rfl,_,h3⟩
   ·exact .inl ⟨_,rfl⟩
   ·exact kM h3 (by simp)
 have du:=hx.ty
 have hlen:=fun cf base h0=> hx.cF (cf:=cf) (base:=base) (h:=h0)
 simp only[List.length_map] at hlen
 have au:(0:Nat)=0:=rfl
 try simp only[B51,FX,FW,h1,du,hlen,go_sem,↓reduceIte,Nat.reduceEqDiff,Nat.reduceBEq,Nat.reduceAdd,Nat.reduceSub,Nat.reduceLT,Nat.reduceLeDiff,Int.reduceLT,Int.reduceLE,Int.reduceEq,Int.reduceToNat]
 repeat' (
   first | refine q5z ?_ ?_ | refine q3z ?_ ?_ | refine q4z ?_ ?_
   all_goals intro aj
   all_goals first | replace aj:=q2z aj | replace aj:=q1z aj | skip
   all_goals first | subst aj | replace au:=And.intro aj au
   all_goals try simp only[au,B51,FX,FW,h1,du,hlen,go_sem,↓reduceIte,Nat.reduceEqDiff,Nat.reduceBEq,Nat.reduceAdd,Nat.reduceSub,Nat.reduceLT,Nat.reduceLeDiff,Int.reduceLT,Int.reduceLE,Int.reduceEq,Int.reduceToNat])
 refine bj (fun m e H=>∃i:Nat,m=l.length - i∧i≤l.length∧e 11= .s (.int .i64 i)∧e 10= .s (.int .i64 l.length)∧e 9=x∧∃ko out,e 3=out∧LR H (some 31) ko out ((l.take i).map ag.enc)∧Fw [] h H∧h.length≤ko)
   (fun e H=>∃ko out,e 3=out∧LR H (some 31) ko out (l.map ag.enc)∧Fw [] h H∧h.length≤ko) l.length _ _ ⟨0,by omega,by omega,?_,?_,?_,h.length,.al true (some 31) [],?_,.inl ⟨rfl,rfl⟩,Fw.refl _ _,Nat.le_refl _⟩ ?_ ?_
 rotate_right 2
 ·rintro m e H ⟨i,rfl,hi,e11,e10,e9,ko,out,e3,lr,fw,wJ⟩
  by_cases c:i < l.length
  ·have c':(i:Int)< l.length:=by omega
   have hv:l[i]? =some l[i]:=List.getElem?_eq_getElem c
   have r9:=hs _ (List.mem_of_getElem? hv)
   have eI:l.take (i+1)=l.take i++[l[i]]:=by rw[List.take_add_one,hv];rfl
   generalize l[i]=v at hv r9 eI
   have fi:=fun cf base=>(hx.fw fw).cY (cf:=cf) (base:=base) (k:= .i64) (i:=i) (by simpa using c)
   have gh:=fun cf base=>(hx.fw fw).g8 (cf:=cf) (base:=base) (i:=i) (v:=v.enc) (by rw[List.getElem?_map,hv];rfl) rfl
   have nq:=fun h0=> rp h.length h0 false v (by omega)
   rw[←ag.lH] at nq
   have iA:IntKind.i64.wrap ((i:Int)+1)=((i+1:Nat):Int):=q18z (by omega)
   obtain ⟨x',H',k',je,lr',fw',lF⟩:=lr.Kx (T:=[.cells (some 31) [v.enc],.cells (some 31) [v.enc]]) (idy:=H.length+1) (z:=v.enc) (bytes:=96) wJ fw (by rw[aK];rfl) (iQ v) (by simp;omega)
   have gr:=iQ v
   have au:(0:Nat)=0:=rfl
   try simp only[e11,e10,e9,e3,c',fi,gh,nq,aY,aZ,iA,je,gr,go_sem,↓reduceIte,Nat.reduceEqDiff,Nat.reduceBEq,Nat.reduceAdd,Nat.reduceSub,Nat.reduceLT,Nat.reduceLeDiff,Int.reduceLT,Int.reduceLE,Int.reduceEq,Int.reduceToNat]
   repeat' (
     first | refine q5z ?_ ?_ | refine q3z ?_ ?_ | refine q4z ?_ ?_
     all_goals intro aj
     all_goals first | replace aj:=q2z aj | replace aj:=q1z aj | skip
     all_goals first | subst aj | replace au:=And.intro aj au
     all_goals try simp only[au,e11,e10,e9,e3,c',fi,gh,nq,aY,aZ,iA,je,gr,go_sem,↓reduceIte,Nat.reduceEqDiff,Nat.reduceBEq,Nat.reduceAdd,Nat.reduceSub,Nat.reduceLT,Nat.reduceLeDiff,Int.reduceLT,Int.reduceLE,Int.reduceEq,Int.reduceToNat])
   exact ⟨l.length - (i+1),by omega,i+1,rfl,by omega,rfl,_,_,rfl,by rw[eI,List.map_append];exact lr',fw',lF⟩
  ·have c':¬(i:Int)< l.length:=by omega
   obtain rfl:i=l.length:=by omega
   rw[List.take_length] at lr
   have au:(0:Nat)=0:=rfl
   try simp only[e11,e10,e9,e3,c',go_sem,↓reduceIte,Nat.reduceEqDiff,Nat.reduceBEq,Nat.reduceAdd,Nat.reduceSub,Nat.reduceLT,Nat.reduceLeDiff,Int.reduceLT,Int.reduceLE,Int.reduceEq,Int.reduceToNat]
   repeat' (
     first | refine q5z ?_ ?_ | refine q3z ?_ ?_ | refine q4z ?_ ?_
     all_goals intro aj
     all_goals first | replace aj:=q2z aj | replace aj:=q1z aj | skip
     all_goals first | subst aj | replace au:=And.intro aj au
     all_goals try simp only[au,e11,e10,e9,e3,c',go_sem,↓reduceIte,Nat.reduceEqDiff,Nat.reduceBEq,Nat.reduceAdd,Nat.reduceSub,Nat.reduceLT,Nat.reduceLeDiff,Int.reduceLT,Int.reduceLE,Int.reduceEq,Int.reduceToNat])
   exact ⟨ko,out,rfl,lr,fw,wJ⟩
 ·rintro e H ⟨ko,out,e3,lr,fw,wJ⟩
  have df:=lr.q8 wJ (kT l)
  have eI:=fw.take
  have au:(0:Nat)=0:=rfl
  try simp only[e3,df,eI,go_sem,↓reduceIte,Nat.reduceEqDiff,Nat.reduceBEq,Nat.reduceAdd,Nat.reduceSub,Nat.reduceLT,Nat.reduceLeDiff,Int.reduceLT,Int.reduceLE,Int.reduceEq,Int.reduceToNat]
  repeat' (
    first | refine q5z ?_ ?_ | refine q3z ?_ ?_ | refine q4z ?_ ?_
    all_goals intro aj
    all_goals first | replace aj:=q2z aj | replace aj:=q1z aj | skip
    all_goals first | subst aj | replace au:=And.intro aj au
    all_goals try simp only[au,e3,df,eI,go_sem,↓reduceIte,Nat.reduceEqDiff,Nat.reduceBEq,Nat.reduceAdd,Nat.reduceSub,Nat.reduceLT,Nat.reduceLeDiff,Int.reduceLT,Int.reduceLE,Int.reduceEq,Int.reduceToNat])
 all_goals rfl
instance (l :List ag):Decidable (gQ l):=by unfold gQ;infer_instance
def rising (l:List ag):Bool:=decide (l.length≤4)&& l.all aQ && decide (gQ l)
theorem Dc {l:List ag} {i:Nat} {v w:ag} (hr:gQ (l.take (i+1))) (hv:l[i]? =some v) (hw:l[i+1]? =some w) (hc:cQ v.iD w.iD < 0):gQ (l.take (i+2)):=by
 have h1:l.take (i+2)=l.take (i+1)++[w]:=by rw[List.take_add_one,hw];rfl
 have h2:l.take (i+1)=l.take i++[v]:=by rw[List.take_add_one,hv];rfl
 rw[h1]
 refine List.pairwise_append.2 ⟨hr,by simp,?_⟩
 intro a ha b hb
 simp at hb;subst hb
 rw[h2] at hr ha
 rcases List.mem_append.1 ha with ha | ha
 ·exact fc _ _ _ ((List.pairwise_append.1 hr).2.2 a ha v (by simp)) hc
 ·simp at ha;subst ha;exact hc
theorem Hn {l:List ag} {i:Nat} {v w:ag} (hv:l[i]? =some v) (hw:l[i+1]? =some w) (hc:¬cQ v.iD w.iD < 0):¬gQ l:=by
 intro h
 have h1:=(List.getElem?_eq_some_iff.1 hv)
 have h2:=(List.getElem?_eq_some_iff.1 hw)
 obtain ⟨h1,rfl⟩:=h1
 obtain ⟨h2,rfl⟩:=h2
 exact hc (List.pairwise_iff_getElem.1 h i (i+1) h1 h2 (by omega))
theorem rq (b:Nat) (h:Hp):run fns pr b 66 [] h=some (.ptr h.length [0] 1,h++[.cells (some 146) [.st 146 [.al true (some 31) []]]]):=by
 suffices hh:∃v h',run fns pr b 66 [] h=some (v,h')∧v= .ptr h.length [0] 1∧h'=h++[.cells (some 146) [.st 146 [.al true (some 31) []]]] by
   obtain ⟨v,h',e,rfl,rfl⟩:=hh;exact e
 refine Vm.dZ (nt:=3) rfl TE (by simp) ?_
 have au:(0:Nat)=0:=rfl
 try simp only[B66,go_sem,↓reduceIte,Nat.reduceEqDiff,Nat.reduceBEq,Nat.reduceAdd,Nat.reduceSub,Nat.reduceLT,Nat.reduceLeDiff,Int.reduceLT,Int.reduceLE,Int.reduceEq,Int.reduceToNat]
 repeat' (
   first | refine q5z ?_ ?_ | refine q3z ?_ ?_ | refine q4z ?_ ?_
   all_goals intro aj
   all_goals first | replace aj:=q2z aj | replace aj:=q1z aj | skip
   all_goals first | subst aj | replace au:=And.intro aj au
   all_goals try simp only[au,B66,go_sem,↓reduceIte,Nat.reduceEqDiff,Nat.reduceBEq,Nat.reduceAdd,Nat.reduceSub,Nat.reduceLT,Nat.reduceLeDiff,Int.reduceLT,Int.reduceLE,Int.reduceEq,Int.reduceToNat])
theorem xn (b:Nat) (h:Hp) (t k:Nat) (dO l:List ag) (x:V) (hb:b≤t) (ho:TR h t k dO) (hx:SR h x (some 31) (l.map ag.enc)) (hl:l.length≤1000):
 ∃h' k',run fns pr b 65 [.ptr t [0] 1,x] h=some (.s (.int .i64 (if rising l=true then 0 else 1)),h')∧TR h' t k' (if rising l=true then l else dO)∧Fw [t] h h'∧(k'=k∨k'=t∨h.length≤k'):=by
 have tE:=ho.lt
 have il:=fun cf base h0=> hx.cF (cf:=cf) (base:=base) (h:=h0)
 simp only[List.length_map] at il
 have kU:=rq b h
 suffices hh:∃w h',run fns pr b 65 [.ptr t [0] 1,x] h=some (w,h')∧((rising l=true∧w= .s (.int .i64 0)∧∃k',TR h' t k' l∧Fw [t] h h'∧(k'=t∨h.length≤k'))∨(rising l=false∧w= .s (.int .i64 1)∧Fw [] h h')) by
   obtain ⟨w,h',e,⟨hr,rfl,k',h1,h2,h3⟩ | ⟨hr,rfl,h1⟩⟩:=hh
   ·rw[hr];exact ⟨h',k',e,h1,h2,.inr h3⟩
   ·rw[hr];exact ⟨h',k,e,ho.mono h1 (by simp) (by simp),h1.mono (by simp),.inl rfl⟩
 refine Vm.dZ (nt:=57) rfl TC (by simp) ?_
 by_cases h4:l.length≤4
 case neg=>
   have h1:(l.length:Int)> 4:=by omega
   have h2:rising l=false:=by simp[rising,h4]
   have au:(0:Nat)=0:=rfl
   try simp only[B65,wR,wQ,il,h1,h2,go_sem,↓reduceIte,Nat.reduceEqDiff,Nat.reduceBEq,Nat.reduceAdd,Nat.reduceSub,Nat.reduceLT,Nat.reduceLeDiff,Int.reduceLT,Int.reduceLE,Int.reduceEq,Int.reduceToNat]
   repeat' (
     first | refine q5z ?_ ?_ | refine q3z ?_ ?_ | refine q4z ?_ ?_
     all_goals intro aj
     all_goals first | replace aj:=q2z aj | replace aj:=q1z aj | skip
     all_goals first | subst aj | replace au:=And.intro aj au
     all_goals try simp only[au,B65,wR,wQ,il,h1,h2,go_sem,↓reduceIte,Nat.reduceEqDiff,Nat.reduceBEq,Nat.reduceAdd,Nat.reduceSub,Nat.reduceLT,Nat.reduceLeDiff,Int.reduceLT,Int.reduceLE,Int.reduceEq,Int.reduceToNat])
   exact .inr (Fw.refl _ _)
 have h1:¬(l.length:Int)> 4:=by omega
 have hbn:b≤h.length:=by omega
 have tt:=q10z ho.choose_spec.1
 have au:(0:Nat)=0:=rfl
 try simp only[B65,wR,wQ,il,h1,kU,go_sem,↓reduceIte,Nat.reduceEqDiff,Nat.reduceBEq,Nat.reduceAdd,Nat.reduceSub,Nat.reduceLT,Nat.reduceLeDiff,Int.reduceLT,Int.reduceLE,Int.reduceEq,Int.reduceToNat]
 repeat' (
   first | refine q5z ?_ ?_ | refine q3z ?_ ?_ | refine q4z ?_ ?_
   all_goals intro aj
   all_goals first | replace aj:=q2z aj | replace aj:=q1z aj | skip
   all_goals first | subst aj | replace au:=And.intro aj au
   all_goals try simp only[au,B65,wR,wQ,il,h1,kU,go_sem,↓reduceIte,Nat.reduceEqDiff,Nat.reduceBEq,Nat.reduceAdd,Nat.reduceSub,Nat.reduceLT,Nat.reduceLeDiff,Int.reduceLT,Int.reduceLE,Int.reduceEq,Int.reduceToNat])
 refine bj (fun m e H=>∃i:Nat,m=l.length - i∧i≤l.length∧e 14= .s (.int .i64 i)∧e 13= .s (.int .i64 l.length)∧e 12=x∧e 1=x∧e 0= .ptr t [0] 1∧e 5= .ptr h.length [0] 1∧
     (l.take i).all aQ=true∧gQ (l.take i)∧∃ko out,H[h.length]? =some (.cells (some 146) [.st 146 [out]])∧XR H (some 31) ko out ((l.take i).map ag.enc)∧Fw [] h H∧h.length < ko)
   (fun e H=> rising l=true∧e 0= .ptr t [0] 1∧e 5= .ptr h.length [0] 1∧∃ko out,H[h.length]? =some (.cells (some 146) [.st 146 [out]])∧XR H (some 31) ko out (l.map ag.enc)∧Fw [] h H∧h.length < ko)
   l.length _ _ ⟨0,by omega,by omega,?_,?_,?_,?_,?_,?_,rfl,List.Pairwise.nil,h.length+1,.al true (some 31) [],aM _ _,.inl ⟨rfl,rfl⟩,Fw.app _ _ _,by omega⟩ ?_ ?_
 rotate_right 2
 ·rintro m e H ⟨i,rfl,hi,e14,e13,e12,e1',e0',e5,ha,wK,ko,out,hn,xr,fw,wJ⟩
  have hxH:=hx.fw fw
  by_cases c:i < l.length
  ·have c':(i:Int)< l.length:=by omega
   have hv:l[i]? =some l[i]:=List.getElem?_eq_getElem c
   have eI:l.take (i+1)=l.take i++[l[i]]:=by rw[List.take_add_one,hv];rfl
   have Vq:l[i]∈l:=List.getElem_mem _
   generalize l[i]=v at hv eI Vq
   have fi:=fun cf base=> hxH.cY (cf:=cf) (base:=base) (k:= .i64) (i:=i) (by simpa using c)
   have gh:=fun cf base=> hxH.g8 (cf:=cf) (base:=base) (i:=i) (v:=v.enc) (by rw[List.getElem?_map,hv];rfl) rfl
   have jF:=fun h0=> fH b h0 false v
   simp only[←ag.lH] at jF
   have iA:IntKind.i64.wrap ((i:Int)+1)=((i+1:Nat):Int):=q18z (by omega)
   have gr:=iQ v
   have mb:=fw.len
   have fw1:Fw [] h (H++[.cells (some 31) [v.enc]]):=fw.trans (Fw.app _ _ _)
   cases hr:aQ v with
   | false=>
     have zY:rising l=false:=by
       simp only[rising,Bool.and_eq_false_iff,List.all_eq_false]
       exact .inl (.inr ⟨v,Vq,by simp[hr]⟩)
     have au:(0:Nat)=0:=rfl
     try simp only[e14,e13,e12,e1',e0',e5,c',fi,gh,jF,hr,gr,aY,aZ,go_sem,↓reduceIte,Nat.reduceEqDiff,Nat.reduceBEq,Nat.reduceAdd,Nat.reduceSub,Nat.reduceLT,Nat.reduceLeDiff,Int.reduceLT,Int.reduceLE,Int.reduceEq,Int.reduceToNat]
     repeat' (
       first | refine q5z ?_ ?_ | refine q3z ?_ ?_ | refine q4z ?_ ?_
       all_goals intro aj
       all_goals first | replace aj:=q2z aj | replace aj:=q1z aj | skip
       all_goals first | subst aj | replace au:=And.intro aj au
       all_goals try simp only[au,e14,e13,e12,e1',e0',e5,c',fi,gh,jF,hr,gr,aY,aZ,go_sem,↓reduceIte,Nat.reduceEqDiff,Nat.reduceBEq,Nat.reduceAdd,Nat.reduceSub,Nat.reduceLT,Nat.reduceLeDiff,Int.reduceLT,Int.reduceLE,Int.reduceEq,Int.reduceToNat])
     all_goals first | exact .inr ⟨zY,rfl,fw1⟩ | exact .inr ⟨zY,fw1⟩ | (rw[zY];simp;exact fw1)
   | true=>
     have cK:(l.take (i+1)).all aQ=true:=by rw[eI,List.all_append,ha];simp[hr]
     have nq:=fun h0=> rp b h0 false v (by have:=q14z hr;omega)
     rw[←ag.lH] at nq
     obtain ⟨x',H',k',je,xr',fw',lF,Pr⟩:=xr.Kx (h:=h) (T:=[.cells (some 31) [v.enc],.cells (some 31) [v.enc]]) (idy:=H.length+1) (z:=v.enc) (bytes:=96) (by omega) fw (by rw[aK];rfl) gr (by simp;omega)
     have uu:H'[h.length]? =some (.cells (some 146) [.st 146 [out]]):=Pr _ _ (by omega) (q10z hn _)
     have hgn:=fun T=> q10z hn T
     obtain ⟨ht1,ht2⟩:=xr.ty
     obtain ⟨ht3,ht4⟩:=xr'.ty
     have Ho:decide (b≤h.length)=true:=by simp[hbn]
     have iP:gQ (l.take (i+1))→∃m',m' < l.length - i∧∃j:Nat,m'=l.length - j∧j≤l.length∧((i+1:Nat):Int)=j∧(l.take j).all aQ=true∧gQ (l.take j)∧∃ko out,(H'.set h.length (.cells (some 146) [.st 146 [x']]))[h.length]? =some (.cells (some 146) [.st 146 [out]])∧XR (H'.set h.length (.cells (some 146) [.st 146 [x']])) (some 31) ko out ((l.take j).map ag.enc)∧Fw [] h (H'.set h.length (.cells (some 146) [.st 146 [x']]))∧h.length < ko:=by
       intro X9
       have zT:h.length < k':=by rcases lF with rfl | lF;exact wJ;simp at lF;omega
       refine ⟨l.length - (i+1),by omega,i+1,rfl,by omega,rfl,cK,X9,k',x',q9z uu,?_,fw'.cL (Nat.le_refl _) _,zT⟩
       rw[eI,List.map_append]
       rcases xr' with ⟨rfl,h0⟩ | ⟨rfl,h0⟩
       ·simp at h0
       ·exact .inr ⟨rfl,by rw[List.getElem?_set_ne (by omega)];exact h0⟩
     cases i with
     | zero=>
       have z:¬((0:Nat):Int)> 0:=by decide
       have au:(0:Nat)=0:=rfl
       try simp only[e14,e13,e12,e1',e0',e5,c',fi,gh,jF,hr,gr,aY,aZ,z,nq,hgn,hn,ht1,ht2,ht3,ht4,je,uu,Ho,iA,go_sem,↓reduceIte,Nat.reduceEqDiff,Nat.reduceBEq,Nat.reduceAdd,Nat.reduceSub,Nat.reduceLT,Nat.reduceLeDiff,Int.reduceLT,Int.reduceLE,Int.reduceEq,Int.reduceToNat]
       repeat' (
         first | refine q5z ?_ ?_ | refine q3z ?_ ?_ | refine q4z ?_ ?_
         all_goals intro aj
         all_goals first | replace aj:=q2z aj | replace aj:=q1z aj | skip
         all_goals first | subst aj | replace au:=And.intro aj au
         all_goals try simp only[au,e14,e13,e12,e1',e0',e5,c',fi,gh,jF,hr,gr,aY,aZ,z,nq,hgn,hn,ht1,ht2,ht3,ht4,je,uu,Ho,iA,go_sem,↓reduceIte,Nat.reduceEqDiff,Nat.reduceBEq,Nat.reduceAdd,Nat.reduceSub,Nat.reduceLT,Nat.reduceLeDiff,Int.reduceLT,Int.reduceLE,Int.reduceEq,Int.reduceToNat])
       obtain ⟨m',q1,j,q2,q3,q4,q5⟩:=iP (by rw[eI];simp[gQ])
       exact ⟨m',q1,j,q2,q3,congrArg _ q4,q5⟩
     | succ i=>
       have z:((i+1:Nat):Int)> 0:=by omega
       have hw:l[i]? =some l[i]:=List.getElem?_eq_getElem (by omega)
       generalize l[i]=w at hw
       have hws:IntKind.i64.wrap (((i+1:Nat):Int) - 1)=(i:Int):=by rw[show ((i+1:Nat):Int) - 1=i by omega,wrap_i64 (by omega) (by omega)]
       have hwe:(l.map ag.enc)[i]? =some w.enc:=by rw[List.getElem?_map,hw];rfl
       have hib:=fun cf base T=>(hxH.app T).cY (cf:=cf) (base:=base) (k:= .i64) (i:=i) (by simp;omega)
       have fa2:=fun cf base T=>(hxH.app T).zU (cf:=cf) (base:=base) (f:=0) hwe (by simp[ag.enc])
       have sl2:=fun cf base T=>(hxH.app T).Na (cf:=cf) (base:=base) (f:=0) (g':=none) hwe (by simp[ag.enc];exact ⟨rfl,rfl⟩)
       have el2:=fun T=> uj (hxH.app T) (f:=0) (g':=none) hwe (by simp[ag.enc];exact ⟨rfl,rfl⟩)
       simp only[List.length_map] at sl2 el2
       have hcr:=fun x y h0=> BM b x y h0
       simp only[ag.enc] at gh jF nq je gr
       by_cases hc:cQ w.iD v.iD < 0
       ·have Dd:¬(0≤cQ w.iD v.iD):=by omega
        have au:(0:Nat)=0:=rfl
        try simp only[e14,e13,e12,e1',e0',e5,c',fi,gh,jF,hr,gr,z,nq,hgn,hn,ht1,ht2,ht3,ht4,je,uu,Ho,iA,hws,hib,fa2,sl2,el2,hcr,Dd,go_sem,↓reduceIte,Nat.reduceEqDiff,Nat.reduceBEq,Nat.reduceAdd,Nat.reduceSub,Nat.reduceLT,Nat.reduceLeDiff,Int.reduceLT,Int.reduceLE,Int.reduceEq,Int.reduceToNat]
        repeat' (
          first | refine q5z ?_ ?_ | refine q3z ?_ ?_ | refine q4z ?_ ?_
          all_goals intro aj
          all_goals first | replace aj:=q2z aj | replace aj:=q1z aj | skip
          all_goals first | subst aj | replace au:=And.intro aj au
          all_goals try simp only[au,e14,e13,e12,e1',e0',e5,c',fi,gh,jF,hr,gr,z,nq,hgn,hn,ht1,ht2,ht3,ht4,je,uu,Ho,iA,hws,hib,fa2,sl2,el2,hcr,Dd,go_sem,↓reduceIte,Nat.reduceEqDiff,Nat.reduceBEq,Nat.reduceAdd,Nat.reduceSub,Nat.reduceLT,Nat.reduceLeDiff,Int.reduceLT,Int.reduceLE,Int.reduceEq,Int.reduceToNat])
        obtain ⟨m',q1,j,q2,q3,q4,q5⟩:=iP (Dc wK hw hv hc)
        exact ⟨m',q1,j,q2,q3,congrArg _ q4,q5⟩
       ·have Dd:0≤cQ w.iD v.iD:=by omega
        have zY:rising l=false:=by
          simp only[rising,Bool.and_eq_false_iff,decide_eq_false_iff_not]
          exact .inr (Hn hw hv hc)
        have au:(0:Nat)=0:=rfl
        try simp only[e14,e13,e12,e1',e0',e5,c',fi,gh,jF,hr,gr,z,hws,hib,fa2,sl2,el2,hcr,Dd,go_sem,↓reduceIte,Nat.reduceEqDiff,Nat.reduceBEq,Nat.reduceAdd,Nat.reduceSub,Nat.reduceLT,Nat.reduceLeDiff,Int.reduceLT,Int.reduceLE,Int.reduceEq,Int.reduceToNat]
        repeat' (
          first | refine q5z ?_ ?_ | refine q3z ?_ ?_ | refine q4z ?_ ?_
          all_goals intro aj
          all_goals first | replace aj:=q2z aj | replace aj:=q1z aj | skip
          all_goals first | subst aj | replace au:=And.intro aj au
          all_goals try simp only[au,e14,e13,e12,e1',e0',e5,c',fi,gh,jF,hr,gr,z,hws,hib,fa2,sl2,el2,hcr,Dd,go_sem,↓reduceIte,Nat.reduceEqDiff,Nat.reduceBEq,Nat.reduceAdd,Nat.reduceSub,Nat.reduceLT,Nat.reduceLeDiff,Int.reduceLT,Int.reduceLE,Int.reduceEq,Int.reduceToNat])
        all_goals first | exact .inr ⟨zY,rfl,fw1⟩ | exact .inr ⟨zY,fw1⟩ | (rw[zY];simp;exact fw1)
  ·have c':¬(i:Int)< l.length:=by omega
   rw[List.take_of_length_le (by omega)] at ha wK xr
   have hq:rising l=true:=by
     simp[rising,h4,ha,wK]
   have au:(0:Nat)=0:=rfl
   try simp only[e14,e13,e12,e1',e0',e5,c',go_sem,↓reduceIte,Nat.reduceEqDiff,Nat.reduceBEq,Nat.reduceAdd,Nat.reduceSub,Nat.reduceLT,Nat.reduceLeDiff,Int.reduceLT,Int.reduceLE,Int.reduceEq,Int.reduceToNat]
   repeat' (
     first | refine q5z ?_ ?_ | refine q3z ?_ ?_ | refine q4z ?_ ?_
     all_goals intro aj
     all_goals first | replace aj:=q2z aj | replace aj:=q1z aj | skip
     all_goals first | subst aj | replace au:=And.intro aj au
     all_goals try simp only[au,e14,e13,e12,e1',e0',e5,c',go_sem,↓reduceIte,Nat.reduceEqDiff,Nat.reduceBEq,Nat.reduceAdd,Nat.reduceSub,Nat.reduceLT,Nat.reduceLeDiff,Int.reduceLT,Int.reduceLE,Int.reduceEq,Int.reduceToNat])
   exact ⟨hq,ko,out,hn,xr,fw,wJ⟩
 ·rintro e H ⟨hq,e0',e5,ko,out,hn,xr,fw,wJ⟩
  obtain ⟨y,tt1,tt2⟩:=ho
  have tH:=fw.dO _ _ tt1 (by simp)
  have Ho:decide (b≤t)=true:=by simp[hb]
  obtain ⟨ht1,ht2⟩:=xr.ty
  have hyt:y.ty=none:=by rcases tt2 with ⟨rfl,_⟩ | ⟨rfl,_⟩<;> rfl
  have au:(0:Nat)=0:=rfl
  try simp only[e0',e5,hn,tH,ht1,ht2,Ho,hyt,go_sem,↓reduceIte,Nat.reduceEqDiff,Nat.reduceBEq,Nat.reduceAdd,Nat.reduceSub,Nat.reduceLT,Nat.reduceLeDiff,Int.reduceLT,Int.reduceLE,Int.reduceEq,Int.reduceToNat]
  repeat' (
    first | refine q5z ?_ ?_ | refine q3z ?_ ?_ | refine q4z ?_ ?_
    all_goals intro aj
    all_goals first | replace aj:=q2z aj | replace aj:=q1z aj | skip
    all_goals first | subst aj | replace au:=And.intro aj au
    all_goals try simp only[au,e0',e5,hn,tH,ht1,ht2,Ho,hyt,go_sem,↓reduceIte,Nat.reduceEqDiff,Nat.reduceBEq,Nat.reduceAdd,Nat.reduceSub,Nat.reduceLT,Nat.reduceLeDiff,Int.reduceLT,Int.reduceLE,Int.reduceEq,Int.reduceToNat])
  left
  have fwt:Fw [t] h (H.set t (.cells (some 146) [.st 146 [out]])):=(fw.mono (by simp)).trans (Fw.set (by simp) tH)
  rcases xr with ⟨rfl,h0⟩ | ⟨rfl,h0⟩
  ·have:l=[]:=by simpa using h0
   subst this
   first
     | exact ⟨hq,rfl,t,⟨_,q9z tH,.inl ⟨rfl,rfl,rfl⟩⟩,fwt,.inl rfl⟩
     | exact ⟨hq,t,⟨_,q9z tH,.inl ⟨rfl,rfl,rfl⟩⟩,fwt,.inl rfl⟩
  ·have cE:t≠ko:=by omega
   have q:TR (H.set t (.cells (some 146) [.st 146 [.ref ko [] (some 31) 0 (l.map ag.enc).length (l.map ag.enc).length]])) t ko l:=⟨_,q9z tH,.inr ⟨by rw[List.length_map],Ne.symm cE,by rw[List.getElem?_set_ne cE];exact h0⟩⟩
   first
     | exact ⟨hq,rfl,ko,q,fwt,.inr (by omega)⟩
     | exact ⟨hq,ko,q,fwt,.inr (by omega)⟩
 all_goals rfl
def jr (l:List ag) (v:ag):List ag:=(l.filter fun w=> decide (cQ w.iD v.iD < 0))++[v]++l.filter fun w=> decide (0 < cQ w.iD v.iD)
theorem filter_lt {l:List ag} (hr:gQ l) (id:Bs):(l.filter fun w=> decide (cQ w.iD id < 0))=l.take (pos l id):=by
 induction l with
 | nil=> rfl
 | cons w l ih=>
   obtain ⟨h1,h2⟩:=List.pairwise_cons.1 hr
   by_cases hw:cQ w.iD id < 0
   ·have e:pos (w::l) id=pos l id+1:=by simp[pos,hw]
    rw[e,List.filter_cons_of_pos (by simpa using hw),ih h2];rfl
   ·have hz:∀x∈l,¬cQ x.iD id < 0:=fun x hx h=> hw (fc _ _ _ (h1 x hx) h)
    have e:pos (w::l) id=0:=by
      rw[pos,List.countP_eq_zero]
      intro x hx
      rcases List.mem_cons.1 hx with rfl | hx
      ·simpa using hw
      ·simpa using hz x hx
    rw[e,List.take_zero,List.filter_eq_nil_iff]
    intro x hx
    rcases List.mem_cons.1 hx with rfl | hx
    ·simpa using hw
    ·simpa using hz x hx
theorem De {l:List ag} (hr:gQ l) (id:Bs):(l.filter fun w=> decide (0 < cQ w.iD id))=if (l[pos l id]?).map ag.iD=some id then l.drop (pos l id+1) else l.drop (pos l id):=by
 induction l with
 | nil=> rfl
 | cons w l ih=>
   obtain ⟨h1,h2⟩:=List.pairwise_cons.1 hr
   by_cases hw:cQ w.iD id < 0
   ·have e:pos (w::l) id=pos l id+1:=by simp[pos,hw]
    rw[e,List.filter_cons_of_neg (by simp;omega),ih h2]
    simp only[List.getElem?_cons_succ,List.drop_succ_cons]
   ·have hz:∀x∈l,0 < cQ x.iD id:=fun x hx=> by
      have a1:=h1 x hx
      have a2:=r0 x.iD id
      rcases Int.lt_or_le 0 (cQ x.iD id) with h | h
      ·exact h
      ·exfalso
       rcases Int.lt_or_eq_of_le h with h | h
       ·exact hw (fc _ _ _ a1 h)
       ·rw[mj _ _ h] at a1;exact hw a1
    have e:pos (w::l) id=0:=by
      rw[pos,List.countP_eq_zero]
      intro x hx
      rcases List.mem_cons.1 hx with rfl | hx
      ·simpa using hw
      ·have:=hz x hx;simp;omega
    have hl:l.filter (fun w=> decide (0 < cQ w.iD id))=l:=List.filter_eq_self.2 fun x hx=> by simpa using hz x hx
    rw[e]
    simp only[List.getElem?_cons_zero,Option.map_some,Option.some.injEq,Nat.zero_add,List.drop_succ_cons,List.drop_zero]
    by_cases hi:w.iD=id
    ·rw[if_pos hi,List.filter_cons_of_neg (by rw[hi];simp[j5]),hl]
    ·rw[if_neg hi,List.filter_cons_of_pos (by
     have:cQ w.iD id≠0:=fun h=> hi (mj _ _ h)
     simp;omega),hl]
theorem xo {l:List ag} {v:ag} (hr:gQ l) (h:(o7 l v).1=0):(o7 l v).2=jr l v:=by
 unfold jr
 rw[filter_lt hr,De hr]
 unfold o7 at h ⊢
 split
 ·rename_i h1;rw[if_pos h1] at h;cases h
 ·rename_i h1
  rw[if_neg h1] at h
  split
  ·rename_i h2
   have bW:pos l v.iD < l.length:=by
     cases hp:l[pos l v.iD]? with
     | none=> rw[hp] at h2;cases h2
     | some w=> exact (List.getElem?_eq_some_iff.1 hp).1
   rw[List.set_eq_take_append_cons_drop,if_pos bW];simp
  ·rename_i h2
   rw[if_neg h2] at h
   split
   ·rename_i h3;rw[if_pos h3] at h;cases h
   ·rfl
theorem sa {l:List ag} (hr:gQ l) (v:ag):gQ (jr l v):=by
 unfold gQ jr
 have f1:(l.filter fun w=> decide (cQ w.iD v.iD < 0)).Pairwise fun v w=> cQ v.iD w.iD < 0:=hr.sublist List.filter_sublist
 have f2:(l.filter fun w=> decide (0 < cQ w.iD v.iD)).Pairwise fun v w=> cQ v.iD w.iD < 0:=hr.sublist List.filter_sublist
 refine List.pairwise_append.2 ⟨List.pairwise_append.2 ⟨f1,by simp,?_⟩,f2,?_⟩
 ·intro a ha b hb
  simp at ha hb;subst hb;exact ha.2
 ·intro a ha b hb
  have Hg:cQ v.iD b.iD < 0:=by
    have:=(List.mem_filter.1 hb).2
    have q:=r0 b.iD v.iD
    simp at this;omega
  rcases List.mem_append.1 ha with ha | ha
  ·have:=(List.mem_filter.1 ha).2
   exact fc _ _ _ (by simpa using this) Hg
  ·simp at ha;subst ha;exact Hg
structure kH where
 role:Int
 aD:Int
 to:Int
 vs:List ag
structure bh where
 mem:Int
 bb:Int
 p:Nat→kH
def bh.o8 (s:bh) (n:Nat) (q:kH):bh:= {s with p:=fun j=> if j=n then q else s.p j}
def bh.new (a b:Int):bh:=⟨a,b,fun n=>⟨if (n:Int) % b=a then 1 else 0,1,0,[]⟩⟩
def ei (q:kH) (t:Nat):V:= .st 104 [.s (.int .i64 q.role),.s (.int .u64 q.aD),.s (.int .i64 q.to),.ptr t [0] 1]
def fW (p:Nat→kH) (ts:Nat→Nat×Nat) (n:Nat):List V:=(List.range n).map fun i=> ei (p i) (ts i).1
theorem Df (p:Nat→kH) (ts:Nat→Nat×Nat) (n:Nat):fW p ts (n+1)=fW p ts n++[ei (p n) (ts n).1]:=by simp[fW,List.range_succ]
theorem bU (p:Nat→kH) (ts:Nat→Nat×Nat) (n:Nat):(fW p ts n).length=n:=by simp[fW]
theorem dH (p:Nat→kH) (ts:Nat→Nat×Nat) (n i:Nat) (h:i < n):(fW p ts n)[i]? =some (ei (p i) (ts i).1):=by simp[fW,h]
theorem sb {p p':Nat→kH} {ts ts':Nat→Nat×Nat} {n:Nat} (h:∀i,i < n→p i=p' i∧(ts i).1=(ts' i).1):fW p ts n=fW p' ts' n:=by
 unfold fW
 apply List.map_congr_left
 intro i hi
 obtain ⟨h1,h2⟩:=h i (List.mem_range.1 hi)
 rw[h1,h2]
structure zZ (h:Hp) (m:Nat) (s:bh) (F:List Nat) (r:Nat) (ts:Nat→Nat×Nat) (own:Nat→Nat):Prop where
 o:h[m]? =some (.cells (some 101) [.st 101 [.s (.int .i64 s.mem),.s (.int .i64 s.bb),.ref r [] (some 104) 0 16 16]])
 row:h[r]? =some (.cells (some 104) (fW s.p ts 16))
 FF:∀i,i < 16→TR h (ts i).1 (ts i).2 (s.p i).vs
 om:own m=100
 orr:own r=101
 ot:∀i,i < 16→own (ts i).1=i∧own (ts i).2=i
 fm:m∈F
 fr:r∈F
 ft:∀i,i < 16→(ts i).1∈F∧(ts i).2∈F
 fl:∀j∈F,j < h.length
def gY (h:Hp) (m:Nat) (s:bh) (F:List Nat):Prop:=∃(r:Nat) (ts:Nat→Nat×Nat) (own:Nat→Nat),zZ h m s F r ts own
theorem zZ.mono {S F:List Nat} {h h':Hp} {m r:Nat} {s:bh} {ts:Nat→Nat×Nat} {own:Nat→Nat} (hm:zZ h m s F r ts own) (f:Fw S h h') (hd:∀j∈F,j∉S):zZ h' m s F r ts own:=
 ⟨f.dO _ _ hm.o (hd _ hm.fm),f.dO _ _ hm.row (hd _ hm.fr),fun i hi=>(hm.FF i hi).mono f (hd _ (hm.ft i hi).1) (hd _ (hm.ft i hi).2),hm.om,hm.orr,hm.ot,hm.fm,hm.fr,hm.ft,fun j hj=> f.lt (hm.fl j hj)⟩
theorem gY.mono {S F:List Nat} {h h':Hp} {m:Nat} {s:bh} (hm:gY h m s F) (f:Fw S h h') (hd:∀j∈F,j∉S):gY h' m s F:=by
 obtain ⟨r,ts,own,hm⟩:=hm
 exact ⟨r,ts,own,hm.mono f hd⟩
theorem gY.lt {F:List Nat} {h:Hp} {m:Nat} {s:bh} (hm:gY h m s F):∀j∈F,j < h.length:=by
 obtain ⟨r,ts,own,hm⟩:=hm
 exact hm.fl
theorem gY.mem {F:List Nat} {h:Hp} {m:Nat} {s:bh} (hm:gY h m s F):m∈F:=by
 obtain ⟨r,ts,own,hm⟩:=hm
 exact hm.fm
theorem gY.app {F:List Nat} {h:Hp} {m:Nat} {s:bh} (hm:gY h m s F) (t:Hp):gY (h++t) m s F:=hm.mono (Fw.app [] h t) (by simp)
theorem zZ.part {F:List Nat} {h h':Hp} {m r i t' k':Nat} {s:bh} {ts:Nat→Nat×Nat} {own:Nat→Nat} {q:kH} (hp:zZ h m s F r ts own) (hi:i < 16)
 (hr:h'[r]? =some (.cells (some 104) ((fW s.p ts 16).set i (ei q t')))) (hT:TR h' t' k' q.vs)
 (ho:∀j b,j≠r→j≠(ts i).1→j≠(ts i).2→h[j]? =some b→h'[j]? =some b) (ht:t'=(ts i).1∨h.length≤t') (hk:k'=(ts i).2∨k'=(ts i).1∨h.length≤k') (hl:h.length≤h'.length):
 gY h' m (s.o8 i q) (t'::k'::F):=by
 obtain ⟨a1,a2⟩:=hp.ot i hi
 have hold:∀j b,own j≠i→own j≠101→h[j]? =some b→h'[j]? =some b:=fun j b h1 h2 hb=>
   ho j b (fun e=> h2 (by rw[e];exact hp.orr)) (fun e=> h1 (by rw[e];exact a1)) (fun e=> h1 (by rw[e];exact a2)) hb
 have kU:∀j,own j≠i→j < h.length→j≠t'∧j≠k':=fun j h1 h2=> by
   constructor
   ·rintro rfl
    rcases ht with e | e
    ·rw[e] at h1;exact h1 a1
    ·omega
   ·rintro rfl
    rcases hk with e | e | e
    ·rw[e] at h1;exact h1 a2
    ·rw[e] at h1;exact h1 a1
    ·omega
 refine ⟨r,fun j=> if j=i then (t',k') else ts j,fun j=> if j=t' then i else if j=k' then i else own j,⟨hold _ _ (by rw[hp.om];omega) (by rw[hp.om];omega) hp.o,?_,?_,?_,?_,?_,?_,?_,?_,?_⟩⟩
 ·rw[hr]
  congr 2
  apply List.ext_getElem?
  intro j
  rw[List.getElem?_set,bU]
  by_cases hj:j < 16
  ·rw[dH _ _ _ _ hj,dH _ _ _ _ hj]
   by_cases tF:i=j
   ·subst tF;simp[hi,bh.o8]
   ·simp[tF,Ne.symm tF,bh.o8]
  ·rw[if_neg (by omega),List.getElem?_eq_none (by rw[bU];omega),List.getElem?_eq_none (by rw[bU];omega)]
 ·intro j hj
  by_cases tF:j=i
  ·subst tF;simpa[bh.o8] using hT
  ·obtain ⟨b1,b2⟩:=hp.ot j hj
   simp only[tF,if_false,bh.o8]
   obtain ⟨x,c1,c2⟩:=hp.FF j hj
   refine ⟨x,hold _ _ (by omega) (by omega) c1,?_⟩
   rcases c2 with c2 | ⟨c3,c4,c5⟩
   ·exact .inl c2
   ·exact .inr ⟨c3,c4,hold _ _ (by omega) (by omega) c5⟩
 ·have:=kU m (by rw[hp.om];omega) (q6z hp.o)
  simp only[this.1,this.2,if_false];exact hp.om
 ·have:=kU r (by rw[hp.orr];omega) (q6z hp.row)
  simp only[this.1,this.2,if_false];exact hp.orr
 ·intro j hj
  by_cases tF:j=i
  ·subst tF;simp
  ·obtain ⟨b1,b2⟩:=hp.ot j hj
   obtain ⟨l1,l2⟩:=(hp.FF j hj).lt
   have n1:=kU (ts j).1 (by omega) l1
   have n2:=kU (ts j).2 (by omega) l2
   simp only[tF,if_false,n1.1,n1.2,n2.1,n2.2]
   exact ⟨b1,b2⟩
 ·simp[hp.fm]
 ·simp[hp.fr]
 ·intro j hj
  by_cases tF:j=i
  ·subst tF;simp
  ·have:=hp.ft j hj
   simp[tF,this]
 ·intro j hj
  rcases List.mem_cons.1 hj with rfl | hj
  ·exact hT.lt.1
  ·rcases List.mem_cons.1 hj with rfl | hj
   ·exact hT.lt.2
   ·exact Nat.lt_of_lt_of_le (hp.fl j hj) hl
theorem m9 (b:Nat) (h:Hp) (n:Int):run fns pr b 74 [.s (.int .i64 n)] h=some (.s (.bool (decide (0≤n)&& decide (n < 16))),h):=by
 refine Vm.aT (nt:=9) rfl TX (by simp) ?_
 by_cases h0:0≤n
 ·simp only[B74,h0,go_sem,↓reduceIte,Nat.reduceEqDiff,Nat.reduceBEq,Nat.reduceAdd,Nat.reduceSub,Nat.reduceLT,Nat.reduceLeDiff,Int.reduceLT,Int.reduceLE,Int.reduceEq,Int.reduceToNat]
 ·simp only[B74,h0,go_sem,↓reduceIte,Nat.reduceEqDiff,Nat.reduceBEq,Nat.reduceAdd,Nat.reduceSub,Nat.reduceLT,Nat.reduceLeDiff,Int.reduceLT,Int.reduceLE,Int.reduceEq,Int.reduceToNat]
theorem Hq (b:Nat) (h:Hp) (n:Nat) (m:Int) (hn:n < 16) (h1:1≤m) (h2:m≤8):run fns pr b 78 [.s (.int .i64 (n:Nat)),.s (.int .i64 m)] h=some (.s (.int .i64 ((n:Int) % m)),h):=by
 refine Vm.aT (nt:=13) rfl T5 (by simp) ?_
 have hr:=fun h0=> m9 h.length h0 n
 have q1:(0:Int)≤(n:Int):=by omega
 have q2:(n:Int)< 16:=by omega
 have q3:min m 8=m:=by omega
 have q4:max 1 m=m:=by omega
 have hq:=fun cf base h=> lC cf base h .i64 (n:Int) m (by omega)
 have hm:(n:Int).tmod m=(n:Int) % m:=Int.tmod_eq_emod_of_nonneg q1
 simp only[B78,hr,q1,q2,q3,q4,hq,hm,go_sem,↓reduceIte,Nat.reduceEqDiff,Nat.reduceBEq,Nat.reduceAdd,Nat.reduceSub,Nat.reduceLT,Nat.reduceLeDiff,Int.reduceLT,Int.reduceLE,Int.reduceEq,Int.reduceToNat]
def SPp (p:Nat→kH) (a b:Int) (n:Nat) (H:Hp) (i:Nat) (y:V) (k:Nat) (ts:Nat→Nat×Nat) (own:Nat→Nat):Prop:=
 H[n]? =some (.cells (some 101) [.st 101 [.s (.int .i64 a),.s (.int .i64 b),y]])∧(i=0∧y= .al true (some 104) []∨0 < i∧y= .ref k [] (some 104) 0 i i∧H[k]? =some (.cells (some 104) (fW p ts i))∧own k=101∧n≤k)∧own n=100∧
   (∀j,j < i→TR H (ts j).1 (ts j).2 []∧own (ts j).1=j∧own (ts j).2=j∧n≤(ts j).1∧n≤(ts j).2)
theorem SPp.step {p:Nat→kH} {a b:Int} {n i k k' t:Nat} {H H':Hp} {y:V} {ts:Nat→Nat×Nat} {own:Nat→Nat} (hp:SPp p a b n H i y k ts own) (hn:n < H.length) (ht:H.length≤t) (BO:k'≠t) (lF:k'=k∧0 < i∨H.length≤k') (hi:i < 16)
 (hm:H'[n]? =some (.cells (some 101) [.st 101 [.s (.int .i64 a),.s (.int .i64 b),.ref k' [] (some 104) 0 (i+1) (i+1)]])) (hr:H'[k']? =some (.cells (some 104) (fW p ts i++[ei (p i) t]))) (hT:TR H' t t []) (ho:∀(j:Nat) (b:aW),j≠n→(0 < i→j≠k)→H[j]? =some b→H'[j]? =some b):
 ∃ts' own',SPp p a b n H' (i+1) (.ref k' [] (some 104) 0 (i+1) (i+1)) k' ts' own':=by
 obtain ⟨h1,h2,h3,h4⟩:=hp
 refine ⟨fun j=> if j=i then (t,t) else ts j,fun j=> if j=t then i else if j=k' then 101 else own j,hm,.inr ⟨by omega,rfl,?_,by simp[BO],?_⟩,?_,?_⟩
 ·rw[hr,Df,if_pos rfl]
  rw[sb (p:=p) (p':=p) (ts:=ts) (ts':=fun j=> if j=i then (t,t) else ts j) (fun j hj=>⟨rfl,by rw[if_neg (by omega)]⟩)]
 ·rcases lF with ⟨rfl,vD⟩ | lF
  ·rcases h2 with ⟨h2,_⟩ | ⟨_,_,_,_,h2⟩
   ·omega
   ·exact h2
  ·omega
 ·have hnk:n≠k':=by
    rcases lF with ⟨rfl,vD⟩ | lF
    ·rcases h2 with ⟨h2,_⟩ | ⟨_,_,_,h2,_⟩
     ·omega
     ·intro e;rw[e,h2] at h3;cases h3
    ·omega
  simp only[show n≠t by omega,hnk,if_false];exact h3
 ·intro j hj
  by_cases tF:j=i
  ·subst tF
   simp only[if_true]
   exact ⟨hT,trivial,trivial,by omega,by omega⟩
  ·obtain ⟨a1,a2,a3,a4,a5⟩:=h4 j (by omega)
   have hl:=a1.lt
   simp only[tF,if_false]
   have hk1:0 < i→(ts j).1≠k∧(ts j).2≠k:=fun vD=> by
     rcases h2 with ⟨h2,_⟩ | ⟨_,_,_,h2,_⟩
     ·omega
     ·exact ⟨fun e=> by rw[e,h2] at a2;omega,fun e=> by rw[e,h2] at a3;omega⟩
   have hn1:(ts j).1≠n∧(ts j).2≠n:=⟨fun e=> by rw[e,h3] at a2;omega,fun e=> by rw[e,h3] at a3;omega⟩
   have BQ:(ts j).1≠k'∧(ts j).2≠k':=by
     rcases lF with ⟨rfl,vD⟩ | lF
     ·exact hk1 vD
     ·omega
   refine ⟨?_,by rw[if_neg (by omega),if_neg BQ.1];exact a2,by rw[if_neg (by omega),if_neg BQ.2];exact a3,a4,a5⟩
   obtain ⟨x,b1,b2⟩:=a1
   refine ⟨x,ho _ _ hn1.1 (fun h=>(hk1 h).1) b1,?_⟩
   rcases b2 with b2 | ⟨b3,b4,b5⟩
   ·exact .inl b2
   ·exact .inr ⟨b3,b4,ho _ _ hn1.2 (fun h=>(hk1 h).2) b5⟩
theorem rr (b:Nat) (h:Hp) (x z:Int) (hb:b≤h.length) (h1:1≤z) (h2:z≤8) (h3:0≤x) (h4:x < z):∃v h',run fns pr b 44 [.s (.int .i64 x),.s (.int .i64 z)] h=some (v,h')∧∃F,v= .ptr h.length [0] 1∧gY h' h.length (bh.new x z) F∧Fw [] h h'∧∀j∈F,h.length≤j:=by
 refine Vm.dZ (nt:=50) rfl SS (by simp) ?_
 have q1:¬z < 1:=by omega
 have q2:¬8 < z:=by omega
 have q3:¬x < 0:=by omega
 have q4:¬z≤x:=by omega
 simp only[B44,MX,MW,q1,q2,q3,q4,go_sem,↓reduceIte,Nat.reduceEqDiff,Nat.reduceBEq,Nat.reduceAdd,Nat.reduceSub,Nat.reduceLT,Nat.reduceLeDiff,Int.reduceLT,Int.reduceLE,Int.reduceEq,Int.reduceToNat]
 refine bj (fun m e H=>∃i y k ts own,m=16 - i∧i≤16∧e 27= .s (.int .i64 (i:Nat))∧e 5= .ptr h.length [0] 1∧e 0= .s (.int .i64 x)∧e 1= .s (.int .i64 z)∧SPp (bh.new x z).p x z h.length H i y k ts own∧Fw [] h H)
   (fun e H=> e 5= .ptr h.length [0] 1∧∃y k ts own,SPp (bh.new x z).p x z h.length H 16 y k ts own∧Fw [] h H)
   16 _ _ ⟨0,_,0,fun _=>(0,0),fun _=> 100,rfl,by omega,rfl,rfl,rfl,rfl,⟨aM _ _,.inl ⟨rfl,rfl⟩,rfl,fun j hj=> by omega⟩,Fw.app _ _ _⟩ ?_ ?_
 ·rintro m e H ⟨i,y,k,ts,own,rfl,hi,e27,e5,e0,e1,hp,fw⟩
  have na:=hp
  obtain ⟨hm,hy,hom,hts⟩:=na
  have hlm:=q6z hm
  by_cases c:i < 16
  ·have c':(i:Int)< 16:=by omega
   have iA:IntKind.i64.wrap ((i:Int)+1)=((i+1:Nat):Int):=q18z (by omega)
   have hn:=fun b' h0=> rq b' h0
   have hf:=fun h0=> Hq b h0 i z c h1 h2
   have hmT:=fun t=> q10z hm t
   have hstT:=fun t b'=> m8 hlm t b'
   have gr:∀(p:Bool) (q:Nat),(p || decide (b≤h.length+q))=true:=fun p q=> by simp;right;omega
   have gr0:decide (b≤h.length)=true:=by simpa using hb
   have grH:decide (b≤H.length+1)=true:=by have:=fw.len;simp;omega
   obtain ⟨P,hP⟩:∃P,V.st 104 [.s (.int .i64 (if (i:Int) % z=x then 1 else 0)),.s (.int .u64 1),ki,.ptr H.length [0] 1]=P:=⟨_,rfl⟩
   have hpi:ei ((bh.new x z).p i) H.length=P:=hP
   have pty:P.ty=some 104:=by rw[←hP];rfl
   have pso:P.ax=true:=by rw[←hP];rfl
   obtain ⟨A,hA⟩:∃A:List aW,[aW.cells (some 146) [.st 146 [.al true (some 31) []]],.cells (some 104) [P]]=A:=⟨_,rfl⟩
   have hAl:A.length=2:=by rw[←hA];rfl
   have hA0:(H++A)[H.length]? =some (aW.cells (some 146) [.st 146 [.al true (some 31) []]]):=by rw[←hA];exact aK _ _ 0
   have hA1:(H++A)[H.length+1]? =some (aW.cells (some 104) [P]):=by rw[←hA];exact aK _ _ 1
   have hB1:(H++(A++[.cells (some 104) [P]]))[H.length+1]? =some (aW.cells (some 104) [P]):=by rw[←hA];exact aK _ _ 1
   have hB2:(H++(A++[.cells (some 104) [P]]))[H.length+2]? =some (aW.cells (some 104) [P]):=by rw[←hA];exact aK _ _ 2
   have gN:source (H++(A++[.cells (some 104) [P]])) (.ref (H.length+A.length) [] (some 104) 0 1 1)=some (some 104,[P]):=(kM (show (H++(A++[.cells (some 104) [P]]))[H.length+A.length]? =some (.cells (some 104) [P]) by rw[hAl];exact hB2) rfl).src
   have hB0:(H++(A++[.cells (some 104) [P]]))[H.length]? =some (aW.cells (some 146) [.st 146 [.al true (some 31) []]]):=by rw[←hA];exact aK _ _ 0
   have key:∀(k':Nat) (H':Hp),k'=k∧0 < i∨H.length+2≤k'→H'[h.length]? =some (.cells (some 101) [.st 101 [.s (.int .i64 x),.s (.int .i64 z),.ref k' [] (some 104) 0 (i+1) (i+1)]])→H'[k']? =some (.cells (some 104) (fW (bh.new x z).p ts i++[P]))→
    H'[H.length]? =some (aW.cells (some 146) [.st 146 [.al true (some 31) []]])→(∀(j:Nat) (b:aW),j≠h.length→(0 < i→j≠k)→H[j]? =some b→H'[j]? =some b)→Fw [] h H'→
    ∃m,m < 16 - i∧∃(i':Nat) (y:V) (k:Nat) (ts:Nat→Nat×Nat) (own:Nat→Nat),m=16 - i'∧i'≤16∧Value.int IntKind.i64 ((i+1:Nat):Int)=Value.int IntKind.i64 (i':Int)∧SPp (bh.new x z).p x z h.length H' i' y k ts own∧Fw [] h H':=by
     intro k' H' a1 a2 a3 a4 a5 a6
     have BO:k'≠H.length:=by
       rcases a1 with ⟨rfl,vD⟩ | a1
       ·rcases hy with ⟨h0,_⟩ | ⟨_,_,hk,_⟩
        ·omega
        ·have:=q6z hk;omega
       ·omega
     rw[←hpi] at a3
     obtain ⟨ts',own',hp2⟩:=hp.step (k':=k') (t:=H.length) (H':=H') hlm (Nat.le_refl _) BO (a1.imp id fun h=> by omega) c a2 a3 ⟨_,a4,.inl ⟨rfl,rfl,rfl⟩⟩ a5
     exact ⟨16 - (i+1),by omega,i+1,_,k',ts',own',rfl,by omega,rfl,hp2,a6⟩
   rcases hy with ⟨h0,rfl⟩ | ⟨vD,rfl,hk,gR,hkb⟩
   ·have wZ:=fun cf base=> iJ (cf:=cf) (base:=base) (h:=H++(A++[.cells (some 104) [P]])) (g:=some 104) (bytes:=32) (ys:=[P]) gN (by simp) (by simp)
    have fin:=fun B=> key (H.length+(A.length+1)) (H.set h.length (aW.cells (some 101) [V.st 101 [.s (.int .i64 x),.s (.int .i64 z),.ref (H.length+(A.length+1)) [] (some 104) 0 1 1]])++(A++[aW.cells (some 104) [P],aW.cells (some 104) B])) (.inr (by omega))
      (by rw[h0];exact q10z (q9z hm) _)
    have fin:=fin [P] (by rw[bw (n:=H.length) (by simp),List.getElem?_append_right (by omega),h0];simp[fW]) (by rw[bo (n:=H.length) (by simp),←hA];rfl) (fun j b hj _ hb=> q10z (by rw[List.getElem?_set_ne (Ne.symm hj)];exact hb) _) ((fw.cL (Nat.le_refl _) _).trans (Fw.app _ _ _))
    by_cases cf:(i:Int) % z=x
    ·rw[if_pos cf] at hP
     simp only[e27,e5,e0,e1,c',iA,hn,hf,cf,gr,grH,gr0,hP,pty,pso,hA,hmT,hA1,hstT,wZ,go_sem,↓reduceIte,Nat.reduceEqDiff,Nat.reduceBEq,Nat.reduceAdd,Nat.reduceSub,Nat.reduceLT,Nat.reduceLeDiff,Int.reduceLT,Int.reduceLE,Int.reduceEq,Int.reduceToNat]
     exact fin
    ·rw[if_neg cf] at hP
     simp only[e27,e5,e0,e1,c',iA,hn,hf,cf,gr,grH,gr0,hP,pty,pso,hA,hmT,hA1,hstT,wZ,go_sem,↓reduceIte,Nat.reduceEqDiff,Nat.reduceBEq,Nat.reduceAdd,Nat.reduceSub,Nat.reduceLT,Nat.reduceLeDiff,Int.reduceLT,Int.reduceLE,Int.reduceEq,Int.reduceToNat]
     exact fin
   ·have wZ:=fun cf=> gj (cf:=cf) (base:=b) (h:=H++(A++[.cells (some 104) [P]])) (g:=some 104) (bytes:=32) (ys:=[P]) (q10z hk (A++[.cells (some 104) [P]])) gN (by simp) (by simp[bP];left;omega) (by simp[bU];omega)
    simp only[bU] at wZ
    have hkn:k≠h.length:=fun e=> by rw[e,hom] at gR;omega
    have lT:=q6z hk
    have hmk:∀c,((H++(A++[aW.cells (some 104) [P]])).set k c)[h.length]? =some (.cells (some 101) [.st 101 [.s (.int .i64 x),.s (.int .i64 z),.ref k [] (some 104) 0 i i]]):=fun c=> by rw[List.getElem?_set_ne hkn];exact hmT _
    have fin:=key k (((H++(A++[aW.cells (some 104) [P]])).set k (.cells (some 104) (fW (bh.new x z).p ts i++[P]))).set h.length (.cells (some 101) [.st 101 [.s (.int .i64 x),.s (.int .i64 z),.ref k [] (some 104) 0 (i+1) (i+1)]])) (.inl ⟨rfl,vD⟩)
      (q9z (hmk _)) (by rw[List.getElem?_set_ne (Ne.symm hkn)];exact q9z (q10z hk _)) (by rw[List.getElem?_set_ne (by omega),List.getElem?_set_ne (by omega)];exact hB0)
      (fun j b hj hk hb=> by rw[List.getElem?_set_ne (Ne.symm hj),List.getElem?_set_ne (Ne.symm (hk vD))];exact q10z hb _) (((fw.trans (Fw.app _ _ _)).cL hkb _).cL (Nat.le_refl _) _)
    by_cases cf:(i:Int) % z=x
    ·rw[if_pos cf] at hP
     simp only[e27,e5,e0,e1,c',iA,hn,hf,cf,gr,grH,gr0,hP,pty,pso,hA,hmT,hA1,hstT,wZ,hmk,go_sem,↓reduceIte,Nat.reduceEqDiff,Nat.reduceBEq,Nat.reduceAdd,Nat.reduceSub,Nat.reduceLT,Nat.reduceLeDiff,Int.reduceLT,Int.reduceLE,Int.reduceEq,Int.reduceToNat]
     exact fin
    ·rw[if_neg cf] at hP
     simp only[e27,e5,e0,e1,c',iA,hn,hf,cf,gr,grH,gr0,hP,pty,pso,hA,hmT,hA1,hstT,wZ,hmk,go_sem,↓reduceIte,Nat.reduceEqDiff,Nat.reduceBEq,Nat.reduceAdd,Nat.reduceSub,Nat.reduceLT,Nat.reduceLeDiff,Int.reduceLT,Int.reduceLE,Int.reduceEq,Int.reduceToNat]
     exact fin
  ·have c':¬(i:Int)< 16:=by omega
   obtain rfl:i=16:=by omega
   simp only[e27,e5,c',go_sem,↓reduceIte,Nat.reduceEqDiff,Nat.reduceBEq,Nat.reduceAdd,Nat.reduceSub,Nat.reduceLT,Nat.reduceLeDiff,Int.reduceLT,Int.reduceLE,Int.reduceEq,Int.reduceToNat]
   all_goals exact ⟨y,k,ts,own,hp,fw⟩
 ·rintro e H ⟨e5,y,k,ts,own,hp,fw⟩
  simp only[e5,go_sem,↓reduceIte,Nat.reduceEqDiff,Nat.reduceBEq,Nat.reduceAdd,Nat.reduceSub,Nat.reduceLT,Nat.reduceLeDiff,Int.reduceLT,Int.reduceLE,Int.reduceEq,Int.reduceToNat]
  obtain ⟨h1,h2,h3,h4⟩:=hp
  rcases h2 with ⟨h2,_⟩ | ⟨_,rfl,h6,h7,h8⟩
  ·omega
  ·refine ⟨(h.length::k::(List.range 16).flatMap fun j=> [(ts j).1,(ts j).2]),⟨k,ts,own,⟨h1,h6,fun j hj=>(h4 j hj).1,h3,h7,fun j hj=>⟨(h4 j hj).2.1,(h4 j hj).2.2.1⟩,by simp,by simp,fun j hj=>⟨by simp;right;right;exact ⟨j,hj,.inl rfl⟩,by simp;right;right;exact ⟨j,hj,.inr rfl⟩⟩,?_⟩⟩,fw,?_⟩
   all_goals
     intro j hj
     simp only[List.mem_cons,List.mem_flatMap,List.mem_range,List.not_mem_nil,or_false] at hj
     rcases hj with rfl | rfl | ⟨a,ha,rfl | rfl⟩
   ·exact q6z h1
   ·exact q6z h6
   ·exact (h4 a ha).1.lt.1
   ·exact (h4 a ha).1.lt.2
   ·exact Nat.le_refl _
   ·exact h8
   ·exact (h4 a ha).2.2.2.1
   ·exact (h4 a ha).2.2.2.2
structure POk (s:bh) (i:Nat) (q:kH):Prop where
 role:q.role=0∨q.role=1∨q.role=2
 e1:1≤q.aD
 e2:q.aD≤1099511627776
 Y5:q.role=2→0≤q.to∧q.to < s.bb∧q.to≠s.mem
 to0:q.role≠2→q.to=0
 Ya:q.role=0→q.vs=[]
 Ps:gQ q.vs
 len:q.vs.length≤4
 vs:∀v∈q.vs,aQ v=true∧v.wf∧aI v.iD=i
structure j6 (s:bh):Prop where
 m1:1≤s.bb
 m2:s.bb≤8
 m3:0≤s.mem
 m4:s.mem < s.bb
 p:∀i,i < 16→POk s i (s.p i)
theorem j6.new {a b:Int} (h1:1≤b) (h2:b≤8) (h3:0≤a) (h4:a < b):j6 (bh.new a b):=
 ⟨h1,h2,h3,h4,fun i hi=>⟨by simp only[bh.new];split <;> simp,by simp[bh.new],by simp[bh.new],by simp only[bh.new];split <;> simp,by simp[bh.new],by simp[bh.new],List.Pairwise.nil,by simp[bh.new],by simp[bh.new]⟩⟩
theorem zZ.sr {F:List Nat} {h:Hp} {m r:Nat} {s:bh} {ts:Nat→Nat×Nat} {own:Nat→Nat} (hp:zZ h m s F r ts own):SR h (.ref r [] (some 104) 0 16 16) (some 104) (fW s.p ts 16):=kM hp.row (bU _ _ _)
theorem zZ.app {F:List Nat} {h:Hp} {m r:Nat} {s:bh} {ts:Nat→Nat×Nat} {own:Nat→Nat} (hp:zZ h m s F r ts own) (X:Hp):zZ (h++X) m s F r ts own:=hp.mono (Fw.app [] h X) (by simp)
theorem pU (q:kH) (t:Nat):(ei q t).ty=some 104:=rfl
theorem pV (q:kH) (t:Nat):(ei q t).ax=true:=rfl
theorem Pt (b:Nat) (h:Hp) (m:Nat) (s:bh) (F:List Nat) (hs:gY h m s F):run fns pr b 38 [.ptr m [0] 1] h=some (.bI [.s (.int .i64 s.mem),.s (.int .i64 s.bb)],h):=by
 obtain ⟨r,ts,own,hp⟩:=hs
 refine Vm.aT (nt:=12) rfl SF (by simp) ?_
 simp only[B38,hp.o,go_sem,↓reduceIte,Nat.reduceEqDiff,Nat.reduceBEq,Nat.reduceAdd,Nat.reduceSub,Nat.reduceLT,Nat.reduceLeDiff,Int.reduceLT,Int.reduceLE,Int.reduceEq,Int.reduceToNat]
theorem KY (b:Nat) (h:Hp) (m n:Nat) (s:bh) (F:List Nat) (hs:gY h m s F) (hn:n < 16):run fns pr b 39 [.ptr m [0] 1,.s (.int .i64 (n:Nat))] h=some (.bI [.s (.int .i64 (s.p n).role),.s (.int .u64 (s.p n).aD),.s (.int .i64 (s.p n).to)],h):=by
 obtain ⟨r,ts,own,hp⟩:=hs
 refine Vm.aT (nt:=24) rfl SH (by simp) ?_
 have hr:=fun h0=> m9 h.length h0 n
 have q1:(0:Int)≤(n:Int):=by omega
 have q2:(n:Int)< 16:=by omega
 have fi:=fun cf base=> hp.sr.cY (cf:=cf) (base:=base) (k:= .i64) (i:=n) (by rw[bU];exact hn)
 have gh:=fun cf base=> hp.sr.g8 (cf:=cf) (base:=base) (dH _ _ _ _ hn) rfl
 simp only[B39,hr,q1,q2,hp.o,fi,gh,pU,pV,go_sem,↓reduceIte,Nat.reduceEqDiff,Nat.reduceBEq,Nat.reduceAdd,Nat.reduceSub,Nat.reduceLT,Nat.reduceLeDiff,Int.reduceLT,Int.reduceLE,Int.reduceEq,Int.reduceToNat]
 simp only[ei,List.take_left,go_sem,↓reduceIte,Nat.reduceEqDiff,Nat.reduceBEq,Nat.reduceAdd,Nat.reduceSub,Nat.reduceLT,Nat.reduceLeDiff,Int.reduceLT,Int.reduceLE,Int.reduceEq,Int.reduceToNat]
theorem z0 (b:Nat) (h:Hp) (m n:Nat) (s:bh) (F:List Nat) (hs:gY h m s F) (hk:j6 s) (hn:n < 16):run fns pr b 40 [.ptr m [0] 1,.s (.int .i64 (n:Nat))] h=some (.al false (some 31) ((s.p n).vs.map ag.enc),h):=by
 obtain ⟨r,ts,own,hp⟩:=hs
 refine Vm.aT (nt:=28) rfl SJ (by simp) ?_
 have ok:=hk.p n hn
 have hr:=fun h0=> m9 h.length h0 n
 have q1:(0:Int)≤(n:Int):=by omega
 have q2:(n:Int)< 16:=by omega
 have fi:=fun cf base=> hp.sr.cY (cf:=cf) (base:=base) (k:= .i64) (i:=n) (by rw[bU];exact hn)
 have hpn:(fW s.p ts 16)[n]? =some (.st 104 [.s (.int .i64 (s.p n).role),.s (.int .u64 (s.p n).aD),.s (.int .i64 (s.p n).to),.ptr (ts n).1 [0] 1]):=dH _ _ _ _ hn
 have BS:=fun cf base=> hp.sr.zU (cf:=cf) (base:=base) (f:=0) hpn (by simp)
 have hf3:=fun cf base=> hp.sr.zU (cf:=cf) (base:=base) (f:=3) hpn (by simp)
 have hl0:=fun cf base=> hp.sr.Hr (cf:=cf) (base:=base) (f:=0) (g':=none) hpn rfl rfl
 have wL:=fun cf base=> hp.sr.Hr (cf:=cf) (base:=base) (f:=3) (g':=none) hpn rfl rfl
 have FG:=BP h.length h (ts n).1 (ts n).2 (s.p n).vs (hp.FF n hn) (by have:=ok.len;omega) (fun v hv=> q14z (ok.vs v hv).1)
 by_cases c:(s.p n).role=0
 ·rw[ok.Ya c]
  simp only[B40,hr,q1,q2,hp.o,fi,BS,hl0,c,List.map_nil,go_sem,↓reduceIte,Nat.reduceEqDiff,Nat.reduceBEq,Nat.reduceAdd,Nat.reduceSub,Nat.reduceLT,Nat.reduceLeDiff,Int.reduceLT,Int.reduceLE,Int.reduceEq,Int.reduceToNat]
 ·simp only[B40,hr,q1,q2,hp.o,fi,BS,hf3,hl0,wL,c,FG,kT,go_sem,↓reduceIte,Nat.reduceEqDiff,Nat.reduceBEq,Nat.reduceAdd,Nat.reduceSub,Nat.reduceLT,Nat.reduceLeDiff,Int.reduceLT,Int.reduceLE,Int.reduceEq,Int.reduceToNat]
def ia (P:ag→Bool):List ag→Nat→Int
 | [],_=> -1
 | x::l,i=> if P x=true then i else ia P l (i+1)
theorem sd (P:ag→Bool):∀(l:List ag) (i:Nat),decide (0≤ia P l i)=l.any P
 | [],i=> rfl
 | x::l,i=> by
   unfold ia
   by_cases c:P x=true
   ·rw[if_pos c,List.any_cons,c];simp
   ·rw[if_neg c,sd P l (i+1),List.any_cons];simp[c]
theorem Dg (b:Nat) (h:Hp) (x:V) (l:List ag) (f:Nat) (cap:List V) (P:ag→Bool) (hx:SR h x (some 31) (l.map ag.enc)) (hl:l.length≤1000) (hP:∀b,∀v∈l,run fns pr b f (v.enc::cap) h=some (.s (.bool (P v)),h)):
 run fns pr b 108 [x,.fn f cap] h=some (.s (.int .i64 (ia P l 0)),h):=by
 refine Vm.aT (nt:=19) rfl NZ (by simp) ?_
 have il:∀cf base H,aB cf base H .len [x]=some (.s (.int .i64 (l.length:Nat)),H):=fun cf base H=> by rw[hx.cF];simp
 simp only[NX,Gu,Gt,il,go_sem,↓reduceIte,Nat.reduceEqDiff,Nat.reduceBEq,Nat.reduceAdd,Nat.reduceSub,Nat.reduceLT,Nat.reduceLeDiff,Int.reduceLT,Int.reduceLE,Int.reduceEq,Int.reduceToNat]
 refine bj (fun n e H=>∃i:Nat,n=l.length - i∧i≤l.length∧e 8= .s (.int .i64 i)∧e 7= .s (.int .i64 l.length)∧e 0=x∧e 1= .fn f cap∧H=h∧ia P l 0=ia P (l.drop i) i)
   (fun e H=> H=h∧ia P l 0= -1) l.length _ _ ⟨0,by omega,by omega,rfl,rfl,rfl,rfl,rfl,rfl⟩ ?_ ?_
 ·rintro n e H ⟨i,rfl,hi,e8,e7,e0,e1,rfl,hf⟩
  by_cases c:i < l.length
  ·have c':(i:Int)< l.length:=by omega
   have hw:IntKind.i64.wrap ((i:Int)+1)=((i+1:Nat):Int):=q18z (by omega)
   have hv:l[i]? =some l[i]:=List.getElem?_eq_getElem c
   have hd:l.drop i=l[i]::l.drop (i+1):=List.drop_eq_getElem_cons c
   have hm:l[i]∈l:=List.getElem_mem c
   generalize l[i]=v at hv hd hm
   have hc:=fun b=> hP b v hm
   have fi:=fun cf base=> hx.cY (cf:=cf) (base:=base) (k:= .i64) (i:=i) (by simpa using c)
   have gh:=fun cf base=> hx.g8 (cf:=cf) (base:=base) (i:=i) (v:=v.enc) (by rw[List.getElem?_map,hv];rfl) rfl
   rw[hd] at hf
   by_cases cp:P v=true
   ·have hf2:ia P l 0=i:=by rw[hf];simp[ia,cp]
    rw[hf2]
    simp only[e8,e7,e0,e1,c',fi,gh,hc,cp,aY,aZ,List.cons_append,List.nil_append,go_sem,↓reduceIte,Nat.reduceEqDiff,Nat.reduceBEq,Nat.reduceAdd,Nat.reduceSub,Nat.reduceLT,Nat.reduceLeDiff,Int.reduceLT,Int.reduceLE,Int.reduceEq,Int.reduceToNat]
   ·have hf2:ia P l 0=ia P (l.drop (i+1)) (i+1):=by rw[hf];simp[ia,cp]
    simp only[e8,e7,e0,e1,c',fi,gh,hc,cp,hw,aY,aZ,List.cons_append,List.nil_append,go_sem,↓reduceIte,Nat.reduceEqDiff,Nat.reduceBEq,Nat.reduceAdd,Nat.reduceSub,Nat.reduceLT,Nat.reduceLeDiff,Int.reduceLT,Int.reduceLE,Int.reduceEq,Int.reduceToNat]
    exact ⟨l.length - (i+1),by omega,i+1,rfl,by omega,rfl,hf2⟩
  ·have c':¬(i:Int)< l.length:=by omega
   simp only[e8,e7,e0,e1,c',go_sem,↓reduceIte,Nat.reduceEqDiff,Nat.reduceBEq,Nat.reduceAdd,Nat.reduceSub,Nat.reduceLT,Nat.reduceLeDiff,Int.reduceLT,Int.reduceLE,Int.reduceEq,Int.reduceToNat]
   rw[hf,List.drop_eq_nil_of_le (by omega)];rfl
 ·rintro e H ⟨rfl,hf⟩
  rw[hf]
  simp only[List.take_left,go_sem,↓reduceIte,Nat.reduceEqDiff,Nat.reduceBEq,Nat.reduceAdd,Nat.reduceSub,Nat.reduceLT,Nat.reduceLeDiff,Int.reduceLT,Int.reduceLE,Int.reduceEq,Int.reduceToNat]
theorem o9 (b:Nat) (h:Hp) (x:V) (l:List ag) (f:Nat) (cap:List V) (P:ag→Bool) (hx:SR h x (some 31) (l.map ag.enc)) (hl:l.length≤1000) (hP:∀b,∀v∈l,run fns pr b f (v.enc::cap) h=some (.s (.bool (P v)),h)):
 run fns pr b 87 [x,.fn f cap] h=some (.s (.bool (l.any P)),h):=by
 refine Vm.aT (nt:=9) rfl Un (by simp) ?_
 have hi:=fun b=> Dg b h x l f cap P hx hl hP
 have ha:=sd P l 0
 simp only[B87,hi,ha,go_sem,↓reduceIte,Nat.reduceEqDiff,Nat.reduceBEq,Nat.reduceAdd,Nat.reduceSub,Nat.reduceLT,Nat.reduceLeDiff,Int.reduceLT,Int.reduceLE,Int.reduceEq,Int.reduceToNat]
def ml (s:bh) (v:ag):Int:=
 if (s.p (aI v.iD)).role=0 then 26 else if (s.p (aI v.iD)).role=2 then 27
 else if (oo (s.p (aI v.iD)).vs v.iD).isSome=false∧4≤(s.p (aI v.iD)).vs.length then 13 else 0
def xp (s:bh) (r:aq):Int:=
 if s.bb≤r.dy∨r.dy=s.mem then 1 else if (s.p r.aA.toNat).role=0 then 26 else if (s.p r.aA.toNat).role=2 then 27
 else if r.aD=(s.p r.aA.toNat).aD+1 then 0 else 1
def vE (s:bh) (r:aq):Int:=
 if (r.ai.any fun v=> decide ((aI v.iD:Int)≠r.aA))=true then 1 else if (s.p r.aA.toNat).role=1 then 26
 else if r.aD≤(s.p r.aA.toNat).aD then 31 else 0
def bK (s:bh) (r:aq):Int:=
 if aS r=false then 1 else if r.kind=1 then ml s r.av else if r.kind=2 then xp s r else if r.kind=3 then vE s r
 else if (s.p r.aA.toNat).role=2∧(s.p r.aA.toNat).aD=r.aD then 0 else 26
theorem Hs (b:Nat) (h:Hp) (m:Nat) (s:bh) (F:List Nat) (f:Bool) (v:ag) (hs:gY h m s F) (hk:j6 s) (hl:v.iD.length≤1000000):
 run fns pr b 53 [.ptr m [0] 1,v.gk f] h=some (.s (.int .i64 (ml s v)),h):=by
 obtain ⟨r,ts,own,hp⟩:=hs
 obtain ⟨a1,a2,a3,a4,a5,a6,a7,a8,a9⟩:=v
 simp only at hl
 refine Vm.aT (nt:=42) rfl Td (by simp) ?_
 have hn:=kQ a1
 have ok:=hk.p _ hn
 have xc:=fun b h0=> kR b h0 a1 hl
 have cS:=fun X=>(hp.app X).o
 have fi:=fun cf base X=>(hp.app X).sr.cY (cf:=cf) (base:=base) (k:= .i64) (i:=aI a1) (by rw[bU];exact hn)
 have gh:=fun cf base X=>(hp.app X).sr.g8 (cf:=cf) (base:=base) (dH _ _ _ _ hn) rfl
 have zR:=fun b X=> KW b (h++X) (ts (aI a1)).1 (ts (aI a1)).2 (s.p (aI a1)).vs a1 ((hp.app X).FF _ hn) ok.Ps (by have:=ok.len;omega) (fun v hv=> q14z (ok.vs v hv).1)
 have lE:=fun b X=> KS b (h++X) (ts (aI a1)).1 (ts (aI a1)).2 (s.p (aI a1)).vs ((hp.app X).FF _ hn)
 have od:=ok.len
 unfold ml
 simp only
 generalize hS:aI a1=S at *
 generalize oo (s.p S).vs a1=o at *
 simp only[B53,ag.gk,xc,cS,fi,gh,pU,pV,go_sem,↓reduceIte,Nat.reduceEqDiff,Nat.reduceBEq,Nat.reduceAdd,Nat.reduceSub,Nat.reduceLT,Nat.reduceLeDiff,Int.reduceLT,Int.reduceLE,Int.reduceEq,Int.reduceToNat]
 have hle:((4:Int)≤(((s.p S).vs.length:Nat):Int))=(4≤(s.p S).vs.length):=propext (by omega)
 by_cases c0:(s.p S).role=0
 ·simp only[ei,c0,zR,aY,aZ,List.take_left,go_sem,↓reduceIte,Nat.reduceEqDiff,Nat.reduceBEq,Nat.reduceAdd,Nat.reduceSub,Nat.reduceLT,Nat.reduceLeDiff,Int.reduceLT,Int.reduceLE,Int.reduceEq,Int.reduceToNat]
 ·by_cases c2:(s.p S).role=2
  ·simp only[ei,c0,c2,zR,aY,aZ,List.take_left,go_sem,↓reduceIte,Nat.reduceEqDiff,Nat.reduceBEq,Nat.reduceAdd,Nat.reduceSub,Nat.reduceLT,Nat.reduceLeDiff,Int.reduceLT,Int.reduceLE,Int.reduceEq,Int.reduceToNat]
  ·cases o with
   | none=>
     by_cases c4:4≤(s.p S).vs.length
     ·simp only[ei,c0,c2,zR,lE,aY,aZ,List.take_left,hle,c4,Option.isSome_none,go_sem,↓reduceIte,Nat.reduceEqDiff,Nat.reduceBEq,Nat.reduceAdd,Nat.reduceSub,Nat.reduceLT,Nat.reduceLeDiff,Int.reduceLT,Int.reduceLE,Int.reduceEq,Int.reduceToNat]
      all_goals rfl
     ·simp only[ei,c0,c2,zR,lE,aY,aZ,List.take_left,hle,c4,Option.isSome_none,go_sem,↓reduceIte,Nat.reduceEqDiff,Nat.reduceBEq,Nat.reduceAdd,Nat.reduceSub,Nat.reduceLT,Nat.reduceLeDiff,Int.reduceLT,Int.reduceLE,Int.reduceEq,Int.reduceToNat]
      all_goals rfl
   | some w=>
     simp only[ei,c0,c2,zR,lE,aY,aZ,List.take_left,Option.isSome_some,go_sem,↓reduceIte,Nat.reduceEqDiff,Nat.reduceBEq,Nat.reduceAdd,Nat.reduceSub,Nat.reduceLT,Nat.reduceLeDiff,Int.reduceLT,Int.reduceLE,Int.reduceEq,Int.reduceToNat]
     all_goals rfl
theorem KZ (b:Nat) (h:Hp) (m:Nat) (s:bh) (F:List Nat) (r:aq) (hs:gY h m s F) (hk:j6 s) (h0:0≤r.aA) (h1:r.aA < 16):
 run fns pr b 54 [.ptr m [0] 1,r.enc] h=some (.s (.int .i64 (xp s r)),h):=by
 obtain ⟨rw,ts,own,hp⟩:=hs
 obtain ⟨kind,aA,dy,aD,av,ai⟩:=r
 simp only at h0 h1
 obtain ⟨n,rfl⟩:∃n:Nat,aA=(n:Int):=⟨aA.toNat,by omega⟩
 have hn:n < 16:=by omega
 refine Vm.aT (nt:=46) rfl Tf (by simp) ?_
 have ok:=hk.p _ hn
 have cS:=fun X=>(hp.app X).o
 have fi:=fun cf base X=>(hp.app X).sr.cY (cf:=cf) (base:=base) (k:= .i64) (i:=n) (by rw[bU];exact hn)
 have gh:=fun cf base X=>(hp.app X).sr.g8 (cf:=cf) (base:=base) (dH _ _ _ _ hn) rfl
 have hw:IntKind.u64.wrap ((s.p n).aD+1)=(s.p n).aD+1:=by have:=ok.e1;have:=ok.e2;exact wrap_u64 (by omega) (by omega)
 unfold xp
 simp only[Int.toNat_natCast]
 simp only[B54,aq.enc,cS,fi,gh,pU,pV,go_sem,↓reduceIte,Nat.reduceEqDiff,Nat.reduceBEq,Nat.reduceAdd,Nat.reduceSub,Nat.reduceLT,Nat.reduceLeDiff,Int.reduceLT,Int.reduceLE,Int.reduceEq,Int.reduceToNat]
 by_cases c1:s.bb≤dy
 ·simp only[c1,List.take_left,go_sem,↓reduceIte,Nat.reduceEqDiff,Nat.reduceBEq,Nat.reduceAdd,Nat.reduceSub,Nat.reduceLT,Nat.reduceLeDiff,Int.reduceLT,Int.reduceLE,Int.reduceEq,Int.reduceToNat]
  all_goals rfl
 ·by_cases c2:dy=s.mem
  ·have c1':¬s.bb≤s.mem:=by rw[←c2];exact c1
   simp only[cS,c1,c1',c2,List.take_left,go_sem,↓reduceIte,Nat.reduceEqDiff,Nat.reduceBEq,Nat.reduceAdd,Nat.reduceSub,Nat.reduceLT,Nat.reduceLeDiff,Int.reduceLT,Int.reduceLE,Int.reduceEq,Int.reduceToNat]
   all_goals rfl
  ·by_cases c3:(s.p n).role=0
   ·simp only[cS,c1,c2,c3,ei,List.take_left,go_sem,↓reduceIte,Nat.reduceEqDiff,Nat.reduceBEq,Nat.reduceAdd,Nat.reduceSub,Nat.reduceLT,Nat.reduceLeDiff,Int.reduceLT,Int.reduceLE,Int.reduceEq,Int.reduceToNat]
    all_goals rfl
   ·by_cases c4:(s.p n).role=2
    ·simp only[cS,c1,c2,c3,c4,ei,List.take_left,go_sem,↓reduceIte,Nat.reduceEqDiff,Nat.reduceBEq,Nat.reduceAdd,Nat.reduceSub,Nat.reduceLT,Nat.reduceLeDiff,Int.reduceLT,Int.reduceLE,Int.reduceEq,Int.reduceToNat]
     all_goals rfl
    ·by_cases c5:aD=(s.p n).aD+1
     ·simp only[cS,c1,c2,c3,c4,c5,hw,ei,List.take_left,go_sem,↓reduceIte,Nat.reduceEqDiff,Nat.reduceBEq,Nat.reduceAdd,Nat.reduceSub,Nat.reduceLT,Nat.reduceLeDiff,Int.reduceLT,Int.reduceLE,Int.reduceEq,Int.reduceToNat]
      all_goals rfl
     ·simp only[cS,c1,c2,c3,c4,c5,hw,ei,List.take_left,go_sem,↓reduceIte,Nat.reduceEqDiff,Nat.reduceBEq,Nat.reduceAdd,Nat.reduceSub,Nat.reduceLT,Nat.reduceLeDiff,Int.reduceLT,Int.reduceLE,Int.reduceEq,Int.reduceToNat]
      all_goals rfl
theorem Dh (b:Nat) (h:Hp) (n:Nat) (v:ag) (rest:List V) (id:Nat) (hl:v.iD.length≤1000000) (k:V) (hg:h[id]? =some (.cells (some 41) [.st 41 (k:: .s (.int .i64 (n:Nat))::rest)])):
 run fns pr b 88 [v.enc,.ptr id [0] 1] h=some (.s (.bool (decide ((aI v.iD:Int)≠(n:Nat)))),h):=by
 refine Vm.aT (nt:=10) rfl Up (by simp) ?_
 obtain ⟨a1,a2,a3,a4,a5,a6,a7,a8,a9⟩:=v
 simp only at hl ⊢
 have xc:=fun b h0=> kR b h0 a1 hl
 have cS:=fun X=> q10z hg X
 generalize aI a1=S at *
 have hq:1 < rest.length+1+1:=by omega
 simp only[B88,ag.enc,xc,cS,hq,List.take_left,go_sem,↓reduceIte,Nat.reduceEqDiff,Nat.reduceBEq,Nat.reduceAdd,Nat.reduceSub,Nat.reduceLT,Nat.reduceLeDiff,Int.reduceLT,Int.reduceLE,Int.reduceEq,Int.reduceToNat]
 all_goals simp[bne,Bool.beq_eq_decide_eq]
theorem Ht (b:Nat) (h:Hp) (m:Nat) (s:bh) (F:List Nat) (r:aq) (hs:gY h m s F) (hk:j6 s) (h0:0≤r.aA) (h1:r.aA < 16) (hv:∀v∈r.ai,v.wf) (hl:r.ai.length≤4):
 run fns pr b 55 [.ptr m [0] 1,r.enc] h=some (.s (.int .i64 (vE s r)),h):=by
 obtain ⟨rw,ts,own,hp⟩:=hs
 obtain ⟨kind,aA,dy,aD,av,ai⟩:=r
 simp only at h0 h1 hv hl
 obtain ⟨n,rfl⟩:∃n:Nat,aA=(n:Int):=⟨aA.toNat,by omega⟩
 have hn:n < 16:=by omega
 refine Vm.aT (nt:=29) rfl Th (by simp) ?_
 have ok:=hk.p _ hn
 have cS:=fun X=>(hp.app X).o
 have fi:=fun cf base X=>(hp.app X).sr.cY (cf:=cf) (base:=base) (k:= .i64) (i:=n) (by rw[bU];exact hn)
 have gh:=fun cf base X=>(hp.app X).sr.g8 (cf:=cf) (base:=base) (dH _ _ _ _ hn) rfl
 have hc:=fun b H (hg:H[h.length]? =_)=> o9 b H (.al false (some 31) (ai.map ag.enc)) ai 88 [.ptr h.length [0] 1] (fun v=> decide ((aI v.iD:Int)≠(n:Nat))) (.inl ⟨_,rfl⟩) (by omega)
   (fun b v hm=> Dh b H n v [.s (.int .i64 dy),.s (.int .u64 aD),av.enc,.al false (some 31) (ai.map ag.enc)] h.length (by have:=(hv v hm).iD;omega) (.s (.int .i64 kind)) hg)
 have hc2:=fun b X=> hc b (h++aW.cells (some 41) [.st 41 [.s (.int .i64 kind),.s (.int .i64 n),.s (.int .i64 dy),.s (.int .u64 aD),av.enc,.al false (some 31) (ai.map ag.enc)]]::X) (by simp)
 unfold vE
 simp only[Int.toNat_natCast]
 generalize (ai.any fun v=> decide ((aI v.iD:Int)≠(n:Nat)))=q at *
 simp only[B55,aq.enc,cS,fi,gh,pU,pV,go_sem,↓reduceIte,Nat.reduceEqDiff,Nat.reduceBEq,Nat.reduceAdd,Nat.reduceSub,Nat.reduceLT,Nat.reduceLeDiff,Int.reduceLT,Int.reduceLE,Int.reduceEq,Int.reduceToNat]
 cases q
 ·by_cases c3:(s.p n).role=1
  ·simp only[hc2,c3,ei,List.take_left,go_sem,↓reduceIte,Nat.reduceEqDiff,Nat.reduceBEq,Nat.reduceAdd,Nat.reduceSub,Nat.reduceLT,Nat.reduceLeDiff,Int.reduceLT,Int.reduceLE,Int.reduceEq,Int.reduceToNat]
   all_goals rfl
  ·by_cases c4:aD≤(s.p n).aD
   ·simp only[hc2,c3,c4,ei,List.take_left,go_sem,↓reduceIte,Nat.reduceEqDiff,Nat.reduceBEq,Nat.reduceAdd,Nat.reduceSub,Nat.reduceLT,Nat.reduceLeDiff,Int.reduceLT,Int.reduceLE,Int.reduceEq,Int.reduceToNat]
    all_goals rfl
   ·simp only[hc2,c3,c4,ei,List.take_left,go_sem,↓reduceIte,Nat.reduceEqDiff,Nat.reduceBEq,Nat.reduceAdd,Nat.reduceSub,Nat.reduceLT,Nat.reduceLeDiff,Int.reduceLT,Int.reduceLE,Int.reduceEq,Int.reduceToNat]
    all_goals rfl
 ·simp only[hc2,List.take_left,go_sem,↓reduceIte,Nat.reduceEqDiff,Nat.reduceBEq,Nat.reduceAdd,Nat.reduceSub,Nat.reduceLT,Nat.reduceLeDiff,Int.reduceLT,Int.reduceLE,Int.reduceEq,Int.reduceToNat]
  all_goals rfl
theorem nb {r:aq} (h:aS r=true) (h1:r.kind≠1):0≤r.aA∧r.aA < 16∧1≤r.aD∧r.aD≤1099511627776∧r.av=zeroV:=by
 unfold aS kN at h
 rw[if_neg h1] at h
 split at h
 ·simp at h;simp[h]
 ·split at h
  ·simp at h;simp[h]
  ·split at h
   ·simp at h;simp[h]
   ·cases h
theorem pW {r:aq} (h:aS r=true):r.ai.length≤4:=by
 unfold aS at h
 split at h
 ·simp at h;simp[h]
 ·split at h
  ·simp at h;simp[h]
  ·split at h
   ·rw[Bool.and_eq_true] at h
    have:=h.2
    unfold dd at this
    rw[Bool.and_eq_true,decide_eq_true_eq] at this
    exact this.1
   ·split at h
    ·simp at h;simp[h]
    ·cases h
theorem xq (b:Nat) (h:Hp) (m:Nat) (s:bh) (F:List Nat) (r:aq) (hs:gY h m s F) (hk:j6 s) (hw:r.wf) (hv:∀v∈r.ai,v.wf):
 run fns pr b 26 [.ptr m [0] 1,r.enc] h=some (.s (.int .i64 (bK s r)),h):=by
 have wI:=fun b X=> mf b (h++X) r hv
 have xt:=fun b X=> Hs b (h++X) m s F false r.av (hs.app X) hk (by have:=hw.av.iD;omega)
 have hgo:=fun b X h0 h1=> KZ b (h++X) m s F r (hs.app X) hk h0 h1
 have hco:=fun b X h0 h1 h4=> Ht b (h++X) m s F r (hs.app X) hk h0 h1 hv h4
 have hgk:=nb (r:=r)
 have hg4:=pW (r:=r)
 have du:r.enc.ty=some 41:=rfl
 have jE:r.enc.ax=true:=rfl
 obtain ⟨rw,ts,own,hp⟩:=hs
 refine Vm.aT (nt:=45) rfl Sg (by simp) ?_
 unfold bK
 cases hr:aS r with
 | false=>
   rw[if_pos rfl]
   simp only[B26,wI,hr,du,jE,List.take_left,go_sem,↓reduceIte,Nat.reduceEqDiff,Nat.reduceBEq,Nat.reduceAdd,Nat.reduceSub,Nat.reduceLT,Nat.reduceLeDiff,Int.reduceLT,Int.reduceLE,Int.reduceEq,Int.reduceToNat]
 | true=>
   rw[if_neg (by simp)]
   have h4:=hg4 hr
   have hgk:=hgk hr
   obtain ⟨kind,aA,dy,aD,av,ai⟩:=r
   simp only[aq.enc,ag.lH] at *
   by_cases k1:kind=1
   ·subst k1
    rw[if_pos rfl]
    simp only[B26,wI,hr,xt,fE,fF,List.take_left,go_sem,↓reduceIte,Nat.reduceEqDiff,Nat.reduceBEq,Nat.reduceAdd,Nat.reduceSub,Nat.reduceLT,Nat.reduceLeDiff,Int.reduceLT,Int.reduceLE,Int.reduceEq,Int.reduceToNat]
   ·rw[if_neg k1]
    obtain ⟨g1,g2,g3,g4,g5⟩:=hgk k1
    have hgo:=fun b X=> hgo b X g1 g2
    have hco:=fun b X=> hco b X g1 g2 h4
    by_cases k2:kind=2
    ·subst k2
     rw[if_pos rfl]
     simp only[B26,wI,hr,hgo,fE,fF,List.take_left,go_sem,↓reduceIte,Nat.reduceEqDiff,Nat.reduceBEq,Nat.reduceAdd,Nat.reduceSub,Nat.reduceLT,Nat.reduceLeDiff,Int.reduceLT,Int.reduceLE,Int.reduceEq,Int.reduceToNat]
    ·rw[if_neg k2]
     by_cases k3:kind=3
     ·subst k3
      rw[if_pos rfl]
      simp only[B26,wI,hr,hco,fE,fF,List.take_left,go_sem,↓reduceIte,Nat.reduceEqDiff,Nat.reduceBEq,Nat.reduceAdd,Nat.reduceSub,Nat.reduceLT,Nat.reduceLeDiff,Int.reduceLT,Int.reduceLE,Int.reduceEq,Int.reduceToNat]
     ·rw[if_neg k3]
      obtain ⟨n,rfl⟩:∃n:Nat,aA=(n:Int):=⟨aA.toNat,by omega⟩
      have hn:n < 16:=by omega
      have cS:=fun X=>(hp.app X).o
      have fi:=fun cf base X=>(hp.app X).sr.cY (cf:=cf) (base:=base) (k:= .i64) (i:=n) (by rw[bU];exact hn)
      have gh:=fun cf base X=>(hp.app X).sr.g8 (cf:=cf) (base:=base) (dH _ _ _ _ hn) rfl
      simp only[Int.toNat_natCast]
      simp only[B26,wI,hr,k1,k2,k3,cS,fi,gh,pU,pV,go_sem,↓reduceIte,Nat.reduceEqDiff,Nat.reduceBEq,Nat.reduceAdd,Nat.reduceSub,Nat.reduceLT,Nat.reduceLeDiff,Int.reduceLT,Int.reduceLE,Int.reduceEq,Int.reduceToNat]
      by_cases c1:(s.p n).role=2
      ·by_cases c2:(s.p n).aD=aD
       ·simp only[c1,c2,ei,List.take_left,go_sem,↓reduceIte,Nat.reduceEqDiff,Nat.reduceBEq,Nat.reduceAdd,Nat.reduceSub,Nat.reduceLT,Nat.reduceLeDiff,Int.reduceLT,Int.reduceLE,Int.reduceEq,Int.reduceToNat]
        all_goals rfl
       ·simp only[c1,c2,ei,List.take_left,go_sem,↓reduceIte,Nat.reduceEqDiff,Nat.reduceBEq,Nat.reduceAdd,Nat.reduceSub,Nat.reduceLT,Nat.reduceLeDiff,Int.reduceLT,Int.reduceLE,Int.reduceEq,Int.reduceToNat]
        all_goals rfl
      ·simp only[c1,ei,List.take_left,go_sem,↓reduceIte,Nat.reduceEqDiff,Nat.reduceBEq,Nat.reduceAdd,Nat.reduceSub,Nat.reduceLT,Nat.reduceLeDiff,Int.reduceLT,Int.reduceLE,Int.reduceEq,Int.reduceToNat]
       all_goals rfl
def bE (s:bh) (r:aq):Int×bh:=
 if bK s r≠0 then (bK s r,s)
 else if r.kind=1 then ((o7 (s.p (aI r.av.iD)).vs r.av).1,s.o8 (aI r.av.iD) {s.p (aI r.av.iD) with vs:=(o7 (s.p (aI r.av.iD)).vs r.av).2})
 else if r.kind=2 then (0,s.o8 r.aA.toNat ⟨2,r.aD,r.dy,(s.p r.aA.toNat).vs⟩)
 else if r.kind=3 then (0,s.o8 r.aA.toNat ⟨1,r.aD,0,r.ai⟩)
 else (0,s.o8 r.aA.toNat ⟨0,r.aD,0,[]⟩)
theorem q31z {l:List ag} (h:dd l=true):∀(j i:Nat) (hij:i < j) (hj:j < l.length),cQ (l[i]).iD (l[j]).iD < 0:=by
 unfold dd at h
 rw[Bool.and_eq_true,List.all_eq_true] at h
 have step:∀i (hi:i+1 < l.length),cQ (l[i]).iD (l[i+1]).iD < 0:=fun i hi=> by
   have:=h.2 (i+1) (List.mem_range.2 hi)
   unfold g9 at this
   rw[Bool.and_eq_true] at this
   have:=this.2
   simp only[Nat.add_sub_cancel,List.getD,List.getElem?_eq_getElem hi,List.getElem?_eq_getElem (show i < l.length by omega),Option.getD_some] at this
   simpa using this
 intro j
 induction j with
 | zero=> intro i hij;omega
 | succ j ih=>
   intro i hij hj
   rcases Nat.lt_or_ge i j with h1 | h1
   ·exact fc _ _ _ (ih i h1 (by omega)) (step j hj)
   ·obtain rfl:i=j:=by omega
    exact step i hj
theorem q32z {l:List ag} (h:dd l=true):rising l=true:=by
 have h1:=q31z h
 unfold dd at h
 rw[Bool.and_eq_true,decide_eq_true_eq,List.all_eq_true] at h
 unfold rising
 rw[Bool.and_eq_true,Bool.and_eq_true,decide_eq_true_eq,decide_eq_true_eq,List.all_eq_true]
 refine ⟨⟨h.1,fun v hv=> ?_⟩,List.pairwise_iff_getElem.2 fun i j hi hj hij=> h1 j i hij hj⟩
 obtain ⟨i,hi,rfl⟩:=List.getElem_of_mem hv
 have:=h.2 i (List.mem_range.2 hi)
 unfold g9 at this
 rw[Bool.and_eq_true,List.getD,List.getElem?_eq_getElem hi] at this
 exact this.1
theorem q25z {l:List V} {i:Nat} {x:V} (h:l[i]? =some x):l.set i x=l:=List.ext_getElem? fun k=> by
 rw[List.getElem?_set]
 by_cases hk:i=k
 ·subst hk
  obtain ⟨h1,h2⟩:=List.getElem?_eq_some_iff.1 h
  simp[h1,h,h2]
 ·simp[hk]
theorem zZ.vs {F:List Nat} {h h':Hp} {m r i k':Nat} {s:bh} {ts:Nat→Nat×Nat} {own:Nat→Nat} {l:List ag} (hp:zZ h m s F r ts own) (hi:i < 16)
 (hT:TR h' (ts i).1 k' l) (f:Fw [(ts i).1,(ts i).2] h h') (hk:k'=(ts i).2∨k'=(ts i).1∨h.length≤k'):
 ∃F',gY h' m (s.o8 i {s.p i with vs:=l}) F'∧Fw F h h'∧∀j∈F',j∈F∨h.length≤j:=by
 obtain ⟨o1,o2⟩:=hp.ot _ hi
 have cE:∀j,j≠(ts i).1→j≠(ts i).2→j∉ [(ts i).1,(ts i).2]:=fun j h1 h2=> by simp[h1,h2]
 have ck:=f.dO _ _ hp.row (cE r (fun e=> by rw[←e,hp.orr] at o1;omega) (fun e=> by rw[←e,hp.orr] at o2;omega))
 refine ⟨_,hp.part (q:= {s.p i with vs:=l}) (t':=(ts i).1) hi ?_ hT (fun j b _ h1 h2 hb=> f.dO _ _ hb (cE j h1 h2)) (.inl rfl) hk f.len,f.mono ?_,?_⟩
 ·rw[ck];congr 2;exact (q25z (dH _ _ _ _ hi)).symm
 ·intro j hj
  simp only[List.mem_cons,List.not_mem_nil,or_false] at hj
  rcases hj with rfl | rfl
  ·exact (hp.ft _ hi).1
  ·exact (hp.ft _ hi).2
 ·intro j hj
  simp only[List.mem_cons] at hj
  rcases hj with rfl | rfl | hj
  ·exact .inl (hp.ft _ hi).1
  ·rcases hk with rfl | rfl | hk
   ·exact .inl (hp.ft _ hi).2
   ·exact .inl (hp.ft _ hi).1
   ·exact .inr hk
  ·exact .inl hj
theorem zZ.Vr {F:List Nat} {h h':Hp} {m r i t' k':Nat} {s:bh} {ts:Nat→Nat×Nat} {own:Nat→Nat} {q:kH} (hp:zZ h m s F r ts own) (hi:i < 16)
 (hr:h'[r]? =some (.cells (some 104) ((fW s.p ts 16).set i (ei q t')))) (hT:TR h' t' k' q.vs) (f:Fw [r,(ts i).1,(ts i).2] h h') (ht:t'=(ts i).1∨h.length≤t') (hk:k'=(ts i).2∨k'=(ts i).1∨h.length≤k'):
 ∃F',gY h' m (s.o8 i q) F'∧Fw F h h'∧∀j∈F',j∈F∨h.length≤j:=by
 refine ⟨_,hp.part hi hr hT (fun j b h0 h1 h2 hb=> f.dO _ _ hb (by simp[h0,h1,h2])) ht hk f.len,f.mono ?_,?_⟩
 ·intro j hj
  simp only[List.mem_cons,List.not_mem_nil,or_false] at hj
  rcases hj with rfl | rfl | rfl
  ·exact hp.fr
  ·exact (hp.ft _ hi).1
  ·exact (hp.ft _ hi).2
 ·intro j hj
  simp only[List.mem_cons] at hj
  rcases hj with rfl | rfl | hj
  ·rcases ht with rfl | ht
   ·exact .inl (hp.ft _ hi).1
   ·exact .inr ht
  ·rcases hk with rfl | rfl | hk
   ·exact .inl (hp.ft _ hi).2
   ·exact .inl (hp.ft _ hi).1
   ·exact .inr hk
  ·exact .inl hj
theorem sf (b:Nat) (h:Hp) (m:Nat) (s:bh) (F:List Nat) (r:aq) (hF:∀j∈F,b≤j) (hs:gY h m s F) (hk:j6 s) (hw:r.wf) (hv:∀v∈r.ai,v.wf):
 ∃v h',run fns pr b 33 [.ptr m [0] 1,r.enc] h=some (v,h')∧v= .s (.int .i64 (bE s r).1)∧∃F',gY h' m (bE s r).2 F'∧Fw F h h'∧∀j∈F',j∈F∨h.length≤j:=by
 have y0:=fun b X=> xq b (h++X) m s F r (hs.app X) hk hw hv
 have du:r.enc.ty=some 41:=rfl
 have jE:r.enc.ax=true:=rfl
 have qw:=hs
 obtain ⟨rw,ts,own,hp⟩:=hs
 refine Vm.dZ (nt:=79) rfl Sv (by simp) ?_
 unfold bE
 by_cases c0:bK s r=0
 case neg=>
   rw[if_pos c0]
   simp only[B33,y0,c0,du,jE,go_sem,↓reduceIte,Nat.reduceEqDiff,Nat.reduceBEq,Nat.reduceAdd,Nat.reduceSub,Nat.reduceLT,Nat.reduceLeDiff,Int.reduceLT,Int.reduceLE,Int.reduceEq,Int.reduceToNat]
   exact ⟨_,qw.app _,Fw.app _ _ _,fun j hj=> .inl hj⟩
 rw[if_neg (by simp[c0])]
 have hr:aS r=true:=by
   cases hr:aS r with
   | true=> rfl
   | false=> unfold bK at c0;rw[if_pos hr] at c0;cases c0
 have hgk:=nb hr
 rw[c0] at y0
 by_cases k1:r.kind=1
 ·rw[if_pos k1]
  have jF:aQ r.av=true:=by unfold aS at hr;rw[if_pos k1] at hr;simp at hr;simp[hr]
  obtain ⟨kind,aA,dy,aD,av,ai⟩:=r
  obtain ⟨w1,w2,w3,w4,w5,w6⟩:=hw
  simp only at k1 jF w5 ⊢
  subst k1
  have hvi:av.iD.length=4:=by have:=w5.iD;omega
  have hn:=kQ av.iD
  have ok:=hk.p _ hn
  have xc:=fun b h0=> kR b h0 av.iD (by omega)
  have cS:=fun X=>(hp.app X).o
  have fi:=fun cf base X=>(hp.app X).sr.cY (cf:=cf) (base:=base) (k:= .i64) (i:=aI av.iD) (by rw[bU];exact hn)
  have hpn:(fW s.p ts 16)[aI av.iD]? =some (.st 104 [.s (.int .i64 (s.p (aI av.iD)).role),.s (.int .u64 (s.p (aI av.iD)).aD),.s (.int .i64 (s.p (aI av.iD)).to),.ptr (ts (aI av.iD)).1 [0] 1]):=dH _ _ _ _ hn
  have hf3:=fun cf base X=>(hp.app X).sr.zU (cf:=cf) (base:=base) (f:=3) hpn (by simp)
  have wL:=fun cf base X=>(hp.app X).sr.Hr (cf:=cf) (base:=base) (f:=3) (g':=none) hpn rfl rfl
  have hpu:=KX b (h++[aW.cells (some 41) [aq.enc ⟨1,aA,dy,aD,av,ai⟩]]) (ts (aI av.iD)).1 (ts (aI av.iD)).2 (s.p (aI av.iD)).vs av (hF _ (hp.ft _ hn).1) ((hp.app _).FF _ hn) ok.Ps ok.len
  have nD:aq.enc ⟨1,aA,dy,aD,av,ai⟩=V.st 41 [.s (.int .i64 1),.s (.int .i64 aA),.s (.int .i64 dy),.s (.int .u64 aD),av.enc,.al false (some 31) (ai.map ag.enc)]:=rfl
  have hve:av.enc= .st 31 [.arr 27 (av.iD.map aa),.s (.int .u64 av.gen),.arr 25 (av.q9.map aa),.al false none (av.bY.map aa),.s (.int .i64 av.bX),.s (.int .i64 av.used),.arr 25 (av.owner.map aa),.s (.bool av.gone),.s (.bool av.qu)]:=rfl
  rw[nD] at y0 hpu ⊢
  rw[hve] at y0 hpu ⊢
  generalize hEs:(ai.map ag.enc)=es at *
  obtain ⟨H2,k2,hpu,hT,f2,zT⟩:=hpu
  have fA:∀X,Fw [] h (h++X):=fun X=> Fw.app [] h X
  have fin:=(hp.mono (fA _) (by simp)).vs hn hT f2 (by omega)
  obtain ⟨F',q1,q2,q3⟩:=fin
  have q2:=((fA _).mono (T:=F) (by simp)).trans q2
  have q3:∀j∈F',j∈F∨h.length≤j:=fun j hj=>(q3 j hj).imp id fun h=> by rw[List.length_append] at h;omega
  simp only[B33,y0,xc,cS,fi,hf3,wL,hpu,go_sem,↓reduceIte,Nat.reduceEqDiff,Nat.reduceBEq,Nat.reduceAdd,Nat.reduceSub,Nat.reduceLT,Nat.reduceLeDiff,Int.reduceLT,Int.reduceLE,Int.reduceEq,Int.reduceToNat]
  exact ⟨F',q1,q2,q3⟩
 ·rw[if_neg k1]
  obtain ⟨g1,g2,g3,g4,g5⟩:=hgk k1
  have h4:=pW hr
  have hrk:=q33z hr
  have xu:r.kind=3→rising r.ai=true:=fun k3=> by
    unfold aS at hr
    rw[k3] at hr
    simp at hr
    exact q32z hr.2
  obtain ⟨kind,aA,dy,aD,av,ai⟩:=r
  simp only at k1 g1 g2 g3 g4 h4 hrk xu ⊢
  obtain ⟨n,rfl⟩:∃n:Nat,aA=(n:Int):=⟨aA.toNat,by omega⟩
  have hn:n < 16:=by omega
  simp only[Int.toNat_natCast]
  have nD:aq.enc ⟨kind,n,dy,aD,av,ai⟩=V.st 41 [.s (.int .i64 kind),.s (.int .i64 n),.s (.int .i64 dy),.s (.int .u64 aD),av.enc,.al false (some 31) (ai.map ag.enc)]:=rfl
  rw[nD] at y0 ⊢
  have hpA:=hp.app [aW.cells (some 41) [V.st 41 [.s (.int .i64 kind),.s (.int .i64 n),.s (.int .i64 dy),.s (.int .u64 aD),av.enc,.al false (some 31) (ai.map ag.enc)]]]
  have fA:Fw [] h (h++[aW.cells (some 41) [V.st 41 [.s (.int .i64 kind),.s (.int .i64 n),.s (.int .i64 dy),.s (.int .u64 aD),av.enc,.al false (some 31) (ai.map ag.enc)]]]):=Fw.app [] h _
  have hid:(h++[aW.cells (some 41) [V.st 41 [.s (.int .i64 kind),.s (.int .i64 n),.s (.int .i64 dy),.s (.int .u64 aD),av.enc,.al false (some 31) (ai.map ag.enc)]]])[h.length]? =some (aW.cells (some 41) [V.st 41 [.s (.int .i64 kind),.s (.int .i64 n),.s (.int .i64 dy),.s (.int .u64 aD),av.enc,.al false (some 31) (ai.map ag.enc)]]):=aM _ _
  have hcA:=fun b=> y0 b [aW.cells (some 41) [V.st 41 [.s (.int .i64 kind),.s (.int .i64 n),.s (.int .i64 dy),.s (.int .u64 aD),av.enc,.al false (some 31) (ai.map ag.enc)]]]
  have hlA:(h++[aW.cells (some 41) [V.st 41 [.s (.int .i64 kind),.s (.int .i64 n),.s (.int .i64 dy),.s (.int .u64 aD),av.enc,.al false (some 31) (ai.map ag.enc)]]]).length=h.length+1:=by simp
  have re:=q6z hp.row
  have cE:rw≠h.length:=by omega
  clear y0 qw
  generalize hHA:h++[aW.cells (some 41) [V.st 41 [.s (.int .i64 kind),.s (.int .i64 n),.s (.int .i64 dy),.s (.int .u64 aD),av.enc,.al false (some 31) (ai.map ag.enc)]]]=HA at *
  have fi:=fun cf base=> hpA.sr.cY (cf:=cf) (base:=base) (k:= .i64) (i:=n) (by rw[bU];exact hn)
  have hep:jj (.ref rw [] (some 104) 0 16 16) n= .ptr rw [n] 16:=by simp[jj]
  simp only[hep] at fi
  have hPn:(fW s.p ts 16)[n]? =some (.st 104 [.s (.int .i64 (s.p n).role),.s (.int .u64 (s.p n).aD),.s (.int .i64 (s.p n).to),.ptr (ts n).1 [0] 1]):=dH _ _ _ _ hn
  have hPl:=bU s.p ts 16
  have hPs:∀x,((fW s.p ts 16).set n x)[n]? =some x:=fun x=> by rw[List.getElem?_set_self (by rw[hPl];exact hn)]
  have hgo:=hpA.o
  have vy:=hpA.row
  have lW:b≤rw:=hF _ hp.fr
  have aP:∀B,(HA.set rw B)[rw]? =some B:=fun B=> q9z vy
  have hsi:∀B,(HA.set rw B)[h.length]? =HA[h.length]? :=fun B=> by rw[List.getElem?_set_ne cE]
  have m6:∀es',Fw [rw,(ts n).1,(ts n).2] HA (HA.set rw (.cells (some 104) es')):=fun es'=> Fw.set (by simp) vy
  have hnr:(ts n).1≠rw∧(ts n).2≠rw:=by
    obtain ⟨o1,o2⟩:=hp.ot _ hn
    exact ⟨fun e=> by rw[e,hp.orr] at o1;omega,fun e=> by rw[e,hp.orr] at o2;omega⟩
  have fin:∀(q:kH) (t' k':Nat) (h':Hp),h'[rw]? =some (.cells (some 104) ((fW s.p ts 16).set n (ei q t')))→TR h' t' k' q.vs→Fw [rw,(ts n).1,(ts n).2] HA h'→(t'=(ts n).1∨HA.length≤t')→(k'=(ts n).2∨k'=(ts n).1∨HA.length≤k')→∃F',gY h' m (s.o8 n q) F'∧Fw F h h'∧∀j∈F',j∈F∨h.length≤j:=by
    intro q t' k' h' a1 a2 a3 a4 a5
    obtain ⟨F',q1,q2,q3⟩:=hpA.Vr hn a1 a2 a3 a4 a5
    exact ⟨F',q1,(fA.mono (by simp)).trans q2,fun j hj=>(q3 j hj).imp id fun h=> by omega⟩
  by_cases k2:kind=2
  ·subst k2
   rw[if_pos rfl]
   simp only[B33,hHA,hcA,c0,hgo,fi,hid,vy,hPn,hPs,hPl,aP,hsi,lW,List.set_set,go_sem,↓reduceIte,Nat.reduceEqDiff,Nat.reduceBEq,Nat.reduceAdd,Nat.reduceSub,Nat.reduceLT,Nat.reduceLeDiff,Int.reduceLT,Int.reduceLE,Int.reduceEq,Int.reduceToNat]
   exact fin ⟨2,aD,dy,(s.p n).vs⟩ (ts n).1 (ts n).2 _ (aP _) ((hpA.FF n hn).mono (S:=[rw]) (Fw.set (by simp) vy) (by simp[hnr]) (by simp[hnr])) (m6 _) (.inl rfl) (.inl rfl)
  ·rw[if_neg k2]
   by_cases k3:kind=3
   ·subst k3
    rw[if_pos rfl]
    have hTB:=fun es'=>(hpA.FF n hn).mono (S:=[rw]) (Fw.set (es':=es') (by simp) vy) (by simp[hnr]) (by simp[hnr])
    have mb:=xn b (HA.set rw (.cells (some 104) ((fW s.p ts 16).set n (ei ⟨1,aD,0,ai⟩ (ts n).1)))) (ts n).1 (ts n).2 (s.p n).vs ai (.al false (some 31) (ai.map ag.enc)) (hF _ (hp.ft _ hn).1) (hTB _) (.inl ⟨_,rfl⟩) (by omega)
    rw[xu rfl,if_pos rfl] at mb
    obtain ⟨H2,k',mb,hT,f2,lF⟩:=mb
    simp only[ei] at mb
    simp only[B33,hHA,hcA,c0,hgo,fi,hid,vy,hPn,hPs,hPl,aP,hsi,lW,List.set_set,mb,go_sem,↓reduceIte,Nat.reduceEqDiff,Nat.reduceBEq,Nat.reduceAdd,Nat.reduceSub,Nat.reduceLT,Nat.reduceLeDiff,Int.reduceLT,Int.reduceLE,Int.reduceEq,Int.reduceToNat]
    have ck:=f2.dO _ _ (aP _) (by simp[Ne.symm hnr.1])
    exact fin ⟨1,aD,0,ai⟩ (ts n).1 k' _ ck hT ((m6 _).trans (f2.mono (by simp))) (.inl rfl) (by simpa using lF)
   ·rw[if_neg k3]
    have hnw:=rq b (HA.set rw (.cells (some 104) ((fW s.p ts 16).set n (.st 104 [.s (.int .i64 (s.p n).role),.s (.int .u64 aD),.s (.int .i64 (s.p n).to),.ptr (ts n).1 [0] 1]))))
    have ny:∀B X,(HA.set rw B++X)[rw]? =some B:=fun B X=> q10z (aP B) X
    have Yb:∀B B' X,(HA.set rw B++X).set rw B'=HA.set rw B'++X:=fun B B' X=> by rw[m8 (by rw[List.length_set];exact q6z vy),List.set_set]
    have Yc:∀B X,(HA.set rw B++X)[h.length]? =HA[h.length]? :=fun B X=> by rw[List.getElem?_append_left (by rw[List.length_set];omega)];exact hsi B
    simp only[B33,hHA,hcA,c0,hgo,fi,hid,vy,hPn,hPs,hPl,aP,hsi,lW,List.set_set,hnw,k1,k2,k3,ny,Yb,Yc,go_sem,↓reduceIte,Nat.reduceEqDiff,Nat.reduceBEq,Nat.reduceAdd,Nat.reduceSub,Nat.reduceLT,Nat.reduceLeDiff,Int.reduceLT,Int.reduceLE,Int.reduceEq,Int.reduceToNat]
    exact fin ⟨0,aD,0,[]⟩ HA.length HA.length _ (ny _ _) ⟨_,by rw[List.getElem?_append_right (by simp)];simp,.inl ⟨rfl,rfl,rfl⟩⟩ ((m6 _).trans (Fw.app _ _ _)) (.inr (Nat.le_refl _)) (.inr (.inr (Nat.le_refl _)))
theorem K0 {l:List ag} {id:Bs} {v:ag} (h:oo l id=some v):v.iD=id∧v∈l:=by
 unfold oo at h
 split at h
 ·rename_i hc
  rw[h] at hc
  exact ⟨by simpa using hc,List.mem_of_getElem? h⟩
 ·cases h
theorem z9 {l:List ag} {v:ag} (hr:gQ l) (hv:aQ v=true) (hc:oo l v.iD=none→l.length < 4):(o7 l v).2=jr l v:=by
 refine xo hr ?_
 unfold o7
 rw[if_neg (by simp[hv])]
 by_cases c:(l[pos l v.iD]?).map ag.iD=some v.iD
 ·rw[if_pos c]
 ·rw[if_neg c,if_neg ?_]
  have:oo l v.iD=none:=by unfold oo;rw[if_neg c]
  have:=hc this
  omega
theorem oq {l:List ag} (v w:ag):w∈jr l v↔w=v∨w∈l∧w.iD≠v.iD:=by
 simp only[jr,List.mem_append,List.mem_filter,List.mem_singleton,decide_eq_true_eq]
 constructor
 ·rintro ((⟨h1,h2⟩ | h) | ⟨h1,h2⟩)
  ·exact .inr ⟨h1,fun e=> by rw[e,j5] at h2;omega⟩
  ·exact .inl h
  ·exact .inr ⟨h1,fun e=> by rw[e,j5] at h2;omega⟩
 ·rintro (h | ⟨h1,h2⟩)
  ·exact .inl (.inr h)
  ·by_cases h3:cQ w.iD v.iD < 0
   ·exact .inl (.inl ⟨h1,h3⟩)
   ·refine .inr ⟨h1,?_⟩
    have:cQ w.iD v.iD≠0:=fun e=> h2 (mj _ _ e)
    omega
theorem Aa {l:List ag} (hr:gQ l):(l.map ag.iD).Nodup:=by
 rw[List.nodup_iff_pairwise_ne,List.pairwise_map]
 exact hr.imp fun {a b} h e=> by rw[e,j5] at h;omega
theorem Hu {l m:List Bs}:l.Nodup→(∀x∈l,x∈m)→l.length≤m.length:=by
 induction l generalizing m with
 | nil=> intro _ _;exact Nat.zero_le _
 | cons a l ih=>
   intro hn hs
   obtain ⟨h1,h2⟩:=List.nodup_cons.1 hn
   have ha:=hs a (by simp)
   have:=ih (m:=m.erase a) h2 fun x hx=> by
     have cE:x≠a:=fun e=> h1 (e ▸ hx)
     exact (List.mem_erase_of_ne cE).2 (hs x (by simp[hx]))
   rw[List.length_erase_of_mem ha] at this
   have:=List.length_pos_of_mem ha
   simp only[List.length_cons];omega
theorem Ab {l:List ag} (hr:gQ l) (v:ag) (hc:oo l v.iD=none→l.length < 4) (h4:l.length≤4):(jr l v).length≤4:=by
 have hn:=Aa (sa hr v)
 by_cases hg:oo l v.iD=none
 ·have h1:=hc hg
  have:=Hu (m:=v.iD::l.map ag.iD) hn fun x hx=> by
    obtain ⟨w,hw,rfl⟩:=List.mem_map.1 hx
    rcases (oq v w).1 hw with rfl | ⟨h,_⟩
    ·simp
    ·simp only[List.mem_cons,List.mem_map];exact .inr ⟨w,h,rfl⟩
  simp at this;omega
 ·obtain ⟨w,hw⟩:=Option.ne_none_iff_exists'.1 hg
  obtain ⟨lV,vw⟩:=K0 hw
  have:=Hu (m:=l.map ag.iD) hn fun x hx=> by
    obtain ⟨u,hu,rfl⟩:=List.mem_map.1 hx
    rcases (oq v u).1 hu with rfl | ⟨h,_⟩
    ·rw[←lV];exact List.mem_map.2 ⟨w,vw,rfl⟩
    ·exact List.mem_map.2 ⟨u,h,rfl⟩
  simp at this;omega
theorem xv (s:bh) (n:Nat) (q:kH):(s.o8 n q).p n=q:=by simp[bh.o8]
theorem Ac (s:bh) (n j:Nat) (q:kH) (h:j≠n):(s.o8 n q).p j=s.p j:=by simp[bh.o8,h]
theorem j6.o8 {s:bh} (hk:j6 s) {n:Nat} {q:kH} (hq:n < 16→POk s n q):j6 (s.o8 n q):=
 ⟨hk.m1,hk.m2,hk.m3,hk.m4,fun i hi=> by
   by_cases h:i=n
   ·subst h
    rw[xv]
    obtain ⟨a1,a2,a3,a4,a5,a6,a7,a8,a9⟩:=hq hi
    exact ⟨a1,a2,a3,a4,a5,a6,a7,a8,a9⟩
   ·rw[Ac _ _ _ _ h]
    obtain ⟨a1,a2,a3,a4,a5,a6,a7,a8,a9⟩:=hk.p i hi
    exact ⟨a1,a2,a3,a4,a5,a6,a7,a8,a9⟩⟩
theorem vF {s:bh} {r:aq} (h:bK s r=0):aS r=true:=by
 unfold bK at h
 split at h
 ·cases h
 ·simpa using ‹¬aS r=false›
theorem Nf {s:bh} (hk:j6 s) {v:ag} (h:ml s v=0):oo (s.p (aI v.iD)).vs v.iD=none→(s.p (aI v.iD)).vs.length < 4:=by
 intro hn
 unfold ml at h
 split at h
 ·cases h
 ·split at h
  ·cases h
  ·rw[hn] at h
   simp at h
   exact h
theorem mn {s:bh} (hk:j6 s) {r:aq} (hw:r.wf) (hv:∀v∈r.ai,v.wf):j6 (bE s r).2:=by
 unfold bE
 by_cases c0:bK s r=0
 case neg=> rw[if_pos c0];exact hk
 rw[if_neg (by simp[c0])]
 have hr:=vF c0
 have c1:=c0
 unfold bK at c1
 rw[if_neg (by simp[hr])] at c1
 by_cases k1:r.kind=1
 ·rw[if_pos k1]
  rw[if_pos k1] at c1
  have jF:aQ r.av=true:=by unfold aS at hr;rw[if_pos k1] at hr;simp at hr;simp[hr]
  refine hk.o8 fun hi=> ?_
  have ok:=hk.p _ hi
  have ou:=Nf hk c1
  have Vs:(s.p (aI r.av.iD)).role≠0:=by
    intro e;unfold ml at c1;rw[if_pos e] at c1;cases c1
  have hpt:=z9 ok.Ps jF ou
  obtain ⟨a1,a2,a3,a4,a5,a6,a7,a8,a9⟩:=ok
  refine ⟨a1,a2,a3,a4,a5,fun h=> absurd h Vs,?_,?_,?_⟩
  ·show gQ (o7 _ _).2
   rw[hpt];exact sa a7 _
  ·show (o7 _ _).2.length≤4
   rw[hpt];exact Ab a7 _ ou a8
  ·show ∀v∈(o7 _ _).2,_
   rw[hpt]
   intro v hv
   rcases (oq r.av v).1 hv with rfl | ⟨h,_⟩
   ·exact ⟨jF,hw.av,rfl⟩
   ·exact a9 v h
 ·rw[if_neg k1]
  rw[if_neg k1] at c1
  obtain ⟨g1,g2,g3,g4,g5⟩:=nb hr k1
  by_cases k2:r.kind=2
  ·rw[if_pos k2]
   rw[if_pos k2] at c1
   refine hk.o8 fun hi=> ?_
   have ok:=hk.p _ hi
   have hto:0≤r.dy:=by unfold aS at hr;rw[if_neg k1,if_pos k2] at hr;simp at hr;omega
   obtain ⟨a1,a2,a3,a4,a5,a6,a7,a8,a9⟩:=ok
   unfold xp at c1
   split at c1
   ·cases c1
   ·split at c1
    ·cases c1
    ·refine ⟨by simp,g3,g4,fun _=> by simp only;omega,fun h=> absurd rfl h,(fun h=> by cases h),a7,a8,a9⟩
  ·rw[if_neg k2]
   rw[if_neg k2] at c1
   by_cases k3:r.kind=3
   ·rw[if_pos k3]
    rw[if_pos k3] at c1
    refine hk.o8 fun hi=> ?_
    have xu:rising r.ai=true:=by
      unfold aS at hr
      rw[k3] at hr
      simp at hr
      exact q32z hr.2
    unfold rising at xu
    simp only[Bool.and_eq_true,decide_eq_true_eq,List.all_eq_true] at xu
    unfold vE at c1
    split at c1
    ·cases c1
    ·rename_i Vt
     simp only[List.any_eq_true,decide_eq_true_eq,not_exists,not_and,Decidable.not_not] at Vt
     refine ⟨by simp,g3,g4,(fun h=> by cases h),fun _=> rfl,(fun h=> by cases h),xu.2,xu.1.1,fun v hm=>⟨xu.1.2 v hm,hv v hm,?_⟩⟩
     have:=Vt v hm
     omega
   ·rw[if_neg k3]
    refine hk.o8 fun hi=> ?_
    exact ⟨by simp,g3,g4,(fun h=> by cases h),fun _=> rfl,fun _=> rfl,List.Pairwise.nil,by simp,by simp⟩
def mo (s:bh) (n:Nat) (q:kH):Bool:=
 if q.role < 0∨2 < q.role∨q.aD < 1∨1099511627776 < q.aD then false
 else if q.role=2∧(q.to < 0∨s.bb≤q.to∨q.to=s.mem)∨q.role≠2∧q.to≠0 then false
 else if q.role=0∧0 < q.vs.length then false
 else !(q.vs.any fun v=> decide ((aI v.iD:Int)≠(n:Nat)))
theorem Di (b:Nat) (h:Hp) (n:Nat) (v:ag) (id:Nat) (hl:v.iD.length≤1000000) (hg:h[id]? =some (.cells none [.s (.int .i64 (n:Nat))])):
 run fns pr b 106 [v.enc,.ptr id [0] 1] h=some (.s (.bool (decide ((aI v.iD:Int)≠(n:Nat)))),h):=by
 refine Vm.aT (nt:=9) rfl NU (by simp) ?_
 obtain ⟨a1,a2,a3,a4,a5,a6,a7,a8,a9⟩:=v
 simp only at hl ⊢
 have xc:=fun b h0=> kR b h0 a1 hl
 have cS:=fun X=> q10z hg X
 generalize aI a1=S at *
 simp only[NS,ag.enc,xc,cS,List.take_left,go_sem,↓reduceIte,Nat.reduceEqDiff,Nat.reduceBEq,Nat.reduceAdd,Nat.reduceSub,Nat.reduceLT,Nat.reduceLeDiff,Int.reduceLT,Int.reduceLE,Int.reduceEq,Int.reduceToNat]
 all_goals simp[bne,Bool.beq_eq_decide_eq]
theorem Ad (b:Nat) (h:Hp) (m n:Nat) (s:bh) (F:List Nat) (q:kH) (hs:gY h m s F) (hn:n < 16) (hl:q.vs.length≤1000) (hv:∀v∈q.vs,v.wf):
 run fns pr b 81 [.ptr m [0] 1,.s (.int .i64 (n:Nat)),.s (.int .i64 q.role),.s (.int .u64 q.aD),.s (.int .i64 q.to),.al false (some 31) (q.vs.map ag.enc)] h=some (.s (.bool (mo s n q)),h):=by
 obtain ⟨r,ts,own,hp⟩:=hs
 obtain ⟨role,aD,to,vs⟩:=q
 simp only at hl hv ⊢
 refine Vm.aT (nt:=74) rfl Ub (by simp) ?_
 have hr:=fun b h0=> m9 b h0 n
 have q1:(0:Int)≤(n:Int):=by omega
 have q2:(n:Int)< 16:=by omega
 have hc:=fun b H (hg:H[h.length]? =_)=> o9 b H (.al false (some 31) (vs.map ag.enc)) vs 106 [.ptr h.length [0] 1] (fun v=> decide ((aI v.iD:Int)≠(n:Nat))) (.inl ⟨_,rfl⟩) (by omega)
   (fun b v hm=> Di b H n v h.length (by have:=(hv v hm).iD;omega) hg)
 have hc2:=fun b=> hc b (h++[aW.cells none [.s (.int .i64 (n:Nat))]]) (aM _ _)
 have cS:=fun X=>(hp.app X).o
 have il:∀cf base H,aB cf base H .len [.al false (some 31) (vs.map ag.enc)]=some (.s (.int .i64 (vs.length:Nat)),H):=fun cf base H=> by rw[oi];simp
 unfold mo
 simp only
 by_cases c1:role < 0
 ·rw[if_pos (.inl c1)]
  simp only[Bq,hr,q1,q2,c1,List.take_left,go_sem,↓reduceIte,Nat.reduceEqDiff,Nat.reduceBEq,Nat.reduceAdd,Nat.reduceSub,Nat.reduceLT,Nat.reduceLeDiff,Int.reduceLT,Int.reduceLE,Int.reduceEq,Int.reduceToNat]
  all_goals rfl
 by_cases c2:2 < role
 ·rw[if_pos (.inr (.inl c2))]
  simp only[Bq,hr,q1,q2,c1,c2,List.take_left,go_sem,↓reduceIte,Nat.reduceEqDiff,Nat.reduceBEq,Nat.reduceAdd,Nat.reduceSub,Nat.reduceLT,Nat.reduceLeDiff,Int.reduceLT,Int.reduceLE,Int.reduceEq,Int.reduceToNat]
  all_goals rfl
 by_cases c3:aD < 1
 ·rw[if_pos (.inr (.inr (.inl c3)))]
  simp only[Bq,hr,q1,q2,c1,c2,c3,List.take_left,go_sem,↓reduceIte,Nat.reduceEqDiff,Nat.reduceBEq,Nat.reduceAdd,Nat.reduceSub,Nat.reduceLT,Nat.reduceLeDiff,Int.reduceLT,Int.reduceLE,Int.reduceEq,Int.reduceToNat]
  all_goals rfl
 by_cases c4:1099511627776 < aD
 ·rw[if_pos (.inr (.inr (.inr c4)))]
  simp only[Bq,hr,q1,q2,c1,c2,c3,c4,List.take_left,go_sem,↓reduceIte,Nat.reduceEqDiff,Nat.reduceBEq,Nat.reduceAdd,Nat.reduceSub,Nat.reduceLT,Nat.reduceLeDiff,Int.reduceLT,Int.reduceLE,Int.reduceEq,Int.reduceToNat]
  all_goals rfl
 rw[if_neg (by omega)]
 generalize (vs.any fun v=> decide ((aI v.iD:Int)≠(n:Nat)))=an at *
 by_cases k2:role=2
 ·subst k2
  have k0:¬(2:Int)=0:=by decide
  by_cases t1:to < 0
  ·rw[if_pos (.inl ⟨rfl,.inl t1⟩)]
   simp only[Bq,hr,q1,q2,c3,c4,t1,List.take_left,go_sem,↓reduceIte,Nat.reduceEqDiff,Nat.reduceBEq,Nat.reduceAdd,Nat.reduceSub,Nat.reduceLT,Nat.reduceLeDiff,Int.reduceLT,Int.reduceLE,Int.reduceEq,Int.reduceToNat]
   all_goals rfl
  by_cases t2:s.bb≤to
  ·rw[if_pos (.inl ⟨rfl,.inr (.inl t2)⟩)]
   simp only[Bq,hr,q1,q2,c3,c4,t1,t2,cS,List.take_left,go_sem,↓reduceIte,Nat.reduceEqDiff,Nat.reduceBEq,Nat.reduceAdd,Nat.reduceSub,Nat.reduceLT,Nat.reduceLeDiff,Int.reduceLT,Int.reduceLE,Int.reduceEq,Int.reduceToNat]
   all_goals rfl
  by_cases t3:to=s.mem
  ·rw[if_pos (.inl ⟨rfl,.inr (.inr t3)⟩)]
   have t1':¬s.mem < 0:=by rw[←t3];exact t1
   have t2':¬s.bb≤s.mem:=by rw[←t3];exact t2
   simp only[Bq,hr,q1,q2,c3,c4,t1,t2,t1',t2',t3,cS,List.take_left,go_sem,↓reduceIte,Nat.reduceEqDiff,Nat.reduceBEq,Nat.reduceAdd,Nat.reduceSub,Nat.reduceLT,Nat.reduceLeDiff,Int.reduceLT,Int.reduceLE,Int.reduceEq,Int.reduceToNat]
   all_goals rfl
  rw[if_neg (by omega),if_neg (by omega)]
  simp only[Bq,hr,q1,q2,c3,c4,t1,t2,t3,cS,hc2,List.take_left,go_sem,↓reduceIte,Nat.reduceEqDiff,Nat.reduceBEq,Nat.reduceAdd,Nat.reduceSub,Nat.reduceLT,Nat.reduceLeDiff,Int.reduceLT,Int.reduceLE,Int.reduceEq,Int.reduceToNat]
  all_goals rfl
 ·by_cases t0:to=0
  ·rw[if_neg (by omega)]
   subst t0
   by_cases k0:role=0
   ·subst k0
    by_cases l0:0 < vs.length
    ·have l0':(0:Int)<((vs.length:Nat):Int):=by omega
     rw[if_pos ⟨rfl,l0⟩]
     simp only[Bq,hr,q1,q2,c3,c4,il,l0',List.take_left,go_sem,↓reduceIte,Nat.reduceEqDiff,Nat.reduceBEq,Nat.reduceAdd,Nat.reduceSub,Nat.reduceLT,Nat.reduceLeDiff,Int.reduceLT,Int.reduceLE,Int.reduceEq,Int.reduceToNat]
     all_goals rfl
    ·have l0':¬(0:Int)<((vs.length:Nat):Int):=by omega
     rw[if_neg (by omega)]
     simp only[Bq,hr,q1,q2,c3,c4,il,l0',hc2,List.take_left,go_sem,↓reduceIte,Nat.reduceEqDiff,Nat.reduceBEq,Nat.reduceAdd,Nat.reduceSub,Nat.reduceLT,Nat.reduceLeDiff,Int.reduceLT,Int.reduceLE,Int.reduceEq,Int.reduceToNat]
     all_goals rfl
   ·rw[if_neg (by omega)]
    simp only[Bq,hr,q1,q2,c1,c2,c3,c4,k2,k0,hc2,List.take_left,go_sem,↓reduceIte,Nat.reduceEqDiff,Nat.reduceBEq,Nat.reduceAdd,Nat.reduceSub,Nat.reduceLT,Nat.reduceLeDiff,Int.reduceLT,Int.reduceLE,Int.reduceEq,Int.reduceToNat]
    all_goals rfl
  ·rw[if_pos (.inr ⟨k2,t0⟩)]
   simp only[Bq,hr,q1,q2,c1,c2,c3,c4,k2,t0,List.take_left,go_sem,↓reduceIte,Nat.reduceEqDiff,Nat.reduceBEq,Nat.reduceAdd,Nat.reduceSub,Nat.reduceLT,Nat.reduceLeDiff,Int.reduceLT,Int.reduceLE,Int.reduceEq,Int.reduceToNat]
   all_goals rfl
def nE (s:bh) (n:Nat) (q:kH):Int×bh:=if mo s n q=true∧rising q.vs=true then (0,s.o8 n q) else (1,s)
theorem Hv (b:Nat) (h:Hp) (m n:Nat) (s:bh) (F:List Nat) (q:kH) (hF:∀j∈F,b≤j) (hs:gY h m s F) (hn:n < 16) (hl:q.vs.length≤1000) (hv:∀v∈q.vs,v.wf):
 ∃v h',run fns pr b 50 [.ptr m [0] 1,.s (.int .i64 (n:Nat)),.s (.int .i64 q.role),.s (.int .u64 q.aD),.s (.int .i64 q.to),.al false (some 31) (q.vs.map ag.enc)] h=some (v,h')∧v= .s (.int .i64 (nE s n q).1)∧∃F',gY h' m (nE s n q).2 F'∧Fw F h h'∧∀j∈F',j∈F∨h.length≤j:=by
 have qw:=hs
 have hbh:b≤h.length:=by have:=hF m hs.mem;have:=hs.lt m hs.mem;omega
 have wK:=fun b X=> Ad b (h++X) m n s F q (hs.app X) hn hl hv
 obtain ⟨r,ts,own,hp⟩:=hs
 refine Vm.dZ (nt:=40) rfl S7 (by simp) ?_
 have hnw:=rq b h
 have fA:Fw [] h (h++[aW.cells (some 146) [.st 146 [.al true (some 31) []]]]):=Fw.app [] h _
 have hT:TR (h++[aW.cells (some 146) [.st 146 [.al true (some 31) []]]]) h.length h.length []:=⟨_,aM _ _,.inl ⟨rfl,rfl,rfl⟩⟩
 unfold nE
 cases c1:mo s n q with
 | false=>
   rw[if_neg (by simp)]
   simp only[B50,hnw,wK,c1,go_sem,↓reduceIte,Nat.reduceEqDiff,Nat.reduceBEq,Nat.reduceAdd,Nat.reduceSub,Nat.reduceLT,Nat.reduceLeDiff,Int.reduceLT,Int.reduceLE,Int.reduceEq,Int.reduceToNat]
   exact ⟨F,qw.mono fA (by simp),fA.mono (by simp),fun j hj=> .inl hj⟩
 | true=>
   obtain ⟨H2,k',mb,hT2,f2,lF⟩:=xn b _ h.length h.length [] q.vs (.al false (some 31) (q.vs.map ag.enc)) hbh hT (.inl ⟨_,rfl⟩) hl
   have f02:Fw [] h H2:=fA.new f2 (fun j hj=> by simp at hj;subst hj;exact .inl (Nat.le_refl _))
   cases c2:rising q.vs with
   | false=>
     rw[if_neg (by simp)]
     rw[c2,if_neg (by simp)] at mb
     simp only[B50,hnw,wK,c1,mb,go_sem,↓reduceIte,Nat.reduceEqDiff,Nat.reduceBEq,Nat.reduceAdd,Nat.reduceSub,Nat.reduceLT,Nat.reduceLeDiff,Int.reduceLT,Int.reduceLE,Int.reduceEq,Int.reduceToNat]
     exact ⟨F,qw.mono f02 (by simp),f02.mono (by simp),fun j hj=> .inl hj⟩
   | true=>
     rw[if_pos ⟨rfl,rfl⟩]
     rw[c2,if_pos rfl] at mb hT2
     have hpA:=hp.mono f02 (by simp)
     have fi:=fun cf base=> hpA.sr.cY (cf:=cf) (base:=base) (k:= .i64) (i:=n) (by rw[bU];exact hn)
     have hep:jj (.ref r [] (some 104) 0 16 16) n= .ptr r [n] 16:=by simp[jj]
     simp only[hep] at fi
     have hPn:(fW s.p ts 16)[n]? =some (.st 104 [.s (.int .i64 (s.p n).role),.s (.int .u64 (s.p n).aD),.s (.int .i64 (s.p n).to),.ptr (ts n).1 [0] 1]):=dH _ _ _ _ hn
     have hPl:=bU s.p ts 16
     have hgo:=hpA.o
     have vy:=hpA.row
     have lW:b≤r:=hF _ hp.fr
     have bW:=q6z vy
     simp only[B50,hnw,wK,c1,mb,hgo,fi,vy,hPn,hPl,lW,bW,hn,go_sem,↓reduceIte,Nat.reduceEqDiff,Nat.reduceBEq,Nat.reduceAdd,Nat.reduceSub,Nat.reduceLT,Nat.reduceLeDiff,Int.reduceLT,Int.reduceLE,Int.reduceEq,Int.reduceToNat]
     have re:=q6z hp.row
     have zT:h.length≤k':=by rcases lF with h1 | h1 | h1 <;> first | omega | (rw[List.length_append] at h1;omega)
     have fs:Fw [r] H2 (H2.set r (.cells (some 104) ((fW s.p ts 16).set n (ei q h.length)))):=Fw.set (by simp) vy
     exact hp.Vr (q:=q) (t':=h.length) (k':=k') hn (q9z vy) (hT2.mono fs (by simp;omega) (by simp;omega)) ((f02.mono (by simp)).trans (fs.mono (by simp))) (.inr (Nat.le_refl _)) (.inr (.inr zT))
theorem gY.congr {h:Hp} {m:Nat} {s s':bh} {F:List Nat} (hs:gY h m s F) (h1:s'.mem=s.mem) (h2:s'.bb=s.bb) (h3:∀i,i < 16→s'.p i=s.p i):gY h m s' F:=by
 obtain ⟨r,ts,own,o,row,FF,om,orr,ot,fm,fr,ft,fl⟩:=hs
 refine ⟨r,ts,own,by rw[h1,h2];exact o,?_,fun i hi=> by rw[h3 i hi];exact FF i hi,om,orr,ot,fm,fr,ft,fl⟩
 rw[row,sb (p:=s'.p) (p':=s.p) (ts:=ts) (ts':=ts) fun i hi=>⟨h3 i hi,rfl⟩]
theorem POk.right {s t:bh} {n:Nat} {q:kH} (hk:POk s n q) (h1:t.mem=s.mem) (h2:t.bb=s.bb):mo t n q=true∧rising q.vs=true:=by
 obtain ⟨a1,a2,a3,a4,a5,a6,a7,a8,a9⟩:=hk
 constructor
 ·unfold mo
  rw[h1,h2,if_neg (by omega),if_neg,if_neg]
  ·simp only[Bool.not_eq_true',List.any_eq_false,decide_eq_true_eq,Decidable.not_not]
   intro v hv
   rw[(a9 v hv).2.2]
  ·rintro ⟨c1,c2⟩
   rw[a6 c1] at c2
   simp at c2
  ·rintro (⟨c1,c2⟩ | ⟨c1,c2⟩)
   ·have:=a4 c1;omega
   ·exact c2 (a5 c1)
 ·unfold rising
  simp only[Bool.and_eq_true,decide_eq_true_eq,List.all_eq_true]
  exact ⟨⟨a8,fun v hv=>(a9 v hv).1⟩,a7⟩
def jH (s t:bh) (n:Nat):bh:= {s with p:=fun j=> if j < n then s.p j else t.p j}
theorem Hw (b:Nat) (h:Hp) (m:Nat) (s:bh) (F:List Nat) (hb:b≤h.length) (hs:gY h m s F) (hk:j6 s):
 ∃v h',run fns pr b 24 [.ptr m [0] 1] h=some (v,h')∧∃F',v= .ptr h.length [0] 1∧gY h' h.length s F'∧Fw [] h h'∧∀j∈F',h.length≤j:=by
 refine Vm.dZ (nt:=39) rfl Sc (by simp) ?_
 obtain ⟨v1,H1,e1,F1,rfl,s1,f1,n1⟩:=rr b h s.mem s.bb hb hk.m1 hk.m2 hk.m3 hk.m4
 have tG:=hs.mono f1 (by simp)
 have qw:=hs
 obtain ⟨r,ts,own,hp⟩:=hs
 have Hx:=hp.mono f1 (by simp)
 have hg:=hp.o
 have cI:=Hx.o
 have il:∀cf base H,aB cf base H .len [.ref r [] (some 104) 0 16 16]=some (.s (.int .i64 (16:Nat)),H):=fun cf base H=> by rw[SR.cF hp.sr,bU]
 have s1:gY H1 h.length (jH s (bh.new s.mem s.bb) 0) F1:=s1.congr rfl rfl fun i hi=> by simp[jH]
 simp only[B24,MV,MU,hg,e1,cI,il,go_sem,↓reduceIte,Nat.reduceEqDiff,Nat.reduceBEq,Nat.reduceAdd,Nat.reduceSub,Nat.reduceLT,Nat.reduceLeDiff,Int.reduceLT,Int.reduceLE,Int.reduceEq,Int.reduceToNat]
 refine bj (fun q e H=>∃(i:Nat) (F':List Nat),q=16 - i∧i≤16∧e 20= .s (.int .i64 (i:Nat))∧e 19= .s (.int .i64 (16:Nat))∧e 18= .ref r [] (some 104) 0 16 16∧e 3= .ptr h.length [0] 1∧gY H h.length (jH s (bh.new s.mem s.bb) i) F'∧Fw [] h H∧∀j∈F',h.length≤j)
   (fun e H=>∃(F':List Nat),e 3= .ptr h.length [0] 1∧gY H h.length s F'∧Fw [] h H∧∀j∈F',h.length≤j) 16 _ _ ⟨0,F1,rfl,by omega,rfl,rfl,rfl,rfl,s1,f1,n1⟩ ?_ ?_
 ·rintro q e H ⟨i,F',rfl,hi,e20,e19,e18,e3,hm,fw,hn⟩
  by_cases c:i < 16
  ·have c':(i:Int)<((16:Nat):Int):=by omega
   have iA:IntKind.i64.wrap ((i:Int)+1)=((i+1:Nat):Int):=q18z (by omega)
   have ok:=hk.p i c
   have hpH:=hp.mono fw (by simp)
   have fi:=fun cf base=> hpH.sr.cY (cf:=cf) (base:=base) (k:= .i64) (i:=i) (by rw[bU];exact c)
   have gh:=fun cf base=> hpH.sr.g8 (cf:=cf) (base:=base) (dH _ _ _ _ c) rfl
   have hbH:b≤H.length:=Nat.le_trans hb fw.len
   have fP:Fw [] H (H++[aW.cells (some 104) [ei (s.p i) (ts i).1]]):=Fw.app [] H _
   have FG:=fun b=> BP b (H++[aW.cells (some 104) [ei (s.p i) (ts i).1]]) (ts i).1 (ts i).2 (s.p i).vs ((hpH.mono fP (by simp)).FF i c) (by have:=ok.len;omega) (fun v hv=> q14z (ok.vs v hv).1)
   obtain ⟨v2,H2,e2,rfl,F2,qx,f2,hn2⟩:=Hv b _ h.length i _ F' (s.p i) (fun j hj=> Nat.le_trans hb (hn j hj)) (hm.mono fP (by simp)) c (by have:=ok.len;omega) (fun v hv=>(ok.vs v hv).2.1)
   have aP:nE (jH s (bh.new s.mem s.bb) i) i (s.p i)=(0,(jH s (bh.new s.mem s.bb) i).o8 i (s.p i)):=by
     unfold nE;rw[if_pos (ok.right (t:=jH s (bh.new s.mem s.bb) i) rfl rfl)]
   rw[aP] at e2 qx
   have pa:∀x,(decide (b≤H.length) || x)=true:=fun x=> by rw[decide_eq_true hbH];rfl
   have hgp:(H++[aW.cells (some 104) [ei (s.p i) (ts i).1]])[H.length]? =some (aW.cells (some 104) [ei (s.p i) (ts i).1]):=aM _ _
   have f02:Fw [] h H2:=(fw.trans fP).new f2 (fun j hj=> .inl (hn j hj))
   have Hy:gY H2 h.length (jH s (bh.new s.mem s.bb) (i+1)) F2:=qx.congr rfl rfl fun j hj=> by
     simp only[jH,bh.o8]
     by_cases tF:j=i
     ·subst tF;simp
     ·simp only[tF,if_false]
      by_cases h1:j < i
      ·simp[h1,show j < i+1 by omega]
      ·simp[h1,show ¬j < i+1 by omega]
   have Hz:∀j∈F2,h.length≤j:=fun j hj=>(hn2 j hj).elim (hn j) fun h1=> by have:=fw.len;have:=fP.len;omega
   simp only[e20,e19,e18,e3,c',iA,fi,gh,pa,pU,pV,go_sem,↓reduceIte,Nat.reduceEqDiff,Nat.reduceBEq,Nat.reduceAdd,Nat.reduceSub,Nat.reduceLT,Nat.reduceLeDiff,Int.reduceLT,Int.reduceLE,Int.reduceEq,Int.reduceToNat]
   simp only[ei] at FG e2 hgp
   simp only[ei,FG,e2,hgp,iA,e20,e19,e18,e3,go_sem,↓reduceIte,Nat.reduceEqDiff,Nat.reduceBEq,Nat.reduceAdd,Nat.reduceSub,Nat.reduceLT,Nat.reduceLeDiff,Int.reduceLT,Int.reduceLE,Int.reduceEq,Int.reduceToNat]
   exact ⟨16 - (i+1),by omega,i+1,F2,rfl,by omega,rfl,Hy,f02,Hz⟩
  ·have c':¬(i:Int)<((16:Nat):Int):=by omega
   obtain rfl:i=16:=by omega
   have qx:gY H h.length s F':=hm.congr rfl rfl fun j hj=> by simp[jH,hj]
   simp only[e20,e19,e18,e3,c',go_sem,↓reduceIte,Nat.reduceEqDiff,Nat.reduceBEq,Nat.reduceAdd,Nat.reduceSub,Nat.reduceLT,Nat.reduceLeDiff,Int.reduceLT,Int.reduceLE,Int.reduceEq,Int.reduceToNat]
   exact ⟨F',qx,fw,hn⟩
 ·rintro e H ⟨F',e3,hm,fw,hn⟩
  simp only[e3,go_sem,↓reduceIte,Nat.reduceEqDiff,Nat.reduceBEq,Nat.reduceAdd,Nat.reduceSub,Nat.reduceLT,Nat.reduceLeDiff,Int.reduceLT,Int.reduceLE,Int.reduceEq,Int.reduceToNat]
  exact ⟨F',hm,fw,hn⟩
def gS :ae:=⟨0,0,0,bO,0⟩
def bc (r:ae):Bool:=decide (r.bq≤1099511627776)&& decide (r.count≤1099511627776)&& decide (r.base≤r.count)&& decide (r.count - r.base≤8)&&(decide (r.aF=0) || decide (r.aF=1))&&(decide (0 < r.count) || decide (r.head=bO))
def vG (a r:ae):ae×Bool:=if bc a=true∧bc r=true then (r,true) else (gS,false)
def ej (r:ae) (hd:Bs):ae×Bool:=vG r ⟨r.bq,r.count+1,r.base,hd,r.aF⟩
def cq (r:ae):ae×Bool:=vG r ⟨r.bq+1,r.count,r.base,r.head,r.aF⟩
def gT (r:ae) (hd:Bs):ae×Bool:=if r.count≤r.base then (gS,false) else vG r ⟨r.bq,r.count,r.count,hd,1 - r.aF⟩
def aV (r:ae):Int:=if bc r=true then r.count - r.base else 0
theorem ae.cG (r:ae):r.enc.ty=some 53:=rfl
theorem ae.cH (r:ae):r.enc.ax=true:=rfl
theorem ae.pX (n:Nat) (h:Hp) (r:ae):bB n h r.enc=some r.enc:=by simp only[ae.enc,go_sem]
theorem pb (b:Nat) (h:Hp) (r:ae) (hw:r.wf):run fns pr b 67 [r.enc] h=some (.s (.bool (bc r)),h):=by
 refine Vm.aT (nt:=47) rfl TH (by simp) ?_
 obtain ⟨bq,count,base,head,aF⟩:=r
 obtain ⟨w1,w2,w3,w4,w5⟩:=hw
 simp only at w1 w2 w3 w4 w5
 unfold bc
 simp only
 by_cases c1:bq≤1099511627776
 case neg=>
   simp only[CN,ae.enc,c1,List.take_left,go_sem,↓reduceIte,Nat.reduceEqDiff,Nat.reduceBEq,Nat.reduceAdd,Nat.reduceSub,Nat.reduceLT,Nat.reduceLeDiff,Int.reduceLT,Int.reduceLE,Int.reduceEq,Int.reduceToNat]
 by_cases c2:count≤1099511627776
 case neg=>
   simp only[CN,ae.enc,c1,c2,List.take_left,go_sem,↓reduceIte,Nat.reduceEqDiff,Nat.reduceBEq,Nat.reduceAdd,Nat.reduceSub,Nat.reduceLT,Nat.reduceLeDiff,Int.reduceLT,Int.reduceLE,Int.reduceEq,Int.reduceToNat]
 by_cases c3:base≤count
 case neg=>
   simp only[CN,ae.enc,c1,c2,c3,List.take_left,go_sem,↓reduceIte,Nat.reduceEqDiff,Nat.reduceBEq,Nat.reduceAdd,Nat.reduceSub,Nat.reduceLT,Nat.reduceLeDiff,Int.reduceLT,Int.reduceLE,Int.reduceEq,Int.reduceToNat]
 have lV:IntKind.u64.wrap (count - base)=count - base:=wrap_u64 (by omega) (by omega)
 by_cases c4:count - base≤8
 case neg=>
   simp only[CN,ae.enc,c1,c2,c3,lV,c4,List.take_left,go_sem,↓reduceIte,Nat.reduceEqDiff,Nat.reduceBEq,Nat.reduceAdd,Nat.reduceSub,Nat.reduceLT,Nat.reduceLeDiff,Int.reduceLT,Int.reduceLE,Int.reduceEq,Int.reduceToNat]
 by_cases c5:aF=0
 ·by_cases c6:0 < count
  ·simp only[CN,ae.enc,c1,c2,c3,lV,c4,c5,c6,List.take_left,go_sem,↓reduceIte,Nat.reduceEqDiff,Nat.reduceBEq,Nat.reduceAdd,Nat.reduceSub,Nat.reduceLT,Nat.reduceLeDiff,Int.reduceLT,Int.reduceLE,Int.reduceEq,Int.reduceToNat]
  ·by_cases c7:head=bO
   ·simp only[CN,ae.enc,c1,c2,c3,lV,c4,c5,c6,c7,cg,cZ,List.take_left,go_sem,↓reduceIte,Nat.reduceEqDiff,Nat.reduceBEq,Nat.reduceAdd,Nat.reduceSub,Nat.reduceLT,Nat.reduceLeDiff,Int.reduceLT,Int.reduceLE,Int.reduceEq,Int.reduceToNat]
   ·simp only[CN,ae.enc,c1,c2,c3,lV,c4,c5,c6,c7,cg,cZ,List.take_left,go_sem,↓reduceIte,Nat.reduceEqDiff,Nat.reduceBEq,Nat.reduceAdd,Nat.reduceSub,Nat.reduceLT,Nat.reduceLeDiff,Int.reduceLT,Int.reduceLE,Int.reduceEq,Int.reduceToNat]
 ·by_cases c8:aF=1
  ·by_cases c6:0 < count
   ·simp only[CN,ae.enc,c1,c2,c3,lV,c4,c5,c8,c6,List.take_left,go_sem,↓reduceIte,Nat.reduceEqDiff,Nat.reduceBEq,Nat.reduceAdd,Nat.reduceSub,Nat.reduceLT,Nat.reduceLeDiff,Int.reduceLT,Int.reduceLE,Int.reduceEq,Int.reduceToNat]
   ·by_cases c7:head=bO
    ·simp only[CN,ae.enc,c1,c2,c3,lV,c4,c5,c8,c6,c7,cg,cZ,List.take_left,go_sem,↓reduceIte,Nat.reduceEqDiff,Nat.reduceBEq,Nat.reduceAdd,Nat.reduceSub,Nat.reduceLT,Nat.reduceLeDiff,Int.reduceLT,Int.reduceLE,Int.reduceEq,Int.reduceToNat]
    ·simp only[CN,ae.enc,c1,c2,c3,lV,c4,c5,c8,c6,c7,cg,cZ,List.take_left,go_sem,↓reduceIte,Nat.reduceEqDiff,Nat.reduceBEq,Nat.reduceAdd,Nat.reduceSub,Nat.reduceLT,Nat.reduceLeDiff,Int.reduceLT,Int.reduceLE,Int.reduceEq,Int.reduceToNat]
  ·simp only[CN,ae.enc,c1,c2,c3,lV,c4,c5,c8,List.take_left,go_sem,↓reduceIte,Nat.reduceEqDiff,Nat.reduceBEq,Nat.reduceAdd,Nat.reduceSub,Nat.reduceLT,Nat.reduceLeDiff,Int.reduceLT,Int.reduceLE,Int.reduceEq,Int.reduceToNat]
theorem HC (b:Nat) (h:Hp) (a r:ae) (ha:a.wf) (hr:bc a=true→r.wf):run fns pr b 58 [a.enc,r.enc] h=some (.bI [(vG a r).1.enc,.s (.bool (vG a r).2)],h):=by
 refine Vm.aT (nt:=16) rfl Tn (by simp) ?_
 have h1:=fun h0=> pb h.length h0 a ha
 have h2:=fun h0 hr=> pb h.length h0 r hr
 unfold vG
 have hz:V.st 53 [.s (.int .u64 0),.s (.int .u64 0),.s (.int .u64 0),bz 25,.s (.int .i64 0)]=gS.enc:=rfl
 cases c1:bc a with
 | false=>
   rw[if_neg (by simp)]
   simp only[B58,ae.cG,ae.cH,h1,c1,go_sem,↓reduceIte,Nat.reduceEqDiff,Nat.reduceBEq,Nat.reduceAdd,Nat.reduceSub,Nat.reduceLT,Nat.reduceLeDiff,Int.reduceLT,Int.reduceLE,Int.reduceEq,Int.reduceToNat]
   all_goals rfl
 | true=>
   have h2:=fun h0=> h2 h0 (hr c1)
   cases c2:bc r with
   | false=>
     rw[if_neg (by simp)]
     simp only[B58,ae.cG,ae.cH,h1,h2,c1,c2,go_sem,↓reduceIte,Nat.reduceEqDiff,Nat.reduceBEq,Nat.reduceAdd,Nat.reduceSub,Nat.reduceLT,Nat.reduceLeDiff,Int.reduceLT,Int.reduceLE,Int.reduceEq,Int.reduceToNat]
     all_goals rfl
   | true=>
     rw[if_pos ⟨rfl,rfl⟩]
     simp only[B58,ae.cG,ae.cH,ae.pX,h1,h2,c1,c2,go_sem,↓reduceIte,Nat.reduceEqDiff,Nat.reduceBEq,Nat.reduceAdd,Nat.reduceSub,Nat.reduceLT,Nat.reduceLeDiff,Int.reduceLT,Int.reduceLE,Int.reduceEq,Int.reduceToNat]
theorem q11z {r:ae} (h:bc r=true):r.bq≤1099511627776∧r.count≤1099511627776∧r.base≤r.count∧r.count - r.base≤8∧(r.aF=0∨r.aF=1)∧(0 < r.count∨r.head=bO):=by
 unfold bc at h
 simp only[Bool.and_eq_true,Bool.or_eq_true,decide_eq_true_eq] at h
 obtain ⟨⟨⟨⟨⟨h1,h2⟩,h3⟩,h4⟩,h5⟩,h6⟩:=h
 exact ⟨h1,h2,h3,h4,h5,h6⟩
theorem Ae {a r r':ae} (h:bc a=false):vG a r=vG a r':=by
 unfold vG;rw[h];simp
theorem K3 (b:Nat) (h:Hp) (r:ae) (hd:Bs) (hw:r.wf) (hl:hd.length=16):run fns pr b 28 [r.enc,.arr 25 (hd.map aa)] h=some (.bI [(ej r hd).1.enc,.s (.bool (ej r hd).2)],h):=by
 refine Vm.aT (nt:=19) rfl Sk (by simp) ?_
 have hs:∀c,(bc r=true→c=r.count+1)→∀h0,run fns pr h.length 58 [r.enc,ae.enc ⟨r.bq,c,r.base,hd,r.aF⟩] h0=some (.bI [(ej r hd).1.enc,.s (.bool (ej r hd).2)],h0):=by
   intro c hc h0
   have h1:=HC h.length h0 r ⟨r.bq,c,r.base,hd,r.aF⟩ hw (fun q=> by
     have:=q11z q
     have hc:=hc q
     obtain ⟨w1,w2,w3,w4,w5⟩:=hw
     exact ⟨w1,by simp only;omega,w3,hl,w5⟩)
   rw[h1]
   cases q:bc r with
   | true=> rw[hc q];rfl
   | false=> unfold ej;rw[Ae (r:=⟨r.bq,c,r.base,hd,r.aF⟩) (r':=⟨r.bq,r.count+1,r.base,hd,r.aF⟩) q]
 have iA:bc r=true→IntKind.u64.wrap (r.count+1)=r.count+1:=fun q=> by
   have:=q11z q
   obtain ⟨w1,w2,w3,w4,w5⟩:=hw
   exact wrap_u64 (by omega) (by omega)
 have hs:=hs _ iA
 have f1:=fun n H=> ae.pX n H (ej r hd).1
 have f2:=ae.cG (ej r hd).1
 have f3:=ae.cH (ej r hd).1
 generalize ej r hd=x at *
 obtain ⟨bq,count,base,head,aF⟩:=r
 simp only[ae.enc] at hs ⊢
 generalize hx:V.st 53 [.s (.int .u64 x.1.bq),.s (.int .u64 x.1.count),.s (.int .u64 x.1.base),.arr 25 (x.1.head.map aa),.s (.int .i64 x.1.aF)]=X at *
 simp only[ae.enc,hx] at f1 f2 f3
 simp only[B28,hs,f1,f2,f3,go_sem,↓reduceIte,Nat.reduceEqDiff,Nat.reduceBEq,Nat.reduceAdd,Nat.reduceSub,Nat.reduceLT,Nat.reduceLeDiff,Int.reduceLT,Int.reduceLE,Int.reduceEq,Int.reduceToNat]
theorem K4 (b:Nat) (h:Hp) (r:ae) (hw:r.wf):run fns pr b 36 [r.enc] h=some (.bI [(cq r).1.enc,.s (.bool (cq r).2)],h):=by
 refine Vm.aT (nt:=15) rfl SB (by simp) ?_
 have hs:∀c,(bc r=true→c=r.bq+1)→∀h0,run fns pr h.length 58 [r.enc,ae.enc ⟨c,r.count,r.base,r.head,r.aF⟩] h0=some (.bI [(cq r).1.enc,.s (.bool (cq r).2)],h0):=by
   intro c hc h0
   have h1:=HC h.length h0 r ⟨c,r.count,r.base,r.head,r.aF⟩ hw (fun q=> by
     have:=q11z q
     have hc:=hc q
     obtain ⟨w1,w2,w3,w4,w5⟩:=hw
     exact ⟨by simp only;omega,w2,w3,w4,w5⟩)
   rw[h1]
   cases q:bc r with
   | true=> rw[hc q];rfl
   | false=> unfold cq;rw[Ae (r:=⟨c,r.count,r.base,r.head,r.aF⟩) (r':=⟨r.bq+1,r.count,r.base,r.head,r.aF⟩) q]
 have iA:bc r=true→IntKind.u64.wrap (r.bq+1)=r.bq+1:=fun q=> by
   have:=q11z q
   obtain ⟨w1,w2,w3,w4,w5⟩:=hw
   exact wrap_u64 (by omega) (by omega)
 have hs:=hs _ iA
 have f1:=fun n H=> ae.pX n H (cq r).1
 have f2:=ae.cG (cq r).1
 have f3:=ae.cH (cq r).1
 generalize cq r=x at *
 obtain ⟨bq,count,base,head,aF⟩:=r
 simp only[ae.enc] at hs ⊢
 generalize hx:V.st 53 [.s (.int .u64 x.1.bq),.s (.int .u64 x.1.count),.s (.int .u64 x.1.base),.arr 25 (x.1.head.map aa),.s (.int .i64 x.1.aF)]=X at *
 simp only[ae.enc,hx] at f1 f2 f3
 simp only[B36,hs,f1,f2,f3,go_sem,↓reduceIte,Nat.reduceEqDiff,Nat.reduceBEq,Nat.reduceAdd,Nat.reduceSub,Nat.reduceLT,Nat.reduceLeDiff,Int.reduceLT,Int.reduceLE,Int.reduceEq,Int.reduceToNat]
theorem K5 (b:Nat) (h:Hp) (r:ae) (hd:Bs) (hw:r.wf) (hl:hd.length=16):run fns pr b 70 [r.enc,.arr 25 (hd.map aa)] h=some (.bI [(gT r hd).1.enc,.s (.bool (gT r hd).2)],h):=by
 refine Vm.aT (nt:=28) rfl TN (by simp) ?_
 unfold gT
 by_cases c0:r.count≤r.base
 ·rw[if_pos c0]
  obtain ⟨bq,count,base,head,aF⟩:=r
  simp only at c0
  simp only[B70,ae.enc,c0,gS,cg,go_sem,↓reduceIte,Nat.reduceEqDiff,Nat.reduceBEq,Nat.reduceAdd,Nat.reduceSub,Nat.reduceLT,Nat.reduceLeDiff,Int.reduceLT,Int.reduceLE,Int.reduceEq,Int.reduceToNat]
  all_goals rfl
 rw[if_neg c0]
 have hs:∀c,(bc r=true→c=1 - r.aF)→∀h0,run fns pr h.length 58 [r.enc,ae.enc ⟨r.bq,r.count,r.count,hd,c⟩] h0=some (.bI [(vG r ⟨r.bq,r.count,r.count,hd,1 - r.aF⟩).1.enc,.s (.bool (vG r ⟨r.bq,r.count,r.count,hd,1 - r.aF⟩).2)],h0):=by
   intro c hc h0
   have h1:=HC h.length h0 r ⟨r.bq,r.count,r.count,hd,c⟩ hw (fun q=> by
     have:=q11z q
     have hc:=hc q
     obtain ⟨w1,w2,w3,w4,w5⟩:=hw
     exact ⟨w1,w2,w2,hl,by simp only;omega⟩)
   rw[h1]
   cases q:bc r with
   | true=> rw[hc q]
   | false=> rw[Ae (r:=⟨r.bq,r.count,r.count,hd,c⟩) (r':=⟨r.bq,r.count,r.count,hd,1 - r.aF⟩) q]
 have iA:bc r=true→IntKind.i64.wrap (1 - r.aF)=1 - r.aF:=fun q=> by
   have:=q11z q
   exact wrap_i64 (by omega) (by omega)
 have hs:=hs _ iA
 generalize vG r ⟨r.bq,r.count,r.count,hd,1 - r.aF⟩=x at *
 have f1:=fun n H=> ae.pX n H x.1
 have f2:=ae.cG x.1
 have f3:=ae.cH x.1
 obtain ⟨bq,count,base,head,aF⟩:=r
 simp only[ae.enc] at hs c0 ⊢
 generalize hx:V.st 53 [.s (.int .u64 x.1.bq),.s (.int .u64 x.1.count),.s (.int .u64 x.1.base),.arr 25 (x.1.head.map aa),.s (.int .i64 x.1.aF)]=X at *
 simp only[ae.enc,hx] at f1 f2 f3
 simp only[B70,c0,hs,f1,f2,f3,go_sem,↓reduceIte,Nat.reduceEqDiff,Nat.reduceBEq,Nat.reduceAdd,Nat.reduceSub,Nat.reduceLT,Nat.reduceLeDiff,Int.reduceLT,Int.reduceLE,Int.reduceEq,Int.reduceToNat]
theorem ru (b:Nat) (h:Hp) (r:ae) (hw:r.wf):run fns pr b 34 [r.enc] h=some (.s (.int .i64 (aV r)),h):=by
 refine Vm.aT (nt:=12) rfl Sx (by simp) ?_
 have h1:=fun h0=> pb h.length h0 r hw
 unfold aV
 cases c1:bc r with
 | false=>
   rw[if_neg (by simp)]
   simp only[B34,ae.cG,ae.cH,h1,c1,List.take_left,go_sem,↓reduceIte,Nat.reduceEqDiff,Nat.reduceBEq,Nat.reduceAdd,Nat.reduceSub,Nat.reduceLT,Nat.reduceLeDiff,Int.reduceLT,Int.reduceLE,Int.reduceEq,Int.reduceToNat]
 | true=>
   have:=q11z c1
   obtain ⟨w1,w2,w3,w4,w5⟩:=hw
   have q1:IntKind.u64.wrap (r.count - r.base)=r.count - r.base:=wrap_u64 (by omega) (by omega)
   have q2:IntKind.i64.wrap (r.count - r.base)=r.count - r.base:=wrap_i64 (by omega) (by omega)
   rw[if_pos rfl]
   obtain ⟨bq,count,base,head,aF⟩:=r
   simp only[ae.enc] at *
   simp only[B34,h1,c1,q1,q2,List.take_left,go_sem,↓reduceIte,Nat.reduceEqDiff,Nat.reduceBEq,Nat.reduceAdd,Nat.reduceSub,Nat.reduceLT,Nat.reduceLeDiff,Int.reduceLT,Int.reduceLE,Int.reduceEq,Int.reduceToNat]
def aX (r:ae):Int:=if 8≤aV r then -1 else 2+aV r
theorem iR (r:ae) (hw:r.wf):0≤aV r∧aV r≤8:=by
 unfold aV
 split
 ·have:=q11z (by assumption);omega
 ·omega
theorem HE (b:Nat) (h:Hp) (r:ae) (hw:r.wf):run fns pr b 31 [r.enc] h=some (.s (.int .i64 (aX r)),h):=by
 refine Vm.aT (nt:=10) rfl Sq (by simp) ?_
 have h1:=fun h0=> ru h.length h0 r hw
 have hl:=iR r hw
 unfold aX
 by_cases c:8≤aV r
 ·rw[if_pos c]
  simp only[B31,ae.cG,ae.cH,h1,c,List.take_left,go_sem,↓reduceIte,Nat.reduceEqDiff,Nat.reduceBEq,Nat.reduceAdd,Nat.reduceSub,Nat.reduceLT,Nat.reduceLeDiff,Int.reduceLT,Int.reduceLE,Int.reduceEq,Int.reduceToNat]
 ·rw[if_neg c]
  have hw:IntKind.i64.wrap (2+aV r)=2+aV r:=wrap_i64 (by omega) (by omega)
  simp only[B31,ae.cG,ae.cH,h1,c,hw,List.take_left,go_sem,↓reduceIte,Nat.reduceEqDiff,Nat.reduceBEq,Nat.reduceAdd,Nat.reduceSub,Nat.reduceLT,Nat.reduceLeDiff,Int.reduceLT,Int.reduceLE,Int.reduceEq,Int.reduceToNat]
theorem K6 (b:Nat) (h:Hp) (r:ae) (hp:r.aF=0∨r.aF=1):run fns pr b 69 [r.enc] h=some (.s (.int .i64 (1 - r.aF)),h):=by
 refine Vm.aT (nt:=6) rfl TL (by simp) ?_
 have hw:IntKind.i64.wrap (1 - r.aF)=1 - r.aF:=wrap_i64 (by omega) (by omega)
 simp only[B69,ae.enc,hw,List.take_left,go_sem,↓reduceIte,Nat.reduceEqDiff,Nat.reduceBEq,Nat.reduceAdd,Nat.reduceSub,Nat.reduceLT,Nat.reduceLeDiff,Int.reduceLT,Int.reduceLE,Int.reduceEq,Int.reduceToNat]
theorem bG (l:Bs):(V.arr 25 (l.map aa)).ty=some 25:=rfl
theorem uv (b:Nat) (h:Hp) (x:V) (l:Bs) (hx:BR h x l) (hl:l.length≤1000000):run fns pr b 71 [x] h=some (.arr 25 ((cT l).map aa),h):=by
 refine Vm.aT (nt:=5) rfl TP (by simp) ?_
 have hs:=fun b X=> vx b (h++X) x l (BR.rd (hx.mono (Fw.app [] h X))) hl
 have lE:((cT l).map aa).length=16:=by rw[List.length_map,bm]
 simp only[B71,hs,lE,bG,List.take_left,go_sem,↓reduceIte,Nat.reduceEqDiff,Nat.reduceBEq,Nat.reduceAdd,Nat.reduceSub,Nat.reduceLT,Nat.reduceLeDiff,Int.reduceLT,Int.reduceLE,Int.reduceEq,Int.reduceToNat]
def mq :Bs:=[105,109,97,103,101]
def jI (k:Bs) (r:ae) (l:Bs):Bs×Int:=if 8184 < l.length then ([],3) else (lG k r.count.toNat mq l,0)
theorem HF (b:Nat) (h:Hp) (x:V) (k l:Bs) (r:ae) (hk:k.length=16) (hw:r.wf) (hx:BR h x l):run fns pr b 68 [.arr 25 (k.map aa),r.enc,x] h=some (.bI [.al false none ((jI k r l).1.map aa),.s (.int .i64 (jI k r l).2)],h):=by
 refine Vm.aT (nt:=18) rfl TJ (by simp) ?_
 have fV:(k.map aa).length=16:=by simp[hk]
 have ly:=fun cf base H=> hx.cF (cf:=cf) (base:=base) (h:=H)
 have him:∀f H,Rd H (.al f none (mq.map aa)) mq:=fun f H=> BR.rd (dj H f mq)
 have hse:=fun b f X=> BC b (h++X) (.al f none (mq.map aa)) x k mq l r.count.toNat hk (by have:=hw.count;omega) (him f _) (hx.mono (Fw.app [] h X)) (by decide)
 have hc:((r.count.toNat:Nat):Int)=r.count:=by have:=hw.count;omega
 rw[hc] at hse
 unfold jI
 by_cases c:8184 < l.length
 ·have c':(8184:Int)<((l.length:Nat):Int):=by omega
  rw[if_pos c]
  simp only[B68,ae.enc,fV,ly,c',List.take_left,go_sem,↓reduceIte,Nat.reduceEqDiff,Nat.reduceBEq,Nat.reduceAdd,Nat.reduceSub,Nat.reduceLT,Nat.reduceLeDiff,Int.reduceLT,Int.reduceLE,Int.reduceEq,Int.reduceToNat]
  all_goals rfl
 ·have c':¬(8184:Int)<((l.length:Nat):Int):=by omega
  rw[if_neg c]
  obtain ⟨bq,count,base,head,aF⟩:=r
  simp only at hse hc ⊢
  have hiw:mq.map aa=[.s (.int .u8 105),.s (.int .u8 109),.s (.int .u8 97),.s (.int .u8 103),.s (.int .u8 101)]:=rfl
  rw[hiw] at hse
  simp only[B68,ae.enc,fV,ly,c',hse,bG,go_sem,↓reduceIte,Nat.reduceEqDiff,Nat.reduceBEq,Nat.reduceAdd,Nat.reduceSub,Nat.reduceLT,Nat.reduceLeDiff,Int.reduceLT,Int.reduceLE,Int.reduceEq,Int.reduceToNat]
  all_goals rfl
def kV (k:Bs) (n:Nat) (prev:Bs) (r:aq):Bs×Int:=if aS r=true then (lG k n prev (mg r),0) else ([],1)
theorem HG (b:Nat) (h:Hp) (k prev:Bs) (n:Nat) (r:aq) (hk:k.length=16) (hp:prev.length=16) (hn:n < 18446744073709551616) (hw:r.wf) (Hc:∀v∈r.ai,v.wf):run fns pr b 27 [.arr 25 (k.map aa),.s (.int .u64 n),.arr 25 (prev.map aa),r.enc] h=some (.bI [.al false none ((kV k n prev r).1.map aa),.s (.int .i64 (kV k n prev r).2)],h):=by
 refine Vm.aT (nt:=25) rfl Si (by simp) ?_
 have fV:(k.map aa).length=16:=by simp[hk]
 have rh:(prev.map aa).length=16:=by simp[hp]
 have du:r.enc.ty=some 41:=rfl
 have jE:r.enc.ax=true:=rfl
 generalize hGd:h++[aW.cells (some 25) [V.arr 25 (k.map aa)],aW.cells (some 25) [V.arr 25 (prev.map aa)],aW.cells (some 41) [r.enc]]=G
 have g1:G[h.length+1]? =some (aW.cells (some 25) [V.arr 25 (prev.map aa)]):=by rw[←hGd];exact aK _ _ 1
 have FH:=Rd.mk' (h:=G) (x:= .ref (h.length+1) [0] none 0 prev.length 1) (l:=prev) (zX g1) rfl
 rw[hp] at FH
 have hse:=fun b f=> BC b G (.ref (h.length+1) [0] none 0 16 1) (.al f none ((mg r).map aa)) k prev (mg r) n hk hn FH (dj _ _ _) (by omega)
 have g0:G[h.length]? =some (aW.cells (some 25) [V.arr 25 (k.map aa)]):=by rw[←hGd];exact aK _ _ 0
 have g2:G[h.length+2]? =some (aW.cells (some 41) [r.enc]):=by rw[←hGd];exact aK _ _ 2
 have Dj:=fun b=> C4 b G r hw Hc
 have eI:G.take h.length=h:=by rw[←hGd,List.take_left]
 unfold kV
 cases hr:aS r with
 | false=>
   rw[hr] at Dj
   rw[if_neg (by simp)] at Dj ⊢
   simp only[B27,fV,rh,du,jE,hGd,Dj,g0,g1,g2,eI,go_sem,↓reduceIte,Nat.reduceEqDiff,Nat.reduceBEq,Nat.reduceAdd,Nat.reduceSub,Nat.reduceLT,Nat.reduceLeDiff,Int.reduceLT,Int.reduceLE,Int.reduceEq,Int.reduceToNat]
   all_goals rfl
 | true=>
   rw[hr] at Dj
   rw[if_pos rfl] at Dj ⊢
   simp only[B27,fV,rh,du,jE,hGd,Dj,g0,g1,g2,eI,hse,bG,go_sem,↓reduceIte,Nat.reduceEqDiff,Nat.reduceBEq,Nat.reduceAdd,Nat.reduceSub,Nat.reduceLT,Nat.reduceLeDiff,Int.reduceLT,Int.reduceLE,Int.reduceEq,Int.reduceToNat]
   all_goals rfl
def dp (prev b:Bs):Bs:=dn prev (cT b)
theorem xw (b:Nat) (h:Hp) (x:V) (prev l:Bs) (hp:prev.length=16) (hx:BR h x l) (hl:l.length≤1000000):run fns pr b 29 [.arr 25 (prev.map aa),x] h=some (.arr 25 ((dp prev l).map aa),h):=by
 refine Vm.aT (nt:=9) rfl Sm (by simp) ?_
 have rh:(prev.map aa).length=16:=by simp[hp]
 have hs:=fun b X=> vx b (h++X) x l (BR.rd (hx.mono (Fw.app [] h X))) hl
 have ht:=fun b h0=> G5 b h0 prev (cT l) hp (bm l)
 have lE:((dn prev (cT l)).map aa).length=16:=by simp[dn,bm]
 unfold dp
 simp only[B29,rh,hs,ht,lE,bG,List.take_left,go_sem,↓reduceIte,Nat.reduceEqDiff,Nat.reduceBEq,Nat.reduceAdd,Nat.reduceSub,Nat.reduceLT,Nat.reduceLeDiff,Int.reduceLT,Int.reduceLE,Int.reduceEq,Int.reduceToNat]
 all_goals rfl
theorem K7 (b:Nat) (h:Hp) (k:Bs) (m:Int) (hk:k.length=16):run fns pr b 45 [.arr 25 (k.map aa),.s (.int .i64 m)] h=some (.arr 25 ((dn k [bt m]).map aa),h):=by
 refine Vm.aT (nt:=10) rfl SV (by simp) ?_
 have fV:(k.map aa).length=16:=by simp[hk]
 have FH:∀A B,Rd (h++[A,B,aW.cells none [aa (bt m)]]) (.ref (h.length+2) [] none 0 1 1) [bt m]:=fun A B=> BR.rd (dG (aK _ _ 2) rfl)
 have yY:=fun b A B=> oV b (h++[A,B,aW.cells none [aa (bt m)]]) (.ref (h.length+2) [] none 0 1 1) k [bt m] hk (FH A B) (by simp)
 have lE:((dn k [bt m]).map aa).length=16:=by simp[dn,bm]
 simp only[B45,fV,oh,lE,bG,List.take_left,yY,go_sem,↓reduceIte,Nat.reduceEqDiff,Nat.reduceBEq,Nat.reduceAdd,Nat.reduceSub,Nat.reduceLT,Nat.reduceLeDiff,Int.reduceLT,Int.reduceLE,Int.reduceEq,Int.reduceToNat]
end Go.Proofs.YtannfageakbpmaaGreat
namespace Go.Cl
structure Dk where
 now:List (Option Bs)
 bA:List (Option Bs)
 dQ:Nat
 at_:Nat
 last:Bs
def Dk.new :Dk:=⟨List.replicate 10 none,List.replicate 10 none,0,0,[]⟩
def Dk.js (n:Int) (l:Bs):Bool:=decide (0≤n)&& decide (n < 10)&& decide (l.length≤8192)
def Dk.put (D:Dk) (n:Nat) (l:Bs):Dk:= {D with now:=D.now.set n (some l),dQ:=D.dQ+1,at_:=n,last:=l}
def Dk.get (D:Dk) (n:Int):Option Bs:=if 0≤n∧n < 10 then D.now.getD n.toNat none else none
def Dk.sync (D:Dk):Dk:= {D with bA:=D.now,dQ:=0}
def Dk.eB (D:Dk) (t:Int):List (Option Bs):=if 0 < D.dQ∧0 < t then D.bA.set D.at_ (some (D.last.take t.toNat)) else D.bA
def Dk.ir (D:Dk) (t:Int):Dk:= {D with now:=D.eB t,bA:=D.eB t,dQ:=0}
def Dk.copy (D:Dk):Dk:=⟨D.now,D.now,0,0,[]⟩
def flip (l:Bs) (k:Nat):Bs:=l.set k (l.getD k 0 ^^^ 1)
def Dk.turns (D:Dk) (n k:Int):Bool:=decide (0≤n)&& decide (n < 10)&& decide (0≤k)&& decide (k <((D.now.getD n.toNat none).getD []).length)
def Dk.Pu (D:Dk) (n k:Nat):Dk:= {D with now:=D.now.set n (some (flip ((D.now.getD n none).getD []) k)),bA:=D.bA.set n (some (flip ((D.now.getD n none).getD []) k))}
structure Dk.OK (D:Dk):Prop where
 now:D.now.length=10
 bA:D.bA.length=10
 at_:D.at_ < 10
 ns:∀n,((D.now.getD n none).getD []).length≤8192
 ls:∀n,((D.bA.getD n none).getD []).length≤8192
 last:D.last.length≤8192
theorem xx (n k:Nat):(List.replicate n (none:Option Bs)).getD k none=none:=by
 rw[List.getD_eq_getElem?_getD,List.getElem?_replicate];split <;> rfl
theorem Dk.sg :Dk.new.OK:=⟨by simp[Dk.new],by simp[Dk.new],by simp[Dk.new],fun n=> by simp only[Dk.new,xx];simp,fun n=> by simp only[Dk.new,xx];simp,by simp[Dk.new]⟩
theorem sh {α:Type} (l:List α) (i j:Nat) (x d:α):(l.set i x).getD j d=if i=j∧i < l.length then x else l.getD j d:=by
 simp only[List.getD_eq_getElem?_getD,List.getElem?_set]
 by_cases h:i=j
 ·subst h
  by_cases h2:i < l.length <;> simp[h2]
 ·simp[h]
theorem j7 {l:List (Option Bs)} (h:∀n,((l.getD n none).getD []).length≤8192) (i:Nat) {x:Bs} (hx:x.length≤8192):∀n,(((l.set i (some x)).getD n none).getD []).length≤8192:=by
 intro n
 rw[sh]
 split
 ·exact hx
 ·exact h n
theorem Dk.HH {D:Dk} (h:D.OK) {n:Nat} {l:Bs} (hn:n < 10) (hl:l.length≤8192):(D.put n l).OK:=
 ⟨by simp[Dk.put,h.now],h.bA,hn,j7 h.ns n hl,h.ls,hl⟩
theorem Dk.vH {D:Dk} (h:D.OK):D.sync.OK:=⟨h.now,h.now,h.at_,h.ns,h.ns,h.last⟩
theorem Dk.rv {D:Dk} (h:D.OK) (t:Int):(D.eB t).length=10∧∀n,(((D.eB t).getD n none).getD []).length≤8192:=by
 unfold Dk.eB
 split
 ·exact ⟨by simp[h.bA],j7 h.ls _ (by have:=h.last;simp;omega)⟩
 ·exact ⟨h.bA,h.ls⟩
theorem Dk.HJ {D:Dk} (h:D.OK) (t:Int):(D.ir t).OK:=⟨(D.rv h t).1,(D.rv h t).1,h.at_,(D.rv h t).2,(D.rv h t).2,h.last⟩
theorem Dk.o4 {D:Dk} (h:D.OK) (n k:Nat):(D.Pu n k).OK:=
 ⟨by simp[Dk.Pu,h.now],by simp[Dk.Pu,h.bA],h.at_,j7 h.ns n (by simp[flip];exact h.ns n),j7 h.ls n (by simp[flip];exact h.ns n),h.last⟩
end Go.Cl
