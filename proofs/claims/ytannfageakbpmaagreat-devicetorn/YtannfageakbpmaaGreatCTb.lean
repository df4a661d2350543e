/- Texts for DeviceTorn, part 2. Conditions: none. -/
import Derived.Test.YtannfageakbpmaaGreatCTa
set_option linter.unusedSimpArgs false
set_option linter.unusedVariables false
set_option linter.unusedSectionVars false
namespace Go.Vm
theorem XR.push {h H:Hp} {k m:Nat} {x:V} {vs:List V} {bytes:Nat} {z:V} (xr:XR H none k x vs) (hk:m≤k) (hm:m≤H.length) (hh:h.length≤m) (fw:Fw [] h H) (hz:z.ground=true) (hb:(vs.length+1)* bytes≤140737488355328):
 ∃x' H' k',(∀cf base,aB cf base (H++[.cells none [z]]) (.app none bytes) [x,.ref H.length [] none 0 1 1]=some (x',H'))∧XR H' none k' x' (vs++[z])∧Fw [] h H'∧m≤k'∧m≤H'.length∧∀j b,j < m→H[j]? =some b→H'[j]? =some b:=by
 obtain ⟨x',H',k',h1,h2,h3,h4,h5⟩:=xr.Ks (h:=h) (T:=[.cells none [z]]) (idy:=H.length) (z:=z) (bytes:=bytes) (by omega) fw (by rw[List.getElem?_append_right (Nat.le_refl _)];simp) hz hb
 have h6:m≤k':=by rcases h4 with rfl | h4 <;> omega
 refine ⟨x',H',k',h1,h2,h3,h6,?_,fun j b hj hb=> h5 j b (by omega) (q10z hb _)⟩
 rcases h2 with ⟨_,h0⟩ | ⟨_,h0⟩
 ·simp at h0
 ·have:=q6z h0;omega
end Go.Vm
namespace Go.Proofs.YtannfageakbpmaaGreat
open Go Go.Vm Go.Proofs Go.Cl
set_option maxRecDepth 100000
theorem Va (n:Nat) (h:n < 256):(UInt8.ofNat n).toNat=n:=by
 rw[UInt8.toNat_ofNat'];omega
theorem q17z {n:Nat} (h:n < 4611686018427387904):IntKind.i64.wrap ((n:Int)+1)=((n+1:Nat):Int):=by
 rw[wrap_i64 (by omega) (by omega)];omega
def fb :List V:=bN.map aa
def wv0 :List V:=[.s (.int .u32 1668047222),.s (.int .u32 1768383858),.s (.int .u32 1801807216),.s (.int .u32 1935763045)]
def lu (l:Bs) (z:Nat):Bs:=l++[128]++List.replicate z 0
theorem zI (l:Bs) (z:Nat):lu l (z+1)=lu l z++[0]:=by simp[lu,List.replicate_succ']
theorem pH (l:Bs) (z:Nat):(lu l z).length=l.length+1+z:=by simp[lu];omega
theorem M3 {a k:Nat} (hk:k≤64):pG .u64 (a:Int) (k:Int)=((a / 2 ^ k:Nat):Int):=by
 have h:pG .u64 (a:Int) (k:Int)=(a:Int).fdiv (2 ^(min ((k:Int).toNat) 64)):=rfl
 rw[h,Int.toNat_natCast,Nat.min_eq_left hk,Int.fdiv_eq_ediv_of_nonneg _ (by exact Int.le_of_lt (Int.pow_pos (by decide)))]
 simp
theorem vv (n:Nat):V.s (.int .u8 (IntKind.u8.wrap (n:Int)))=aa (UInt8.ofNat (n % 256)):=by
 have:IntKind.u8.wrap (n:Int)=(n:Int) % 256:=by
   simp only[IntKind.wrap,IntKind.bits,IntKind.signed];rfl
 rw[this,aa,Va (n % 256) (by omega)]
 congr 2
theorem rQ (n:Nat) (h:Hp):∀l:Bs,bA.all n h (l.map aa)=some (l.map aa)
 | []=> rR n h
 | b::l=> by rw[List.map_cons,pI,rQ n h l];rfl
theorem xb (h:Hp) (a b:aV):(h++[a,b])[h.length]? =some a∧(h++[a,b])[h.length+1]? =some b:=by
 constructor
 ·rw[List.getElem?_append_right (Nat.le_refl _)];simp
 ·rw[List.getElem?_append_right (by omega)];simp
theorem O5 (b:Nat) (h:Hp) (x:V) (l:Bs) (hb:Rd h x l) (hl:l.length≤1000000):∃v T,(∀b,run pF zH b 91 [x] h=some (v,h++T))∧XR (h++T) none h.length v (l.map aa)∧v.ty=none∧v.ax=true:=by
 obtain ⟨v,t,hc,hx,fy⟩:=Vm.pJ (hb.1 h (Fw.refl _ _)) (by omega)
 refine ⟨v,t,fun b=> ?_,?_,?_⟩
 ·rw[nZ pF zH rfl];exact hc
 ·rcases fy with ⟨rfl,rfl,rfl⟩ | ⟨rfl,rfl⟩
  ·exact .inl ⟨rfl,rfl⟩
  ·exact .inr ⟨by rw[List.length_map],aM _ _⟩
 ·rcases fy with ⟨rfl,_⟩ | ⟨rfl,_⟩<;> exact ⟨rfl,rfl⟩
def G0 (h:Hp):Hp:=h++[aV.cells (some 25) [.arr 25 fb],aV.cells (some 155) [.arr 155 wv0]]
theorem O6 (b:Nat) (h:Hp) (x:V) (l:Bs) (hb:Rd h x l) (hl:l.length≤1000000):run pF zH b 60 [x] h=some (.arr 25 ((cS l).map aa),h):=by
 refine Vm.aU (nt:=76) rfl Tn (by simp) ?_
 obtain ⟨g0,g1⟩:(G0 h)[h.length]? =_∧(G0 h)[h.length+1]? =_:=xb h (.cells (some 25) [.arr 25 fb]) (.cells (some 155) [.arr 155 wv0])
 have hlG:(G0 h).length=h.length+2:=by simp[G0]
 obtain ⟨v,T,nq,xr,du,jB⟩:=O5 h.length (G0 h) x l (hb.fw (Fw.app [] h _)) hl
 have fw:Fw [] h (G0 h++T):=(Fw.app [] h _).trans (Fw.app [] _ _)
 have g0:=q10z g0 T
 have g1:=q10z g1 T
 have hlen:h.length+2≤(G0 h++T).length:=by rw[List.length_append,hlG];omega
 rw[hlG] at xr
 generalize hHH:G0 h++T=H at *
 simp only[G0,fb,wv0] at nq
 obtain ⟨x1,H1,k1,jb,xr1,fw1,hk1,tX,oS⟩:=xr.push (m:=h.length+2) (z:= .s (.int .u8 128)) (bytes:=1) (by omega) hlen (by omega) fw rfl (by simp;omega)
 have au:(0:Nat)=0:=rfl
 try simp only[B60,Ge,Gd,Gc,Gb,zb,za,Ga,FZ,FY,FX,FW,nq,du,jB,jb,go_sem,↓reduceIte,Nat.reduceEqDiff,Nat.reduceBEq,Nat.reduceAdd,Nat.reduceSub,Nat.reduceLT,Nat.reduceLeDiff,Int.reduceLT,Int.reduceLE,Int.reduceEq,Int.reduceToNat]
 repeat' (
   first | refine q5z ?_ ?_ | refine q3z ?_ ?_ | refine q4z ?_ ?_
   all_goals intro aj
   all_goals first | replace aj:=q2z aj | replace aj:=q1z aj | skip
   all_goals first | subst aj | replace au:=And.intro aj au
   all_goals try simp only[au,B60,Ge,Gd,Gc,Gb,zb,za,Ga,FZ,FY,FX,FW,nq,du,jB,jb,go_sem,↓reduceIte,Nat.reduceEqDiff,Nat.reduceBEq,Nat.reduceAdd,Nat.reduceSub,Nat.reduceLT,Nat.reduceLeDiff,Int.reduceLT,Int.reduceLE,Int.reduceEq,Int.reduceToNat])
 have cR:=oS _ _ (by omega) g0
 have cH:=oS _ _ (by omega) g1
 have hxl:∀cf base (h0:Hp),Fw [] h h0→aB cf base h0 .len [x]=some (.s (.int .i64 l.length),h0):=fun cf base h0 f=> Vm.cE cf base h0 x _ hb.2
 refine bh (fun m e H=>∃z k y,m=ff l.length - z∧z≤ff l.length∧e 0=x∧e 2= .ptr h.length [0] 1∧e 3= .ptr (h.length+1) [0] 1∧e 4=y∧H[h.length]? =some (.cells (some 25) [.arr 25 fb])∧H[h.length+1]? =some (.cells (some 155) [.arr 155 wv0])∧XR H none k y ((lu l z).map aa)∧Fw [] h H∧h.length+2≤k∧h.length+2≤H.length)
   (fun e H=>∃k y,e 0=x∧e 2= .ptr h.length [0] 1∧e 3= .ptr (h.length+1) [0] 1∧e 4=y∧H[h.length]? =some (.cells (some 25) [.arr 25 fb])∧H[h.length+1]? =some (.cells (some 155) [.arr 155 wv0])∧XR H none k y ((lu l (ff l.length)).map aa)∧Fw [] h H∧h.length+2≤k∧h.length+2≤H.length)
   (ff l.length) _ _ ⟨0,k1,x1,rfl,by omega,rfl,rfl,rfl,rfl,cR,cH,by rw[show (lu l 0).map aa=l.map aa++[V.s (.int .u8 128)] by simp[lu];rfl];exact xr1,fw1,hk1,tX⟩ ?_ ?_
 ·clear nq hHH jb xr1 fw1 hk1 tX oS cR cH xr fw g0 g1 hlen
  rintro m e H ⟨z,k,y,rfl,hz,e0,e2,e3,e4,cR,cH,xr,fw,hk,hlH⟩
  have lz:=fun cf base=> xr.BR.cE (cf:=cf) (base:=base) (h:=H)
  rw[pH] at lz
  have hpd:ff l.length=(8 - (l.length+1) % 8) % 8:=rfl
  have wI:∀cf base h,aB cf base h (.bin .num .rem) [.s (.int .i64 ((l.length+1+z:Nat):Int)),.s (.int .i64 8)]=some (.s (.int .i64 (((l.length+1+z) % 8:Nat):Int)),h):=fun cf base h=> by
    rw[lY cf base h .i64 _ 8 (by omega),Int.tmod_eq_emod_of_nonneg (by omega)];rfl
  by_cases c:z < ff l.length
  ·have c':¬(((l.length+1+z) % 8:Nat):Int)=0:=by omega
   obtain ⟨x',H',k',jb,xr',fw',lC,dv,hold⟩:=xr.push (m:=h.length+2) (z:= .s (.int .u8 0)) (bytes:=1) (by omega) hlH (by omega) fw rfl (by rw[List.length_map,pH];omega)
   have xr':XR H' none k' x' ((lu l (z+1)).map aa):=by rw[zI,List.map_append];exact xr'
   have au:(0:Nat)=0:=rfl
   try simp only[e0,e2,e3,e4,lz,wI,c',jb,go_sem,↓reduceIte,Nat.reduceEqDiff,Nat.reduceBEq,Nat.reduceAdd,Nat.reduceSub,Nat.reduceLT,Nat.reduceLeDiff,Int.reduceLT,Int.reduceLE,Int.reduceEq,Int.reduceToNat]
   repeat' (
     first | refine q5z ?_ ?_ | refine q3z ?_ ?_ | refine q4z ?_ ?_
     all_goals intro aj
     all_goals first | replace aj:=q2z aj | replace aj:=q1z aj | skip
     all_goals first | subst aj | replace au:=And.intro aj au
     all_goals try simp only[au,e0,e2,e3,e4,lz,wI,c',jb,go_sem,↓reduceIte,Nat.reduceEqDiff,Nat.reduceBEq,Nat.reduceAdd,Nat.reduceSub,Nat.reduceLT,Nat.reduceLeDiff,Int.reduceLT,Int.reduceLE,Int.reduceEq,Int.reduceToNat])
   all_goals exact ⟨ff l.length - (z+1),by omega,z+1,k',x',rfl,by omega,rfl,hold _ _ (by omega) cR,hold _ _ (by omega) cH,xr',fw',lC,dv⟩
  ·have c':(((l.length+1+z) % 8:Nat):Int)=0:=by omega
   have:z=ff l.length:=by omega
   have au:(0:Nat)=0:=rfl
   try simp only[e0,e2,e3,e4,lz,wI,c',go_sem,↓reduceIte,Nat.reduceEqDiff,Nat.reduceBEq,Nat.reduceAdd,Nat.reduceSub,Nat.reduceLT,Nat.reduceLeDiff,Int.reduceLT,Int.reduceLE,Int.reduceEq,Int.reduceToNat]
   repeat' (
     first | refine q5z ?_ ?_ | refine q3z ?_ ?_ | refine q4z ?_ ?_
     all_goals intro aj
     all_goals first | replace aj:=q2z aj | replace aj:=q1z aj | skip
     all_goals first | subst aj | replace au:=And.intro aj au
     all_goals try simp only[au,e0,e2,e3,e4,lz,wI,c',go_sem,↓reduceIte,Nat.reduceEqDiff,Nat.reduceBEq,Nat.reduceAdd,Nat.reduceSub,Nat.reduceLT,Nat.reduceLeDiff,Int.reduceLT,Int.reduceLE,Int.reduceEq,Int.reduceToNat])
   all_goals (subst this;exact ⟨k,y,rfl,cR,cH,xr,fw,hk,hlH⟩)
 ·clear nq hHH jb xr1 fw1 hk1 tX oS cR cH xr fw g0 g1 hlen
  rintro e H ⟨k,y,e0,e2,e3,e4,cR,cH,xr,fw,hk,hlH⟩
  have au:(0:Nat)=0:=rfl
  try simp only[e0,e2,e3,e4,go_sem,↓reduceIte,Nat.reduceEqDiff,Nat.reduceBEq,Nat.reduceAdd,Nat.reduceSub,Nat.reduceLT,Nat.reduceLeDiff,Int.reduceLT,Int.reduceLE,Int.reduceEq,Int.reduceToNat]
  repeat' (
    first | refine q5z ?_ ?_ | refine q3z ?_ ?_ | refine q4z ?_ ?_
    all_goals intro aj
    all_goals first | replace aj:=q2z aj | replace aj:=q1z aj | skip
    all_goals first | subst aj | replace au:=And.intro aj au
    all_goals try simp only[au,e0,e2,e3,e4,go_sem,↓reduceIte,Nat.reduceEqDiff,Nat.reduceBEq,Nat.reduceAdd,Nat.reduceSub,Nat.reduceLT,Nat.reduceLeDiff,Int.reduceLT,Int.reduceLE,Int.reduceEq,Int.reduceToNat])
  refine bh (fun m e H=>∃i k y,m=8 - i∧i≤8∧e 20= .s (.int .i64 (i:Nat))∧e 0=x∧e 2= .ptr h.length [0] 1∧e 3= .ptr (h.length+1) [0] 1∧e 4=y∧H[h.length]? =some (.cells (some 25) [.arr 25 fb])∧H[h.length+1]? =some (.cells (some 155) [.arr 155 wv0])∧XR H none k y ((lu l (ff l.length)++qZ l.length i).map aa)∧Fw [] h H∧h.length+2≤k∧h.length+2≤H.length)
    (fun e H=>∃y,e 0=x∧e 2= .ptr h.length [0] 1∧e 3= .ptr (h.length+1) [0] 1∧e 4=y∧H[h.length]? =some (.cells (some 25) [.arr 25 fb])∧H[h.length+1]? =some (.cells (some 155) [.arr 155 wv0])∧BR H y (eT l)∧Fw [] h H)
    8 _ _ ⟨0,k,y,rfl,by omega,rfl,e0,e2,e3,e4,cR,cH,by simpa[qZ] using xr,fw,hk,hlH⟩ ?_ ?_
  ·clear xr fw hk hlH cR cH e4 y k
   rintro m e H ⟨i,k,y,rfl,hi,e20,e0,e2,e3,e4,cR,cH,xr,fw,hk,hlH⟩
   by_cases c:i < 8
   ·have c':(i:Int)< 8:=by omega
    have lz:=fun cf base=> hxl cf base H fw
    have iy:IntKind.i64.wrap ((i:Int)+1)=((i+1:Nat):Int):=q17z (by omega)
    have w1:IntKind.u64.wrap (l.length:Int)=(l.length:Int):=wrap_u64 (by omega) (by omega)
    have w2:IntKind.i64.wrap (8 *(i:Int))=((8 * i:Nat):Int):=by rw[wrap_i64 (by omega) (by omega)];omega
    have xc:∀cf base h,aB cf base h (.bin .num .shr) [.s (.int .u64 (l.length:Int)),.s (.int .i64 ((8 * i:Nat):Int))]=some (.s (.int .u64 ((l.length / 2 ^(8 * i):Nat):Int)),h):=fun cf base h=> by
      rw[oQ cf base h .u64 .i64 _ _ (by omega),M3 (by omega)]
    have mX:V.s (.int .u8 (IntKind.u8.wrap ((l.length / 2 ^(8 * i):Nat):Int)))=aa (UInt8.ofNat (l.length / 2 ^(8 * i) % 256)):=vv _
    obtain ⟨x',H',k',jb,xr',fw',lC,dv,hold⟩:=xr.push (m:=h.length+2) (z:= .s (.int .u8 (IntKind.u8.wrap ((l.length / 2 ^(8 * i):Nat):Int)))) (bytes:=1) (by omega) hlH (by omega) fw rfl (by rw[List.length_map,List.length_append,pH,oO];unfold ff;omega)
    have xr':XR H' none k' x' ((lu l (ff l.length)++qZ l.length (i+1)).map aa):=by rw[qZ,←List.append_assoc,List.map_append,List.map_singleton,←mX];exact xr'
    have au:(0:Nat)=0:=rfl
    try simp only[e20,e0,e2,e3,e4,c',lz,w1,w2,xc,jb,iy,go_sem,↓reduceIte,Nat.reduceEqDiff,Nat.reduceBEq,Nat.reduceAdd,Nat.reduceSub,Nat.reduceLT,Nat.reduceLeDiff,Int.reduceLT,Int.reduceLE,Int.reduceEq,Int.reduceToNat]
    repeat' (
      first | refine q5z ?_ ?_ | refine q3z ?_ ?_ | refine q4z ?_ ?_
      all_goals intro aj
      all_goals first | replace aj:=q2z aj | replace aj:=q1z aj | skip
      all_goals first | subst aj | replace au:=And.intro aj au
      all_goals try simp only[au,e20,e0,e2,e3,e4,c',lz,w1,w2,xc,jb,iy,go_sem,↓reduceIte,Nat.reduceEqDiff,Nat.reduceBEq,Nat.reduceAdd,Nat.reduceSub,Nat.reduceLT,Nat.reduceLeDiff,Int.reduceLT,Int.reduceLE,Int.reduceEq,Int.reduceToNat])
    all_goals exact ⟨8 - (i+1),by omega,i+1,k',x',rfl,by omega,rfl,rfl,hold _ _ (by omega) cR,hold _ _ (by omega) cH,xr',fw',lC,dv⟩
   ·have c':¬(i:Int)< 8:=by omega
    have:i=8:=by omega
    have au:(0:Nat)=0:=rfl
    try simp only[e20,e0,e2,e3,e4,c',go_sem,↓reduceIte,Nat.reduceEqDiff,Nat.reduceBEq,Nat.reduceAdd,Nat.reduceSub,Nat.reduceLT,Nat.reduceLeDiff,Int.reduceLT,Int.reduceLE,Int.reduceEq,Int.reduceToNat]
    repeat' (
      first | refine q5z ?_ ?_ | refine q3z ?_ ?_ | refine q4z ?_ ?_
      all_goals intro aj
      all_goals first | replace aj:=q2z aj | replace aj:=q1z aj | skip
      all_goals first | subst aj | replace au:=And.intro aj au
      all_goals try simp only[au,e20,e0,e2,e3,e4,c',go_sem,↓reduceIte,Nat.reduceEqDiff,Nat.reduceBEq,Nat.reduceAdd,Nat.reduceSub,Nat.reduceLT,Nat.reduceLeDiff,Int.reduceLT,Int.reduceLE,Int.reduceEq,Int.reduceToNat])
    all_goals (subst this;exact ⟨y,rfl,cR,cH,xr.BR,fw⟩)
  ·clear xr fw hk hlH cR cH e4 y k
   rintro e H ⟨y,e0,e2,e3,e4,cR,cH,br,fw⟩
   have rS:cS l=fg (dC (kG (eT l) ((eT l).length / 8)) 8) 16:=rfl
   have O7:=rO l
   obtain ⟨N,hN⟩:∃N,(eT l).length / 8=N:=⟨_,rfl⟩
   have hlP:=nW l
   have hpd:ff l.length < 8:=by unfold ff;omega
   generalize eT l=P at O7 hN hlP br rS
   rw[hN] at rS
   have hP8:P.length=8 * N:=by omega
   have l0:(0:Int)<((4:Nat):Int):=by decide
   have l3:(3:Int)<((4:Nat):Int):=by decide
   have au:(0:Nat)=0:=rfl
   try simp only[e0,e2,e3,e4,go_sem,↓reduceIte,Nat.reduceEqDiff,Nat.reduceBEq,Nat.reduceAdd,Nat.reduceSub,Nat.reduceLT,Nat.reduceLeDiff,Int.reduceLT,Int.reduceLE,Int.reduceEq,Int.reduceToNat]
   repeat' (
     first | refine q5z ?_ ?_ | refine q3z ?_ ?_ | refine q4z ?_ ?_
     all_goals intro aj
     all_goals first | replace aj:=q2z aj | replace aj:=q1z aj | skip
     all_goals first | subst aj | replace au:=And.intro aj au
     all_goals try simp only[au,e0,e2,e3,e4,go_sem,↓reduceIte,Nat.reduceEqDiff,Nat.reduceBEq,Nat.reduceAdd,Nat.reduceSub,Nat.reduceLT,Nat.reduceLeDiff,Int.reduceLT,Int.reduceLE,Int.reduceEq,Int.reduceToNat])
   refine bh (fun m e H=>∃i y,m=N - i∧i≤N∧e 2= .ptr h.length [0] 1∧e 3= .ptr (h.length+1) [0] 1∧e 4=y∧H[h.length]? =some (.cells (some 25) [.arr 25 fb])∧H[h.length+1]? =some (.cells (some 155) [.arr 155 (kG P i).vs])∧BR H y (P.drop (8 * i))∧Fw [] h H)
     (fun e H=> e 2= .ptr h.length [0] 1∧e 3= .ptr (h.length+1) [0] 1∧H[h.length]? =some (.cells (some 25) [.arr 25 fb])∧H[h.length+1]? =some (.cells (some 155) [.arr 155 (kG P N).vs])∧Fw [] h H)
     N _ _ ⟨0,y,rfl,by omega,e2,e3,e4,cR,cH,by simpa using br,fw⟩ ?_ ?_
   ·clear br cR cH fw e4 y
    rintro m e H ⟨i,y,rfl,hi,e2,e3,e4,cR,cH,br,fw⟩
    have lz:=fun cf base=> br.cE (cf:=cf) (base:=base) (h:=H)
    have tY:(P.drop (8 * i)).length=8 *(N - i):=by rw[List.length_drop];omega
    rw[tY] at lz
    by_cases c:i < N
    ·have c':(0:Int)<((8 *(N - i):Nat):Int):=by omega
     have CS:kG P (i+1)=O2 (kG P i) (P.drop (8 * i)):=rfl
     have hd8:P.drop (8 *(i+1))=(P.drop (8 * i)).drop 8:=by rw[List.drop_drop];congr 1
     generalize P.drop (8 * i)=d at br tY CS hd8
     generalize kG P i=X at cH CS
     have lT:=GS h.length H y d br (by omega)
     have oR:∀c,(H.set (h.length+1) c)[h.length+1]? =some c:=fun c=> q9z cH
     have rk:∀c,(H.set (h.length+1) c)[h.length]? =some (.cells (some 25) [.arr 25 fb]):=fun c=> by rw[List.getElem?_set_ne (by omega)];exact cR
     have mY:∀c,Fw [] h (H.set (h.length+1) c):=fun c=> fw.cK (by omega) c
     have GV:∀c,BR (H.set (h.length+1) (.cells (some 155) c)) y d:=fun c=> br.mono (Fw.set (S:=[h.length+1]) (by simp) cH)
     obtain ⟨y4,hy4,br4⟩:=(GV [.arr 155 [.s (.int .u32 (xr X.a (nn d):Nat)),.s (.int .u32 X.b),.s (.int .u32 X.c),.s (.int .u32 X.d)]]).lo (k:= .i64) (r:=4) (by omega)
     have hy4:∀cf base,aB cf base (H.set (h.length+1) (.cells (some 155) [.arr 155 [.s (.int .u32 (xr X.a (nn d):Nat)),.s (.int .u32 X.b),.s (.int .u32 X.c),.s (.int .u32 X.d)]])) (.jg none true false false) [y,.s (.int .i64 4)]=some (y4,_):=hy4
     have vw:=GS h.length _ y4 (d.drop 4) br4 (by rw[List.length_drop];omega)
     have zJ:=cH
     simp only[W.vs] at zJ
     have au:(0:Nat)=0:=rfl
     try simp only[e2,e3,e4,lz,c',lT,zJ,oR,l0,l3,wT,hy4,vw,eZ,go_sem,↓reduceIte,Nat.reduceEqDiff,Nat.reduceBEq,Nat.reduceAdd,Nat.reduceSub,Nat.reduceLT,Nat.reduceLeDiff,Int.reduceLT,Int.reduceLE,Int.reduceEq,Int.reduceToNat]
     repeat' (
       first | refine q5z ?_ ?_ | refine q3z ?_ ?_ | refine q4z ?_ ?_
       all_goals intro aj
       all_goals first | replace aj:=q2z aj | replace aj:=q1z aj | skip
       all_goals first | subst aj | replace au:=And.intro aj au
       all_goals try simp only[au,e2,e3,e4,lz,c',lT,zJ,oR,l0,l3,wT,hy4,vw,eZ,go_sem,↓reduceIte,Nat.reduceEqDiff,Nat.reduceBEq,Nat.reduceAdd,Nat.reduceSub,Nat.reduceLT,Nat.reduceLeDiff,Int.reduceLT,Int.reduceLE,Int.reduceEq,Int.reduceToNat])
     obtain ⟨W1,hW1⟩:∃W1:W,(⟨xr X.a (nn d),X.b,X.c,xr X.d (nn (d.drop 4))⟩:W)=W1:=⟨_,rfl⟩
     have O8:kG P (i+1)=dC W1 3:=by rw[CS,←hW1];rfl
     refine bh (fun m e H'=>∃j,m=3 - j∧j≤3∧e 52= .s (.int .i64 (j:Nat))∧e 2= .ptr h.length [0] 1∧e 3= .ptr (h.length+1) [0] 1∧e 4=y∧H'=H.set (h.length+1) (.cells (some 155) [.arr 155 (dC W1 j).vs]))
       (fun e H'=> e 2= .ptr h.length [0] 1∧e 3= .ptr (h.length+1) [0] 1∧e 4=y∧H'=H.set (h.length+1) (.cells (some 155) [.arr 155 (dC W1 3).vs]))
       3 _ _ ⟨0,rfl,by omega,rfl,e2,e3,e4,by rw[←hW1];rfl⟩ ?_ ?_
     ·rintro m e H' ⟨j,rfl,hj,e52,e2,e3,e4,hH'⟩
      by_cases c:j < 3
      ·have c':(j:Int)< 3:=by omega
       have aR:=Bt h.length H' (h.length+1) (dC W1 j) (by rw[hH'];exact oR _)
       have pK:H'.set (h.length+1) (.cells (some 155) [.arr 155 (gK (dC W1 j)).vs])=H.set (h.length+1) (.cells (some 155) [.arr 155 (dC W1 (j+1)).vs]):=by rw[hH',List.set_set];rfl
       rw[pK] at aR
       have iy:IntKind.i64.wrap ((j:Int)+1)=((j+1:Nat):Int):=q17z (by omega)
       have au:(0:Nat)=0:=rfl
       try simp only[e52,e2,e3,e4,c',aR,iy,go_sem,↓reduceIte,Nat.reduceEqDiff,Nat.reduceBEq,Nat.reduceAdd,Nat.reduceSub,Nat.reduceLT,Nat.reduceLeDiff,Int.reduceLT,Int.reduceLE,Int.reduceEq,Int.reduceToNat]
       repeat' (
         first | refine q5z ?_ ?_ | refine q3z ?_ ?_ | refine q4z ?_ ?_
         all_goals intro aj
         all_goals first | replace aj:=q2z aj | replace aj:=q1z aj | skip
         all_goals first | subst aj | replace au:=And.intro aj au
         all_goals try simp only[au,e52,e2,e3,e4,c',aR,iy,go_sem,↓reduceIte,Nat.reduceEqDiff,Nat.reduceBEq,Nat.reduceAdd,Nat.reduceSub,Nat.reduceLT,Nat.reduceLeDiff,Int.reduceLT,Int.reduceLE,Int.reduceEq,Int.reduceToNat])
       all_goals exact ⟨3 - (j+1),by omega,j+1,rfl,by omega,rfl,rfl⟩
      ·have c':¬(j:Int)< 3:=by omega
       have:j=3:=by omega
       subst this
       have au:(0:Nat)=0:=rfl
       try simp only[e52,e2,e3,e4,c',go_sem,↓reduceIte,Nat.reduceEqDiff,Nat.reduceBEq,Nat.reduceAdd,Nat.reduceSub,Nat.reduceLT,Nat.reduceLeDiff,Int.reduceLT,Int.reduceLE,Int.reduceEq,Int.reduceToNat]
       repeat' (
         first | refine q5z ?_ ?_ | refine q3z ?_ ?_ | refine q4z ?_ ?_
         all_goals intro aj
         all_goals first | replace aj:=q2z aj | replace aj:=q1z aj | skip
         all_goals first | subst aj | replace au:=And.intro aj au
         all_goals try simp only[au,e52,e2,e3,e4,c',go_sem,↓reduceIte,Nat.reduceEqDiff,Nat.reduceBEq,Nat.reduceAdd,Nat.reduceSub,Nat.reduceLT,Nat.reduceLeDiff,Int.reduceLT,Int.reduceLE,Int.reduceEq,Int.reduceToNat])
       all_goals exact hH'
     ·rintro e H' ⟨e2,e3,e4,hH'⟩
      obtain ⟨y8,hy8,br8⟩:=(GV [.arr 155 (dC W1 3).vs]).lo (k:= .i64) (r:=8) (by omega)
      have hy8:∀cf base,aB cf base H' (.jg none true false false) [y,.s (.int .i64 8)]=some (y8,H'):=by rw[hH'];exact hy8
      rw[←hH'] at br8
      have au:(0:Nat)=0:=rfl
      try simp only[e2,e3,e4,hy8,go_sem,↓reduceIte,Nat.reduceEqDiff,Nat.reduceBEq,Nat.reduceAdd,Nat.reduceSub,Nat.reduceLT,Nat.reduceLeDiff,Int.reduceLT,Int.reduceLE,Int.reduceEq,Int.reduceToNat]
      repeat' (
        first | refine q5z ?_ ?_ | refine q3z ?_ ?_ | refine q4z ?_ ?_
        all_goals intro aj
        all_goals first | replace aj:=q2z aj | replace aj:=q1z aj | skip
        all_goals first | subst aj | replace au:=And.intro aj au
        all_goals try simp only[au,e2,e3,e4,hy8,go_sem,↓reduceIte,Nat.reduceEqDiff,Nat.reduceBEq,Nat.reduceAdd,Nat.reduceSub,Nat.reduceLT,Nat.reduceLeDiff,Int.reduceLT,Int.reduceLE,Int.reduceEq,Int.reduceToNat])
      all_goals exact ⟨N - (i+1),by omega,i+1,y8,rfl,by omega,rfl,by rw[hH'];exact rk _,by rw[hH',O8];exact oR _,by rw[hd8];exact br8,by rw[hH'];exact mY _⟩
    ·have c':¬(0:Int)<((8 *(N - i):Nat):Int):=by omega
     have:i=N:=by omega
     have au:(0:Nat)=0:=rfl
     try simp only[e2,e3,e4,lz,c',go_sem,↓reduceIte,Nat.reduceEqDiff,Nat.reduceBEq,Nat.reduceAdd,Nat.reduceSub,Nat.reduceLT,Nat.reduceLeDiff,Int.reduceLT,Int.reduceLE,Int.reduceEq,Int.reduceToNat]
     repeat' (
       first | refine q5z ?_ ?_ | refine q3z ?_ ?_ | refine q4z ?_ ?_
       all_goals intro aj
       all_goals first | replace aj:=q2z aj | replace aj:=q1z aj | skip
       all_goals first | subst aj | replace au:=And.intro aj au
       all_goals try simp only[au,e2,e3,e4,lz,c',go_sem,↓reduceIte,Nat.reduceEqDiff,Nat.reduceBEq,Nat.reduceAdd,Nat.reduceSub,Nat.reduceLT,Nat.reduceLeDiff,Int.reduceLT,Int.reduceLE,Int.reduceEq,Int.reduceToNat])
     all_goals (subst this;exact ⟨cR,cH,fw⟩)
   ·clear br cR cH fw e4 y
    rintro e H ⟨e2,e3,cR,cH,fw⟩
    have hXok:=vu P N
    generalize kG P N=X at cH rS hXok
    have oR:∀c,(H.set (h.length+1) c)[h.length+1]? =some c:=fun c=> q9z cH
    have rk:∀c,(H.set (h.length+1) c)[h.length]? =some (.cells (some 25) [.arr 25 fb]):=fun c=> by rw[List.getElem?_set_ne (by omega)];exact cR
    have mY:∀c,Fw [] h (H.set (h.length+1) c):=fun c=> fw.cK (by omega) c
    have au:(0:Nat)=0:=rfl
    try simp only[e2,e3,go_sem,↓reduceIte,Nat.reduceEqDiff,Nat.reduceBEq,Nat.reduceAdd,Nat.reduceSub,Nat.reduceLT,Nat.reduceLeDiff,Int.reduceLT,Int.reduceLE,Int.reduceEq,Int.reduceToNat]
    repeat' (
      first | refine q5z ?_ ?_ | refine q3z ?_ ?_ | refine q4z ?_ ?_
      all_goals intro aj
      all_goals first | replace aj:=q2z aj | replace aj:=q1z aj | skip
      all_goals first | subst aj | replace au:=And.intro aj au
      all_goals try simp only[au,e2,e3,go_sem,↓reduceIte,Nat.reduceEqDiff,Nat.reduceBEq,Nat.reduceAdd,Nat.reduceSub,Nat.reduceLT,Nat.reduceLeDiff,Int.reduceLT,Int.reduceLE,Int.reduceEq,Int.reduceToNat])
    refine bh (fun m e H'=>∃j,m=8 - j∧j≤8∧e 56= .s (.int .i64 (j:Nat))∧e 2= .ptr h.length [0] 1∧e 3= .ptr (h.length+1) [0] 1∧H'[h.length]? =some (.cells (some 25) [.arr 25 fb])∧H'[h.length+1]? =some (.cells (some 155) [.arr 155 (dC X j).vs])∧Fw [] h H')
      (fun e H'=> e 2= .ptr h.length [0] 1∧e 3= .ptr (h.length+1) [0] 1∧H'[h.length]? =some (.cells (some 25) [.arr 25 fb])∧H'[h.length+1]? =some (.cells (some 155) [.arr 155 (dC X 8).vs])∧Fw [] h H')
      8 _ _ ⟨0,rfl,by omega,rfl,e2,e3,cR,cH,fw⟩ ?_ ?_
    ·clear oR rk mY cR cH fw
     rintro m e H' ⟨j,rfl,hj,e56,e2,e3,cR,cH,fw⟩
     by_cases c:j < 8
     ·have c':(j:Int)< 8:=by omega
      have aR:=Bt h.length H' (h.length+1) (dC X j) cH
      have oR:=q9z cH (b:= .cells (some 155) [.arr 155 (dC X (j+1)).vs])
      have rk:(H'.set (h.length+1) (.cells (some 155) [.arr 155 (dC X (j+1)).vs]))[h.length]? =some (.cells (some 25) [.arr 25 fb]):=by rw[List.getElem?_set_ne (by omega)];exact cR
      have mY:Fw [] h (H'.set (h.length+1) (.cells (some 155) [.arr 155 (dC X (j+1)).vs])):=fw.cK (by omega) _
      have aR:run pF zH h.length 93 [.ptr (h.length+1) [0] 1] H'=some (.bI [],H'.set (h.length+1) (.cells (some 155) [.arr 155 (dC X (j+1)).vs])):=aR
      have iy:IntKind.i64.wrap ((j:Int)+1)=((j+1:Nat):Int):=q17z (by omega)
      have au:(0:Nat)=0:=rfl
      try simp only[e56,e2,e3,c',aR,iy,go_sem,↓reduceIte,Nat.reduceEqDiff,Nat.reduceBEq,Nat.reduceAdd,Nat.reduceSub,Nat.reduceLT,Nat.reduceLeDiff,Int.reduceLT,Int.reduceLE,Int.reduceEq,Int.reduceToNat]
      repeat' (
        first | refine q5z ?_ ?_ | refine q3z ?_ ?_ | refine q4z ?_ ?_
        all_goals intro aj
        all_goals first | replace aj:=q2z aj | replace aj:=q1z aj | skip
        all_goals first | subst aj | replace au:=And.intro aj au
        all_goals try simp only[au,e56,e2,e3,c',aR,iy,go_sem,↓reduceIte,Nat.reduceEqDiff,Nat.reduceBEq,Nat.reduceAdd,Nat.reduceSub,Nat.reduceLT,Nat.reduceLeDiff,Int.reduceLT,Int.reduceLE,Int.reduceEq,Int.reduceToNat])
      all_goals exact ⟨8 - (j+1),by omega,j+1,rfl,by omega,rfl,rk,oR,mY⟩
     ·have c':¬(j:Int)< 8:=by omega
      have:j=8:=by omega
      subst this
      have au:(0:Nat)=0:=rfl
      try simp only[e56,e2,e3,c',go_sem,↓reduceIte,Nat.reduceEqDiff,Nat.reduceBEq,Nat.reduceAdd,Nat.reduceSub,Nat.reduceLT,Nat.reduceLeDiff,Int.reduceLT,Int.reduceLE,Int.reduceEq,Int.reduceToNat]
      repeat' (
        first | refine q5z ?_ ?_ | refine q3z ?_ ?_ | refine q4z ?_ ?_
        all_goals intro aj
        all_goals first | replace aj:=q2z aj | replace aj:=q1z aj | skip
        all_goals first | subst aj | replace au:=And.intro aj au
        all_goals try simp only[au,e56,e2,e3,c',go_sem,↓reduceIte,Nat.reduceEqDiff,Nat.reduceBEq,Nat.reduceAdd,Nat.reduceSub,Nat.reduceLT,Nat.reduceLeDiff,Int.reduceLT,Int.reduceLE,Int.reduceEq,Int.reduceToNat])
      all_goals exact ⟨cR,cH,fw⟩
    ·clear oR rk mY cR cH fw
     rintro e H ⟨e2,e3,cR,cH,fw⟩
     have hYok:=rN hXok 8
     generalize dC X 8=Y at cH rS hYok
     have au:(0:Nat)=0:=rfl
     try simp only[e2,e3,go_sem,↓reduceIte,Nat.reduceEqDiff,Nat.reduceBEq,Nat.reduceAdd,Nat.reduceSub,Nat.reduceLT,Nat.reduceLeDiff,Int.reduceLT,Int.reduceLE,Int.reduceEq,Int.reduceToNat]
     repeat' (
       first | refine q5z ?_ ?_ | refine q3z ?_ ?_ | refine q4z ?_ ?_
       all_goals intro aj
       all_goals first | replace aj:=q2z aj | replace aj:=q1z aj | skip
       all_goals first | subst aj | replace au:=And.intro aj au
       all_goals try simp only[au,e2,e3,go_sem,↓reduceIte,Nat.reduceEqDiff,Nat.reduceBEq,Nat.reduceAdd,Nat.reduceSub,Nat.reduceLT,Nat.reduceLeDiff,Int.reduceLT,Int.reduceLE,Int.reduceEq,Int.reduceToNat])
     have gh:h.length+1 < H.length:=q6z cH
     have hT:(H++[aV.cells (some 25) [.arr 25 fb]])[H.length]? =_:=aM H [aV.cells (some 25) [.arr 25 fb]]
     obtain ⟨o,ho⟩:∃o,H.length=o:=⟨_,rfl⟩
     have YX:fb=(fg Y 0++List.replicate 16 0).map aa:=rfl
     refine bh (fun m e H'=>∃i,m=16 - i∧i≤16∧e 60= .s (.int .i64 (i:Nat))∧e 2= .ptr h.length [0] 1∧e 3= .ptr (h.length+1) [0] 1∧e 6= .ptr o [0] 1∧H'[h.length]? =some (.cells (some 25) [.arr 25 fb])∧H'[h.length+1]? =some (.cells (some 155) [.arr 155 Y.vs])∧H'[o]? =some (.cells (some 25) [.arr 25 ((fg Y i++List.replicate (16 - i) 0).map aa)])∧Fw [] h H')
       (fun e H'=> e 2= .ptr h.length [0] 1∧e 6= .ptr o [0] 1∧H'[h.length]? =some (.cells (some 25) [.arr 25 fb])∧H'[o]? =some (.cells (some 25) [.arr 25 ((fg Y 16).map aa)])∧Fw [] h H')
       16 _ _ ⟨0,rfl,by omega,rfl,e2,e3,by rw[←ho];rfl,q10z cR _,q10z cH _,by rw[←ho];exact hT,fw.trans (Fw.app _ _ _)⟩ ?_ ?_
     ·clear hT cR cH fw
      rintro m e H' ⟨i,rfl,hi,e60,e2,e3,e6,cR,cH,jc,fw⟩
      by_cases c:i < 16
      ·have c':(i:Int)< 16:=by omega
       have c16:(i:Int)<((16:Nat):Int):=by omega
       have i0:(0:Int)≤(i:Int):=by omega
       have hq:∀cf base h,aB cf base h (.bin .num .quo) [.s (.int .i64 i),.s (.int .i64 4)]=some (.s (.int .i64 ((i / 4:Nat):Int)),h):=fun cf base h=> by
         rw[xd cf base h .i64 _ 4 (by omega),Int.tdiv_eq_ediv_of_nonneg (by omega),wrap_i64 (by omega) (by omega)];rfl
       have hr:∀cf base h,aB cf base h (.bin .num .rem) [.s (.int .i64 i),.s (.int .i64 4)]=some (.s (.int .i64 ((i % 4:Nat):Int)),h):=fun cf base h=> by
         rw[lY cf base h .i64 _ 4 (by omega),Int.tmod_eq_emod_of_nonneg (by omega)];rfl
       have w8:IntKind.i64.wrap (8 *((i % 4:Nat):Int))=((8 *(i % 4):Nat):Int):=by rw[wrap_i64 (by omega) (by omega)];omega
       have xc:∀cf base h,aB cf base h (.bin .num .shr) [.s (.int .u32 ((Y.at (i / 4):Nat):Int)),.s (.int .i64 ((8 *(i % 4):Nat):Int))]=some (.s (.int .u32 ((Y.at (i / 4)/ 2 ^(8 *(i % 4)):Nat):Int)),h):=fun cf base h=> by
         rw[oQ cf base h .u32 .i64 _ _ (by omega),GN (by omega)]
       have hYv:Y.vs[i / 4]? =some (.s (.int .u32 ((Y.at (i / 4):Nat):Int))):=by
         have:i / 4=0∨i / 4=1∨i / 4=2∨i / 4=3:=by omega
         rcases this with h | h | h | h <;> rw[h]<;> rfl
       have hYl:Y.vs.length=4:=rfl
       have c4:((i / 4:Nat):Int)< 4:=by omega
       have c4':((i / 4:Nat):Int)<((4:Nat):Int):=by omega
       have j0:(0:Int)≤((i / 4:Nat):Int):=by omega
       have c4n:i / 4 < 4:=by omega
       have Bu:((fg Y i++List.replicate (16 - i) 0).map aa).length=16:=by rw[List.length_map,List.length_append,gL,List.length_replicate];omega
       obtain ⟨z,hz,hzt⟩:∃z,((fg Y i++List.replicate (16 - i) 0).map aa)[i]? =some z∧z.ty=none:=by
         refine ⟨aa ((fg Y i++List.replicate (16 - i) 0)[i]'(by rw[List.length_map] at Bu;omega)),?_,rfl⟩
         rw[List.getElem?_map,List.getElem?_eq_getElem (by rw[List.length_map] at Bu;omega)];rfl
       have aR:((fg Y i++List.replicate (16 - i) 0).map aa).set i (V.s (.int .u8 (IntKind.u8.wrap ((Y.at (i / 4)/ 2 ^(8 *(i % 4)):Nat):Int))))=(fg Y (i+1)++List.replicate (16 - (i+1)) 0).map aa:=by
         rw[vv,←List.map_set,List.set_append_right _ _ (by rw[gL];exact Nat.le_refl _),gL,Nat.sub_self,show 16 - i=(16 - (i+1))+1 by omega,List.replicate_succ,List.set_cons_zero,fg,List.append_assoc]
         rfl
       generalize (fg Y i++List.replicate (16 - i) 0).map aa=vs at jc Bu hz aR
       have XW:h.length+1≠o:=by omega
       have XX:h.length≠o:=by omega
       have n0:(H'.set o (.cells (some 25) [.arr 25 ((fg Y (i+1)++List.replicate (16 - (i+1)) 0).map aa)]))[h.length]? =some (.cells (some 25) [.arr 25 fb]):=by rw[List.getElem?_set_ne (by omega)];exact cR
       have n1:(H'.set o (.cells (some 25) [.arr 25 ((fg Y (i+1)++List.replicate (16 - (i+1)) 0).map aa)]))[h.length+1]? =some (.cells (some 155) [.arr 155 Y.vs]):=by rw[List.getElem?_set_ne (by omega)];exact cH
       have n2:=q9z jc (b:= .cells (some 25) [.arr 25 ((fg Y (i+1)++List.replicate (16 - (i+1)) 0).map aa)])
       have nf:Fw [] h (H'.set o (.cells (some 25) [.arr 25 ((fg Y (i+1)++List.replicate (16 - (i+1)) 0).map aa)])):=fw.cK (by omega) _
       have iy:IntKind.i64.wrap ((i:Int)+1)=((i+1:Nat):Int):=q17z (by omega)
       have au:(0:Nat)=0:=rfl
       try simp only[e60,e2,e3,e6,c',c16,i0,hq,hr,w8,xc,hYv,hYl,c4,c4',j0,c4n,Bu,hz,hzt,aR,cR,cH,jc,eZ,iy,Int.toNat_natCast,go_sem,↓reduceIte,Nat.reduceEqDiff,Nat.reduceBEq,Nat.reduceAdd,Nat.reduceSub,Nat.reduceLT,Nat.reduceLeDiff,Int.reduceLT,Int.reduceLE,Int.reduceEq,Int.reduceToNat]
       repeat' (
         first | refine q5z ?_ ?_ | refine q3z ?_ ?_ | refine q4z ?_ ?_
         all_goals intro aj
         all_goals first | replace aj:=q2z aj | replace aj:=q1z aj | skip
         all_goals first | subst aj | replace au:=And.intro aj au
         all_goals try simp only[au,e60,e2,e3,e6,c',c16,i0,hq,hr,w8,xc,hYv,hYl,c4,c4',j0,c4n,Bu,hz,hzt,aR,cR,cH,jc,eZ,iy,Int.toNat_natCast,go_sem,↓reduceIte,Nat.reduceEqDiff,Nat.reduceBEq,Nat.reduceAdd,Nat.reduceSub,Nat.reduceLT,Nat.reduceLeDiff,Int.reduceLT,Int.reduceLE,Int.reduceEq,Int.reduceToNat])
       all_goals exact ⟨16 - (i+1),by omega,i+1,rfl,by omega,rfl,n0,n1,n2,nf⟩
      ·have c':¬(i:Int)< 16:=by omega
       have:i=16:=by omega
       subst this
       rw[Nat.sub_self,List.replicate_zero,List.append_nil] at jc
       have au:(0:Nat)=0:=rfl
       try simp only[e60,e2,e3,e6,c',go_sem,↓reduceIte,Nat.reduceEqDiff,Nat.reduceBEq,Nat.reduceAdd,Nat.reduceSub,Nat.reduceLT,Nat.reduceLeDiff,Int.reduceLT,Int.reduceLE,Int.reduceEq,Int.reduceToNat]
       repeat' (
         first | refine q5z ?_ ?_ | refine q3z ?_ ?_ | refine q4z ?_ ?_
         all_goals intro aj
         all_goals first | replace aj:=q2z aj | replace aj:=q1z aj | skip
         all_goals first | subst aj | replace au:=And.intro aj au
         all_goals try simp only[au,e60,e2,e3,e6,c',go_sem,↓reduceIte,Nat.reduceEqDiff,Nat.reduceBEq,Nat.reduceAdd,Nat.reduceSub,Nat.reduceLT,Nat.reduceLeDiff,Int.reduceLT,Int.reduceLE,Int.reduceEq,Int.reduceToNat])
       all_goals exact ⟨cR,jc,fw⟩
     ·clear hT cR cH fw
      rintro e H' ⟨e2,e6,cR,jc,fw⟩
      have eA:∀c,(H'.set h.length c).take h.length=h:=fun c=>(fw.cK (Nat.le_refl _) c).take
      have oR:∀c,(H'.set h.length c)[h.length]? =some c:=fun c=> q9z cR
      rw[←rS] at jc
      have hlen:=bj l
      have df:∀n h,bA.all n h ((cS l).map aa)=some ((cS l).map aa):=fun n h=> rQ n h (cS l)
      generalize (cS l).map aa=ws at jc df
      have au:(0:Nat)=0:=rfl
      try simp only[e2,e6,cR,jc,eA,oR,eZ,df,go_sem,↓reduceIte,Nat.reduceEqDiff,Nat.reduceBEq,Nat.reduceAdd,Nat.reduceSub,Nat.reduceLT,Nat.reduceLeDiff,Int.reduceLT,Int.reduceLE,Int.reduceEq,Int.reduceToNat]
      repeat' (
        first | refine q5z ?_ ?_ | refine q3z ?_ ?_ | refine q4z ?_ ?_
        all_goals intro aj
        all_goals first | replace aj:=q2z aj | replace aj:=q1z aj | skip
        all_goals first | subst aj | replace au:=And.intro aj au
        all_goals try simp only[au,e2,e6,cR,jc,eA,oR,eZ,df,go_sem,↓reduceIte,Nat.reduceEqDiff,Nat.reduceBEq,Nat.reduceAdd,Nat.reduceSub,Nat.reduceLT,Nat.reduceLeDiff,Int.reduceLT,Int.reduceLE,Int.reduceEq,Int.reduceToNat])
theorem CT {c:Ctx} {w:World} {vs:List V} {us:List Value} {h:Hp} {v:V} {h':Hp} (hr:wV vs h=some (v,h')) (hv:fC (ak Tryz.prog) c vs us) (hs:bc (ak Tryz.prog) c h w):eQ Tryz.prog (ak Tryz.prog) c w 60 us v h':=by
 unfold wV at hr
 split at hr
 case h_2=> cases hr
 rename_i x
 split at hr
 case h_2=> cases hr
 rename_i es he
 split at hr
 case h_2=> cases hr
 rename_i l hb
 split at hr
 case isFalse=> cases hr
 rename_i hl
 cases hr
 have GV:Rd h x l:=Rd.mk' (by rw[he,hl.1]) hl.2.1
 exact ((tT nU Kn O3 O4 0 _ _ _ _ _ (O6 0 h x l GV hl.2.2)).2 c w us hv hs)
end Go.Proofs.YtannfageakbpmaaGreat
namespace Go.Cl
open Go.Vm
abbrev bB (n:Nat):Bs:=(List.range 8).map fun i=> UInt8.ofNat (n / 256 ^(7 - i) % 256)
theorem bF (n:Nat):(bB n).length=8:=by simp[bB]
end Go.Cl
namespace Go.Proofs.YtannfageakbpmaaGreat
open Go Go.Vm Go.Proofs Go.Cl
set_option maxRecDepth 100000
def q8 (n j:Nat):List V:=((bB n).take j).map aa++List.replicate (8 - j) (.s (.int .u8 0))
theorem CU (n:Nat):q8 n 0=[.s (.int .u8 0),.s (.int .u8 0),.s (.int .u8 0),.s (.int .u8 0),.s (.int .u8 0),.s (.int .u8 0),.s (.int .u8 0),.s (.int .u8 0)]:=by simp[q8]
theorem GW (n j:Nat) (hj:j≤8):(q8 n j).length=8:=by simp[q8];omega
theorem GX (n:Nat):q8 n 8=(bB n).map aa:=by
 unfold q8
 rw[List.take_of_length_le (by rw[bF];omega)]
 exact List.append_nil _
theorem CV (n j:Nat) (hj:j < 8):(q8 n j).set j (aa (UInt8.ofNat (n / 256 ^(7 - j) % 256)))=q8 n (j+1):=by
 have:j=0∨j=1∨j=2∨j=3∨j=4∨j=5∨j=6∨j=7:=by omega
 rcases this with rfl | rfl | rfl | rfl | rfl | rfl | rfl | rfl <;> simp[q8,bB,List.range_succ,List.replicate]
theorem GY (n j:Nat) (hj:j < 8):∃o,(q8 n j)[j]? =some (.s o):=by
 have:j=0∨j=1∨j=2∨j=3∨j=4∨j=5∨j=6∨j=7:=by omega
 rcases this with rfl | rfl | rfl | rfl | rfl | rfl | rfl | rfl <;> exact ⟨_,rfl⟩
theorem eB (b:Nat) (h:Hp) (n:Nat) (hn:n < 18446744073709551616) (hb:b≤h.length):run fns pr b 41 [.s (.int .u64 n)] h=some (.ref h.length [] none 0 8 8,h++[.cells none ((bB n).map aa)]):=by
 refine Vm.runN (nt:=22) rfl SH (by simp) ?_
 have au:(0:Nat)=0:=rfl
 try simp only[B41,FR,FQ,go_sem,↓reduceIte,Nat.reduceEqDiff,Nat.reduceBEq,Nat.reduceAdd,Nat.reduceSub,Nat.reduceLT,Nat.reduceLeDiff,Int.reduceLT,Int.reduceLE,Int.reduceEq,Int.reduceToNat]
 repeat' (
   first | refine q5z ?_ ?_ | refine q3z ?_ ?_ | refine q4z ?_ ?_
   all_goals intro aj
   all_goals first | replace aj:=q2z aj | replace aj:=q1z aj | skip
   all_goals first | subst aj | replace au:=And.intro aj au
   all_goals try simp only[au,B41,FR,FQ,go_sem,↓reduceIte,Nat.reduceEqDiff,Nat.reduceBEq,Nat.reduceAdd,Nat.reduceSub,Nat.reduceLT,Nat.reduceLeDiff,Int.reduceLT,Int.reduceLE,Int.reduceEq,Int.reduceToNat])
 refine bh (fun m e H=>∃j,m=8 - j∧j≤8∧e 8= .s (.int .i64 (j:Nat))∧e 7= .s (.int .i64 8)∧e 3= .ref h.length [] none 0 8 8∧e 0= .s (.int .u64 n)∧H=h++[.cells none (q8 n j)])
   (fun e H=> e 3= .ref h.length [] none 0 8 8∧H=h++[.cells none (q8 n 8)]) 8 _ _ ⟨0,rfl,by omega,rfl,rfl,rfl,rfl,by rw[CU];rfl⟩ ?_ ?_
 ·rintro m e H ⟨j,rfl,hj,e8,e7,e3,e0,rfl⟩
  have hl:=GW n j hj
  by_cases c:j < 8
  ·have c':(j:Int)< 8:=by omega
   have w1:IntKind.i64.wrap (7 - (j:Int))=((7 - j:Nat):Int):=by rw[wrap_i64 (by omega) (by omega)];omega
   have w2:IntKind.i64.wrap (8 *((7 - j:Nat):Int))=((8 *(7 - j):Nat):Int):=by rw[wrap_i64 (by omega) (by omega)];omega
   have w3:IntKind.i64.wrap ((j:Int)+1)=((j+1:Nat):Int):=q17z (by omega)
   have hs:=fun cf base h=> oQ (cf:=cf) (base:=base) (h:=h) .u64 .i64 (n:Int) ((8 *(7 - j):Nat):Int) (by omega)
   have s2:pG .u64 (n:Int) ((8 *(7 - j):Nat):Int)=_:=M3 (a:=n) (k:=8 *(7 - j)) (by omega)
   have hp:2 ^(8 *(7 - j))=256 ^(7 - j):=by rw[Nat.pow_mul]
   rw[hp] at s2
   have aR:=CV n j c
   obtain ⟨o,ho⟩:=GY n j c
   have cc:(0≤(j:Int)∧(j:Int)<((8:Nat):Int)∧j < 8)=True:=by simp;omega
   have so:(aa (UInt8.ofNat (n / 256 ^(7 - j) % 256))).ax=true:=rfl
   have to:(aa (UInt8.ofNat (n / 256 ^(7 - j) % 256))).ty=none:=rfl
   have gr:(aa (UInt8.ofNat (n / 256 ^(7 - j) % 256))).ground=true:=rfl
   have au:(0:Nat)=0:=rfl
   try simp only[e8,e7,e3,e0,c',w1,w2,w3,hs,s2,vv,hl,cc,ho,so,to,gr,aR,go_sem,↓reduceIte,Nat.reduceEqDiff,Nat.reduceBEq,Nat.reduceAdd,Nat.reduceSub,Nat.reduceLT,Nat.reduceLeDiff,Int.reduceLT,Int.reduceLE,Int.reduceEq,Int.reduceToNat]
   repeat' (
     first | refine q5z ?_ ?_ | refine q3z ?_ ?_ | refine q4z ?_ ?_
     all_goals intro aj
     all_goals first | replace aj:=q2z aj | replace aj:=q1z aj | skip
     all_goals first | subst aj | replace au:=And.intro aj au
     all_goals try simp only[au,e8,e7,e3,e0,c',w1,w2,w3,hs,s2,vv,hl,cc,ho,so,to,gr,aR,go_sem,↓reduceIte,Nat.reduceEqDiff,Nat.reduceBEq,Nat.reduceAdd,Nat.reduceSub,Nat.reduceLT,Nat.reduceLeDiff,Int.reduceLT,Int.reduceLE,Int.reduceEq,Int.reduceToNat])
   all_goals exact ⟨8 - (j+1),by omega,j+1,rfl,by omega,by simp_all⟩
  ·have c':¬(j:Int)< 8:=by omega
   have hj8:j=8:=by omega
   subst hj8
   have au:(0:Nat)=0:=rfl
   try simp only[e8,e7,e3,c',go_sem,↓reduceIte,Nat.reduceEqDiff,Nat.reduceBEq,Nat.reduceAdd,Nat.reduceSub,Nat.reduceLT,Nat.reduceLeDiff,Int.reduceLT,Int.reduceLE,Int.reduceEq,Int.reduceToNat]
   repeat' (
     first | refine q5z ?_ ?_ | refine q3z ?_ ?_ | refine q4z ?_ ?_
     all_goals intro aj
     all_goals first | replace aj:=q2z aj | replace aj:=q1z aj | skip
     all_goals first | subst aj | replace au:=And.intro aj au
     all_goals try simp only[au,e8,e7,e3,c',go_sem,↓reduceIte,Nat.reduceEqDiff,Nat.reduceBEq,Nat.reduceAdd,Nat.reduceSub,Nat.reduceLT,Nat.reduceLeDiff,Int.reduceLT,Int.reduceLE,Int.reduceEq,Int.reduceToNat])
   all_goals simp_all
 ·rintro e H ⟨e3,rfl⟩
  rw[GX]
  have au:(0:Nat)=0:=rfl
  try simp only[e3,go_sem,↓reduceIte,Nat.reduceEqDiff,Nat.reduceBEq,Nat.reduceAdd,Nat.reduceSub,Nat.reduceLT,Nat.reduceLeDiff,Int.reduceLT,Int.reduceLE,Int.reduceEq,Int.reduceToNat]
  repeat' (
    first | refine q5z ?_ ?_ | refine q3z ?_ ?_ | refine q4z ?_ ?_
    all_goals intro aj
    all_goals first | replace aj:=q2z aj | replace aj:=q1z aj | skip
    all_goals first | subst aj | replace au:=And.intro aj au
    all_goals try simp only[au,e3,go_sem,↓reduceIte,Nat.reduceEqDiff,Nat.reduceBEq,Nat.reduceAdd,Nat.reduceSub,Nat.reduceLT,Nat.reduceLeDiff,Int.reduceLT,Int.reduceLE,Int.reduceEq,Int.reduceToNat])
theorem iG (b:Nat) (h:Hp) (xs:List V):run fns pr b 91 xs h=dG xs h:=by rw[nZ fns pr rfl];rfl
theorem vx (b:Nat) (h:Hp) (x:V) (l:Bs) (hr:Rd h x l) (hl:l.length≤1000000):run fns pr b 60 [x] h=some (.arr 25 ((cS l).map aa),h):=by
 rw[nZ fns pr rfl];exact Br hr hl
theorem Rd.source {h:Hp} {x:V} {l:Bs} (hr:Rd h x l):source h x=some (none,l.map aa):=by
 have:=hr.1 h (Fw.refl _ _)
 cases x <;> first | exact this | (simp[elems] at this)
theorem Bv {cf:CF} {base:Nat} {H:Hp} {id:Nat} {l m:Bs} {y:V} (hg:H[id]? =some (.cells none (l.map aa))) (hs:source H y=some (none,m.map aa)) (hl:l.length+m.length≤140737488355328):
 aB cf base H (.app none 1) [.ref id [] none 0 l.length l.length,y]=some (.ref id [] none 0 (l.length+m.length) (l.length+m.length),H.set id (.cells none ((l++m).map aa))):=by
 by_cases hm:m=[]
 ·subst hm
  rw[List.append_nil,iL hs (n:=l.length) rfl]
  rw[jX hg];simp
 ·have cD:m.map aa≠[]:=by simpa using hm
  have:=gj (cf:=cf) (base:=base) (bytes:=1) hg hs cD (fun y hy=> by
    obtain ⟨b,_,rfl⟩:=List.mem_map.1 hy
    simp[bO,aa,V.ground]) (by simpa using hl)
  simpa using this
def dj (k l:Bs):Bs:=cS (k++l)
theorem oT (b:Nat) (h:Hp) (x:V) (k l:Bs) (hk:k.length=16) (hr:Rd h x l) (hl:l.length≤900000):run fns pr b 79 [.arr 25 (k.map aa),x] h=some (.arr 25 ((dj k l).map aa),h):=by
 refine Vm.aU (nt:=10) rfl T3 (by simp) ?_
 have fV:(k.map aa).length=16:=by simp[hk]
 have hk0:k≠[]:=by intro e;rw[e] at hk;cases hk
 have bP:elems (h++[aV.cells (some 25) [V.arr 25 (k.map aa)],aV.cells (some 25) [bC 25]]) (.ref h.length [0] none 0 16 1)=some (none,k.map aa):=by
   simp only[dU,go_sem,↓reduceIte,Nat.reduceEqDiff,Nat.reduceBEq,Nat.reduceAdd,Nat.reduceSub,Nat.reduceLT,Nat.reduceLeDiff,Int.reduceLT,Int.reduceLE,Int.reduceEq,Int.reduceToNat,List.append_assoc,List.length_append,Vm.aK,Vm.ca,Vm.bu,Vm.bo,Vm.bJ,Vm.bp,Nat.le_refl,Nat.le_add_right,fD,List.drop_zero,List.take_of_length_le (Nat.le_of_eq fV)]
 have nq:=pL bP (by omega)
 simp only[cv,ct,hk0,if_false,hk,List.length_append,List.length_cons,List.length_nil] at nq
 generalize hGd:h++[aV.cells (some 25) [V.arr 25 (k.map aa)],aV.cells (some 25) [bC 25]]=G at nq
 have hG:G.length=h.length+2:=by rw[←hGd];simp
 have fG:Fw [] h (G++[aV.cells none (k.map aa)]):=by rw[←hGd,List.append_assoc];exact Fw.app [] h _
 have jb:=fun cf base=> Bv (cf:=cf) (base:=base) (H:=G++[aV.cells none (k.map aa)]) (id:=h.length+2) (l:=k) (m:=l) (y:=x) (by rw[←hG];simp) (hr.fw fG).source (by omega)
 rw[hk] at jb
 have pK:(G++[aV.cells none (k.map aa)]).set (h.length+2) (.cells none ((k++l).map aa))=G++[.cells none ((k++l).map aa)]:=by rw[←hG];simp
 rw[pK] at jb
 have CR:=fun b=> vx b (G++[.cells none ((k++l).map aa)]) (.ref (h.length+2) [] none 0 (16+l.length) (16+l.length)) (k++l) (BR.rd (dH (by rw[←hG];simp) (by simp[hk]))) (by simp;omega)
 have zK:((dj k l).map aa).length=16:=by simp[dj,bj]
 have g0:G[h.length]? =some (.cells (some 25) [.arr 25 (k.map aa)]):=by rw[←hGd];exact (xb h _ _).1
 have g1:G[h.length+1]? =some (.cells (some 25) [bC 25]):=by rw[←hGd];exact (xb h _ _).2
 have g2:∀X,(G++X)[h.length+1]? =some (.cells (some 25) [bC 25]):=fun X=> by rw[List.getElem?_append_left (by omega)];exact g1
 have tk:∀X b,((G++X).set (h.length+1) b).take h.length=h:=fun X b=> by
   rw[List.take_set_of_le (by omega),List.take_append_of_le_length (by omega),←hGd,List.take_left]
 have au:(0:Nat)=0:=rfl
 try simp only[B79,iG,fV,hGd,nq,jb,CR,g0,g1,g2,tk,zK,q9z (g2 _),pM,dj,go_sem,↓reduceIte,Nat.reduceEqDiff,Nat.reduceBEq,Nat.reduceAdd,Nat.reduceSub,Nat.reduceLT,Nat.reduceLeDiff,Int.reduceLT,Int.reduceLE,Int.reduceEq,Int.reduceToNat]
 repeat' (
   first | refine q5z ?_ ?_ | refine q3z ?_ ?_ | refine q4z ?_ ?_
   all_goals intro aj
   all_goals first | replace aj:=q2z aj | replace aj:=q1z aj | skip
   all_goals first | subst aj | replace au:=And.intro aj au
   all_goals try simp only[au,B79,iG,fV,hGd,nq,jb,CR,g0,g1,g2,tk,zK,q9z (g2 _),pM,dj,go_sem,↓reduceIte,Nat.reduceEqDiff,Nat.reduceBEq,Nat.reduceAdd,Nat.reduceSub,Nat.reduceLT,Nat.reduceLeDiff,Int.reduceLT,Int.reduceLE,Int.reduceEq,Int.reduceToNat])
theorem GZ (b:Nat) (h:Hp) (k l:Bs) (hk:k.length=16) (hl:l.length=16):run fns pr b 59 [.arr 25 (k.map aa),.arr 25 (l.map aa)] h=some (.arr 25 ((dj k l).map aa),h):=by
 refine Vm.aU (nt:=8) rfl Tl (by simp) ?_
 have n9:(l.map aa).length=16:=by simp[hl]
 have zK:((dj k l).map aa).length=16:=by simp[dj,bj]
 have yX:=fun b=> oT b (h++[aV.cells (some 25) [V.arr 25 (k.map aa)],aV.cells (some 25) [V.arr 25 (l.map aa)],aV.cells (some 25) [bC 25]]) (.ref (h.length+1) [0] none 0 16 1) k l hk (Rd.mk' (by
   simp only[dU,go_sem,↓reduceIte,Nat.reduceEqDiff,Nat.reduceBEq,Nat.reduceAdd,Nat.reduceSub,Nat.reduceLT,Nat.reduceLeDiff,Int.reduceLT,Int.reduceLE,Int.reduceEq,Int.reduceToNat,List.append_assoc,List.length_append,Vm.aK,Vm.ca,Vm.bu,Vm.bo,Vm.bJ,Vm.bp,Nat.le_refl,Nat.le_add_right,fD,List.drop_zero,List.take_of_length_le (Nat.le_of_eq n9)]) (by simp[fq,hl])) (by omega)
 have au:(0:Nat)=0:=rfl
 try simp only[B59,n9,yX,zK,pM,go_sem,↓reduceIte,Nat.reduceEqDiff,Nat.reduceBEq,Nat.reduceAdd,Nat.reduceSub,Nat.reduceLT,Nat.reduceLeDiff,Int.reduceLT,Int.reduceLE,Int.reduceEq,Int.reduceToNat]
 repeat' (
   first | refine q5z ?_ ?_ | refine q3z ?_ ?_ | refine q4z ?_ ?_
   all_goals intro aj
   all_goals first | replace aj:=q2z aj | replace aj:=q1z aj | skip
   all_goals first | subst aj | replace au:=And.intro aj au
   all_goals try simp only[au,B59,n9,yX,zK,pM,go_sem,↓reduceIte,Nat.reduceEqDiff,Nat.reduceBEq,Nat.reduceAdd,Nat.reduceSub,Nat.reduceLT,Nat.reduceLeDiff,Int.reduceLT,Int.reduceLE,Int.reduceEq,Int.reduceToNat])
def kH (h H:Hp) (v:V) (l:Bs):Prop:=∃k,XR H none k v (l.map aa)∧h.length≤k∧Fw [] h H
theorem kH.br {h H:Hp} {v:V} {l:Bs} (hn:kH h H v l):BR H v l:=let ⟨_,x,_,_⟩:=hn;x.BR
theorem kH.fw {h H:Hp} {v:V} {l:Bs} (hn:kH h H v l):Fw [] h H:=let ⟨_,_,_,f⟩:=hn;f
theorem kH.qX {h H:Hp} {v:V} {l:Bs} (hn:kH h H v l) {n:Nat} (hl:n≤h.length):bA n H v=some (.al false none (l.map aa)):=by
 obtain ⟨k,x,hk,f⟩:=hn
 exact x.qX (Nat.le_trans hl hk) (ed l)
theorem kH.dw {h0 h H:Hp} {v:V} {l:Bs} (hn:kH h H v l) (f:Fw [] h0 h):kH h0 H v l:=by
 obtain ⟨k,x,hk,g⟩:=hn
 exact ⟨k,x,Nat.le_trans f.len hk,f.trans g⟩
theorem kH.mono {h H H':Hp} {v:V} {l:Bs} (hn:kH h H v l) (f:Fw [] H H'):kH h H' v l:=let ⟨k,x,hk,g⟩:=hn;⟨k,x.mono fun b hb=> f.dw _ _ hb (by simp),hk,g.trans f⟩
theorem kH.ty {h H:Hp} {v:V} {l:Bs} (hn:kH h H v l):v.ty=none:=let ⟨_,x,_,_⟩:=hn;x.ty.1
theorem kH.ax {h H:Hp} {v:V} {l:Bs} (hn:kH h H v l):v.ax=true:=let ⟨_,x,_,_⟩:=hn;x.ty.2
theorem kH.app {h H:Hp} {v y:V} {l m:Bs} (hn:kH h H v l) (hs:source H y=some (none,m.map aa)) (hl:l.length+m.length≤140737488355328):
 ∃v' H',(∀cf base,aB cf base H (.app none 1) [v,y]=some (v',H'))∧kH h H' v' (l++m):=by
 obtain ⟨k,x,hk,f⟩:=hn
 obtain ⟨v',H',k',h1,h2,h3,h4,h5,h6,h7⟩:=x.O9 (n:=h.length) (bytes:=1) hk f.len hs (fun z hz=> by obtain ⟨b,_,rfl⟩:=List.mem_map.1 hz;rfl) (by simpa using hl)
 refine ⟨v',H',h1,k',by rw[List.map_append];exact h2,h3,?_⟩
 exact Fw.zL h4 fun j b hb=> by
   have hj:j < h.length:=q6z hb
   exact h7 j b (by omega) (f.dw _ _ hb (by simp))
theorem kH.nil (h:Hp):kH h h (.al true none []) []:=⟨h.length,XR.nil _ _ _,Nat.le_refl _,Fw.refl _ _⟩
theorem tZ {h:Hp} {x:V} {l:Bs} (hb:Rd h x l) (hl:l.length≤140737488355328):∃v H,(∀b,run fns pr b 91 [x] h=some (v,H))∧kH h H v l:=by
 have:=pL (hb.1 h (Fw.refl _ _)) hl
 refine ⟨cv h l,h++ct l,fun b=> by rw[iG];exact this,h.length,?_,Nat.le_refl _,Fw.app [] h _⟩
 unfold cv ct
 by_cases e:l=[]
 ·subst e;exact .inl ⟨by simp,rfl⟩
 ·rw[if_neg e,if_neg e];exact .inr ⟨by simp,by simp⟩
def oU (k:Bs) (n i:Nat):Bs:=(List.range i).flatMap fun j=> dj k (bB n++bB j)
theorem jY (k:Bs) (n:Nat):∀i,(oU k n i).length=16 * i
 | 0=> rfl
 | i+1=> by
   have:=jY k n i
   unfold oU at this ⊢
   rw[List.range_succ,List.flatMap_append,List.length_append,this]
   simp[dj,bj];omega
theorem zM (k:Bs) (n i:Nat):oU k n (i+1)=oU k n i++dj k (bB n++bB i):=by
 unfold oU
 rw[List.range_succ,List.flatMap_append];simp
def kI (k:Bs) (n c:Nat):Bs:=(oU k n ((c+15)/ 16)).take c
theorem jl (k:Bs) (n c:Nat):(kI k n c).length=c:=by
 unfold kI
 rw[List.length_take,jY];omega
theorem CW (b:Nat) (h:Hp) (k:Bs) (n c:Nat) (hk:k.length=16) (hn:n < 18446744073709551616) (hc:c≤8192) (hb:b≤h.length):
 ∃v H,run fns pr b 109 [.arr 25 (k.map aa),.s (.int .u64 n),.s (.int .i64 c)] h=some (v,H)∧kH h H v (kI k n c):=by
 refine Vm.dZ (nt:=33) rfl NX (by simp) ?_
 have fV:(k.map aa).length=16:=by simp[hk]
 have m1:max 0 (min (c:Int) 8192)=(c:Int):=by omega
 have au:(0:Nat)=0:=rfl
 try simp only[Ke,zr,zq,fV,m1,go_sem,↓reduceIte,Nat.reduceEqDiff,Nat.reduceBEq,Nat.reduceAdd,Nat.reduceSub,Nat.reduceLT,Nat.reduceLeDiff,Int.reduceLT,Int.reduceLE,Int.reduceEq,Int.reduceToNat]
 repeat' (
   first | refine q5z ?_ ?_ | refine q3z ?_ ?_ | refine q4z ?_ ?_
   all_goals intro aj
   all_goals first | replace aj:=q2z aj | replace aj:=q1z aj | skip
   all_goals first | subst aj | replace au:=And.intro aj au
   all_goals try simp only[au,Ke,zr,zq,fV,m1,go_sem,↓reduceIte,Nat.reduceEqDiff,Nat.reduceBEq,Nat.reduceAdd,Nat.reduceSub,Nat.reduceLT,Nat.reduceLeDiff,Int.reduceLT,Int.reduceLE,Int.reduceEq,Int.reduceToNat])
 generalize hGd:h++[aV.cells (some 25) [V.arr 25 (k.map aa)]]=G
 have hG:G.length=h.length+1:=by rw[←hGd];simp
 have gG:G[h.length]? =some (.cells (some 25) [V.arr 25 (k.map aa)]):=by rw[←hGd];simp
 have fG:Fw [] h G:=by rw[←hGd];exact Fw.app [] h _
 refine bh (fun m e H=>∃i v,m=(c+15)/ 16 - i∧i≤(c+15)/ 16∧e 8= .s (.int .u64 (i:Nat))∧e 7=v∧e 3= .ptr h.length [0] 1∧e 2= .s (.int .i64 c)∧e 1= .s (.int .u64 n)∧kH G H v (oU k n i))
   (fun e H=>∃v,e 7=v∧e 2= .s (.int .i64 c)∧kH G H v (oU k n ((c+15)/ 16))) ((c+15)/ 16) _ _
   ⟨0,_,rfl,by omega,rfl,rfl,rfl,rfl,rfl,kH.nil G⟩ ?_ ?_
 ·rintro m e H ⟨i,v,rfl,hi,e8,e7,e3,e2,e1,hN⟩
  have hlen:=fun cf base=> hN.br.cE (cf:=cf) (base:=base) (h:=H)
  rw[jY] at hlen
  by_cases cd:i <(c+15)/ 16
  ·have c':((16 * i:Nat):Int)<(c:Int):=by omega
   have hbH:b≤H.length:=by have:=hN.fw.len;have:=fG.len;omega
   have w3:IntKind.u64.wrap ((i:Int)+1)=((i+1:Nat):Int):=by rw[wrap_u64 (by omega) (by omega)];omega
   have gH:H[h.length]? =some (.cells (some 25) [V.arr 25 (k.map aa)]):=hN.fw.dw _ _ gG (by simp)
   have gH2:∀X,(H++X)[h.length]? =some (.cells (some 25) [V.arr 25 (k.map aa)]):=fun X=> q10z gH X
   have n1:=eB b H n hn hbH
   have n2:=eB b (H++[.cells none ((bB n).map aa)]) i (by omega) (by simp;omega)
   have ha:∀cf base,aB cf base (H++[.cells none ((bB n).map aa),.cells none ((bB i).map aa)]) (.app none 1) [.ref H.length [] none 0 8 8,.ref (H.length+1) [] none 0 8 8]=some (.ref H.length [] none 0 16 16,H++[.cells none ((bB n++bB i).map aa),.cells none ((bB i).map aa)]):=fun cf base=> by
     have:=Bv (cf:=cf) (base:=base) (H:=H++[.cells none ((bB n).map aa),.cells none ((bB i).map aa)]) (id:=H.length) (l:=bB n) (m:=bB i) (y:= .ref (H.length+1) [] none 0 8 8) (xb H _ _).1 (BR.src (dH (xb H _ _).2 (bF i))) (by rw[bF,bF];omega)
     rw[bF,bF] at this
     rw[this]
     congr 2
     rw[oV];rfl
   have yX:=fun b=> oT b (H++[aV.cells none ((bB n++bB i).map aa),.cells none ((bB i).map aa)]) (.ref H.length [] none 0 16 16) k (bB n++bB i) hk (BR.rd (dH (by simp) (by simp))) (by simp)
   obtain ⟨v2,H2,jb,hN2⟩:=(hN.mono (Fw.app [] H [.cells none ((bB n++bB i).map aa),.cells none ((bB i).map aa)])).app (y:= .al true none ((dj k (bB n++bB i)).map aa)) (m:=dj k (bB n++bB i)) rfl (by rw[jY];simp[dj,bj];omega)
   rw[←zM] at hN2
   simp only[e8,e7,e3,e2,e1,hlen,c',gH,gH2,n1,n2,ha,yX,oW,iM,jZ,gM,jb,w3,go_sem,↓reduceIte,Nat.reduceEqDiff,Nat.reduceBEq,Nat.reduceAdd,Nat.reduceSub,Nat.reduceLT,Nat.reduceLeDiff,Int.reduceLT,Int.reduceLE,Int.reduceEq,Int.reduceToNat]
   exact ⟨(c+15)/ 16 - (i+1),by omega,i+1,v2,rfl,by omega,by simp_all⟩
  ·have c':¬((16 * i:Nat):Int)<(c:Int):=by omega
   have pN:i=(c+15)/ 16:=by omega
   subst pN
   simp only[e8,e7,e3,e2,e1,hlen,c',go_sem,↓reduceIte,Nat.reduceEqDiff,Nat.reduceBEq,Nat.reduceAdd,Nat.reduceSub,Nat.reduceLT,Nat.reduceLeDiff,Int.reduceLT,Int.reduceLE,Int.reduceEq,Int.reduceToNat]
   exact ⟨v,rfl,hN⟩
 ·rintro e H ⟨v,e7,e2,hN⟩
  have hc2:c≤(oU k n ((c+15)/ 16)).length:=by rw[jY];omega
  obtain ⟨y,hy,mX⟩:=hN.br.hi (k:= .i64) (r:=c) hc2
  obtain ⟨v2,H2,nq,hN2⟩:=tZ (BR.rd mX) (by rw[List.length_take];omega)
  simp only[e7,e2,hy,nq,go_sem,↓reduceIte,Nat.reduceEqDiff,Nat.reduceBEq,Nat.reduceAdd,Nat.reduceSub,Nat.reduceLT,Nat.reduceLeDiff,Int.reduceLT,Int.reduceLE,Int.reduceEq,Int.reduceToNat]
  exact hN2.dw (fG.trans hN.fw)
def j1 (a b:Bs):Bs:=List.zipWith (fun x y=> x ^^^ y) a b
def l9 (s l:Bs) (j:Nat):Bs:=j1 (s.take j) (l.take j)++s.drop j
theorem G3 {s l:Bs} (h:s.length=l.length) (j:Nat) (hj:j≤l.length):(l9 s l j).length=l.length:=by
 simp[l9,j1];omega
theorem CX (s l:Bs):l9 s l 0=s:=by simp[l9,j1]
theorem G4 {s l:Bs} (h:s.length=l.length):l9 s l l.length=j1 s l:=by
 unfold l9
 rw[List.take_of_length_le (by omega),List.take_of_length_le (Nat.le_refl _),List.drop_of_length_le (by omega),List.append_nil]
theorem G5 {s l:Bs} (h:s.length=l.length) {j:Nat} (hj:j < l.length):(l9 s l j)[j]? =some (s.getD j 0):=by
 have h1:(j1 (s.take j) (l.take j)).length=j:=by simp[j1];omega
 unfold l9
 rw[List.getElem?_append_right (by omega),h1,Nat.sub_self,List.getElem?_drop,Nat.add_zero,List.getD,List.getElem?_eq_getElem (by omega)];rfl
theorem CY {s l:Bs} (h:s.length=l.length) {j:Nat} (hj:j < l.length):(l9 s l j).set j (s.getD j 0 ^^^ l.getD j 0)=l9 s l (j+1):=by
 have h1:(j1 (s.take j) (l.take j)).length=j:=by simp[j1];omega
 have e1:s.getD j 0=s[j]:=by rw[List.getD,List.getElem?_eq_getElem (by omega)];rfl
 have e2:l.getD j 0=l[j]:=by rw[List.getD,List.getElem?_eq_getElem (by omega)];rfl
 unfold l9
 rw[List.set_append_right _ _ (by omega),h1,Nat.sub_self,List.drop_eq_getElem_cons (by omega),List.set_cons_zero,e1,e2,List.take_succ_eq_append_getElem (by omega),List.take_succ_eq_append_getElem (by omega)]
 have:j1 (s.take j++[s[j]]) (l.take j++[l[j]])=j1 (s.take j) (l.take j)++[s[j]^^^ l[j]]:=by
   unfold j1
   rw[List.zipWith_append (by simp;omega)];rfl
 rw[this,List.append_assoc];rfl
def oa (k:Bs) (n:Nat) (l:Bs):Bs:=j1 (kI k n l.length) l
theorem j2 (k:Bs) (n:Nat) (l:Bs):(oa k n l).length=l.length:=by simp[oa,j1,jl]
theorem ua (b:Nat) (h:Hp) (x:V) (k l:Bs) (n:Nat) (hk:k.length=16) (hn:n < 18446744073709551616) (hx:BR h x l) (hl:l.length≤8192) (hb:b≤h.length):
 ∃v H,run fns pr b 89 [.arr 25 (k.map aa),.s (.int .u64 n),x] h=some (v,H)∧kH h H v (oa k n l):=by
 refine Vm.dZ (nt:=31) rfl Un (by simp) ?_
 have fV:(k.map aa).length=16:=by simp[hk]
 have jd:=fun cf base H=> hx.cE (cf:=cf) (base:=base) (h:=H)
 generalize hGd:h++[aV.cells (some 25) [V.arr 25 (k.map aa)]]=G
 have fG:Fw [] h G:=by rw[←hGd];exact Fw.app [] h _
 obtain ⟨v,H,aR,hN⟩:=CW b G k n l.length hk hn hl (by have:=fG.len;omega)
 have Bu:=fun cf base H=> hN.br.cE (cf:=cf) (base:=base) (h:=H)
 rw[jl] at Bu
 have g0:G[h.length]? =some (.cells (some 25) [.arr 25 (k.map aa)]):=by rw[←hGd];simp
 simp only[B89,MX,MW,fV,jd,hGd,g0,aR,Bu,go_sem,↓reduceIte,Nat.reduceEqDiff,Nat.reduceBEq,Nat.reduceAdd,Nat.reduceSub,Nat.reduceLT,Nat.reduceLeDiff,Int.reduceLT,Int.reduceLE,Int.reduceEq,Int.reduceToNat]
 obtain ⟨kid,xr,Kt,f⟩:=hN
 have hs:(kI k n l.length).length=l.length:=jl _ _ _
 unfold oa
 generalize kI k n l.length=s at xr hs aR
 by_cases hl0:l=[]
 ·subst hl0
  have s0:s=[]:=List.length_eq_zero_iff.1 hs
  subst s0
  refine bh (fun m e H'=> m=0∧e 16= .s (.int .i64 0)∧e 15= .s (.int .i64 ((0:Nat):Int))∧e 7=v∧H'=H) (fun e H'=> e 7=v∧H'=H) 0 _ _ ⟨rfl,rfl,rfl,rfl,rfl⟩ ?_ ?_
  ·rintro m e H' ⟨rfl,e16,e15,e7,rfl⟩
   have c':¬(0:Int)<((0:Nat):Int):=by omega
   simp only[e16,e15,e7,c',go_sem,↓reduceIte,Nat.reduceEqDiff,Nat.reduceBEq,Nat.reduceAdd,Nat.reduceSub,Nat.reduceLT,Nat.reduceLeDiff,Int.reduceLT,Int.reduceLE,Int.reduceEq,Int.reduceToNat]
   try simp_all
  ·rintro e H' ⟨e7,rfl⟩
   simp only[e7,go_sem,↓reduceIte,Nat.reduceEqDiff,Nat.reduceBEq,Nat.reduceAdd,Nat.reduceSub,Nat.reduceLT,Nat.reduceLeDiff,Int.reduceLT,Int.reduceLE,Int.reduceEq,Int.reduceToNat]
   exact ⟨kid,xr,Nat.le_trans fG.len Kt,fG.trans f⟩
 ·rcases xr with ⟨rfl,h0⟩ | ⟨rfl,hg⟩
  ·have:s.length=0:=by simpa using h0
   exact absurd (List.length_eq_zero_iff.1 (by omega)) hl0
  have zN:(s.map aa).length=l.length:=by simp[hs]
  rw[zN]
  refine bh (fun m e H'=>∃j,m=l.length - j∧j≤l.length∧e 16= .s (.int .i64 (j:Nat))∧e 15= .s (.int .i64 (l.length:Nat))∧e 7= .ref kid [] none 0 l.length l.length∧e 2=x∧H'=H.set kid (.cells none ((l9 s l j).map aa)))
    (fun e H'=> e 7= .ref kid [] none 0 l.length l.length∧H'=H.set kid (.cells none ((j1 s l).map aa))) l.length _ _
    ⟨0,rfl,by omega,rfl,rfl,rfl,rfl,by rw[CX,jX hg]⟩ ?_ ?_
  ·rintro m e H' ⟨j,rfl,hj,e16,e15,e7,e2,rfl⟩
   by_cases cd:j < l.length
   ·have c':(j:Int)<((l.length:Nat):Int):=by omega
    have w3:IntKind.i64.wrap ((j:Int)+1)=((j+1:Nat):Int):=q17z (by omega)
    have hf:Fw [] h (H.set kid (.cells none ((l9 s l j).map aa))):=(fG.trans f).cK (Nat.le_trans fG.len Kt) _
    have gW:=(BR.sr hx).fw hf
    have Bw:l[j]? =some (l.getD j 0):=by rw[List.getD,List.getElem?_eq_getElem cd];rfl
    have i1:=fun cf base=> gW.cX (cf:=cf) (base:=base) (k:= .i64) (i:=j) (by simpa using cd)
    have i2:=fun cf base=> gW.g8 (cf:=cf) (base:=base) (i:=j) (v:= .s (.int .u8 ((l.getD j 0).toNat:Int))) (by rw[List.getElem?_map,Bw];rfl) rfl
    have Vb:=G3 hs j (by omega)
    have zO:((l9 s l j).map aa)[j]? =some (.s (.int .u8 ((s.getD j 0).toNat:Int))):=by rw[List.getElem?_map,G5 hs cd];rfl
    have ij:=q9z (b:= .cells none ((l9 s l j).map aa)) hg
    have hxo:=Vm.u8_xor (s.getD j 0) (l.getD j 0)
    have rT:((l9 s l j).map aa).set j (.s (.int .u8 ((s.getD j 0 ^^^ l.getD j 0).toNat:Int)))=(l9 s l (j+1)).map aa:=by rw[←CY hs cd,List.map_set];rfl
    have cc:(0≤(j:Int)∧j < l.length)=True:=by simp;omega
    have gr:(V.s (.int .u8 ((s.getD j 0 ^^^ l.getD j 0).toNat:Int))).ground=true:=rfl
    simp only[e16,e15,e7,e2,c',w3,i1,i2,ij,Vb,cc,zO,hxo,rT,gr,go_sem,↓reduceIte,Nat.reduceEqDiff,Nat.reduceBEq,Nat.reduceAdd,Nat.reduceSub,Nat.reduceLT,Nat.reduceLeDiff,Int.reduceLT,Int.reduceLE,Int.reduceEq,Int.reduceToNat]
    exact ⟨l.length - (j+1),by omega,j+1,rfl,by omega,by simp_all⟩
   ·have c':¬(j:Int)<((l.length:Nat):Int):=by omega
    have hj2:j=l.length:=by omega
    subst hj2
    rw[G4 hs]
    simp only[e16,e15,e7,e2,c',go_sem,↓reduceIte,Nat.reduceEqDiff,Nat.reduceBEq,Nat.reduceAdd,Nat.reduceSub,Nat.reduceLT,Nat.reduceLeDiff,Int.reduceLT,Int.reduceLE,Int.reduceEq,Int.reduceToNat]
  ·rintro e H' ⟨e7,rfl⟩
   simp only[e7,go_sem,↓reduceIte,Nat.reduceEqDiff,Nat.reduceBEq,Nat.reduceAdd,Nat.reduceSub,Nat.reduceLT,Nat.reduceLeDiff,Int.reduceLT,Int.reduceLE,Int.reduceEq,Int.reduceToNat]
   refine ⟨kid,.inr ⟨by simp[j1,hs],q9z hg⟩,Nat.le_trans fG.len Kt,(fG.trans f).cK (Nat.le_trans fG.len Kt) _⟩
def Gr (h:Hp) (n:Nat) (v:V) (H:Hp) (l:Bs):Prop:=(n=0∧l=[]∧v= .al true none []∧H=h)∨(0 < n∧l.length≤n∧v= .ref h.length [] none 0 l.length n∧H=h++[.cells none (l.map aa++List.replicate (n - l.length) (.s (.int .u8 0)))])
theorem Gr.fw {h H:Hp} {n:Nat} {v:V} {l:Bs} (g:Gr h n v H l):Fw [] h H:=by
 rcases g with ⟨_,_,_,rfl⟩ | ⟨_,_,_,rfl⟩
 ·exact Fw.refl _ _
 ·exact Fw.app [] h _
theorem Gr.app {h H:Hp} {n:Nat} {v y:V} {l m:Bs} (g:Gr h n v H l) (hs:source H y=some (none,m.map aa)) (hl:l.length+m.length≤n):
 ∃v' H',(∀cf base,base≤h.length→aB cf base H (.app none 1) [v,y]=some (v',H'))∧Gr h n v' H' (l++m):=by
 by_cases hm:m=[]
 ·subst hm
  refine ⟨v,H,fun cf base _=> ?_,by rw[List.append_nil];exact g⟩
  rcases g with ⟨_,_,rfl,_⟩ | ⟨_,_,rfl,_⟩
  ·exact iL hs (n:=0) rfl
  ·exact iL hs (n:=l.length) rfl
 ·have hm0:0 < m.length:=List.length_pos_iff.2 hm
  rcases g with ⟨rfl,_,_,_⟩ | ⟨h0,h1,rfl,rfl⟩
  ·omega
  ·have hg:(h++[aV.cells none (l.map aa++List.replicate (n - l.length) (.s (.int .u8 0)))])[h.length]? =some (.cells none (l.map aa++List.replicate (n - l.length) (.s (.int .u8 0)))):=by simp
   have hlen:(l.map aa++List.replicate (n - l.length) (V.s (.int .u8 0))).length=n:=by simp;omega
   have key:=fun cf base (hb:base≤h.length)=> rU (cf:=cf) (base:=base) (bytes:=1) (off:=0) (len:=l.length) hg hs (by simpa using hm) (fun z hz=> by simp[bO,hb]) (by rw[hlen];simp;omega)
   rw[hlen] at key
   refine ⟨_,_,key,.inr ⟨h0,by simp;omega,by simp,?_⟩⟩
   simp only[List.map_append,List.length_append,List.length_map,List.length_replicate,Nat.zero_add]
   rw[oV,List.take_append_of_le_length (by simp),List.take_of_length_le (by simp),List.drop_append,List.drop_of_length_le (by simp),List.nil_append]
   simp only[List.length_map,List.drop_replicate,List.set_cons_zero]
   rw[show n - l.length - (l.length+m.length - l.length)=n - (l.length+m.length) by omega]
theorem Bx (cf:CF) (base:Nat) (h:Hp) (g:Option Nat) (es:List V):aB cf base h .cap [.al true g es]=some (.s (.int .i64 es.length),h):=rfl
theorem Ku (cf:CF) (base:Nat) (h:Hp) (g:Option Nat):aB cf base h (.jg g false true false) [.al true g [],.s (.int .i64 ((0:Nat):Int))]=some (.al true g [],h):=by
 simp[aB,fZ,fq,aL,cL,dx]
theorem Kv (cf:CF) (base:Nat) (h:Hp) (g:Option Nat) (z:V) {n:Nat} (h0:0 < n) (hn:n≤100000000):aB cf base h (.apz g 1 z) [.al true g [],.s (.int .i64 n)]=some (.ref h.length [] g 0 n n,h++[.cells g (List.replicate n z)]):=by
 have h1:List.replicate n z≠[]:=by simp;omega
 have h2:n≤140737488355328:=by omega
 simp[aB,ub,cT,h1,h2]
theorem Kw (b:Nat) (h:Hp) (n:Nat) (hn:n≤100000000):∃v H,run fns pr b 120 [.al true none [],.s (.int .i64 n)] h=some (v,H)∧Gr h n v H []:=by
 refine Vm.dZ (nt:=27) rfl Om (by simp) ?_
 have c0:¬(n:Int)< 0:=by omega
 have w0:IntKind.i64.wrap (n:Int)=(n:Int):=wrap_i64 (by omega) (by omega)
 have w1:IntKind.i64.wrap ((n:Int) - 0)=(n:Int):=by rw[Int.sub_zero,w0]
 have w2:IntKind.i64.wrap (((0:Nat):Int) - ((0:Nat):Int))=0:=rfl
 by_cases CP:n=0
 ·subst CP
  have c1:¬(0:Int)<((0:Nat):Int):=by omega
  simp only[Ki,c0,c1,Bx,w2,w1,go_sem,↓reduceIte,Nat.reduceEqDiff,Nat.reduceBEq,Nat.reduceAdd,Nat.reduceSub,Nat.reduceLT,Nat.reduceLeDiff,Int.reduceLT,Int.reduceLE,Int.reduceEq,Int.reduceToNat]
  exact .inl ⟨rfl,rfl,rfl,rfl⟩
 ·have c1:(0:Int)<(n:Int):=by omega
  have sl:=fun cf base=> zP (cf:=cf) (base:=base) (h:=h++[.cells none (List.replicate n (.s (.int .u8 0)))]) (g:=none) (id:=h.length) (es:=List.replicate n (.s (.int .u8 0))) (n:=n) (r:=0) (k:= .i64) (by simp) (by simp) (by omega)
  simp only[Ki,c0,c1,Bx,w2,w1,Ku,Kv _ _ _ _ _ (Nat.pos_of_ne_zero CP) hn,By,sl,go_sem,↓reduceIte,Nat.reduceEqDiff,Nat.reduceBEq,Nat.reduceAdd,Nat.reduceSub,Nat.reduceLT,Nat.reduceLeDiff,Int.reduceLT,Int.reduceLE,Int.reduceEq,Int.reduceToNat]
  exact .inr ⟨by omega,by simp,rfl,by simp⟩
theorem Rd.ty {h:Hp} {x:V} {l:Bs} (hr:Rd h x l):x.ty=none:=by
 have:=hr.1 h (Fw.refl _ _)
 cases x <;> first | rfl | (simp[elems] at this)
theorem Rd.ax {h:Hp} {x:V} {l:Bs} (hr:Rd h x l):x.ax=true:=by
 have:=hr.1 h (Fw.refl _ _)
 cases x <;> first | rfl | (simp[elems] at this)
theorem Rd.cE {cf:CF} {base:Nat} {h0 h:Hp} {x:V} {l:Bs} (hr:Rd h0 x l):aB cf base h .len [x]=some (.s (.int .i64 l.length),h):=Vm.cE cf base h x _ hr.2
def Rds (h:Hp) (vs:List V) (ls:List Bs):Prop:=vs.length=ls.length∧∀(i:Nat) (v:V) (l:Bs),vs[i]? =some v→ls[i]? =some l→Rd h v l
theorem uc (b:Nat) (h:Hp) (x:V) (m:Nat) (vs:List V) (ls:List Bs) (gW:SR h x none vs) (hm:vs.length=m) (qu:m≤1000) (hr:Rds h vs ls) (hl:ls.flatten.length≤100000000):
 run fns pr b 104 [x] h=some (.al false none (ls.flatten.map aa),h):=by
 refine Vm.aU (nt:=36) rfl NL (by simp) ?_
 have jd:∀cf base H,aB cf base H .len [x]=some (.s (.int .i64 (m:Nat)),H):=fun cf base H=> by rw[←hm];exact gW.cE
 obtain ⟨hml,GV⟩:=hr
 have hlm:ls.length=m:=by omega
 have hat:∀(j:Nat),j < m→∃(v:V) (l:Bs),vs[j]? =some v∧ls[j]? =some l∧Rd h v l∧(ls.take (j+1)).flatten=(ls.take j).flatten++l:=fun j hj=> by
   refine ⟨vs[j],ls[j],List.getElem?_eq_getElem (by omega),List.getElem?_eq_getElem (by omega),GV j _ _ (List.getElem?_eq_getElem (by omega)) (List.getElem?_eq_getElem (by omega)),?_⟩
   rw[List.take_succ_eq_append_getElem (by omega),List.flatten_append];simp
 have hle:∀j,(ls.take j).flatten.length≤ls.flatten.length:=fun j=> by
   conv=> rhs;rw[←List.take_append_drop j ls,List.flatten_append,List.length_append]
   omega
 have cJ:(ls.take m).flatten=ls.flatten:=by rw[List.take_of_length_le (by omega)]
 have bP:∀(H:Hp),Fw [] h H→∀(j:Nat) (v:V) (l:Bs),j < m→vs[j]? =some v→Rd h v l→(∀cf base,aB cf base H (.di none) [x,.s (.int .i64 (j:Nat))]=some (jh x j,H))∧(∀cf base,aB cf base H (.ld none) [jh (x) j]=some (v,H)):=fun H f j v l hj hv hb=>
   ⟨fun cf base=>(gW.fw f).cX (by omega),fun cf base=>(gW.fw f).g8 hv hb.ty⟩
 simp only[NJ,Gn,Gm,Gl,Gk,jd,go_sem,↓reduceIte,Nat.reduceEqDiff,Nat.reduceBEq,Nat.reduceAdd,Nat.reduceSub,Nat.reduceLT,Nat.reduceLeDiff,Int.reduceLT,Int.reduceLE,Int.reduceEq,Int.reduceToNat]
 refine bh (fun q e H=>∃j,q=m - j∧j≤m∧e 11= .s (.int .i64 (j:Nat))∧e 10= .s (.int .i64 (m:Nat))∧e 9=x∧e 0=x∧e 3= .s (.int .i64 ((ls.take j).flatten.length:Nat))∧H=h)
   (fun e H=> e 0=x∧e 3= .s (.int .i64 (ls.flatten.length:Nat))∧H=h) m _ _ ⟨0,rfl,by omega,rfl,rfl,rfl,rfl,rfl,rfl⟩ ?_ ?_
 ·rintro q e H ⟨j,rfl,hj,e11,e10,e9,e0,e3,rfl⟩
  by_cases cd:j < m
  ·have c':(j:Int)<((m:Nat):Int):=by omega
   obtain ⟨v,l,hv,Bw,hb,ma⟩:=hat j cd
   obtain ⟨i1,i2⟩:=bP H (Fw.refl _ _) j v l cd hv hb
   have i3:=fun cf base H=> hb.cE (cf:=cf) (base:=base) (h:=H)
   have hx:=hle (j+1)
   rw[ma,List.length_append] at hx
   have w3:IntKind.i64.wrap ((j:Int)+1)=((j+1:Nat):Int):=q17z (by omega)
   have w4:IntKind.i64.wrap ((((ls.take j).flatten.length:Nat):Int)+((l.length:Nat):Int))=(((ls.take j).flatten.length+l.length:Nat):Int):=by rw[wrap_i64 (by omega) (by omega)];omega
   have c2:¬(((ls.take j).flatten.length+l.length:Nat):Int)< 0:=by omega
   simp only[e11,e10,e9,e0,e3,c',i1,i2,i3,w3,w4,c2,go_sem,↓reduceIte,Nat.reduceEqDiff,Nat.reduceBEq,Nat.reduceAdd,Nat.reduceSub,Nat.reduceLT,Nat.reduceLeDiff,Int.reduceLT,Int.reduceLE,Int.reduceEq,Int.reduceToNat]
   exact ⟨m - (j+1),by omega,j+1,rfl,by omega,by simp_all⟩
  ·have c':¬(j:Int)<((m:Nat):Int):=by omega
   have hjm:j=m:=by omega
   subst hjm
   rw[cJ] at e3
   simp only[e11,e10,e9,e0,e3,c',go_sem,↓reduceIte,Nat.reduceEqDiff,Nat.reduceBEq,Nat.reduceAdd,Nat.reduceSub,Nat.reduceLT,Nat.reduceLeDiff,Int.reduceLT,Int.reduceLE,Int.reduceEq,Int.reduceToNat]
 ·rintro e H ⟨e0,e3,rfl⟩
  obtain ⟨v0,H0,vy,G0⟩:=Kw H.length H ls.flatten.length hl
  simp only[e0,e3,vy,jd,go_sem,↓reduceIte,Nat.reduceEqDiff,Nat.reduceBEq,Nat.reduceAdd,Nat.reduceSub,Nat.reduceLT,Nat.reduceLeDiff,Int.reduceLT,Int.reduceLE,Int.reduceEq,Int.reduceToNat]
  refine bh (fun q e H'=>∃j v,q=m - j∧j≤m∧e 27= .s (.int .i64 (j:Nat))∧e 26= .s (.int .i64 (m:Nat))∧e 25=x∧e 6=v∧Gr H ls.flatten.length v H' (ls.take j).flatten)
    (fun e H'=>∃v,e 6=v∧Gr H ls.flatten.length v H' ls.flatten) m _ _ ⟨0,v0,rfl,by omega,rfl,rfl,rfl,rfl,G0⟩ ?_ ?_
  ·rintro q e H' ⟨j,v,rfl,hj,e27,e26,e25,e6,G⟩
   by_cases cd:j < m
   ·have c':(j:Int)<((m:Nat):Int):=by omega
    obtain ⟨y,l,hv,Bw,hb,ma⟩:=hat j cd
    obtain ⟨i1,i2⟩:=bP H' G.fw j y l cd hv hb
    have hx:=hle (j+1)
    rw[ma,List.length_append] at hx
    obtain ⟨v2,H2,jb,G2⟩:=G.app (hb.fw G.fw).source (m:=l) hx
    rw[←ma] at G2
    have xe:=fun cf=> jb cf H.length (Nat.le_refl _)
    have w3:IntKind.i64.wrap ((j:Int)+1)=((j+1:Nat):Int):=q17z (by omega)
    simp only[e27,e26,e25,e6,c',i1,i2,xe,w3,go_sem,↓reduceIte,Nat.reduceEqDiff,Nat.reduceBEq,Nat.reduceAdd,Nat.reduceSub,Nat.reduceLT,Nat.reduceLeDiff,Int.reduceLT,Int.reduceLE,Int.reduceEq,Int.reduceToNat]
    exact ⟨m - (j+1),by omega,j+1,v2,rfl,by omega,by simp_all⟩
   ·have c':¬(j:Int)<((m:Nat):Int):=by omega
    have hjm:j=m:=by omega
    subst hjm
    rw[cJ] at G
    simp only[e27,e26,e25,e6,c',go_sem,↓reduceIte,Nat.reduceEqDiff,Nat.reduceBEq,Nat.reduceAdd,Nat.reduceSub,Nat.reduceLT,Nat.reduceLeDiff,Int.reduceLT,Int.reduceLE,Int.reduceEq,Int.reduceToNat]
    exact ⟨v,rfl,G⟩
  ·rintro e H' ⟨v,e6,G⟩
   have df:bA H.length H' v=some (.al false none (ls.flatten.map aa)):=by
     rcases G with ⟨_,h1,rfl,rfl⟩ | ⟨_,_,rfl,rfl⟩
     ·rw[h1];rfl
     ·refine XR.qX (k:=H.length) (.inr ⟨by rw[List.length_map],?_⟩) (Nat.le_refl _) (ed _)
      simp
   have eA:=G.fw.take
   simp only[e6,df,eA,go_sem,↓reduceIte,Nat.reduceEqDiff,Nat.reduceBEq,Nat.reduceAdd,Nat.reduceSub,Nat.reduceLT,Nat.reduceLeDiff,Int.reduceLT,Int.reduceLE,Int.reduceEq,Int.reduceToNat]
def G6 (k:Bs) (n:Nat) (ad l:Bs):Bs:=dj (dj k k) (bB n++(bB ad.length++(ad++l)))
def mb (k:Bs) (n:Nat) (ad l:Bs):Bs:=(G6 k n ad l).take 8
theorem pO (k:Bs) (n:Nat) (ad l:Bs):(mb k n ad l).length=8:=by simp[mb,G6,dj,bj]
theorem oX (k l:Bs):(dj k l).length=16:=by simp[dj,bj]
theorem Pa {cf:CF} {base:Nat} {h:Hp} {t:Nat} {g:Option Nat} {id aw:Nat} {p:List Nat} {es:List V} {k:IntKind} {r:Nat} (hn:node h id p aw=some (.arr t es)) (hr:r≤es.length):aB cf base h (.qp t g false true) [.ptr id p aw,.s (.int k r)]=some (.ref id p g 0 r aw,h):=by
 simp[aB,qv,aL,hn,cL,hr]
theorem dV (t:Nat):∀l:Bs,(V.arr t (l.map aa)).ground=true
 | []=> rfl
 | b::l=> by
   have:=dV t l
   simp only[V.ground] at this ⊢
   simp only[List.map_cons,V.ground.all,this];rfl
theorem Bz (b:Nat) (h:Hp) (x y:V) (k ad l:Bs) (n:Nat) (hk:k.length=16) (hn:n < 18446744073709551616) (hx:Rd h x ad) (hy:Rd h y l) (had:ad.length≤100000) (hl:l.length≤100000) (hb:b≤h.length):
 ∃v H,run fns pr b 90 [.arr 25 (k.map aa),.s (.int .u64 n),x,y] h=some (v,H)∧Rd H v (mb k n ad l)∧Fw [] h H:=by
 refine Vm.dZ (nt:=25) rfl Up (by simp) ?_
 have fV:(k.map aa).length=16:=by simp[hk]
 have jd:=fun cf base H=> hx.cE (cf:=cf) (base:=base) (h:=H)
 generalize hGd:h++[aV.cells (some 25) [V.arr 25 (k.map aa)]]=G
 have hG:G.length=h.length+1:=by rw[←hGd];simp
 have g0:G[h.length]? =some (.cells (some 25) [.arr 25 (k.map aa)]):=by rw[←hGd];simp
 have fG:Fw [] h G:=by rw[←hGd];exact Fw.app [] h _
 have htw:=fun b H=> GZ b H k k hk hk
 have n1:=eB b G n hn (by omega)
 have n2:=eB b (G++[.cells none ((bB n).map aa)]) ad.length (by omega) (by simp;omega)
 have wl:IntKind.u64.wrap ((ad.length:Nat):Int)=((ad.length:Nat):Int):=wrap_u64 (by omega) (by omega)
 have x1:=hx.ty;have x2:=hx.ax;have y1:=hy.ty;have y2:=hy.ax
 have fX:∀X,Fw [] h (G++X):=fun X=> fG.trans (Fw.app [] G X)
 have hco:=fun b=> uc b (G++[.cells none ((bB n).map aa),.cells none ((bB ad.length).map aa),.cells none [.ref G.length [] none 0 8 8,.ref (G.length+1) [] none 0 8 8,x,y]]) (.ref (G.length+2) [] none 0 4 4) 4 [.ref G.length [] none 0 8 8,.ref (G.length+1) [] none 0 8 8,x,y] [bB n,bB ad.length,ad,l] (kJ (by simp) rfl) rfl (by omega) ⟨rfl,fun i v m hv hm=> by
   match i,hv,hm with
   | 0,hv,hm=> cases hv;cases hm;exact BR.rd (dH (by simp) (bF n))
   | 1,hv,hm=> cases hv;cases hm;exact BR.rd (dH (by simp) (bF _))
   | 2,hv,hm=> cases hv;cases hm;exact hx.fw (fX _)
   | 3,hv,hm=> cases hv;cases hm;exact hy.fw (fX _)
   | i+4,hv,hm=> simp at hv⟩ (by simp;omega)
 simp only[List.flatten_cons,List.flatten_nil,List.append_nil] at hco
 have yX:=fun b H=> oT b H (.al false none ((bB n++(bB ad.length++(ad++l))).map aa)) (dj k k) _ (oX k k) (BR.rd (cY H false _)) (by simp;omega)
 have zQ:(List.map aa (dj (dj k k) (bB n++(bB ad.length++(ad++l))))).length=16:=by simp[oX]
 have hnd:∀(A B C:aV) (m:Bs),node (G++[A,B,C,.cells (some 25) [.arr 25 (m.map aa)]]) (G.length+3) [0] 1=some (.arr 25 (m.map aa)):=fun A B C m=> by simp only[go_sem,↓reduceIte,Nat.reduceEqDiff,Nat.reduceBEq,Nat.reduceAdd,Nat.reduceSub,Nat.reduceLT,Nat.reduceLeDiff,Int.reduceLT,Int.reduceLE,Int.reduceEq,Int.reduceToNat,List.append_assoc,List.length_append,Vm.aK,Vm.ca,Vm.bu,Vm.bo,Vm.bJ,Vm.bp,Nat.le_refl,Nat.le_add_right]
 have hsl:=fun cf base A B C (m:Bs) (hm:m.length=16)=> Pa (cf:=cf) (base:=base) (g:=none) (k:= .i64) (r:=8) (hnd A B C m) (by simp[hm])
 have XY:=fun cf base A B C=> hsl cf base A B C (dj (dj k k) (bB n++(bB ad.length++(ad++l)))) (oX _ _)
 simp only[B90,fV,hGd,g0,htw,n1,jd,wl,n2,bu,x1,x2,y1,y2,ud,hco,yX,zQ,dV,show (V.s (.int .i64 8))=V.s (.int .i64 ((8:Nat):Int)) from rfl,XY,go_sem,↓reduceIte,Nat.reduceEqDiff,Nat.reduceBEq,Nat.reduceAdd,Nat.reduceSub,Nat.reduceLT,Nat.reduceLeDiff,Int.reduceLT,Int.reduceLE,Int.reduceEq,Int.reduceToNat]
 refine ⟨Rd.mk' ?_ (by simp[fq,pO]),fX _⟩
 rw[dU,Vm.rV,hnd]
 simp only[ue,fD,List.drop_zero,mb,G6,List.map_take]
theorem Vc (l m:Bs):(decide ((⟨l.toArray⟩:ByteArray)=⟨m.toArray⟩))=decide (l=m):=by
 rw[decide_eq_decide];simp
theorem CZ (b:Nat) (h:Hp) (x y:V) (l m:Bs) (hx:Rd h x l) (hy:Rd h y m):run fns pr b 103 [x,y] h=some (.s (.bool (decide (l=m))),h):=by
 refine Vm.aU (nt:=10) rfl Gj (by simp) ?_
 have ex:=hx.1 h (Fw.refl _ _)
 have ey:=hy.1 h (Fw.refl _ _)
 simp only[Kb,Pb,ex,ey,rW,Vc,go_sem,↓reduceIte,Nat.reduceEqDiff,Nat.reduceBEq,Nat.reduceAdd,Nat.reduceSub,Nat.reduceLT,Nat.reduceLeDiff,Int.reduceLT,Int.reduceLE,Int.reduceEq,Int.reduceToNat]
theorem Kx (b:Nat) (h:Hp) (x y:V) (l m:Bs) (hx:Rd h x l) (hy:Rd h y m):run fns pr b 124 [x,y] h=some (.s (.bool (decide (l=m))),h):=by
 refine Vm.aU (nt:=8) rfl Ox (by simp) ?_
 have he:=fun b=> CZ b h x y l m hx hy
 simp only[Ov,he,go_sem,↓reduceIte,Nat.reduceEqDiff,Nat.reduceBEq,Nat.reduceAdd,Nat.reduceSub,Nat.reduceLT,Nat.reduceLeDiff,Int.reduceLT,Int.reduceLE,Int.reduceEq,Int.reduceToNat]
def lD (k:Bs) (n:Nat) (ad l:Bs):Bs:=if l.length≤8184∧ad.length≤8192 then oa k n l++mb k n ad l else []
theorem pP (k:Bs) (n:Nat) (ad l:Bs) (h1:l.length≤8184) (h2:ad.length≤8192):(lD k n ad l).length=l.length+8:=by
 rw[lD,if_pos ⟨h1,h2⟩,List.length_append,j2,pO]
theorem BA (b:Nat) (h:Hp) (x y:V) (k ad l:Bs) (n:Nat) (hk:k.length=16) (hn:n < 18446744073709551616) (hx:Rd h x ad) (hy:BR h y l) (had:ad.length≤100000):
 run fns pr b 57 [.arr 25 (k.map aa),.s (.int .u64 n),x,y] h=some (.al false none ((lD k n ad l).map aa),h):=by
 refine Vm.aU (nt:=27) rfl Th (by simp) ?_
 have fV:(k.map aa).length=16:=by simp[hk]
 have lx:=fun cf base H=> hx.cE (cf:=cf) (base:=base) (h:=H)
 have ly:=fun cf base H=> hy.cE (cf:=cf) (base:=base) (h:=H)
 have fz:bA h.length h (.al false none [])=some (.al false none []):=rfl
 unfold lD
 by_cases c1:l.length≤8184
 ·have c1':¬(8184:Int)<((l.length:Nat):Int):=by omega
  by_cases c2:ad.length≤8192
  ·have c2':¬(8192:Int)<((ad.length:Nat):Int):=by omega
   rw[if_pos ⟨c1,c2⟩]
   generalize hGd:h++[aV.cells (some 25) [V.arr 25 (k.map aa)]]=G
   have hG:G.length=h.length+1:=by rw[←hGd];simp
   have g0:G[h.length]? =some (.cells (some 25) [.arr 25 (k.map aa)]):=by rw[←hGd];simp
   have fG:Fw [] h G:=by rw[←hGd];exact Fw.app [] h _
   obtain ⟨v,H,hh,hN⟩:=ua h.length G y k l n hk hn (hy.mono fG) (by omega) (by omega)
   have gH:H[h.length]? =some (.cells (some 25) [.arr 25 (k.map aa)]):=hN.fw.dw _ _ g0 (by simp)
   obtain ⟨w,H2,hm,hR,f2⟩:=Bz h.length H x y k ad l n hk hn (hx.fw (fG.trans hN.fw)) (BR.rd (hy.mono (fG.trans hN.fw))) (by omega) (by omega) (by have:=hN.fw.len;omega)
   obtain ⟨u,H3,jb,hN3⟩:=(hN.mono f2).app hR.source (by rw[j2,pO];omega)
   have df:=hN3.qX (n:=h.length) (by omega)
   have eA:=(fG.trans hN3.fw).take
   simp only[B57,fV,lx,ly,c1',c2',hGd,g0,hh,gH,hm,jb,df,eA,go_sem,↓reduceIte,Nat.reduceEqDiff,Nat.reduceBEq,Nat.reduceAdd,Nat.reduceSub,Nat.reduceLT,Nat.reduceLeDiff,Int.reduceLT,Int.reduceLE,Int.reduceEq,Int.reduceToNat]
  ·have c2':(8192:Int)<((ad.length:Nat):Int):=by omega
   rw[if_neg (by omega)]
   simp only[B57,fV,lx,ly,c1',c2',List.take_left,go_sem,↓reduceIte,Nat.reduceEqDiff,Nat.reduceBEq,Nat.reduceAdd,Nat.reduceSub,Nat.reduceLT,Nat.reduceLeDiff,Int.reduceLT,Int.reduceLE,Int.reduceEq,Int.reduceToNat]
 ·have c1':(8184:Int)<((l.length:Nat):Int):=by omega
  rw[if_neg (by omega)]
  simp only[B57,fV,lx,ly,c1',List.take_left,go_sem,↓reduceIte,Nat.reduceEqDiff,Nat.reduceBEq,Nat.reduceAdd,Nat.reduceSub,Nat.reduceLT,Nat.reduceLeDiff,Int.reduceLT,Int.reduceLE,Int.reduceEq,Int.reduceToNat]
def nG (k:Bs) (n:Nat) (ad b:Bs):Option Bs:=
 if 8≤b.length∧b.length≤8192∧ad.length≤8192 then
  let t:=oa k n (b.take (b.length - 8))
  if mb k n ad t=b.drop (b.length - 8) then some t else none
 else none
def nH :Option Bs→V
 | some t=> .bI [.al false none (t.map aa),.s (.int .i64 0)]
 | none=> .bI [.al false none [],.s (.int .i64 30)]
theorem BB (b:Nat) (h:Hp) (x y:V) (k ad l:Bs) (n:Nat) (hk:k.length=16) (hn:n < 18446744073709551616) (hx:Rd h x ad) (hy:BR h y l):
 run fns pr b 116 [.arr 25 (k.map aa),.s (.int .u64 n),x,y] h=some (nH (nG k n ad l),h):=by
 refine Vm.aU (nt:=45) rfl Ob (by simp) ?_
 have fV:(k.map aa).length=16:=by simp[hk]
 have lx:=fun cf base H=> hx.cE (cf:=cf) (base:=base) (h:=H)
 have ly:=fun cf base H=> hy.cE (cf:=cf) (base:=base) (h:=H)
 unfold nG
 by_cases c0:l.length < 8
 ·have c0':((l.length:Nat):Int)< 8:=by omega
  rw[if_neg (by omega)]
  simp only[zw,fV,lx,ly,c0',nH,List.take_left,go_sem,↓reduceIte,Nat.reduceEqDiff,Nat.reduceBEq,Nat.reduceAdd,Nat.reduceSub,Nat.reduceLT,Nat.reduceLeDiff,Int.reduceLT,Int.reduceLE,Int.reduceEq,Int.reduceToNat]
 have c0':¬((l.length:Nat):Int)< 8:=by omega
 by_cases c1:8192 < l.length
 ·have c1':(8192:Int)<((l.length:Nat):Int):=by omega
  rw[if_neg (by omega)]
  simp only[zw,fV,lx,ly,c0',c1',nH,List.take_left,go_sem,↓reduceIte,Nat.reduceEqDiff,Nat.reduceBEq,Nat.reduceAdd,Nat.reduceSub,Nat.reduceLT,Nat.reduceLeDiff,Int.reduceLT,Int.reduceLE,Int.reduceEq,Int.reduceToNat]
 have c1':¬(8192:Int)<((l.length:Nat):Int):=by omega
 by_cases c2:8192 < ad.length
 ·have c2':(8192:Int)<((ad.length:Nat):Int):=by omega
  rw[if_neg (by omega)]
  simp only[zw,fV,lx,ly,c0',c1',c2',nH,List.take_left,go_sem,↓reduceIte,Nat.reduceEqDiff,Nat.reduceBEq,Nat.reduceAdd,Nat.reduceSub,Nat.reduceLT,Nat.reduceLeDiff,Int.reduceLT,Int.reduceLE,Int.reduceEq,Int.reduceToNat]
 have c2':¬(8192:Int)<((ad.length:Nat):Int):=by omega
 rw[if_pos ⟨by omega,by omega,by omega⟩]
 have w8:IntKind.i64.wrap (((l.length:Nat):Int) - 8)=((l.length - 8:Nat):Int):=by rw[wrap_i64 (by omega) (by omega)];omega
 generalize hGd:h++[aV.cells (some 25) [V.arr 25 (k.map aa)]]=G
 have hG:G.length=h.length+1:=by rw[←hGd];simp
 have g0:G[h.length]? =some (.cells (some 25) [.arr 25 (k.map aa)]):=by rw[←hGd];simp
 have fG:Fw [] h G:=by rw[←hGd];exact Fw.app [] h _
 obtain ⟨z,hz,hbz⟩:=(hy.mono fG).hi (k:= .i64) (r:=l.length - 8) (by omega)
 obtain ⟨v,H,hh,hN⟩:=ua h.length G z k (l.take (l.length - 8)) n hk hn hbz (by rw[List.length_take];omega) (by omega)
 have gH:H[h.length]? =some (.cells (some 25) [.arr 25 (k.map aa)]):=hN.fw.dw _ _ g0 (by simp)
 obtain ⟨w,H2,hm,hR,f2⟩:=Bz h.length H x v k ad (oa k n (l.take (l.length - 8))) n hk hn (hx.fw (fG.trans hN.fw)) (BR.rd hN.br) (by omega) (by rw[j2,List.length_take];omega) (by have:=hN.fw.len;omega)
 have sy:=(BR.sr hy).fw (fG.trans (hN.fw.trans f2))
 have hu:=fun cf base=> sy.Pc (cf:=cf) (base:=base) (k:= .i64) (l:=l.length - 8) (by simp)
 have hu0:=fun cf base=>((BR.sr hy).fw (fG.trans hN.fw)).Pc (cf:=cf) (base:=base) (k:= .i64) (l:=l.length - 8) (by simp)
 have su:=sy.loR (l:=l.length - 8) (by simp)
 rw[←List.map_drop,List.length_map] at su
 have CR:=fun b=> Kx b H2 w _ _ _ hR (Rd.mk' su.elems (by rw[su.len,List.length_map]))
 have df:=(hN.mono f2).qX (n:=h.length) (by omega)
 have eA:=(fG.trans (hN.fw.trans f2)).take
 by_cases c3:mb k n ad (oa k n (l.take (l.length - 8)))=l.drop (l.length - 8)
 ·simp only[zw,fV,lx,ly,c0',c1',c2',w8,hGd,g0,hz,hh,gH,hm,hu,hu0,CR,c3,df,eA,nH,go_sem,↓reduceIte,Nat.reduceEqDiff,Nat.reduceBEq,Nat.reduceAdd,Nat.reduceSub,Nat.reduceLT,Nat.reduceLeDiff,Int.reduceLT,Int.reduceLE,Int.reduceEq,Int.reduceToNat]
 ·simp only[zw,fV,lx,ly,c0',c1',c2',w8,hGd,g0,hz,hh,gH,hm,hu,hu0,CR,c3,df,eA,nH,go_sem,↓reduceIte,Nat.reduceEqDiff,Nat.reduceBEq,Nat.reduceAdd,Nat.reduceSub,Nat.reduceLT,Nat.reduceLeDiff,Int.reduceLT,Int.reduceLE,Int.reduceEq,Int.reduceToNat]
theorem oc :∀l:Bs,ints .u8 (l.map aa)=some (l.map fun b=>(b.toNat:Int))
 | []=> rfl
 | b::l=> by
   have ih:=oc l
   show (if IntKind.u8=IntKind.u8 then (ints .u8 (l.map aa)).map ((b.toNat:Int):: ·) else none)=_
   rw[if_pos rfl,ih];rfl
theorem nI :∀ {a b:Bs},(a.map fun b=>(b.toNat:Int))=(b.map fun b=>(b.toNat:Int))→a=b
 | [],[],_=> rfl
 | [],_::_,h=> by simp at h
 | _::_,[],h=> by simp at h
 | x::a,y::b,h=> by
   simp only[List.map_cons,List.cons.injEq] at h
   have h1:x.toNat=y.toNat:=by have:=h.1;omega
   rw[UInt8.toNat_inj.1 h1,nI h.2]
theorem cZ {cf:CF} {base:Nat} {h:Hp} (t:Nat) (neg:Bool) (a b:Bs):aB cf base h (.zd t .u8 neg) [.arr t (a.map aa),.arr t (b.map aa)]=some (.s (.bool (if neg=true then !decide (a=b) else decide (a=b))),h):=by
 rw[M4,oc,oc,uf]
 have:(List.map (fun b=>(b.toNat:Int)) a=List.map (fun b=>(b.toNat:Int)) b)=(a=b):=propext ⟨nI,fun h=> by rw[h]⟩
 simp only[this]
theorem cg :[V.s (.int .u8 0),.s (.int .u8 0),.s (.int .u8 0),.s (.int .u8 0),.s (.int .u8 0),.s (.int .u8 0),.s (.int .u8 0),.s (.int .u8 0),.s (.int .u8 0),.s (.int .u8 0),.s (.int .u8 0),.s (.int .u8 0),.s (.int .u8 0),.s (.int .u8 0),.s (.int .u8 0),.s (.int .u8 0)]=bN.map aa:=(rfl)
def YY (c n:Int):Bool:=decide (0≤c)&& decide (c < 4)&& decide (n≤1099511627776)
def aP (v:ag):Bool:=decide (1≤v.gen)&& decide (v.gen≤1099511627776)&&
 (if v.gone=true then decide (v.qY=bN)&& decide (v.owner=bN)&& decide (v.bY.length=0)&& decide (v.bX=0)&& decide (v.used=0)
  else !v.qq && decide (1≤v.bX)&& decide (v.bX≤32)&& decide (0≤v.used)&& decide (v.used < v.bX)&& decide (v.bY.length≤64))
theorem nJ (b:Nat) (h:Hp) (v:ag):run fns pr b 75 [v.enc] h=some (.s (.bool (aP v)),h):=by
 refine Vm.aU (nt:=72) rfl MV (by simp) ?_
 obtain ⟨id,ge,qY,se,li,us,ow,go,wi⟩:=v
 simp only[aP]
 have hl:((se.length:Int)≤64)=(se.length≤64):=propext (by omega)
 have hz:(se.length=0)=((se.length:Int)=0):=propext (by omega)
 by_cases g1:ge < 1
 ·have g1':¬1≤ge:=by omega
  simp only[wR,ag.enc,go_sem,↓reduceIte,Nat.reduceEqDiff,Nat.reduceBEq,Nat.reduceAdd,Nat.reduceSub,Nat.reduceLT,Nat.reduceLeDiff,Int.reduceLT,Int.reduceLE,Int.reduceEq,Int.reduceToNat,List.append_assoc,List.length_append,Vm.aK,Vm.ca,Vm.bu,Vm.bo,Vm.bJ,Vm.bp,Nat.le_refl,Nat.le_add_right,Nat.le_refl,hl,hz,cg,cZ,Bool.true_and,Bool.false_and,Bool.and_false,Bool.and_true,decide_false,decide_true,if_false,if_true,Bool.not_true,Bool.not_false,Bool.false_eq_true,g1,g1']
 have g1':1≤ge:=by omega
 by_cases g2:1099511627776 < ge
 ·have g2':¬ge≤1099511627776:=by omega
  simp only[wR,ag.enc,go_sem,↓reduceIte,Nat.reduceEqDiff,Nat.reduceBEq,Nat.reduceAdd,Nat.reduceSub,Nat.reduceLT,Nat.reduceLeDiff,Int.reduceLT,Int.reduceLE,Int.reduceEq,Int.reduceToNat,List.append_assoc,List.length_append,Vm.aK,Vm.ca,Vm.bu,Vm.bo,Vm.bJ,Vm.bp,Nat.le_refl,Nat.le_add_right,Nat.le_refl,hl,hz,cg,cZ,Bool.true_and,Bool.false_and,Bool.and_false,Bool.and_true,decide_false,decide_true,if_false,if_true,Bool.not_true,Bool.not_false,Bool.false_eq_true,g1,g1',g2,g2']
 have g2':ge≤1099511627776:=by omega
 cases go with
 | true=>
   by_cases k0:qY=bN
   case neg=> simp only[wR,ag.enc,go_sem,↓reduceIte,Nat.reduceEqDiff,Nat.reduceBEq,Nat.reduceAdd,Nat.reduceSub,Nat.reduceLT,Nat.reduceLeDiff,Int.reduceLT,Int.reduceLE,Int.reduceEq,Int.reduceToNat,List.append_assoc,List.length_append,Vm.aK,Vm.ca,Vm.bu,Vm.bo,Vm.bJ,Vm.bp,Nat.le_refl,Nat.le_add_right,Nat.le_refl,hl,hz,cg,cZ,Bool.true_and,Bool.false_and,Bool.and_false,Bool.and_true,decide_false,decide_true,if_false,if_true,Bool.not_true,Bool.not_false,Bool.false_eq_true,g1,g1',g2,g2',k0]
   by_cases k1:ow=bN
   case neg=> simp only[wR,ag.enc,go_sem,↓reduceIte,Nat.reduceEqDiff,Nat.reduceBEq,Nat.reduceAdd,Nat.reduceSub,Nat.reduceLT,Nat.reduceLeDiff,Int.reduceLT,Int.reduceLE,Int.reduceEq,Int.reduceToNat,List.append_assoc,List.length_append,Vm.aK,Vm.ca,Vm.bu,Vm.bo,Vm.bJ,Vm.bp,Nat.le_refl,Nat.le_add_right,Nat.le_refl,hl,hz,cg,cZ,Bool.true_and,Bool.false_and,Bool.and_false,Bool.and_true,decide_false,decide_true,if_false,if_true,Bool.not_true,Bool.not_false,Bool.false_eq_true,g1,g1',g2,g2',k0,k1]
   by_cases k2:(se.length:Int)=0
   case neg=> simp only[wR,ag.enc,go_sem,↓reduceIte,Nat.reduceEqDiff,Nat.reduceBEq,Nat.reduceAdd,Nat.reduceSub,Nat.reduceLT,Nat.reduceLeDiff,Int.reduceLT,Int.reduceLE,Int.reduceEq,Int.reduceToNat,List.append_assoc,List.length_append,Vm.aK,Vm.ca,Vm.bu,Vm.bo,Vm.bJ,Vm.bp,Nat.le_refl,Nat.le_add_right,Nat.le_refl,hl,hz,cg,cZ,Bool.true_and,Bool.false_and,Bool.and_false,Bool.and_true,decide_false,decide_true,if_false,if_true,Bool.not_true,Bool.not_false,Bool.false_eq_true,g1,g1',g2,g2',k0,k1,k2]
   by_cases k3:li=0
   case neg=> simp only[wR,ag.enc,go_sem,↓reduceIte,Nat.reduceEqDiff,Nat.reduceBEq,Nat.reduceAdd,Nat.reduceSub,Nat.reduceLT,Nat.reduceLeDiff,Int.reduceLT,Int.reduceLE,Int.reduceEq,Int.reduceToNat,List.append_assoc,List.length_append,Vm.aK,Vm.ca,Vm.bu,Vm.bo,Vm.bJ,Vm.bp,Nat.le_refl,Nat.le_add_right,Nat.le_refl,hl,hz,cg,cZ,Bool.true_and,Bool.false_and,Bool.and_false,Bool.and_true,decide_false,decide_true,if_false,if_true,Bool.not_true,Bool.not_false,Bool.false_eq_true,g1,g1',g2,g2',k0,k1,k2,k3]
   simp only[wR,ag.enc,go_sem,↓reduceIte,Nat.reduceEqDiff,Nat.reduceBEq,Nat.reduceAdd,Nat.reduceSub,Nat.reduceLT,Nat.reduceLeDiff,Int.reduceLT,Int.reduceLE,Int.reduceEq,Int.reduceToNat,List.append_assoc,List.length_append,Vm.aK,Vm.ca,Vm.bu,Vm.bo,Vm.bJ,Vm.bp,Nat.le_refl,Nat.le_add_right,Nat.le_refl,hl,hz,cg,cZ,Bool.true_and,Bool.false_and,Bool.and_false,Bool.and_true,decide_false,decide_true,if_false,if_true,Bool.not_true,Bool.not_false,Bool.false_eq_true,g1,g1',g2,g2',k0,k1,k2,k3]
 | false=>
   cases wi with
   | true=> simp only[wR,ag.enc,go_sem,↓reduceIte,Nat.reduceEqDiff,Nat.reduceBEq,Nat.reduceAdd,Nat.reduceSub,Nat.reduceLT,Nat.reduceLeDiff,Int.reduceLT,Int.reduceLE,Int.reduceEq,Int.reduceToNat,List.append_assoc,List.length_append,Vm.aK,Vm.ca,Vm.bu,Vm.bo,Vm.bJ,Vm.bp,Nat.le_refl,Nat.le_add_right,Nat.le_refl,hl,hz,cg,cZ,Bool.true_and,Bool.false_and,Bool.and_false,Bool.and_true,decide_false,decide_true,if_false,if_true,Bool.not_true,Bool.not_false,Bool.false_eq_true,g1,g1',g2,g2']
   | false=>
     by_cases k0:1≤li
     case neg=> simp only[wR,ag.enc,go_sem,↓reduceIte,Nat.reduceEqDiff,Nat.reduceBEq,Nat.reduceAdd,Nat.reduceSub,Nat.reduceLT,Nat.reduceLeDiff,Int.reduceLT,Int.reduceLE,Int.reduceEq,Int.reduceToNat,List.append_assoc,List.length_append,Vm.aK,Vm.ca,Vm.bu,Vm.bo,Vm.bJ,Vm.bp,Nat.le_refl,Nat.le_add_right,Nat.le_refl,hl,hz,cg,cZ,Bool.true_and,Bool.false_and,Bool.and_false,Bool.and_true,decide_false,decide_true,if_false,if_true,Bool.not_true,Bool.not_false,Bool.false_eq_true,g1,g1',g2,g2',k0]
     by_cases k1:li≤32
     case neg=> simp only[wR,ag.enc,go_sem,↓reduceIte,Nat.reduceEqDiff,Nat.reduceBEq,Nat.reduceAdd,Nat.reduceSub,Nat.reduceLT,Nat.reduceLeDiff,Int.reduceLT,Int.reduceLE,Int.reduceEq,Int.reduceToNat,List.append_assoc,List.length_append,Vm.aK,Vm.ca,Vm.bu,Vm.bo,Vm.bJ,Vm.bp,Nat.le_refl,Nat.le_add_right,Nat.le_refl,hl,hz,cg,cZ,Bool.true_and,Bool.false_and,Bool.and_false,Bool.and_true,decide_false,decide_true,if_false,if_true,Bool.not_true,Bool.not_false,Bool.false_eq_true,g1,g1',g2,g2',k0,k1]
     by_cases k2:0≤us
     case neg=> simp only[wR,ag.enc,go_sem,↓reduceIte,Nat.reduceEqDiff,Nat.reduceBEq,Nat.reduceAdd,Nat.reduceSub,Nat.reduceLT,Nat.reduceLeDiff,Int.reduceLT,Int.reduceLE,Int.reduceEq,Int.reduceToNat,List.append_assoc,List.length_append,Vm.aK,Vm.ca,Vm.bu,Vm.bo,Vm.bJ,Vm.bp,Nat.le_refl,Nat.le_add_right,Nat.le_refl,hl,hz,cg,cZ,Bool.true_and,Bool.false_and,Bool.and_false,Bool.and_true,decide_false,decide_true,if_false,if_true,Bool.not_true,Bool.not_false,Bool.false_eq_true,g1,g1',g2,g2',k0,k1,k2]
     by_cases k3:us < li
     case neg=> simp only[wR,ag.enc,go_sem,↓reduceIte,Nat.reduceEqDiff,Nat.reduceBEq,Nat.reduceAdd,Nat.reduceSub,Nat.reduceLT,Nat.reduceLeDiff,Int.reduceLT,Int.reduceLE,Int.reduceEq,Int.reduceToNat,List.append_assoc,List.length_append,Vm.aK,Vm.ca,Vm.bu,Vm.bo,Vm.bJ,Vm.bp,Nat.le_refl,Nat.le_add_right,Nat.le_refl,hl,hz,cg,cZ,Bool.true_and,Bool.false_and,Bool.and_false,Bool.and_true,decide_false,decide_true,if_false,if_true,Bool.not_true,Bool.not_false,Bool.false_eq_true,g1,g1',g2,g2',k0,k1,k2,k3]
     simp only[wR,ag.enc,go_sem,↓reduceIte,Nat.reduceEqDiff,Nat.reduceBEq,Nat.reduceAdd,Nat.reduceSub,Nat.reduceLT,Nat.reduceLeDiff,Int.reduceLT,Int.reduceLE,Int.reduceEq,Int.reduceToNat,List.append_assoc,List.length_append,Vm.aK,Vm.ca,Vm.bu,Vm.bo,Vm.bJ,Vm.bp,Nat.le_refl,Nat.le_add_right,Nat.le_refl,hl,hz,cg,cZ,Bool.true_and,Bool.false_and,Bool.and_false,Bool.and_true,decide_false,decide_true,if_false,if_true,Bool.not_true,Bool.not_false,Bool.false_eq_true,g1,g1',g2,g2',k0,k1,k2,k3]
def ag.gk (f:Bool) (a:ag):V:= .st 31 [.arr 27 (a.iD.map aa),.s (.int .u64 a.gen),.arr 25 (a.qY.map aa),.al f none (a.bY.map aa),.s (.int .i64 a.bX),.s (.int .i64 a.used),.arr 25 (a.owner.map aa),.s (.bool a.gone),.s (.bool a.qq)]
theorem ag.lE (a:ag):a.enc=a.gk false:=rfl
def zeroV :ag:=⟨BC,0,bN,[],0,0,bN,false,false⟩
theorem C0 (b:Nat) (h:Hp) (f g:Bool) (v w:ag):run fns pr b 107 [v.gk f,w.gk g] h=some (.s (.bool (decide (v=w))),h):=by
 refine Vm.aU (nt:=66) rfl NS (by simp) ?_
 obtain ⟨a1,a2,a3,a4,a5,a6,a7,a8,a9⟩:=v
 obtain ⟨c1,c2,c3,c4,c5,c6,c7,c8,c9⟩:=w
 simp only[ag.mk.injEq]
 have he:=fun h0 f g l m=> wX h.length h0 (.al f none (l.map aa)) (.al g none (m.map aa)) l m (cY _ _ _) (cY _ _ _)
 have au:(0:Nat)=0:=rfl
 try simp only[Kd,ag.gk,cZ,he,go_sem,↓reduceIte,Nat.reduceEqDiff,Nat.reduceBEq,Nat.reduceAdd,Nat.reduceSub,Nat.reduceLT,Nat.reduceLeDiff,Int.reduceLT,Int.reduceLE,Int.reduceEq,Int.reduceToNat]
 repeat' (
   first | refine q5z ?_ ?_ | refine q3z ?_ ?_ | refine q4z ?_ ?_
   all_goals intro aj
   all_goals first | replace aj:=q2z aj | replace aj:=q1z aj | skip
   all_goals first | subst aj | replace au:=And.intro aj au
   all_goals try simp only[au,Kd,ag.gk,cZ,he,go_sem,↓reduceIte,Nat.reduceEqDiff,Nat.reduceBEq,Nat.reduceAdd,Nat.reduceSub,Nat.reduceLT,Nat.reduceLeDiff,Int.reduceLT,Int.reduceLE,Int.reduceEq,Int.reduceToNat])
 all_goals (clear he;simp_all [Bool.beq_eq_decide_eq])
theorem ef (t:Nat):V.arr t [V.s (.int .u8 0),.s (.int .u8 0),.s (.int .u8 0),.s (.int .u8 0),.s (.int .u8 0),.s (.int .u8 0),.s (.int .u8 0),.s (.int .u8 0),.s (.int .u8 0),.s (.int .u8 0),.s (.int .u8 0),.s (.int .u8 0),.s (.int .u8 0),.s (.int .u8 0),.s (.int .u8 0),.s (.int .u8 0)]= .arr t (bN.map aa):=rfl
theorem iz (t:Nat):V.arr t [V.s (.int .u8 0),.s (.int .u8 0),.s (.int .u8 0),.s (.int .u8 0)]= .arr t (BC.map aa):=rfl
theorem fE (f:Bool) (v:ag):(v.gk f).ty=some 31:=rfl
theorem fF (f:Bool) (v:ag):(v.gk f).ax=true:=rfl
theorem aX (v:ag):v.enc.ty=some 31:=rfl
theorem aY (v:ag):v.enc.ax=true:=rfl
theorem vz (n:Nat) (h:Hp) (v:ag):bA n h v.enc=some v.enc:=by simp only[ag.enc,go_sem]
theorem Ky (f:Bool):V.st 31 [.arr 27 (BC.map aa),.s (.int .u64 0),.arr 25 (bN.map aa),.al f none [],.s (.int .i64 0),.s (.int .i64 0),.arr 25 (bN.map aa),.s (.bool false),.s (.bool false)]=zeroV.gk f:=rfl
def YN (v:ag) (w:Bool):ag:=⟨v.iD,v.gen,bN,[],0,0,bN,true,w⟩
theorem fH (b:Nat) (h:Hp) (f:Bool) (v:ag):run fns pr b 75 [v.gk f] h=some (.s (.bool (aP v)),h):=by
 refine Vm.aU (nt:=72) rfl MV (by simp) ?_
 have au:(0:Nat)=0:=rfl
 try simp only[wR,ag.gk,ef,cZ,go_sem,↓reduceIte,Nat.reduceEqDiff,Nat.reduceBEq,Nat.reduceAdd,Nat.reduceSub,Nat.reduceLT,Nat.reduceLeDiff,Int.reduceLT,Int.reduceLE,Int.reduceEq,Int.reduceToNat]
 repeat' (
   first | refine q5z ?_ ?_ | refine q3z ?_ ?_ | refine q4z ?_ ?_
   all_goals intro aj
   all_goals first | replace aj:=q2z aj | replace aj:=q1z aj | skip
   all_goals first | subst aj | replace au:=And.intro aj au
   all_goals try simp only[au,wR,ag.gk,ef,cZ,go_sem,↓reduceIte,Nat.reduceEqDiff,Nat.reduceBEq,Nat.reduceAdd,Nat.reduceSub,Nat.reduceLT,Nat.reduceLeDiff,Int.reduceLT,Int.reduceLE,Int.reduceEq,Int.reduceToNat])
 all_goals try simp only[decide_eq_true_eq,decide_eq_false_iff_not] at *
 all_goals first
   | (simp_all [aP, -Int.not_le, -Int.not_lt, -Nat.not_le, -Nat.not_lt,Bool.beq_eq_decide_eq];done)
   | (simp_all [aP, -Int.not_le, -Int.not_lt, -Nat.not_le, -Nat.not_lt,Bool.beq_eq_decide_eq];omega)
   | (simp_all [aP,Bool.beq_eq_decide_eq];done)
   | (simp_all [aP,Bool.beq_eq_decide_eq];omega)
   | skip
def YO (v:ag):Int:=if v.gone=true∨aP v=false then 0 else v.bX - v.used
def YP (v:ag):ag:= {v with used:=v.used+1}
theorem q14z {v:ag} (h:aP v=true):v.bY.length≤64:=by
 simp[aP] at h
 have:=h.2
 split at this <;> simp_all
def ug (v:ag):UInt8:=if v.qq=true then 3 else if v.gone=true then 1 else 0
def aZ (v:ag):Bs:=v.iD++(bB v.gen.toNat++([ug v,bt v.bX,bt v.used]++(v.qY++(v.owner++([bt v.bY.length]++v.bY)))))
theorem mc (b:Nat) (h:Hp) (f:Bool) (v:ag) (hw:v.wf) (hs:v.bY.length≤100000):run fns pr b 76 [v.gk f] h=some (.al false none ((aZ v).map aa),h):=by
 refine Vm.aU (nt:=36) rfl TV (by simp) ?_
 obtain ⟨w1,w2,w3,w4,w5,w6,w7,w8,w9⟩:=hw
 obtain ⟨id,ge,qY,se,li,us,ow,go,wi⟩:=v
 simp only at w1 w2 w3 w4 w5 w6 w7 hs
 obtain ⟨g,rfl⟩:∃g:Nat,ge=(g:Int):=⟨ge.toNat,by omega⟩
 have l1:(id.map aa).length=4:=by simp[w1]
 have l2:(qY.map aa).length=16:=by simp[w3]
 have l3:(ow.map aa).length=16:=by simp[w7]
 have n1:=fun H (hh:h.length≤H.length)=> eB h.length H g (by omega) hh
 have key:∀fl:UInt8,ug ⟨id,g,qY,se,li,us,ow,go,wi⟩=fl→∀H,H=h++[aV.cells (some 31) [V.st 31 [.arr 27 (id.map aa),.s (.int .u64 (g:Int)),.arr 25 (qY.map aa),.al f none (se.map aa),.s (.int .i64 li),.s (.int .i64 us),.arr 25 (ow.map aa),.s (.bool go),.s (.bool wi)]],.cells none ((bB g).map aa)]→
  run fns pr h.length 104 [.al true none [.ref h.length [0,0] none 0 4 1,.ref (h.length+1) [] none 0 8 8,.al true none [aa fl,aa (bt li),aa (bt us)],.ref h.length [0,2] none 0 16 1,.ref h.length [0,6] none 0 16 1,.al true none [aa (bt se.length)],.al f none (se.map aa)]] H
    =some (.al false none ((aZ ⟨id,g,qY,se,li,us,ow,go,wi⟩).map aa),H):=by
   rintro fl ma H rfl
   have:=uc h.length (h++[aV.cells (some 31) [V.st 31 [.arr 27 (id.map aa),.s (.int .u64 (g:Int)),.arr 25 (qY.map aa),.al f none (se.map aa),.s (.int .i64 li),.s (.int .i64 us),.arr 25 (ow.map aa),.s (.bool go),.s (.bool wi)]],.cells none ((bB g).map aa)]) (.al true none [.ref h.length [0,0] none 0 4 1,.ref (h.length+1) [] none 0 8 8,.al true none [aa fl,aa (bt li),aa (bt us)],.ref h.length [0,2] none 0 16 1,.ref h.length [0,6] none 0 16 1,.al true none [aa (bt se.length)],.al f none (se.map aa)]) 7 _ [id,bB g,[fl,bt li,bt us],qY,ow,[bt se.length],se] (.inl ⟨true,rfl⟩) rfl (by omega) ⟨rfl,fun i v m hv hm=> by
     match i,hv,hm with
     | 0,hv,hm=> cases hv;cases hm;exact Rd.mk' (by simp only[dU,go_sem,↓reduceIte,Nat.reduceEqDiff,Nat.reduceBEq,Nat.reduceAdd,Nat.reduceSub,Nat.reduceLT,Nat.reduceLeDiff,Int.reduceLT,Int.reduceLE,Int.reduceEq,Int.reduceToNat,List.append_assoc,List.length_append,Vm.aK,Vm.ca,Vm.bu,Vm.bo,Vm.bJ,Vm.bp,Nat.le_refl,Nat.le_add_right,fD,List.drop_zero,List.take_of_length_le (Nat.le_of_eq l1)]) (by simp[fq,w1])
     | 1,hv,hm=> cases hv;cases hm;exact BR.rd (dH (xb h _ _).2 (bF _))
     | 2,hv,hm=> cases hv;cases hm;exact BR.rd (cY _ true [fl,bt li,bt us])
     | 3,hv,hm=> cases hv;cases hm;exact Rd.mk' (by simp only[dU,go_sem,↓reduceIte,Nat.reduceEqDiff,Nat.reduceBEq,Nat.reduceAdd,Nat.reduceSub,Nat.reduceLT,Nat.reduceLeDiff,Int.reduceLT,Int.reduceLE,Int.reduceEq,Int.reduceToNat,List.append_assoc,List.length_append,Vm.aK,Vm.ca,Vm.bu,Vm.bo,Vm.bJ,Vm.bp,Nat.le_refl,Nat.le_add_right,fD,List.drop_zero,List.take_of_length_le (Nat.le_of_eq l2)]) (by simp[fq,w3])
     | 4,hv,hm=> cases hv;cases hm;exact Rd.mk' (by simp only[dU,go_sem,↓reduceIte,Nat.reduceEqDiff,Nat.reduceBEq,Nat.reduceAdd,Nat.reduceSub,Nat.reduceLT,Nat.reduceLeDiff,Int.reduceLT,Int.reduceLE,Int.reduceEq,Int.reduceToNat,List.append_assoc,List.length_append,Vm.aK,Vm.ca,Vm.bu,Vm.bo,Vm.bJ,Vm.bp,Nat.le_refl,Nat.le_add_right,fD,List.drop_zero,List.take_of_length_le (Nat.le_of_eq l3)]) (by simp[fq,w7])
     | 5,hv,hm=> cases hv;cases hm;exact BR.rd (cY _ true [bt se.length])
     | 6,hv,hm=> cases hv;cases hm;exact BR.rd (cY _ f se)
     | i+7,hv,hm=> simp at hv⟩ (by simp;omega)
   rw[this]
   simp only[aZ,ma,List.flatten_cons,List.flatten_nil,List.append_nil,Int.toNat_natCast]
 have k1:=fun fl ma=> key fl ma _ rfl
 have b3:V.s (.int .u8 3)=aa 3:=rfl
 have b1:V.s (.int .u8 1)=aa 1:=rfl
 have b0:V.s (.int .u8 0)=aa 0:=rfl
 cases wi with
 | true=>
   have k2:=k1 3 rfl
   simp only[B76,ag.gk,l1,l2,l3,n1,od,oW,iM,jZ,gM,k2,b3,go_sem,↓reduceIte,Nat.reduceEqDiff,Nat.reduceBEq,Nat.reduceAdd,Nat.reduceSub,Nat.reduceLT,Nat.reduceLeDiff,Int.reduceLT,Int.reduceLE,Int.reduceEq,Int.reduceToNat]
 | false=>
   cases go with
   | true=>
     have k2:=k1 1 rfl
     simp only[B76,ag.gk,l1,l2,l3,n1,od,oW,iM,jZ,gM,k2,b1,go_sem,↓reduceIte,Nat.reduceEqDiff,Nat.reduceBEq,Nat.reduceAdd,Nat.reduceSub,Nat.reduceLT,Nat.reduceLeDiff,Int.reduceLT,Int.reduceLE,Int.reduceEq,Int.reduceToNat]
   | false=>
     have k2:=k1 0 rfl
     rw[←b0] at k2
     simp only[B76,ag.gk,l1,l2,l3,n1,od,oW,iM,jZ,gM,k2,go_sem,↓reduceIte,Nat.reduceEqDiff,Nat.reduceBEq,Nat.reduceAdd,Nat.reduceSub,Nat.reduceLT,Nat.reduceLeDiff,Int.reduceLT,Int.reduceLE,Int.reduceEq,Int.reduceToNat]
theorem G7 (b:Nat) (h:Hp) (f:Bool) (v:ag) (hw:v.wf):run fns pr b 42 [v.gk f] h=some (if aP v=true then .bI [.al false none ((aZ v).map aa),.s (.int .i64 0)] else .bI [.al false none [],.s (.int .i64 1)],h):=by
 refine Vm.aU (nt:=9) rfl SJ (by simp) ?_
 have hr:=fun h0=> fH h.length h0 f v
 cases c:aP v with
 | false=>
   rw[c] at hr
   simp only[B42,fE,fF,hr,go_sem,↓reduceIte,Nat.reduceEqDiff,Nat.reduceBEq,Nat.reduceAdd,Nat.reduceSub,Nat.reduceLT,Nat.reduceLeDiff,Int.reduceLT,Int.reduceLE,Int.reduceEq,Int.reduceToNat]
 | true=>
   rw[c] at hr
   have hp:=fun h0=> mc h.length h0 f v hw (by have:=q14z c;omega)
   simp only[B42,fE,fF,hr,hp,go_sem,↓reduceIte,Nat.reduceEqDiff,Nat.reduceBEq,Nat.reduceAdd,Nat.reduceSub,Nat.reduceLT,Nat.reduceLeDiff,Int.reduceLT,Int.reduceLE,Int.reduceEq,Int.reduceToNat]
theorem Kz (b:Nat) (h:Hp) (f:Bool) (v:ag):run fns pr b 83 [v.gk f] h=some (.s (.bool (decide (v=zeroV))),h):=by
 refine Vm.aU (nt:=6) rfl Ub (by simp) ?_
 have he:=fun h0 f g v w=> C0 h.length h0 f g v w
 simp only[B83,he,ef,iz,Ky,fE,fF,go_sem,↓reduceIte,Nat.reduceEqDiff,Nat.reduceBEq,Nat.reduceAdd,Nat.reduceSub,Nat.reduceLT,Nat.reduceLeDiff,Int.reduceLT,Int.reduceLE,Int.reduceEq,Int.reduceToNat]
theorem KA (b:Nat) (h:Hp) (xs:List V):run fns pr b 98 xs h=wW xs h:=by rw[nZ fns pr rfl];rfl
def g9 (l:List ag) (i:Nat):Bool:=aP (l.getD i zeroV)&&(i==0 || decide (Lib.compareBytes (l.getD (i - 1) zeroV).iD (l.getD i zeroV).iD < 0))
def dd (l:List ag):Bool:=decide (l.length≤4)&&(List.range l.length).all (g9 l)
theorem uh {l:List ag} {i:Nat} (hi:i < l.length) (h:g9 l i=false):dd l=false:=by
 unfold dd
 rw[Bool.and_eq_false_iff];right
 rw[List.all_eq_false]
 exact ⟨i,List.mem_range.2 hi,by simp[h]⟩
theorem C1 (b:Nat) (h:Hp) (x:V) (l:List ag) (gW:SR h x (some 31) (l.map ag.enc)) (hw:∀v∈l,v.wf):run fns pr b 84 [x] h=some (.s (.bool (dd l)),h):=by
 refine Vm.aU (nt:=35) rfl Ud (by simp) ?_
 have jd:∀cf base H,aB cf base H .len [x]=some (.s (.int .i64 (l.length:Nat)),H):=fun cf base H=> by rw[gW.cE];simp
 by_cases c4:l.length≤4
 case neg=>
   have c':(4:Int)<((l.length:Nat):Int):=by omega
   have hf:dd l=false:=by simp[dd,c4]
   rw[hf]
   simp only[B84,Gg,Gf,jd,c',List.take_left,go_sem,↓reduceIte,Nat.reduceEqDiff,Nat.reduceBEq,Nat.reduceAdd,Nat.reduceSub,Nat.reduceLT,Nat.reduceLeDiff,Int.reduceLT,Int.reduceLE,Int.reduceEq,Int.reduceToNat]
 have c':¬(4:Int)<((l.length:Nat):Int):=by omega
 simp only[B84,Gg,Gf,jd,c',go_sem,↓reduceIte,Nat.reduceEqDiff,Nat.reduceBEq,Nat.reduceAdd,Nat.reduceSub,Nat.reduceLT,Nat.reduceLeDiff,Int.reduceLT,Int.reduceLE,Int.reduceEq,Int.reduceToNat]
 refine bh (fun q e H=>∃j,q=l.length - j∧j≤l.length∧e 10= .s (.int .i64 (j:Nat))∧e 9= .s (.int .i64 (l.length:Nat))∧e 8=x∧e 0=x∧Fw [] h H∧(∀i,i < j→g9 l i=true))
   (fun e H=> Fw [] h H∧dd l=true) l.length _ _ ⟨0,rfl,by omega,rfl,rfl,rfl,rfl,Fw.refl _ _,fun i hi=> by omega⟩ ?_ ?_
 ·rintro q e H ⟨j,rfl,hj,e10,e9,e8,e0,fw,cJ⟩
  by_cases cd:j < l.length
  ·have cj:(j:Int)<((l.length:Nat):Int):=by omega
   have hjv:l[j]? =some (l.getD j zeroV):=by rw[List.getD,List.getElem?_eq_getElem cd];rfl
   have i1:=fun cf base=>(gW.fw fw).cX (cf:=cf) (base:=base) (k:= .i64) (i:=j) (by simpa using cd)
   have i2:=fun cf base=>(gW.fw fw).g8 (cf:=cf) (base:=base) (i:=j) (v:=(l.getD j zeroV).enc) (by rw[List.getElem?_map,hjv];rfl) rfl
   have hr:=fun h0=> nJ h.length h0 (l.getD j zeroV)
   have w3:IntKind.i64.wrap ((j:Int)+1)=((j+1:Nat):Int):=q17z (by omega)
   have hle:=fw.len
   have tk:∀X,(H++X).take h.length=h:=fun X=>(fw.trans (Fw.app [] H X)).take
   have fX:∀X,Fw [] h (H++X):=fun X=> fw.trans (Fw.app [] H X)
   cases jC:aP (l.getD j zeroV) with
   | false=>
     rw[jC] at hr
     rw[uh cd (by unfold g9;rw[jC];rfl)]
     simp only[e10,e9,e8,e0,cj,i1,i2,aX,aY,hr,hle,tk,go_sem,↓reduceIte,Nat.reduceEqDiff,Nat.reduceBEq,Nat.reduceAdd,Nat.reduceSub,Nat.reduceLT,Nat.reduceLeDiff,Int.reduceLT,Int.reduceLE,Int.reduceEq,Int.reduceToNat]
   | true=>
     rw[jC] at hr
     by_cases j0:j=0
     ·subst j0
      have c0:¬(0:Int)<((0:Nat):Int):=by omega
      simp only[e10,e9,e8,e0,cj,i1,i2,aX,aY,hr,w3,hle,c0,go_sem,↓reduceIte,Nat.reduceEqDiff,Nat.reduceBEq,Nat.reduceAdd,Nat.reduceSub,Nat.reduceLT,Nat.reduceLeDiff,Int.reduceLT,Int.reduceLE,Int.reduceEq,Int.reduceToNat]
      refine ⟨l.length - 1,by omega,1,rfl,by omega,rfl,fX _,fun i hi=> ?_⟩
      obtain rfl:i=0:=by omega
      unfold g9;rw[jC];rfl
     ·have c0:(0:Int)<((j:Nat):Int):=by omega
      have w4:IntKind.i64.wrap ((j:Int) - 1)=((j - 1:Nat):Int):=by rw[wrap_i64 (by omega) (by omega)];omega
      have hjp:l[j - 1]? =some (l.getD (j - 1) zeroV):=by rw[List.getD,List.getElem?_eq_getElem (by omega)];rfl
      have wf1:=hw _ (List.mem_of_getElem? hjp)
      have wf2:=hw _ (List.mem_of_getElem? hjv)
      have p1:=fun cf base=>((gW.fw (fX [.cells (some 31) [(l.getD j zeroV).enc]]))).cX (cf:=cf) (base:=base) (k:= .i64) (i:=j - 1) (by simp;omega)
      generalize hv1:l.getD (j - 1) zeroV=v1 at hjp wf1
      generalize hv2:l.getD j zeroV=v2 at *
      obtain ⟨a1,a2,a3,a4,a5,a6,a7,a8,a9⟩:=v1
      obtain ⟨c1,c2,c3,c4,c5,c6,c7,c8,c9⟩:=v2
      have sX:=gW.fw (fX [.cells (some 31) [ag.enc ⟨c1,c2,c3,c4,c5,c6,c7,c8,c9⟩]])
      have qw:(l.map ag.enc)[j - 1]? =some (.st 31 [.arr 27 (a1.map aa),.s (.int .u64 a2),.arr 25 (a3.map aa),.al false none (a4.map aa),.s (.int .i64 a5),.s (.int .i64 a6),.arr 25 (a7.map aa),.s (.bool a8),.s (.bool a9)]):=by rw[List.getElem?_map,hjp];rfl
      have p2:=fun cf base=> sX.zR (cf:=cf) (base:=base) qw (f:=0) (by simp)
      have p3:=fun cf base=> sX.M5 (cf:=cf) (base:=base) (g':=none) qw (f:=0) rfl
      have p4:=uj sX (g':=none) qw (f:=0) rfl
      have l2:(c1.map aa).length=4:=by simpa using wf2.iD
      simp only[e10,e9,e8,e0,cj,i1,i2,aX,aY,hr,w3,hle,c0,w4,p1,p2,p3,go_sem,↓reduceIte,Nat.reduceEqDiff,Nat.reduceBEq,Nat.reduceAdd,Nat.reduceSub,Nat.reduceLT,Nat.reduceLeDiff,Int.reduceLT,Int.reduceLE,Int.reduceEq,Int.reduceToNat]
      simp only[ag.enc,List.length_map] at p4 ⊢
      simp only[KA,G8,p4,dU,l2,fD,List.take_of_length_le (Nat.le_of_eq l2),rX,go_sem,↓reduceIte,Nat.reduceEqDiff,Nat.reduceBEq,Nat.reduceAdd,Nat.reduceSub,Nat.reduceLT,Nat.reduceLeDiff,Int.reduceLT,Int.reduceLE,Int.reduceEq,Int.reduceToNat]
      by_cases cc:Lib.compareBytes a1 c1 < 0
      ·have cc':¬(0:Int)≤Lib.compareBytes a1 c1:=by omega
       simp only[cc',w3,e10,e9,e8,e0,go_sem,↓reduceIte,Nat.reduceEqDiff,Nat.reduceBEq,Nat.reduceAdd,Nat.reduceSub,Nat.reduceLT,Nat.reduceLeDiff,Int.reduceLT,Int.reduceLE,Int.reduceEq,Int.reduceToNat]
       refine ⟨l.length - (j+1),by omega,j+1,rfl,by omega,rfl,fX _,fun i hi=> ?_⟩
       by_cases hij:i=j
       ·subst hij
        unfold g9
        rw[hv1,hv2,jC]
        simp[cc]
       ·exact cJ i (by omega)
      ·have cc':(0:Int)≤Lib.compareBytes a1 c1:=by omega
       have hno:g9 l j=false:=by
         unfold g9
         rw[hv1,hv2,jC]
         simp[cc,j0]
       rw[uh cd hno]
       simp only[cc',tk,go_sem,↓reduceIte,Nat.reduceEqDiff,Nat.reduceBEq,Nat.reduceAdd,Nat.reduceSub,Nat.reduceLT,Nat.reduceLeDiff,Int.reduceLT,Int.reduceLE,Int.reduceEq,Int.reduceToNat]
  ·have cj:¬(j:Int)<((l.length:Nat):Int):=by omega
   have uk:j=l.length:=by omega
   subst uk
   simp only[e10,e9,e8,e0,cj,go_sem,↓reduceIte,Nat.reduceEqDiff,Nat.reduceBEq,Nat.reduceAdd,Nat.reduceSub,Nat.reduceLT,Nat.reduceLeDiff,Int.reduceLT,Int.reduceLE,Int.reduceEq,Int.reduceToNat]
   refine ⟨fw,?_⟩
   unfold dd
   rw[decide_eq_true c4,Bool.true_and,List.all_eq_true]
   exact fun i hi=> cJ i (List.mem_range.1 hi)
 ·rintro e H ⟨fw,hf⟩
  rw[hf]
  have eA:=fw.take
  simp only[eA,go_sem,↓reduceIte,Nat.reduceEqDiff,Nat.reduceBEq,Nat.reduceAdd,Nat.reduceSub,Nat.reduceLT,Nat.reduceLeDiff,Int.reduceLT,Int.reduceLE,Int.reduceEq,Int.reduceToNat]
def kK (r:aq):Bool:=decide (1≤r.aD)&& decide (r.aD≤1099511627776)&& decide (0≤r.aA)&& decide (r.aA < 16)&& decide (r.av=zeroV)
def aS (r:aq):Bool:=
 if r.kind=1 then aP r.av && decide (r.aA=0)&& decide (r.dz=0)&& decide (r.aD=0)&& decide (r.ai.length=0)
 else if r.kind=2 then kK r && decide (0≤r.dz)&& decide (r.dz < 8)&& decide (r.ai.length=0)
 else if r.kind=3 then kK r && decide (r.dz=0)&& dd r.ai
 else if r.kind=4 then kK r && decide (r.dz=0)&& decide (r.ai.length=0) else false
theorem lF (b:Nat) (h:Hp) (f:Bool) (x:V) (r:aq) (gW:SR h x (some 31) (r.ai.map ag.enc)) (hw:∀v∈r.ai,v.wf):run fns pr b 52 [.st 41 [.s (.int .i64 r.kind),.s (.int .i64 r.aA),.s (.int .i64 r.dz),.s (.int .u64 r.aD),r.av.gk f,x]] h=some (.s (.bool (aS r)),h):=by
 refine Vm.aU (nt:=101) rfl S7 (by simp) ?_
 obtain ⟨kind,aA,dz,aD,av,ai⟩:=r
 simp only at gW hw ⊢
 have h1:=fun h0=> Kz h.length h0 f av
 have h2:=fun h0=> fH h.length h0 f av
 have h3:∀B,run fns pr h.length 84 [x] (h++[B])=some (.s (.bool (dd ai)),h++[B]):=fun B=> C1 h.length _ x ai (gW.fw (Fw.app [] h _)) hw
 have jd:∀cf base H,aB cf base H .len [x]=some (.s (.int .i64 (ai.length:Nat)),H):=fun cf base H=> by rw[gW.cE];simp
 have hl0:(((ai.length:Nat):Int)=0)=(ai.length=0):=propext (by omega)
 have du:x.ty=none:=by rcases gW with ⟨f,rfl⟩ | ⟨_,_,_,_,rfl,_⟩<;> rfl
 have jB:x.ax=true:=by rcases gW with ⟨f,rfl⟩ | ⟨_,_,_,_,rfl,_⟩<;> rfl
 have au:(0:Nat)=0:=rfl
 try simp only[B52,h1,h2,h3,jd,hl0,fE,fF,du,jB,go_sem,↓reduceIte,Nat.reduceEqDiff,Nat.reduceBEq,Nat.reduceAdd,Nat.reduceSub,Nat.reduceLT,Nat.reduceLeDiff,Int.reduceLT,Int.reduceLE,Int.reduceEq,Int.reduceToNat]
 repeat' (
   first | refine q5z ?_ ?_ | refine q3z ?_ ?_ | refine q4z ?_ ?_
   all_goals intro aj
   all_goals first | replace aj:=q2z aj | replace aj:=q1z aj | skip
   all_goals first | subst aj | replace au:=And.intro aj au
   all_goals try simp only[au,B52,h1,h2,h3,jd,hl0,fE,fF,du,jB,go_sem,↓reduceIte,Nat.reduceEqDiff,Nat.reduceBEq,Nat.reduceAdd,Nat.reduceSub,Nat.reduceLT,Nat.reduceLeDiff,Int.reduceLT,Int.reduceLE,Int.reduceEq,Int.reduceToNat])
 all_goals clear h1 h2 h3 jd
 all_goals try simp only[decide_eq_true_eq,decide_eq_false_iff_not] at *
 all_goals first
   | (simp_all [aS,kK, -Int.not_le, -Int.not_lt, -Nat.not_le, -Nat.not_lt,Bool.beq_eq_decide_eq];done)
   | (simp_all [aS,kK, -Int.not_le, -Int.not_lt, -Nat.not_le, -Nat.not_lt,Bool.beq_eq_decide_eq];omega)
   | (simp_all [aS,kK,Bool.beq_eq_decide_eq];done)
   | (simp_all [aS,kK,Bool.beq_eq_decide_eq];omega)
   | skip
theorem me (b:Nat) (h:Hp) (r:aq) (hw:∀v∈r.ai,v.wf):run fns pr b 52 [r.enc] h=some (.s (.bool (aS r)),h):=by
 have:=lF b h false (.al false (some 31) (r.ai.map ag.enc)) r (.inl ⟨false,rfl⟩) hw
 rw[←ag.lE] at this
 exact this
def mf (r:aq):Bs:=
 if r.kind=1 then bt r.kind::aZ r.av
 else if r.kind=2 then bt r.kind::bt r.aA::bt r.dz::bB r.aD.toNat
 else if r.kind=3 then bt r.kind::bt r.aA::(bB r.aD.toNat++(bt r.ai.length::r.ai.flatMap aZ))
 else bt r.kind::bt r.aA::bB r.aD.toNat
structure Rok (r:aq):Prop where
 k:r.kind=1∨r.kind=2∨r.kind=3∨r.kind=4
theorem q33z {r:aq} (h:aS r=true):r.kind=1∨r.kind=2∨r.kind=3∨r.kind=4:=by
 unfold aS at h
 split at h; · left;assumption
 split at h; · right;left;assumption
 split at h; · right;right;left;assumption
 split at h; · right;right;right;assumption
 cases h
theorem C2 (b:Nat) (h:Hp) (r:aq) (hw:r.wf) (G9:∀v∈r.ai,v.wf):run fns pr b 56 [r.enc] h=some (if aS r=true then .bI [.al false none ((mf r).map aa),.s (.int .i64 0)] else .bI [.al false none [],.s (.int .i64 1)],h):=by
 refine Vm.aU (nt:=79) rfl Tf (by simp) ?_
 have xf:=fun h0=> me h.length h0 r G9
 have du:r.enc.ty=some 41:=rfl
 have jB:r.enc.ax=true:=rfl
 cases c:aS r with
 | false=>
   rw[c] at xf
   simp only[B56,FV,xf,du,jB,go_sem,↓reduceIte,Nat.reduceEqDiff,Nat.reduceBEq,Nat.reduceAdd,Nat.reduceSub,Nat.reduceLT,Nat.reduceLeDiff,Int.reduceLT,Int.reduceLE,Int.reduceEq,Int.reduceToNat]
 | true=>
   rw[c] at xf
   have hk:=q33z c
   simp only[B56,FV,xf,du,jB,go_sem,↓reduceIte,Nat.reduceEqDiff,Nat.reduceBEq,Nat.reduceAdd,Nat.reduceSub,Nat.reduceLT,Nat.reduceLeDiff,Int.reduceLT,Int.reduceLE,Int.reduceEq,Int.reduceToNat]
   obtain ⟨kind,aA,dz,aD,av,ai⟩:=r
   obtain ⟨w1,w2,w3,w4,w5⟩:=hw
   simp only at hk w4 w5 G9
   obtain ⟨ep,rfl⟩:∃g:Nat,aD=(g:Int):=⟨aD.toNat,by omega⟩
   have N0:∀(A:aV) (x:UInt8) (X:Hp),kH h (h++A:: .cells none [aa x]::X) (.ref (h.length+1) [] none 0 1 1) [x]:=fun A x X=>⟨h.length+1,.inr ⟨rfl,by rw[List.getElem?_append_right (by omega)];simp⟩,by omega,Fw.app [] h _⟩
   have bl:∀(x:UInt8),(none:Option Nat)=(aa x).ty∧(aa x).ax=true:=fun x=>⟨rfl,rfl⟩
   rcases hk with rfl | rfl | rfl | rfl
   ·have c1:aP av=true:=by
      simp only[aS,if_true,Bool.and_eq_true] at c
      exact c.1.1.1.1
    have hp:=fun h0=> mc h.length h0 false av w5 (by have:=q14z c1;omega)
    rw[←ag.lE] at hp
    obtain ⟨v1,H1,a1,N1⟩:=(N0 (.cells (some 41) [.st 41 [.s (.int .i64 1),.s (.int .i64 aA),.s (.int .i64 dz),.s (.int .u64 (ep:Int)),av.enc,.al false (some 31) (ai.map fun z=> z.enc)]]) (bt 1) []).app (y:= .al false none ((aZ av).map aa)) (m:=aZ av) rfl (by simp[aZ];have:=q14z c1;have:=w5.iD;have:=w5.qY;have:=w5.owner;omega)
    have df:=N1.qX (n:=h.length) (Nat.le_refl _)
    have eA:=N1.fw.take
    simp only[aq.enc,od,aX,aY,hp,a1,df,eA,mf,go_sem,↓reduceIte,Nat.reduceEqDiff,Nat.reduceBEq,Nat.reduceAdd,Nat.reduceSub,Nat.reduceLT,Nat.reduceLeDiff,Int.reduceLT,Int.reduceLE,Int.reduceEq,Int.reduceToNat]
   ·-- out
    have hA:∀X,(h++(.cells (some 41) [.st 41 [.s (.int .i64 2),.s (.int .i64 aA),.s (.int .i64 dz),.s (.int .u64 (ep:Int)),av.enc,.al false (some 31) (ai.map fun z=> z.enc)]])::X)[h.length]? =some (.cells (some 41) [.st 41 [.s (.int .i64 2),.s (.int .i64 aA),.s (.int .i64 dz),.s (.int .u64 (ep:Int)),av.enc,.al false (some 31) (ai.map fun z=> z.enc)]]):=fun X=> by simp
    have f1:Fw [] (h++[(.cells (some 41) [.st 41 [.s (.int .i64 2),.s (.int .i64 aA),.s (.int .i64 dz),.s (.int .u64 (ep:Int)),av.enc,.al false (some 31) (ai.map fun z=> z.enc)]])]) (h++(.cells (some 41) [.st 41 [.s (.int .i64 2),.s (.int .i64 aA),.s (.int .i64 dz),.s (.int .u64 (ep:Int)),av.enc,.al false (some 31) (ai.map fun z=> z.enc)]]):: .cells none [aa (bt 2)]::[.cells none [aa (bt aA),aa (bt dz)]]):=by
      have:=Fw.app [] (h++[(.cells (some 41) [.st 41 [.s (.int .i64 2),.s (.int .i64 aA),.s (.int .i64 dz),.s (.int .u64 (ep:Int)),av.enc,.al false (some 31) (ai.map fun z=> z.enc)]])]) [.cells none [aa (bt 2)],.cells none [aa (bt aA),aa (bt dz)]]
      simpa using this
    have M0:kH (h++[(.cells (some 41) [.st 41 [.s (.int .i64 2),.s (.int .i64 aA),.s (.int .i64 dz),.s (.int .u64 (ep:Int)),av.enc,.al false (some 31) (ai.map fun z=> z.enc)]])]) (h++(.cells (some 41) [.st 41 [.s (.int .i64 2),.s (.int .i64 aA),.s (.int .i64 dz),.s (.int .u64 (ep:Int)),av.enc,.al false (some 31) (ai.map fun z=> z.enc)]]):: .cells none [aa (bt 2)]::[.cells none [aa (bt aA),aa (bt dz)]]) (.ref (h.length+1) [] none 0 1 1) [bt 2]:=⟨h.length+1,.inr ⟨rfl,by rw[List.getElem?_append_right (by omega)];simp⟩,by simp,f1⟩
    obtain ⟨v1,H1,a1,N1⟩:=M0.app (y:= .ref (h.length+2) [] none 0 2 2) (m:=[bt aA,bt dz]) (BR.src (dH (l:=[bt aA,bt dz]) (by rw[List.getElem?_append_right (by omega)];simp) rfl)) (by simp)
    have tX:h.length≤H1.length:=by have:=N1.fw.len;simp at this;omega
    have n1:=eB h.length H1 ep (by omega) tX
    have g1:H1[h.length]? =some (.cells (some 41) [.st 41 [.s (.int .i64 2),.s (.int .i64 aA),.s (.int .i64 dz),.s (.int .u64 (ep:Int)),av.enc,.al false (some 31) (ai.map fun z=> z.enc)]]):=N1.fw.dw _ _ (by simp) (by simp)
    have g2:∀X,(H1++X)[h.length]? =some (.cells (some 41) [.st 41 [.s (.int .i64 2),.s (.int .i64 aA),.s (.int .i64 dz),.s (.int .u64 (ep:Int)),av.enc,.al false (some 31) (ai.map fun z=> z.enc)]]):=fun X=> q10z g1 X
    obtain ⟨v2,H2,a2,N2⟩:=(N1.mono (Fw.app [] H1 [.cells none ((bB ep).map aa)])).app (y:= .ref H1.length [] none 0 8 8) (m:=bB ep) (BR.src (dH (by simp) (bF _))) (by simp)
    have f0:Fw [] h (h++[(.cells (some 41) [.st 41 [.s (.int .i64 2),.s (.int .i64 aA),.s (.int .i64 dz),.s (.int .u64 (ep:Int)),av.enc,.al false (some 31) (ai.map fun z=> z.enc)]])]):=Fw.app [] h _
    have df:=N2.qX (n:=h.length) (by simp)
    have eA:=(f0.trans N2.fw).take
    simp only[aq.enc,od,aX,aY,bl,a1,n1,g1,g2,a2,df,eA,mf,go_sem,↓reduceIte,Nat.reduceEqDiff,Nat.reduceBEq,Nat.reduceAdd,Nat.reduceSub,Nat.reduceLT,Nat.reduceLeDiff,Int.reduceLT,Int.reduceLE,Int.reduceEq,Int.reduceToNat]
   ·-- in
    have cr:dd ai=true:=by
      simp[aS] at c
      exact c.2
    have YQ:ai.length≤4:=by
      simp[dd] at cr
      exact cr.1
    have f0:Fw [] h (h++[(.cells (some 41) [.st 41 [.s (.int .i64 3),.s (.int .i64 aA),.s (.int .i64 dz),.s (.int .u64 (ep:Int)),av.enc,.al false (some 31) (ai.map fun z=> z.enc)]])]):=Fw.app [] h _
    have M0:kH (h++[(.cells (some 41) [.st 41 [.s (.int .i64 3),.s (.int .i64 aA),.s (.int .i64 dz),.s (.int .u64 (ep:Int)),av.enc,.al false (some 31) (ai.map fun z=> z.enc)]])]) (h++[(.cells (some 41) [.st 41 [.s (.int .i64 3),.s (.int .i64 aA),.s (.int .i64 dz),.s (.int .u64 (ep:Int)),av.enc,.al false (some 31) (ai.map fun z=> z.enc)]]),.cells none [aa (bt 3)]]) (.ref (h.length+1) [] none 0 1 1) [bt 3]:=⟨h.length+1,.inr ⟨rfl,by rw[List.getElem?_append_right (by omega)];simp⟩,by simp,by
      have:=Fw.app [] (h++[(.cells (some 41) [.st 41 [.s (.int .i64 3),.s (.int .i64 aA),.s (.int .i64 dz),.s (.int .u64 (ep:Int)),av.enc,.al false (some 31) (ai.map fun z=> z.enc)]])]) [.cells none [aa (bt 3)]]
      simpa using this⟩
    obtain ⟨v1,H1,a1,N1⟩:=M0.app (y:= .al true none [aa (bt aA)]) (m:=[bt aA]) rfl (by simp)
    have tX:h.length≤H1.length:=by have:=N1.fw.len;simp at this;omega
    have n1:=eB h.length H1 ep (by omega) tX
    have g1:H1[h.length]? =some (.cells (some 41) [.st 41 [.s (.int .i64 3),.s (.int .i64 aA),.s (.int .i64 dz),.s (.int .u64 (ep:Int)),av.enc,.al false (some 31) (ai.map fun z=> z.enc)]]):=N1.fw.dw _ _ (by simp) (by simp)
    have g2:∀X,(H1++X)[h.length]? =some (.cells (some 41) [.st 41 [.s (.int .i64 3),.s (.int .i64 aA),.s (.int .i64 dz),.s (.int .u64 (ep:Int)),av.enc,.al false (some 31) (ai.map fun z=> z.enc)]]):=fun X=> q10z g1 X
    obtain ⟨v2,H2,a2,N2⟩:=(N1.mono (Fw.app [] H1 [.cells none ((bB ep).map aa)])).app (y:= .ref H1.length [] none 0 8 8) (m:=bB ep) (BR.src (dH (by simp) (bF _))) (by simp)
    have g3:H2[h.length]? =some (.cells (some 41) [.st 41 [.s (.int .i64 3),.s (.int .i64 aA),.s (.int .i64 dz),.s (.int .u64 (ep:Int)),av.enc,.al false (some 31) (ai.map fun z=> z.enc)]]):=N2.fw.dw _ _ (by simp) (by simp)
    obtain ⟨v3,H3,a3,N3⟩:=N2.app (y:= .al true none [aa (bt ai.length)]) (m:=[bt ai.length]) rfl (by simp)
    have g4:H3[h.length]? =some (.cells (some 41) [.st 41 [.s (.int .i64 3),.s (.int .i64 aA),.s (.int .i64 dz),.s (.int .u64 (ep:Int)),av.enc,.al false (some 31) (ai.map fun z=> z.enc)]]):=N3.fw.dw _ _ (by simp) (by simp)
    have jd:∀cf base H,aB cf base H .len [.al false (some 31) (ai.map fun z=> z.enc)]=some (.s (.int .i64 (ai.length:Nat)),H):=fun cf base H=> by rw[oe];simp
    simp only[aq.enc,od,aX,aY,bl,a1,n1,g1,g2,a2,g3,a3,g4,jd,go_sem,↓reduceIte,Nat.reduceEqDiff,Nat.reduceBEq,Nat.reduceAdd,Nat.reduceSub,Nat.reduceLT,Nat.reduceLeDiff,Int.reduceLT,Int.reduceLE,Int.reduceEq,Int.reduceToNat]
    have gW:SR h (.al false (some 31) (ai.map fun z=> z.enc)) (some 31) (ai.map fun z=> z.enc):= .inl ⟨false,rfl⟩
    have Fz:∀v∈ai,(aZ v).length≤200:=fun v hv=> by
      have jC:aP v=true:=by
        obtain ⟨i,hi,rfl⟩:=List.mem_iff_getElem.1 hv
        have:=(Bool.and_eq_true_iff.1 cr).2
        rw[List.all_eq_true] at this
        have:=this i (List.mem_range.2 hi)
        unfold g9 at this
        rw[List.getD,List.getElem?_eq_getElem hi] at this
        exact (Bool.and_eq_true_iff.1 this).1
      have h1:=q14z jC
      obtain ⟨w1,w2,w3,w4,w5,w6,w7,w8,w9⟩:=G9 v hv
      simp[aZ];omega
    have ma:∀j,j≤ai.length→((ai.take j).flatMap aZ).length≤200 * j:=fun j=> by
      induction j with
      | zero=> intro _;simp
      | succ j ih=>
        intro hj
        rw[List.take_succ_eq_append_getElem (by omega),List.flatMap_append,List.length_append]
        have:=ih (by omega)
        have:=Fz ai[j] (List.getElem_mem _)
        simp only[List.flatMap_cons,List.flatMap_nil,List.append_nil];omega
    generalize yY:[bt 3]++[bt aA]++bB ep++[bt ai.length]=base0 at N3
    have hb0l:base0.length=11:=by rw[←yY];simp
    refine bh (fun q e H=>∃j v,q=ai.length - j∧j≤ai.length∧e 69= .s (.int .i64 (j:Nat))∧e 68= .s (.int .i64 (ai.length:Nat))∧e 67= .al false (some 31) (ai.map fun z=> z.enc)∧e 4=v∧kH (h++[(.cells (some 41) [.st 41 [.s (.int .i64 3),.s (.int .i64 aA),.s (.int .i64 dz),.s (.int .u64 (ep:Int)),av.enc,.al false (some 31) (ai.map fun z=> z.enc)]])]) H v (base0++(ai.take j).flatMap aZ))
      (fun e H=>∃v,e 4=v∧kH (h++[(.cells (some 41) [.st 41 [.s (.int .i64 3),.s (.int .i64 aA),.s (.int .i64 dz),.s (.int .u64 (ep:Int)),av.enc,.al false (some 31) (ai.map fun z=> z.enc)]])]) H v (base0++ai.flatMap aZ)) ai.length _ _ ⟨0,v3,rfl,by omega,rfl,rfl,rfl,rfl,by simpa using N3⟩ ?_ ?_
    ·rintro q e H ⟨j,v,rfl,hj,e69,e68,e67,e4,N⟩
     by_cases cd:j < ai.length
     ·have cj:(j:Int)<((ai.length:Nat):Int):=by omega
      have hjv:ai[j]? =some ai[j]:=List.getElem?_eq_getElem cd
      have fh:=f0.trans N.fw
      have i1:=fun cf base=>(gW.fw fh).cX (cf:=cf) (base:=base) (k:= .i64) (i:=j) (by simpa using cd)
      have i2:=fun cf base=>(gW.fw fh).g8 (cf:=cf) (base:=base) (i:=j) (v:=ai[j].enc) (by rw[List.getElem?_map,hjv];rfl) rfl
      have hle:=fh.len
      have hm:=G9 _ (List.getElem_mem cd)
      have au:=Fz _ (List.getElem_mem cd)
      have hp:=fun h0=> mc h.length h0 false ai[j] hm (by simp[aZ] at au;omega)
      rw[←ag.lE] at hp
      have hfj:=ma j hj
      obtain ⟨v5,H5,a5,N5⟩:=(N.mono (Fw.app [] H [.cells (some 31) [ai[j].enc]])).app (y:= .al false none ((aZ ai[j]).map aa)) (m:=aZ ai[j]) rfl (by simp only[List.length_append];omega)
      have gN:base0++(ai.take j).flatMap aZ++aZ ai[j]=base0++(ai.take (j+1)).flatMap aZ:=by
        rw[List.take_succ_eq_append_getElem cd,List.flatMap_append];simp
      rw[gN] at N5
      have w3:IntKind.i64.wrap ((j:Int)+1)=((j+1:Nat):Int):=q17z (by omega)
      simp only[e69,e68,e67,e4,cj,i1,i2,hle,aX,aY,hp,a5,w3,go_sem,↓reduceIte,Nat.reduceEqDiff,Nat.reduceBEq,Nat.reduceAdd,Nat.reduceSub,Nat.reduceLT,Nat.reduceLeDiff,Int.reduceLT,Int.reduceLE,Int.reduceEq,Int.reduceToNat]
      exact ⟨ai.length - (j+1),by omega,j+1,v5,rfl,by omega,rfl,rfl,N5⟩
     ·have cj:¬(j:Int)<((ai.length:Nat):Int):=by omega
      have uk:j=ai.length:=by omega
      subst uk
      rw[List.take_of_length_le (Nat.le_refl _)] at N
      simp only[e69,e68,e67,e4,cj,go_sem,↓reduceIte,Nat.reduceEqDiff,Nat.reduceBEq,Nat.reduceAdd,Nat.reduceSub,Nat.reduceLT,Nat.reduceLeDiff,Int.reduceLT,Int.reduceLE,Int.reduceEq,Int.reduceToNat]
      exact ⟨v,rfl,N⟩
    ·rintro e H ⟨v,e4,N⟩
     have df:=N.qX (n:=h.length) (by simp)
     have eA:=(f0.trans N.fw).take
     rw[←yY] at df
     simp only[e4,df,eA,mf,go_sem,↓reduceIte,Nat.reduceEqDiff,Nat.reduceBEq,Nat.reduceAdd,Nat.reduceSub,Nat.reduceLT,Nat.reduceLeDiff,Int.reduceLT,Int.reduceLE,Int.reduceEq,Int.reduceToNat]
   ·-- done
    have hA:∀X,(h++(.cells (some 41) [.st 41 [.s (.int .i64 4),.s (.int .i64 aA),.s (.int .i64 dz),.s (.int .u64 (ep:Int)),av.enc,.al false (some 31) (ai.map fun z=> z.enc)]])::X)[h.length]? =some (.cells (some 41) [.st 41 [.s (.int .i64 4),.s (.int .i64 aA),.s (.int .i64 dz),.s (.int .u64 (ep:Int)),av.enc,.al false (some 31) (ai.map fun z=> z.enc)]]):=fun X=> by simp
    have f1:Fw [] (h++[(.cells (some 41) [.st 41 [.s (.int .i64 4),.s (.int .i64 aA),.s (.int .i64 dz),.s (.int .u64 (ep:Int)),av.enc,.al false (some 31) (ai.map fun z=> z.enc)]])]) (h++(.cells (some 41) [.st 41 [.s (.int .i64 4),.s (.int .i64 aA),.s (.int .i64 dz),.s (.int .u64 (ep:Int)),av.enc,.al false (some 31) (ai.map fun z=> z.enc)]]):: .cells none [aa (bt 4)]::[.cells none [aa (bt aA)]]):=by
      have:=Fw.app [] (h++[(.cells (some 41) [.st 41 [.s (.int .i64 4),.s (.int .i64 aA),.s (.int .i64 dz),.s (.int .u64 (ep:Int)),av.enc,.al false (some 31) (ai.map fun z=> z.enc)]])]) [.cells none [aa (bt 4)],.cells none [aa (bt aA)]]
      simpa using this
    have M0:kH (h++[(.cells (some 41) [.st 41 [.s (.int .i64 4),.s (.int .i64 aA),.s (.int .i64 dz),.s (.int .u64 (ep:Int)),av.enc,.al false (some 31) (ai.map fun z=> z.enc)]])]) (h++(.cells (some 41) [.st 41 [.s (.int .i64 4),.s (.int .i64 aA),.s (.int .i64 dz),.s (.int .u64 (ep:Int)),av.enc,.al false (some 31) (ai.map fun z=> z.enc)]]):: .cells none [aa (bt 4)]::[.cells none [aa (bt aA)]]) (.ref (h.length+1) [] none 0 1 1) [bt 4]:=⟨h.length+1,.inr ⟨rfl,by rw[List.getElem?_append_right (by omega)];simp⟩,by simp,f1⟩
    obtain ⟨v1,H1,a1,N1⟩:=M0.app (y:= .ref (h.length+2) [] none 0 1 1) (m:=[bt aA]) (BR.src (dH (l:=[bt aA]) (by rw[List.getElem?_append_right (by omega)];simp) rfl)) (by simp)
    have tX:h.length≤H1.length:=by have:=N1.fw.len;simp at this;omega
    have n1:=eB h.length H1 ep (by omega) tX
    have g1:H1[h.length]? =some (.cells (some 41) [.st 41 [.s (.int .i64 4),.s (.int .i64 aA),.s (.int .i64 dz),.s (.int .u64 (ep:Int)),av.enc,.al false (some 31) (ai.map fun z=> z.enc)]]):=N1.fw.dw _ _ (by simp) (by simp)
    have g2:∀X,(H1++X)[h.length]? =some (.cells (some 41) [.st 41 [.s (.int .i64 4),.s (.int .i64 aA),.s (.int .i64 dz),.s (.int .u64 (ep:Int)),av.enc,.al false (some 31) (ai.map fun z=> z.enc)]]):=fun X=> q10z g1 X
    obtain ⟨v2,H2,a2,N2⟩:=(N1.mono (Fw.app [] H1 [.cells none ((bB ep).map aa)])).app (y:= .ref H1.length [] none 0 8 8) (m:=bB ep) (BR.src (dH (by simp) (bF _))) (by simp)
    have f0:Fw [] h (h++[(.cells (some 41) [.st 41 [.s (.int .i64 4),.s (.int .i64 aA),.s (.int .i64 dz),.s (.int .u64 (ep:Int)),av.enc,.al false (some 31) (ai.map fun z=> z.enc)]])]):=Fw.app [] h _
    have df:=N2.qX (n:=h.length) (by simp)
    have eA:=(f0.trans N2.fw).take
    simp only[aq.enc,od,aX,aY,bl,a1,n1,g1,g2,a2,df,eA,mf,go_sem,↓reduceIte,Nat.reduceEqDiff,Nat.reduceBEq,Nat.reduceAdd,Nat.reduceSub,Nat.reduceLT,Nat.reduceLeDiff,Int.reduceLT,Int.reduceLE,Int.reduceEq,Int.reduceToNat]
def gX (f:Bool) (l:Bs) (bad:Bool):aV:= .cells (some 191) [.st 191 [.al f none (l.map aa),.s (.bool bad)]]
theorem Pd (cf:CF) (base:Nat) (h:Hp) (f:Bool) (l:Bs) (k:IntKind) (n:Nat) (hn:n≤l.length):aB cf base h (.jg none false true false) [.al f none (l.map aa),.s (.int k n)]=some (.al (f && n==l.length) none ((l.take n).map aa),h):=by
 simp[aB,fZ,fq,aL,cL,dx,hn,List.map_take]
theorem Pe (cf:CF) (base:Nat) (h:Hp) (f:Bool) (l:Bs) (k:IntKind) (n:Nat) (hn:n≤l.length):aB cf base h (.jg none true false false) [.al f none (l.map aa),.s (.int k n)]=some (.al f none ((l.drop n).map aa),h):=by
 have:(List.drop n (List.map aa l)).take (l.length - n)=(l.drop n).map aa:=by
   rw[←List.map_drop,List.take_of_length_le (by simp)]
 simp[aB,fZ,fq,aL,cL,dx,hn,this]
def aE (n:Nat) (s:Bs×Bool):Bs×(Bs×Bool):=if n≤s.1.length then (s.1.take n,(s.1.drop n,s.2)) else (List.replicate n 0,([],true))
theorem q20z (n:Nat) (s:Bs×Bool):(aE n s).1.length=n:=by
 unfold aE
 split
 ·simp;omega
 ·simp
theorem C3 (n:Nat):List.replicate n (V.s (.int .u8 0))=(List.replicate n (0:UInt8)).map aa:=by rw[List.map_replicate];rfl
theorem eg (f:Bool) (g:Option Nat):∀l:Bs,(V.al f g (l.map aa)).ground=true
 | []=> rfl
 | b::l=> by
   have:=eg f g l
   simp only[V.ground] at this ⊢
   simp only[List.map_cons,V.ground.all,this];rfl
theorem Pf (f:Bool) (g:Option Nat):(V.al f g []).ground=true:=rfl
theorem nr (x:Value):(V.s x).ground=true:=rfl
theorem oY (id n:Nat) (f bad:Bool) (l:Bs) (hn:n≤100000):
 ∃f',∀(b:Nat) (h:Hp) (hg:h[id]? =some (gX f l bad)),run fns pr b 132 [.ptr id [0] 1,.s (.int .i64 n)] h=some (.al false none ((aE n (l,bad)).1.map aa),h.set id (gX f' (aE n (l,bad)).2.1 (aE n (l,bad)).2.2)):=by
 unfold aE
 by_cases c:n≤l.length
 ·rw[if_pos c]
  refine ⟨f,fun b h hg=> ?_⟩
  have tk:∀b',(h.set id b').take h.length=h.set id b':=fun b'=> List.take_of_length_le (by simp)
  refine Vm.aU (nt:=37) rfl GB (by simp) ?_
  have c':¬((l.length:Nat):Int)<(n:Int):=by omega
  simp only[Km,hg,gX,c',Pd _ _ _ _ _ _ _ c,Pe _ _ _ _ _ _ _ c,tk,eg,go_sem,↓reduceIte,Nat.reduceEqDiff,Nat.reduceBEq,Nat.reduceAdd,Nat.reduceSub,Nat.reduceLT,Nat.reduceLeDiff,Int.reduceLT,Int.reduceLE,Int.reduceEq,Int.reduceToNat]
 ·rw[if_neg c]
  refine ⟨true,fun b h hg=> ?_⟩
  have tk:∀b',(h.set id b').take h.length=h.set id b':=fun b'=> List.take_of_length_le (by simp)
  refine Vm.aU (nt:=37) rfl GB (by simp) ?_
  have c':((l.length:Nat):Int)<(n:Int):=by omega
  have CP:¬n=0:=by omega
  have m1:(0≤(n:Int)∧(n:Int)≤16777216)=True:=by simp;omega
  have m2:((n:Int)=0)=False:=by simp;omega
  have hz:=C3 n
  have tk2:∀X Y,(h.set id X++Y).take h.length=h.set id X:=fun X Y=> by rw[List.take_append_of_le_length (by simp),List.take_of_length_le (by simp)]
  have n9:(List.replicate n (0:UInt8)).length=n:=by simp
  have mY:=rY h.length (List.replicate n (0:UInt8))
  rw[n9] at mY
  simp only[Km,hg,gX,c',tk,Pf,nr,q9z hg,m1,m2,hz,n9,mY,tk2,go_sem,↓reduceIte,Nat.reduceEqDiff,Nat.reduceBEq,Nat.reduceAdd,Nat.reduceSub,Nat.reduceLT,Nat.reduceLeDiff,Int.reduceLT,Int.reduceLE,Int.reduceEq,Int.reduceToNat]
def aG (l:Bs):Nat:=(l.getD 0 0).toNat
theorem jD (id:Nat) (f bad:Bool) (l:Bs):
 ∃f',∀(b:Nat) (h:Hp) (hg:h[id]? =some (gX f l bad)),run fns pr b 125 [.ptr id [0] 1] h=some (.s (.int .i64 (aG (aE 1 (l,bad)).1:Nat)),h.set id (gX f' (aE 1 (l,bad)).2.1 (aE 1 (l,bad)).2.2)):=by
 obtain ⟨f',ht0⟩:=oY id 1 f bad l (by omega)
 refine ⟨f',fun b h hg=> ?_⟩
 have ht:=ht0 h.length h hg
 refine Vm.aU (nt:=8) rfl OA (by simp) ?_
 have hl:=q20z 1 (l,bad)
 generalize (aE 1 (l,bad)).1=m at ht hl
 match m,hl with
 | [x],_=>
   have tk:∀b',(h.set id b').take h.length=h.set id b':=fun b'=> List.take_of_length_le (by simp)
   have hw:IntKind.i64.wrap (x.toNat:Int)=(x.toNat:Int):=wrap_i64 (by omega) (by have:=x.toNat_lt;omega)
   simp only[Oy,show (V.s (.int .i64 1))=V.s (.int .i64 ((1:Nat):Int)) from rfl,ht,List.map_cons,List.map_nil,aa,hw,tk,aG,go_sem,↓reduceIte,Nat.reduceEqDiff,Nat.reduceBEq,Nat.reduceAdd,Nat.reduceSub,Nat.reduceLT,Nat.reduceLeDiff,Int.reduceLT,Int.reduceLE,Int.reduceEq,Int.reduceToNat]
theorem BD (cf:CF) (base:Nat) (h:Hp) (t n:Nat) (g:Option Nat) (f:Bool) (es:List V) (h0:0 < n) (hn:n≤es.length):aB cf base h (.s2a t g n) [.al f g es]=some (.dQ (.arr t (es.take n)),h):=by
 simp[aB,uo,qx,hn,h0]
theorem Pg (id:Nat) (f bad:Bool) (l:Bs):
 ∃f',∀(b:Nat) (h:Hp) (hg:h[id]? =some (gX f l bad)),run fns pr b 133 [.ptr id [0] 1] h=some (.arr 27 ((aE 4 (l,bad)).1.map aa),h.set id (gX f' (aE 4 (l,bad)).2.1 (aE 4 (l,bad)).2.2)):=by
 obtain ⟨f',ht0⟩:=oY id 4 f bad l (by omega)
 refine ⟨f',fun b h hg=> ?_⟩
 have bW:=q6z hg
 generalize hG:h++[.cells (some 27) [z4 27]]=G
 have g0:G[h.length]? =some (.cells (some 27) [z4 27]):=by rw[←hG];simp
 have gi:G[id]? =some (gX f l bad):=by rw[←hG];exact q10z hg _
 have ht:=ht0 h.length G gi
 refine Vm.aU (nt:=7) rfl OU (by simp) ?_
 have hl:=q20z 4 (l,bad)
 generalize (aE 4 (l,bad)).1=m at ht hl ⊢
 generalize hR:gX f' (aE 4 (l,bad)).2.1 (aE 4 (l,bad)).2.2=R at ht ⊢
 have hm:(m.map aa).length=4:=by simp[hl]
 have hs:=BD (run fns pr h.length) h.length (G.set id R) 27 4 none false (m.map aa) (by omega) (by omega)
 rw[List.take_of_length_le (by omega)] at hs
 have g1:(G.set id R)[h.length]? =some (.cells (some 27) [z4 27]):=by rw[List.getElem?_set_ne (by omega)];exact g0
 have tk:∀X,((G.set id R).set h.length X).take h.length=h.set id R:=fun X=> by
   rw[←hG,List.set_append_left _ _ bW,List.set_append_right _ _ (by simp)]
   rw[List.take_append_of_le_length (by simp),List.take_of_length_le (by simp)]
 simp only[OS,hG,show (V.s (.int .i64 4))=V.s (.int .i64 ((4:Nat):Int)) from rfl,ht,hs,g1,tk,q9z g1,dV,go_sem,↓reduceIte,Nat.reduceEqDiff,Nat.reduceBEq,Nat.reduceAdd,Nat.reduceSub,Nat.reduceLT,Nat.reduceLeDiff,Int.reduceLT,Int.reduceLE,Int.reduceEq,Int.reduceToNat]
theorem Ha (id:Nat) (f bad:Bool) (l:Bs):
 ∃f',∀(b:Nat) (h:Hp) (hg:h[id]? =some (gX f l bad)),run fns pr b 134 [.ptr id [0] 1] h=some (.arr 25 ((aE 16 (l,bad)).1.map aa),h.set id (gX f' (aE 16 (l,bad)).2.1 (aE 16 (l,bad)).2.2)):=by
 obtain ⟨f',ht0⟩:=oY id 16 f bad l (by omega)
 refine ⟨f',fun b h hg=> ?_⟩
 have bW:=q6z hg
 generalize hG:h++[.cells (some 25) [bC 25]]=G
 have g0:G[h.length]? =some (.cells (some 25) [bC 25]):=by rw[←hG];simp
 have gi:G[id]? =some (gX f l bad):=by rw[←hG];exact q10z hg _
 have ht:=ht0 h.length G gi
 refine Vm.aU (nt:=7) rfl OX (by simp) ?_
 have hl:=q20z 16 (l,bad)
 generalize (aE 16 (l,bad)).1=m at ht hl ⊢
 generalize hR:gX f' (aE 16 (l,bad)).2.1 (aE 16 (l,bad)).2.2=R at ht ⊢
 have hm:(m.map aa).length=16:=by simp[hl]
 have hs:=BD (run fns pr h.length) h.length (G.set id R) 25 16 none false (m.map aa) (by omega) (by omega)
 rw[List.take_of_length_le (by omega)] at hs
 have g1:(G.set id R)[h.length]? =some (.cells (some 25) [bC 25]):=by rw[List.getElem?_set_ne (by omega)];exact g0
 have tk:∀X,((G.set id R).set h.length X).take h.length=h.set id R:=fun X=> by
   rw[←hG,List.set_append_left _ _ bW,List.set_append_right _ _ (by simp)]
   rw[List.take_append_of_le_length (by simp),List.take_of_length_le (by simp)]
 simp only[OV,hG,show (V.s (.int .i64 16))=V.s (.int .i64 ((16:Nat):Int)) from rfl,ht,hs,g1,tk,q9z g1,dV,go_sem,↓reduceIte,Nat.reduceEqDiff,Nat.reduceBEq,Nat.reduceAdd,Nat.reduceSub,Nat.reduceLT,Nat.reduceLeDiff,Int.reduceLT,Int.reduceLE,Int.reduceEq,Int.reduceToNat]
def jm (l:Bs):Nat:=l.foldl (fun a x=> a * 256+x.toNat) 0
theorem rZ {m:Bs} {j:Nat} (hj:j < m.length):jm (m.take (j+1))=jm (m.take j)* 256+(m.getD j 0).toNat:=by
 unfold jm
 rw[List.take_add_one,List.foldl_append,List.getD,List.getElem?_eq_getElem hj]
 rfl
theorem r0 (m:Bs):∀j,j≤m.length→jm (m.take j)< 256 ^ j
 | 0,_=> by simp[jm]
 | j+1,hj=> by
   rw[rZ (by omega),Nat.pow_succ]
   have:=r0 m j (by omega)
   have:=(m.getD j 0).toNat_lt
   omega
theorem og {n:Nat} (h:n < 18446744073709551616):IntKind.u64.wrap (n:Int)=(n:Int):=wrap_u64 (by omega) (by omega)
theorem M6 {a:Nat} (h:a * 256 < 18446744073709551616):vt .u64 (a:Int) 8=((a * 256:Nat):Int):=by
 have e:vt .u64 (a:Int) 8=IntKind.u64.wrap ((a:Int)* 256):=rfl
 rw[e,wrap_u64 (by omega) (by omega)];omega
theorem Vd {a y:Nat} (h:a * 256+y < 18446744073709551616) (hy:y < 256):orI .u64 ((a * 256:Nat):Int) (y:Int)=((a * 256+y:Nat):Int):=by
 have e:orI .u64 ((a * 256:Nat):Int) (y:Int)=IntKind.u64.wrap (((BitVec.ofInt 64 ((a * 256:Nat):Int) ||| BitVec.ofInt 64 (y:Int)).toNat:Nat):Int):=rfl
 rw[e,iF,iF,BitVec.toNat_or,BitVec.toNat_ofNat,BitVec.toNat_ofNat,Nat.mod_eq_of_lt (show a * 256 < 2 ^ 64 by omega),Nat.mod_eq_of_lt (show y < 2 ^ 64 by omega),show a * 256=a * 2 ^ 8 from rfl,zB (k:=8) (by omega)]
 exact og h
theorem vA (id:Nat) (f bad:Bool) (l:Bs):
 ∃f',∀(b:Nat) (h:Hp) (hg:h[id]? =some (gX f l bad)),run fns pr b 127 [.ptr id [0] 1] h=some (.s (.int .u64 (jm (aE 8 (l,bad)).1:Nat)),h.set id (gX f' (aE 8 (l,bad)).2.1 (aE 8 (l,bad)).2.2)):=by
 obtain ⟨f',ht0⟩:=oY id 8 f bad l (by omega)
 refine ⟨f',fun b h hg=> ?_⟩
 have ht:=ht0 h.length h hg
 refine Vm.aU (nt:=20) rfl OG (by simp) ?_
 have hl:=q20z 8 (l,bad)
 generalize (aE 8 (l,bad)).1=m at ht hl ⊢
 generalize hR:h.set id (gX f' (aE 8 (l,bad)).2.1 (aE 8 (l,bad)).2.2)=R at ht ⊢
 have tk:R.take h.length=R:=List.take_of_length_le (by rw[←hR];simp)
 have hm:(m.map aa).length=8:=by simp[hl]
 have tk2:m.take 8=m:=List.take_of_length_le (by omega)
 have gW:∀H,SR H (.al false none (m.map aa)) none (m.map aa):=fun H=> .inl ⟨false,rfl⟩
 generalize hx:V.al false none (m.map aa)=x at ht gW
 have jd:∀cf base h,aB cf base h .len [x]=some (.s (.int .i64 8),h):=fun cf base h=> by rw[(gW h).cE];simp[hl]
 simp only[OE,Gz,Gy,show (V.s (.int .i64 8))=V.s (.int .i64 ((8:Nat):Int)) from rfl,ht,jd,go_sem,↓reduceIte,Nat.reduceEqDiff,Nat.reduceBEq,Nat.reduceAdd,Nat.reduceSub,Nat.reduceLT,Nat.reduceLeDiff,Int.reduceLT,Int.reduceLE,Int.reduceEq,Int.reduceToNat]
 refine bh (fun q e H=>∃j,q=8 - j∧j≤8∧e 9= .s (.int .i64 (j:Nat))∧e 8= .s (.int .i64 8)∧e 7=x∧e 3= .s (.int .u64 (jm (m.take j):Nat))∧H=R)
   (fun e H=> e 3= .s (.int .u64 (jm m:Nat))∧H=R) 8 _ _ ?_ ?_ ?_
 ·exact ⟨0,rfl,by omega,rfl,rfl,rfl,rfl,rfl⟩
 ·rintro q e H ⟨j,rfl,hj,e9,e8,e7,e3,rfl⟩
  by_cases cd:j < 8
  ·have cj:(j:Int)< 8:=by omega
   have i1:=fun cf base=>(gW H).cX (cf:=cf) (base:=base) (k:= .i64) (i:=j) (by simp;omega)
   have i2:=fun cf base=>(gW H).g8 (cf:=cf) (base:=base) (i:=j) (v:=aa (m.getD j 0)) (by rw[List.getElem?_map,List.getD,List.getElem?_eq_getElem (by omega)];rfl) rfl
   have w3:IntKind.i64.wrap ((j:Int)+1)=((j+1:Nat):Int):=q17z (by omega)
   have hb:=r0 m j (by omega)
   have hy:=(m.getD j 0).toNat_lt
   have hp:256 ^ j * 256≤18446744073709551616:=by rw[←Nat.pow_succ];exact Nat.pow_le_pow_right (by omega) (show j+1≤8 by omega)
   have s1:=M6 (a:=jm (m.take j)) (by omega)
   have s2:=Vd (a:=jm (m.take j)) (y:=(m.getD j 0).toNat) (by omega) hy
   have hw:=og (n:=(m.getD j 0).toNat) (by omega)
   have h1:∀cf base h,aB cf base h (.bin .num .shl) [.s (.int .u64 (jm (m.take j):Nat)),.s (.int .u64 8)]=some (.s (.int .u64 ((jm (m.take j)* 256:Nat):Int)),h):=fun cf base h=> by rw[←s1];exact tW cf base h .u64 .u64 _ 8 (by omega)
   simp only[e9,e8,e7,e3,cj,i1,i2,aa,w3,h1,hw,s2,go_sem,↓reduceIte,Nat.reduceEqDiff,Nat.reduceBEq,Nat.reduceAdd,Nat.reduceSub,Nat.reduceLT,Nat.reduceLeDiff,Int.reduceLT,Int.reduceLE,Int.reduceEq,Int.reduceToNat]
   refine ⟨8 - (j+1),by omega,j+1,rfl,by omega,rfl,?_⟩
   rw[rZ (by omega)]
  ·have cj:¬(j:Int)< 8:=by omega
   obtain rfl:j=8:=by omega
   simp only[e9,e8,e7,e3,cj,tk2,go_sem,↓reduceIte,Nat.reduceEqDiff,Nat.reduceBEq,Nat.reduceAdd,Nat.reduceSub,Nat.reduceLT,Nat.reduceLeDiff,Int.reduceLT,Int.reduceLE,Int.reduceEq,Int.reduceToNat]
 ·rintro e H ⟨e3,rfl⟩
  simp only[e3,tk,go_sem,↓reduceIte,Nat.reduceEqDiff,Nat.reduceBEq,Nat.reduceAdd,Nat.reduceSub,Nat.reduceLT,Nat.reduceLeDiff,Int.reduceLT,Int.reduceLE,Int.reduceEq,Int.reduceToNat]
theorem Ph (f:Bool) (h:Hp) (l:Bs):Rd h (.al f none (l.map aa)) l:=⟨fun _ _=> rfl,by simp[fq]⟩
def lG (s:Bs×Bool):Bs×(Bs×Bool):=aE (aG (aE 1 s).1) (aE 1 s).2
theorem oZ (l:Bs):aG l < 256:=(l.getD 0 0).toNat_lt
theorem KB (id:Nat) (f bad:Bool) (l:Bs):
 ∃f',∀(b:Nat) (h:Hp) (hg:h[id]? =some (gX f l bad)),run fns pr b 135 [.ptr id [0] 1] h=some (.al false none ((lG (l,bad)).1.map aa),h.set id (gX f' (lG (l,bad)).2.1 (lG (l,bad)).2.2)):=by
 obtain ⟨f1,h1⟩:=jD id f bad l
 have hb:=oZ (aE 1 (l,bad)).1
 unfold lG
 generalize aE 1 (l,bad)=s1 at h1 hb ⊢
 obtain ⟨o,l1,b1⟩:=s1
 simp only at h1 hb ⊢
 obtain ⟨f',h2⟩:=oY id (aG o) f1 b1 l1 (by omega)
 have hl:=q20z (aG o) (l1,b1)
 generalize aE (aG o) (l1,b1)=s2 at h2 hl ⊢
 obtain ⟨m,l2,b2⟩:=s2
 simp only at h2 hl ⊢
 refine ⟨f',fun b h hg=> ?_⟩
 replace h1:=h1 h.length h hg
 replace h2:=h2 h.length (h.set id (gX f1 l1 b1)) (q9z hg)
 rw[List.set_set] at h2
 obtain ⟨v,H,hc,hN⟩:=tZ (Ph false (h.set id (gX f' l2 b2)) m) (by omega)
 have hz:=hN.qX (n:=h.length) (by simp)
 have tk:H.take h.length=h.set id (gX f' l2 b2):=by have:=hN.fw.take;simpa using this
 refine Vm.aU (nt:=8) rfl O0 (by simp) ?_
 simp only[OY,h1,h2,hc,hz,tk,go_sem,↓reduceIte,Nat.reduceEqDiff,Nat.reduceBEq,Nat.reduceAdd,Nat.reduceSub,Nat.reduceLT,Nat.reduceLeDiff,Int.reduceLT,Int.reduceLE,Int.reduceEq,Int.reduceToNat]
theorem KC (b:Nat) (h:Hp) (id:Nat) (f bad:Bool) (l:Bs) (hg:h[id]? =some (gX f l bad)):
 run fns pr b 128 [.ptr id [0] 1] h=some (.s (.bool (bad || decide (l≠[]))),h):=by
 refine Vm.aU (nt:=15) rfl OI (by simp) ?_
 have tk:h.take h.length=h:=List.take_of_length_le (Nat.le_refl _)
 cases bad with
 | true=>
   simp only[GA,hg,gX,tk,go_sem,↓reduceIte,Nat.reduceEqDiff,Nat.reduceBEq,Nat.reduceAdd,Nat.reduceSub,Nat.reduceLT,Nat.reduceLeDiff,Int.reduceLT,Int.reduceLE,Int.reduceEq,Int.reduceToNat]
 | false=>
   cases l with
   | nil=>
     simp only[GA,hg,gX,tk,List.map_nil,go_sem,↓reduceIte,Nat.reduceEqDiff,Nat.reduceBEq,Nat.reduceAdd,Nat.reduceSub,Nat.reduceLT,Nat.reduceLeDiff,Int.reduceLT,Int.reduceLE,Int.reduceEq,Int.reduceToNat]
     simp
   | cons x l=>
     have c:(0:Int)<(((x::l).length:Nat):Int):=by simp
     simp only[GA,hg,gX,tk,c,go_sem,↓reduceIte,Nat.reduceEqDiff,Nat.reduceBEq,Nat.reduceAdd,Nat.reduceSub,Nat.reduceLT,Nat.reduceLeDiff,Int.reduceLT,Int.reduceLE,Int.reduceEq,Int.reduceToNat]
     simp
def mg (n:Nat):Bool:= !decide (n=0)&& !decide (n=1)&& !decide (n=3)
def cA (s:Bs×Bool):ag×(Bs×Bool):=
 match aE 4 s with
 | (i,s1)=> match aE 8 s1 with
   | (g,s2)=> match aE 1 s2 with
     | (fl,s3)=> match aE 1 (s3.1,s3.2 || mg (aG fl)) with
       | (li,s4)=> match aE 1 s4 with
         | (us,s5)=> match aE 16 s5 with
           | (p,s6)=> match aE 16 s6 with
             | (o,s7)=> match lG s7 with
               | (t,s8)=>(⟨i,(jm g:Nat),p,t,(aG li:Nat),(aG us:Nat),o,!decide (aG fl=0),decide (aG fl=3)⟩,(s8.1,s8.2 || !aP ⟨i,(jm g:Nat),p,t,(aG li:Nat),(aG us:Nat),o,!decide (aG fl=0),decide (aG fl=3)⟩))
theorem jX {h:Hp} {id:Nat} {R:aV} (hg:h[id]? =some R):h.set id R=h:=List.ext_getElem? fun k=> by
 rw[List.getElem?_set]
 split
 ·rename_i e;subst e;rw[hg];simp[q6z hg]
 ·rfl
theorem pQ (id:Nat) (f bad:Bool) (l:Bs):
 ∃f',∀(b:Nat) (h:Hp) (hg:h[id]? =some (gX f l bad)),run fns pr b 126 [.ptr id [0] 1] h=some ((cA (l,bad)).1.enc,h.set id (gX f' (cA (l,bad)).2.1 (cA (l,bad)).2.2)):=by
 unfold cA
 obtain ⟨f1,c1⟩:=Pg id f bad l
 have n1:=q20z 4 (l,bad)
 generalize aE 4 (l,bad)=s1 at c1 n1 ⊢
 obtain ⟨i,l1,b1⟩:=s1
 simp only at c1 n1 ⊢
 obtain ⟨f2,c2⟩:=vA id f1 b1 l1
 have n2:=q20z 8 (l1,b1)
 generalize aE 8 (l1,b1)=s2 at c2 n2 ⊢
 obtain ⟨g,l2,b2⟩:=s2
 simp only at c2 n2 ⊢
 obtain ⟨f3,c3⟩:=jD id f2 b2 l2
 have n3:=q20z 1 (l2,b2)
 generalize aE 1 (l2,b2)=s3 at c3 n3 ⊢
 obtain ⟨fl,l3,b3⟩:=s3
 simp only at c3 n3 ⊢
 generalize hw:(b3 || mg (aG fl))=w
 obtain ⟨f4,c4⟩:=jD id f3 w l3
 have n4:=q20z 1 (l3,w)
 generalize aE 1 (l3,w)=s4 at c4 n4 ⊢
 obtain ⟨li,l4,b4⟩:=s4
 simp only at c4 n4 ⊢
 obtain ⟨f5,c5⟩:=jD id f4 b4 l4
 have n5:=q20z 1 (l4,b4)
 generalize aE 1 (l4,b4)=s5 at c5 n5 ⊢
 obtain ⟨us,l5,b5⟩:=s5
 simp only at c5 n5 ⊢
 obtain ⟨f6,c6⟩:=Ha id f5 b5 l5
 have n6:=q20z 16 (l5,b5)
 generalize aE 16 (l5,b5)=s6 at c6 n6 ⊢
 obtain ⟨p,l6,b6⟩:=s6
 simp only at c6 n6 ⊢
 obtain ⟨f7,c7⟩:=Ha id f6 b6 l6
 have n7:=q20z 16 (l6,b6)
 generalize aE 16 (l6,b6)=s7 at c7 n7 ⊢
 obtain ⟨o,l7,b7⟩:=s7
 simp only at c7 n7 ⊢
 obtain ⟨f8,c8⟩:=KB id f7 b7 l7
 have n8:True:=trivial
 generalize lG (l7,b7)=s8 at c8 ⊢
 obtain ⟨t,l8,b8⟩:=s8
 simp only at c8 ⊢
 refine ⟨f8,fun b h hg=> ?_⟩
 have bW:=q6z hg
 have qi:∀R X,(h.set id R++X)[id]? =some R:=fun R X=> by rw[List.getElem?_append_left (by simpa using bW)];exact q9z hg
 have q0:∀R A X,(h.set id R++A::X)[h.length]? =some A:=fun R A X=> by rw[List.getElem?_append_right (by simp)];simp
 have q1:∀R A B,(h.set id R++[A,B])[h.length+1]? =some B:=fun R A B=> by rw[List.getElem?_append_right (by simp)];simp
 have si:∀R X R',(h.set id R++X).set id R'=h.set id R'++X:=fun R X R'=> by rw[List.set_append_left _ _ (by simpa using bW),List.set_set]
 have s0:∀R A X A',(h.set id R++A::X).set h.length A'=h.set id R++A'::X:=fun R A X A'=> by rw[List.set_append_right _ _ (by simp)];simp
 have s1:∀R A B B',(h.set id R++[A,B]).set (h.length+1) B'=h.set id R++[A,B']:=fun R A B B'=> by rw[List.set_append_right _ _ (by simp)];simp
 have tk:∀R X,(h.set id R++X).take h.length=h.set id R:=fun R X=> by rw[List.take_append_of_le_length (by simp),List.take_of_length_le (by simp)]
 have h0:∀X,h++X=h.set id (gX f l bad)++X:=fun X=> by rw[jX hg]
 replace c1:=fun X=> c1 h.length (h.set id _++X) (qi _ X)
 simp only[si] at c1
 replace c2:=fun X=> c2 h.length (h.set id _++X) (qi _ X)
 simp only[si] at c2
 replace c3:=fun X=> c3 h.length (h.set id _++X) (qi _ X)
 simp only[si] at c3
 replace c4:=fun X=> c4 h.length (h.set id _++X) (qi _ X)
 simp only[si] at c4
 replace c5:=fun X=> c5 h.length (h.set id _++X) (qi _ X)
 simp only[si] at c5
 replace c6:=fun X=> c6 h.length (h.set id _++X) (qi _ X)
 simp only[si] at c6
 replace c7:=fun X=> c7 h.length (h.set id _++X) (qi _ X)
 simp only[si] at c7
 replace c8:=fun X=> c8 h.length (h.set id _++X) (qi _ X)
 simp only[si] at c8
 have d0:(((aG fl:Nat):Int)=0)=(aG fl=0):=propext (by omega)
 have d1:(((aG fl:Nat):Int)=1)=(aG fl=1):=propext (by omega)
 have d3:(((aG fl:Nat):Int)=3)=(aG fl=3):=propext (by omega)
 generalize hv:ag.mk i (jm g:Nat) p t (aG li:Nat) (aG us:Nat) o (!decide (aG fl=0)) (decide (aG fl=3))=v
 have hr:=fun h0=> nJ h.length h0 v
 have he:v.enc=V.st 31 [.arr 27 (i.map aa),.s (.int .u64 (jm g:Nat)),.arr 25 (p.map aa),.al false none (t.map aa),.s (.int .i64 (aG li:Nat)),.s (.int .i64 (aG us:Nat)),.arr 25 (o.map aa),.s (.bool (!decide (aG fl=0))),.s (.bool (decide (aG fl=3)))]:=by rw[←hv];rfl
 rw[he] at hr ⊢
 simp only[gX] at h0 c1 c2 c3 c4 c5 c6 c7 c8 ⊢
 refine Vm.aU (nt:=65) rfl OD (by simp) ?_
 simp only[OB,h0,List.length_set,c1,c2,c3,q0,q1,qi,s0,s1,si,tk,d0,d1,d3,go_sem,↓reduceIte,Nat.reduceEqDiff,Nat.reduceBEq,Nat.reduceAdd,Nat.reduceSub,Nat.reduceLT,Nat.reduceLeDiff,Int.reduceLT,Int.reduceLE,Int.reduceEq,Int.reduceToNat]
 cases b3 with
 | true=>
   have lH:w=true:=by rw[←hw];rfl
   subst lH
   simp only[c4,c5,c6,c7,c8,q0,q1,qi,s0,s1,si,tk,d0,d1,d3,nr,dV,eg,Bool.or_true,Bool.true_or,Bool.false_or,Bool.not_true,Bool.not_false,decide_true,decide_false,go_sem,↓reduceIte,Nat.reduceEqDiff,Nat.reduceBEq,Nat.reduceAdd,Nat.reduceSub,Nat.reduceLT,Nat.reduceLeDiff,Int.reduceLT,Int.reduceLE,Int.reduceEq,Int.reduceToNat]
   cases b8 with
   | true=>
     simp only[hr,c4,c5,c6,c7,c8,q0,q1,qi,s0,s1,si,tk,d0,d1,d3,nr,dV,eg,Bool.or_true,Bool.true_or,Bool.false_or,Bool.not_true,Bool.not_false,decide_true,decide_false,go_sem,↓reduceIte,Nat.reduceEqDiff,Nat.reduceBEq,Nat.reduceAdd,Nat.reduceSub,Nat.reduceLT,Nat.reduceLeDiff,Int.reduceLT,Int.reduceLE,Int.reduceEq,Int.reduceToNat]
   | false=>
     simp only[hr,c4,c5,c6,c7,c8,q0,q1,qi,s0,s1,si,tk,d0,d1,d3,nr,dV,eg,Bool.or_true,Bool.true_or,Bool.false_or,Bool.not_true,Bool.not_false,decide_true,decide_false,go_sem,↓reduceIte,Nat.reduceEqDiff,Nat.reduceBEq,Nat.reduceAdd,Nat.reduceSub,Nat.reduceLT,Nat.reduceLeDiff,Int.reduceLT,Int.reduceLE,Int.reduceEq,Int.reduceToNat]
 | false=>
   by_cases k0:aG fl=0
   ·have k1:¬aG fl=1:=by omega
    have k3:¬aG fl=3:=by omega
    have e0:(aG fl=0)=True:=eq_true k0
    have e1:(aG fl=1)=False:=eq_false k1
    have e3:(aG fl=3)=False:=eq_false k3
    have lH:w=false:=by rw[←hw];simp[mg,e0,e1,e3]
    subst lH
    simp only[e0,e1,e3,decide_true,decide_false,Bool.not_true,Bool.not_false] at hr ⊢
    simp only[hr,c4,c5,c6,c7,c8,q0,q1,qi,s0,s1,si,tk,d0,d1,d3,nr,dV,eg,Bool.or_true,Bool.true_or,Bool.false_or,Bool.not_true,Bool.not_false,decide_true,decide_false,e0,e1,e3,go_sem,↓reduceIte,Nat.reduceEqDiff,Nat.reduceBEq,Nat.reduceAdd,Nat.reduceSub,Nat.reduceLT,Nat.reduceLeDiff,Int.reduceLT,Int.reduceLE,Int.reduceEq,Int.reduceToNat]
    cases b8 with
    | true=>
      simp only[hr,c4,c5,c6,c7,c8,q0,q1,qi,s0,s1,si,tk,d0,d1,d3,nr,dV,eg,Bool.or_true,Bool.true_or,Bool.false_or,Bool.not_true,Bool.not_false,decide_true,decide_false,e0,e1,e3,go_sem,↓reduceIte,Nat.reduceEqDiff,Nat.reduceBEq,Nat.reduceAdd,Nat.reduceSub,Nat.reduceLT,Nat.reduceLeDiff,Int.reduceLT,Int.reduceLE,Int.reduceEq,Int.reduceToNat]
    | false=>
      simp only[hr,c4,c5,c6,c7,c8,q0,q1,qi,s0,s1,si,tk,d0,d1,d3,nr,dV,eg,Bool.or_true,Bool.true_or,Bool.false_or,Bool.not_true,Bool.not_false,decide_true,decide_false,e0,e1,e3,go_sem,↓reduceIte,Nat.reduceEqDiff,Nat.reduceBEq,Nat.reduceAdd,Nat.reduceSub,Nat.reduceLT,Nat.reduceLeDiff,Int.reduceLT,Int.reduceLE,Int.reduceEq,Int.reduceToNat]
   ·by_cases k1:aG fl=1
    ·have k3:¬aG fl=3:=by omega
     have e0:(aG fl=0)=False:=eq_false k0
     have e1:(aG fl=1)=True:=eq_true k1
     have e3:(aG fl=3)=False:=eq_false k3
     have lH:w=false:=by rw[←hw];simp[mg,e0,e1,e3]
     subst lH
     simp only[e0,e1,e3,decide_true,decide_false,Bool.not_true,Bool.not_false] at hr ⊢
     simp only[hr,c4,c5,c6,c7,c8,q0,q1,qi,s0,s1,si,tk,d0,d1,d3,nr,dV,eg,Bool.or_true,Bool.true_or,Bool.false_or,Bool.not_true,Bool.not_false,decide_true,decide_false,e0,e1,e3,go_sem,↓reduceIte,Nat.reduceEqDiff,Nat.reduceBEq,Nat.reduceAdd,Nat.reduceSub,Nat.reduceLT,Nat.reduceLeDiff,Int.reduceLT,Int.reduceLE,Int.reduceEq,Int.reduceToNat]
     cases b8 with
     | true=>
       simp only[hr,c4,c5,c6,c7,c8,q0,q1,qi,s0,s1,si,tk,d0,d1,d3,nr,dV,eg,Bool.or_true,Bool.true_or,Bool.false_or,Bool.not_true,Bool.not_false,decide_true,decide_false,e0,e1,e3,go_sem,↓reduceIte,Nat.reduceEqDiff,Nat.reduceBEq,Nat.reduceAdd,Nat.reduceSub,Nat.reduceLT,Nat.reduceLeDiff,Int.reduceLT,Int.reduceLE,Int.reduceEq,Int.reduceToNat]
     | false=>
       simp only[hr,c4,c5,c6,c7,c8,q0,q1,qi,s0,s1,si,tk,d0,d1,d3,nr,dV,eg,Bool.or_true,Bool.true_or,Bool.false_or,Bool.not_true,Bool.not_false,decide_true,decide_false,e0,e1,e3,go_sem,↓reduceIte,Nat.reduceEqDiff,Nat.reduceBEq,Nat.reduceAdd,Nat.reduceSub,Nat.reduceLT,Nat.reduceLeDiff,Int.reduceLT,Int.reduceLE,Int.reduceEq,Int.reduceToNat]
    ·by_cases k3:aG fl=3
     ·skip
      have e0:(aG fl=0)=False:=eq_false k0
      have e1:(aG fl=1)=False:=eq_false k1
      have e3:(aG fl=3)=True:=eq_true k3
      have lH:w=false:=by rw[←hw];simp[mg,e0,e1,e3]
      subst lH
      simp only[e0,e1,e3,decide_true,decide_false,Bool.not_true,Bool.not_false] at hr ⊢
      simp only[hr,c4,c5,c6,c7,c8,q0,q1,qi,s0,s1,si,tk,d0,d1,d3,nr,dV,eg,Bool.or_true,Bool.true_or,Bool.false_or,Bool.not_true,Bool.not_false,decide_true,decide_false,e0,e1,e3,go_sem,↓reduceIte,Nat.reduceEqDiff,Nat.reduceBEq,Nat.reduceAdd,Nat.reduceSub,Nat.reduceLT,Nat.reduceLeDiff,Int.reduceLT,Int.reduceLE,Int.reduceEq,Int.reduceToNat]
      cases b8 with
      | true=>
        simp only[hr,c4,c5,c6,c7,c8,q0,q1,qi,s0,s1,si,tk,d0,d1,d3,nr,dV,eg,Bool.or_true,Bool.true_or,Bool.false_or,Bool.not_true,Bool.not_false,decide_true,decide_false,e0,e1,e3,go_sem,↓reduceIte,Nat.reduceEqDiff,Nat.reduceBEq,Nat.reduceAdd,Nat.reduceSub,Nat.reduceLT,Nat.reduceLeDiff,Int.reduceLT,Int.reduceLE,Int.reduceEq,Int.reduceToNat]
      | false=>
        simp only[hr,c4,c5,c6,c7,c8,q0,q1,qi,s0,s1,si,tk,d0,d1,d3,nr,dV,eg,Bool.or_true,Bool.true_or,Bool.false_or,Bool.not_true,Bool.not_false,decide_true,decide_false,e0,e1,e3,go_sem,↓reduceIte,Nat.reduceEqDiff,Nat.reduceBEq,Nat.reduceAdd,Nat.reduceSub,Nat.reduceLT,Nat.reduceLeDiff,Int.reduceLT,Int.reduceLE,Int.reduceEq,Int.reduceToNat]
     ·skip
      have e0:(aG fl=0)=False:=eq_false k0
      have e1:(aG fl=1)=False:=eq_false k1
      have e3:(aG fl=3)=False:=eq_false k3
      have lH:w=true:=by rw[←hw];simp[mg,e0,e1,e3]
      subst lH
      simp only[e0,e1,e3,decide_true,decide_false,Bool.not_true,Bool.not_false] at hr ⊢
      simp only[hr,c4,c5,c6,c7,c8,q0,q1,qi,s0,s1,si,tk,d0,d1,d3,nr,dV,eg,Bool.or_true,Bool.true_or,Bool.false_or,Bool.not_true,Bool.not_false,decide_true,decide_false,e0,e1,e3,go_sem,↓reduceIte,Nat.reduceEqDiff,Nat.reduceBEq,Nat.reduceAdd,Nat.reduceSub,Nat.reduceLT,Nat.reduceLeDiff,Int.reduceLT,Int.reduceLE,Int.reduceEq,Int.reduceToNat]
      cases b8 with
      | true=>
        simp only[hr,c4,c5,c6,c7,c8,q0,q1,qi,s0,s1,si,tk,d0,d1,d3,nr,dV,eg,Bool.or_true,Bool.true_or,Bool.false_or,Bool.not_true,Bool.not_false,decide_true,decide_false,e0,e1,e3,go_sem,↓reduceIte,Nat.reduceEqDiff,Nat.reduceBEq,Nat.reduceAdd,Nat.reduceSub,Nat.reduceLT,Nat.reduceLeDiff,Int.reduceLT,Int.reduceLE,Int.reduceEq,Int.reduceToNat]
      | false=>
        simp only[hr,c4,c5,c6,c7,c8,q0,q1,qi,s0,s1,si,tk,d0,d1,d3,nr,dV,eg,Bool.or_true,Bool.true_or,Bool.false_or,Bool.not_true,Bool.not_false,decide_true,decide_false,e0,e1,e3,go_sem,↓reduceIte,Nat.reduceEqDiff,Nat.reduceBEq,Nat.reduceAdd,Nat.reduceSub,Nat.reduceLT,Nat.reduceLeDiff,Int.reduceLT,Int.reduceLE,Int.reduceEq,Int.reduceToNat]
theorem fI (n:Nat) (s:Bs×Bool):(aE n s).2.1.length≤s.1.length:=by
 unfold aE
 split
 ·simp
 ·simp
theorem Hb (s:Bs×Bool):(lG s).2.1.length≤s.1.length:=Nat.le_trans (fI _ _) (fI _ _)
theorem C4 (s:Bs×Bool):(cA s).2.1.length≤s.1.length:=by
 have h1:=fI 4 s
 have h2:=fI 8 (aE 4 s).2
 have h3:=fI 1 (aE 8 (aE 4 s).2).2
 unfold cA
 generalize aE 4 s=s1 at *
 obtain ⟨i,s1⟩:=s1
 simp only at h1 h2 h3 ⊢
 generalize aE 8 s1=s2 at *
 obtain ⟨g,s2⟩:=s2
 simp only at h2 h3 ⊢
 generalize aE 1 s2=s3 at *
 obtain ⟨fl,s3⟩:=s3
 simp only at h3 ⊢
 have h4:=fI 1 (s3.1,s3.2 || mg (aG fl))
 generalize aE 1 (s3.1,s3.2 || mg (aG fl))=s4 at *
 obtain ⟨li,s4⟩:=s4
 simp only at h4 ⊢
 have h5:=fI 1 s4
 generalize aE 1 s4=s5 at *
 obtain ⟨us,s5⟩:=s5
 simp only at h5 ⊢
 have h6:=fI 16 s5
 generalize aE 16 s5=s6 at *
 obtain ⟨p,s6⟩:=s6
 simp only at h6 ⊢
 have h7:=fI 16 s6
 generalize aE 16 s6=s7 at *
 obtain ⟨o,s7⟩:=s7
 simp only at h7 ⊢
 have h8:=Hb s7
 generalize lG s7=s8 at *
 obtain ⟨t,s8⟩:=s8
 simp only at h8 ⊢
 omega
def bS (l:Bs):ag×Int×Int:=if (cA (l,false)).2.2=true then (zeroV,0,12) else ((cA (l,false)).1,((l.length - (cA (l,false)).2.1.length:Nat):Int),0)
theorem zS (b:Nat) (h:Hp) (f:Bool) (l:Bs) (hl:l.length≤100000000):
 run fns pr b 129 [.al f none (l.map aa)] h=some (.bI [(bS l).1.enc,.s (.int .i64 (bS l).2.1),.s (.int .i64 (bS l).2.2)],h):=by
 obtain ⟨f1,c⟩:=pQ (h.length+1) f false l
 have hle:=C4 (l,false)
 have w:IntKind.i64.wrap (((l.length:Nat):Int) - (((cA (l,false)).2.1.length:Nat):Int))=((l.length - (cA (l,false)).2.1.length:Nat):Int):=by
   simp only at hle
   rw[wrap_i64 (by omega) (by omega)];omega
 unfold bS
 generalize cA (l,false)=r at *
 obtain ⟨v,l1,b1⟩:=r
 simp only at c w hle ⊢
 have c1:∀A,run fns pr h.length 126 [.ptr (h.length+1) [0] 1] (h++[A,gX f l false])=some (v.enc,h++[A,gX f1 l1 b1]):=fun A=> by
   rw[c h.length (h++[A,gX f l false]) (by simp)]
   simp
 have tk:∀X,(h++X).take h.length=h:=fun X=> by simp
 simp only[gX] at c1
 have t1:=aX v
 have t2:=aY v
 refine Vm.aU (nt:=26) rfl OM (by simp) ?_
 simp only[OJ,c1,t1,t2,tk,go_sem,↓reduceIte,Nat.reduceEqDiff,Nat.reduceBEq,Nat.reduceAdd,Nat.reduceSub,Nat.reduceLT,Nat.reduceLeDiff,Int.reduceLT,Int.reduceLE,Int.reduceEq,Int.reduceToNat]
 cases b1 with
 | true=>
   simp only[c1,tk,go_sem,↓reduceIte,Nat.reduceEqDiff,Nat.reduceBEq,Nat.reduceAdd,Nat.reduceSub,Nat.reduceLT,Nat.reduceLeDiff,Int.reduceLT,Int.reduceLE,Int.reduceEq,Int.reduceToNat]
   rfl
 | false=>
   simp only[c1,t1,t2,vz,w,tk,go_sem,↓reduceIte,Nat.reduceEqDiff,Nat.reduceBEq,Nat.reduceAdd,Nat.reduceSub,Nat.reduceLT,Nat.reduceLeDiff,Int.reduceLT,Int.reduceLE,Int.reduceEq,Int.reduceToNat]
def rl :Nat→Bs×Bool→List ag×(Bs×Bool)
 | 0,s=>([],s)
 | n+1,s=>((rl n s).1++[(cA (rl n s).2).1],(cA (rl n s).2).2)
theorem BE (n:Nat) (s:Bs×Bool):(rl n s).1.length=n:=by
 induction n with
 | zero=> rfl
 | succ n ih=> simp[rl,ih]
def nu (s:Bs×Bool):aq×(Bs×Bool):=
 match aE 1 s with
 | (k,s1)=>
   if aG k=1 then match cA s1 with
    | (v,s2)=>(⟨1,0,0,0,v,[]⟩,s2)
   else if aG k=2 then match aE 1 s1 with
     | (a,s2)=> match aE 1 s2 with
       | (t,s3)=> match aE 8 s3 with
         | (e,s4)=>(⟨2,(aG a:Nat),(aG t:Nat),(jm e:Nat),zeroV,[]⟩,s4)
   else if aG k=3 then match aE 1 s1 with
     | (a,s2)=> match aE 8 s2 with
       | (e,s3)=> match aE 1 s3 with
         | (n,s4)=> match rl (min (aG n) 5) s4 with
           | (vs,s5)=>(⟨3,(aG a:Nat),0,(jm e:Nat),zeroV,vs⟩,s5)
   else if aG k=4 then match aE 1 s1 with
     | (a,s2)=> match aE 8 s2 with
       | (e,s3)=>(⟨4,(aG a:Nat),0,(jm e:Nat),zeroV,[]⟩,s3)
   else (⟨(aG k:Nat),0,0,0,zeroV,[]⟩,s1)
def jn :aq:=⟨0,0,0,0,zeroV,[]⟩
def mh (l:Bs):aq×Int:=if (nu (l,false)).2.2=true∨(nu (l,false)).2.1≠[]∨aS (nu (l,false)).1=false then (jn,12) else ((nu (l,false)).1,0)
def Hc (r:aq) (f:Bool) (x:V):aV:= .cells (some 41) [.st 41 [.s (.int .i64 r.kind),.s (.int .i64 r.aA),.s (.int .i64 r.dz),.s (.int .u64 r.aD),r.av.gk f,x]]
theorem atR {F:Nat} {h:Hp} {f bad:Bool} {l:Bs} {v:V} {R':aV} (c:∀(b:Nat) (h0:Hp) (_:h0[h.length+1]? =some (gX f l bad)),run fns pr b F [.ptr (h.length+1) [0] 1] h0=some (v,h0.set (h.length+1) R')) (A:aV) (X:Hp):
 run fns pr h.length F [.ptr (h.length+1) [0] 1] (h++A::gX f l bad::X)=some (v,h++A::R'::X):=by
 rw[c h.length (h++A::gX f l bad::X) (by rw[List.getElem?_append_right (by omega)];simp)]
 rw[List.set_append_right _ _ (by omega)]
 simp
theorem BF (l:Bs): -9223372036854775808≤((aG l:Nat):Int)∧((aG l:Nat):Int)≤9223372036854775807:=by
 have:=oZ l;omega
theorem Ve {l:Bs} (h:l.length=8):jm l < 18446744073709551616:=by
 have:=r0 l 8 (by omega)
 rw[List.take_of_length_le (by omega)] at this
 omega
theorem C5 (s:Bs×Bool):(lG s).1.length < 256:=by
 unfold lG;rw[q20z];exact oZ _
theorem mZ (s:Bs×Bool):(cA s).1.wf:=by
 unfold cA
 have h1:=q20z 4 s
 generalize aE 4 s=s1 at *
 obtain ⟨i,s1⟩:=s1
 simp only at h1 ⊢
 have h2:=q20z 8 s1
 generalize aE 8 s1=s2 at *
 obtain ⟨g,s2⟩:=s2
 simp only at h2 ⊢
 generalize aE 1 s2=s3 at *
 obtain ⟨fl,s3⟩:=s3
 simp only
 generalize aE 1 (s3.1,s3.2 || mg (aG fl))=s4 at *
 obtain ⟨li,s4⟩:=s4
 simp only
 generalize aE 1 s4=s5 at *
 obtain ⟨us,s5⟩:=s5
 simp only
 have h6:=q20z 16 s5
 generalize aE 16 s5=s6 at *
 obtain ⟨p,s6⟩:=s6
 simp only at h6 ⊢
 have h7:=q20z 16 s6
 generalize aE 16 s6=s7 at *
 obtain ⟨o,s7⟩:=s7
 simp only at h7 ⊢
 have h8:=C5 s7
 generalize lG s7=s8 at *
 obtain ⟨t,s8⟩:=s8
 simp only at h8 ⊢
 have hb:=Ve h2
 exact ⟨h1,⟨by simp only;omega,by simp only;omega⟩,h6,by simp only;omega,BF li,BF us,h7,trivial,trivial⟩
theorem KD (v:ag):v.enc.ground=true:=by
 have:v.enc.plain=true:=by simp only[ag.enc,go_sem]
 exact kL _ this
theorem KE {cf:CF} {base n:Nat} {v:V} {a b:C} {e:Env} {h:Hp} {K:bK} (M:Env→Hp→Prop) (h1:∀e H,M e H→K .normal e H) (h2:∀K':bK,(∀e H,M e H→K' .normal e H)→wpC cf base v a b e h (gp n K')):wpC cf base v a b e h (gp n K):=h2 K h1
theorem KF (n:Nat) (h:Hp) (f:Bool) (v:ag):bA n h (v.gk f)=some v.enc:=by simp only[ag.gk,ag.enc,go_sem]
def Vf (h:Hp) (l:Bs) (e:Env) (H:Hp):Prop:=e 4= .ptr (h.length+1) [0] 1∧e 5= .ptr (h.length+2) [0] 1∧e 2= .ptr h.length [0] 1∧
 ∃r l' b' f' fv x kk A,nu (l,false)=(r,l',b')∧Fw [] h H∧H[h.length]? =some (.cells (some 41) [A])∧A.ty=some 41∧H[h.length+1]? =some (gX f' l' b')∧H[h.length+2]? =some (Hc r fv x)∧XR H (some 31) kk x (r.ai.map ag.enc)∧h.length+3≤kk∧∀v∈r.ai,v.wf
theorem xg (b:Nat) (h:Hp) (f:Bool) (l:Bs):
 run fns pr b 117 [.al f none (l.map aa)] h=some (.bI [(mh l).1.enc,.s (.int .i64 (mh l).2)],h):=by
 refine Vm.aU (nt:=68) rfl Oe (by simp) ?_
 obtain ⟨f1,c1⟩:=jD (h.length+1) f false l
 replace c1:=atR c1
 have n1:=q20z 1 (l,false)
 unfold mh
 have ji:nu (l,false)=nu (l,false):=rfl
 conv at ji=> rhs;unfold nu
 generalize aE 1 (l,false)=s1 at ji c1 n1
 obtain ⟨k,l1,b1⟩:=s1
 simp only at c1 n1 ji
 have a1:(((aG k:Nat):Int)=1)=(aG k=1):=propext (by omega)
 have a2:(((aG k:Nat):Int)=2)=(aG k=2):=propext (by omega)
 have a3:(((aG k:Nat):Int)=3)=(aG k=3):=propext (by omega)
 have a4:(((aG k:Nat):Int)=4)=(aG k=4):=propext (by omega)
 have tk:∀X,(h++X).take h.length=h:=fun X=> by simp
 simp only[gX] at c1
 simp only[Oc,Gt,c1,tk,go_sem,↓reduceIte,Nat.reduceEqDiff,Nat.reduceBEq,Nat.reduceAdd,Nat.reduceSub,Nat.reduceLT,Nat.reduceLeDiff,Int.reduceLT,Int.reduceLE,Int.reduceEq,Int.reduceToNat]
 refine KE (Vf h l) ?_ ?_
 ·rintro e H ⟨e4,e5,e2,r,l',b',f',fv,x,kk,A,hr,fw,g0,hA,g1,g2,xr,hk,hwf⟩
  rw[hr]
  simp only
  have cl:=KC h.length H (h.length+1) f' b' l' g1
  have cr:=lF h.length H fv x r xr.SR hwf
  have hz:∀B,bA h.length (H.set h.length B) x=some (.al false (some 31) (r.ai.map ag.enc)):=fun B=>(xr.set (j:=h.length) (by omega) B).qX (by omega) (by rw[eK];intro v hv;obtain ⟨w,_,rfl⟩:=List.mem_map.1 hv;simp[ag.enc,V.plain,V.plain.all,ed])
  have eA:=fw.take
  have FA:=xr.ty
  have Pj:∀X,(H.set h.length X).take h.length=h:=fun X=> by rw[List.take_set,eA,List.set_eq_of_length_le (Nat.le_refl _)]
  have e0:∀fv x,V.ty (.st 41 [.s (.int .i64 r.kind),.s (.int .i64 r.aA),.s (.int .i64 r.dz),.s (.int .u64 r.aD),r.av.gk fv,x])=some 41:=fun _ _=> rfl
  unfold Hc at g2
  by_cases hb:(b' || decide (l'≠[]))=true
  ·rw[hb] at cl
   have aT:b'=true∨l'≠[]∨aS r=false:=by simpa[or_assoc] using (show (b'=true∨l'≠[])∨aS r=false from .inl (by simpa using hb))
   rw[if_pos aT]
   simp only[e4,e5,e2,cl,g0,hA,Pj,q9z g0,go_sem,↓reduceIte,Nat.reduceEqDiff,Nat.reduceBEq,Nat.reduceAdd,Nat.reduceSub,Nat.reduceLT,Nat.reduceLeDiff,Int.reduceLT,Int.reduceLE,Int.reduceEq,Int.reduceToNat]
   rfl
  ·have Hd:(b' || decide (l'≠[]))=false:=by simpa using hb
   rw[Hd] at cl
   cases xf:aS r with
   | false=>
     rw[xf] at cr
     have aT:b'=true∨l'≠[]∨false=false:= .inr (.inr rfl)
     rw[if_pos aT]
     simp only[e4,e5,e2,cl,g2,cr,g0,hA,Pj,q9z g0,go_sem,↓reduceIte,Nat.reduceEqDiff,Nat.reduceBEq,Nat.reduceAdd,Nat.reduceSub,Nat.reduceLT,Nat.reduceLeDiff,Int.reduceLT,Int.reduceLE,Int.reduceEq,Int.reduceToNat]
     rfl
   | true=>
     rw[xf] at cr
     have aT:¬(b'=true∨l'≠[]∨true=false):=by
       intro hc
       apply hb
       rcases hc with h1 | h1 | h1
       ·simp[h1]
       ·simp[h1]
       ·cases h1
     rw[if_neg aT]
     simp only[e4,e5,e2,cl,g2,cr,g0,hA,Pj,q9z g0,hz,FA.1,FA.2,KF,fE,fF,go_sem,↓reduceIte,Nat.reduceEqDiff,Nat.reduceBEq,Nat.reduceAdd,Nat.reduceSub,Nat.reduceLT,Nat.reduceLeDiff,Int.reduceLT,Int.reduceLE,Int.reduceEq,Int.reduceToNat]
     rfl
 ·intro K hK
  generalize hbk:aG k=bk at *
  have G0:∀A X,(h++A::X)[h.length]? =some A:=fun A X=> by simp
  have G1:∀A B X,(h++A::B::X)[h.length+1]? =some B:=fun A B X=> by rw[List.getElem?_append_right (by omega)];simp
  have G2:∀A B C X,(h++A::B::C::X)[h.length+2]? =some C:=fun A B C X=> by rw[List.getElem?_append_right (by omega)];simp
  by_cases k1:bk=1
  ·subst k1
   rw[if_pos rfl] at ji
   obtain ⟨f2,c2⟩:=pQ (h.length+1) f1 b1 l1
   replace c2:=atR c2
   generalize cA (l1,b1)=s2 at *
   obtain ⟨v,l2,b2⟩:=s2
   simp only at c2 ji
   simp only[gX] at c2
   have q1:(((1:Nat):Int)=1)=True:=by simp
   simp only[q1,c2,decide_true,aX,aY,go_sem,↓reduceIte,Nat.reduceEqDiff,Nat.reduceBEq,Nat.reduceAdd,Nat.reduceSub,Nat.reduceLT,Nat.reduceLeDiff,Int.reduceLT,Int.reduceLE,Int.reduceEq,Int.reduceToNat]
   refine hK _ _ ⟨rfl,rfl,rfl,_,_,_,f2,false,.al true (some 31) [],h.length+3,_,ji,Fw.app [] h _,G0 _ _,?_,G1 _ _ _,(G2 _ _ _ _).trans ?_,XR.nil _ _ _,Nat.le_refl _,fun v hv=> by cases hv⟩
   ·rfl
   ·simp only[Hc,←ag.lE];rfl
  by_cases k2:bk=2
  ·subst k2
   rw[if_neg (by omega),if_pos rfl] at ji
   obtain ⟨f2,c2⟩:=jD (h.length+1) f1 b1 l1
   replace c2:=atR c2
   generalize aE 1 (l1,b1)=s2 at *
   obtain ⟨a,l2,b2⟩:=s2
   simp only at c2 ji
   obtain ⟨f3,c3⟩:=jD (h.length+1) f2 b2 l2
   replace c3:=atR c3
   generalize aE 1 (l2,b2)=s3 at *
   obtain ⟨t,l3,b3⟩:=s3
   simp only at c3 ji
   obtain ⟨f4,c4⟩:=vA (h.length+1) f3 b3 l3
   replace c4:=atR c4
   generalize aE 8 (l3,b3)=s4 at *
   obtain ⟨e,l4,b4⟩:=s4
   simp only at c4 ji
   simp only[gX] at c2 c3 c4
   have q1:(((2:Nat):Int)=1)=False:=by simp
   have q2:(((2:Nat):Int)=2)=True:=by simp
   simp only[q1,q2,c2,c3,c4,decide_true,decide_false,aX,aY,go_sem,↓reduceIte,Nat.reduceEqDiff,Nat.reduceBEq,Nat.reduceAdd,Nat.reduceSub,Nat.reduceLT,Nat.reduceLeDiff,Int.reduceLT,Int.reduceLE,Int.reduceEq,Int.reduceToNat]
   refine hK _ _ ⟨rfl,rfl,rfl,_,_,_,f4,true,.al true (some 31) [],h.length+3,_,ji,Fw.app [] h _,G0 _ _,?_,G1 _ _ _,(G2 _ _ _ _).trans ?_,XR.nil _ _ _,Nat.le_refl _,fun v hv=> by cases hv⟩
   ·rfl
   ·rfl
  by_cases k3:bk=3
  ·subst k3
   rw[if_neg (by omega),if_neg (by omega),if_pos rfl] at ji
   obtain ⟨f2,c2⟩:=jD (h.length+1) f1 b1 l1
   replace c2:=atR c2
   generalize aE 1 (l1,b1)=s2 at *
   obtain ⟨a,l2,b2⟩:=s2
   simp only at c2 ji
   obtain ⟨f3,c3⟩:=vA (h.length+1) f2 b2 l2
   replace c3:=atR c3
   generalize aE 8 (l2,b2)=s3 at *
   obtain ⟨ep,l3,b3⟩:=s3
   simp only at c3 ji
   obtain ⟨f4,c4⟩:=jD (h.length+1) f3 b3 l3
   replace c4:=atR c4
   generalize aE 1 (l3,b3)=s4 at *
   obtain ⟨n,l4,b4⟩:=s4
   simp only at c4 ji
   simp only[gX] at c2 c3 c4
   have q1:(((3:Nat):Int)=1)=False:=by simp
   have q2:(((3:Nat):Int)=2)=False:=by simp
   have q3:(((3:Nat):Int)=3)=True:=by simp
   have hN:min (aG n) 5≤5:=by omega
   have xh:∀cf base H,aB cf base H .min [.s (.int .i64 (aG n:Nat)),.s (.int .i64 5)]=some (.s (.int .i64 (min (aG n) 5:Nat)),H):=fun cf base H=> by
     rw[M7,show min ((aG n:Nat):Int) 5=((min (aG n) 5:Nat):Int) by omega]
   generalize min (aG n) 5=N at *
   simp only[q1,q2,q3,c2,c3,c4,decide_true,decide_false,xh,go_sem,↓reduceIte,Nat.reduceEqDiff,Nat.reduceBEq,Nat.reduceAdd,Nat.reduceSub,Nat.reduceLT,Nat.reduceLeDiff,Int.reduceLT,Int.reduceLE,Int.reduceEq,Int.reduceToNat]
   refine bh (fun q e H=>∃j,q=N - j∧j≤N∧e 41= .s (.int .i64 (j:Nat))∧e 40= .s (.int .i64 (N:Nat))∧e 4= .ptr (h.length+1) [0] 1∧e 5= .ptr (h.length+2) [0] 1∧e 2= .ptr h.length [0] 1∧
       ∃f' x kk A,Fw [] h H∧H[h.length]? =some (.cells (some 41) [A])∧A.ty=some 41∧H[h.length+1]? =some (gX f' (rl j (l4,b4)).2.1 (rl j (l4,b4)).2.2)∧H[h.length+2]? =some (Hc ⟨3,(aG a:Nat),0,(jm ep:Nat),zeroV,(rl j (l4,b4)).1⟩ true x)∧XR H (some 31) kk x ((rl j (l4,b4)).1.map ag.enc)∧h.length+3≤kk∧∀v∈(rl j (l4,b4)).1,v.wf)
     (fun e H=> Vf h l e H) N _ _ ?_ ?_ ?_
   ·refine ⟨0,rfl,by omega,rfl,rfl,rfl,rfl,rfl,f4,.al true (some 31) [],h.length+3,_,Fw.app [] h _,G0 _ _,?_,G1 _ _ _,(G2 _ _ _ _).trans ?_,XR.nil _ _ _,Nat.le_refl _,fun v hv=> by cases hv⟩
    ·rfl
    ·rfl
   ·rintro q e H ⟨j,rfl,hj,e41,e40,e4,e5,e2,f',x,kk,A,fw,g0,hA,g1,g2,xr,hk,hwf⟩
    by_cases cd:j < N
    ·have cj:(j:Int)<(N:Int):=by omega
     have ev:rl (j+1) (l4,b4)=((rl j (l4,b4)).1++[(cA (rl j (l4,b4)).2).1],(cA (rl j (l4,b4)).2).2):=rfl
     have Fz:=BE j (l4,b4)
     generalize rl j (l4,b4)=w at ev Fz g1 g2 xr hwf
     obtain ⟨vs,l5,b5⟩:=w
     simp only at ev Fz g1 g2 xr hwf
     obtain ⟨f6,cv⟩:=pQ (h.length+1) f' b5 l5
     replace cv:=cv h.length H g1
     have hvw:(cA (l5,b5)).1.wf:=mZ _
     generalize cA (l5,b5)=y at ev cv hvw
     obtain ⟨v,l6,b6⟩:=y
     simp only at ev cv hvw
     have bW:=q6z g2
     have xr1:=xr.set (j:=h.length+1) (by omega) (gX f6 l6 b6)
     have g01:(H.set (h.length+1) (gX f6 l6 b6))[h.length]? =_:=(List.getElem?_set_ne (by omega)).trans g0
     have g11:(H.set (h.length+1) (gX f6 l6 b6))[h.length+1]? =some (gX f6 l6 b6):=q9z g1
     have g21:(H.set (h.length+1) (gX f6 l6 b6))[h.length+2]? =_:=(List.getElem?_set_ne (by omega)).trans g2
     have fw1:∀i b0,h[i]? =some b0→(H.set (h.length+1) (gX f6 l6 b6))[i]? =some b0:=fun i b0 hb=> by
       have:=q6z hb
       rw[List.getElem?_set_ne (by omega)];exact fw.dw _ _ hb (by simp)
     have KG:(H.set (h.length+1) (gX f6 l6 b6)).length=H.length:=by simp
     generalize H.set (h.length+1) (gX f6 l6 b6)=H1 at cv xr1 g01 g11 g21 fw1 KG
     obtain ⟨x',H',k',ap,xr',hk1,zQ,hk3,hk4,hold⟩:=xr1.uq (n:=h.length) (bytes:=96) (ys:=[v.enc]) (m:=1) (by omega) (by omega) rfl (fun z hz=> by rw[List.mem_singleton] at hz;subst hz;exact KD v) (by simp;omega)
     have g02:=hold _ _ (by omega) g01
     have g12:=hold _ _ (by omega) g11
     have g22:=hold _ _ (by omega) g21
     have FA:=xr'.ty
     have hxo:=xr.ty
     have w3:IntKind.i64.wrap ((j:Int)+1)=((j+1:Nat):Int):=q17z (by omega)
     have c0:h.length≤h.length+2:=by omega
     have Pk:=q6z g21
     have g23:∀X:Hp,(H1++X)[h.length+2]? =_:=fun X=>(List.getElem?_append_left Pk).trans g21
     have g22':=g22
     simp only[Hc] at g2 g22 g21 g23
     simp only[e41,e40,e4,e5,e2,cj,g2,cv,aX,aY,ap,g22,g21,g23,hxo.1,FA.1,FA.2,w3,c0,decide_true,Bool.true_or,or_true,true_and,go_sem,↓reduceIte,Nat.reduceEqDiff,Nat.reduceBEq,Nat.reduceAdd,Nat.reduceSub,Nat.reduceLT,Nat.reduceLeDiff,Int.reduceLT,Int.reduceLE,Int.reduceEq,Int.reduceToNat]
     have cD:∀i,i≠h.length+2→∀B,(H'.set (h.length+2) B)[i]? =H'[i]? :=fun i hi B=> List.getElem?_set_ne (fun e=> hi e.symm)
     refine ⟨N - (j+1),by omega,j+1,rfl,by omega,rfl,f6,x',k',A,?_,(cD _ (by omega) _).trans g02,hA,?_,?_,?_,by omega,?_⟩
     ·refine ⟨by simp;omega,fun i b0 hb _=> ?_,fun i l0 hb=> ?_⟩
      ·have:=q6z hb
       rw[cD _ (by omega)];exact hold _ _ (by omega) (fw1 _ _ hb)
      ·have:=q6z hb
       rw[cD _ (by omega)];exact hold _ _ (by omega) (fw1 _ _ hb)
     ·rw[ev];exact (cD _ (by omega) _).trans g12
     ·rw[ev];exact q9z g22
     ·rw[ev]
      have:=xr'.set (j:=h.length+2) (by omega) (aV.cells (some 41) [.st 41 [.s (.int .i64 3),.s (.int .i64 (aG a:Nat)),.s (.int .i64 0),.s (.int .u64 (jm ep:Nat)),zeroV.gk true,x']])
      simpa using this
     ·rw[ev]
      intro w hw
      simp only[List.mem_append,List.mem_singleton] at hw
      rcases hw with hw | rfl
      ·exact hwf _ hw
      ·exact hvw
    ·have cj:¬(j:Int)<(N:Int):=by omega
     obtain rfl:j=N:=by omega
     simp only[e41,e40,cj,go_sem,↓reduceIte,Nat.reduceEqDiff,Nat.reduceBEq,Nat.reduceAdd,Nat.reduceSub,Nat.reduceLT,Nat.reduceLeDiff,Int.reduceLT,Int.reduceLE,Int.reduceEq,Int.reduceToNat]
     exact ⟨e4,e5,e2,_,_,_,f',true,x,kk,A,ji,fw,g0,hA,g1,g2,xr,hk,hwf⟩
   ·rintro e H hM
    exact hK _ _ hM
  by_cases k4:bk=4
  ·subst k4
   rw[if_neg (by omega),if_neg (by omega),if_neg (by omega),if_pos rfl] at ji
   obtain ⟨f2,c2⟩:=jD (h.length+1) f1 b1 l1
   replace c2:=atR c2
   generalize aE 1 (l1,b1)=s2 at *
   obtain ⟨a,l2,b2⟩:=s2
   simp only at c2 ji
   obtain ⟨f4,c4⟩:=vA (h.length+1) f2 b2 l2
   replace c4:=atR c4
   generalize aE 8 (l2,b2)=s4 at *
   obtain ⟨e,l4,b4⟩:=s4
   simp only at c4 ji
   simp only[gX] at c2 c4
   have q1:(((4:Nat):Int)=1)=False:=by simp
   have q2:(((4:Nat):Int)=2)=False:=by simp
   have q3:(((4:Nat):Int)=3)=False:=by simp
   have q4:(((4:Nat):Int)=4)=True:=by simp
   simp only[q1,q2,q3,q4,c2,c4,decide_true,decide_false,aX,aY,go_sem,↓reduceIte,Nat.reduceEqDiff,Nat.reduceBEq,Nat.reduceAdd,Nat.reduceSub,Nat.reduceLT,Nat.reduceLeDiff,Int.reduceLT,Int.reduceLE,Int.reduceEq,Int.reduceToNat]
   refine hK _ _ ⟨rfl,rfl,rfl,_,_,_,f4,true,.al true (some 31) [],h.length+3,_,ji,Fw.app [] h _,G0 _ _,?_,G1 _ _ _,(G2 _ _ _ _).trans ?_,XR.nil _ _ _,Nat.le_refl _,fun v hv=> by cases hv⟩
   ·rfl
   ·rfl
  ·rw[if_neg k1,if_neg k2,if_neg k3,if_neg k4] at ji
   have q1:(bk=1)=False:=eq_false k1
   have q2:(bk=2)=False:=eq_false k2
   have q3:(bk=3)=False:=eq_false k3
   have q4:(bk=4)=False:=eq_false k4
   simp only[a1,a2,a3,a4,q1,q2,q3,q4,decide_true,decide_false,go_sem,↓reduceIte,Nat.reduceEqDiff,Nat.reduceBEq,Nat.reduceAdd,Nat.reduceSub,Nat.reduceLT,Nat.reduceLeDiff,Int.reduceLT,Int.reduceLE,Int.reduceEq,Int.reduceToNat]
   refine hK _ _ ⟨rfl,rfl,rfl,_,_,_,f1,true,.al true (some 31) [],h.length+3,_,ji,Fw.app [] h _,G0 _ _,?_,G1 _ _ _,(G2 _ _ _ _).trans ?_,XR.nil _ _ _,Nat.le_refl _,fun v hv=> by cases hv⟩
   ·rfl
   ·rfl
abbrev cP (a b:Bs):Int:=Lib.compareBytes a b
theorem j3 :∀a:Bs,cP a a=0
 | []=> rfl
 | x::a=> by simp only[cP,Lib.compareBytes,UInt8.lt_irrefl,if_false];exact j3 a
theorem mi :∀a b:Bs,cP a b=0→a=b
 | [],[],_=> rfl
 | [],_::_,h=> by simp[cP,Lib.compareBytes] at h
 | _::_,[],h=> by simp[cP,Lib.compareBytes] at h
 | x::a,y::b,h=> by
   simp only[cP,Lib.compareBytes] at h
   split at h
   ·cases h
   ·split at h
    ·cases h
    ·rename_i h1 h2
     rw[UInt8.lt_iff_toNat_lt] at h1 h2
     have:x=y:=UInt8.toNat_inj.1 (by omega)
     rw[this,mi a b h]
theorem r6 :∀a b:Bs,cP a b= - cP b a
 | [],[]=> rfl
 | [],_::_=> rfl
 | _::_,[]=> rfl
 | x::a,y::b=> by
   have ih:=r6 a b
   simp only[cP] at ih
   simp only[cP,Lib.compareBytes,UInt8.lt_iff_toNat_lt]
   by_cases h1:x.toNat < y.toNat
   ·rw[if_pos h1,if_neg (by omega),if_pos h1]
   ·by_cases h2:y.toNat < x.toNat
    ·rw[if_neg h1,if_pos h2,if_pos h2];rfl
    ·rw[if_neg h1,if_neg h2,if_neg h2,if_neg h1];exact ih
theorem fc :∀a b c:Bs,cP a b < 0→cP b c < 0→cP a c < 0
 | [],[],_,h,_=> by simp[cP,Lib.compareBytes] at h
 | [],_::_,[],_,h=> by simp[cP,Lib.compareBytes] at h
 | [],_::_,_::_,_,_=> by simp[cP,Lib.compareBytes]
 | _::_,[],_,h,_=> by simp[cP,Lib.compareBytes] at h
 | _::_,_::_,[],_,h=> by simp[cP,Lib.compareBytes] at h
 | x::a,y::b,z::c,h1,h2=> by
   have ih:=fc a b c
   simp only[cP] at ih
   simp only[cP,Lib.compareBytes,UInt8.lt_iff_toNat_lt] at h1 h2 ⊢
   split at h1
   ·split at h2
    ·rw[if_pos (by omega)];decide
    ·split at h2
     ·cases h2
     ·rw[if_pos (by omega)];decide
   ·split at h1
    ·cases h1
    ·split at h2
     ·rw[if_pos (by omega)];decide
     ·split at h2
      ·cases h2
      ·rw[if_neg (by omega),if_neg (by omega)];exact ih h1 h2
def gO (l:List ag):Prop:=l.Pairwise fun v w=> cP v.iD w.iD < 0
def pos (l:List ag) (id:Bs):Nat:=l.countP fun v=> decide (cP v.iD id < 0)
theorem He (l:List ag) (id:Bs):pos l id≤l.length:=List.countP_le_length
theorem Hf {id:Bs}:∀ {l:List ag},gO l→∀ {i:Nat} {v:ag},l[i]? =some v→(cP v.iD id < 0↔i < pos l id)
 | [],_,i,v,h=> by simp at h
 | w::l,hr,i,v,h=> by
   obtain ⟨h1,h2⟩:=List.pairwise_cons.1 hr
   simp only[pos,List.countP_cons]
   by_cases hw:cP w.iD id < 0
   ·simp only[hw,decide_true,if_true]
    cases i with
    | zero=> simp at h;subst h;simp[hw]
    | succ i=>
      have:=Hf (id:=id) h2 (by simpa using h)
      rw[this];unfold pos;omega
   ·simp only[hw,decide_false,Bool.false_eq_true,if_false,Nat.add_zero]
    have hz:pos l id=0:=by
      rw[pos,List.countP_eq_zero]
      intro x hx
      have h3:=h1 x hx
      simp only[decide_eq_true_eq]
      intro h4
      exact hw (fc _ _ _ h3 h4)
    unfold pos at hz
    rw[hz]
    cases i with
    | zero=> simp at h;subst h;simp[hw]
    | succ i=>
      have h3:=h1 v (List.mem_of_getElem? (by simpa using h))
      constructor
      ·intro h4;exact absurd (fc _ _ _ h3 h4) hw
      ·omega
theorem o0 (b:Nat) (h:Hp) (x k:Nat) (hx:x < 4294967296) (hk:k≤31):run fns pr b 130 [.s (.int .u32 x),.s (.int .i64 k)] h=some (.s (.int .u32 (oM k x:Nat)),h):=by
 refine Vm.aU (nt:=15) rfl OO (by simp) ?_
 have au:(0:Nat)=0:=rfl
 try simp only[Kl,zA,zz,go_sem,↓reduceIte,Nat.reduceEqDiff,Nat.reduceBEq,Nat.reduceAdd,Nat.reduceSub,Nat.reduceLT,Nat.reduceLeDiff,Int.reduceLT,Int.reduceLE,Int.reduceEq,Int.reduceToNat]
 repeat' (
   first | refine q5z ?_ ?_ | refine q3z ?_ ?_ | refine q4z ?_ ?_
   all_goals intro aj
   all_goals first | replace aj:=q2z aj | replace aj:=q1z aj | skip
   all_goals first | subst aj | replace au:=And.intro aj au
   all_goals try simp only[au,Kl,zA,zz,go_sem,↓reduceIte,Nat.reduceEqDiff,Nat.reduceBEq,Nat.reduceAdd,Nat.reduceSub,Nat.reduceLT,Nat.reduceLeDiff,Int.reduceLT,Int.reduceLE,Int.reduceEq,Int.reduceToNat])
 refine bh (fun m e H=>∃j,m=k - j∧j≤k∧e 1= .s (.int .i64 ((k - j:Nat):Int))∧e 0= .s (.int .u32 (oM j x:Nat))∧H=h)
   (fun e H=> e 0= .s (.int .u32 (oM k x:Nat))∧H=h)
   k _ _ ⟨0,rfl,by omega,rfl,by rw[GO hx];rfl,rfl⟩ ?_ ?_
 ·rintro m e H ⟨j,rfl,hj,e1,e0,rfl⟩
  have hy:=zD (k:=j) hx (by omega)
  by_cases c:j < k
  ·have c':(0:Int)<((k - j:Nat):Int):=by omega
   have hs:=GP (x:=x) (j:=j) hx (by omega)
   generalize oM j x=y at e0 hy hs
   have s1:vt .u32 (y:Int) 1=_:=GM (a:=y) (k:=1) (by omega)
   have s2:pG .u32 (y:Int) 31=_:=GN (a:=y) (k:=31) (by omega)
   have s3:=O1 (a:=y * 2 ^ 1 % 4294967296) (b:=y / 2 ^ 31) (Nat.mod_lt _ (by decide)) (Nat.lt_of_le_of_lt (Nat.div_le_self _ _) hy)
   rw[show (y * 2 ^ 1 % 4294967296) ||| (y / 2 ^ 31)=oM 1 y from zC (k:=1) hy (by omega),hs] at s3
   have h1:∀cf base h,aB cf base h (.bin .num .shl) [.s (.int .u32 y),.s (.int .u64 1)]=some (.s (.int .u32 ((y * 2 ^ 1 % 4294967296:Nat):Int)),h):=fun cf base h=> by rw[←s1];exact tW cf base h .u32 .u64 (y:Int) 1 (by omega)
   have h2:∀cf base h,aB cf base h (.bin .num .shr) [.s (.int .u32 y),.s (.int .u64 31)]=some (.s (.int .u32 ((y / 2 ^ 31:Nat):Int)),h):=fun cf base h=> by rw[←s2];exact oQ cf base h .u32 .u64 (y:Int) 31 (by omega)
   clear s1 s2
   generalize y * 2 ^ 1 % 4294967296=y1 at h1 s3
   generalize y / 2 ^ 31=y2 at h2 s3
   have hw:IntKind.i64.wrap (((k - j:Nat):Int) - 1)=((k - (j+1):Nat):Int):=by rw[wrap_i64 (by omega) (by omega)];omega
   have au:(0:Nat)=0:=rfl
   try simp only[e1,e0,c',h1,h2,s3,hw,go_sem,↓reduceIte,Nat.reduceEqDiff,Nat.reduceBEq,Nat.reduceAdd,Nat.reduceSub,Nat.reduceLT,Nat.reduceLeDiff,Int.reduceLT,Int.reduceLE,Int.reduceEq,Int.reduceToNat]
   repeat' (
     first | refine q5z ?_ ?_ | refine q3z ?_ ?_ | refine q4z ?_ ?_
     all_goals intro aj
     all_goals first | replace aj:=q2z aj | replace aj:=q1z aj | skip
     all_goals first | subst aj | replace au:=And.intro aj au
     all_goals try simp only[au,e1,e0,c',h1,h2,s3,hw,go_sem,↓reduceIte,Nat.reduceEqDiff,Nat.reduceBEq,Nat.reduceAdd,Nat.reduceSub,Nat.reduceLT,Nat.reduceLeDiff,Int.reduceLT,Int.reduceLE,Int.reduceEq,Int.reduceToNat])
   all_goals exact ⟨k - (j+1),by omega,j+1,rfl,by omega,rfl,rfl⟩
  ·have c':¬(0:Int)<((k - j:Nat):Int):=by omega
   have:j=k:=by omega
   subst this
   have au:(0:Nat)=0:=rfl
   try simp only[e1,e0,c',go_sem,↓reduceIte,Nat.reduceEqDiff,Nat.reduceBEq,Nat.reduceAdd,Nat.reduceSub,Nat.reduceLT,Nat.reduceLeDiff,Int.reduceLT,Int.reduceLE,Int.reduceEq,Int.reduceToNat]
   repeat' (
     first | refine q5z ?_ ?_ | refine q3z ?_ ?_ | refine q4z ?_ ?_
     all_goals intro aj
     all_goals first | replace aj:=q2z aj | replace aj:=q1z aj | skip
     all_goals first | subst aj | replace au:=And.intro aj au
     all_goals try simp only[au,e1,e0,c',go_sem,↓reduceIte,Nat.reduceEqDiff,Nat.reduceBEq,Nat.reduceAdd,Nat.reduceSub,Nat.reduceLT,Nat.reduceLeDiff,Int.reduceLT,Int.reduceLE,Int.reduceEq,Int.reduceToNat])
 ·rintro e H ⟨e0,rfl⟩
  have au:(0:Nat)=0:=rfl
  try simp only[e0,go_sem,↓reduceIte,Nat.reduceEqDiff,Nat.reduceBEq,Nat.reduceAdd,Nat.reduceSub,Nat.reduceLT,Nat.reduceLeDiff,Int.reduceLT,Int.reduceLE,Int.reduceEq,Int.reduceToNat]
  repeat' (
    first | refine q5z ?_ ?_ | refine q3z ?_ ?_ | refine q4z ?_ ?_
    all_goals intro aj
    all_goals first | replace aj:=q2z aj | replace aj:=q1z aj | skip
    all_goals first | subst aj | replace au:=And.intro aj au
    all_goals try simp only[au,e0,go_sem,↓reduceIte,Nat.reduceEqDiff,Nat.reduceBEq,Nat.reduceAdd,Nat.reduceSub,Nat.reduceLT,Nat.reduceLeDiff,Int.reduceLT,Int.reduceLE,Int.reduceEq,Int.reduceToNat])
theorem eh (p:Bool) (n:Value):(p || (V.s n).ground)=true:=by cases p <;> rfl
theorem o3 (b:Nat) (h:Hp) (id:Nat) (x:W) (hx:x.ok) (hg:h[id]? =some (.cells none x.vs)):
 run fns pr b 122 [.ref id [] none 0 4 4] h=some (.bI [],h.set id (.cells none (gK x).vs)):=by
 refine Vm.aU (nt:=78) rfl Ot (by simp) ?_
 have oR:∀c,(h.set id c)[id]? =some c:=fun c=> q9z hg
 have CQ:∀c d,(h.set id c).set id d=h.set id d:=fun c d=> List.set_set ..
 have eA:∀c,(h.set id c).take h.length=h.set id c:=fun c=> List.take_of_length_le (by rw[List.length_set];exact Nat.le_refl _)
 have r16:∀b h y z,run fns pr b 130 [.s (.int .u32 ((xr y z:Nat):Int)),.s (.int .i64 16)] h=some (.s (.int .u32 ((oM 16 (xr y z):Nat):Int)),h):=fun b h y z=> o0 b h _ 16 (lq _ _) (by omega)
 have r12:∀b h y z,run fns pr b 130 [.s (.int .u32 ((xr y z:Nat):Int)),.s (.int .i64 12)] h=some (.s (.int .u32 ((oM 12 (xr y z):Nat):Int)),h):=fun b h y z=> o0 b h _ 12 (lq _ _) (by omega)
 have r8:∀b h y z,run fns pr b 130 [.s (.int .u32 ((xr y z:Nat):Int)),.s (.int .i64 8)] h=some (.s (.int .u32 ((oM 8 (xr y z):Nat):Int)),h):=fun b h y z=> o0 b h _ 8 (lq _ _) (by omega)
 have r7:∀b h y z,run fns pr b 130 [.s (.int .u32 ((xr y z:Nat):Int)),.s (.int .i64 7)] h=some (.s (.int .u32 ((oM 7 (xr y z):Nat):Int)),h):=fun b h y z=> o0 b h _ 7 (lq _ _) (by omega)
 simp only[W.vs] at hg
 have l0:(0:Int)<((4:Nat):Int):=by decide
 have l1:(1:Int)<((4:Nat):Int):=by decide
 have l2:(2:Int)<((4:Nat):Int):=by decide
 have l3:(3:Int)<((4:Nat):Int):=by decide
 have au:(0:Nat)=0:=rfl
 try simp only[Kk,l0,l1,l2,l3,hg,oR,CQ,eA,Ko,wT,r16,r12,r8,r7,eh,go_sem,↓reduceIte,Nat.reduceEqDiff,Nat.reduceBEq,Nat.reduceAdd,Nat.reduceSub,Nat.reduceLT,Nat.reduceLeDiff,Int.reduceLT,Int.reduceLE,Int.reduceEq,Int.reduceToNat]
 repeat' (
   first | refine q5z ?_ ?_ | refine q3z ?_ ?_ | refine q4z ?_ ?_
   all_goals intro aj
   all_goals first | replace aj:=q2z aj | replace aj:=q1z aj | skip
   all_goals first | subst aj | replace au:=And.intro aj au
   all_goals try simp only[au,Kk,l0,l1,l2,l3,hg,oR,CQ,eA,Ko,wT,r16,r12,r8,r7,eh,go_sem,↓reduceIte,Nat.reduceEqDiff,Nat.reduceBEq,Nat.reduceAdd,Nat.reduceSub,Nat.reduceLT,Nat.reduceLeDiff,Int.reduceLT,Int.reduceLE,Int.reduceEq,Int.reduceToNat])
 all_goals rfl
theorem BG (b:Nat) (h:Hp) (x:V) (l:Bs) (hb:BR h x l) (hl:4≤l.length):run fns pr b 121 [x] h=some (.s (.int .u32 (nn l:Nat)),h):=by
 refine Vm.aU (nt:=18) rfl Oo (by simp) ?_
 have au:(0:Nat)=0:=rfl
 try simp only[Kj,zy,zx,go_sem,↓reduceIte,Nat.reduceEqDiff,Nat.reduceBEq,Nat.reduceAdd,Nat.reduceSub,Nat.reduceLT,Nat.reduceLeDiff,Int.reduceLT,Int.reduceLE,Int.reduceEq,Int.reduceToNat]
 repeat' (
   first | refine q5z ?_ ?_ | refine q3z ?_ ?_ | refine q4z ?_ ?_
   all_goals intro aj
   all_goals first | replace aj:=q2z aj | replace aj:=q1z aj | skip
   all_goals first | subst aj | replace au:=And.intro aj au
   all_goals try simp only[au,Kj,zy,zx,go_sem,↓reduceIte,Nat.reduceEqDiff,Nat.reduceBEq,Nat.reduceAdd,Nat.reduceSub,Nat.reduceLT,Nat.reduceLeDiff,Int.reduceLT,Int.reduceLE,Int.reduceEq,Int.reduceToNat])
 have gW:SR h x none (l.map aa):=by
   rcases hb with ⟨f,rfl⟩ | ⟨id,off,bl,rfl,h1,h2,h3⟩
   ·exact .inl ⟨f,rfl⟩
   ·exact .inr ⟨id,off,bl.length,bl.map aa,by simp,h1,by simp,by simpa using h2,by rw[List.length_map,←List.map_drop,←List.map_take,h3]⟩
 have hv:∀i,i < 4→∃u:Nat,u < 256∧(l.getD i 0).toNat=u∧(∀cf base,aB cf base h (.di none) [x,.s (.int .i64 (i:Nat))]=some (jh x i,h))∧(∀cf base,aB cf base h (.ld none) [jh x i]=some (.s (.int .u8 u),h)):=by
   intro i hi
   have h1:l[i]? =some (l.getD i 0):=by rw[List.getD,List.getElem?_eq_getElem (by omega)];rfl
   exact ⟨_,(l.getD i 0).toNat_lt,rfl,fun cf base=> gW.cX (by simp;omega),fun cf base=> gW.g8 (v:=aa (l.getD i 0)) (by rw[List.getElem?_map,h1];rfl) rfl⟩
 refine bh (fun m e H=>∃j,m=j∧j≤4∧e 4= .s (.int .i64 ((j:Nat) - 1))∧e 3= .s (.int .u32 (nn l / 256 ^ j:Nat))∧e 0=x∧H=h)
   (fun e H=> e 3= .s (.int .u32 (nn l:Nat))∧H=h)
   4 _ _ ⟨4,rfl,by omega,rfl,by rw[Bq];rfl,rfl,rfl⟩ ?_ ?_
 ·rintro m e H ⟨j,rfl,hj,e4,e3,e0,rfl⟩
  cases m with
  | zero=>
    have c':¬(0:Int)≤((0:Nat):Int) - 1:=by omega
    rw[Nat.pow_zero,Nat.div_one] at e3
    have au:(0:Nat)=0:=rfl
    try simp only[e4,c',go_sem,↓reduceIte,Nat.reduceEqDiff,Nat.reduceBEq,Nat.reduceAdd,Nat.reduceSub,Nat.reduceLT,Nat.reduceLeDiff,Int.reduceLT,Int.reduceLE,Int.reduceEq,Int.reduceToNat]
    repeat' (
      first | refine q5z ?_ ?_ | refine q3z ?_ ?_ | refine q4z ?_ ?_
      all_goals intro aj
      all_goals first | replace aj:=q2z aj | replace aj:=q1z aj | skip
      all_goals first | subst aj | replace au:=And.intro aj au
      all_goals try simp only[au,e4,c',go_sem,↓reduceIte,Nat.reduceEqDiff,Nat.reduceBEq,Nat.reduceAdd,Nat.reduceSub,Nat.reduceLT,Nat.reduceLeDiff,Int.reduceLT,Int.reduceLE,Int.reduceEq,Int.reduceToNat])
    all_goals exact e3
  | succ j=>
    have hj1:(((j+1:Nat):Int) - 1)=(j:Int):=by omega
    rw[hj1] at e4
    have c':(0:Int)≤(j:Int):=by omega
    obtain ⟨u,hu,yW,fi,GU⟩:=hv j (by omega)
    have aR:=wU l j (by omega)
    have CR:=tU l j
    rw[yW] at aR
    generalize nn l / 256 ^(j+1)=y at e3 aR CR
    have hw:IntKind.i64.wrap ((j:Int) - 1)=(j:Int) - 1:=wrap_i64 (by omega) (by omega)
    have wu:IntKind.u32.wrap (u:Int)=(u:Int):=wrap_u32 (by omega) (by omega)
    have s1:IntKind.u32.wrap ((y:Int)* 256)=((y * 256:Nat):Int):=by rw[wrap_u32 (by omega) (by omega)];omega
    have s3:IntKind.u32.wrap (((y * 256:Nat):Int)+(u:Int))=((y * 256+u:Nat):Int):=by rw[wrap_u32 (by omega) (by omega)];omega
    rw[aR] at s3
    have au:(0:Nat)=0:=rfl
    try simp only[e4,e3,e0,c',fi,GU,wu,s1,s3,hw,go_sem,↓reduceIte,Nat.reduceEqDiff,Nat.reduceBEq,Nat.reduceAdd,Nat.reduceSub,Nat.reduceLT,Nat.reduceLeDiff,Int.reduceLT,Int.reduceLE,Int.reduceEq,Int.reduceToNat]
    repeat' (
      first | refine q5z ?_ ?_ | refine q3z ?_ ?_ | refine q4z ?_ ?_
      all_goals intro aj
      all_goals first | replace aj:=q2z aj | replace aj:=q1z aj | skip
      all_goals first | subst aj | replace au:=And.intro aj au
      all_goals try simp only[au,e4,e3,e0,c',fi,GU,wu,s1,s3,hw,go_sem,↓reduceIte,Nat.reduceEqDiff,Nat.reduceBEq,Nat.reduceAdd,Nat.reduceSub,Nat.reduceLT,Nat.reduceLeDiff,Int.reduceLT,Int.reduceLE,Int.reduceEq,Int.reduceToNat])
    all_goals exact ⟨j,by omega,j,rfl,by omega,rfl,rfl⟩
 ·rintro e H ⟨e3,rfl⟩
  have au:(0:Nat)=0:=rfl
  try simp only[e3,go_sem,↓reduceIte,Nat.reduceEqDiff,Nat.reduceBEq,Nat.reduceAdd,Nat.reduceSub,Nat.reduceLT,Nat.reduceLeDiff,Int.reduceLT,Int.reduceLE,Int.reduceEq,Int.reduceToNat]
  repeat' (
    first | refine q5z ?_ ?_ | refine q3z ?_ ?_ | refine q4z ?_ ?_
    all_goals intro aj
    all_goals first | replace aj:=q2z aj | replace aj:=q1z aj | skip
    all_goals first | subst aj | replace au:=And.intro aj au
    all_goals try simp only[au,e3,go_sem,↓reduceIte,Nat.reduceEqDiff,Nat.reduceBEq,Nat.reduceAdd,Nat.reduceSub,Nat.reduceLT,Nat.reduceLeDiff,Int.reduceLT,Int.reduceLE,Int.reduceEq,Int.reduceToNat])
end Go.Proofs.YtannfageakbpmaaGreat
