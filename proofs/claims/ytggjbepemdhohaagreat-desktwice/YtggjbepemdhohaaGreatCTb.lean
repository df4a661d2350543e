/- Texts for DeskTwice, part 2. Conditions: none. -/
import Derived.Test.YtggjbepemdhohaaGreatCTa
set_option linter.unusedSimpArgs false
set_option linter.unusedVariables false
set_option linter.unusedSectionVars false
namespace Go.Vm
theorem XR.push {h H:Hp} {k m:Nat} {x:V} {vs:List V} {bytes:Nat} {z:V} (xr:XR H none k x vs) (hk:m≤k) (hm:m≤H.length) (hh:h.length≤m) (fw:Fw [] h H) (hz:z.ground=true) (hb:(vs.length+1)* bytes≤140737488355328):
 ∃x' H' k',(∀cf base,aB cf base (H++[.cells none [z]]) (.app none bytes) [x,.ref H.length [] none 0 1 1]=some (x',H'))∧XR H' none k' x' (vs++[z])∧Fw [] h H'∧m≤k'∧m≤H'.length∧∀j b,j < m→H[j]? =some b→H'[j]? =some b:=by
 obtain ⟨x',H',k',h1,h2,h3,h4,h5⟩:=xr.LX (h:=h) (T:=[.cells none [z]]) (idy:=H.length) (z:=z) (bytes:=bytes) (by omega) fw (by rw[abU (abJ _)];simp) hz hb
 have h6:m≤k':=by rcases h4 with rfl | h4 <;> omega
 refine ⟨x',H',k',h1,h2,h3,h6,?_,fun j b hj hb=> h5 j b (by omega) (q10z hb _)⟩
 rcases h2 with ⟨_,h0⟩ | ⟨_,h0⟩
 ·simp at h0
 ·have:=q6z h0;omega
end Go.Vm
namespace Go.Proofs.YtggjbepemdhohaaGreat
open Go Go.Vm Go.Proofs Go.Cl
set_option maxRecDepth 100000
theorem Xs (n:Nat) (h:n < 256):(UInt8.ofNat n).toNat=n:=by
 rw[aev];omega
theorem q17z {n:Nat} (h:n < 4611686018427387904):IntKind.i64.wrap ((n:Int)+1)=((n+1:Nat):Int):=by
 rw[wrap_i64 (by omega) (by omega)];omega
def fI :List V:=bp.map aa
def wv0 :List V:=[.s (.int .u32 1668047222),.s (.int .u32 1768383858),.s (.int .u32 1801807216),.s (.int .u32 1935763045)]
def lW (l:Bs) (z:Nat):Bs:=l++[128]++List.replicate z 0
theorem AF (l:Bs) (z:Nat):lW l (z+1)=lW l z++[0]:=by simp[lW,List.replicate_succ']
theorem pX (l:Bs) (z:Nat):(lW l z).length=l.length+1+z:=by simp[lW];omega
theorem OC {a k:Nat} (hk:k≤64):sw .u64 (a:Int) (k:Int)=((a / 2 ^ k:Nat):Int):=by
 have h:sw .u64 (a:Int) (k:Int)=(a:Int).fdiv (2 ^(min ((k:Int).toNat) 64)):=rfl
 rw[h,aca,acf hk,adX _ (by exact Int.le_of_lt (Int.pow_pos (by decide)))]
 simp
theorem sD (n:Nat):V.s (.int .u8 (IntKind.u8.wrap (n:Int)))=aa (UInt8.ofNat (n % 256)):=by
 have:IntKind.u8.wrap (n:Int)=(n:Int) % 256:=by
   simp only[IntKind.wrap,IntKind.bits,IntKind.signed];rfl
 rw[this,aa,Xs (n % 256) (by omega)]
 congr 2
theorem sE (n:Nat) (h:Hp):∀l:Bs,bD.all n h (l.map aa)=some (l.map aa)
 | []=> sF n h
 | b::l=> by rw[abR,pY,sE n h l];rfl
theorem sG (h:Hp) (a b:aT):(h++[a,b])[h.length]? =some a∧(h++[a,b])[h.length+1]? =some b:=by
 constructor
 ·rw[abU (abJ _)];simp
 ·rw[abU (by omega)];simp
theorem Q1 (b:Nat) (h:Hp) (x:V) (l:Bs) (hb:Rd h x l) (hl:l.length≤1000000):∃v T,(∀b,run pW AE b 89 [x] h=some (v,h++T))∧XR (h++T) none h.length v (l.map aa)∧v.ty=none∧v.aw=true:=by
 obtain ⟨v,t,hc,hx,fV⟩:=Vm.pZ (hb.1 h (Fw.refl _ _)) (by omega)
 refine ⟨v,t,fun b=> ?_,?_,?_⟩
 ·rw[oG pW AE rfl];exact hc
 ·rcases fV with ⟨rfl,rfl,rfl⟩ | ⟨rfl,rfl⟩
  ·exact .inl ⟨rfl,rfl⟩
  ·exact .inr ⟨by rw[abX],aS _ _⟩
 ·rcases fV with ⟨rfl,_⟩ | ⟨rfl,_⟩<;> exact ⟨rfl,rfl⟩
def G0 (h:Hp):Hp:=h++[aT.cells (some 22) [.arr 22 fI],aT.cells (some 147) [.arr 147 wv0]]
theorem Q2 (b:Nat) (h:Hp) (x:V) (l:Bs) (hb:Rd h x l) (hl:l.length≤1000000):run pW AE b 55 [x] h=some (.arr 22 ((cT l).map aa),h):=by
 refine Vm.aQ (nt:=76) rfl Vg (by simp) ?_
 obtain ⟨g0,g1⟩:(G0 h)[h.length]? =_∧(G0 h)[h.length+1]? =_:=sG h (.cells (some 22) [.arr 22 fI]) (.cells (some 147) [.arr 147 wv0])
 have hlG:(G0 h).length=h.length+2:=by simp[G0]
 obtain ⟨v,T,my,xr,dO,ny⟩:=Q1 h.length (G0 h) x l (hb.fw (Fw.app [] h _)) hl
 have fw:Fw [] h (G0 h++T):=(Fw.app [] h _).trans (Fw.app [] _ _)
 have g0:=q10z g0 T
 have g1:=q10z g1 T
 have hlen:h.length+2≤(G0 h++T).length:=by rw[abI,hlG];omega
 rw[hlG] at xr
 generalize hHH:G0 h++T=H at *
 simp only[G0,fI,wv0] at my
 obtain ⟨x1,H1,k1,je,xr1,fw1,hk1,sH,pb⟩:=xr.push (m:=h.length+2) (z:= .s (.int .u8 128)) (bytes:=1) (by omega) hlen (by omega) fw rfl (by simp;omega)
 have au:(0:Nat)=0:=rfl
 try simp only[B55,Hd,Hc,Hb,Ha,Aj,Ai,G9,G8,G7,G6,G5,my,dO,ny,je,go_sem,↓reduceIte,Nat.reduceEqDiff,Nat.reduceBEq,Nat.reduceAdd,Nat.reduceSub,Nat.reduceLT,Nat.reduceLeDiff,Int.reduceLT,Int.reduceLE,Int.reduceEq,Int.reduceToNat]
 repeat' (
   first | refine q5z ?_ ?_ | refine q3z ?_ ?_ | refine q4z ?_ ?_
   all_goals intro ai
   all_goals first | replace ai:=q2z ai | replace ai:=q1z ai | skip
   all_goals first | subst ai | replace au:=And.intro ai au
   all_goals try simp only[au,B55,Hd,Hc,Hb,Ha,Aj,Ai,G9,G8,G7,G6,G5,my,dO,ny,je,go_sem,↓reduceIte,Nat.reduceEqDiff,Nat.reduceBEq,Nat.reduceAdd,Nat.reduceSub,Nat.reduceLT,Nat.reduceLeDiff,Int.reduceLT,Int.reduceLE,Int.reduceEq,Int.reduceToNat])
 have cI:=pb _ _ (by omega) g0
 have cS:=pb _ _ (by omega) g1
 have hxl:∀cf base (h0:Hp),Fw [] h h0→aB cf base h0 .len [x]=some (.s (.int .i64 l.length),h0):=fun cf base h0 f=> Vm.bG cf base h0 x _ hb.2
 refine bo (fun m e H=>∃z k y,m=fO l.length - z∧z≤fO l.length∧e 0=x∧e 2= .ptr h.length [0] 1∧e 3= .ptr (h.length+1) [0] 1∧e 4=y∧H[h.length]? =some (.cells (some 22) [.arr 22 fI])∧H[h.length+1]? =some (.cells (some 147) [.arr 147 wv0])∧XR H none k y ((lW l z).map aa)∧Fw [] h H∧h.length+2≤k∧h.length+2≤H.length)
   (fun e H=>∃k y,e 0=x∧e 2= .ptr h.length [0] 1∧e 3= .ptr (h.length+1) [0] 1∧e 4=y∧H[h.length]? =some (.cells (some 22) [.arr 22 fI])∧H[h.length+1]? =some (.cells (some 147) [.arr 147 wv0])∧XR H none k y ((lW l (fO l.length)).map aa)∧Fw [] h H∧h.length+2≤k∧h.length+2≤H.length)
   (fO l.length) _ _ ⟨0,k1,x1,rfl,by omega,rfl,rfl,rfl,rfl,cI,cS,by rw[show (lW l 0).map aa=l.map aa++[V.s (.int .u8 128)] by simp[lW];rfl];exact xr1,fw1,hk1,sH⟩ ?_ ?_
 ·clear my hHH je xr1 fw1 hk1 sH pb cI cS xr fw g0 g1 hlen
  rintro m e H ⟨z,k,y,rfl,hz,e0,e2,e3,e4,cI,cS,xr,fw,hk,hlH⟩
  have mo:=fun cf base=> xr.BR.bG (cf:=cf) (base:=base) (h:=H)
  rw[pX] at mo
  have hpd:fO l.length=(8 - (l.length+1) % 8) % 8:=rfl
  have Co:∀cf base h,aB cf base h (.bin .num .rem) [.s (.int .i64 ((l.length+1+z:Nat):Int)),.s (.int .i64 8)]=some (.s (.int .i64 (((l.length+1+z) % 8:Nat):Int)),h):=fun cf base h=> by
    rw[vg cf base h .i64 _ 8 (by omega),ac7 (by omega)];rfl
  by_cases c:z < fO l.length
  ·have c':¬(((l.length+1+z) % 8:Nat):Int)=0:=by omega
   obtain ⟨x',H',k',je,xr',fw',lX,dp,hold⟩:=xr.push (m:=h.length+2) (z:= .s (.int .u8 0)) (bytes:=1) (by omega) hlH (by omega) fw rfl (by rw[abX,pX];omega)
   have xr':XR H' none k' x' ((lW l (z+1)).map aa):=by rw[AF,acX];exact xr'
   have au:(0:Nat)=0:=rfl
   try simp only[e0,e2,e3,e4,mo,Co,c',je,go_sem,↓reduceIte,Nat.reduceEqDiff,Nat.reduceBEq,Nat.reduceAdd,Nat.reduceSub,Nat.reduceLT,Nat.reduceLeDiff,Int.reduceLT,Int.reduceLE,Int.reduceEq,Int.reduceToNat]
   repeat' (
     first | refine q5z ?_ ?_ | refine q3z ?_ ?_ | refine q4z ?_ ?_
     all_goals intro ai
     all_goals first | replace ai:=q2z ai | replace ai:=q1z ai | skip
     all_goals first | subst ai | replace au:=And.intro ai au
     all_goals try simp only[au,e0,e2,e3,e4,mo,Co,c',je,go_sem,↓reduceIte,Nat.reduceEqDiff,Nat.reduceBEq,Nat.reduceAdd,Nat.reduceSub,Nat.reduceLT,Nat.reduceLeDiff,Int.reduceLT,Int.reduceLE,Int.reduceEq,Int.reduceToNat])
   all_goals exact ⟨fO l.length - (z+1),by omega,z+1,k',x',rfl,by omega,rfl,hold _ _ (by omega) cI,hold _ _ (by omega) cS,xr',fw',lX,dp⟩
  ·have c':(((l.length+1+z) % 8:Nat):Int)=0:=by omega
   have:z=fO l.length:=by omega
   have au:(0:Nat)=0:=rfl
   try simp only[e0,e2,e3,e4,mo,Co,c',go_sem,↓reduceIte,Nat.reduceEqDiff,Nat.reduceBEq,Nat.reduceAdd,Nat.reduceSub,Nat.reduceLT,Nat.reduceLeDiff,Int.reduceLT,Int.reduceLE,Int.reduceEq,Int.reduceToNat]
   repeat' (
     first | refine q5z ?_ ?_ | refine q3z ?_ ?_ | refine q4z ?_ ?_
     all_goals intro ai
     all_goals first | replace ai:=q2z ai | replace ai:=q1z ai | skip
     all_goals first | subst ai | replace au:=And.intro ai au
     all_goals try simp only[au,e0,e2,e3,e4,mo,Co,c',go_sem,↓reduceIte,Nat.reduceEqDiff,Nat.reduceBEq,Nat.reduceAdd,Nat.reduceSub,Nat.reduceLT,Nat.reduceLeDiff,Int.reduceLT,Int.reduceLE,Int.reduceEq,Int.reduceToNat])
   all_goals (subst this;exact ⟨k,y,rfl,cI,cS,xr,fw,hk,hlH⟩)
 ·clear my hHH je xr1 fw1 hk1 sH pb cI cS xr fw g0 g1 hlen
  rintro e H ⟨k,y,e0,e2,e3,e4,cI,cS,xr,fw,hk,hlH⟩
  have au:(0:Nat)=0:=rfl
  try simp only[e0,e2,e3,e4,go_sem,↓reduceIte,Nat.reduceEqDiff,Nat.reduceBEq,Nat.reduceAdd,Nat.reduceSub,Nat.reduceLT,Nat.reduceLeDiff,Int.reduceLT,Int.reduceLE,Int.reduceEq,Int.reduceToNat]
  repeat' (
    first | refine q5z ?_ ?_ | refine q3z ?_ ?_ | refine q4z ?_ ?_
    all_goals intro ai
    all_goals first | replace ai:=q2z ai | replace ai:=q1z ai | skip
    all_goals first | subst ai | replace au:=And.intro ai au
    all_goals try simp only[au,e0,e2,e3,e4,go_sem,↓reduceIte,Nat.reduceEqDiff,Nat.reduceBEq,Nat.reduceAdd,Nat.reduceSub,Nat.reduceLT,Nat.reduceLeDiff,Int.reduceLT,Int.reduceLE,Int.reduceEq,Int.reduceToNat])
  refine bo (fun m e H=>∃i k y,m=8 - i∧i≤8∧e 20= .s (.int .i64 (i:Nat))∧e 0=x∧e 2= .ptr h.length [0] 1∧e 3= .ptr (h.length+1) [0] 1∧e 4=y∧H[h.length]? =some (.cells (some 22) [.arr 22 fI])∧H[h.length+1]? =some (.cells (some 147) [.arr 147 wv0])∧XR H none k y ((lW l (fO l.length)++rA l.length i).map aa)∧Fw [] h H∧h.length+2≤k∧h.length+2≤H.length)
    (fun e H=>∃y,e 0=x∧e 2= .ptr h.length [0] 1∧e 3= .ptr (h.length+1) [0] 1∧e 4=y∧H[h.length]? =some (.cells (some 22) [.arr 22 fI])∧H[h.length+1]? =some (.cells (some 147) [.arr 147 wv0])∧BR H y (fj l)∧Fw [] h H)
    8 _ _ ⟨0,k,y,rfl,by omega,rfl,e0,e2,e3,e4,cI,cS,by simpa[rA] using xr,fw,hk,hlH⟩ ?_ ?_
  ·clear xr fw hk hlH cI cS e4 y k
   rintro m e H ⟨i,k,y,rfl,hi,e20,e0,e2,e3,e4,cI,cS,xr,fw,hk,hlH⟩
   by_cases c:i < 8
   ·have c':(i:Int)< 8:=by omega
    have mo:=fun cf base=> hxl cf base H fw
    have jj:IntKind.i64.wrap ((i:Int)+1)=((i+1:Nat):Int):=q17z (by omega)
    have w1:IntKind.u64.wrap (l.length:Int)=(l.length:Int):=wrap_u64 (by omega) (by omega)
    have w2:IntKind.i64.wrap (8 *(i:Int))=((8 * i:Nat):Int):=by rw[wrap_i64 (by omega) (by omega)];omega
    have p6:∀cf base h,aB cf base h (.bin .num .shr) [.s (.int .u64 (l.length:Int)),.s (.int .i64 ((8 * i:Nat):Int))]=some (.s (.int .u64 ((l.length / 2 ^(8 * i):Nat):Int)),h):=fun cf base h=> by
      rw[sC cf base h .u64 .i64 _ _ (by omega),OC (by omega)]
    have pc:V.s (.int .u8 (IntKind.u8.wrap ((l.length / 2 ^(8 * i):Nat):Int)))=aa (UInt8.ofNat (l.length / 2 ^(8 * i) % 256)):=sD _
    obtain ⟨x',H',k',je,xr',fw',lX,dp,hold⟩:=xr.push (m:=h.length+2) (z:= .s (.int .u8 (IntKind.u8.wrap ((l.length / 2 ^(8 * i):Nat):Int)))) (bytes:=1) (by omega) hlH (by omega) fw rfl (by rw[abX,abI,pX,o9];unfold fO;omega)
    have xr':XR H' none k' x' ((lW l (fO l.length)++rA l.length (i+1)).map aa):=by rw[rA,←List.append_assoc,acX,List.map_singleton,←pc];exact xr'
    have au:(0:Nat)=0:=rfl
    try simp only[e20,e0,e2,e3,e4,c',mo,w1,w2,p6,je,jj,go_sem,↓reduceIte,Nat.reduceEqDiff,Nat.reduceBEq,Nat.reduceAdd,Nat.reduceSub,Nat.reduceLT,Nat.reduceLeDiff,Int.reduceLT,Int.reduceLE,Int.reduceEq,Int.reduceToNat]
    repeat' (
      first | refine q5z ?_ ?_ | refine q3z ?_ ?_ | refine q4z ?_ ?_
      all_goals intro ai
      all_goals first | replace ai:=q2z ai | replace ai:=q1z ai | skip
      all_goals first | subst ai | replace au:=And.intro ai au
      all_goals try simp only[au,e20,e0,e2,e3,e4,c',mo,w1,w2,p6,je,jj,go_sem,↓reduceIte,Nat.reduceEqDiff,Nat.reduceBEq,Nat.reduceAdd,Nat.reduceSub,Nat.reduceLT,Nat.reduceLeDiff,Int.reduceLT,Int.reduceLE,Int.reduceEq,Int.reduceToNat])
    all_goals exact ⟨8 - (i+1),by omega,i+1,k',x',rfl,by omega,rfl,rfl,hold _ _ (by omega) cI,hold _ _ (by omega) cS,xr',fw',lX,dp⟩
   ·have c':¬(i:Int)< 8:=by omega
    have:i=8:=by omega
    have au:(0:Nat)=0:=rfl
    try simp only[e20,e0,e2,e3,e4,c',go_sem,↓reduceIte,Nat.reduceEqDiff,Nat.reduceBEq,Nat.reduceAdd,Nat.reduceSub,Nat.reduceLT,Nat.reduceLeDiff,Int.reduceLT,Int.reduceLE,Int.reduceEq,Int.reduceToNat]
    repeat' (
      first | refine q5z ?_ ?_ | refine q3z ?_ ?_ | refine q4z ?_ ?_
      all_goals intro ai
      all_goals first | replace ai:=q2z ai | replace ai:=q1z ai | skip
      all_goals first | subst ai | replace au:=And.intro ai au
      all_goals try simp only[au,e20,e0,e2,e3,e4,c',go_sem,↓reduceIte,Nat.reduceEqDiff,Nat.reduceBEq,Nat.reduceAdd,Nat.reduceSub,Nat.reduceLT,Nat.reduceLeDiff,Int.reduceLT,Int.reduceLE,Int.reduceEq,Int.reduceToNat])
    all_goals (subst this;exact ⟨y,rfl,cI,cS,xr.BR,fw⟩)
  ·clear xr fw hk hlH cI cS e4 y k
   rintro e H ⟨y,e0,e2,e3,e4,cI,cS,br,fw⟩
   have sI:cT l=fQ (dz (k7 (fj l) ((fj l).length / 8)) 8) 16:=rfl
   have Q3:=sA l
   obtain ⟨N,hN⟩:∃N,(fj l).length / 8=N:=⟨_,rfl⟩
   have hlP:=oC l
   have hpd:fO l.length < 8:=by unfold fO;omega
   generalize fj l=P at Q3 hN hlP br sI
   rw[hN] at sI
   have hP8:P.length=8 * N:=by omega
   have l0:(0:Int)<((4:Nat):Int):=by decide
   have l3:(3:Int)<((4:Nat):Int):=by decide
   have au:(0:Nat)=0:=rfl
   try simp only[e0,e2,e3,e4,go_sem,↓reduceIte,Nat.reduceEqDiff,Nat.reduceBEq,Nat.reduceAdd,Nat.reduceSub,Nat.reduceLT,Nat.reduceLeDiff,Int.reduceLT,Int.reduceLE,Int.reduceEq,Int.reduceToNat]
   repeat' (
     first | refine q5z ?_ ?_ | refine q3z ?_ ?_ | refine q4z ?_ ?_
     all_goals intro ai
     all_goals first | replace ai:=q2z ai | replace ai:=q1z ai | skip
     all_goals first | subst ai | replace au:=And.intro ai au
     all_goals try simp only[au,e0,e2,e3,e4,go_sem,↓reduceIte,Nat.reduceEqDiff,Nat.reduceBEq,Nat.reduceAdd,Nat.reduceSub,Nat.reduceLT,Nat.reduceLeDiff,Int.reduceLT,Int.reduceLE,Int.reduceEq,Int.reduceToNat])
   refine bo (fun m e H=>∃i y,m=N - i∧i≤N∧e 2= .ptr h.length [0] 1∧e 3= .ptr (h.length+1) [0] 1∧e 4=y∧H[h.length]? =some (.cells (some 22) [.arr 22 fI])∧H[h.length+1]? =some (.cells (some 147) [.arr 147 (k7 P i).vs])∧BR H y (P.drop (8 * i))∧Fw [] h H)
     (fun e H=> e 2= .ptr h.length [0] 1∧e 3= .ptr (h.length+1) [0] 1∧H[h.length]? =some (.cells (some 22) [.arr 22 fI])∧H[h.length+1]? =some (.cells (some 147) [.arr 147 (k7 P N).vs])∧Fw [] h H)
     N _ _ ⟨0,y,rfl,by omega,e2,e3,e4,cI,cS,by simpa using br,fw⟩ ?_ ?_
   ·clear br cI cS fw e4 y
    rintro m e H ⟨i,y,rfl,hi,e2,e3,e4,cI,cS,br,fw⟩
    have mo:=fun cf base=> br.bG (cf:=cf) (base:=base) (h:=H)
    have AG:(P.drop (8 * i)).length=8 *(N - i):=by rw[acI];omega
    rw[AG] at mo
    by_cases c:i < N
    ·have c':(0:Int)<((8 *(N - i):Nat):Int):=by omega
     have DS:k7 P (i+1)=QY (k7 P i) (P.drop (8 * i)):=rfl
     have hd8:P.drop (8 *(i+1))=(P.drop (8 * i)).drop 8:=by rw[acy];congr 1
     generalize P.drop (8 * i)=d at br AG DS hd8
     generalize k7 P i=X at cS DS
     have pd:=Ie h.length H y d br (by omega)
     have oF:∀c,(H.set (h.length+1) c)[h.length+1]? =some c:=fun c=> q9z cS
     have p7:∀c,(H.set (h.length+1) c)[h.length]? =some (.cells (some 22) [.arr 22 fI]):=fun c=> by rw[abM (by omega)];exact cI
     have k9:∀c,Fw [] h (H.set (h.length+1) c):=fun c=> fw.bX (by omega) c
     have Ii:∀c,BR (H.set (h.length+1) (.cells (some 147) c)) y d:=fun c=> br.mono (Fw.set (S:=[h.length+1]) (by simp) cS)
     obtain ⟨y4,hy4,br4⟩:=(Ii [.arr 147 [.s (.int .u32 (xr X.a (nO d):Nat)),.s (.int .u32 X.b),.s (.int .u32 X.c),.s (.int .u32 X.d)]]).lo (k:= .i64) (r:=4) (by omega)
     have hy4:∀cf base,aB cf base (H.set (h.length+1) (.cells (some 147) [.arr 147 [.s (.int .u32 (xr X.a (nO d):Nat)),.s (.int .u32 X.b),.s (.int .u32 X.c),.s (.int .u32 X.d)]])) (.jX none true false false) [y,.s (.int .i64 4)]=some (y4,_):=hy4
     have Cp:=Ie h.length _ y4 (d.drop 4) br4 (by rw[acI];omega)
     have AH:=cS
     simp only[W.vs] at AH
     have au:(0:Nat)=0:=rfl
     try simp only[e2,e3,e4,mo,c',pd,AH,oF,l0,l3,ye,hy4,Cp,fF,go_sem,↓reduceIte,Nat.reduceEqDiff,Nat.reduceBEq,Nat.reduceAdd,Nat.reduceSub,Nat.reduceLT,Nat.reduceLeDiff,Int.reduceLT,Int.reduceLE,Int.reduceEq,Int.reduceToNat]
     repeat' (
       first | refine q5z ?_ ?_ | refine q3z ?_ ?_ | refine q4z ?_ ?_
       all_goals intro ai
       all_goals first | replace ai:=q2z ai | replace ai:=q1z ai | skip
       all_goals first | subst ai | replace au:=And.intro ai au
       all_goals try simp only[au,e2,e3,e4,mo,c',pd,AH,oF,l0,l3,ye,hy4,Cp,fF,go_sem,↓reduceIte,Nat.reduceEqDiff,Nat.reduceBEq,Nat.reduceAdd,Nat.reduceSub,Nat.reduceLT,Nat.reduceLeDiff,Int.reduceLT,Int.reduceLE,Int.reduceEq,Int.reduceToNat])
     obtain ⟨W1,hW1⟩:∃W1:W,(⟨xr X.a (nO d),X.b,X.c,xr X.d (nO (d.drop 4))⟩:W)=W1:=⟨_,rfl⟩
     have Q4:k7 P (i+1)=dz W1 3:=by rw[DS,←hW1];rfl
     refine bo (fun m e H'=>∃j,m=3 - j∧j≤3∧e 52= .s (.int .i64 (j:Nat))∧e 2= .ptr h.length [0] 1∧e 3= .ptr (h.length+1) [0] 1∧e 4=y∧H'=H.set (h.length+1) (.cells (some 147) [.arr 147 (dz W1 j).vs]))
       (fun e H'=> e 2= .ptr h.length [0] 1∧e 3= .ptr (h.length+1) [0] 1∧e 4=y∧H'=H.set (h.length+1) (.cells (some 147) [.arr 147 (dz W1 3).vs]))
       3 _ _ ⟨0,rfl,by omega,rfl,e2,e3,e4,by rw[←hW1];rfl⟩ ?_ ?_
     ·rintro m e H' ⟨j,rfl,hj,e52,e2,e3,e4,hH'⟩
      by_cases c:j < 3
      ·have c':(j:Int)< 3:=by omega
       have ba:=Cn h.length H' (h.length+1) (dz W1 j) (by rw[hH'];exact oF _)
       have p8:H'.set (h.length+1) (.cells (some 147) [.arr 147 (iu (dz W1 j)).vs])=H.set (h.length+1) (.cells (some 147) [.arr 147 (dz W1 (j+1)).vs]):=by rw[hH',acM];rfl
       rw[p8] at ba
       have jj:IntKind.i64.wrap ((j:Int)+1)=((j+1:Nat):Int):=q17z (by omega)
       have au:(0:Nat)=0:=rfl
       try simp only[e52,e2,e3,e4,c',ba,jj,go_sem,↓reduceIte,Nat.reduceEqDiff,Nat.reduceBEq,Nat.reduceAdd,Nat.reduceSub,Nat.reduceLT,Nat.reduceLeDiff,Int.reduceLT,Int.reduceLE,Int.reduceEq,Int.reduceToNat]
       repeat' (
         first | refine q5z ?_ ?_ | refine q3z ?_ ?_ | refine q4z ?_ ?_
         all_goals intro ai
         all_goals first | replace ai:=q2z ai | replace ai:=q1z ai | skip
         all_goals first | subst ai | replace au:=And.intro ai au
         all_goals try simp only[au,e52,e2,e3,e4,c',ba,jj,go_sem,↓reduceIte,Nat.reduceEqDiff,Nat.reduceBEq,Nat.reduceAdd,Nat.reduceSub,Nat.reduceLT,Nat.reduceLeDiff,Int.reduceLT,Int.reduceLE,Int.reduceEq,Int.reduceToNat])
       all_goals exact ⟨3 - (j+1),by omega,j+1,rfl,by omega,rfl,rfl⟩
      ·have c':¬(j:Int)< 3:=by omega
       have:j=3:=by omega
       subst this
       have au:(0:Nat)=0:=rfl
       try simp only[e52,e2,e3,e4,c',go_sem,↓reduceIte,Nat.reduceEqDiff,Nat.reduceBEq,Nat.reduceAdd,Nat.reduceSub,Nat.reduceLT,Nat.reduceLeDiff,Int.reduceLT,Int.reduceLE,Int.reduceEq,Int.reduceToNat]
       repeat' (
         first | refine q5z ?_ ?_ | refine q3z ?_ ?_ | refine q4z ?_ ?_
         all_goals intro ai
         all_goals first | replace ai:=q2z ai | replace ai:=q1z ai | skip
         all_goals first | subst ai | replace au:=And.intro ai au
         all_goals try simp only[au,e52,e2,e3,e4,c',go_sem,↓reduceIte,Nat.reduceEqDiff,Nat.reduceBEq,Nat.reduceAdd,Nat.reduceSub,Nat.reduceLT,Nat.reduceLeDiff,Int.reduceLT,Int.reduceLE,Int.reduceEq,Int.reduceToNat])
       all_goals exact hH'
     ·rintro e H' ⟨e2,e3,e4,hH'⟩
      obtain ⟨y8,hy8,br8⟩:=(Ii [.arr 147 (dz W1 3).vs]).lo (k:= .i64) (r:=8) (by omega)
      have hy8:∀cf base,aB cf base H' (.jX none true false false) [y,.s (.int .i64 8)]=some (y8,H'):=by rw[hH'];exact hy8
      rw[←hH'] at br8
      have au:(0:Nat)=0:=rfl
      try simp only[e2,e3,e4,hy8,go_sem,↓reduceIte,Nat.reduceEqDiff,Nat.reduceBEq,Nat.reduceAdd,Nat.reduceSub,Nat.reduceLT,Nat.reduceLeDiff,Int.reduceLT,Int.reduceLE,Int.reduceEq,Int.reduceToNat]
      repeat' (
        first | refine q5z ?_ ?_ | refine q3z ?_ ?_ | refine q4z ?_ ?_
        all_goals intro ai
        all_goals first | replace ai:=q2z ai | replace ai:=q1z ai | skip
        all_goals first | subst ai | replace au:=And.intro ai au
        all_goals try simp only[au,e2,e3,e4,hy8,go_sem,↓reduceIte,Nat.reduceEqDiff,Nat.reduceBEq,Nat.reduceAdd,Nat.reduceSub,Nat.reduceLT,Nat.reduceLeDiff,Int.reduceLT,Int.reduceLE,Int.reduceEq,Int.reduceToNat])
      all_goals exact ⟨N - (i+1),by omega,i+1,y8,rfl,by omega,rfl,by rw[hH'];exact p7 _,by rw[hH',Q4];exact oF _,by rw[hd8];exact br8,by rw[hH'];exact k9 _⟩
    ·have c':¬(0:Int)<((8 *(N - i):Nat):Int):=by omega
     have:i=N:=by omega
     have au:(0:Nat)=0:=rfl
     try simp only[e2,e3,e4,mo,c',go_sem,↓reduceIte,Nat.reduceEqDiff,Nat.reduceBEq,Nat.reduceAdd,Nat.reduceSub,Nat.reduceLT,Nat.reduceLeDiff,Int.reduceLT,Int.reduceLE,Int.reduceEq,Int.reduceToNat]
     repeat' (
       first | refine q5z ?_ ?_ | refine q3z ?_ ?_ | refine q4z ?_ ?_
       all_goals intro ai
       all_goals first | replace ai:=q2z ai | replace ai:=q1z ai | skip
       all_goals first | subst ai | replace au:=And.intro ai au
       all_goals try simp only[au,e2,e3,e4,mo,c',go_sem,↓reduceIte,Nat.reduceEqDiff,Nat.reduceBEq,Nat.reduceAdd,Nat.reduceSub,Nat.reduceLT,Nat.reduceLeDiff,Int.reduceLT,Int.reduceLE,Int.reduceEq,Int.reduceToNat])
     all_goals (subst this;exact ⟨cI,cS,fw⟩)
   ·clear br cI cS fw e4 y
    rintro e H ⟨e2,e3,cI,cS,fw⟩
    have hXok:=wN P N
    generalize k7 P N=X at cS sI hXok
    have oF:∀c,(H.set (h.length+1) c)[h.length+1]? =some c:=fun c=> q9z cS
    have p7:∀c,(H.set (h.length+1) c)[h.length]? =some (.cells (some 22) [.arr 22 fI]):=fun c=> by rw[abM (by omega)];exact cI
    have k9:∀c,Fw [] h (H.set (h.length+1) c):=fun c=> fw.bX (by omega) c
    have au:(0:Nat)=0:=rfl
    try simp only[e2,e3,go_sem,↓reduceIte,Nat.reduceEqDiff,Nat.reduceBEq,Nat.reduceAdd,Nat.reduceSub,Nat.reduceLT,Nat.reduceLeDiff,Int.reduceLT,Int.reduceLE,Int.reduceEq,Int.reduceToNat]
    repeat' (
      first | refine q5z ?_ ?_ | refine q3z ?_ ?_ | refine q4z ?_ ?_
      all_goals intro ai
      all_goals first | replace ai:=q2z ai | replace ai:=q1z ai | skip
      all_goals first | subst ai | replace au:=And.intro ai au
      all_goals try simp only[au,e2,e3,go_sem,↓reduceIte,Nat.reduceEqDiff,Nat.reduceBEq,Nat.reduceAdd,Nat.reduceSub,Nat.reduceLT,Nat.reduceLeDiff,Int.reduceLT,Int.reduceLE,Int.reduceEq,Int.reduceToNat])
    refine bo (fun m e H'=>∃j,m=8 - j∧j≤8∧e 56= .s (.int .i64 (j:Nat))∧e 2= .ptr h.length [0] 1∧e 3= .ptr (h.length+1) [0] 1∧H'[h.length]? =some (.cells (some 22) [.arr 22 fI])∧H'[h.length+1]? =some (.cells (some 147) [.arr 147 (dz X j).vs])∧Fw [] h H')
      (fun e H'=> e 2= .ptr h.length [0] 1∧e 3= .ptr (h.length+1) [0] 1∧H'[h.length]? =some (.cells (some 22) [.arr 22 fI])∧H'[h.length+1]? =some (.cells (some 147) [.arr 147 (dz X 8).vs])∧Fw [] h H')
      8 _ _ ⟨0,rfl,by omega,rfl,e2,e3,cI,cS,fw⟩ ?_ ?_
    ·clear oF p7 k9 cI cS fw
     rintro m e H' ⟨j,rfl,hj,e56,e2,e3,cI,cS,fw⟩
     by_cases c:j < 8
     ·have c':(j:Int)< 8:=by omega
      have ba:=Cn h.length H' (h.length+1) (dz X j) cS
      have oF:=q9z cS (b:= .cells (some 147) [.arr 147 (dz X (j+1)).vs])
      have p7:(H'.set (h.length+1) (.cells (some 147) [.arr 147 (dz X (j+1)).vs]))[h.length]? =some (.cells (some 22) [.arr 22 fI]):=by rw[abM (by omega)];exact cI
      have k9:Fw [] h (H'.set (h.length+1) (.cells (some 147) [.arr 147 (dz X (j+1)).vs])):=fw.bX (by omega) _
      have ba:run pW AE h.length 103 [.ptr (h.length+1) [0] 1] H'=some (.bM [],H'.set (h.length+1) (.cells (some 147) [.arr 147 (dz X (j+1)).vs])):=ba
      have jj:IntKind.i64.wrap ((j:Int)+1)=((j+1:Nat):Int):=q17z (by omega)
      have au:(0:Nat)=0:=rfl
      try simp only[e56,e2,e3,c',ba,jj,go_sem,↓reduceIte,Nat.reduceEqDiff,Nat.reduceBEq,Nat.reduceAdd,Nat.reduceSub,Nat.reduceLT,Nat.reduceLeDiff,Int.reduceLT,Int.reduceLE,Int.reduceEq,Int.reduceToNat]
      repeat' (
        first | refine q5z ?_ ?_ | refine q3z ?_ ?_ | refine q4z ?_ ?_
        all_goals intro ai
        all_goals first | replace ai:=q2z ai | replace ai:=q1z ai | skip
        all_goals first | subst ai | replace au:=And.intro ai au
        all_goals try simp only[au,e56,e2,e3,c',ba,jj,go_sem,↓reduceIte,Nat.reduceEqDiff,Nat.reduceBEq,Nat.reduceAdd,Nat.reduceSub,Nat.reduceLT,Nat.reduceLeDiff,Int.reduceLT,Int.reduceLE,Int.reduceEq,Int.reduceToNat])
      all_goals exact ⟨8 - (j+1),by omega,j+1,rfl,by omega,rfl,p7,oF,k9⟩
     ·have c':¬(j:Int)< 8:=by omega
      have:j=8:=by omega
      subst this
      have au:(0:Nat)=0:=rfl
      try simp only[e56,e2,e3,c',go_sem,↓reduceIte,Nat.reduceEqDiff,Nat.reduceBEq,Nat.reduceAdd,Nat.reduceSub,Nat.reduceLT,Nat.reduceLeDiff,Int.reduceLT,Int.reduceLE,Int.reduceEq,Int.reduceToNat]
      repeat' (
        first | refine q5z ?_ ?_ | refine q3z ?_ ?_ | refine q4z ?_ ?_
        all_goals intro ai
        all_goals first | replace ai:=q2z ai | replace ai:=q1z ai | skip
        all_goals first | subst ai | replace au:=And.intro ai au
        all_goals try simp only[au,e56,e2,e3,c',go_sem,↓reduceIte,Nat.reduceEqDiff,Nat.reduceBEq,Nat.reduceAdd,Nat.reduceSub,Nat.reduceLT,Nat.reduceLeDiff,Int.reduceLT,Int.reduceLE,Int.reduceEq,Int.reduceToNat])
      all_goals exact ⟨cI,cS,fw⟩
    ·clear oF p7 k9 cI cS fw
     rintro e H ⟨e2,e3,cI,cS,fw⟩
     have hYok:=sx hXok 8
     generalize dz X 8=Y at cS sI hYok
     have au:(0:Nat)=0:=rfl
     try simp only[e2,e3,go_sem,↓reduceIte,Nat.reduceEqDiff,Nat.reduceBEq,Nat.reduceAdd,Nat.reduceSub,Nat.reduceLT,Nat.reduceLeDiff,Int.reduceLT,Int.reduceLE,Int.reduceEq,Int.reduceToNat]
     repeat' (
       first | refine q5z ?_ ?_ | refine q3z ?_ ?_ | refine q4z ?_ ?_
       all_goals intro ai
       all_goals first | replace ai:=q2z ai | replace ai:=q1z ai | skip
       all_goals first | subst ai | replace au:=And.intro ai au
       all_goals try simp only[au,e2,e3,go_sem,↓reduceIte,Nat.reduceEqDiff,Nat.reduceBEq,Nat.reduceAdd,Nat.reduceSub,Nat.reduceLT,Nat.reduceLeDiff,Int.reduceLT,Int.reduceLE,Int.reduceEq,Int.reduceToNat])
     have iO:h.length+1 < H.length:=q6z cS
     have hT:(H++[aT.cells (some 22) [.arr 22 fI]])[H.length]? =_:=aS H [aT.cells (some 22) [.arr 22 fI]]
     obtain ⟨o,ho⟩:∃o,H.length=o:=⟨_,rfl⟩
     have abh:fI=(fQ Y 0++List.replicate 16 0).map aa:=rfl
     refine bo (fun m e H'=>∃i,m=16 - i∧i≤16∧e 60= .s (.int .i64 (i:Nat))∧e 2= .ptr h.length [0] 1∧e 3= .ptr (h.length+1) [0] 1∧e 6= .ptr o [0] 1∧H'[h.length]? =some (.cells (some 22) [.arr 22 fI])∧H'[h.length+1]? =some (.cells (some 147) [.arr 147 Y.vs])∧H'[o]? =some (.cells (some 22) [.arr 22 ((fQ Y i++List.replicate (16 - i) 0).map aa)])∧Fw [] h H')
       (fun e H'=> e 2= .ptr h.length [0] 1∧e 6= .ptr o [0] 1∧H'[h.length]? =some (.cells (some 22) [.arr 22 fI])∧H'[o]? =some (.cells (some 22) [.arr 22 ((fQ Y 16).map aa)])∧Fw [] h H')
       16 _ _ ⟨0,rfl,by omega,rfl,e2,e3,by rw[←ho];rfl,q10z cI _,q10z cS _,by rw[←ho];exact hT,fw.trans (Fw.app _ _ _)⟩ ?_ ?_
     ·clear hT cI cS fw
      rintro m e H' ⟨i,rfl,hi,e60,e2,e3,e6,cI,cS,oH,fw⟩
      by_cases c:i < 16
      ·have c':(i:Int)< 16:=by omega
       have c16:(i:Int)<((16:Nat):Int):=by omega
       have i0:(0:Int)≤(i:Int):=by omega
       have hq:∀cf base h,aB cf base h (.bin .num .quo) [.s (.int .i64 i),.s (.int .i64 4)]=some (.s (.int .i64 ((i / 4:Nat):Int)),h):=fun cf base h=> by
         rw[Cq cf base h .i64 _ 4 (by omega),ac8 (by omega),wrap_i64 (by omega) (by omega)];rfl
       have hr:∀cf base h,aB cf base h (.bin .num .rem) [.s (.int .i64 i),.s (.int .i64 4)]=some (.s (.int .i64 ((i % 4:Nat):Int)),h):=fun cf base h=> by
         rw[vg cf base h .i64 _ 4 (by omega),ac7 (by omega)];rfl
       have w8:IntKind.i64.wrap (8 *((i % 4:Nat):Int))=((8 *(i % 4):Nat):Int):=by rw[wrap_i64 (by omega) (by omega)];omega
       have p6:∀cf base h,aB cf base h (.bin .num .shr) [.s (.int .u32 ((Y.at (i / 4):Nat):Int)),.s (.int .i64 ((8 *(i % 4):Nat):Int))]=some (.s (.int .u32 ((Y.at (i / 4)/ 2 ^(8 *(i % 4)):Nat):Int)),h):=fun cf base h=> by
         rw[sC cf base h .u32 .i64 _ _ (by omega),HX (by omega)]
       have hYv:Y.vs[i / 4]? =some (.s (.int .u32 ((Y.at (i / 4):Nat):Int))):=by
         have:i / 4=0∨i / 4=1∨i / 4=2∨i / 4=3:=by omega
         rcases this with h | h | h | h <;> rw[h]<;> rfl
       have hYl:Y.vs.length=4:=rfl
       have c4:((i / 4:Nat):Int)< 4:=by omega
       have c4':((i / 4:Nat):Int)<((4:Nat):Int):=by omega
       have j0:(0:Int)≤((i / 4:Nat):Int):=by omega
       have c4n:i / 4 < 4:=by omega
       have Aa:((fQ Y i++List.replicate (16 - i) 0).map aa).length=16:=by rw[abX,abI,iw,acr];omega
       obtain ⟨z,hz,hzt⟩:∃z,((fQ Y i++List.replicate (16 - i) 0).map aa)[i]? =some z∧z.ty=none:=by
         refine ⟨aa ((fQ Y i++List.replicate (16 - i) 0)[i]'(by rw[abX] at Aa;omega)),?_,rfl⟩
         rw[abT,abE (by rw[abX] at Aa;omega)];rfl
       have ba:((fQ Y i++List.replicate (16 - i) 0).map aa).set i (V.s (.int .u8 (IntKind.u8.wrap ((Y.at (i / 4)/ 2 ^(8 *(i % 4)):Nat):Int))))=(fQ Y (i+1)++List.replicate (16 - (i+1)) 0).map aa:=by
         rw[sD,←List.map_set,acn _ _ (by rw[iw];exact abJ _),iw,ad5,show 16 - i=(16 - (i+1))+1 by omega,ads,adl,fQ,abO]
         rfl
       generalize (fQ Y i++List.replicate (16 - i) 0).map aa=vs at oH Aa hz ba
       have Z8:h.length+1≠o:=by omega
       have Z9:h.length≠o:=by omega
       have n0:(H'.set o (.cells (some 22) [.arr 22 ((fQ Y (i+1)++List.replicate (16 - (i+1)) 0).map aa)]))[h.length]? =some (.cells (some 22) [.arr 22 fI]):=by rw[abM (by omega)];exact cI
       have n1:(H'.set o (.cells (some 22) [.arr 22 ((fQ Y (i+1)++List.replicate (16 - (i+1)) 0).map aa)]))[h.length+1]? =some (.cells (some 147) [.arr 147 Y.vs]):=by rw[abM (by omega)];exact cS
       have n2:=q9z oH (b:= .cells (some 22) [.arr 22 ((fQ Y (i+1)++List.replicate (16 - (i+1)) 0).map aa)])
       have nf:Fw [] h (H'.set o (.cells (some 22) [.arr 22 ((fQ Y (i+1)++List.replicate (16 - (i+1)) 0).map aa)])):=fw.bX (by omega) _
       have jj:IntKind.i64.wrap ((i:Int)+1)=((i+1:Nat):Int):=q17z (by omega)
       have au:(0:Nat)=0:=rfl
       try simp only[e60,e2,e3,e6,c',c16,i0,hq,hr,w8,p6,hYv,hYl,c4,c4',j0,c4n,Aa,hz,hzt,ba,cI,cS,oH,fF,jj,aca,go_sem,↓reduceIte,Nat.reduceEqDiff,Nat.reduceBEq,Nat.reduceAdd,Nat.reduceSub,Nat.reduceLT,Nat.reduceLeDiff,Int.reduceLT,Int.reduceLE,Int.reduceEq,Int.reduceToNat]
       repeat' (
         first | refine q5z ?_ ?_ | refine q3z ?_ ?_ | refine q4z ?_ ?_
         all_goals intro ai
         all_goals first | replace ai:=q2z ai | replace ai:=q1z ai | skip
         all_goals first | subst ai | replace au:=And.intro ai au
         all_goals try simp only[au,e60,e2,e3,e6,c',c16,i0,hq,hr,w8,p6,hYv,hYl,c4,c4',j0,c4n,Aa,hz,hzt,ba,cI,cS,oH,fF,jj,aca,go_sem,↓reduceIte,Nat.reduceEqDiff,Nat.reduceBEq,Nat.reduceAdd,Nat.reduceSub,Nat.reduceLT,Nat.reduceLeDiff,Int.reduceLT,Int.reduceLE,Int.reduceEq,Int.reduceToNat])
       all_goals exact ⟨16 - (i+1),by omega,i+1,rfl,by omega,rfl,n0,n1,n2,nf⟩
      ·have c':¬(i:Int)< 16:=by omega
       have:i=16:=by omega
       subst this
       rw[ad5,aen,ab8] at oH
       have au:(0:Nat)=0:=rfl
       try simp only[e60,e2,e3,e6,c',go_sem,↓reduceIte,Nat.reduceEqDiff,Nat.reduceBEq,Nat.reduceAdd,Nat.reduceSub,Nat.reduceLT,Nat.reduceLeDiff,Int.reduceLT,Int.reduceLE,Int.reduceEq,Int.reduceToNat]
       repeat' (
         first | refine q5z ?_ ?_ | refine q3z ?_ ?_ | refine q4z ?_ ?_
         all_goals intro ai
         all_goals first | replace ai:=q2z ai | replace ai:=q1z ai | skip
         all_goals first | subst ai | replace au:=And.intro ai au
         all_goals try simp only[au,e60,e2,e3,e6,c',go_sem,↓reduceIte,Nat.reduceEqDiff,Nat.reduceBEq,Nat.reduceAdd,Nat.reduceSub,Nat.reduceLT,Nat.reduceLeDiff,Int.reduceLT,Int.reduceLE,Int.reduceEq,Int.reduceToNat])
       all_goals exact ⟨cI,oH,fw⟩
     ·clear hT cI cS fw
      rintro e H' ⟨e2,e6,cI,oH,fw⟩
      have dQ:∀c,(H'.set h.length c).take h.length=h:=fun c=>(fw.bX (abJ _) c).take
      have oF:∀c,(H'.set h.length c)[h.length]? =some c:=fun c=> q9z cI
      rw[←sI] at oH
      have hlen:=bO l
      have df:∀n h,bD.all n h ((cT l).map aa)=some ((cT l).map aa):=fun n h=> sE n h (cT l)
      generalize (cT l).map aa=ws at oH df
      have au:(0:Nat)=0:=rfl
      try simp only[e2,e6,cI,oH,dQ,oF,fF,df,go_sem,↓reduceIte,Nat.reduceEqDiff,Nat.reduceBEq,Nat.reduceAdd,Nat.reduceSub,Nat.reduceLT,Nat.reduceLeDiff,Int.reduceLT,Int.reduceLE,Int.reduceEq,Int.reduceToNat]
      repeat' (
        first | refine q5z ?_ ?_ | refine q3z ?_ ?_ | refine q4z ?_ ?_
        all_goals intro ai
        all_goals first | replace ai:=q2z ai | replace ai:=q1z ai | skip
        all_goals first | subst ai | replace au:=And.intro ai au
        all_goals try simp only[au,e2,e6,cI,oH,dQ,oF,fF,df,go_sem,↓reduceIte,Nat.reduceEqDiff,Nat.reduceBEq,Nat.reduceAdd,Nat.reduceSub,Nat.reduceLT,Nat.reduceLeDiff,Int.reduceLT,Int.reduceLE,Int.reduceEq,Int.reduceToNat])
theorem DT {c:Ctx} {w:World} {vs:List V} {us:List Value} {h:Hp} {v:V} {h':Hp} (hr:yg vs h=some (v,h')) (hv:fW (ak Tryz.prog) c vs us) (hs:bj (ak Tryz.prog) c h w):fe Tryz.prog (ak Tryz.prog) c w 55 us v h':=by
 unfold yg at hr
 split at hr
 case h_2=> cases hr
 rename_i x
 split at hr
 case h_2=> cases hr
 rename_i es he
 split at hr
 case h_2=> cases hr
 rename_i l hb
 split at hr
 case isFalse=> cases hr
 rename_i hl
 cases hr
 have Ii:Rd h x l:=Rd.mk' (by rw[he,hl.1]) hl.2.1
 exact ((u9 oB LS QZ Q0 0 _ _ _ _ _ (Q2 0 h x l Ii hl.2.2)).2 c w us hv hs)
end Go.Proofs.YtggjbepemdhohaaGreat
namespace Go.Cl
open Go.Vm
abbrev aE (n:Nat):Bs:=(List.range 8).map fun i=> UInt8.ofNat (n / 256 ^(7 - i) % 256)
theorem aF (n:Nat):(aE n).length=8:=by simp[aE]
end Go.Cl
namespace Go.Proofs.YtggjbepemdhohaaGreat
open Go Go.Vm Go.Proofs Go.Cl
set_option maxRecDepth 100000
def rB (n j:Nat):List V:=((aE n).take j).map aa++List.replicate (8 - j) (.s (.int .u8 0))
theorem DU (n:Nat):rB n 0=[.s (.int .u8 0),.s (.int .u8 0),.s (.int .u8 0),.s (.int .u8 0),.s (.int .u8 0),.s (.int .u8 0),.s (.int .u8 0),.s (.int .u8 0)]:=by simp[rB]
theorem Ij (n j:Nat) (hj:j≤8):(rB n j).length=8:=by simp[rB];omega
theorem Ik (n:Nat):rB n 8=(aE n).map aa:=by
 unfold rB
 rw[abG (by rw[aF];omega)]
 exact ab8 _
theorem DV (n j:Nat) (hj:j < 8):(rB n j).set j (aa (UInt8.ofNat (n / 256 ^(7 - j) % 256)))=rB n (j+1):=by
 have:j=0∨j=1∨j=2∨j=3∨j=4∨j=5∨j=6∨j=7:=by omega
 rcases this with rfl | rfl | rfl | rfl | rfl | rfl | rfl | rfl <;> simp[rB,aE,adt,List.replicate]
theorem Il (n j:Nat) (hj:j < 8):∃o,(rB n j)[j]? =some (.s o):=by
 have:j=0∨j=1∨j=2∨j=3∨j=4∨j=5∨j=6∨j=7:=by omega
 rcases this with rfl | rfl | rfl | rfl | rfl | rfl | rfl | rfl <;> exact ⟨_,rfl⟩
theorem de (b:Nat) (h:Hp) (n:Nat) (hn:n < 18446744073709551616) (hb:b≤h.length):run fns pr b 99 [.s (.int .u64 n)] h=some (.ref h.length [] none 0 8 8,h++[.cells none ((aE n).map aa)]):=by
 refine Vm.runN (nt:=22) rfl WC (by simp) ?_
 have au:(0:Nat)=0:=rfl
 try simp only[B99,Hj,Hi,go_sem,↓reduceIte,Nat.reduceEqDiff,Nat.reduceBEq,Nat.reduceAdd,Nat.reduceSub,Nat.reduceLT,Nat.reduceLeDiff,Int.reduceLT,Int.reduceLE,Int.reduceEq,Int.reduceToNat]
 repeat' (
   first | refine q5z ?_ ?_ | refine q3z ?_ ?_ | refine q4z ?_ ?_
   all_goals intro ai
   all_goals first | replace ai:=q2z ai | replace ai:=q1z ai | skip
   all_goals first | subst ai | replace au:=And.intro ai au
   all_goals try simp only[au,B99,Hj,Hi,go_sem,↓reduceIte,Nat.reduceEqDiff,Nat.reduceBEq,Nat.reduceAdd,Nat.reduceSub,Nat.reduceLT,Nat.reduceLeDiff,Int.reduceLT,Int.reduceLE,Int.reduceEq,Int.reduceToNat])
 refine bo (fun m e H=>∃j,m=8 - j∧j≤8∧e 8= .s (.int .i64 (j:Nat))∧e 7= .s (.int .i64 8)∧e 3= .ref h.length [] none 0 8 8∧e 0= .s (.int .u64 n)∧H=h++[.cells none (rB n j)])
   (fun e H=> e 3= .ref h.length [] none 0 8 8∧H=h++[.cells none (rB n 8)]) 8 _ _ ⟨0,rfl,by omega,rfl,rfl,rfl,rfl,by rw[DU];rfl⟩ ?_ ?_
 ·rintro m e H ⟨j,rfl,hj,e8,e7,e3,e0,rfl⟩
  have hl:=Ij n j hj
  by_cases c:j < 8
  ·have c':(j:Int)< 8:=by omega
   have w1:IntKind.i64.wrap (7 - (j:Int))=((7 - j:Nat):Int):=by rw[wrap_i64 (by omega) (by omega)];omega
   have w2:IntKind.i64.wrap (8 *((7 - j:Nat):Int))=((8 *(7 - j):Nat):Int):=by rw[wrap_i64 (by omega) (by omega)];omega
   have w3:IntKind.i64.wrap ((j:Int)+1)=((j+1:Nat):Int):=q17z (by omega)
   have hs:=fun cf base h=> sC (cf:=cf) (base:=base) (h:=h) .u64 .i64 (n:Int) ((8 *(7 - j):Nat):Int) (by omega)
   have s2:sw .u64 (n:Int) ((8 *(7 - j):Nat):Int)=_:=OC (a:=n) (k:=8 *(7 - j)) (by omega)
   have hp:2 ^(8 *(7 - j))=256 ^(7 - j):=by rw[Nat.pow_mul]
   rw[hp] at s2
   have ba:=DV n j c
   obtain ⟨o,ho⟩:=Il n j c
   have cc:(0≤(j:Int)∧(j:Int)<((8:Nat):Int)∧j < 8)=True:=by simp;omega
   have so:(aa (UInt8.ofNat (n / 256 ^(7 - j) % 256))).aw=true:=rfl
   have to:(aa (UInt8.ofNat (n / 256 ^(7 - j) % 256))).ty=none:=rfl
   have gr:(aa (UInt8.ofNat (n / 256 ^(7 - j) % 256))).ground=true:=rfl
   have au:(0:Nat)=0:=rfl
   try simp only[e8,e7,e3,e0,c',w1,w2,w3,hs,s2,sD,hl,cc,ho,so,to,gr,ba,go_sem,↓reduceIte,Nat.reduceEqDiff,Nat.reduceBEq,Nat.reduceAdd,Nat.reduceSub,Nat.reduceLT,Nat.reduceLeDiff,Int.reduceLT,Int.reduceLE,Int.reduceEq,Int.reduceToNat]
   repeat' (
     first | refine q5z ?_ ?_ | refine q3z ?_ ?_ | refine q4z ?_ ?_
     all_goals intro ai
     all_goals first | replace ai:=q2z ai | replace ai:=q1z ai | skip
     all_goals first | subst ai | replace au:=And.intro ai au
     all_goals try simp only[au,e8,e7,e3,e0,c',w1,w2,w3,hs,s2,sD,hl,cc,ho,so,to,gr,ba,go_sem,↓reduceIte,Nat.reduceEqDiff,Nat.reduceBEq,Nat.reduceAdd,Nat.reduceSub,Nat.reduceLT,Nat.reduceLeDiff,Int.reduceLT,Int.reduceLE,Int.reduceEq,Int.reduceToNat])
   all_goals exact ⟨8 - (j+1),by omega,j+1,rfl,by omega,by simp_all⟩
  ·have c':¬(j:Int)< 8:=by omega
   have hj8:j=8:=by omega
   subst hj8
   have au:(0:Nat)=0:=rfl
   try simp only[e8,e7,e3,c',go_sem,↓reduceIte,Nat.reduceEqDiff,Nat.reduceBEq,Nat.reduceAdd,Nat.reduceSub,Nat.reduceLT,Nat.reduceLeDiff,Int.reduceLT,Int.reduceLE,Int.reduceEq,Int.reduceToNat]
   repeat' (
     first | refine q5z ?_ ?_ | refine q3z ?_ ?_ | refine q4z ?_ ?_
     all_goals intro ai
     all_goals first | replace ai:=q2z ai | replace ai:=q1z ai | skip
     all_goals first | subst ai | replace au:=And.intro ai au
     all_goals try simp only[au,e8,e7,e3,c',go_sem,↓reduceIte,Nat.reduceEqDiff,Nat.reduceBEq,Nat.reduceAdd,Nat.reduceSub,Nat.reduceLT,Nat.reduceLeDiff,Int.reduceLT,Int.reduceLE,Int.reduceEq,Int.reduceToNat])
   all_goals simp_all
 ·rintro e H ⟨e3,rfl⟩
  rw[Ik]
  have au:(0:Nat)=0:=rfl
  try simp only[e3,go_sem,↓reduceIte,Nat.reduceEqDiff,Nat.reduceBEq,Nat.reduceAdd,Nat.reduceSub,Nat.reduceLT,Nat.reduceLeDiff,Int.reduceLT,Int.reduceLE,Int.reduceEq,Int.reduceToNat]
  repeat' (
    first | refine q5z ?_ ?_ | refine q3z ?_ ?_ | refine q4z ?_ ?_
    all_goals intro ai
    all_goals first | replace ai:=q2z ai | replace ai:=q1z ai | skip
    all_goals first | subst ai | replace au:=And.intro ai au
    all_goals try simp only[au,e3,go_sem,↓reduceIte,Nat.reduceEqDiff,Nat.reduceBEq,Nat.reduceAdd,Nat.reduceSub,Nat.reduceLT,Nat.reduceLeDiff,Int.reduceLT,Int.reduceLE,Int.reduceEq,Int.reduceToNat])
theorem gQ (b:Nat) (h:Hp) (xs:List V):run fns pr b 89 xs h=dD xs h:=by rw[oG fns pr rfl];rfl
theorem wO (b:Nat) (h:Hp) (x:V) (l:Bs) (hr:Rd h x l) (hl:l.length≤1000000):run fns pr b 55 [x] h=some (.arr 22 ((cT l).map aa),h):=by
 rw[oG fns pr rfl];exact Cm hr hl
theorem Rd.source {h:Hp} {x:V} {l:Bs} (hr:Rd h x l):source h x=some (none,l.map aa):=by
 have:=hr.1 h (Fw.refl _ _)
 cases x <;> first | exact this | (simp[elems] at this)
theorem wP {cf:CF} {base:Nat} {H:Hp} {id:Nat} {l m:Bs} {y:V} (hg:H[id]? =some (.cells none (l.map aa))) (hs:source H y=some (none,m.map aa)) (hl:l.length+m.length≤140737488355328):
 aB cf base H (.app none 1) [.ref id [] none 0 l.length l.length,y]=some (.ref id [] none 0 (l.length+m.length) (l.length+m.length),H.set id (.cells none ((l++m).map aa))):=by
 by_cases hm:m=[]
 ·subst hm
  rw[ab8,jk hs (n:=l.length) rfl]
  rw[kE hg];simp
 ·have da:m.map aa≠[]:=by simpa using hm
  have:=gR (cf:=cf) (base:=base) (bytes:=1) hg hs da (fun y hy=> by
    obtain ⟨b,_,rfl⟩:=acF.1 hy
    simp[bT,aa,V.ground]) (by simpa using hl)
  simpa using this
def cW (k l:Bs):Bs:=cT (k++l)
theorem mz (b:Nat) (h:Hp) (x:V) (k l:Bs) (hk:k.length=16) (hr:Rd h x l) (hl:l.length≤900000):run fns pr b 44 [.arr 22 (k.map aa),x] h=some (.arr 22 ((cW k l).map aa),h):=by
 refine Vm.aQ (nt:=10) rfl UT (by simp) ?_
 have dq:(k.map aa).length=16:=by simp[hk]
 have hk0:k≠[]:=by intro e;rw[e] at hk;cases hk
 have bZ:elems (h++[aT.cells (some 22) [V.arr 22 (k.map aa)],aT.cells (some 22) [aK 22]]) (.ref h.length [0] none 0 16 1)=some (none,k.map aa):=by
   simp only[bQ,go_sem,simprocAttr,abO,abI,Vm.aJ,Vm.bx,Vm.aZ,Vm.aU,Vm.bc,Vm.aX,abJ,ab2,cQ,acg,abG (ac4 dq)]
 have my:=p9 bZ (by omega)
 simp only[cv,ct,hk0,if_false,hk,abI,ab3,aci] at my
 generalize hGd:h++[aT.cells (some 22) [V.arr 22 (k.map aa)],aT.cells (some 22) [aK 22]]=G at my
 have hG:G.length=h.length+2:=by rw[←hGd];simp
 have fG:Fw [] h (G++[aT.cells none (k.map aa)]):=by rw[←hGd,abO];exact Fw.app [] h _
 have je:=fun cf base=> wP (cf:=cf) (base:=base) (H:=G++[aT.cells none (k.map aa)]) (id:=h.length+2) (l:=k) (m:=l) (y:=x) (by rw[←hG];simp) (hr.fw fG).source (by omega)
 rw[hk] at je
 have p8:(G++[aT.cells none (k.map aa)]).set (h.length+2) (.cells none ((k++l).map aa))=G++[.cells none ((k++l).map aa)]:=by rw[←hG];simp
 rw[p8] at je
 have Ih:=fun b=> wO b (G++[.cells none ((k++l).map aa)]) (.ref (h.length+2) [] none 0 (16+l.length) (16+l.length)) (k++l) (BR.rd (ch (by rw[←hG];simp) (by simp[hk]))) (by simp;omega)
 have wQ:((cW k l).map aa).length=16:=by simp[cW,bO]
 have g0:G[h.length]? =some (.cells (some 22) [.arr 22 (k.map aa)]):=by rw[←hGd];exact (sG h _ _).1
 have g1:G[h.length+1]? =some (.cells (some 22) [aK 22]):=by rw[←hGd];exact (sG h _ _).2
 have g2:∀X,(G++X)[h.length+1]? =some (.cells (some 22) [aK 22]):=fun X=> by rw[acq (by omega)];exact g1
 have tk:∀X b,((G++X).set (h.length+1) b).take h.length=h:=fun X b=> by
   rw[ad4 (by omega),ab7 (by omega),←hGd,abL]
 have au:(0:Nat)=0:=rfl
 try simp only[B44,gQ,dq,hGd,my,je,Ih,g0,g1,g2,tk,wQ,q9z (g2 _),oI,cW,go_sem,simprocAttr]
 repeat' (
   first | refine q5z ?_ ?_ | refine q3z ?_ ?_ | refine q4z ?_ ?_
   all_goals intro ai
   all_goals first | replace ai:=q2z ai | replace ai:=q1z ai | skip
   all_goals first | subst ai | replace au:=And.intro ai au
   all_goals try simp only[au,B44,gQ,dq,hGd,my,je,Ih,g0,g1,g2,tk,wQ,q9z (g2 _),oI,cW,go_sem,simprocAttr])
theorem Im (b:Nat) (h:Hp) (k l:Bs) (hk:k.length=16) (hl:l.length=16):run fns pr b 54 [.arr 22 (k.map aa),.arr 22 (l.map aa)] h=some (.arr 22 ((cW k l).map aa),h):=by
 refine Vm.aQ (nt:=8) rfl Ve (by simp) ?_
 have mi:(l.map aa).length=16:=by simp[hl]
 have wQ:((cW k l).map aa).length=16:=by simp[cW,bO]
 have xX:=fun b=> mz b (h++[aT.cells (some 22) [V.arr 22 (k.map aa)],aT.cells (some 22) [V.arr 22 (l.map aa)],aT.cells (some 22) [aK 22]]) (.ref (h.length+1) [0] none 0 16 1) k l hk (Rd.mk' (by
   simp only[bQ,go_sem,simprocAttr,abO,abI,Vm.aJ,Vm.bx,Vm.aZ,Vm.aU,Vm.bc,Vm.aX,abJ,ab2,cQ,acg,abG (ac4 mi)]) (by simp[eM,hl])) (by omega)
 have au:(0:Nat)=0:=rfl
 try simp only[B54,mi,xX,wQ,oI,go_sem,simprocAttr]
 repeat' (
   first | refine q5z ?_ ?_ | refine q3z ?_ ?_ | refine q4z ?_ ?_
   all_goals intro ai
   all_goals first | replace ai:=q2z ai | replace ai:=q1z ai | skip
   all_goals first | subst ai | replace au:=And.intro ai au
   all_goals try simp only[au,B54,mi,xX,wQ,oI,go_sem,simprocAttr])
def iS (h H:Hp) (v:V) (l:Bs):Prop:=∃k,XR H none k v (l.map aa)∧h.length≤k∧Fw [] h H
theorem iS.br {h H:Hp} {v:V} {l:Bs} (hn:iS h H v l):BR H v l:=let ⟨_,x,_,_⟩:=hn;x.BR
theorem iS.fw {h H:Hp} {v:V} {l:Bs} (hn:iS h H v l):Fw [] h H:=let ⟨_,_,_,f⟩:=hn;f
theorem iS.o4 {h H:Hp} {v:V} {l:Bs} (hn:iS h H v l) {n:Nat} (hl:n≤h.length):bD n H v=some (.aq false none (l.map aa)):=by
 obtain ⟨k,x,hk,f⟩:=hn
 exact x.o4 (acm hl hk) (cE l)
theorem iS.cH {h0 h H:Hp} {v:V} {l:Bs} (hn:iS h H v l) (f:Fw [] h0 h):iS h0 H v l:=by
 obtain ⟨k,x,hk,g⟩:=hn
 exact ⟨k,x,acm f.len hk,f.trans g⟩
theorem iS.mono {h H H':Hp} {v:V} {l:Bs} (hn:iS h H v l) (f:Fw [] H H'):iS h H' v l:=let ⟨k,x,hk,g⟩:=hn;⟨k,x.mono fun b hb=> f.cH _ _ hb (by simp),hk,g.trans f⟩
theorem iS.ty {h H:Hp} {v:V} {l:Bs} (hn:iS h H v l):v.ty=none:=let ⟨_,x,_,_⟩:=hn;x.ty.1
theorem iS.aw {h H:Hp} {v:V} {l:Bs} (hn:iS h H v l):v.aw=true:=let ⟨_,x,_,_⟩:=hn;x.ty.2
theorem iS.app {h H:Hp} {v y:V} {l m:Bs} (hn:iS h H v l) (hs:source H y=some (none,m.map aa)) (hl:l.length+m.length≤140737488355328):
 ∃v' H',(∀cf base,aB cf base H (.app none 1) [v,y]=some (v',H'))∧iS h H' v' (l++m):=by
 obtain ⟨k,x,hk,f⟩:=hn
 obtain ⟨v',H',k',h1,h2,h3,h4,h5,h6,h7⟩:=x.Q5 (n:=h.length) (bytes:=1) hk f.len hs (fun z hz=> by obtain ⟨b,_,rfl⟩:=acF.1 hz;rfl) (by simpa using hl)
 refine ⟨v',H',h1,k',by rw[acX];exact h2,h3,?_⟩
 exact Fw.AI h4 fun j b hb=> by
   have hj:j < h.length:=q6z hb
   exact h7 j b (by omega) (f.cH _ _ hb (by simp))
theorem iS.nil (h:Hp):iS h h (.aq true none []) []:=⟨h.length,XR.nil _ _ _,abJ _,Fw.refl _ _⟩
theorem vi {h:Hp} {x:V} {l:Bs} (hb:Rd h x l) (hl:l.length≤140737488355328):∃v H,(∀b,run fns pr b 89 [x] h=some (v,H))∧iS h H v l:=by
 have:=p9 (hb.1 h (Fw.refl _ _)) hl
 refine ⟨cv h l,h++ct l,fun b=> by rw[gQ];exact this,h.length,?_,abJ _,Fw.app [] h _⟩
 unfold cv ct
 by_cases e:l=[]
 ·subst e;exact .inl ⟨by simp,rfl⟩
 ·rw[if_neg e,if_neg e];exact .inr ⟨by simp,by simp⟩
def lY (k:Bs) (n i:Nat):Bs:=(List.range i).flatMap fun j=> cW k (aE n++aE j)
theorem fJ (k:Bs) (n:Nat):∀i,(lY k n i).length=16 * i
 | 0=> rfl
 | i+1=> by
   have:=fJ k n i
   unfold lY at this ⊢
   rw[adt,adD,abI,this]
   simp[cW,bO];omega
theorem sJ (k:Bs) (n i:Nat):lY k n (i+1)=lY k n i++cW k (aE n++aE i):=by
 unfold lY
 rw[adt,adD];simp
def ik (k:Bs) (n c:Nat):Bs:=(lY k n ((c+15)/ 16)).take c
theorem iz (k:Bs) (n c:Nat):(ik k n c).length=c:=by
 unfold ik
 rw[abY,fJ];omega
theorem DW (b:Nat) (h:Hp) (k:Bs) (n c:Nat) (hk:k.length=16) (hn:n < 18446744073709551616) (hc:c≤8192) (hb:b≤h.length):
 ∃v H,run fns pr b 136 [.arr 22 (k.map aa),.s (.int .u64 n),.s (.int .i64 c)] h=some (v,H)∧iS h H v (ik k n c):=by
 refine Vm.eU (nt:=33) rfl Qw (by simp) ?_
 have dq:(k.map aa).length=16:=by simp[hk]
 have m1:max 0 (min (c:Int) 8192)=(c:Int):=by omega
 have au:(0:Nat)=0:=rfl
 try simp only[LI,At,As,dq,m1,go_sem,simprocAttr]
 repeat' (
   first | refine q5z ?_ ?_ | refine q3z ?_ ?_ | refine q4z ?_ ?_
   all_goals intro ai
   all_goals first | replace ai:=q2z ai | replace ai:=q1z ai | skip
   all_goals first | subst ai | replace au:=And.intro ai au
   all_goals try simp only[au,LI,At,As,dq,m1,go_sem,simprocAttr])
 generalize hGd:h++[aT.cells (some 22) [V.arr 22 (k.map aa)]]=G
 have hG:G.length=h.length+1:=by rw[←hGd];simp
 have gG:G[h.length]? =some (.cells (some 22) [V.arr 22 (k.map aa)]):=by rw[←hGd];simp
 have fG:Fw [] h G:=by rw[←hGd];exact Fw.app [] h _
 refine bo (fun m e H=>∃i v,m=(c+15)/ 16 - i∧i≤(c+15)/ 16∧e 8= .s (.int .u64 (i:Nat))∧e 7=v∧e 3= .ptr h.length [0] 1∧e 2= .s (.int .i64 c)∧e 1= .s (.int .u64 n)∧iS G H v (lY k n i))
   (fun e H=>∃v,e 7=v∧e 2= .s (.int .i64 c)∧iS G H v (lY k n ((c+15)/ 16))) ((c+15)/ 16) _ _
   ⟨0,_,rfl,by omega,rfl,rfl,rfl,rfl,rfl,iS.nil G⟩ ?_ ?_
 ·rintro m e H ⟨i,v,rfl,hi,e8,e7,e3,e2,e1,hN⟩
  have hlen:=fun cf base=> hN.br.bG (cf:=cf) (base:=base) (h:=H)
  rw[fJ] at hlen
  by_cases cd:i <(c+15)/ 16
  ·have c':((16 * i:Nat):Int)<(c:Int):=by omega
   have hbH:b≤H.length:=by have:=hN.fw.len;have:=fG.len;omega
   have w3:IntKind.u64.wrap ((i:Int)+1)=((i+1:Nat):Int):=by rw[wrap_u64 (by omega) (by omega)];omega
   have gH:H[h.length]? =some (.cells (some 22) [V.arr 22 (k.map aa)]):=hN.fw.cH _ _ gG (by simp)
   have gH2:∀X,(H++X)[h.length]? =some (.cells (some 22) [V.arr 22 (k.map aa)]):=fun X=> q10z gH X
   have n1:=de b H n hn hbH
   have n2:=de b (H++[.cells none ((aE n).map aa)]) i (by omega) (by simp;omega)
   have ha:∀cf base,aB cf base (H++[.cells none ((aE n).map aa),.cells none ((aE i).map aa)]) (.app none 1) [.ref H.length [] none 0 8 8,.ref (H.length+1) [] none 0 8 8]=some (.ref H.length [] none 0 16 16,H++[.cells none ((aE n++aE i).map aa),.cells none ((aE i).map aa)]):=fun cf base=> by
     have:=wP (cf:=cf) (base:=base) (H:=H++[.cells none ((aE n).map aa),.cells none ((aE i).map aa)]) (id:=H.length) (l:=aE n) (m:=aE i) (y:= .ref (H.length+1) [] none 0 8 8) (sG H _ _).1 (BR.src (ch (sG H _ _).2 (aF i))) (by rw[aF,aF];omega)
     rw[aF,aF] at this
     rw[this]
     congr 2
     rw[mA];rfl
   have xX:=fun b=> mz b (H++[aT.cells none ((aE n++aE i).map aa),.cells none ((aE i).map aa)]) (.ref H.length [] none 0 16 16) k (aE n++aE i) hk (BR.rd (ch (by simp) (by simp))) (by simp)
   obtain ⟨v2,H2,je,hN2⟩:=(hN.mono (Fw.app [] H [.cells none ((aE n++aE i).map aa),.cells none ((aE i).map aa)])).app (y:= .aq true none ((cW k (aE n++aE i)).map aa)) (m:=cW k (aE n++aE i)) rfl (by rw[fJ];simp[cW,bO];omega)
   rw[←sJ] at hN2
   simp only[e8,e7,e3,e2,e1,hlen,c',gH,gH2,n1,n2,ha,xX,lf,fo,gS,eA,je,w3,go_sem,simprocAttr]
   exact ⟨(c+15)/ 16 - (i+1),by omega,i+1,v2,rfl,by omega,by simp_all⟩
  ·have c':¬((16 * i:Nat):Int)<(c:Int):=by omega
   have rC:i=(c+15)/ 16:=by omega
   subst rC
   simp only[e8,e7,e3,e2,e1,hlen,c',go_sem,simprocAttr]
   exact ⟨v,rfl,hN⟩
 ·rintro e H ⟨v,e7,e2,hN⟩
  have Gt:c≤(lY k n ((c+15)/ 16)).length:=by rw[fJ];omega
  obtain ⟨y,hy,pc⟩:=hN.br.hi (k:= .i64) (r:=c) Gt
  obtain ⟨v2,H2,my,hN2⟩:=vi (BR.rd pc) (by rw[abY];omega)
  simp only[e7,e2,hy,my,go_sem,simprocAttr]
  exact hN2.cH (fG.trans hN.fw)
def iA (a b:Bs):Bs:=List.zipWith (fun x y=> x ^^^ y) a b
def iZ (s l:Bs) (j:Nat):Bs:=iA (s.take j) (l.take j)++s.drop j
theorem ym {s l:Bs} (h:s.length=l.length) (j:Nat) (hj:j≤l.length):(iZ s l j).length=l.length:=by
 simp[iZ,iA];omega
theorem vj (s l:Bs):iZ s l 0=s:=by simp[iZ,iA]
theorem yn {s l:Bs} (h:s.length=l.length):iZ s l l.length=iA s l:=by
 unfold iZ
 rw[abG (by omega),abG (abJ _),acx (by omega),ab8]
theorem yo {s l:Bs} (h:s.length=l.length) {j:Nat} (hj:j < l.length):(iZ s l j)[j]? =some (s.getD j 0):=by
 have h1:(iA (s.take j) (l.take j)).length=j:=by simp[iA];omega
 unfold iZ
 rw[abU (by omega),h1,ad5,adm,adO,List.getD,abE (by omega)];rfl
theorem vk {s l:Bs} (h:s.length=l.length) {j:Nat} (hj:j < l.length):(iZ s l j).set j (s.getD j 0 ^^^ l.getD j 0)=iZ s l (j+1):=by
 have h1:(iA (s.take j) (l.take j)).length=j:=by simp[iA];omega
 have e1:s.getD j 0=s[j]:=by rw[List.getD,abE (by omega)];rfl
 have e2:l.getD j 0=l[j]:=by rw[List.getD,abE (by omega)];rfl
 unfold iZ
 rw[acn _ _ (by omega),h1,ad5,acJ (by omega),adl,e1,e2,acb (by omega),acb (by omega)]
 have:iA (s.take j++[s[j]]) (l.take j++[l[j]])=iA (s.take j) (l.take j)++[s[j]^^^ l[j]]:=by
   unfold iA
   rw[List.zipWith_append (by simp;omega)];rfl
 rw[this,abO];rfl
def lg (k:Bs) (n:Nat) (l:Bs):Bs:=iA (ik k n l.length) l
theorem fY (k:Bs) (n:Nat) (l:Bs):(lg k n l).length=l.length:=by simp[lg,iA,iz]
theorem vl (b:Nat) (h:Hp) (x:V) (k l:Bs) (n:Nat) (hk:k.length=16) (hn:n < 18446744073709551616) (hx:BR h x l) (hl:l.length≤8192) (hb:b≤h.length):
 ∃v H,run fns pr b 100 [.arr 22 (k.map aa),.s (.int .u64 n),x] h=some (v,H)∧iS h H v (lg k n l):=by
 refine Vm.eU (nt:=31) rfl Pb (by simp) ?_
 have dq:(k.map aa).length=16:=by simp[hk]
 have kF:=fun cf base H=> hx.bG (cf:=cf) (base:=base) (h:=H)
 generalize hGd:h++[aT.cells (some 22) [V.arr 22 (k.map aa)]]=G
 have fG:Fw [] h G:=by rw[←hGd];exact Fw.app [] h _
 obtain ⟨v,H,ba,hN⟩:=DW b G k n l.length hk hn hl (by have:=fG.len;omega)
 have Aa:=fun cf base H=> hN.br.bG (cf:=cf) (base:=base) (h:=H)
 rw[iz] at Aa
 have g0:G[h.length]? =some (.cells (some 22) [.arr 22 (k.map aa)]):=by rw[←hGd];simp
 simp only[O8,Hl,Hk,dq,kF,hGd,g0,ba,Aa,go_sem,simprocAttr]
 obtain ⟨kid,xr,AJ,f⟩:=hN
 have hs:(ik k n l.length).length=l.length:=iz _ _ _
 unfold lg
 generalize ik k n l.length=s at xr hs ba
 by_cases DX:l=[]
 ·subst DX
  have s0:s=[]:=adn.1 hs
  subst s0
  refine bo (fun m e H'=> m=0∧e 16= .s (.int .i64 0)∧e 15= .s (.int .i64 ((0:Nat):Int))∧e 7=v∧H'=H) (fun e H'=> e 7=v∧H'=H) 0 _ _ ⟨rfl,rfl,rfl,rfl,rfl⟩ ?_ ?_
  ·rintro m e H' ⟨rfl,e16,e15,e7,rfl⟩
   have c':¬(0:Int)<((0:Nat):Int):=by omega
   simp only[e16,e15,e7,c',go_sem,simprocAttr]
   try simp_all
  ·rintro e H' ⟨e7,rfl⟩
   simp only[e7,go_sem,simprocAttr]
   exact ⟨kid,xr,acm fG.len AJ,fG.trans f⟩
 ·rcases xr with ⟨rfl,h0⟩ | ⟨rfl,hg⟩
  ·have:s.length=0:=by simpa using h0
   exact absurd (adn.1 (by omega)) DX
  have yp:(s.map aa).length=l.length:=by simp[hs]
  rw[yp]
  refine bo (fun m e H'=>∃j,m=l.length - j∧j≤l.length∧e 16= .s (.int .i64 (j:Nat))∧e 15= .s (.int .i64 (l.length:Nat))∧e 7= .ref kid [] none 0 l.length l.length∧e 2=x∧H'=H.set kid (.cells none ((iZ s l j).map aa)))
    (fun e H'=> e 7= .ref kid [] none 0 l.length l.length∧H'=H.set kid (.cells none ((iA s l).map aa))) l.length _ _
    ⟨0,rfl,by omega,rfl,rfl,rfl,rfl,by rw[vj,kE hg]⟩ ?_ ?_
  ·rintro m e H' ⟨j,rfl,hj,e16,e15,e7,e2,rfl⟩
   by_cases cd:j < l.length
   ·have c':(j:Int)<((l.length:Nat):Int):=by omega
    have w3:IntKind.i64.wrap ((j:Int)+1)=((j+1:Nat):Int):=q17z (by omega)
    have hf:Fw [] h (H.set kid (.cells none ((iZ s l j).map aa))):=(fG.trans f).bX (acm fG.len AJ) _
    have jF:=(BR.sr hx).fw hf
    have Cr:l[j]? =some (l.getD j 0):=by rw[List.getD,abE cd];rfl
    have i1:=fun cf base=> jF.cZ (cf:=cf) (base:=base) (k:= .i64) (i:=j) (by simpa using cd)
    have i2:=fun cf base=> jF.iy (cf:=cf) (base:=base) (i:=j) (v:= .s (.int .u8 ((l.getD j 0).toNat:Int))) (by rw[abT,Cr];rfl) rfl
    have Cs:=ym hs j (by omega)
    have uK:((iZ s l j).map aa)[j]? =some (.s (.int .u8 ((s.getD j 0).toNat:Int))):=by rw[abT,yo hs cd];rfl
    have jG:=q9z (b:= .cells none ((iZ s l j).map aa)) hg
    have hxo:=Vm.u8_xor (s.getD j 0) (l.getD j 0)
    have qa:((iZ s l j).map aa).set j (.s (.int .u8 ((s.getD j 0 ^^^ l.getD j 0).toNat:Int)))=(iZ s l (j+1)).map aa:=by rw[←vk hs cd,aeX];rfl
    have cc:(0≤(j:Int)∧j < l.length)=True:=by simp;omega
    have gr:(V.s (.int .u8 ((s.getD j 0 ^^^ l.getD j 0).toNat:Int))).ground=true:=rfl
    simp only[e16,e15,e7,e2,c',w3,i1,i2,jG,Cs,cc,uK,hxo,qa,gr,go_sem,simprocAttr]
    exact ⟨l.length - (j+1),by omega,j+1,rfl,by omega,by simp_all⟩
   ·have c':¬(j:Int)<((l.length:Nat):Int):=by omega
    have hj2:j=l.length:=by omega
    subst hj2
    rw[yn hs]
    simp only[e16,e15,e7,e2,c',go_sem,simprocAttr]
  ·rintro e H' ⟨e7,rfl⟩
   simp only[e7,go_sem,simprocAttr]
   refine ⟨kid,.inr ⟨by simp[iA,hs],q9z hg⟩,acm fG.len AJ,(fG.trans f).bX (acm fG.len AJ) _⟩
def Gr (h:Hp) (n:Nat) (v:V) (H:Hp) (l:Bs):Prop:=(n=0∧l=[]∧v= .aq true none []∧H=h)∨(0 < n∧l.length≤n∧v= .ref h.length [] none 0 l.length n∧H=h++[.cells none (l.map aa++List.replicate (n - l.length) (.s (.int .u8 0)))])
theorem Gr.fw {h H:Hp} {n:Nat} {v:V} {l:Bs} (g:Gr h n v H l):Fw [] h H:=by
 rcases g with ⟨_,_,_,rfl⟩ | ⟨_,_,_,rfl⟩
 ·exact Fw.refl _ _
 ·exact Fw.app [] h _
theorem Gr.app {h H:Hp} {n:Nat} {v y:V} {l m:Bs} (g:Gr h n v H l) (hs:source H y=some (none,m.map aa)) (hl:l.length+m.length≤n):
 ∃v' H',(∀cf base,base≤h.length→aB cf base H (.app none 1) [v,y]=some (v',H'))∧Gr h n v' H' (l++m):=by
 by_cases hm:m=[]
 ·subst hm
  refine ⟨v,H,fun cf base _=> ?_,by rw[ab8];exact g⟩
  rcases g with ⟨_,_,rfl,_⟩ | ⟨_,_,rfl,_⟩
  ·exact jk hs (n:=0) rfl
  ·exact jk hs (n:=l.length) rfl
 ·have hm0:0 < m.length:=aeo.2 hm
  rcases g with ⟨rfl,_,_,_⟩ | ⟨h0,h1,rfl,rfl⟩
  ·omega
  ·have hg:(h++[aT.cells none (l.map aa++List.replicate (n - l.length) (.s (.int .u8 0)))])[h.length]? =some (.cells none (l.map aa++List.replicate (n - l.length) (.s (.int .u8 0)))):=by simp
   have hlen:(l.map aa++List.replicate (n - l.length) (V.s (.int .u8 0))).length=n:=by simp;omega
   have key:=fun cf base (hb:base≤h.length)=> sK (cf:=cf) (base:=base) (bytes:=1) (off:=0) (len:=l.length) hg hs (by simpa using hm) (fun z hz=> by simp[bT,hb]) (by rw[hlen];simp;omega)
   rw[hlen] at key
   refine ⟨_,_,key,.inr ⟨h0,by simp;omega,by simp,?_⟩⟩
   simp only[acX,abI,abX,acr,ab9]
   rw[mA,ab7 (by simp),abG (by simp),aeL,acx (by simp),acj]
   simp only[abX,List.drop_replicate,adl]
   rw[show n - l.length - (l.length+m.length - l.length)=n - (l.length+m.length) by omega]
theorem Ct (cf:CF) (base:Nat) (h:Hp) (g:Option Nat) (es:List V):aB cf base h .cap [.aq true g es]=some (.s (.int .i64 es.length),h):=rfl
theorem LY (cf:CF) (base:Nat) (h:Hp) (g:Option Nat):aB cf base h (.jX g false true false) [.aq true g [],.s (.int .i64 ((0:Nat):Int))]=some (.aq true g [],h):=by
 simp[aB,iB,eM,aV,cR,dE]
theorem LZ (cf:CF) (base:Nat) (h:Hp) (g:Option Nat) (z:V) {n:Nat} (h0:0 < n) (hn:n≤100000000):aB cf base h (.apz g 1 z) [.aq true g [],.s (.int .i64 n)]=some (.ref h.length [] g 0 n n,h++[.cells g (List.replicate n z)]):=by
 have h1:List.replicate n z≠[]:=by simp;omega
 have h2:n≤140737488355328:=by omega
 simp[aB,vm,cU,h1,h2]
theorem L0 (b:Nat) (h:Hp) (n:Nat) (hn:n≤100000000):∃v H,run fns pr b 148 [.aq true none [],.s (.int .i64 n)] h=some (v,H)∧Gr h n v H []:=by
 refine Vm.eU (nt:=27) rfl QP (by simp) ?_
 have c0:¬(n:Int)< 0:=by omega
 have w0:IntKind.i64.wrap (n:Int)=(n:Int):=wrap_i64 (by omega) (by omega)
 have w1:IntKind.i64.wrap ((n:Int) - 0)=(n:Int):=by rw[Int.sub_zero,w0]
 have w2:IntKind.i64.wrap (((0:Nat):Int) - ((0:Nat):Int))=0:=rfl
 by_cases zX:n=0
 ·subst zX
  have c1:¬(0:Int)<((0:Nat):Int):=by omega
  simp only[LQ,c0,c1,Ct,w2,w1,go_sem,↓reduceIte,Nat.reduceEqDiff,Nat.reduceBEq,Nat.reduceAdd,Nat.reduceSub,Nat.reduceLT,Nat.reduceLeDiff,Int.reduceLT,Int.reduceLE,Int.reduceEq,Int.reduceToNat]
  exact .inl ⟨rfl,rfl,rfl,rfl⟩
 ·have c1:(0:Int)<(n:Int):=by omega
  have sl:=fun cf base=> Io (cf:=cf) (base:=base) (h:=h++[.cells none (List.replicate n (.s (.int .u8 0)))]) (g:=none) (id:=h.length) (es:=List.replicate n (.s (.int .u8 0))) (n:=n) (r:=0) (k:= .i64) (by simp) (by simp) (by omega)
  simp only[LQ,c0,c1,Ct,w2,w1,LY,LZ _ _ _ _ _ (Nat.pos_of_ne_zero zX) hn,Cu,sl,go_sem,↓reduceIte,Nat.reduceEqDiff,Nat.reduceBEq,Nat.reduceAdd,Nat.reduceSub,Nat.reduceLT,Nat.reduceLeDiff,Int.reduceLT,Int.reduceLE,Int.reduceEq,Int.reduceToNat]
  exact .inr ⟨by omega,by simp,rfl,by simp⟩
theorem Rd.ty {h:Hp} {x:V} {l:Bs} (hr:Rd h x l):x.ty=none:=by
 have:=hr.1 h (Fw.refl _ _)
 cases x <;> first | rfl | (simp[elems] at this)
theorem Rd.aw {h:Hp} {x:V} {l:Bs} (hr:Rd h x l):x.aw=true:=by
 have:=hr.1 h (Fw.refl _ _)
 cases x <;> first | rfl | (simp[elems] at this)
theorem Rd.bG {cf:CF} {base:Nat} {h0 h:Hp} {x:V} {l:Bs} (hr:Rd h0 x l):aB cf base h .len [x]=some (.s (.int .i64 l.length),h):=Vm.bG cf base h x _ hr.2
def Rds (h:Hp) (vs:List V) (ls:List Bs):Prop:=vs.length=ls.length∧∀(i:Nat) (v:V) (l:Bs),vs[i]? =some v→ls[i]? =some l→Rd h v l
theorem qb (b:Nat) (h:Hp) (x:V) (m:Nat) (vs:List V) (ls:List Bs) (jF:SR h x none vs) (hm:vs.length=m) (qM:m≤1000) (hr:Rds h vs ls) (hl:ls.flatten.length≤100000000):
 run fns pr b 133 [x] h=some (.aq false none (ls.flatten.map aa),h):=by
 refine Vm.aQ (nt:=36) rfl Qp (by simp) ?_
 have kF:∀cf base H,aB cf base H .len [x]=some (.s (.int .i64 (m:Nat)),H):=fun cf base H=> by rw[←hm];exact jF.bG
 obtain ⟨hml,Ii⟩:=hr
 have hlm:ls.length=m:=by omega
 have hat:∀(j:Nat),j < m→∃(v:V) (l:Bs),vs[j]? =some v∧ls[j]? =some l∧Rd h v l∧(ls.take (j+1)).flatten=(ls.take j).flatten++l:=fun j hj=> by
   refine ⟨vs[j],ls[j],abE (by omega),abE (by omega),Ii j _ _ (abE (by omega)) (abE (by omega)),?_⟩
   rw[acb (by omega),List.flatten_append];simp
 have hle:∀j,(ls.take j).flatten.length≤ls.flatten.length:=fun j=> by
   conv=> rhs;rw[←List.take_append_drop j ls,List.flatten_append,abI]
   omega
 have cJ:(ls.take m).flatten=ls.flatten:=by rw[abG (by omega)]
 have bZ:∀(H:Hp),Fw [] h H→∀(j:Nat) (v:V) (l:Bs),j < m→vs[j]? =some v→Rd h v l→(∀cf base,aB cf base H (.dx none) [x,.s (.int .i64 (j:Nat))]=some (k8 x j,H))∧(∀cf base,aB cf base H (.ld none) [k8 (x) j]=some (v,H)):=fun H f j v l hj hv hb=>
   ⟨fun cf base=>(jF.fw f).cZ (by omega),fun cf base=>(jF.fw f).iy hv hb.ty⟩
 simp only[Qn,HE,HC,Hz,Hy,kF,go_sem,simprocAttr]
 refine bo (fun q e H=>∃j,q=m - j∧j≤m∧e 11= .s (.int .i64 (j:Nat))∧e 10= .s (.int .i64 (m:Nat))∧e 9=x∧e 0=x∧e 3= .s (.int .i64 ((ls.take j).flatten.length:Nat))∧H=h)
   (fun e H=> e 0=x∧e 3= .s (.int .i64 (ls.flatten.length:Nat))∧H=h) m _ _ ⟨0,rfl,by omega,rfl,rfl,rfl,rfl,rfl,rfl⟩ ?_ ?_
 ·rintro q e H ⟨j,rfl,hj,e11,e10,e9,e0,e3,rfl⟩
  by_cases cd:j < m
  ·have c':(j:Int)<((m:Nat):Int):=by omega
   obtain ⟨v,l,hv,Cr,hb,nZ⟩:=hat j cd
   obtain ⟨i1,i2⟩:=bZ H (Fw.refl _ _) j v l cd hv hb
   have i3:=fun cf base H=> hb.bG (cf:=cf) (base:=base) (h:=H)
   have hx:=hle (j+1)
   rw[nZ,abI] at hx
   have w3:IntKind.i64.wrap ((j:Int)+1)=((j+1:Nat):Int):=q17z (by omega)
   have w4:IntKind.i64.wrap ((((ls.take j).flatten.length:Nat):Int)+((l.length:Nat):Int))=(((ls.take j).flatten.length+l.length:Nat):Int):=by rw[wrap_i64 (by omega) (by omega)];omega
   have c2:¬(((ls.take j).flatten.length+l.length:Nat):Int)< 0:=by omega
   simp only[e11,e10,e9,e0,e3,c',i1,i2,i3,w3,w4,c2,go_sem,simprocAttr]
   exact ⟨m - (j+1),by omega,j+1,rfl,by omega,by simp_all⟩
  ·have c':¬(j:Int)<((m:Nat):Int):=by omega
   have hjm:j=m:=by omega
   subst hjm
   rw[cJ] at e3
   simp only[e11,e10,e9,e0,e3,c',go_sem,simprocAttr]
 ·rintro e H ⟨e0,e3,rfl⟩
  obtain ⟨v0,H0,Ab,G0⟩:=L0 H.length H ls.flatten.length hl
  simp only[e0,e3,Ab,kF,go_sem,simprocAttr]
  refine bo (fun q e H'=>∃j v,q=m - j∧j≤m∧e 27= .s (.int .i64 (j:Nat))∧e 26= .s (.int .i64 (m:Nat))∧e 25=x∧e 6=v∧Gr H ls.flatten.length v H' (ls.take j).flatten)
    (fun e H'=>∃v,e 6=v∧Gr H ls.flatten.length v H' ls.flatten) m _ _ ⟨0,v0,rfl,by omega,rfl,rfl,rfl,rfl,G0⟩ ?_ ?_
  ·rintro q e H' ⟨j,v,rfl,hj,e27,e26,e25,e6,G⟩
   by_cases cd:j < m
   ·have c':(j:Int)<((m:Nat):Int):=by omega
    obtain ⟨y,l,hv,Cr,hb,nZ⟩:=hat j cd
    obtain ⟨i1,i2⟩:=bZ H' G.fw j y l cd hv hb
    have hx:=hle (j+1)
    rw[nZ,abI] at hx
    obtain ⟨v2,H2,je,G2⟩:=G.app (hb.fw G.fw).source (m:=l) hx
    rw[←nZ] at G2
    have yq:=fun cf=> je cf H.length (abJ _)
    have w3:IntKind.i64.wrap ((j:Int)+1)=((j+1:Nat):Int):=q17z (by omega)
    simp only[e27,e26,e25,e6,c',i1,i2,yq,w3,go_sem,simprocAttr]
    exact ⟨m - (j+1),by omega,j+1,v2,rfl,by omega,by simp_all⟩
   ·have c':¬(j:Int)<((m:Nat):Int):=by omega
    have hjm:j=m:=by omega
    subst hjm
    rw[cJ] at G
    simp only[e27,e26,e25,e6,c',go_sem,simprocAttr]
    exact ⟨v,rfl,G⟩
  ·rintro e H' ⟨v,e6,G⟩
   have df:bD H.length H' v=some (.aq false none (ls.flatten.map aa)):=by
     rcases G with ⟨_,h1,rfl,rfl⟩ | ⟨_,_,rfl,rfl⟩
     ·rw[h1];rfl
     ·refine XR.o4 (k:=H.length) (.inr ⟨by rw[abX],?_⟩) (abJ _) (cE _)
      simp
   have dQ:=G.fw.take
   simp only[e6,df,dQ,go_sem,simprocAttr]
def n9 (k:Bs) (n:Nat) (ad l:Bs):Bs:=cW (cW k k) (aE n++(aE ad.length++(ad++l)))
def iT (k:Bs) (n:Nat) (ad l:Bs):Bs:=(n9 k n ad l).take 8
theorem gU (k:Bs) (n:Nat) (ad l:Bs):(iT k n ad l).length=8:=by simp[iT,n9,cW,bO]
theorem jl (k l:Bs):(cW k l).length=16:=by simp[cW,bO]
theorem Ip {cf:CF} {base:Nat} {h:Hp} {t:Nat} {g:Option Nat} {id az:Nat} {p:List Nat} {es:List V} {k:IntKind} {r:Nat} (hn:node h id p az=some (.arr t es)) (hr:r≤es.length):aB cf base h (.mr t g false true) [.ptr id p az,.s (.int k r)]=some (.ref id p g 0 r az,h):=by
 simp[aB,qN,aV,hn,cR,hr]
theorem sL (t:Nat):∀l:Bs,(V.arr t (l.map aa)).ground=true
 | []=> rfl
 | b::l=> by
   have:=sL t l
   simp only[V.ground] at this ⊢
   simp only[abR,V.ground.all,this];rfl
theorem Cv (b:Nat) (h:Hp) (x y:V) (k ad l:Bs) (n:Nat) (hk:k.length=16) (hn:n < 18446744073709551616) (hx:Rd h x ad) (hy:Rd h y l) (had:ad.length≤100000) (hl:l.length≤100000) (hb:b≤h.length):
 ∃v H,run fns pr b 101 [.arr 22 (k.map aa),.s (.int .u64 n),x,y] h=some (v,H)∧Rd H v (iT k n ad l)∧Fw [] h H:=by
 refine Vm.eU (nt:=25) rfl Pe (by simp) ?_
 have dq:(k.map aa).length=16:=by simp[hk]
 have kF:=fun cf base H=> hx.bG (cf:=cf) (base:=base) (h:=H)
 generalize hGd:h++[aT.cells (some 22) [V.arr 22 (k.map aa)]]=G
 have hG:G.length=h.length+1:=by rw[←hGd];simp
 have g0:G[h.length]? =some (.cells (some 22) [.arr 22 (k.map aa)]):=by rw[←hGd];simp
 have fG:Fw [] h G:=by rw[←hGd];exact Fw.app [] h _
 have htw:=fun b H=> Im b H k k hk hk
 have n1:=de b G n hn (by omega)
 have n2:=de b (G++[.cells none ((aE n).map aa)]) ad.length (by omega) (by simp;omega)
 have wl:IntKind.u64.wrap ((ad.length:Nat):Int)=((ad.length:Nat):Int):=wrap_u64 (by omega) (by omega)
 have x1:=hx.ty;have x2:=hx.aw;have y1:=hy.ty;have y2:=hy.aw
 have fX:∀X,Fw [] h (G++X):=fun X=> fG.trans (Fw.app [] G X)
 have hco:=fun b=> qb b (G++[.cells none ((aE n).map aa),.cells none ((aE ad.length).map aa),.cells none [.ref G.length [] none 0 8 8,.ref (G.length+1) [] none 0 8 8,x,y]]) (.ref (G.length+2) [] none 0 4 4) 4 [.ref G.length [] none 0 8 8,.ref (G.length+1) [] none 0 8 8,x,y] [aE n,aE ad.length,ad,l] (lh (by simp) rfl) rfl (by omega) ⟨rfl,fun i v m hv hm=> by
   match i,hv,hm with
   | 0,hv,hm=> cases hv;cases hm;exact BR.rd (ch (by simp) (aF n))
   | 1,hv,hm=> cases hv;cases hm;exact BR.rd (ch (by simp) (aF _))
   | 2,hv,hm=> cases hv;cases hm;exact hx.fw (fX _)
   | 3,hv,hm=> cases hv;cases hm;exact hy.fw (fX _)
   | i+4,hv,hm=> simp at hv⟩ (by simp;omega)
 simp only[ada,aei,ab8] at hco
 have xX:=fun b H=> mz b H (.aq false none ((aE n++(aE ad.length++(ad++l))).map aa)) (cW k k) _ (jl k k) (BR.rd (ck H false _)) (by simp;omega)
 have AK:(List.map aa (cW (cW k k) (aE n++(aE ad.length++(ad++l))))).length=16:=by simp[jl]
 have hnd:∀(A B C:aT) (m:Bs),node (G++[A,B,C,.cells (some 22) [.arr 22 (m.map aa)]]) (G.length+3) [0] 1=some (.arr 22 (m.map aa)):=fun A B C m=> by simp only[go_sem,simprocAttr,abO,abI,Vm.aJ,Vm.bx,Vm.aZ,Vm.aU,Vm.bc,Vm.aX,abJ,ab2]
 have zY:=fun cf base A B C (m:Bs) (hm:m.length=16)=> Ip (cf:=cf) (base:=base) (g:=none) (k:= .i64) (r:=8) (hnd A B C m) (by simp[hm])
 have aaa:=fun cf base A B C=> zY cf base A B C (cW (cW k k) (aE n++(aE ad.length++(ad++l)))) (jl _ _)
 simp only[Pc,dq,hGd,g0,htw,n1,kF,wl,n2,aZ,x1,x2,y1,y2,vn,hco,xX,AK,sL,show (V.s (.int .i64 8))=V.s (.int .i64 ((8:Nat):Int)) from rfl,aaa,go_sem,simprocAttr]
 refine ⟨Rd.mk' ?_ (by simp[eM,gU]),fX _⟩
 rw[bQ,Vm.oJ,hnd]
 simp only[qc,cQ,acg,iT,n9,adT]
theorem Iq (l m:Bs):(decide ((⟨l.toArray⟩:ByteArray)=⟨m.toArray⟩))=decide (l=m):=by
 rw[decide_eq_decide];simp
theorem DY (b:Nat) (h:Hp) (x y:V) (l m:Bs) (hx:Rd h x l) (hy:Rd h y m):run fns pr b 146 [x,y] h=some (.s (.bool (decide (l=m))),h):=by
 refine Vm.aQ (nt:=10) rfl HK (by simp) ?_
 have ex:=hx.1 h (Fw.refl _ _)
 have ey:=hy.1 h (Fw.refl _ _)
 simp only[LO,AL,ex,ey,lp,Iq,go_sem,simprocAttr]
theorem L1 (b:Nat) (h:Hp) (x y:V) (l m:Bs) (hx:Rd h x l) (hy:Rd h y m):run fns pr b 144 [x,y] h=some (.s (.bool (decide (l=m))),h):=by
 refine Vm.aQ (nt:=8) rfl QJ (by simp) ?_
 have he:=fun b=> DY b h x y l m hx hy
 simp only[QH,he,go_sem,simprocAttr]
def ei (k:Bs) (n:Nat) (ad l:Bs):Bs:=if l.length≤8184∧ad.length≤8192 then lg k n l++iT k n ad l else []
theorem qd (k:Bs) (n:Nat) (ad l:Bs) (h1:l.length≤8184) (h2:ad.length≤8192):(ei k n ad l).length=l.length+8:=by
 rw[ei,if_pos ⟨h1,h2⟩,abI,fY,gU]
theorem wR (b:Nat) (h:Hp) (x y:V) (k ad l:Bs) (n:Nat) (hk:k.length=16) (hn:n < 18446744073709551616) (hx:Rd h x ad) (hy:BR h y l) (had:ad.length≤100000):
 run fns pr b 52 [.arr 22 (k.map aa),.s (.int .u64 n),x,y] h=some (.aq false none ((ei k n ad l).map aa),h):=by
 refine Vm.aQ (nt:=27) rfl Va (by simp) ?_
 have dq:(k.map aa).length=16:=by simp[hk]
 have lx:=fun cf base H=> hx.bG (cf:=cf) (base:=base) (h:=H)
 have ly:=fun cf base H=> hy.bG (cf:=cf) (base:=base) (h:=H)
 have fz:bD h.length h (.aq false none [])=some (.aq false none []):=rfl
 unfold ei
 by_cases c1:l.length≤8184
 ·have c1':¬(8184:Int)<((l.length:Nat):Int):=by omega
  by_cases c2:ad.length≤8192
  ·have c2':¬(8192:Int)<((ad.length:Nat):Int):=by omega
   rw[if_pos ⟨c1,c2⟩]
   generalize hGd:h++[aT.cells (some 22) [V.arr 22 (k.map aa)]]=G
   have hG:G.length=h.length+1:=by rw[←hGd];simp
   have g0:G[h.length]? =some (.cells (some 22) [.arr 22 (k.map aa)]):=by rw[←hGd];simp
   have fG:Fw [] h G:=by rw[←hGd];exact Fw.app [] h _
   obtain ⟨v,H,hh,hN⟩:=vl h.length G y k l n hk hn (hy.mono fG) (by omega) (by omega)
   have gH:H[h.length]? =some (.cells (some 22) [.arr 22 (k.map aa)]):=hN.fw.cH _ _ g0 (by simp)
   obtain ⟨w,H2,hm,hR,f2⟩:=Cv h.length H x y k ad l n hk hn (hx.fw (fG.trans hN.fw)) (BR.rd (hy.mono (fG.trans hN.fw))) (by omega) (by omega) (by have:=hN.fw.len;omega)
   obtain ⟨u,H3,je,hN3⟩:=(hN.mono f2).app hR.source (by rw[fY,gU];omega)
   have df:=hN3.o4 (n:=h.length) (by omega)
   have dQ:=(fG.trans hN3.fw).take
   simp only[B52,dq,lx,ly,c1',c2',hGd,g0,hh,gH,hm,je,df,dQ,go_sem,simprocAttr]
  ·have c2':(8192:Int)<((ad.length:Nat):Int):=by omega
   rw[if_neg (by omega)]
   simp only[B52,dq,lx,ly,c1',c2',abL,go_sem,simprocAttr]
 ·have c1':(8184:Int)<((l.length:Nat):Int):=by omega
  rw[if_neg (by omega)]
  simp only[B52,dq,lx,ly,c1',abL,go_sem,simprocAttr]
def mB (k:Bs) (n:Nat) (ad b:Bs):Option Bs:=
 if 8≤b.length∧b.length≤8192∧ad.length≤8192 then
  let t:=lg k n (b.take (b.length - 8))
  if iT k n ad t=b.drop (b.length - 8) then some t else none
 else none
def fK :Option Bs→V
 | some t=> .bM [.aq false none (t.map aa),.s (.int .i64 0)]
 | none=> .bM [.aq false none [],.s (.int .i64 30)]
theorem L2 (b:Nat) (h:Hp) (x y:V) (k ad l:Bs) (n:Nat) (hk:k.length=16) (hn:n < 18446744073709551616) (hx:Rd h x ad) (hy:BR h y l):
 run fns pr b 117 [.arr 22 (k.map aa),.s (.int .u64 n),x,y] h=some (fK (mB k n ad l),h):=by
 refine Vm.aQ (nt:=45) rfl PL (by simp) ?_
 have dq:(k.map aa).length=16:=by simp[hk]
 have lx:=fun cf base H=> hx.bG (cf:=cf) (base:=base) (h:=H)
 have ly:=fun cf base H=> hy.bG (cf:=cf) (base:=base) (h:=H)
 unfold mB
 by_cases c0:l.length < 8
 ·have c0':((l.length:Nat):Int)< 8:=by omega
  rw[if_neg (by omega)]
  simp only[Ar,dq,lx,ly,c0',fK,abL,go_sem,simprocAttr]
 have c0':¬((l.length:Nat):Int)< 8:=by omega
 by_cases c1:8192 < l.length
 ·have c1':(8192:Int)<((l.length:Nat):Int):=by omega
  rw[if_neg (by omega)]
  simp only[Ar,dq,lx,ly,c0',c1',fK,abL,go_sem,simprocAttr]
 have c1':¬(8192:Int)<((l.length:Nat):Int):=by omega
 by_cases c2:8192 < ad.length
 ·have c2':(8192:Int)<((ad.length:Nat):Int):=by omega
  rw[if_neg (by omega)]
  simp only[Ar,dq,lx,ly,c0',c1',c2',fK,abL,go_sem,simprocAttr]
 have c2':¬(8192:Int)<((ad.length:Nat):Int):=by omega
 rw[if_pos ⟨by omega,by omega,by omega⟩]
 have w8:IntKind.i64.wrap (((l.length:Nat):Int) - 8)=((l.length - 8:Nat):Int):=by rw[wrap_i64 (by omega) (by omega)];omega
 generalize hGd:h++[aT.cells (some 22) [V.arr 22 (k.map aa)]]=G
 have hG:G.length=h.length+1:=by rw[←hGd];simp
 have g0:G[h.length]? =some (.cells (some 22) [.arr 22 (k.map aa)]):=by rw[←hGd];simp
 have fG:Fw [] h G:=by rw[←hGd];exact Fw.app [] h _
 obtain ⟨z,hz,hbz⟩:=(hy.mono fG).hi (k:= .i64) (r:=l.length - 8) (by omega)
 obtain ⟨v,H,hh,hN⟩:=vl h.length G z k (l.take (l.length - 8)) n hk hn hbz (by rw[abY];omega) (by omega)
 have gH:H[h.length]? =some (.cells (some 22) [.arr 22 (k.map aa)]):=hN.fw.cH _ _ g0 (by simp)
 obtain ⟨w,H2,hm,hR,f2⟩:=Cv h.length H x v k ad (lg k n (l.take (l.length - 8))) n hk hn (hx.fw (fG.trans hN.fw)) (BR.rd hN.br) (by omega) (by rw[fY,abY];omega) (by have:=hN.fw.len;omega)
 have sy:=(BR.sr hy).fw (fG.trans (hN.fw.trans f2))
 have hu:=fun cf base=> sy.L3 (cf:=cf) (base:=base) (k:= .i64) (l:=l.length - 8) (by simp)
 have hu0:=fun cf base=>((BR.sr hy).fw (fG.trans hN.fw)).L3 (cf:=cf) (base:=base) (k:= .i64) (l:=l.length - 8) (by simp)
 have su:=sy.loR (l:=l.length - 8) (by simp)
 rw[←List.map_drop,abX] at su
 have Ih:=fun b=> L1 b H2 w _ _ _ hR (Rd.mk' su.elems (by rw[su.len,abX]))
 have df:=(hN.mono f2).o4 (n:=h.length) (by omega)
 have dQ:=(fG.trans (hN.fw.trans f2)).take
 by_cases c3:iT k n ad (lg k n (l.take (l.length - 8)))=l.drop (l.length - 8)
 ·simp only[Ar,dq,lx,ly,c0',c1',c2',w8,hGd,g0,hz,hh,gH,hm,hu,hu0,Ih,c3,df,dQ,fK,go_sem,simprocAttr]
 ·simp only[Ar,dq,lx,ly,c0',c1',c2',w8,hGd,g0,hz,hh,gH,hm,hu,hu0,Ih,c3,df,dQ,fK,go_sem,simprocAttr]
theorem oK :∀l:Bs,ints .u8 (l.map aa)=some (l.map fun b=>(b.toNat:Int))
 | []=> rfl
 | b::l=> by
   have ih:=oK l
   show (if IntKind.u8=IntKind.u8 then (ints .u8 (l.map aa)).map ((b.toNat:Int):: ·) else none)=_
   rw[if_pos rfl,ih];rfl
theorem oa :∀ {a b:Bs},(a.map fun b=>(b.toNat:Int))=(b.map fun b=>(b.toNat:Int))→a=b
 | [],[],_=> rfl
 | [],_::_,h=> by simp at h
 | _::_,[],h=> by simp at h
 | x::a,y::b,h=> by
   simp only[abR,List.cons.injEq] at h
   have h1:x.toNat=y.toNat:=by have:=h.1;omega
   rw[aeY.1 h1,oa h.2]
theorem bR {cf:CF} {base:Nat} {h:Hp} (t:Nat) (neg:Bool) (a b:Bs):aB cf base h (.wJ t .u8 neg) [.arr t (a.map aa),.arr t (b.map aa)]=some (.s (.bool (if neg=true then !decide (a=b) else decide (a=b))),h):=by
 rw[OD,oK,oK,vp]
 have:(List.map (fun b=>(b.toNat:Int)) a=List.map (fun b=>(b.toNat:Int)) b)=(a=b):=propext ⟨oa,fun h=> by rw[h]⟩
 simp only[this]
theorem cu :[V.s (.int .u8 0),.s (.int .u8 0),.s (.int .u8 0),.s (.int .u8 0),.s (.int .u8 0),.s (.int .u8 0),.s (.int .u8 0),.s (.int .u8 0),.s (.int .u8 0),.s (.int .u8 0),.s (.int .u8 0),.s (.int .u8 0),.s (.int .u8 0),.s (.int .u8 0),.s (.int .u8 0),.s (.int .u8 0)]=bp.map aa:=(rfl)
theorem Ir (b:Nat) (h:Hp) (c n:Int):run fns pr b 125 [.s (.int .i64 c),.s (.int .u64 n)] h=some (.s (.bool (decide (0≤c)&& decide (c < 4)&& decide (n≤1099511627776))),h):=by
 refine Vm.aQ (nt:=15) rfl P8 (by simp) ?_
 by_cases h1:0≤c
 case neg=> simp only[Hw,go_sem,simprocAttr,h1,acC]
 by_cases h2:c < 4
 case neg=> simp only[Hw,go_sem,simprocAttr,h1,h2,acC,acK]
 simp only[Hw,go_sem,simprocAttr,h1,h2,acz]
def mC (c n:Int):Bool:=decide (0≤c)&& decide (c < 4)&& decide (n≤1099511627776)
def cM (q:Request):Bool:=mC q.aO q.num &&
 (if q.op=1∨q.op=3 then decide (1≤q.bA)&& decide (q.bA≤32)&& decide (q.aL.length≤64)
  else if q.op=2 then decide (q.bA=0)&& decide (q.owner=bp)&& decide (q.aL.length=0)
  else if q.op=4 then decide (q.bA=0)&& decide (q.iY=bp)&& decide (q.aL.length=0) else false)
def aN (v:ae):Bool:=decide (1≤v.gen)&& decide (v.gen≤1099511627776)&&
 (if v.gone=true then decide (v.iY=bp)&& decide (v.owner=bp)&& decide (v.aL.length=0)&& decide (v.bA=0)&& decide (v.used=0)
  else !v.qJ && decide (1≤v.bA)&& decide (v.bA≤32)&& decide (0≤v.used)&& decide (v.used < v.bA)&& decide (v.aL.length≤64))
theorem uP (b:Nat) (h:Hp) (v:ae):run fns pr b 92 [v.enc] h=some (.s (.bool (aN v)),h):=by
 refine Vm.aQ (nt:=72) rfl OA (by simp) ?_
 obtain ⟨id,ge,iY,se,li,us,ow,go,wi⟩:=v
 simp only[aN]
 have hl:((se.length:Int)≤64)=(se.length≤64):=propext (by omega)
 have hz:(se.length=0)=((se.length:Int)=0):=propext (by omega)
 by_cases g1:ge < 1
 ·have g1':¬1≤ge:=by omega
  simp only[yd,ae.enc,go_sem,simprocAttr,abO,abI,Vm.aJ,Vm.bx,Vm.aZ,Vm.aU,Vm.bc,Vm.aX,abJ,ab2,abJ,hl,hz,cu,bR,acz,acC,acK,acT,decide_false,decide_true,if_false,if_true,acA,acS,abP,g1,g1']
 have g1':1≤ge:=by omega
 by_cases g2:1099511627776 < ge
 ·have g2':¬ge≤1099511627776:=by omega
  simp only[yd,ae.enc,go_sem,simprocAttr,abO,abI,Vm.aJ,Vm.bx,Vm.aZ,Vm.aU,Vm.bc,Vm.aX,abJ,ab2,abJ,hl,hz,cu,bR,acz,acC,acK,acT,decide_false,decide_true,if_false,if_true,acA,acS,abP,g1,g1',g2,g2']
 have g2':ge≤1099511627776:=by omega
 cases go with
 | true=>
   by_cases k0:iY=bp
   case neg=> simp only[yd,ae.enc,go_sem,simprocAttr,abO,abI,Vm.aJ,Vm.bx,Vm.aZ,Vm.aU,Vm.bc,Vm.aX,abJ,ab2,abJ,hl,hz,cu,bR,acz,acC,acK,acT,decide_false,decide_true,if_false,if_true,acA,acS,abP,g1,g1',g2,g2',k0]
   by_cases k1:ow=bp
   case neg=> simp only[yd,ae.enc,go_sem,simprocAttr,abO,abI,Vm.aJ,Vm.bx,Vm.aZ,Vm.aU,Vm.bc,Vm.aX,abJ,ab2,abJ,hl,hz,cu,bR,acz,acC,acK,acT,decide_false,decide_true,if_false,if_true,acA,acS,abP,g1,g1',g2,g2',k0,k1]
   by_cases k2:(se.length:Int)=0
   case neg=> simp only[yd,ae.enc,go_sem,simprocAttr,abO,abI,Vm.aJ,Vm.bx,Vm.aZ,Vm.aU,Vm.bc,Vm.aX,abJ,ab2,abJ,hl,hz,cu,bR,acz,acC,acK,acT,decide_false,decide_true,if_false,if_true,acA,acS,abP,g1,g1',g2,g2',k0,k1,k2]
   by_cases k3:li=0
   case neg=> simp only[yd,ae.enc,go_sem,simprocAttr,abO,abI,Vm.aJ,Vm.bx,Vm.aZ,Vm.aU,Vm.bc,Vm.aX,abJ,ab2,abJ,hl,hz,cu,bR,acz,acC,acK,acT,decide_false,decide_true,if_false,if_true,acA,acS,abP,g1,g1',g2,g2',k0,k1,k2,k3]
   simp only[yd,ae.enc,go_sem,simprocAttr,abO,abI,Vm.aJ,Vm.bx,Vm.aZ,Vm.aU,Vm.bc,Vm.aX,abJ,ab2,abJ,hl,hz,cu,bR,acz,acC,acK,acT,decide_false,decide_true,if_false,if_true,acA,acS,abP,g1,g1',g2,g2',k0,k1,k2,k3]
 | false=>
   cases wi with
   | true=> simp only[yd,ae.enc,go_sem,simprocAttr,abO,abI,Vm.aJ,Vm.bx,Vm.aZ,Vm.aU,Vm.bc,Vm.aX,abJ,ab2,abJ,hl,hz,cu,bR,acz,acC,acK,acT,decide_false,decide_true,if_false,if_true,acA,acS,abP,g1,g1',g2,g2']
   | false=>
     by_cases k0:1≤li
     case neg=> simp only[yd,ae.enc,go_sem,simprocAttr,abO,abI,Vm.aJ,Vm.bx,Vm.aZ,Vm.aU,Vm.bc,Vm.aX,abJ,ab2,abJ,hl,hz,cu,bR,acz,acC,acK,acT,decide_false,decide_true,if_false,if_true,acA,acS,abP,g1,g1',g2,g2',k0]
     by_cases k1:li≤32
     case neg=> simp only[yd,ae.enc,go_sem,simprocAttr,abO,abI,Vm.aJ,Vm.bx,Vm.aZ,Vm.aU,Vm.bc,Vm.aX,abJ,ab2,abJ,hl,hz,cu,bR,acz,acC,acK,acT,decide_false,decide_true,if_false,if_true,acA,acS,abP,g1,g1',g2,g2',k0,k1]
     by_cases k2:0≤us
     case neg=> simp only[yd,ae.enc,go_sem,simprocAttr,abO,abI,Vm.aJ,Vm.bx,Vm.aZ,Vm.aU,Vm.bc,Vm.aX,abJ,ab2,abJ,hl,hz,cu,bR,acz,acC,acK,acT,decide_false,decide_true,if_false,if_true,acA,acS,abP,g1,g1',g2,g2',k0,k1,k2]
     by_cases k3:us < li
     case neg=> simp only[yd,ae.enc,go_sem,simprocAttr,abO,abI,Vm.aJ,Vm.bx,Vm.aZ,Vm.aU,Vm.bc,Vm.aX,abJ,ab2,abJ,hl,hz,cu,bR,acz,acC,acK,acT,decide_false,decide_true,if_false,if_true,acA,acS,abP,g1,g1',g2,g2',k0,k1,k2,k3]
     simp only[yd,ae.enc,go_sem,simprocAttr,abO,abI,Vm.aJ,Vm.bx,Vm.aZ,Vm.aU,Vm.bc,Vm.aX,abJ,ab2,abJ,hl,hz,cu,bR,acz,acC,acK,acT,decide_false,decide_true,if_false,if_true,acA,acS,abP,g1,g1',g2,g2',k0,k1,k2,k3]
theorem vq (b:Nat) (h:Hp) (n:Int):run fns pr b 134 [.s (.int .u64 n)] h=some (.s (.bool (decide (n≤1099511627776))),h):=by
 refine Vm.aQ (nt:=5) rfl Qr (by simp) ?_
 have au:(0:Nat)=0:=rfl
 try simp only[LH,go_sem,simprocAttr]
 repeat' (
   first | refine q5z ?_ ?_ | refine q3z ?_ ?_ | refine q4z ?_ ?_
   all_goals intro ai
   all_goals first | replace ai:=q2z ai | replace ai:=q1z ai | skip
   all_goals first | subst ai | replace au:=And.intro ai au
   all_goals try simp only[au,LH,go_sem,simprocAttr])
def ae.aH (f:Bool) (a:ae):V:= .st 37 [.arr 28 (a.iD.map aa),.s (.int .u64 a.gen),.arr 22 (a.iY.map aa),.aq f none (a.aL.map aa),.s (.int .i64 a.bA),.s (.int .i64 a.used),.arr 22 (a.owner.map aa),.s (.bool a.gone),.s (.bool a.qJ)]
def Request.aH (f:Bool) (a:Request):V:= .st 33 [.s (.int .i64 a.op),.arr 28 (a.iD.map aa),.arr 22 (a.iY.map aa),.aq f none (a.aL.map aa),.s (.int .i64 a.bA),.arr 22 (a.owner.map aa),.arr 22 (a.kz.map aa),.s (.int .i64 a.aO),.s (.int .u64 a.num)]
def av.aH (f:Bool) (a:av):V:= .st 45 [.s (.int .i64 a.wK),.arr 28 (a.iD.map aa),.s (.int .u64 a.gen),.s (.int .i64 a.left),.aq f none (a.aL.map aa),.s (.int .i64 a.aO),.s (.int .u64 a.num)]
theorem ae.kG (a:ae):a.enc=a.aH false:=rfl
theorem Request.kG (a:Request):a.enc=a.aH false:=rfl
theorem av.kG (a:av):a.enc=a.aH false:=rfl
def zeroV :ae:=⟨od,0,bp,[],0,0,bp,false,false⟩
def kH :av:=⟨0,od,0,0,[],0,0⟩
theorem vr (b:Nat) (h:Hp) (f g:Bool) (v w:ae):run fns pr b 126 [v.aH f,w.aH g] h=some (.s (.bool (decide (v=w))),h):=by
 refine Vm.aQ (nt:=66) rfl Qa (by simp) ?_
 obtain ⟨a1,a2,a3,a4,a5,a6,a7,a8,a9⟩:=v
 obtain ⟨c1,c2,c3,c4,c5,c6,c7,c8,c9⟩:=w
 simp only[ae.mk.injEq]
 have he:=fun h0 f g l m=> Ib h.length h0 (.aq f none (l.map aa)) (.aq g none (m.map aa)) l m (ck _ _ _) (ck _ _ _)
 have au:(0:Nat)=0:=rfl
 try simp only[LB,ae.aH,bR,he,go_sem,simprocAttr]
 repeat' (
   first | refine q5z ?_ ?_ | refine q3z ?_ ?_ | refine q4z ?_ ?_
   all_goals intro ai
   all_goals first | replace ai:=q2z ai | replace ai:=q1z ai | skip
   all_goals first | subst ai | replace au:=And.intro ai au
   all_goals try simp only[au,LB,ae.aH,bR,he,go_sem,simprocAttr])
 all_goals (clear he;simp_all [abK])
theorem dr (t:Nat):V.arr t [V.s (.int .u8 0),.s (.int .u8 0),.s (.int .u8 0),.s (.int .u8 0),.s (.int .u8 0),.s (.int .u8 0),.s (.int .u8 0),.s (.int .u8 0),.s (.int .u8 0),.s (.int .u8 0),.s (.int .u8 0),.s (.int .u8 0),.s (.int .u8 0),.s (.int .u8 0),.s (.int .u8 0),.s (.int .u8 0)]= .arr t (bp.map aa):=rfl
theorem jK (t:Nat):V.arr t [V.s (.int .u8 0),.s (.int .u8 0),.s (.int .u8 0),.s (.int .u8 0)]= .arr t (od.map aa):=rfl
theorem iC (f:Bool) (v:ae):(v.aH f).ty=some 37:=rfl
theorem iE (f:Bool) (v:ae):(v.aH f).aw=true:=rfl
theorem bq (v:ae):v.enc.ty=some 37:=rfl
theorem rO (v:av):v.enc.ty=some 45:=rfl
theorem bu (v:ae):v.enc.aw=true:=rfl
theorem rP (v:av):v.enc.aw=true:=rfl
theorem lq (n:Nat) (h:Hp) (v:ae):bD n h v.enc=some v.enc:=by simp only[ae.enc,go_sem]
theorem rQ (n:Nat) (h:Hp) (v:av):bD n h v.enc=some v.enc:=by simp only[av.enc,go_sem]
theorem L4 (f:Bool):V.st 37 [.arr 28 (od.map aa),.s (.int .u64 0),.arr 22 (bp.map aa),.aq f none [],.s (.int .i64 0),.s (.int .i64 0),.arr 22 (bp.map aa),.s (.bool false),.s (.bool false)]=zeroV.aH f:=rfl
theorem AM (b:Nat) (h:Hp) (f:Bool) (l:Bs) (hl:l.length≤140737488355328):run fns pr b 89 [.aq f none (l.map aa)] h=some (cv h l,h++ct l):=by
 rw[gQ];exact sM (ck h f l) hl
theorem Q6 {l:Bs} (hs:l=[]):(∀h,cv h l= .aq true none (l.map aa))∧ct l=[]:=by subst hs;exact ⟨fun _=> rfl,rfl⟩
theorem Q7 {l:Bs} (hs:¬l=[]):(∀h,cv h l= .ref h.length [] none 0 l.length l.length)∧ct l=[.cells none (l.map aa)]:=⟨fun _=> if_neg hs,if_neg hs⟩
theorem Q8 (b:Nat) (h:Hp) (f:Bool) (v:ae) (hl:v.aL.length≤140737488355328):run fns pr b 127 [v.aH f] h=some (v.enc,h):=by
 refine Vm.aQ (nt:=8) rfl Qc (by simp) ?_
 have hc:=fun h0=> AM h.length h0 f v.aL hl
 obtain ⟨v1,v2,v3,se,v5,v6,v7,v8,v9⟩:=v
 by_cases hs:se=[]
 ·obtain ⟨uQ,uR⟩:=Q6 hs
  have au:(0:Nat)=0:=rfl
  try simp only[DL,ae.aH,ae.enc,hc,uQ,uR,go_sem,simprocAttr]
  repeat' (
    first | refine q5z ?_ ?_ | refine q3z ?_ ?_ | refine q4z ?_ ?_
    all_goals intro ai
    all_goals first | replace ai:=q2z ai | replace ai:=q1z ai | skip
    all_goals first | subst ai | replace au:=And.intro ai au
    all_goals try simp only[au,DL,ae.aH,ae.enc,hc,uQ,uR,go_sem,simprocAttr])
 ·obtain ⟨uQ,uR⟩:=Q7 hs
  have au:(0:Nat)=0:=rfl
  try simp only[DL,ae.aH,ae.enc,hc,uQ,uR,iF,dU,eB,go_sem,simprocAttr]
  repeat' (
    first | refine q5z ?_ ?_ | refine q3z ?_ ?_ | refine q4z ?_ ?_
    all_goals intro ai
    all_goals first | replace ai:=q2z ai | replace ai:=q1z ai | skip
    all_goals first | subst ai | replace au:=And.intro ai au
    all_goals try simp only[au,DL,ae.aH,ae.enc,hc,uQ,uR,iF,dU,eB,go_sem,simprocAttr])
def jL (v:ae) (w:Bool):ae:=⟨v.iD,v.gen,bp,[],0,0,bp,true,w⟩
theorem Cw (b:Nat) (h:Hp) (f w:Bool) (v:ae):run fns pr b 131 [v.aH f,.s (.bool w)] h=some ((jL v w).enc,h):=by
 refine Vm.aQ (nt:=11) rfl Qk (by simp) ?_
 have au:(0:Nat)=0:=rfl
 try simp only[LF,ae.aH,ae.enc,jL,dr,go_sem,simprocAttr]
 repeat' (
   first | refine q5z ?_ ?_ | refine q3z ?_ ?_ | refine q4z ?_ ?_
   all_goals intro ai
   all_goals first | replace ai:=q2z ai | replace ai:=q1z ai | skip
   all_goals first | subst ai | replace au:=And.intro ai au
   all_goals try simp only[au,LF,ae.aH,ae.enc,jL,dr,go_sem,simprocAttr])
def pe (v:ae) (q:Request) (r:av):ae×av×Bool:=
 if 1099511627776≤v.gen then (v, {r with wK:=31},false)
 else (⟨q.iD,v.gen+1,q.iY,q.aL,q.bA,0,q.owner,false,false⟩, {r with gen:=v.gen+1,left:=q.bA},true)
def eo (o:ae×av×Bool):V:= .bM [o.1.enc,o.2.1.enc,.s (.bool o.2.2)]
theorem DZ (b:Nat) (h:Hp) (f f' g:Bool) (v:ae) (q:Request) (r:av) (hg:0≤v.gen) (hl:q.aL.length≤140737488355328):run fns pr b 128 [v.aH f,q.aH f',r.aH g] h=some (eo (pe v q r),h):=by
 refine Vm.aQ (nt:=39) rfl Qe (by simp) ?_
 have hc:=fun h0=> AM h.length h0 f' q.aL hl
 have hw:v.gen < 1099511627776→IntKind.u64.wrap (v.gen+1)=v.gen+1:=fun _=> wrap_u64 (by omega) (by omega)
 obtain ⟨op,id',pin',se,li',ow',ky,cl,nu⟩:=q
 by_cases hs:se=[]
 ·obtain ⟨uQ,uR⟩:=Q6 hs
  have au:(0:Nat)=0:=rfl
  try simp only[DN,ae.aH,Request.aH,av.aH,hc,uQ,uR,go_sem,simprocAttr]
  repeat' (
    first | refine q5z ?_ ?_ | refine q3z ?_ ?_ | refine q4z ?_ ?_
    all_goals intro ai
    all_goals first | replace ai:=q2z ai | replace ai:=q1z ai | skip
    all_goals first | subst ai | replace au:=And.intro ai au
    all_goals try simp only[au,DN,ae.aH,Request.aH,av.aH,hc,uQ,uR,go_sem,simprocAttr])
  all_goals clear hc uQ uR
  all_goals try simp only[decide_eq_true_eq,decide_eq_false_iff_not] at *
  all_goals first
    | (simp_all [pe,eo,ae.enc,av.enc, -Int.not_le, -Int.not_lt, -Nat.not_le, -Nat.not_lt,abK];done)
    | (simp_all [pe,eo,ae.enc,av.enc, -Int.not_le, -Int.not_lt, -Nat.not_le, -Nat.not_lt,abK];omega)
    | (simp_all [pe,eo,ae.enc,av.enc,abK];done)
    | (simp_all [pe,eo,ae.enc,av.enc,abK];omega)
    | skip
 ·obtain ⟨uQ,uR⟩:=Q7 hs
  have au:(0:Nat)=0:=rfl
  try simp only[DN,ae.aH,Request.aH,av.aH,hc,uQ,uR,iF,dU,eB,go_sem,simprocAttr]
  repeat' (
    first | refine q5z ?_ ?_ | refine q3z ?_ ?_ | refine q4z ?_ ?_
    all_goals intro ai
    all_goals first | replace ai:=q2z ai | replace ai:=q1z ai | skip
    all_goals first | subst ai | replace au:=And.intro ai au
    all_goals try simp only[au,DN,ae.aH,Request.aH,av.aH,hc,uQ,uR,iF,dU,eB,go_sem,simprocAttr])
  all_goals clear hc uQ uR
  all_goals try simp only[decide_eq_true_eq,decide_eq_false_iff_not] at *
  all_goals first
    | (simp_all [pe,eo,ae.enc,av.enc, -Int.not_le, -Int.not_lt, -Nat.not_le, -Nat.not_lt,abK];done)
    | (simp_all [pe,eo,ae.enc,av.enc, -Int.not_le, -Int.not_lt, -Nat.not_le, -Nat.not_lt,abK];omega)
    | (simp_all [pe,eo,ae.enc,av.enc,abK];done)
    | (simp_all [pe,eo,ae.enc,av.enc,abK];omega)
    | skip
theorem gV (b:Nat) (h:Hp) (f:Bool) (q:Request):run fns pr b 74 [q.aH f] h=some (.s (.bool (cM q)),h):=by
 refine Vm.aQ (nt:=62) rfl VS (by simp) ?_
 have hw:=fun h0=> Ir h.length h0 q.aO q.num
 rw[←mC.eq_1] at hw
 have au:(0:Nat)=0:=rfl
 try simp only[B74,Request.aH,hw,dr,bR,go_sem,simprocAttr]
 repeat' (
   first | refine q5z ?_ ?_ | refine q3z ?_ ?_ | refine q4z ?_ ?_
   all_goals intro ai
   all_goals first | replace ai:=q2z ai | replace ai:=q1z ai | skip
   all_goals first | subst ai | replace au:=And.intro ai au
   all_goals try simp only[au,B74,Request.aH,hw,dr,bR,go_sem,simprocAttr])
 all_goals clear hw
 all_goals try simp only[decide_eq_true_eq,decide_eq_false_iff_not] at *
 all_goals first
   | (simp_all [cM, -Int.not_le, -Int.not_lt, -Nat.not_le, -Nat.not_lt,abK];done)
   | (simp_all [cM, -Int.not_le, -Int.not_lt, -Nat.not_le, -Nat.not_lt,abK];omega)
   | (simp_all [cM,abK];done)
   | (simp_all [cM,abK];omega)
   | skip
theorem dF (b:Nat) (h:Hp) (f:Bool) (v:ae):run fns pr b 92 [v.aH f] h=some (.s (.bool (aN v)),h):=by
 refine Vm.aQ (nt:=72) rfl OA (by simp) ?_
 have au:(0:Nat)=0:=rfl
 try simp only[yd,ae.aH,dr,bR,go_sem,simprocAttr]
 repeat' (
   first | refine q5z ?_ ?_ | refine q3z ?_ ?_ | refine q4z ?_ ?_
   all_goals intro ai
   all_goals first | replace ai:=q2z ai | replace ai:=q1z ai | skip
   all_goals first | subst ai | replace au:=And.intro ai au
   all_goals try simp only[au,yd,ae.aH,dr,bR,go_sem,simprocAttr])
 all_goals try simp only[decide_eq_true_eq,decide_eq_false_iff_not] at *
 all_goals first
   | (simp_all [aN, -Int.not_le, -Int.not_lt, -Nat.not_le, -Nat.not_lt,abK];done)
   | (simp_all [aN, -Int.not_le, -Int.not_lt, -Nat.not_le, -Nat.not_lt,abK];omega)
   | (simp_all [aN,abK];done)
   | (simp_all [aN,abK];omega)
   | skip
def mD (v:ae):Int:=if v.gone=true∨aN v=false then 0 else v.bA - v.used
theorem sN {v:ae} (h:aN v=true) (hg:v.gone=false):0≤v.used∧v.used < v.bA∧v.bA≤32:=by
 simp[aN,hg] at h;omega
theorem L5 (b:Nat) (h:Hp) (f:Bool) (v:ae):run fns pr b 147 [v.aH f] h=some (.s (.int .i64 (mD v)),h):=by
 refine Vm.aQ (nt:=15) rfl QN (by simp) ?_
 have hr:=fun b h0 f x3_0 x3_1 x3_2 x3_3 x3_4 x3_5 x3_6 x3_7 x3_8=> dF b h0 f ⟨x3_0,x3_1,x3_2,x3_3,x3_4,x3_5,x3_6,x3_7,x3_8⟩
 simp only[Vm.iG,ae.aH,ae.enc,Request.aH,Request.enc,av.aH,av.enc,aC.enc,ah.enc,mh.enc,Answer.enc] at hr
 have hw:v.gone=false→aN v=true→IntKind.i64.wrap (v.bA - v.used)=v.bA - v.used:=fun h1 h2=> by
   have:=sN h2 h1
   exact wrap_i64 (by omega) (by omega)
 obtain ⟨iD,gen,iY,se,li,us,ow,go,wi⟩:=v
 have au:(0:Nat)=0:=rfl
 try simp only[LP,ae.aH,hr,go_sem,simprocAttr]
 repeat' (
   first | refine q5z ?_ ?_ | refine q3z ?_ ?_ | refine q4z ?_ ?_
   all_goals intro ai
   all_goals first | replace ai:=q2z ai | replace ai:=q1z ai | skip
   all_goals first | subst ai | replace au:=And.intro ai au
   all_goals try simp only[au,LP,ae.aH,hr,go_sem,simprocAttr])
 all_goals clear hr
 all_goals try simp only[decide_eq_true_eq,decide_eq_false_iff_not] at *
 all_goals first
   | (simp_all [mD, -Int.not_le, -Int.not_lt, -Nat.not_le, -Nat.not_lt,abK];done)
   | (simp_all [mD, -Int.not_le, -Int.not_lt, -Nat.not_le, -Nat.not_lt,abK];omega)
   | (simp_all [mD,abK];done)
   | (simp_all [mD,abK];omega)
   | skip
def eR (v:ae) (q:Request):Int:=if v.gen=0 then 22 else if v.gone=true then 24 else if q.op≠2∧q.owner≠v.owner then 25 else 0
theorem AN (b:Nat) (h:Hp) (f g:Bool) (v:ae) (q:Request):run fns pr b 129 [v.aH f,q.aH g] h=some (.s (.int .i64 (eR v q)),h):=by
 refine Vm.aQ (nt:=23) rfl Qg (by simp) ?_
 have au:(0:Nat)=0:=rfl
 try simp only[LC,ae.aH,Request.aH,bR,go_sem,simprocAttr]
 repeat' (
   first | refine q5z ?_ ?_ | refine q3z ?_ ?_ | refine q4z ?_ ?_
   all_goals intro ai
   all_goals first | replace ai:=q2z ai | replace ai:=q1z ai | skip
   all_goals first | subst ai | replace au:=And.intro ai au
   all_goals try simp only[au,LC,ae.aH,Request.aH,bR,go_sem,simprocAttr])
 all_goals try simp only[decide_eq_true_eq,decide_eq_false_iff_not] at *
 all_goals first
   | (simp_all [eR, -Int.not_le, -Int.not_lt, -Nat.not_le, -Nat.not_lt,abK];done)
   | (simp_all [eR, -Int.not_le, -Int.not_lt, -Nat.not_le, -Nat.not_lt,abK];omega)
   | (simp_all [eR,abK];done)
   | (simp_all [eR,abK];omega)
   | skip
def mE (v:ae):ae:= {v with used:=v.used+1}
def pf (v:ae) (q:Request) (r:av):ae×av×Bool:=
 if q.iY=v.iY then (v, {r with aL:=v.aL,left:=mD v},false)
 else if v.used+1=v.bA then (jL v true, {r with wK:=23},true)
 else (mE v, {r with wK:=23,left:=mD (mE v)},true)
theorem wS (b:Nat) (h:Hp) (f f' g:Bool) (v:ae) (q:Request) (r:av) (hr:aN v=true) (hg:v.gone=false):run fns pr b 130 [v.aH f,q.aH f',r.aH g] h=some (eo (pf v q r),h):=by
 refine Vm.aQ (nt:=41) rfl Qi (by simp) ?_
 have hu:=sN hr hg
 have hs:v.aL.length≤64:=by simp[aN,hg] at hr;omega
 have hc:=fun h0=> AM h.length h0 f v.aL (by omega)
 have hl:=fun b h0 f x3_0 x3_1 x3_2 x3_3 x3_4 x3_5 x3_6 x3_7 x3_8=> L5 b h0 f ⟨x3_0,x3_1,x3_2,x3_3,x3_4,x3_5,x3_6,x3_7,x3_8⟩
 simp only[Vm.iG,ae.aH,ae.enc,Request.aH,Request.enc,av.aH,av.enc,aC.enc,ah.enc,mh.enc,Answer.enc] at hl
 have hx:=fun b h0 f w x4_0 x4_1 x4_2 x4_3 x4_4 x4_5 x4_6 x4_7 x4_8=> Cw b h0 f w ⟨x4_0,x4_1,x4_2,x4_3,x4_4,x4_5,x4_6,x4_7,x4_8⟩
 simp only[Vm.iG,ae.aH,ae.enc,Request.aH,Request.enc,av.aH,av.enc,aC.enc,ah.enc,mh.enc,Answer.enc] at hx
 have hw:IntKind.i64.wrap (v.used+1)=v.used+1:=wrap_i64 (by omega) (by omega)
 clear hr
 obtain ⟨iD,gen,iY,se,li,us,ow,go,wi⟩:=v
 obtain ⟨op,id',pin',se',li',ow',ky,cl,nu⟩:=q
 obtain ⟨wK,id1,gen1,left1,se1,cl1,nu1⟩:=r
 by_cases p7:se=[]
 ·obtain ⟨uQ,uR⟩:=Q6 p7
  have au:(0:Nat)=0:=rfl
  try simp only[DO,ae.aH,Request.aH,av.aH,bR,hc,hl,hx,hw,uQ,uR,go_sem,simprocAttr]
  repeat' (
    first | refine q5z ?_ ?_ | refine q3z ?_ ?_ | refine q4z ?_ ?_
    all_goals intro ai
    all_goals first | replace ai:=q2z ai | replace ai:=q1z ai | skip
    all_goals first | subst ai | replace au:=And.intro ai au
    all_goals try simp only[au,DO,ae.aH,Request.aH,av.aH,bR,hc,hl,hx,hw,uQ,uR,go_sem,simprocAttr])
  all_goals clear hc uQ uR
  all_goals clear hl hx
  all_goals try simp only[decide_eq_true_eq,decide_eq_false_iff_not] at *
  all_goals first
    | (simp_all [pf,eo,ae.enc,av.enc,mE,jL, -Int.not_le, -Int.not_lt, -Nat.not_le, -Nat.not_lt,abK];done)
    | (simp_all [pf,eo,ae.enc,av.enc,mE,jL, -Int.not_le, -Int.not_lt, -Nat.not_le, -Nat.not_lt,abK];omega)
    | (simp_all [pf,eo,ae.enc,av.enc,mE,jL,abK];done)
    | (simp_all [pf,eo,ae.enc,av.enc,mE,jL,abK];omega)
    | skip
 ·obtain ⟨uQ,uR⟩:=Q7 p7
  have au:(0:Nat)=0:=rfl
  try simp only[DO,ae.aH,Request.aH,av.aH,bR,hc,hl,hx,hw,uQ,uR,iF,dU,eB,go_sem,simprocAttr]
  repeat' (
    first | refine q5z ?_ ?_ | refine q3z ?_ ?_ | refine q4z ?_ ?_
    all_goals intro ai
    all_goals first | replace ai:=q2z ai | replace ai:=q1z ai | skip
    all_goals first | subst ai | replace au:=And.intro ai au
    all_goals try simp only[au,DO,ae.aH,Request.aH,av.aH,bR,hc,hl,hx,hw,uQ,uR,iF,dU,eB,go_sem,simprocAttr])
  all_goals clear hc uQ uR
  all_goals clear hl hx
  all_goals try simp only[decide_eq_true_eq,decide_eq_false_iff_not] at *
  all_goals first
    | (simp_all [pf,eo,ae.enc,av.enc,mE,jL, -Int.not_le, -Int.not_lt, -Nat.not_le, -Nat.not_lt,abK];done)
    | (simp_all [pf,eo,ae.enc,av.enc,mE,jL, -Int.not_le, -Int.not_lt, -Nat.not_le, -Nat.not_lt,abK];omega)
    | (simp_all [pf,eo,ae.enc,av.enc,mE,jL,abK];done)
    | (simp_all [pf,eo,ae.enc,av.enc,mE,jL,abK];omega)
    | skip
def vdo (v:ae) (q:Request):ae×av×Bool:=
 if cM q=false∨v≠zeroV∧(aN v=false∨v.iD≠q.iD) then (zeroV, {kH with wK:=12},false)
 else
   let r:av:=⟨0,q.iD,v.gen,0,[],q.aO,q.num⟩
   if q.op=1 then (if v≠zeroV∧v.gone=false then (v, {r with wK:=14},false) else pe v q r)
   else if eR v q≠0 then (v, {r with wK:=eR v q},false)
   else if q.op=2 then pf v q {r with wK:=eR v q}
   else if q.op=3 then pe v q {r with wK:=eR v q}
   else (jL v false, {r with wK:=eR v q},true)
theorem q14z {v:ae} (h:aN v=true):v.aL.length≤64:=by
 simp[aN] at h
 have:=h.2
 split at this <;> simp_all
theorem uS {q:Request} (h:cM q=true):q.aL.length≤64:=by
 simp[cM] at h
 have:=h.2
 repeat' split at this
 all_goals simp_all
theorem L6 (f:Bool):zeroV.aH f=V.st 37 [.arr 28 (od.map aa),.s (.int .u64 0),.arr 22 (bp.map aa),.aq f none [],.s (.int .i64 0),.s (.int .i64 0),.arr 22 (bp.map aa),.s (.bool false),.s (.bool false)]:=rfl
theorem yr {v:ae} (h:aN v=true):1≤v.gen:=by
 simp[aN] at h;exact h.1.1
def Cx (v:ae) (q:Request):ae×av×Bool:=
 if q.op=1 then (if v≠zeroV∧v.gone=false then (v,⟨14,q.iD,v.gen,0,[],q.aO,q.num⟩,false) else pe v q ⟨0,q.iD,v.gen,0,[],q.aO,q.num⟩)
 else if eR v q≠0 then (v,⟨eR v q,q.iD,v.gen,0,[],q.aO,q.num⟩,false)
 else if q.op=2 then pf v q ⟨0,q.iD,v.gen,0,[],q.aO,q.num⟩
 else if q.op=3 then pe v q ⟨0,q.iD,v.gen,0,[],q.aO,q.num⟩
 else (jL v false,⟨0,q.iD,v.gen,0,[],q.aO,q.num⟩,true)
theorem L7 (b:Nat) (h:Hp) (f g:Bool) (v:ae) (q:Request) (hg:0≤v.gen) (hq:cM q=true) (hz:v=zeroV∨aN v=true∧v.iD=q.iD):run fns pr b 77 [v.aH f,q.aH g] h=some (eo (Cx v q),h):=by
 unfold Cx
 refine Vm.aQ (nt:=96) rfl VY (by simp) ?_
 have hs:v.aL.length≤64:=by
   rcases hz with rfl | hz
   ·decide
   ·exact q14z hz.1
 have hsq:=uS hq
 have h1:=fun b h0 f g x4_0 x4_1 x4_2 x4_3 x4_4 x4_5 x4_6 x4_7 x4_8=> vr b h0 f g ⟨x4_0,x4_1,x4_2,x4_3,x4_4,x4_5,x4_6,x4_7,x4_8⟩ zeroV
 simp only[L6] at h1
 simp only[Vm.iG,ae.aH,ae.enc,Request.aH,Request.enc,av.aH,av.enc,aC.enc,ah.enc,mh.enc,Answer.enc] at h1
 have h2:=fun b h0 f x3_0 x3_1 x3_2 x3_3 x3_4 x3_5 x3_6 x3_7 x3_8=> gV b h0 f ⟨x3_0,x3_1,x3_2,x3_3,x3_4,x3_5,x3_6,x3_7,x3_8⟩
 simp only[Vm.iG,ae.aH,ae.enc,Request.aH,Request.enc,av.aH,av.enc,aC.enc,ah.enc,mh.enc,Answer.enc] at h2
 have h3:=fun b h0 f x3_0 x3_1 x3_2 x3_3 x3_4 x3_5 x3_6 x3_7 x3_8=> dF b h0 f ⟨x3_0,x3_1,x3_2,x3_3,x3_4,x3_5,x3_6,x3_7,x3_8⟩
 simp only[Vm.iG,ae.aH,ae.enc,Request.aH,Request.enc,av.aH,av.enc,aC.enc,ah.enc,mh.enc,Answer.enc] at h3
 have h6:=fun b h0 f g x4_0 x4_1 x4_2 x4_3 x4_4 x4_5 x4_6 x4_7 x4_8 x5_0 x5_1 x5_2 x5_3 x5_4 x5_5 x5_6 x5_7 x5_8=> AN b h0 f g ⟨x4_0,x4_1,x4_2,x4_3,x4_4,x4_5,x4_6,x4_7,x4_8⟩ ⟨x5_0,x5_1,x5_2,x5_3,x5_4,x5_5,x5_6,x5_7,x5_8⟩
 simp only[Vm.iG,ae.aH,ae.enc,Request.aH,Request.enc,av.aH,av.enc,aC.enc,ah.enc,mh.enc,Answer.enc] at h6
 have h8:=fun b h0 f w x4_0 x4_1 x4_2 x4_3 x4_4 x4_5 x4_6 x4_7 x4_8=> Cw b h0 f w ⟨x4_0,x4_1,x4_2,x4_3,x4_4,x4_5,x4_6,x4_7,x4_8⟩
 simp only[Vm.iG,ae.aH,ae.enc,Request.aH,Request.enc,av.aH,av.enc,aC.enc,ah.enc,mh.enc,Answer.enc] at h8
 have h4:=fun b h0=> Q8 b h0 f v (by omega)
 have h5:=fun b h0 f f' g x1 x2 x3 x4 x6 x7=> DZ b h0 f f' g v q ⟨x1,x2,x3,x4,[],x6,x7⟩ hg (by omega)
 have h7:eR v q=0→∀b h0 f f' g x1 x2 x3 x4 x6 x7,run fns pr b 130 [v.aH f,q.aH f',av.aH g ⟨x1,x2,x3,x4,[],x6,x7⟩] h0=some (eo (pf v q ⟨x1,x2,x3,x4,[],x6,x7⟩),h0):=by
   intro hm b h0 f f' g x1 x2 x3 x4 x6 x7
   simp only[eR] at hm
   rcases hz with rfl | hz
   ·simp[zeroV] at hm
   ·refine wS b h0 f f' g v q _ hz.1 ?_
    cases hgo:v.gone with
    | false=> rfl
    | true=> rw[if_neg (by have:=yr hz.1;omega),if_pos hgo] at hm;cases hm
 have hi:v≠zeroV→aN v=true∧v.iD=q.iD:=fun h=> hz.resolve_left h
 clear hz hs hsq
 have hm0:0≤eR v q:=by
   unfold eR;repeat' split
   all_goals omega
 generalize Ac:eR v q=m at *
 obtain ⟨iD,gen,iY,se,li,us,ow,go,wi⟩:=v
 obtain ⟨op,id',pin',se',li',ow',ky,cl,nu⟩:=q
 simp only[ae.aH,Request.aH,av.aH,ab1,eo] at h4 h5 h7
 simp only[ae.enc] at h4
 simp only[ne_eq] at hi ⊢
 by_cases hm:m=0
 ·subst hm
  replace h7:=h7 rfl
  have Xt:=Ac
  simp only[eR] at Ac
  have au:(0:Nat)=0:=rfl
  try simp only[B77,ae.aH,Request.aH,av.aH,bR,jK,dr,h1,h2,h3,h4,h5,h6,h7,h8,hq,Xt,bq,rO,bu,rP,lq,rQ,go_sem,simprocAttr]
  repeat' (
    first | refine q5z ?_ ?_ | refine q3z ?_ ?_ | refine q4z ?_ ?_
    all_goals intro ai
    all_goals first | replace ai:=q2z ai | replace ai:=q1z ai | skip
    all_goals first | subst ai | replace au:=And.intro ai au
    all_goals try simp only[au,B77,ae.aH,Request.aH,av.aH,bR,jK,dr,h1,h2,h3,h4,h5,h6,h7,h8,hq,Xt,bq,rO,bu,rP,lq,rQ,go_sem,simprocAttr])
  all_goals clear h4 h5 h7
  all_goals clear h1 h2 h3 h6 h8
  all_goals try simp only[decide_eq_true_eq,decide_eq_false_iff_not] at *
  all_goals first
    | (simp_all [eo,ae.enc,av.enc, -Int.not_le, -Int.not_lt, -Nat.not_le, -Nat.not_lt,abK];done)
    | (simp_all [eo,ae.enc,av.enc, -Int.not_le, -Int.not_lt, -Nat.not_le, -Nat.not_lt,abK];omega)
    | (simp_all [eo,ae.enc,av.enc,abK];done)
    | (simp_all [eo,ae.enc,av.enc,abK];omega)
    | skip
 ·clear h7
  have hm':decide (m=0)=false:=by simp[hm]
  have au:(0:Nat)=0:=rfl
  try simp only[B77,ae.aH,Request.aH,av.aH,bR,jK,dr,h1,h2,h3,h4,h5,h6,h8,hq,Ac,hm',bq,rO,bu,rP,lq,rQ,go_sem,simprocAttr]
  repeat' (
    first | refine q5z ?_ ?_ | refine q3z ?_ ?_ | refine q4z ?_ ?_
    all_goals intro ai
    all_goals first | replace ai:=q2z ai | replace ai:=q1z ai | skip
    all_goals first | subst ai | replace au:=And.intro ai au
    all_goals try simp only[au,B77,ae.aH,Request.aH,av.aH,bR,jK,dr,h1,h2,h3,h4,h5,h6,h8,hq,Ac,hm',bq,rO,bu,rP,lq,rQ,go_sem,simprocAttr])
  all_goals clear h4 h5
  all_goals clear h1 h2 h3 h6 h8
  all_goals try simp only[decide_eq_true_eq,decide_eq_false_iff_not] at *
  all_goals first
    | (simp_all [eo,ae.enc,av.enc, -Int.not_le, -Int.not_lt, -Nat.not_le, -Nat.not_lt,abK];done)
    | (simp_all [eo,ae.enc,av.enc, -Int.not_le, -Int.not_lt, -Nat.not_le, -Nat.not_lt,abK];omega)
    | (simp_all [eo,ae.enc,av.enc,abK];done)
    | (simp_all [eo,ae.enc,av.enc,abK];omega)
    | skip
  all_goals (clear hi Ac hm0;simp_all [eo,ae.enc,av.enc,zeroV])
def vt (v:ae):UInt8:=if v.qJ=true then 3 else if v.gone=true then 1 else 0
def bg (v:ae):Bs:=v.iD++(aE v.gen.toNat++([vt v,bt v.bA,bt v.used]++(v.iY++(v.owner++([bt v.aL.length]++v.aL)))))
theorem mF (b:Nat) (h:Hp) (f:Bool) (v:ae) (hw:v.wf) (hs:v.aL.length≤100000):run fns pr b 98 [v.aH f] h=some (.aq false none ((bg v).map aa),h):=by
 refine Vm.aQ (nt:=36) rfl WA (by simp) ?_
 obtain ⟨w1,w2,w3,w4,w5,w6,w7,w8,w9⟩:=hw
 obtain ⟨id,ge,iY,se,li,us,ow,go,wi⟩:=v
 simp only at w1 w2 w3 w4 w5 w6 w7 hs
 obtain ⟨g,rfl⟩:∃g:Nat,ge=(g:Int):=⟨ge.toNat,by omega⟩
 have l1:(id.map aa).length=4:=by simp[w1]
 have l2:(iY.map aa).length=16:=by simp[w3]
 have l3:(ow.map aa).length=16:=by simp[w7]
 have n1:=fun H (hh:h.length≤H.length)=> de h.length H g (by omega) hh
 have key:∀fl:UInt8,vt ⟨id,g,iY,se,li,us,ow,go,wi⟩=fl→∀H,H=h++[aT.cells (some 37) [V.st 37 [.arr 28 (id.map aa),.s (.int .u64 (g:Int)),.arr 22 (iY.map aa),.aq f none (se.map aa),.s (.int .i64 li),.s (.int .i64 us),.arr 22 (ow.map aa),.s (.bool go),.s (.bool wi)]],.cells none ((aE g).map aa)]→
  run fns pr h.length 133 [.aq true none [.ref h.length [0,0] none 0 4 1,.ref (h.length+1) [] none 0 8 8,.aq true none [aa fl,aa (bt li),aa (bt us)],.ref h.length [0,2] none 0 16 1,.ref h.length [0,6] none 0 16 1,.aq true none [aa (bt se.length)],.aq f none (se.map aa)]] H
    =some (.aq false none ((bg ⟨id,g,iY,se,li,us,ow,go,wi⟩).map aa),H):=by
   rintro fl nZ H rfl
   have:=qb h.length (h++[aT.cells (some 37) [V.st 37 [.arr 28 (id.map aa),.s (.int .u64 (g:Int)),.arr 22 (iY.map aa),.aq f none (se.map aa),.s (.int .i64 li),.s (.int .i64 us),.arr 22 (ow.map aa),.s (.bool go),.s (.bool wi)]],.cells none ((aE g).map aa)]) (.aq true none [.ref h.length [0,0] none 0 4 1,.ref (h.length+1) [] none 0 8 8,.aq true none [aa fl,aa (bt li),aa (bt us)],.ref h.length [0,2] none 0 16 1,.ref h.length [0,6] none 0 16 1,.aq true none [aa (bt se.length)],.aq f none (se.map aa)]) 7 _ [id,aE g,[fl,bt li,bt us],iY,ow,[bt se.length],se] (.inl ⟨true,rfl⟩) rfl (by omega) ⟨rfl,fun i v m hv hm=> by
     match i,hv,hm with
     | 0,hv,hm=> cases hv;cases hm;exact Rd.mk' (by simp only[bQ,go_sem,simprocAttr,abO,abI,Vm.aJ,Vm.bx,Vm.aZ,Vm.aU,Vm.bc,Vm.aX,abJ,ab2,cQ,acg,abG (ac4 l1)]) (by simp[eM,w1])
     | 1,hv,hm=> cases hv;cases hm;exact BR.rd (ch (sG h _ _).2 (aF _))
     | 2,hv,hm=> cases hv;cases hm;exact BR.rd (ck _ true [fl,bt li,bt us])
     | 3,hv,hm=> cases hv;cases hm;exact Rd.mk' (by simp only[bQ,go_sem,simprocAttr,abO,abI,Vm.aJ,Vm.bx,Vm.aZ,Vm.aU,Vm.bc,Vm.aX,abJ,ab2,cQ,acg,abG (ac4 l2)]) (by simp[eM,w3])
     | 4,hv,hm=> cases hv;cases hm;exact Rd.mk' (by simp only[bQ,go_sem,simprocAttr,abO,abI,Vm.aJ,Vm.bx,Vm.aZ,Vm.aU,Vm.bc,Vm.aX,abJ,ab2,cQ,acg,abG (ac4 l3)]) (by simp[eM,w7])
     | 5,hv,hm=> cases hv;cases hm;exact BR.rd (ck _ true [bt se.length])
     | 6,hv,hm=> cases hv;cases hm;exact BR.rd (ck _ f se)
     | i+7,hv,hm=> simp at hv⟩ (by simp;omega)
   rw[this]
   simp only[bg,nZ,ada,aei,ab8,aca]
 have k1:=fun fl nZ=> key fl nZ _ rfl
 have b3:V.s (.int .u8 3)=aa 3:=rfl
 have b1:V.s (.int .u8 1)=aa 1:=rfl
 have b0:V.s (.int .u8 0)=aa 0:=rfl
 cases wi with
 | true=>
   have k2:=k1 3 rfl
   simp only[B98,ae.aH,l1,l2,l3,n1,mH,lf,fo,gS,eA,k2,b3,go_sem,simprocAttr]
 | false=>
   cases go with
   | true=>
     have k2:=k1 1 rfl
     simp only[B98,ae.aH,l1,l2,l3,n1,mH,lf,fo,gS,eA,k2,b1,go_sem,simprocAttr]
   | false=>
     have k2:=k1 0 rfl
     rw[←b0] at k2
     simp only[B98,ae.aH,l1,l2,l3,n1,mH,lf,fo,gS,eA,k2,go_sem,simprocAttr]
theorem Is (b:Nat) (h:Hp) (f:Bool) (v:ae) (hw:v.wf):run fns pr b 111 [v.aH f] h=some (if aN v=true then .bM [.aq false none ((bg v).map aa),.s (.int .i64 0)] else .bM [.aq false none [],.s (.int .i64 1)],h):=by
 refine Vm.aQ (nt:=9) rfl Px (by simp) ?_
 have hr:=fun h0=> dF h.length h0 f v
 cases c:aN v with
 | false=>
   rw[c] at hr
   simp only[Lx,iC,iE,hr,go_sem,simprocAttr]
 | true=>
   rw[c] at hr
   have hp:=fun h0=> mF h.length h0 f v hw (by have:=q14z c;omega)
   simp only[Lx,iC,iE,hr,hp,go_sem,simprocAttr]
theorem L8 (b:Nat) (h:Hp) (f:Bool) (v:ae):run fns pr b 91 [v.aH f] h=some (.s (.bool (decide (v=zeroV))),h):=by
 refine Vm.aQ (nt:=6) rfl Wn (by simp) ?_
 have he:=fun h0 f g v w=> vr h.length h0 f g v w
 simp only[B91,he,dr,jK,L4,iC,iE,go_sem,simprocAttr]
theorem L9 (b:Nat) (h:Hp) (xs:List V):run fns pr b 110 xs h=yh xs h:=by rw[oG fns pr rfl];rfl
def iP (l:List ae) (i:Nat):Bool:=aN (l.getD i zeroV)&&(i==0 || decide (Lib.compareBytes (l.getD (i - 1) zeroV).iD (l.getD i zeroV).iD < 0))
def dj (l:List ae):Bool:=decide (l.length≤4)&&(List.range l.length).all (iP l)
theorem vu {l:List ae} {i:Nat} (hi:i < l.length) (h:iP l i=false):dj l=false:=by
 unfold dj
 rw[adP];right
 rw[List.all_eq_false]
 exact ⟨i,acL.2 hi,by simp[h]⟩
theorem D2 (b:Nat) (h:Hp) (x:V) (l:List ae) (jF:SR h x (some 37) (l.map ae.enc)) (hw:∀v∈l,v.wf):run fns pr b 93 [x] h=some (.s (.bool (dj l)),h):=by
 refine Vm.aQ (nt:=35) rfl Wq (by simp) ?_
 have kF:∀cf base H,aB cf base H .len [x]=some (.s (.int .i64 (l.length:Nat)),H):=fun cf base H=> by rw[jF.bG];simp
 by_cases c4:l.length≤4
 case neg=>
   have c':(4:Int)<((l.length:Nat):Int):=by omega
   have hf:dj l=false:=by simp[dj,c4]
   rw[hf]
   simp only[B93,Hh,Hg,kF,c',abL,go_sem,↓reduceIte,Nat.reduceEqDiff,Nat.reduceBEq,Nat.reduceAdd,Nat.reduceSub,Nat.reduceLT,Nat.reduceLeDiff,Int.reduceLT,Int.reduceLE,Int.reduceEq,Int.reduceToNat]
 have c':¬(4:Int)<((l.length:Nat):Int):=by omega
 simp only[B93,Hh,Hg,kF,c',go_sem,↓reduceIte,Nat.reduceEqDiff,Nat.reduceBEq,Nat.reduceAdd,Nat.reduceSub,Nat.reduceLT,Nat.reduceLeDiff,Int.reduceLT,Int.reduceLE,Int.reduceEq,Int.reduceToNat]
 refine bo (fun q e H=>∃j,q=l.length - j∧j≤l.length∧e 10= .s (.int .i64 (j:Nat))∧e 9= .s (.int .i64 (l.length:Nat))∧e 8=x∧e 0=x∧Fw [] h H∧(∀i,i < j→iP l i=true))
   (fun e H=> Fw [] h H∧dj l=true) l.length _ _ ⟨0,rfl,by omega,rfl,rfl,rfl,rfl,Fw.refl _ _,fun i hi=> by omega⟩ ?_ ?_
 ·rintro q e H ⟨j,rfl,hj,e10,e9,e8,e0,fw,cJ⟩
  by_cases cd:j < l.length
  ·have cj:(j:Int)<((l.length:Nat):Int):=by omega
   have hjv:l[j]? =some (l.getD j zeroV):=by rw[List.getD,abE cd];rfl
   have i1:=fun cf base=>(jF.fw fw).cZ (cf:=cf) (base:=base) (k:= .i64) (i:=j) (by simpa using cd)
   have i2:=fun cf base=>(jF.fw fw).iy (cf:=cf) (base:=base) (i:=j) (v:=(l.getD j zeroV).enc) (by rw[abT,hjv];rfl) rfl
   have hr:=fun h0=> uP h.length h0 (l.getD j zeroV)
   have w3:IntKind.i64.wrap ((j:Int)+1)=((j+1:Nat):Int):=q17z (by omega)
   have hle:=fw.len
   have tk:∀X,(H++X).take h.length=h:=fun X=>(fw.trans (Fw.app [] H X)).take
   have fX:∀X,Fw [] h (H++X):=fun X=> fw.trans (Fw.app [] H X)
   cases jY:aN (l.getD j zeroV) with
   | false=>
     rw[jY] at hr
     rw[vu cd (by unfold iP;rw[jY];rfl)]
     simp only[e10,e9,e8,e0,cj,i1,i2,bq,bu,hr,hle,tk,go_sem,↓reduceIte,Nat.reduceEqDiff,Nat.reduceBEq,Nat.reduceAdd,Nat.reduceSub,Nat.reduceLT,Nat.reduceLeDiff,Int.reduceLT,Int.reduceLE,Int.reduceEq,Int.reduceToNat]
   | true=>
     rw[jY] at hr
     by_cases j0:j=0
     ·subst j0
      have c0:¬(0:Int)<((0:Nat):Int):=by omega
      simp only[e10,e9,e8,e0,cj,i1,i2,bq,bu,hr,w3,hle,c0,go_sem,↓reduceIte,Nat.reduceEqDiff,Nat.reduceBEq,Nat.reduceAdd,Nat.reduceSub,Nat.reduceLT,Nat.reduceLeDiff,Int.reduceLT,Int.reduceLE,Int.reduceEq,Int.reduceToNat]
      refine ⟨l.length - 1,by omega,1,rfl,by omega,rfl,fX _,fun i hi=> ?_⟩
      obtain rfl:i=0:=by omega
      unfold iP;rw[jY];rfl
     ·have c0:(0:Int)<((j:Nat):Int):=by omega
      have w4:IntKind.i64.wrap ((j:Int) - 1)=((j - 1:Nat):Int):=by rw[wrap_i64 (by omega) (by omega)];omega
      have hjp:l[j - 1]? =some (l.getD (j - 1) zeroV):=by rw[List.getD,abE (by omega)];rfl
      have wf1:=hw _ (abS hjp)
      have wf2:=hw _ (abS hjv)
      have p1:=fun cf base=>((jF.fw (fX [.cells (some 37) [(l.getD j zeroV).enc]]))).cZ (cf:=cf) (base:=base) (k:= .i64) (i:=j - 1) (by simp;omega)
      generalize Cy:l.getD (j - 1) zeroV=v1 at hjp wf1
      generalize hv2:l.getD j zeroV=v2 at *
      obtain ⟨a1,a2,a3,a4,a5,a6,a7,a8,a9⟩:=v1
      obtain ⟨c1,c2,c3,c4,c5,c6,c7,c8,c9⟩:=v2
      have sX:=jF.fw (fX [.cells (some 37) [ae.enc ⟨c1,c2,c3,c4,c5,c6,c7,c8,c9⟩]])
      have qO:(l.map ae.enc)[j - 1]? =some (.st 37 [.arr 28 (a1.map aa),.s (.int .u64 a2),.arr 22 (a3.map aa),.aq false none (a4.map aa),.s (.int .i64 a5),.s (.int .i64 a6),.arr 22 (a7.map aa),.s (.bool a8),.s (.bool a9)]):=by rw[abT,hjp];rfl
      have p2:=fun cf base=> sX.AO (cf:=cf) (base:=base) qO (f:=0) (by simp)
      have p3:=fun cf base=> sX.OE (cf:=cf) (base:=base) (g':=none) qO (f:=0) rfl
      have p4:=vv sX (g':=none) qO (f:=0) rfl
      have l2:(c1.map aa).length=4:=by simpa using wf2.iD
      simp only[e10,e9,e8,e0,cj,i1,i2,bq,bu,hr,w3,hle,c0,w4,p1,p2,p3,go_sem,↓reduceIte,Nat.reduceEqDiff,Nat.reduceBEq,Nat.reduceAdd,Nat.reduceSub,Nat.reduceLT,Nat.reduceLeDiff,Int.reduceLT,Int.reduceLE,Int.reduceEq,Int.reduceToNat]
      simp only[ae.enc,abX] at p4 ⊢
      simp only[L9,It,p4,bQ,l2,cQ,abG (ac4 l2),sO,go_sem,↓reduceIte,Nat.reduceEqDiff,Nat.reduceBEq,Nat.reduceAdd,Nat.reduceSub,Nat.reduceLT,Nat.reduceLeDiff,Int.reduceLT,Int.reduceLE,Int.reduceEq,Int.reduceToNat]
      by_cases cc:Lib.compareBytes a1 c1 < 0
      ·have cc':¬(0:Int)≤Lib.compareBytes a1 c1:=by omega
       simp only[cc',w3,e10,e9,e8,e0,go_sem,↓reduceIte,Nat.reduceEqDiff,Nat.reduceBEq,Nat.reduceAdd,Nat.reduceSub,Nat.reduceLT,Nat.reduceLeDiff,Int.reduceLT,Int.reduceLE,Int.reduceEq,Int.reduceToNat]
       refine ⟨l.length - (j+1),by omega,j+1,rfl,by omega,rfl,fX _,fun i hi=> ?_⟩
       by_cases hij:i=j
       ·subst hij
        unfold iP
        rw[Cy,hv2,jY]
        simp[cc]
       ·exact cJ i (by omega)
      ·have cc':(0:Int)≤Lib.compareBytes a1 c1:=by omega
       have hno:iP l j=false:=by
         unfold iP
         rw[Cy,hv2,jY]
         simp[cc,j0]
       rw[vu cd hno]
       simp only[cc',tk,go_sem,↓reduceIte,Nat.reduceEqDiff,Nat.reduceBEq,Nat.reduceAdd,Nat.reduceSub,Nat.reduceLT,Nat.reduceLeDiff,Int.reduceLT,Int.reduceLE,Int.reduceEq,Int.reduceToNat]
  ·have cj:¬(j:Int)<((l.length:Nat):Int):=by omega
   have xY:j=l.length:=by omega
   subst xY
   simp only[e10,e9,e8,e0,cj,go_sem,↓reduceIte,Nat.reduceEqDiff,Nat.reduceBEq,Nat.reduceAdd,Nat.reduceSub,Nat.reduceLT,Nat.reduceLeDiff,Int.reduceLT,Int.reduceLE,Int.reduceEq,Int.reduceToNat]
   refine ⟨fw,?_⟩
   unfold dj
   rw[decide_eq_true c4,acz,abZ]
   exact fun i hi=> cJ i (acL.1 hi)
 ·rintro e H ⟨fw,hf⟩
  rw[hf]
  have dQ:=fw.take
  simp only[dQ,go_sem,↓reduceIte,Nat.reduceEqDiff,Nat.reduceBEq,Nat.reduceAdd,Nat.reduceSub,Nat.reduceLT,Nat.reduceLeDiff,Int.reduceLT,Int.reduceLE,Int.reduceEq,Int.reduceToNat]
def lu (r:aC):Bool:=decide (1≤r.aI)&& decide (r.aI≤1099511627776)&& decide (0≤r.aD)&& decide (r.aD < 16)&& decide (r.ax=zeroV)
def bm (r:aC):Bool:=
 if r.kind=1 then aN r.ax && decide (r.aD=0)&& decide (r.dS=0)&& decide (r.aI=0)&& decide (r.aj.length=0)
 else if r.kind=2 then lu r && decide (0≤r.dS)&& decide (r.dS < 8)&& decide (r.aj.length=0)
 else if r.kind=3 then lu r && decide (r.dS=0)&& dj r.aj
 else if r.kind=4 then lu r && decide (r.dS=0)&& decide (r.aj.length=0) else false
theorem rD (b:Nat) (h:Hp) (f:Bool) (x:V) (r:aC) (jF:SR h x (some 37) (r.aj.map ae.enc)) (hw:∀v∈r.aj,v.wf):run fns pr b 47 [.st 40 [.s (.int .i64 r.kind),.s (.int .i64 r.aD),.s (.int .i64 r.dS),.s (.int .u64 r.aI),r.ax.aH f,x]] h=some (.s (.bool (bm r)),h):=by
 refine Vm.aQ (nt:=101) rfl U0 (by simp) ?_
 obtain ⟨kind,aD,dS,aI,ax,aj⟩:=r
 simp only at jF hw ⊢
 have h1:=fun h0=> L8 h.length h0 f ax
 have h2:=fun h0=> dF h.length h0 f ax
 have h3:∀B,run fns pr h.length 93 [x] (h++[B])=some (.s (.bool (dj aj)),h++[B]):=fun B=> D2 h.length _ x aj (jF.fw (Fw.app [] h _)) hw
 have kF:∀cf base H,aB cf base H .len [x]=some (.s (.int .i64 (aj.length:Nat)),H):=fun cf base H=> by rw[jF.bG];simp
 have DX:(((aj.length:Nat):Int)=0)=(aj.length=0):=propext (by omega)
 have dO:x.ty=none:=by rcases jF with ⟨f,rfl⟩ | ⟨_,_,_,_,rfl,_⟩<;> rfl
 have ny:x.aw=true:=by rcases jF with ⟨f,rfl⟩ | ⟨_,_,_,_,rfl,_⟩<;> rfl
 have au:(0:Nat)=0:=rfl
 try simp only[B47,h1,h2,h3,kF,DX,iC,iE,dO,ny,go_sem,simprocAttr]
 repeat' (
   first | refine q5z ?_ ?_ | refine q3z ?_ ?_ | refine q4z ?_ ?_
   all_goals intro ai
   all_goals first | replace ai:=q2z ai | replace ai:=q1z ai | skip
   all_goals first | subst ai | replace au:=And.intro ai au
   all_goals try simp only[au,B47,h1,h2,h3,kF,DX,iC,iE,dO,ny,go_sem,simprocAttr])
 all_goals clear h1 h2 h3 kF
 all_goals try simp only[decide_eq_true_eq,decide_eq_false_iff_not] at *
 all_goals first
   | (simp_all [bm,lu, -Int.not_le, -Int.not_lt, -Nat.not_le, -Nat.not_lt,abK];done)
   | (simp_all [bm,lu, -Int.not_le, -Int.not_lt, -Nat.not_le, -Nat.not_lt,abK];omega)
   | (simp_all [bm,lu,abK];done)
   | (simp_all [bm,lu,abK];omega)
   | skip
theorem mI (b:Nat) (h:Hp) (r:aC) (hw:∀v∈r.aj,v.wf):run fns pr b 47 [r.enc] h=some (.s (.bool (bm r)),h):=by
 have:=rD b h false (.aq false (some 37) (r.aj.map ae.enc)) r (.inl ⟨false,rfl⟩) hw
 rw[←ae.kG] at this
 exact this
def mJ (r:aC):Bs:=
 if r.kind=1 then bt r.kind::bg r.ax
 else if r.kind=2 then bt r.kind::bt r.aD::bt r.dS::aE r.aI.toNat
 else if r.kind=3 then bt r.kind::bt r.aD::(aE r.aI.toNat++(bt r.aj.length::r.aj.flatMap bg))
 else bt r.kind::bt r.aD::aE r.aI.toNat
structure Rok (r:aC):Prop where
 k:r.kind=1∨r.kind=2∨r.kind=3∨r.kind=4
theorem q29z {r:aC} (h:bm r=true):r.kind=1∨r.kind=2∨r.kind=3∨r.kind=4:=by
 unfold bm at h
 split at h; · left;assumption
 split at h; · right;left;assumption
 split at h; · right;right;left;assumption
 split at h; · right;right;right;assumption
 cases h
theorem D4 (b:Nat) (h:Hp) (r:aC) (hw:r.wf) (hwv:∀v∈r.aj,v.wf):run fns pr b 51 [r.enc] h=some (if bm r=true then .bM [.aq false none ((mJ r).map aa),.s (.int .i64 0)] else .bM [.aq false none [],.s (.int .i64 1)],h):=by
 refine Vm.aQ (nt:=79) rfl U8 (by simp) ?_
 have xZ:=fun h0=> mI h.length h0 r hwv
 have dO:r.enc.ty=some 40:=rfl
 have ny:r.enc.aw=true:=rfl
 cases c:bm r with
 | false=>
   rw[c] at xZ
   simp only[B51,G4,xZ,dO,ny,go_sem,simprocAttr]
 | true=>
   rw[c] at xZ
   have hk:=q29z c
   simp only[B51,G4,xZ,dO,ny,go_sem,simprocAttr]
   obtain ⟨kind,aD,dS,aI,ax,aj⟩:=r
   obtain ⟨w1,w2,w3,w4,w5⟩:=hw
   simp only at hk w4 w5 hwv
   obtain ⟨ep,rfl⟩:∃g:Nat,aI=(g:Int):=⟨aI.toNat,by omega⟩
   have N0:∀(A:aT) (x:UInt8) (X:Hp),iS h (h++A:: .cells none [aa x]::X) (.ref (h.length+1) [] none 0 1 1) [x]:=fun A x X=>⟨h.length+1,.inr ⟨rfl,by rw[abU (by omega)];simp⟩,by omega,Fw.app [] h _⟩
   have bl:∀(x:UInt8),(none:Option Nat)=(aa x).ty∧(aa x).aw=true:=fun x=>⟨rfl,rfl⟩
   rcases hk with rfl | rfl | rfl | rfl
   ·have c1:aN ax=true:=by
      simp only[bm,if_true,abH] at c
      exact c.1.1.1.1
    have hp:=fun h0=> mF h.length h0 false ax w5 (by have:=q14z c1;omega)
    rw[←ae.kG] at hp
    obtain ⟨v1,H1,a1,N1⟩:=(N0 (.cells (some 40) [.st 40 [.s (.int .i64 1),.s (.int .i64 aD),.s (.int .i64 dS),.s (.int .u64 (ep:Int)),ax.enc,.aq false (some 37) (aj.map fun z=> z.enc)]]) (bt 1) []).app (y:= .aq false none ((bg ax).map aa)) (m:=bg ax) rfl (by simp[bg];have:=q14z c1;have:=w5.iD;have:=w5.iY;have:=w5.owner;omega)
    have df:=N1.o4 (n:=h.length) (abJ _)
    have dQ:=N1.fw.take
    simp only[aC.enc,mH,bq,bu,hp,a1,df,dQ,mJ,go_sem,simprocAttr]
   ·-- out
    have hA:∀X,(h++(.cells (some 40) [.st 40 [.s (.int .i64 2),.s (.int .i64 aD),.s (.int .i64 dS),.s (.int .u64 (ep:Int)),ax.enc,.aq false (some 37) (aj.map fun z=> z.enc)]])::X)[h.length]? =some (.cells (some 40) [.st 40 [.s (.int .i64 2),.s (.int .i64 aD),.s (.int .i64 dS),.s (.int .u64 (ep:Int)),ax.enc,.aq false (some 37) (aj.map fun z=> z.enc)]]):=fun X=> by simp
    have f1:Fw [] (h++[(.cells (some 40) [.st 40 [.s (.int .i64 2),.s (.int .i64 aD),.s (.int .i64 dS),.s (.int .u64 (ep:Int)),ax.enc,.aq false (some 37) (aj.map fun z=> z.enc)]])]) (h++(.cells (some 40) [.st 40 [.s (.int .i64 2),.s (.int .i64 aD),.s (.int .i64 dS),.s (.int .u64 (ep:Int)),ax.enc,.aq false (some 37) (aj.map fun z=> z.enc)]]):: .cells none [aa (bt 2)]::[.cells none [aa (bt aD),aa (bt dS)]]):=by
      have:=Fw.app [] (h++[(.cells (some 40) [.st 40 [.s (.int .i64 2),.s (.int .i64 aD),.s (.int .i64 dS),.s (.int .u64 (ep:Int)),ax.enc,.aq false (some 37) (aj.map fun z=> z.enc)]])]) [.cells none [aa (bt 2)],.cells none [aa (bt aD),aa (bt dS)]]
      simpa using this
    have M0:iS (h++[(.cells (some 40) [.st 40 [.s (.int .i64 2),.s (.int .i64 aD),.s (.int .i64 dS),.s (.int .u64 (ep:Int)),ax.enc,.aq false (some 37) (aj.map fun z=> z.enc)]])]) (h++(.cells (some 40) [.st 40 [.s (.int .i64 2),.s (.int .i64 aD),.s (.int .i64 dS),.s (.int .u64 (ep:Int)),ax.enc,.aq false (some 37) (aj.map fun z=> z.enc)]]):: .cells none [aa (bt 2)]::[.cells none [aa (bt aD),aa (bt dS)]]) (.ref (h.length+1) [] none 0 1 1) [bt 2]:=⟨h.length+1,.inr ⟨rfl,by rw[abU (by omega)];simp⟩,by simp,f1⟩
    obtain ⟨v1,H1,a1,N1⟩:=M0.app (y:= .ref (h.length+2) [] none 0 2 2) (m:=[bt aD,bt dS]) (BR.src (ch (l:=[bt aD,bt dS]) (by rw[abU (by omega)];simp) rfl)) (by simp)
    have sH:h.length≤H1.length:=by have:=N1.fw.len;simp at this;omega
    have n1:=de h.length H1 ep (by omega) sH
    have g1:H1[h.length]? =some (.cells (some 40) [.st 40 [.s (.int .i64 2),.s (.int .i64 aD),.s (.int .i64 dS),.s (.int .u64 (ep:Int)),ax.enc,.aq false (some 37) (aj.map fun z=> z.enc)]]):=N1.fw.cH _ _ (by simp) (by simp)
    have g2:∀X,(H1++X)[h.length]? =some (.cells (some 40) [.st 40 [.s (.int .i64 2),.s (.int .i64 aD),.s (.int .i64 dS),.s (.int .u64 (ep:Int)),ax.enc,.aq false (some 37) (aj.map fun z=> z.enc)]]):=fun X=> q10z g1 X
    obtain ⟨v2,H2,a2,N2⟩:=(N1.mono (Fw.app [] H1 [.cells none ((aE ep).map aa)])).app (y:= .ref H1.length [] none 0 8 8) (m:=aE ep) (BR.src (ch (by simp) (aF _))) (by simp)
    have f0:Fw [] h (h++[(.cells (some 40) [.st 40 [.s (.int .i64 2),.s (.int .i64 aD),.s (.int .i64 dS),.s (.int .u64 (ep:Int)),ax.enc,.aq false (some 37) (aj.map fun z=> z.enc)]])]):=Fw.app [] h _
    have df:=N2.o4 (n:=h.length) (by simp)
    have dQ:=(f0.trans N2.fw).take
    simp only[aC.enc,mH,bq,bu,bl,a1,n1,g1,g2,a2,df,dQ,mJ,go_sem,simprocAttr]
   ·-- in
    have cr:dj aj=true:=by
      simp[bm] at c
      exact c.2
    have aa7:aj.length≤4:=by
      simp[dj] at cr
      exact cr.1
    have f0:Fw [] h (h++[(.cells (some 40) [.st 40 [.s (.int .i64 3),.s (.int .i64 aD),.s (.int .i64 dS),.s (.int .u64 (ep:Int)),ax.enc,.aq false (some 37) (aj.map fun z=> z.enc)]])]):=Fw.app [] h _
    have M0:iS (h++[(.cells (some 40) [.st 40 [.s (.int .i64 3),.s (.int .i64 aD),.s (.int .i64 dS),.s (.int .u64 (ep:Int)),ax.enc,.aq false (some 37) (aj.map fun z=> z.enc)]])]) (h++[(.cells (some 40) [.st 40 [.s (.int .i64 3),.s (.int .i64 aD),.s (.int .i64 dS),.s (.int .u64 (ep:Int)),ax.enc,.aq false (some 37) (aj.map fun z=> z.enc)]]),.cells none [aa (bt 3)]]) (.ref (h.length+1) [] none 0 1 1) [bt 3]:=⟨h.length+1,.inr ⟨rfl,by rw[abU (by omega)];simp⟩,by simp,by
      have:=Fw.app [] (h++[(.cells (some 40) [.st 40 [.s (.int .i64 3),.s (.int .i64 aD),.s (.int .i64 dS),.s (.int .u64 (ep:Int)),ax.enc,.aq false (some 37) (aj.map fun z=> z.enc)]])]) [.cells none [aa (bt 3)]]
      simpa using this⟩
    obtain ⟨v1,H1,a1,N1⟩:=M0.app (y:= .aq true none [aa (bt aD)]) (m:=[bt aD]) rfl (by simp)
    have sH:h.length≤H1.length:=by have:=N1.fw.len;simp at this;omega
    have n1:=de h.length H1 ep (by omega) sH
    have g1:H1[h.length]? =some (.cells (some 40) [.st 40 [.s (.int .i64 3),.s (.int .i64 aD),.s (.int .i64 dS),.s (.int .u64 (ep:Int)),ax.enc,.aq false (some 37) (aj.map fun z=> z.enc)]]):=N1.fw.cH _ _ (by simp) (by simp)
    have g2:∀X,(H1++X)[h.length]? =some (.cells (some 40) [.st 40 [.s (.int .i64 3),.s (.int .i64 aD),.s (.int .i64 dS),.s (.int .u64 (ep:Int)),ax.enc,.aq false (some 37) (aj.map fun z=> z.enc)]]):=fun X=> q10z g1 X
    obtain ⟨v2,H2,a2,N2⟩:=(N1.mono (Fw.app [] H1 [.cells none ((aE ep).map aa)])).app (y:= .ref H1.length [] none 0 8 8) (m:=aE ep) (BR.src (ch (by simp) (aF _))) (by simp)
    have g3:H2[h.length]? =some (.cells (some 40) [.st 40 [.s (.int .i64 3),.s (.int .i64 aD),.s (.int .i64 dS),.s (.int .u64 (ep:Int)),ax.enc,.aq false (some 37) (aj.map fun z=> z.enc)]]):=N2.fw.cH _ _ (by simp) (by simp)
    obtain ⟨v3,H3,a3,N3⟩:=N2.app (y:= .aq true none [aa (bt aj.length)]) (m:=[bt aj.length]) rfl (by simp)
    have g4:H3[h.length]? =some (.cells (some 40) [.st 40 [.s (.int .i64 3),.s (.int .i64 aD),.s (.int .i64 dS),.s (.int .u64 (ep:Int)),ax.enc,.aq false (some 37) (aj.map fun z=> z.enc)]]):=N3.fw.cH _ _ (by simp) (by simp)
    have kF:∀cf base H,aB cf base H .len [.aq false (some 37) (aj.map fun z=> z.enc)]=some (.s (.int .i64 (aj.length:Nat)),H):=fun cf base H=> by rw[qe];simp
    simp only[aC.enc,mH,bq,bu,bl,a1,n1,g1,g2,a2,g3,a3,g4,kF,go_sem,simprocAttr]
    have jF:SR h (.aq false (some 37) (aj.map fun z=> z.enc)) (some 37) (aj.map fun z=> z.enc):= .inl ⟨false,rfl⟩
    have hvl:∀v∈aj,(bg v).length≤200:=fun v hv=> by
      have jY:aN v=true:=by
        obtain ⟨i,hi,rfl⟩:=List.mem_iff_getElem.1 hv
        have:=(Bool.and_eq_true_iff.1 cr).2
        rw[abZ] at this
        have:=this i (acL.2 hi)
        unfold iP at this
        rw[List.getD,abE hi] at this
        exact (Bool.and_eq_true_iff.1 this).1
      have h1:=q14z jY
      obtain ⟨w1,w2,w3,w4,w5,w6,w7,w8,w9⟩:=hwv v hv
      simp[bg];omega
    have nZ:∀j,j≤aj.length→((aj.take j).flatMap bg).length≤200 * j:=fun j=> by
      induction j with
      | zero=> intro _;simp
      | succ j ih=>
        intro hj
        rw[acb (by omega),adD,abI]
        have:=ih (by omega)
        have:=hvl aj[j] (acZ _)
        simp only[adU,aeM,ab8];omega
    generalize wT:[bt 3]++[bt aD]++aE ep++[bt aj.length]=base0 at N3
    have hb0l:base0.length=11:=by rw[←wT];simp
    refine bo (fun q e H=>∃j v,q=aj.length - j∧j≤aj.length∧e 69= .s (.int .i64 (j:Nat))∧e 68= .s (.int .i64 (aj.length:Nat))∧e 67= .aq false (some 37) (aj.map fun z=> z.enc)∧e 4=v∧iS (h++[(.cells (some 40) [.st 40 [.s (.int .i64 3),.s (.int .i64 aD),.s (.int .i64 dS),.s (.int .u64 (ep:Int)),ax.enc,.aq false (some 37) (aj.map fun z=> z.enc)]])]) H v (base0++(aj.take j).flatMap bg))
      (fun e H=>∃v,e 4=v∧iS (h++[(.cells (some 40) [.st 40 [.s (.int .i64 3),.s (.int .i64 aD),.s (.int .i64 dS),.s (.int .u64 (ep:Int)),ax.enc,.aq false (some 37) (aj.map fun z=> z.enc)]])]) H v (base0++aj.flatMap bg)) aj.length _ _ ⟨0,v3,rfl,by omega,rfl,rfl,rfl,rfl,by simpa using N3⟩ ?_ ?_
    ·rintro q e H ⟨j,v,rfl,hj,e69,e68,e67,e4,N⟩
     by_cases cd:j < aj.length
     ·have cj:(j:Int)<((aj.length:Nat):Int):=by omega
      have hjv:aj[j]? =some aj[j]:=abE cd
      have fh:=f0.trans N.fw
      have i1:=fun cf base=>(jF.fw fh).cZ (cf:=cf) (base:=base) (k:= .i64) (i:=j) (by simpa using cd)
      have i2:=fun cf base=>(jF.fw fh).iy (cf:=cf) (base:=base) (i:=j) (v:=aj[j].enc) (by rw[abT,hjv];rfl) rfl
      have hle:=fh.len
      have hm:=hwv _ (acZ cd)
      have au:=hvl _ (acZ cd)
      have hp:=fun h0=> mF h.length h0 false aj[j] hm (by simp[bg] at au;omega)
      rw[←ae.kG] at hp
      have hfj:=nZ j hj
      obtain ⟨v5,H5,a5,N5⟩:=(N.mono (Fw.app [] H [.cells (some 37) [aj[j].enc]])).app (y:= .aq false none ((bg aj[j]).map aa)) (m:=bg aj[j]) rfl (by simp only[abI];omega)
      have qP:base0++(aj.take j).flatMap bg++bg aj[j]=base0++(aj.take (j+1)).flatMap bg:=by
        rw[acb cd,adD];simp
      rw[qP] at N5
      have w3:IntKind.i64.wrap ((j:Int)+1)=((j+1:Nat):Int):=q17z (by omega)
      simp only[e69,e68,e67,e4,cj,i1,i2,hle,bq,bu,hp,a5,w3,go_sem,simprocAttr]
      exact ⟨aj.length - (j+1),by omega,j+1,v5,rfl,by omega,rfl,rfl,N5⟩
     ·have cj:¬(j:Int)<((aj.length:Nat):Int):=by omega
      have xY:j=aj.length:=by omega
      subst xY
      rw[abG (abJ _)] at N
      simp only[e69,e68,e67,e4,cj,go_sem,simprocAttr]
      exact ⟨v,rfl,N⟩
    ·rintro e H ⟨v,e4,N⟩
     have df:=N.o4 (n:=h.length) (by simp)
     have dQ:=(f0.trans N.fw).take
     rw[←wT] at df
     simp only[e4,df,dQ,mJ,go_sem,simprocAttr]
   ·-- done
    have hA:∀X,(h++(.cells (some 40) [.st 40 [.s (.int .i64 4),.s (.int .i64 aD),.s (.int .i64 dS),.s (.int .u64 (ep:Int)),ax.enc,.aq false (some 37) (aj.map fun z=> z.enc)]])::X)[h.length]? =some (.cells (some 40) [.st 40 [.s (.int .i64 4),.s (.int .i64 aD),.s (.int .i64 dS),.s (.int .u64 (ep:Int)),ax.enc,.aq false (some 37) (aj.map fun z=> z.enc)]]):=fun X=> by simp
    have f1:Fw [] (h++[(.cells (some 40) [.st 40 [.s (.int .i64 4),.s (.int .i64 aD),.s (.int .i64 dS),.s (.int .u64 (ep:Int)),ax.enc,.aq false (some 37) (aj.map fun z=> z.enc)]])]) (h++(.cells (some 40) [.st 40 [.s (.int .i64 4),.s (.int .i64 aD),.s (.int .i64 dS),.s (.int .u64 (ep:Int)),ax.enc,.aq false (some 37) (aj.map fun z=> z.enc)]]):: .cells none [aa (bt 4)]::[.cells none [aa (bt aD)]]):=by
      have:=Fw.app [] (h++[(.cells (some 40) [.st 40 [.s (.int .i64 4),.s (.int .i64 aD),.s (.int .i64 dS),.s (.int .u64 (ep:Int)),ax.enc,.aq false (some 37) (aj.map fun z=> z.enc)]])]) [.cells none [aa (bt 4)],.cells none [aa (bt aD)]]
      simpa using this
    have M0:iS (h++[(.cells (some 40) [.st 40 [.s (.int .i64 4),.s (.int .i64 aD),.s (.int .i64 dS),.s (.int .u64 (ep:Int)),ax.enc,.aq false (some 37) (aj.map fun z=> z.enc)]])]) (h++(.cells (some 40) [.st 40 [.s (.int .i64 4),.s (.int .i64 aD),.s (.int .i64 dS),.s (.int .u64 (ep:Int)),ax.enc,.aq false (some 37) (aj.map fun z=> z.enc)]]):: .cells none [aa (bt 4)]::[.cells none [aa (bt aD)]]) (.ref (h.length+1) [] none 0 1 1) [bt 4]:=⟨h.length+1,.inr ⟨rfl,by rw[abU (by omega)];simp⟩,by simp,f1⟩
    obtain ⟨v1,H1,a1,N1⟩:=M0.app (y:= .ref (h.length+2) [] none 0 1 1) (m:=[bt aD]) (BR.src (ch (l:=[bt aD]) (by rw[abU (by omega)];simp) rfl)) (by simp)
    have sH:h.length≤H1.length:=by have:=N1.fw.len;simp at this;omega
    have n1:=de h.length H1 ep (by omega) sH
    have g1:H1[h.length]? =some (.cells (some 40) [.st 40 [.s (.int .i64 4),.s (.int .i64 aD),.s (.int .i64 dS),.s (.int .u64 (ep:Int)),ax.enc,.aq false (some 37) (aj.map fun z=> z.enc)]]):=N1.fw.cH _ _ (by simp) (by simp)
    have g2:∀X,(H1++X)[h.length]? =some (.cells (some 40) [.st 40 [.s (.int .i64 4),.s (.int .i64 aD),.s (.int .i64 dS),.s (.int .u64 (ep:Int)),ax.enc,.aq false (some 37) (aj.map fun z=> z.enc)]]):=fun X=> q10z g1 X
    obtain ⟨v2,H2,a2,N2⟩:=(N1.mono (Fw.app [] H1 [.cells none ((aE ep).map aa)])).app (y:= .ref H1.length [] none 0 8 8) (m:=aE ep) (BR.src (ch (by simp) (aF _))) (by simp)
    have f0:Fw [] h (h++[(.cells (some 40) [.st 40 [.s (.int .i64 4),.s (.int .i64 aD),.s (.int .i64 dS),.s (.int .u64 (ep:Int)),ax.enc,.aq false (some 37) (aj.map fun z=> z.enc)]])]):=Fw.app [] h _
    have df:=N2.o4 (n:=h.length) (by simp)
    have dQ:=(f0.trans N2.fw).take
    simp only[aC.enc,mH,bq,bu,bl,a1,n1,g1,g2,a2,df,dQ,mJ,go_sem,simprocAttr]
def oe (f:Bool) (l:Bs) (bad:Bool):aT:= .cells (some 160) [.st 160 [.aq f none (l.map aa),.s (.bool bad)]]
theorem Iu (cf:CF) (base:Nat) (h:Hp) (f:Bool) (l:Bs) (k:IntKind) (n:Nat) (hn:n≤l.length):aB cf base h (.jX none false true false) [.aq f none (l.map aa),.s (.int k n)]=some (.aq (f && n==l.length) none ((l.take n).map aa),h):=by
 simp[aB,iB,eM,aV,cR,dE,hn,adT]
theorem Iv (cf:CF) (base:Nat) (h:Hp) (f:Bool) (l:Bs) (k:IntKind) (n:Nat) (hn:n≤l.length):aB cf base h (.jX none true false false) [.aq f none (l.map aa),.s (.int k n)]=some (.aq f none ((l.drop n).map aa),h):=by
 have:(List.drop n (List.map aa l)).take (l.length - n)=(l.drop n).map aa:=by
   rw[←List.map_drop,abG (by simp)]
 simp[aB,iB,eM,aV,cR,dE,hn,this]
def aW (n:Nat) (s:Bs×Bool):Bs×(Bs×Bool):=if n≤s.1.length then (s.1.take n,(s.1.drop n,s.2)) else (List.replicate n 0,([],true))
theorem q20z (n:Nat) (s:Bs×Bool):(aW n s).1.length=n:=by
 unfold aW
 split
 ·simp;omega
 ·simp
theorem vw (n:Nat):List.replicate n (V.s (.int .u8 0))=(List.replicate n (0:UInt8)).map aa:=by rw[aew];rfl
theorem AP (f:Bool) (g:Option Nat):∀l:Bs,(V.aq f g (l.map aa)).ground=true
 | []=> rfl
 | b::l=> by
   have:=AP f g l
   simp only[V.ground] at this ⊢
   simp only[abR,V.ground.all,this];rfl
theorem wU (f:Bool) (g:Option Nat):(V.aq f g []).ground=true:=rfl
theorem Ma (x:Value):(V.s x).ground=true:=rfl
theorem pg (id n:Nat) (f bad:Bool) (l:Bs) (hn:n≤100000):
 ∃f',∀(b:Nat) (h:Hp) (hg:h[id]? =some (oe f l bad)),run fns pr b 145 [.ptr id [0] 1,.s (.int .i64 n)] h=some (.aq false none ((aW n (l,bad)).1.map aa),h.set id (oe f' (aW n (l,bad)).2.1 (aW n (l,bad)).2.2)):=by
 unfold aW
 by_cases c:n≤l.length
 ·rw[if_pos c]
  refine ⟨f,fun b h hg=> ?_⟩
  have tk:∀b',(h.set id b').take h.length=h.set id b':=fun b'=> abG (by simp)
  refine Vm.aQ (nt:=37) rfl HJ (by simp) ?_
  have c':¬((l.length:Nat):Int)<(n:Int):=by omega
  simp only[LN,hg,oe,c',Iu _ _ _ _ _ _ _ c,Iv _ _ _ _ _ _ _ c,tk,AP,go_sem,simprocAttr]
 ·rw[if_neg c]
  refine ⟨true,fun b h hg=> ?_⟩
  have tk:∀b',(h.set id b').take h.length=h.set id b':=fun b'=> abG (by simp)
  refine Vm.aQ (nt:=37) rfl HJ (by simp) ?_
  have c':((l.length:Nat):Int)<(n:Int):=by omega
  have zX:¬n=0:=by omega
  have m1:(0≤(n:Int)∧(n:Int)≤16777216)=True:=by simp;omega
  have m2:((n:Int)=0)=False:=by simp;omega
  have hz:=vw n
  have tk2:∀X Y,(h.set id X++Y).take h.length=h.set id X:=fun X Y=> by rw[ab7 (by simp),abG (by simp)]
  have mi:(List.replicate n (0:UInt8)).length=n:=by simp
  have k9:=dU h.length (List.replicate n (0:UInt8))
  rw[mi] at k9
  simp only[LN,hg,oe,c',tk,wU,Ma,q9z hg,m1,m2,hz,mi,k9,tk2,go_sem,simprocAttr]
def bf (l:Bs):Nat:=(l.getD 0 0).toNat
theorem wV (id:Nat) (f bad:Bool) (l:Bs):
 ∃f',∀(b:Nat) (h:Hp) (hg:h[id]? =some (oe f l bad)),run fns pr b 119 [.ptr id [0] 1] h=some (.s (.int .i64 (bf (aW 1 (l,bad)).1:Nat)),h.set id (oe f' (aW 1 (l,bad)).2.1 (aW 1 (l,bad)).2.2)):=by
 obtain ⟨f',AQ⟩:=pg id 1 f bad l (by omega)
 refine ⟨f',fun b h hg=> ?_⟩
 have ht:=AQ h.length h hg
 refine Vm.aQ (nt:=8) rfl PS (by simp) ?_
 have hl:=q20z 1 (l,bad)
 generalize (aW 1 (l,bad)).1=m at ht hl
 match m,hl with
 | [x],_=>
   have tk:∀b',(h.set id b').take h.length=h.set id b':=fun b'=> abG (by simp)
   have hw:IntKind.i64.wrap (x.toNat:Int)=(x.toNat:Int):=wrap_i64 (by omega) (by have:=x.toNat_lt;omega)
   simp only[PQ,show (V.s (.int .i64 1))=V.s (.int .i64 ((1:Nat):Int)) from rfl,ht,abR,ab1,aa,hw,tk,bf,go_sem,simprocAttr]
theorem Cz (cf:CF) (base:Nat) (h:Hp) (t n:Nat) (g:Option Nat) (f:Bool) (es:List V) (h0:0 < n) (hn:n≤es.length):aB cf base h (.s2a t g n) [.aq f g es]=some (.dP (.arr t (es.take n)),h):=by
 simp[aB,vx,qQ,hn,h0]
theorem Q9 (id:Nat) (f bad:Bool) (l:Bs):
 ∃f',∀(b:Nat) (h:Hp) (hg:h[id]? =some (oe f l bad)),run fns pr b 120 [.ptr id [0] 1] h=some (.arr 28 ((aW 4 (l,bad)).1.map aa),h.set id (oe f' (aW 4 (l,bad)).2.1 (aW 4 (l,bad)).2.2)):=by
 obtain ⟨f',AQ⟩:=pg id 4 f bad l (by omega)
 refine ⟨f',fun b h hg=> ?_⟩
 have cF:=q6z hg
 generalize hG:h++[.cells (some 28) [z4 28]]=G
 have g0:G[h.length]? =some (.cells (some 28) [z4 28]):=by rw[←hG];simp
 have gi:G[id]? =some (oe f l bad):=by rw[←hG];exact q10z hg _
 have ht:=AQ h.length G gi
 refine Vm.aQ (nt:=7) rfl PV (by simp) ?_
 have hl:=q20z 4 (l,bad)
 generalize (aW 4 (l,bad)).1=m at ht hl ⊢
 generalize hR:oe f' (aW 4 (l,bad)).2.1 (aW 4 (l,bad)).2.2=R at ht ⊢
 have hm:(m.map aa).length=4:=by simp[hl]
 have hs:=Cz (run fns pr h.length) h.length (G.set id R) 28 4 none false (m.map aa) (by omega) (by omega)
 rw[abG (by omega)] at hs
 have g1:(G.set id R)[h.length]? =some (.cells (some 28) [z4 28]):=by rw[abM (by omega)];exact g0
 have tk:∀X,((G.set id R).set h.length X).take h.length=h.set id R:=fun X=> by
   rw[←hG,adY _ _ cF,acn _ _ (by simp)]
   rw[ab7 (by simp),abG (by simp)]
 simp only[PT,hG,show (V.s (.int .i64 4))=V.s (.int .i64 ((4:Nat):Int)) from rfl,ht,hs,g1,tk,q9z g1,sL,go_sem,simprocAttr]
theorem AR (id:Nat) (f bad:Bool) (l:Bs):
 ∃f',∀(b:Nat) (h:Hp) (hg:h[id]? =some (oe f l bad)),run fns pr b 121 [.ptr id [0] 1] h=some (.arr 22 ((aW 16 (l,bad)).1.map aa),h.set id (oe f' (aW 16 (l,bad)).2.1 (aW 16 (l,bad)).2.2)):=by
 obtain ⟨f',AQ⟩:=pg id 16 f bad l (by omega)
 refine ⟨f',fun b h hg=> ?_⟩
 have cF:=q6z hg
 generalize hG:h++[.cells (some 22) [aK 22]]=G
 have g0:G[h.length]? =some (.cells (some 22) [aK 22]):=by rw[←hG];simp
 have gi:G[id]? =some (oe f l bad):=by rw[←hG];exact q10z hg _
 have ht:=AQ h.length G gi
 refine Vm.aQ (nt:=7) rfl PY (by simp) ?_
 have hl:=q20z 16 (l,bad)
 generalize (aW 16 (l,bad)).1=m at ht hl ⊢
 generalize hR:oe f' (aW 16 (l,bad)).2.1 (aW 16 (l,bad)).2.2=R at ht ⊢
 have hm:(m.map aa).length=16:=by simp[hl]
 have hs:=Cz (run fns pr h.length) h.length (G.set id R) 22 16 none false (m.map aa) (by omega) (by omega)
 rw[abG (by omega)] at hs
 have g1:(G.set id R)[h.length]? =some (.cells (some 22) [aK 22]):=by rw[abM (by omega)];exact g0
 have tk:∀X,((G.set id R).set h.length X).take h.length=h.set id R:=fun X=> by
   rw[←hG,adY _ _ cF,acn _ _ (by simp)]
   rw[ab7 (by simp),abG (by simp)]
 simp only[PW,hG,show (V.s (.int .i64 16))=V.s (.int .i64 ((16:Nat):Int)) from rfl,ht,hs,g1,tk,q9z g1,sL,go_sem,simprocAttr]
def er (l:Bs):Nat:=l.foldl (fun a x=> a * 256+x.toNat) 0
theorem mK {m:Bs} {j:Nat} (hj:j < m.length):er (m.take (j+1))=er (m.take j)* 256+(m.getD j 0).toNat:=by
 unfold er
 rw[adB,List.foldl_append,List.getD,abE hj]
 rfl
theorem qf (m:Bs):∀j,j≤m.length→er (m.take j)< 256 ^ j
 | 0,_=> by simp[er]
 | j+1,hj=> by
   rw[mK (by omega),aee]
   have:=qf m j (by omega)
   have:=(m.getD j 0).toNat_lt
   omega
theorem jm {n:Nat} (h:n < 18446744073709551616):IntKind.u64.wrap (n:Int)=(n:Int):=wrap_u64 (by omega) (by omega)
theorem OF {a:Nat} (h:a * 256 < 18446744073709551616):wM .u64 (a:Int) 8=((a * 256:Nat):Int):=by
 have e:wM .u64 (a:Int) 8=IntKind.u64.wrap ((a:Int)* 256):=rfl
 rw[e,wrap_u64 (by omega) (by omega)];omega
theorem Xu {a y:Nat} (h:a * 256+y < 18446744073709551616) (hy:y < 256):orI .u64 ((a * 256:Nat):Int) (y:Int)=((a * 256+y:Nat):Int):=by
 have e:orI .u64 ((a * 256:Nat):Int) (y:Int)=IntKind.u64.wrap (((BitVec.ofInt 64 ((a * 256:Nat):Int) ||| BitVec.ofInt 64 (y:Int)).toNat:Nat):Int):=rfl
 rw[e,jd,jd,BitVec.toNat_or,adk,adk,adF (show a * 256 < 2 ^ 64 by omega),adF (show y < 2 ^ 64 by omega),show a * 256=a * 2 ^ 8 from rfl,Aw (k:=8) (by omega)]
 exact jm h
theorem Ra (id:Nat) (f bad:Bool) (l:Bs):
 ∃f',∀(b:Nat) (h:Hp) (hg:h[id]? =some (oe f l bad)),run fns pr b 122 [.ptr id [0] 1] h=some (.s (.int .u64 (er (aW 8 (l,bad)).1:Nat)),h.set id (oe f' (aW 8 (l,bad)).2.1 (aW 8 (l,bad)).2.2)):=by
 obtain ⟨f',AQ⟩:=pg id 8 f bad l (by omega)
 refine ⟨f',fun b h hg=> ?_⟩
 have ht:=AQ h.length h hg
 refine Vm.aQ (nt:=20) rfl P1 (by simp) ?_
 have hl:=q20z 8 (l,bad)
 generalize (aW 8 (l,bad)).1=m at ht hl ⊢
 generalize hR:h.set id (oe f' (aW 8 (l,bad)).2.1 (aW 8 (l,bad)).2.2)=R at ht ⊢
 have tk:R.take h.length=R:=abG (by rw[←hR];simp)
 have hm:(m.map aa).length=8:=by simp[hl]
 have tk2:m.take 8=m:=abG (by omega)
 have jF:∀H,SR H (.aq false none (m.map aa)) none (m.map aa):=fun H=> .inl ⟨false,rfl⟩
 generalize hx:V.aq false none (m.map aa)=x at ht jF
 have kF:∀cf base h,aB cf base h .len [x]=some (.s (.int .i64 8),h):=fun cf base h=> by rw[(jF h).bG];simp[hl]
 simp only[PZ,Hu,Ht,show (V.s (.int .i64 8))=V.s (.int .i64 ((8:Nat):Int)) from rfl,ht,kF,go_sem,simprocAttr]
 refine bo (fun q e H=>∃j,q=8 - j∧j≤8∧e 9= .s (.int .i64 (j:Nat))∧e 8= .s (.int .i64 8)∧e 7=x∧e 3= .s (.int .u64 (er (m.take j):Nat))∧H=R)
   (fun e H=> e 3= .s (.int .u64 (er m:Nat))∧H=R) 8 _ _ ?_ ?_ ?_
 ·exact ⟨0,rfl,by omega,rfl,rfl,rfl,rfl,rfl⟩
 ·rintro q e H ⟨j,rfl,hj,e9,e8,e7,e3,rfl⟩
  by_cases cd:j < 8
  ·have cj:(j:Int)< 8:=by omega
   have i1:=fun cf base=>(jF H).cZ (cf:=cf) (base:=base) (k:= .i64) (i:=j) (by simp;omega)
   have i2:=fun cf base=>(jF H).iy (cf:=cf) (base:=base) (i:=j) (v:=aa (m.getD j 0)) (by rw[abT,List.getD,abE (by omega)];rfl) rfl
   have w3:IntKind.i64.wrap ((j:Int)+1)=((j+1:Nat):Int):=q17z (by omega)
   have hb:=qf m j (by omega)
   have hy:=(m.getD j 0).toNat_lt
   have hp:256 ^ j * 256≤18446744073709551616:=by rw[←Nat.pow_succ];exact adZ (by omega) (show j+1≤8 by omega)
   have s1:=OF (a:=er (m.take j)) (by omega)
   have s2:=Xu (a:=er (m.take j)) (y:=(m.getD j 0).toNat) (by omega) hy
   have hw:=jm (n:=(m.getD j 0).toNat) (by omega)
   have h1:∀cf base h,aB cf base h (.bin .num .shl) [.s (.int .u64 (er (m.take j):Nat)),.s (.int .u64 8)]=some (.s (.int .u64 ((er (m.take j)* 256:Nat):Int)),h):=fun cf base h=> by rw[←s1];exact yl cf base h .u64 .u64 _ 8 (by omega)
   simp only[e9,e8,e7,e3,cj,i1,i2,aa,w3,h1,hw,s2,go_sem,simprocAttr]
   refine ⟨8 - (j+1),by omega,j+1,rfl,by omega,rfl,?_⟩
   rw[mK (by omega)]
  ·have cj:¬(j:Int)< 8:=by omega
   obtain rfl:j=8:=by omega
   simp only[e9,e8,e7,e3,cj,tk2,go_sem,simprocAttr]
 ·rintro e H ⟨e3,rfl⟩
  simp only[e3,tk,go_sem,simprocAttr]
theorem sP (f:Bool) (h:Hp) (l:Bs):Rd h (.aq f none (l.map aa)) l:=⟨fun _ _=> rfl,by simp[eM]⟩
def ph (s:Bs×Bool):Bs×(Bs×Bool):=aW (bf (aW 1 s).1) (aW 1 s).2
theorem yt (l:Bs):bf l < 256:=(l.getD 0 0).toNat_lt
theorem Mb (id:Nat) (f bad:Bool) (l:Bs):
 ∃f',∀(b:Nat) (h:Hp) (hg:h[id]? =some (oe f l bad)),run fns pr b 123 [.ptr id [0] 1] h=some (.aq false none ((ph (l,bad)).1.map aa),h.set id (oe f' (ph (l,bad)).2.1 (ph (l,bad)).2.2)):=by
 obtain ⟨f1,h1⟩:=wV id f bad l
 have hb:=yt (aW 1 (l,bad)).1
 unfold ph
 generalize aW 1 (l,bad)=s1 at h1 hb ⊢
 obtain ⟨o,l1,b1⟩:=s1
 simp only at h1 hb ⊢
 obtain ⟨f',h2⟩:=pg id (bf o) f1 b1 l1 (by omega)
 have hl:=q20z (bf o) (l1,b1)
 generalize aW (bf o) (l1,b1)=s2 at h2 hl ⊢
 obtain ⟨m,l2,b2⟩:=s2
 simp only at h2 hl ⊢
 refine ⟨f',fun b h hg=> ?_⟩
 replace h1:=h1 h.length h hg
 replace h2:=h2 h.length (h.set id (oe f1 l1 b1)) (q9z hg)
 rw[acM] at h2
 obtain ⟨v,H,hc,hN⟩:=vi (sP false (h.set id (oe f' l2 b2)) m) (by omega)
 have hz:=hN.o4 (n:=h.length) (by simp)
 have tk:H.take h.length=h.set id (oe f' l2 b2):=by have:=hN.fw.take;simpa using this
 refine Vm.aQ (nt:=8) rfl P4 (by simp) ?_
 simp only[P2,h1,h2,hc,hz,tk,go_sem,simprocAttr]
theorem Mc (b:Nat) (h:Hp) (id:Nat) (f bad:Bool) (l:Bs) (hg:h[id]? =some (oe f l bad)):
 run fns pr b 124 [.ptr id [0] 1] h=some (.s (.bool (bad || decide (l≠[]))),h):=by
 refine Vm.aQ (nt:=15) rfl P6 (by simp) ?_
 have tk:h.take h.length=h:=abG (abJ _)
 cases bad with
 | true=>
   simp only[Hv,hg,oe,tk,go_sem,simprocAttr]
 | false=>
   cases l with
   | nil=>
     simp only[Hv,hg,oe,tk,ab1,go_sem,simprocAttr]
     simp
   | cons x l=>
     have c:(0:Int)<(((x::l).length:Nat):Int):=by simp
     simp only[Hv,hg,oe,tk,c,go_sem,simprocAttr]
     simp
def Iw (n:Nat):Bool:= !decide (n=0)&& !decide (n=1)&& !decide (n=3)
def mL (s:Bs×Bool):ae×(Bs×Bool):=
 match aW 4 s with
 | (i,s1)=> match aW 8 s1 with
   | (g,s2)=> match aW 1 s2 with
     | (fl,s3)=> match aW 1 (s3.1,s3.2 || Iw (bf fl)) with
       | (li,s4)=> match aW 1 s4 with
         | (us,s5)=> match aW 16 s5 with
           | (p,s6)=> match aW 16 s6 with
             | (o,s7)=> match ph s7 with
               | (t,s8)=>(⟨i,(er g:Nat),p,t,(bf li:Nat),(bf us:Nat),o,!decide (bf fl=0),decide (bf fl=3)⟩,(s8.1,s8.2 || !aN ⟨i,(er g:Nat),p,t,(bf li:Nat),(bf us:Nat),o,!decide (bf fl=0),decide (bf fl=3)⟩))
theorem kE {h:Hp} {id:Nat} {R:aT} (hg:h[id]? =some R):h.set id R=h:=acB fun k=> by
 rw[acs]
 split
 ·rename_i e;subst e;rw[hg];simp[q6z hg]
 ·rfl
def mM (l:Bs):ae×Int×Int:=if (mL (l,false)).2.2=true then (zeroV,0,12) else ((mL (l,false)).1,((l.length - (mL (l,false)).2.1.length:Nat):Int),0)
def vsS :Nat→Bs×Bool→List ae×(Bs×Bool)
 | 0,s=>([],s)
 | n+1,s=>((vsS n s).1++[(mL (vsS n s).2).1],(mL (vsS n s).2).2)
def uT (s:Bs×Bool):aC×(Bs×Bool):=
 match aW 1 s with
 | (k,s1)=>
   if bf k=1 then match mL s1 with
    | (v,s2)=>(⟨1,0,0,0,v,[]⟩,s2)
   else if bf k=2 then match aW 1 s1 with
     | (a,s2)=> match aW 1 s2 with
       | (t,s3)=> match aW 8 s3 with
         | (e,s4)=>(⟨2,(bf a:Nat),(bf t:Nat),(er e:Nat),zeroV,[]⟩,s4)
   else if bf k=3 then match aW 1 s1 with
     | (a,s2)=> match aW 8 s2 with
       | (e,s3)=> match aW 1 s3 with
         | (n,s4)=> match vsS (min (bf n) 5) s4 with
           | (vs,s5)=>(⟨3,(bf a:Nat),0,(er e:Nat),zeroV,vs⟩,s5)
   else if bf k=4 then match aW 1 s1 with
     | (a,s2)=> match aW 8 s2 with
       | (e,s3)=>(⟨4,(bf a:Nat),0,(er e:Nat),zeroV,[]⟩,s3)
   else (⟨(bf k:Nat),0,0,0,zeroV,[]⟩,s1)
def CA :aC:=⟨0,0,0,0,zeroV,[]⟩
def AS (l:Bs):aC×Int:=if (uT (l,false)).2.2=true∨(uT (l,false)).2.1≠[]∨bm (uT (l,false)).1=false then (CA,12) else ((uT (l,false)).1,0)
def aab (r:aC) (f:Bool) (x:V):aT:= .cells (some 40) [.st 40 [.s (.int .i64 r.kind),.s (.int .i64 r.aD),.s (.int .i64 r.dS),.s (.int .u64 r.aI),r.ax.aH f,x]]
theorem atR {F:Nat} {h:Hp} {f bad:Bool} {l:Bs} {v:V} {R':aT} (c:∀(b:Nat) (h0:Hp) (_:h0[h.length+1]? =some (oe f l bad)),run fns pr b F [.ptr (h.length+1) [0] 1] h0=some (v,h0.set (h.length+1) R')) (A:aT) (X:Hp):
 run fns pr h.length F [.ptr (h.length+1) [0] 1] (h++A::oe f l bad::X)=some (v,h++A::R'::X):=by
 rw[c h.length (h++A::oe f l bad::X) (by rw[abU (by omega)];simp)]
 rw[acn _ _ (by omega)]
 simp
def abi (h:Hp) (l:Bs) (e:Env) (H:Hp):Prop:=e 4= .ptr (h.length+1) [0] 1∧e 5= .ptr (h.length+2) [0] 1∧e 2= .ptr h.length [0] 1∧
 ∃r l' b' f' fv x kk A,uT (l,false)=(r,l',b')∧Fw [] h H∧H[h.length]? =some (.cells (some 40) [A])∧A.ty=some 40∧H[h.length+1]? =some (oe f' l' b')∧H[h.length+2]? =some (aab r fv x)∧XR H (some 37) kk x (r.aj.map ae.enc)∧h.length+3≤kk∧∀v∈r.aj,v.wf
def gN :Request:=⟨0,od,bp,[],0,bp,bp,0,0⟩
def wW (s:Bs×Bool):Request×(Bs×Bool):=
 match aW 1 s with
 | (op,s1)=> match aW 4 s1 with
   | (i,s2)=> match aW 16 s2 with
     | (p,s3)=> match aW 1 s3 with
       | (li,s4)=> match aW 16 s4 with
         | (ow,s5)=> match aW 16 s5 with
           | (ke,s6)=> match aW 1 s6 with
             | (cl,s7)=> match aW 8 s7 with
               | (nu,s8)=> match ph s8 with
                 | (t,s9)=>(⟨(bf op:Nat),i,p,t,(bf li:Nat),ow,ke,(bf cl:Nat),(er nu:Nat)⟩,s9)
def qg (l:Bs):Request×Int:=if ((wW (l,false)).2.2 || decide ((wW (l,false)).2.1≠[]) || !cM (wW (l,false)).1)=true then (gN,12) else ((wW (l,false)).1,0)
theorem wX (b:Nat) (h:Hp) (f:Bool) (l:Bs):
 run fns pr b 73 [.aq f none (l.map aa)] h=some (.bM [(qg l).1.enc,.s (.int .i64 (qg l).2)],h):=by
 refine Vm.aQ (nt:=45) rfl VQ (by simp) ?_
 unfold qg
 have dV:wW (l,false)=wW (l,false):=rfl
 conv at dV=> rhs;unfold wW
 obtain ⟨f1,c1⟩:=wV (h.length+1) f false l
 replace c1:=atR c1
 have n1:=q20z 1 (l,false)
 generalize aW 1 (l,false)=s1 at dV c1 n1
 obtain ⟨op,l1,b1⟩:=s1
 simp only at c1 n1 dV
 obtain ⟨f2,c2⟩:=Q9 (h.length+1) f1 b1 l1
 replace c2:=atR c2
 have n2:=q20z 4 (l1,b1)
 generalize aW 4 (l1,b1)=s2 at dV c2 n2
 obtain ⟨i,l2,b2⟩:=s2
 simp only at c2 n2 dV
 obtain ⟨f3,c3⟩:=AR (h.length+1) f2 b2 l2
 replace c3:=atR c3
 have n3:=q20z 16 (l2,b2)
 generalize aW 16 (l2,b2)=s3 at dV c3 n3
 obtain ⟨p,l3,b3⟩:=s3
 simp only at c3 n3 dV
 obtain ⟨f4,c4⟩:=wV (h.length+1) f3 b3 l3
 replace c4:=atR c4
 have n4:=q20z 1 (l3,b3)
 generalize aW 1 (l3,b3)=s4 at dV c4 n4
 obtain ⟨li,l4,b4⟩:=s4
 simp only at c4 n4 dV
 obtain ⟨f5,c5⟩:=AR (h.length+1) f4 b4 l4
 replace c5:=atR c5
 have n5:=q20z 16 (l4,b4)
 generalize aW 16 (l4,b4)=s5 at dV c5 n5
 obtain ⟨ow,l5,b5⟩:=s5
 simp only at c5 n5 dV
 obtain ⟨f6,c6⟩:=AR (h.length+1) f5 b5 l5
 replace c6:=atR c6
 have n6:=q20z 16 (l5,b5)
 generalize aW 16 (l5,b5)=s6 at dV c6 n6
 obtain ⟨ke,l6,b6⟩:=s6
 simp only at c6 n6 dV
 obtain ⟨f7,c7⟩:=wV (h.length+1) f6 b6 l6
 replace c7:=atR c7
 have n7:=q20z 1 (l6,b6)
 generalize aW 1 (l6,b6)=s7 at dV c7 n7
 obtain ⟨cc,l7,b7⟩:=s7
 simp only at c7 n7 dV
 obtain ⟨f8,c8⟩:=Ra (h.length+1) f7 b7 l7
 replace c8:=atR c8
 have n8:=q20z 8 (l7,b7)
 generalize aW 8 (l7,b7)=s8 at dV c8 n8
 obtain ⟨nu,l8,b8⟩:=s8
 simp only at c8 n8 dV
 obtain ⟨f9,c9⟩:=Mb (h.length+1) f8 b8 l8
 replace c9:=atR c9
 generalize ph (l8,b8)=s9 at dV c9
 obtain ⟨t,l9,b9⟩:=s9
 simp only at c9 dV
 have cl:=fun A X=> Mc h.length (h++A::oe f9 l9 b9::X) (h.length+1) f9 b9 l9 (by rw[abU (by omega)];simp)
 rw[dV]
 simp only
 have tk:∀X,(h++X).take h.length=h:=fun X=> by simp
 simp only[oe] at c1 c2 c3 c4 c5 c6 c7 c8 c9 cl
 obtain ⟨q,hq⟩:∃q:Request,(⟨(bf op:Nat),i,p,t,(bf li:Nat),ow,ke,(bf cc:Nat),(er nu:Nat)⟩:Request)=q:=⟨_,rfl⟩
 have qh:q.enc= .st 33 [.s (.int .i64 (bf op:Nat)),.arr 28 (i.map aa),.arr 22 (p.map aa),.aq false none (t.map aa),.s (.int .i64 (bf li:Nat)),.arr 22 (ow.map aa),.arr 22 (ke.map aa),.s (.int .i64 (bf cc:Nat)),.s (.int .u64 (er nu:Nat))]:=by rw[←hq];rfl
 have hrq:∀H,run fns pr h.length 74 [.st 33 [.s (.int .i64 (bf op:Nat)),.arr 28 (i.map aa),.arr 22 (p.map aa),.aq false none (t.map aa),.s (.int .i64 (bf li:Nat)),.arr 22 (ow.map aa),.arr 22 (ke.map aa),.s (.int .i64 (bf cc:Nat)),.s (.int .u64 (er nu:Nat))]] H=some (.s (.bool (cM q)),H):=fun H=> by rw[←qh];exact gV h.length H false q
 have yu:gN.enc= .st 33 [ki,z4 28,aK 22,kx,ki,aK 22,aK 22,ki,ku]:=rfl
 rw[hq]
 by_cases hb:(b9 || decide (l9≠[]))=true
 ·rw[hb] at cl
  rw[hb,adw,if_pos rfl]
  simp only[B73,c1,c2,c3,c4,c5,c6,c7,c8,c9,cl,tk,yu,go_sem,simprocAttr]
 ·rw[adu] at hb
  rw[hb] at cl
  rw[hb,ae5]
  cases hr:cM q with
  | false=>
    rw[hr] at hrq
    rw[if_pos (show (!false)=true from rfl)]
    simp only[B73,c1,c2,c3,c4,c5,c6,c7,c8,c9,cl,tk,hrq,yu,go_sem,simprocAttr]
  | true=>
    rw[hr] at hrq
    rw[if_neg (show ¬(!true)=true by simp)]
    simp only[B73,c1,c2,c3,c4,c5,c6,c7,c8,c9,cl,tk,hrq,qh,go_sem,simprocAttr]
def bN (r:av):Bool:=mC r.aO r.num && decide (0≤r.wK)&& decide (r.wK≤255)&& decide (r.gen≤1099511627776)&& decide (0≤r.left)&& decide (r.left≤32)&& decide (r.aL.length≤64)
theorem sQ (b:Nat) (h:Hp) (f:Bool) (r:av):run fns pr b 132 [r.aH f] h=some (.s (.bool (bN r)),h):=by
 refine Vm.aQ (nt:=39) rfl Qm (by simp) ?_
 have hw:=fun h0=> Ir h.length h0 r.aO r.num
 rw[←mC.eq_1] at hw
 have au:(0:Nat)=0:=rfl
 try simp only[LG,av.aH,hw,go_sem,simprocAttr]
 repeat' (
   first | refine q5z ?_ ?_ | refine q3z ?_ ?_ | refine q4z ?_ ?_
   all_goals intro ai
   all_goals first | replace ai:=q2z ai | replace ai:=q1z ai | skip
   all_goals first | subst ai | replace au:=And.intro ai au
   all_goals try simp only[au,LG,av.aH,hw,go_sem,simprocAttr])
 all_goals clear hw
 all_goals try simp only[decide_eq_true_eq,decide_eq_false_iff_not] at *
 all_goals first
   | (simp_all [bN, -Int.not_le, -Int.not_lt, -Nat.not_le, -Nat.not_lt,abK];done)
   | (simp_all [bN, -Int.not_le, -Int.not_lt, -Nat.not_le, -Nat.not_lt,abK];omega)
   | (simp_all [bN,abK];done)
   | (simp_all [bN,abK];omega)
   | skip
theorem rF (b:Nat) (h:Hp) (f:Bool) (r:av):run fns pr b 87 [r.aH f] h=some (.s (.bool (bN r)),h):=by
 refine Vm.aQ (nt:=47) rfl Wh (by simp) ?_
 have n1:=fun h0=> vq h.length h0 r.gen
 have n2:=fun h0=> vq h.length h0 r.num
 have au:(0:Nat)=0:=rfl
 try simp only[B87,av.aH,n1,n2,go_sem,simprocAttr]
 repeat' (
   first | refine q5z ?_ ?_ | refine q3z ?_ ?_ | refine q4z ?_ ?_
   all_goals intro ai
   all_goals first | replace ai:=q2z ai | replace ai:=q1z ai | skip
   all_goals first | subst ai | replace au:=And.intro ai au
   all_goals try simp only[au,B87,av.aH,n1,n2,go_sem,simprocAttr])
 all_goals clear n1 n2
 all_goals try simp only[decide_eq_true_eq,decide_eq_false_iff_not] at *
 all_goals first
   | (simp_all [bN,mC, -Int.not_le, -Int.not_lt, -Nat.not_le, -Nat.not_lt,abK];done)
   | (simp_all [bN,mC, -Int.not_le, -Int.not_lt, -Nat.not_le, -Nat.not_lt,abK];omega)
   | (simp_all [bN,mC,abK];done)
   | (simp_all [bN,mC,abK];omega)
   | skip
def dG (r:av):Bs:=[bt r.wK]++(r.iD++(aE r.gen.toNat++([bt r.left,bt r.aO]++(aE r.num.toNat++([bt r.aL.length]++r.aL)))))
theorem Ix (b:Nat) (h:Hp) (f:Bool) (r:av) (hw:r.wf):run fns pr b 79 [r.aH f] h=some (if bN r=true then .bM [.aq false none ((dG r).map aa),.s (.int .i64 0)] else .bM [.aq false none [],.s (.int .i64 1)],h):=by
 refine Vm.aQ (nt:=35) rfl V2 (by simp) ?_
 have hr:=fun h0=> sQ h.length h0 f r
 have et:(r.aH f).ty=some 45:=rfl
 have es:(r.aH f).aw=true:=rfl
 cases c:bN r with
 | false=>
   rw[c] at hr
   simp only[B79,et,es,hr,go_sem,simprocAttr]
 | true=>
   rw[c] at hr
   have zY:r.aL.length≤64:=by
     unfold bN at c
     simp only[abH,decide_eq_true_eq] at c
     exact c.2
   obtain ⟨w1,w2,w3,w4,w5,w6,w7⟩:=hw
   obtain ⟨wh,id,ge,le,se,cl,nu⟩:=r
   simp only at w1 w2 w3 w4 w5 w6 w7 zY
   obtain ⟨g,rfl⟩:∃g:Nat,ge=(g:Int):=⟨ge.toNat,by omega⟩
   obtain ⟨n,rfl⟩:∃n:Nat,nu=(n:Int):=⟨nu.toNat,by omega⟩
   have l1:(id.map aa).length=4:=by simp[w2]
   have n1:=fun H (hh:h.length≤H.length)=> de h.length H g (by omega) hh
   have n2:=fun H (hh:h.length≤H.length)=> de h.length H n (by omega) hh
   obtain ⟨BX,hBX⟩:∃BX,aT.cells (some 45) [av.aH f ⟨wh,id,g,le,se,cl,n⟩]=BX:=⟨_,rfl⟩
   have hco:=qb h.length (h++[BX,.cells none ((aE g).map aa),.cells none ((aE n).map aa)]) (.aq true none [.aq true none [aa (bt wh)],.ref h.length [0,1] none 0 4 1,.ref (h.length+1) [] none 0 8 8,.aq true none [aa (bt le),aa (bt cl)],.ref (h.length+2) [] none 0 8 8,.aq true none [aa (bt se.length)],.aq f none (se.map aa)]) 7 _ [[bt wh],id,aE g,[bt le,bt cl],aE n,[bt se.length],se] (.inl ⟨true,rfl⟩) rfl (by omega) ⟨rfl,fun i v m hv hm=> by
     match i,hv,hm with
     | 0,hv,hm=> cases hv;cases hm;exact BR.rd (ck _ true [bt wh])
     | 1,hv,hm=> cases hv;cases hm;exact Rd.mk' (by subst hBX;simp only[av.aH,bQ,go_sem,simprocAttr,abO,abI,Vm.aJ,Vm.bx,Vm.aZ,Vm.aU,Vm.bc,Vm.aX,abJ,ab2,cQ,acg,abG (ac4 l1)]) (by simp[eM,w2])
     | 2,hv,hm=> cases hv;cases hm;exact BR.rd (ch (by rw[aJ];rfl) (aF _))
     | 3,hv,hm=> cases hv;cases hm;exact BR.rd (ck _ true [bt le,bt cl])
     | 4,hv,hm=> cases hv;cases hm;exact BR.rd (ch (by rw[aJ];rfl) (aF _))
     | 5,hv,hm=> cases hv;cases hm;exact BR.rd (ck _ true [bt se.length])
     | 6,hv,hm=> cases hv;cases hm;exact BR.rd (ck _ f se)
     | i+7,hv,hm=> simp at hv⟩ (by simp;omega)
   simp only[ada,aei,ab8] at hco
   have hrb:dG ⟨wh,id,g,le,se,cl,n⟩=[bt wh]++(id++(aE g++([bt le,bt cl]++(aE n++([bt se.length]++se))))):=rfl
   rw[←hrb] at hco
   subst hBX
   simp only[av.aH] at hco hr
   simp only[B79,av.aH,hr,l1,n1,n2,mH,lf,fo,gS,eA,hco,or_true,go_sem,simprocAttr]
theorem pj (b:Nat) (h:Hp) (x k:Nat) (hx:x < 4294967296) (hk:k≤31):run fns pr b 90 [.s (.int .u32 x),.s (.int .i64 k)] h=some (.s (.int .u32 (o7 k x:Nat)),h):=by
 refine Vm.aQ (nt:=15) rfl Wl (by simp) ?_
 have au:(0:Nat)=0:=rfl
 try simp only[B90,Hf,He,go_sem,simprocAttr]
 repeat' (
   first | refine q5z ?_ ?_ | refine q3z ?_ ?_ | refine q4z ?_ ?_
   all_goals intro ai
   all_goals first | replace ai:=q2z ai | replace ai:=q1z ai | skip
   all_goals first | subst ai | replace au:=And.intro ai au
   all_goals try simp only[au,B90,Hf,He,go_sem,simprocAttr])
 refine bo (fun m e H=>∃j,m=k - j∧j≤k∧e 1= .s (.int .i64 ((k - j:Nat):Int))∧e 0= .s (.int .u32 (o7 j x:Nat))∧H=h)
   (fun e H=> e 0= .s (.int .u32 (o7 k x:Nat))∧H=h)
   k _ _ ⟨0,rfl,by omega,rfl,by rw[HY hx];rfl,rfl⟩ ?_ ?_
 ·rintro m e H ⟨j,rfl,hj,e1,e0,rfl⟩
  have hy:=Ay (k:=j) hx (by omega)
  by_cases c:j < k
  ·have c':(0:Int)<((k - j:Nat):Int):=by omega
   have hs:=HZ (x:=x) (j:=j) hx (by omega)
   generalize o7 j x=y at e0 hy hs
   have s1:wM .u32 (y:Int) 1=_:=HW (a:=y) (k:=1) (by omega)
   have s2:sw .u32 (y:Int) 31=_:=HX (a:=y) (k:=31) (by omega)
   have s3:=QX (a:=y * 2 ^ 1 % 4294967296) (b:=y / 2 ^ 31) (adS _ (by decide)) (adL (adA _ _) hy)
   rw[show (y * 2 ^ 1 % 4294967296) ||| (y / 2 ^ 31)=o7 1 y from Ax (k:=1) hy (by omega),hs] at s3
   have h1:∀cf base h,aB cf base h (.bin .num .shl) [.s (.int .u32 y),.s (.int .u64 1)]=some (.s (.int .u32 ((y * 2 ^ 1 % 4294967296:Nat):Int)),h):=fun cf base h=> by rw[←s1];exact yl cf base h .u32 .u64 (y:Int) 1 (by omega)
   have h2:∀cf base h,aB cf base h (.bin .num .shr) [.s (.int .u32 y),.s (.int .u64 31)]=some (.s (.int .u32 ((y / 2 ^ 31:Nat):Int)),h):=fun cf base h=> by rw[←s2];exact sC cf base h .u32 .u64 (y:Int) 31 (by omega)
   clear s1 s2
   generalize y * 2 ^ 1 % 4294967296=y1 at h1 s3
   generalize y / 2 ^ 31=y2 at h2 s3
   have hw:IntKind.i64.wrap (((k - j:Nat):Int) - 1)=((k - (j+1):Nat):Int):=by rw[wrap_i64 (by omega) (by omega)];omega
   have au:(0:Nat)=0:=rfl
   try simp only[e1,e0,c',h1,h2,s3,hw,go_sem,simprocAttr]
   repeat' (
     first | refine q5z ?_ ?_ | refine q3z ?_ ?_ | refine q4z ?_ ?_
     all_goals intro ai
     all_goals first | replace ai:=q2z ai | replace ai:=q1z ai | skip
     all_goals first | subst ai | replace au:=And.intro ai au
     all_goals try simp only[au,e1,e0,c',h1,h2,s3,hw,go_sem,simprocAttr])
   all_goals exact ⟨k - (j+1),by omega,j+1,rfl,by omega,rfl,rfl⟩
  ·have c':¬(0:Int)<((k - j:Nat):Int):=by omega
   have:j=k:=by omega
   subst this
   have au:(0:Nat)=0:=rfl
   try simp only[e1,e0,c',go_sem,simprocAttr]
   repeat' (
     first | refine q5z ?_ ?_ | refine q3z ?_ ?_ | refine q4z ?_ ?_
     all_goals intro ai
     all_goals first | replace ai:=q2z ai | replace ai:=q1z ai | skip
     all_goals first | subst ai | replace au:=And.intro ai au
     all_goals try simp only[au,e1,e0,c',go_sem,simprocAttr])
 ·rintro e H ⟨e0,rfl⟩
  have au:(0:Nat)=0:=rfl
  try simp only[e0,go_sem,simprocAttr]
  repeat' (
    first | refine q5z ?_ ?_ | refine q3z ?_ ?_ | refine q4z ?_ ?_
    all_goals intro ai
    all_goals first | replace ai:=q2z ai | replace ai:=q1z ai | skip
    all_goals first | subst ai | replace au:=And.intro ai au
    all_goals try simp only[au,e0,go_sem,simprocAttr])
theorem eC (p:Bool) (n:Value):(p || (V.s n).ground)=true:=by cases p <;> rfl
theorem pk (b:Nat) (h:Hp) (id:Nat) (x:W) (hx:x.ok) (hg:h[id]? =some (.cells none x.vs)):
 run fns pr b 46 [.ref id [] none 0 4 4] h=some (.bM [],h.set id (.cells none (iu x).vs)):=by
 refine Vm.aQ (nt:=78) rfl UY (by simp) ?_
 have oF:∀c,(h.set id c)[id]? =some c:=fun c=> q9z hg
 have Ic:∀c d,(h.set id c).set id d=h.set id d:=fun c d=> acM ..
 have dQ:∀c,(h.set id c).take h.length=h.set id c:=fun c=> abG (by rw[adf];exact abJ _)
 have r16:∀b h y z,run fns pr b 90 [.s (.int .u32 ((xr y z:Nat):Int)),.s (.int .i64 16)] h=some (.s (.int .u32 ((o7 16 (xr y z):Nat):Int)),h):=fun b h y z=> pj b h _ 16 (lV _ _) (by omega)
 have r12:∀b h y z,run fns pr b 90 [.s (.int .u32 ((xr y z:Nat):Int)),.s (.int .i64 12)] h=some (.s (.int .u32 ((o7 12 (xr y z):Nat):Int)),h):=fun b h y z=> pj b h _ 12 (lV _ _) (by omega)
 have r8:∀b h y z,run fns pr b 90 [.s (.int .u32 ((xr y z:Nat):Int)),.s (.int .i64 8)] h=some (.s (.int .u32 ((o7 8 (xr y z):Nat):Int)),h):=fun b h y z=> pj b h _ 8 (lV _ _) (by omega)
 have r7:∀b h y z,run fns pr b 90 [.s (.int .u32 ((xr y z:Nat):Int)),.s (.int .i64 7)] h=some (.s (.int .u32 ((o7 7 (xr y z):Nat):Int)),h):=fun b h y z=> pj b h _ 7 (lV _ _) (by omega)
 simp only[W.vs] at hg
 have l0:(0:Int)<((4:Nat):Int):=by decide
 have l1:(1:Int)<((4:Nat):Int):=by decide
 have l2:(2:Int)<((4:Nat):Int):=by decide
 have l3:(3:Int)<((4:Nat):Int):=by decide
 have au:(0:Nat)=0:=rfl
 try simp only[B46,l0,l1,l2,l3,hg,oF,Ic,dQ,LU,ye,r16,r12,r8,r7,eC,go_sem,simprocAttr]
 repeat' (
   first | refine q5z ?_ ?_ | refine q3z ?_ ?_ | refine q4z ?_ ?_
   all_goals intro ai
   all_goals first | replace ai:=q2z ai | replace ai:=q1z ai | skip
   all_goals first | subst ai | replace au:=And.intro ai au
   all_goals try simp only[au,B46,l0,l1,l2,l3,hg,oF,Ic,dQ,LU,ye,r16,r12,r8,r7,eC,go_sem,simprocAttr])
 all_goals rfl
theorem CB (b:Nat) (h:Hp) (x:V) (l:Bs) (hb:BR h x l) (hl:4≤l.length):run fns pr b 45 [x] h=some (.s (.int .u32 (nO l:Nat)),h):=by
 refine Vm.aQ (nt:=18) rfl UW (by simp) ?_
 have au:(0:Nat)=0:=rfl
 try simp only[B45,G3,G1,go_sem,simprocAttr]
 repeat' (
   first | refine q5z ?_ ?_ | refine q3z ?_ ?_ | refine q4z ?_ ?_
   all_goals intro ai
   all_goals first | replace ai:=q2z ai | replace ai:=q1z ai | skip
   all_goals first | subst ai | replace au:=And.intro ai au
   all_goals try simp only[au,B45,G3,G1,go_sem,simprocAttr])
 have jF:SR h x none (l.map aa):=by
   rcases hb with ⟨f,rfl⟩ | ⟨id,off,bl,rfl,h1,h2,h3⟩
   ·exact .inl ⟨f,rfl⟩
   ·exact .inr ⟨id,off,bl.length,bl.map aa,by simp,h1,by simp,by simpa using h2,by rw[abX,←List.map_drop,←List.map_take,h3]⟩
 have hv:∀i,i < 4→∃u:Nat,u < 256∧(l.getD i 0).toNat=u∧(∀cf base,aB cf base h (.dx none) [x,.s (.int .i64 (i:Nat))]=some (k8 x i,h))∧(∀cf base,aB cf base h (.ld none) [k8 x i]=some (.s (.int .u8 u),h)):=by
   intro i hi
   have h1:l[i]? =some (l.getD i 0):=by rw[List.getD,abE (by omega)];rfl
   exact ⟨_,(l.getD i 0).toNat_lt,rfl,fun cf base=> jF.cZ (by simp;omega),fun cf base=> jF.iy (v:=aa (l.getD i 0)) (by rw[abT,h1];rfl) rfl⟩
 refine bo (fun m e H=>∃j,m=j∧j≤4∧e 4= .s (.int .i64 ((j:Nat) - 1))∧e 3= .s (.int .u32 (nO l / 256 ^ j:Nat))∧e 0=x∧H=h)
   (fun e H=> e 3= .s (.int .u32 (nO l:Nat))∧H=h)
   4 _ _ ⟨4,rfl,by omega,rfl,by rw[Ck];rfl,rfl,rfl⟩ ?_ ?_
 ·rintro m e H ⟨j,rfl,hj,e4,e3,e0,rfl⟩
  cases m with
  | zero=>
    have c':¬(0:Int)≤((0:Nat):Int) - 1:=by omega
    rw[ae7,ae2] at e3
    have au:(0:Nat)=0:=rfl
    try simp only[e4,c',go_sem,simprocAttr]
    repeat' (
      first | refine q5z ?_ ?_ | refine q3z ?_ ?_ | refine q4z ?_ ?_
      all_goals intro ai
      all_goals first | replace ai:=q2z ai | replace ai:=q1z ai | skip
      all_goals first | subst ai | replace au:=And.intro ai au
      all_goals try simp only[au,e4,c',go_sem,simprocAttr])
    all_goals exact e3
  | succ j=>
    have hj1:(((j+1:Nat):Int) - 1)=(j:Int):=by omega
    rw[hj1] at e4
    have c':(0:Int)≤(j:Int):=by omega
    obtain ⟨u,hu,zZ,ff,Ig⟩:=hv j (by omega)
    have ba:=yf l j (by omega)
    have Ih:=ve l j
    rw[zZ] at ba
    generalize nO l / 256 ^(j+1)=y at e3 ba Ih
    have hw:IntKind.i64.wrap ((j:Int) - 1)=(j:Int) - 1:=wrap_i64 (by omega) (by omega)
    have wu:IntKind.u32.wrap (u:Int)=(u:Int):=wrap_u32 (by omega) (by omega)
    have s1:IntKind.u32.wrap ((y:Int)* 256)=((y * 256:Nat):Int):=by rw[wrap_u32 (by omega) (by omega)];omega
    have s3:IntKind.u32.wrap (((y * 256:Nat):Int)+(u:Int))=((y * 256+u:Nat):Int):=by rw[wrap_u32 (by omega) (by omega)];omega
    rw[ba] at s3
    have au:(0:Nat)=0:=rfl
    try simp only[e4,e3,e0,c',ff,Ig,wu,s1,s3,hw,go_sem,simprocAttr]
    repeat' (
      first | refine q5z ?_ ?_ | refine q3z ?_ ?_ | refine q4z ?_ ?_
      all_goals intro ai
      all_goals first | replace ai:=q2z ai | replace ai:=q1z ai | skip
      all_goals first | subst ai | replace au:=And.intro ai au
      all_goals try simp only[au,e4,e3,e0,c',ff,Ig,wu,s1,s3,hw,go_sem,simprocAttr])
    all_goals exact ⟨j,by omega,j,rfl,by omega,rfl,rfl⟩
 ·rintro e H ⟨e3,rfl⟩
  have au:(0:Nat)=0:=rfl
  try simp only[e3,go_sem,simprocAttr]
  repeat' (
    first | refine q5z ?_ ?_ | refine q3z ?_ ?_ | refine q4z ?_ ?_
    all_goals intro ai
    all_goals first | replace ai:=q2z ai | replace ai:=q1z ai | skip
    all_goals first | subst ai | replace au:=And.intro ai au
    all_goals try simp only[au,e3,go_sem,simprocAttr])
end Go.Proofs.YtggjbepemdhohaaGreat
