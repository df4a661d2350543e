/- Texts for DeviceBoots, part 2. Conditions: none. -/
import Derived.Test.YtannfageakbpmaaGreatCTa
set_option linter.unusedSimpArgs false
set_option linter.unusedVariables false
set_option linter.unusedSectionVars false
namespace Go.Vm
theorem XR.push {h H:Hp} {k m:Nat} {x:V} {vs:List V} {bytes:Nat} {z:V} (xr:XR H none k x vs) (hk:m≤k) (hm:m≤H.length) (hh:h.length≤m) (fw:Fw [] h H) (hz:z.ground=true) (hb:(vs.length+1)* bytes≤140737488355328):
 ∃x' H' k',(∀cf base,opV cf base (H++[.cells none [z]]) (.app none bytes) [x,.ref H.length [] none 0 1 1]=some (x',H'))∧XR H' none k' x' (vs++[z])∧Fw [] h H'∧m≤k'∧m≤H'.length∧∀j b,j < m→H[j]? =some b→H'[j]? =some b:=by
 obtain ⟨x',H',k',h1,h2,h3,h4,h5⟩:=xr.app1 (h:=h) (T:=[.cells none [z]]) (idy:=H.length) (z:=z) (bytes:=bytes) (by omega) fw (by rw[List.getElem?_append_right (Nat.le_refl _)];simp) hz hb
 have h6:m≤k':=by rcases h4 with rfl | h4 <;> omega
 refine ⟨x',H',k',h1,h2,h3,h6,?_,fun j b hj hb=> h5 j b (by omega) (q10z hb _)⟩
 rcases h2 with ⟨_,h0⟩ | ⟨_,h0⟩
 ·simp at h0
 ·have:=q6z h0;omega
end Go.Vm
namespace Go.Proofs.YtannfageakbpmaaGreat
open Go Go.Vm Go.Proofs Go.Cl
set_option maxRecDepth 100000
theorem u8nat (n:Nat) (h:n < 256):(UInt8.ofNat n).toNat=n:=by
 rw[UInt8.toNat_ofNat'];omega
theorem q17z {n:Nat} (h:n < 4611686018427387904):IntKind.i64.wrap ((n:Int)+1)=((n+1:Nat):Int):=by
 rw[wrap_i64 (by omega) (by omega)];omega
def zer16 :List V:=zero16.map byteV
def wv0 :List V:=[.s (.int .u32 1668047222),.s (.int .u32 1768383858),.s (.int .u32 1801807216),.s (.int .u32 1935763045)]
def base1 (l:Bs) (z:Nat):Bs:=l++[128]++List.replicate z 0
theorem base1_succ (l:Bs) (z:Nat):base1 l (z+1)=base1 l z++[0]:=by simp[base1,List.replicate_succ']
theorem base1_len (l:Bs) (z:Nat):(base1 l z).length=l.length+1+z:=by simp[base1];omega
theorem shr64 {a k:Nat} (hk:k≤64):shrI .u64 (a:Int) (k:Int)=((a / 2 ^ k:Nat):Int):=by
 have h:shrI .u64 (a:Int) (k:Int)=(a:Int).fdiv (2 ^(min ((k:Int).toNat) 64)):=rfl
 rw[h,Int.toNat_natCast,Nat.min_eq_left hk,Int.fdiv_eq_ediv_of_nonneg _ (by exact Int.le_of_lt (Int.pow_pos (by decide)))]
 simp
theorem u8_mod (n:Nat):V.s (.int .u8 (IntKind.u8.wrap (n:Int)))=byteV (UInt8.ofNat (n % 256)):=by
 have:IntKind.u8.wrap (n:Int)=(n:Int) % 256:=by
   simp only[IntKind.wrap,IntKind.bits,IntKind.signed];rfl
 rw[this,byteV,u8nat (n % 256) (by omega)]
 congr 2
theorem frzA_bytes (n:Nat) (h:Hp):∀l:Bs,frzV.all n h (l.map byteV)=some (l.map byteV)
 | []=> frzA_nil n h
 | b::l=> by rw[List.map_cons,frzA_cons,frzA_bytes n h l];rfl
theorem get2 (h:Hp) (a b:Blk):(h++[a,b])[h.length]? =some a∧(h++[a,b])[h.length+1]? =some b:=by
 constructor
 ·rw[List.getElem?_append_right (Nat.le_refl _)];simp
 ·rw[List.getElem?_append_right (by omega)];simp
theorem clone2 (b:Nat) (h:Hp) (x:V) (l:Bs) (hb:Rd h x l) (hl:l.length≤1000000):∃v T,(∀b,run fns2 pr2 b 91 [x] h=some (v,h++T))∧XR (h++T) none h.length v (l.map byteV)∧v.ty=none∧v.solid=true:=by
 obtain ⟨v,t,hc,hx,hcase⟩:=Vm.clone_okE (hb.1 h (Fw.refl _ _)) (by omega)
 refine ⟨v,t,fun b=> ?_,?_,?_⟩
 ·rw[run_pr fns2 pr2 rfl];exact hc
 ·rcases hcase with ⟨rfl,rfl,rfl⟩ | ⟨rfl,rfl⟩
  ·exact .inl ⟨rfl,rfl⟩
  ·exact .inr ⟨by rw[List.length_map],get_app0 _ _⟩
 ·rcases hcase with ⟨rfl,_⟩ | ⟨rfl,_⟩<;> exact ⟨rfl,rfl⟩
def G0 (h:Hp):Hp:=h++[Blk.cells (some 25) [.arr 25 zer16],Blk.cells (some 155) [.arr 155 wv0]]
theorem Sum_ok (b:Nat) (h:Hp) (x:V) (l:Bs) (hb:Rd h x l) (hl:l.length≤1000000):run fns2 pr2 b 60 [x] h=some (.arr 25 ((sumB l).map byteV),h):=by
 refine Vm.runP (nt:=76) rfl fit60 (by simp) ?_
 obtain ⟨g0,g1⟩:(G0 h)[h.length]? =_∧(G0 h)[h.length+1]? =_:=get2 h (.cells (some 25) [.arr 25 zer16]) (.cells (some 155) [.arr 155 wv0])
 have hlG:(G0 h).length=h.length+2:=by simp[G0]
 obtain ⟨v,T,hcl,xr,hty,hso⟩:=clone2 h.length (G0 h) x l (hb.fw (Fw.app [] h _)) hl
 have fw:Fw [] h (G0 h++T):=(Fw.app [] h _).trans (Fw.app [] _ _)
 have g0:=q10z g0 T
 have g1:=q10z g1 T
 have hlen:h.length+2≤(G0 h++T).length:=by rw[List.length_append,hlG];omega
 rw[hlG] at xr
 generalize hHH:G0 h++T=H at *
 simp only[G0,zer16,wv0] at hcl
 obtain ⟨x1,H1,k1,hap,xr1,fw1,hk1,hl1,hold1⟩:=xr.push (m:=h.length+2) (z:= .s (.int .u8 128)) (bytes:=1) (by omega) hlen (by omega) fw rfl (by simp;omega)
 have hvb:(0:Nat)=0:=rfl
 try simp only[B60,B60R0,B60R2,B60R4,B60R8,B60R10,B60L10,B60L8,B60L4,B60L6,B60L2,B60L0,hcl,hty,hso,hap,go_sem,↓reduceIte,Nat.reduceEqDiff,Nat.reduceBEq,Nat.reduceAdd,Nat.reduceSub,Nat.reduceLT,Nat.reduceLeDiff,Int.reduceLT,Int.reduceLE,Int.reduceEq,Int.reduceToNat]
 repeat' (
   first | refine q5z ?_ ?_ | refine q3z ?_ ?_ | refine q4z ?_ ?_
   all_goals intro hvc
   all_goals first | replace hvc:=q2z hvc | replace hvc:=q1z hvc | skip
   all_goals first | subst hvc | replace hvb:=And.intro hvc hvb
   all_goals try simp only[hvb,B60,B60R0,B60R2,B60R4,B60R8,B60R10,B60L10,B60L8,B60L4,B60L6,B60L2,B60L0,hcl,hty,hso,hap,go_sem,↓reduceIte,Nat.reduceEqDiff,Nat.reduceBEq,Nat.reduceAdd,Nat.reduceSub,Nat.reduceLT,Nat.reduceLeDiff,Int.reduceLT,Int.reduceLE,Int.reduceEq,Int.reduceToNat])
 have hg0:=hold1 _ _ (by omega) g0
 have hg1:=hold1 _ _ (by omega) g1
 have hxl:∀cf base (h0:Hp),Fw [] h h0→opV cf base h0 .len [x]=some (.s (.int .i64 l.length),h0):=fun cf base h0 f=> Vm.o_len cf base h0 x _ hb.2
 refine wp_for (fun m e H=>∃z k y,m=pads l.length - z∧z≤pads l.length∧e 0=x∧e 2= .ptr h.length [0] 1∧e 3= .ptr (h.length+1) [0] 1∧e 4=y∧H[h.length]? =some (.cells (some 25) [.arr 25 zer16])∧H[h.length+1]? =some (.cells (some 155) [.arr 155 wv0])∧XR H none k y ((base1 l z).map byteV)∧Fw [] h H∧h.length+2≤k∧h.length+2≤H.length)
   (fun e H=>∃k y,e 0=x∧e 2= .ptr h.length [0] 1∧e 3= .ptr (h.length+1) [0] 1∧e 4=y∧H[h.length]? =some (.cells (some 25) [.arr 25 zer16])∧H[h.length+1]? =some (.cells (some 155) [.arr 155 wv0])∧XR H none k y ((base1 l (pads l.length)).map byteV)∧Fw [] h H∧h.length+2≤k∧h.length+2≤H.length)
   (pads l.length) _ _ ⟨0,k1,x1,rfl,by omega,rfl,rfl,rfl,rfl,hg0,hg1,by rw[show (base1 l 0).map byteV=l.map byteV++[V.s (.int .u8 128)] by simp[base1];rfl];exact xr1,fw1,hk1,hl1⟩ ?_ ?_
 ·clear hcl hHH hap xr1 fw1 hk1 hl1 hold1 hg0 hg1 xr fw g0 g1 hlen
  rintro m e H ⟨z,k,y,rfl,hz,e0,e2,e3,e4,hg0,hg1,xr,fw,hk,hlH⟩
  have hln:=fun cf base=> xr.BR.o_len (cf:=cf) (base:=base) (h:=H)
  rw[base1_len] at hln
  have hpd:pads l.length=(8 - (l.length+1) % 8) % 8:=rfl
  have hrm:∀cf base h,opV cf base h (.bin .num .rem) [.s (.int .i64 ((l.length+1+z:Nat):Int)),.s (.int .i64 8)]=some (.s (.int .i64 (((l.length+1+z) % 8:Nat):Int)),h):=fun cf base h=> by
    rw[o_rem cf base h .i64 _ 8 (by omega),Int.tmod_eq_emod_of_nonneg (by omega)];rfl
  by_cases c:z < pads l.length
  ·have c':¬(((l.length+1+z) % 8:Nat):Int)=0:=by omega
   obtain ⟨x',H',k',hap,xr',fw',hk',hl',hold⟩:=xr.push (m:=h.length+2) (z:= .s (.int .u8 0)) (bytes:=1) (by omega) hlH (by omega) fw rfl (by rw[List.length_map,base1_len];omega)
   have xr':XR H' none k' x' ((base1 l (z+1)).map byteV):=by rw[base1_succ,List.map_append];exact xr'
   have hvb:(0:Nat)=0:=rfl
   try simp only[e0,e2,e3,e4,hln,hrm,c',hap,go_sem,↓reduceIte,Nat.reduceEqDiff,Nat.reduceBEq,Nat.reduceAdd,Nat.reduceSub,Nat.reduceLT,Nat.reduceLeDiff,Int.reduceLT,Int.reduceLE,Int.reduceEq,Int.reduceToNat]
   repeat' (
     first | refine q5z ?_ ?_ | refine q3z ?_ ?_ | refine q4z ?_ ?_
     all_goals intro hvc
     all_goals first | replace hvc:=q2z hvc | replace hvc:=q1z hvc | skip
     all_goals first | subst hvc | replace hvb:=And.intro hvc hvb
     all_goals try simp only[hvb,e0,e2,e3,e4,hln,hrm,c',hap,go_sem,↓reduceIte,Nat.reduceEqDiff,Nat.reduceBEq,Nat.reduceAdd,Nat.reduceSub,Nat.reduceLT,Nat.reduceLeDiff,Int.reduceLT,Int.reduceLE,Int.reduceEq,Int.reduceToNat])
   all_goals exact ⟨pads l.length - (z+1),by omega,z+1,k',x',rfl,by omega,rfl,hold _ _ (by omega) hg0,hold _ _ (by omega) hg1,xr',fw',hk',hl'⟩
  ·have c':(((l.length+1+z) % 8:Nat):Int)=0:=by omega
   have:z=pads l.length:=by omega
   have hvb:(0:Nat)=0:=rfl
   try simp only[e0,e2,e3,e4,hln,hrm,c',go_sem,↓reduceIte,Nat.reduceEqDiff,Nat.reduceBEq,Nat.reduceAdd,Nat.reduceSub,Nat.reduceLT,Nat.reduceLeDiff,Int.reduceLT,Int.reduceLE,Int.reduceEq,Int.reduceToNat]
   repeat' (
     first | refine q5z ?_ ?_ | refine q3z ?_ ?_ | refine q4z ?_ ?_
     all_goals intro hvc
     all_goals first | replace hvc:=q2z hvc | replace hvc:=q1z hvc | skip
     all_goals first | subst hvc | replace hvb:=And.intro hvc hvb
     all_goals try simp only[hvb,e0,e2,e3,e4,hln,hrm,c',go_sem,↓reduceIte,Nat.reduceEqDiff,Nat.reduceBEq,Nat.reduceAdd,Nat.reduceSub,Nat.reduceLT,Nat.reduceLeDiff,Int.reduceLT,Int.reduceLE,Int.reduceEq,Int.reduceToNat])
   all_goals (subst this;exact ⟨k,y,rfl,hg0,hg1,xr,fw,hk,hlH⟩)
 ·clear hcl hHH hap xr1 fw1 hk1 hl1 hold1 hg0 hg1 xr fw g0 g1 hlen
  rintro e H ⟨k,y,e0,e2,e3,e4,hg0,hg1,xr,fw,hk,hlH⟩
  have hvb:(0:Nat)=0:=rfl
  try simp only[e0,e2,e3,e4,go_sem,↓reduceIte,Nat.reduceEqDiff,Nat.reduceBEq,Nat.reduceAdd,Nat.reduceSub,Nat.reduceLT,Nat.reduceLeDiff,Int.reduceLT,Int.reduceLE,Int.reduceEq,Int.reduceToNat]
  repeat' (
    first | refine q5z ?_ ?_ | refine q3z ?_ ?_ | refine q4z ?_ ?_
    all_goals intro hvc
    all_goals first | replace hvc:=q2z hvc | replace hvc:=q1z hvc | skip
    all_goals first | subst hvc | replace hvb:=And.intro hvc hvb
    all_goals try simp only[hvb,e0,e2,e3,e4,go_sem,↓reduceIte,Nat.reduceEqDiff,Nat.reduceBEq,Nat.reduceAdd,Nat.reduceSub,Nat.reduceLT,Nat.reduceLeDiff,Int.reduceLT,Int.reduceLE,Int.reduceEq,Int.reduceToNat])
  refine wp_for (fun m e H=>∃i k y,m=8 - i∧i≤8∧e 20= .s (.int .i64 (i:Nat))∧e 0=x∧e 2= .ptr h.length [0] 1∧e 3= .ptr (h.length+1) [0] 1∧e 4=y∧H[h.length]? =some (.cells (some 25) [.arr 25 zer16])∧H[h.length+1]? =some (.cells (some 155) [.arr 155 wv0])∧XR H none k y ((base1 l (pads l.length)++len8 l.length i).map byteV)∧Fw [] h H∧h.length+2≤k∧h.length+2≤H.length)
    (fun e H=>∃y,e 0=x∧e 2= .ptr h.length [0] 1∧e 3= .ptr (h.length+1) [0] 1∧e 4=y∧H[h.length]? =some (.cells (some 25) [.arr 25 zer16])∧H[h.length+1]? =some (.cells (some 155) [.arr 155 wv0])∧BR H y (padded l)∧Fw [] h H)
    8 _ _ ⟨0,k,y,rfl,by omega,rfl,e0,e2,e3,e4,hg0,hg1,by simpa[len8] using xr,fw,hk,hlH⟩ ?_ ?_
  ·clear xr fw hk hlH hg0 hg1 e4 y k
   rintro m e H ⟨i,k,y,rfl,hi,e20,e0,e2,e3,e4,hg0,hg1,xr,fw,hk,hlH⟩
   by_cases c:i < 8
   ·have c':(i:Int)< 8:=by omega
    have hln:=fun cf base=> hxl cf base H fw
    have hwr:IntKind.i64.wrap ((i:Int)+1)=((i+1:Nat):Int):=q17z (by omega)
    have w1:IntKind.u64.wrap (l.length:Int)=(l.length:Int):=wrap_u64 (by omega) (by omega)
    have w2:IntKind.i64.wrap (8 *(i:Int))=((8 * i:Nat):Int):=by rw[wrap_i64 (by omega) (by omega)];omega
    have hsh:∀cf base h,opV cf base h (.bin .num .shr) [.s (.int .u64 (l.length:Int)),.s (.int .i64 ((8 * i:Nat):Int))]=some (.s (.int .u64 ((l.length / 2 ^(8 * i):Nat):Int)),h):=fun cf base h=> by
      rw[o_shr cf base h .u64 .i64 _ _ (by omega),shr64 (by omega)]
    have hby:V.s (.int .u8 (IntKind.u8.wrap ((l.length / 2 ^(8 * i):Nat):Int)))=byteV (UInt8.ofNat (l.length / 2 ^(8 * i) % 256)):=u8_mod _
    obtain ⟨x',H',k',hap,xr',fw',hk',hl',hold⟩:=xr.push (m:=h.length+2) (z:= .s (.int .u8 (IntKind.u8.wrap ((l.length / 2 ^(8 * i):Nat):Int)))) (bytes:=1) (by omega) hlH (by omega) fw rfl (by rw[List.length_map,List.length_append,base1_len,len8_len];unfold pads;omega)
    have xr':XR H' none k' x' ((base1 l (pads l.length)++len8 l.length (i+1)).map byteV):=by rw[len8,←List.append_assoc,List.map_append,List.map_singleton,←hby];exact xr'
    have hvb:(0:Nat)=0:=rfl
    try simp only[e20,e0,e2,e3,e4,c',hln,w1,w2,hsh,hap,hwr,go_sem,↓reduceIte,Nat.reduceEqDiff,Nat.reduceBEq,Nat.reduceAdd,Nat.reduceSub,Nat.reduceLT,Nat.reduceLeDiff,Int.reduceLT,Int.reduceLE,Int.reduceEq,Int.reduceToNat]
    repeat' (
      first | refine q5z ?_ ?_ | refine q3z ?_ ?_ | refine q4z ?_ ?_
      all_goals intro hvc
      all_goals first | replace hvc:=q2z hvc | replace hvc:=q1z hvc | skip
      all_goals first | subst hvc | replace hvb:=And.intro hvc hvb
      all_goals try simp only[hvb,e20,e0,e2,e3,e4,c',hln,w1,w2,hsh,hap,hwr,go_sem,↓reduceIte,Nat.reduceEqDiff,Nat.reduceBEq,Nat.reduceAdd,Nat.reduceSub,Nat.reduceLT,Nat.reduceLeDiff,Int.reduceLT,Int.reduceLE,Int.reduceEq,Int.reduceToNat])
    all_goals exact ⟨8 - (i+1),by omega,i+1,k',x',rfl,by omega,rfl,rfl,hold _ _ (by omega) hg0,hold _ _ (by omega) hg1,xr',fw',hk',hl'⟩
   ·have c':¬(i:Int)< 8:=by omega
    have:i=8:=by omega
    have hvb:(0:Nat)=0:=rfl
    try simp only[e20,e0,e2,e3,e4,c',go_sem,↓reduceIte,Nat.reduceEqDiff,Nat.reduceBEq,Nat.reduceAdd,Nat.reduceSub,Nat.reduceLT,Nat.reduceLeDiff,Int.reduceLT,Int.reduceLE,Int.reduceEq,Int.reduceToNat]
    repeat' (
      first | refine q5z ?_ ?_ | refine q3z ?_ ?_ | refine q4z ?_ ?_
      all_goals intro hvc
      all_goals first | replace hvc:=q2z hvc | replace hvc:=q1z hvc | skip
      all_goals first | subst hvc | replace hvb:=And.intro hvc hvb
      all_goals try simp only[hvb,e20,e0,e2,e3,e4,c',go_sem,↓reduceIte,Nat.reduceEqDiff,Nat.reduceBEq,Nat.reduceAdd,Nat.reduceSub,Nat.reduceLT,Nat.reduceLeDiff,Int.reduceLT,Int.reduceLE,Int.reduceEq,Int.reduceToNat])
    all_goals (subst this;exact ⟨y,rfl,hg0,hg1,xr.BR,fw⟩)
  ·clear xr fw hk hlH hg0 hg1 e4 y k
   rintro e H ⟨y,e0,e2,e3,e4,hg0,hg1,br,fw⟩
   have hout:sumB l=outN (stirN (absN (padded l) ((padded l).length / 8)) 8) 16:=rfl
   have hmod:=padded_mod l
   obtain ⟨N,hN⟩:∃N,(padded l).length / 8=N:=⟨_,rfl⟩
   have hlP:=padded_len l
   have hpd:pads l.length < 8:=by unfold pads;omega
   generalize padded l=P at hmod hN hlP br hout
   rw[hN] at hout
   have hP8:P.length=8 * N:=by omega
   have l0:(0:Int)<((4:Nat):Int):=by decide
   have l3:(3:Int)<((4:Nat):Int):=by decide
   have hvb:(0:Nat)=0:=rfl
   try simp only[e0,e2,e3,e4,go_sem,↓reduceIte,Nat.reduceEqDiff,Nat.reduceBEq,Nat.reduceAdd,Nat.reduceSub,Nat.reduceLT,Nat.reduceLeDiff,Int.reduceLT,Int.reduceLE,Int.reduceEq,Int.reduceToNat]
   repeat' (
     first | refine q5z ?_ ?_ | refine q3z ?_ ?_ | refine q4z ?_ ?_
     all_goals intro hvc
     all_goals first | replace hvc:=q2z hvc | replace hvc:=q1z hvc | skip
     all_goals first | subst hvc | replace hvb:=And.intro hvc hvb
     all_goals try simp only[hvb,e0,e2,e3,e4,go_sem,↓reduceIte,Nat.reduceEqDiff,Nat.reduceBEq,Nat.reduceAdd,Nat.reduceSub,Nat.reduceLT,Nat.reduceLeDiff,Int.reduceLT,Int.reduceLE,Int.reduceEq,Int.reduceToNat])
   refine wp_for (fun m e H=>∃i y,m=N - i∧i≤N∧e 2= .ptr h.length [0] 1∧e 3= .ptr (h.length+1) [0] 1∧e 4=y∧H[h.length]? =some (.cells (some 25) [.arr 25 zer16])∧H[h.length+1]? =some (.cells (some 155) [.arr 155 (absN P i).vs])∧BR H y (P.drop (8 * i))∧Fw [] h H)
     (fun e H=> e 2= .ptr h.length [0] 1∧e 3= .ptr (h.length+1) [0] 1∧H[h.length]? =some (.cells (some 25) [.arr 25 zer16])∧H[h.length+1]? =some (.cells (some 155) [.arr 155 (absN P N).vs])∧Fw [] h H)
     N _ _ ⟨0,y,rfl,by omega,e2,e3,e4,hg0,hg1,by simpa using br,fw⟩ ?_ ?_
   ·clear br hg0 hg1 fw e4 y
    rintro m e H ⟨i,y,rfl,hi,e2,e3,e4,hg0,hg1,br,fw⟩
    have hln:=fun cf base=> br.o_len (cf:=cf) (base:=base) (h:=H)
    have hdl:(P.drop (8 * i)).length=8 *(N - i):=by rw[List.length_drop];omega
    rw[hdl] at hln
    by_cases c:i < N
    ·have c':(0:Int)<((8 *(N - i):Nat):Int):=by omega
     have habs:absN P (i+1)=abs1 (absN P i) (P.drop (8 * i)):=rfl
     have hd8:P.drop (8 *(i+1))=(P.drop (8 * i)).drop 8:=by rw[List.drop_drop];congr 1
     generalize P.drop (8 * i)=d at br hdl habs hd8
     generalize absN P i=X at hg1 habs
     have hw1:=low_ok h.length H y d br (by omega)
     have hss:∀c,(H.set (h.length+1) c)[h.length+1]? =some c:=fun c=> q9z hg1
     have hs0:∀c,(H.set (h.length+1) c)[h.length]? =some (.cells (some 25) [.arr 25 zer16]):=fun c=> by rw[List.getElem?_set_ne (by omega)];exact hg0
     have hfw:∀c,Fw [] h (H.set (h.length+1) c):=fun c=> fw.set_new (by omega) c
     have hbr:∀c,BR (H.set (h.length+1) (.cells (some 155) c)) y d:=fun c=> br.mono (Fw.set (S:=[h.length+1]) (by simp) hg1)
     obtain ⟨y4,hy4,br4⟩:=(hbr [.arr 155 [.s (.int .u32 (xr X.a (le4 d):Nat)),.s (.int .u32 X.b),.s (.int .u32 X.c),.s (.int .u32 X.d)]]).lo (k:= .i64) (r:=4) (by omega)
     have hy4:∀cf base,opV cf base (H.set (h.length+1) (.cells (some 155) [.arr 155 [.s (.int .u32 (xr X.a (le4 d):Nat)),.s (.int .u32 X.b),.s (.int .u32 X.c),.s (.int .u32 X.d)]])) (.slc none true false false) [y,.s (.int .i64 4)]=some (y4,_):=hy4
     have hw2:=low_ok h.length _ y4 (d.drop 4) br4 (by rw[List.length_drop];omega)
     have hg1':=hg1
     simp only[W.vs] at hg1'
     have hvb:(0:Nat)=0:=rfl
     try simp only[e2,e3,e4,hln,c',hw1,hg1',hss,l0,l3,xr_i,hy4,hw2,ground_or,go_sem,↓reduceIte,Nat.reduceEqDiff,Nat.reduceBEq,Nat.reduceAdd,Nat.reduceSub,Nat.reduceLT,Nat.reduceLeDiff,Int.reduceLT,Int.reduceLE,Int.reduceEq,Int.reduceToNat]
     repeat' (
       first | refine q5z ?_ ?_ | refine q3z ?_ ?_ | refine q4z ?_ ?_
       all_goals intro hvc
       all_goals first | replace hvc:=q2z hvc | replace hvc:=q1z hvc | skip
       all_goals first | subst hvc | replace hvb:=And.intro hvc hvb
       all_goals try simp only[hvb,e2,e3,e4,hln,c',hw1,hg1',hss,l0,l3,xr_i,hy4,hw2,ground_or,go_sem,↓reduceIte,Nat.reduceEqDiff,Nat.reduceBEq,Nat.reduceAdd,Nat.reduceSub,Nat.reduceLT,Nat.reduceLeDiff,Int.reduceLT,Int.reduceLE,Int.reduceEq,Int.reduceToNat])
     obtain ⟨W1,hW1⟩:∃W1:W,(⟨xr X.a (le4 d),X.b,X.c,xr X.d (le4 (d.drop 4))⟩:W)=W1:=⟨_,rfl⟩
     have hab2:absN P (i+1)=stirN W1 3:=by rw[habs,←hW1];rfl
     refine wp_for (fun m e H'=>∃j,m=3 - j∧j≤3∧e 52= .s (.int .i64 (j:Nat))∧e 2= .ptr h.length [0] 1∧e 3= .ptr (h.length+1) [0] 1∧e 4=y∧H'=H.set (h.length+1) (.cells (some 155) [.arr 155 (stirN W1 j).vs]))
       (fun e H'=> e 2= .ptr h.length [0] 1∧e 3= .ptr (h.length+1) [0] 1∧e 4=y∧H'=H.set (h.length+1) (.cells (some 155) [.arr 155 (stirN W1 3).vs]))
       3 _ _ ⟨0,rfl,by omega,rfl,e2,e3,e4,by rw[←hW1];rfl⟩ ?_ ?_
     ·rintro m e H' ⟨j,rfl,hj,e52,e2,e3,e4,hH'⟩
      by_cases c:j < 3
      ·have c':(j:Int)< 3:=by omega
       have hst:=stir_ok h.length H' (h.length+1) (stirN W1 j) (by rw[hH'];exact hss _)
       have hset:H'.set (h.length+1) (.cells (some 155) [.arr 155 (stirW (stirN W1 j)).vs])=H.set (h.length+1) (.cells (some 155) [.arr 155 (stirN W1 (j+1)).vs]):=by rw[hH',List.set_set];rfl
       rw[hset] at hst
       have hwr:IntKind.i64.wrap ((j:Int)+1)=((j+1:Nat):Int):=q17z (by omega)
       have hvb:(0:Nat)=0:=rfl
       try simp only[e52,e2,e3,e4,c',hst,hwr,go_sem,↓reduceIte,Nat.reduceEqDiff,Nat.reduceBEq,Nat.reduceAdd,Nat.reduceSub,Nat.reduceLT,Nat.reduceLeDiff,Int.reduceLT,Int.reduceLE,Int.reduceEq,Int.reduceToNat]
       repeat' (
         first | refine q5z ?_ ?_ | refine q3z ?_ ?_ | refine q4z ?_ ?_
         all_goals intro hvc
         all_goals first | replace hvc:=q2z hvc | replace hvc:=q1z hvc | skip
         all_goals first | subst hvc | replace hvb:=And.intro hvc hvb
         all_goals try simp only[hvb,e52,e2,e3,e4,c',hst,hwr,go_sem,↓reduceIte,Nat.reduceEqDiff,Nat.reduceBEq,Nat.reduceAdd,Nat.reduceSub,Nat.reduceLT,Nat.reduceLeDiff,Int.reduceLT,Int.reduceLE,Int.reduceEq,Int.reduceToNat])
       all_goals exact ⟨3 - (j+1),by omega,j+1,rfl,by omega,rfl,rfl⟩
      ·have c':¬(j:Int)< 3:=by omega
       have:j=3:=by omega
       subst this
       have hvb:(0:Nat)=0:=rfl
       try simp only[e52,e2,e3,e4,c',go_sem,↓reduceIte,Nat.reduceEqDiff,Nat.reduceBEq,Nat.reduceAdd,Nat.reduceSub,Nat.reduceLT,Nat.reduceLeDiff,Int.reduceLT,Int.reduceLE,Int.reduceEq,Int.reduceToNat]
       repeat' (
         first | refine q5z ?_ ?_ | refine q3z ?_ ?_ | refine q4z ?_ ?_
         all_goals intro hvc
         all_goals first | replace hvc:=q2z hvc | replace hvc:=q1z hvc | skip
         all_goals first | subst hvc | replace hvb:=And.intro hvc hvb
         all_goals try simp only[hvb,e52,e2,e3,e4,c',go_sem,↓reduceIte,Nat.reduceEqDiff,Nat.reduceBEq,Nat.reduceAdd,Nat.reduceSub,Nat.reduceLT,Nat.reduceLeDiff,Int.reduceLT,Int.reduceLE,Int.reduceEq,Int.reduceToNat])
       all_goals exact hH'
     ·rintro e H' ⟨e2,e3,e4,hH'⟩
      obtain ⟨y8,hy8,br8⟩:=(hbr [.arr 155 (stirN W1 3).vs]).lo (k:= .i64) (r:=8) (by omega)
      have hy8:∀cf base,opV cf base H' (.slc none true false false) [y,.s (.int .i64 8)]=some (y8,H'):=by rw[hH'];exact hy8
      rw[←hH'] at br8
      have hvb:(0:Nat)=0:=rfl
      try simp only[e2,e3,e4,hy8,go_sem,↓reduceIte,Nat.reduceEqDiff,Nat.reduceBEq,Nat.reduceAdd,Nat.reduceSub,Nat.reduceLT,Nat.reduceLeDiff,Int.reduceLT,Int.reduceLE,Int.reduceEq,Int.reduceToNat]
      repeat' (
        first | refine q5z ?_ ?_ | refine q3z ?_ ?_ | refine q4z ?_ ?_
        all_goals intro hvc
        all_goals first | replace hvc:=q2z hvc | replace hvc:=q1z hvc | skip
        all_goals first | subst hvc | replace hvb:=And.intro hvc hvb
        all_goals try simp only[hvb,e2,e3,e4,hy8,go_sem,↓reduceIte,Nat.reduceEqDiff,Nat.reduceBEq,Nat.reduceAdd,Nat.reduceSub,Nat.reduceLT,Nat.reduceLeDiff,Int.reduceLT,Int.reduceLE,Int.reduceEq,Int.reduceToNat])
      all_goals exact ⟨N - (i+1),by omega,i+1,y8,rfl,by omega,rfl,by rw[hH'];exact hs0 _,by rw[hH',hab2];exact hss _,by rw[hd8];exact br8,by rw[hH'];exact hfw _⟩
    ·have c':¬(0:Int)<((8 *(N - i):Nat):Int):=by omega
     have:i=N:=by omega
     have hvb:(0:Nat)=0:=rfl
     try simp only[e2,e3,e4,hln,c',go_sem,↓reduceIte,Nat.reduceEqDiff,Nat.reduceBEq,Nat.reduceAdd,Nat.reduceSub,Nat.reduceLT,Nat.reduceLeDiff,Int.reduceLT,Int.reduceLE,Int.reduceEq,Int.reduceToNat]
     repeat' (
       first | refine q5z ?_ ?_ | refine q3z ?_ ?_ | refine q4z ?_ ?_
       all_goals intro hvc
       all_goals first | replace hvc:=q2z hvc | replace hvc:=q1z hvc | skip
       all_goals first | subst hvc | replace hvb:=And.intro hvc hvb
       all_goals try simp only[hvb,e2,e3,e4,hln,c',go_sem,↓reduceIte,Nat.reduceEqDiff,Nat.reduceBEq,Nat.reduceAdd,Nat.reduceSub,Nat.reduceLT,Nat.reduceLeDiff,Int.reduceLT,Int.reduceLE,Int.reduceEq,Int.reduceToNat])
     all_goals (subst this;exact ⟨hg0,hg1,fw⟩)
   ·clear br hg0 hg1 fw e4 y
    rintro e H ⟨e2,e3,hg0,hg1,fw⟩
    have hXok:=absN_ok P N
    generalize absN P N=X at hg1 hout hXok
    have hss:∀c,(H.set (h.length+1) c)[h.length+1]? =some c:=fun c=> q9z hg1
    have hs0:∀c,(H.set (h.length+1) c)[h.length]? =some (.cells (some 25) [.arr 25 zer16]):=fun c=> by rw[List.getElem?_set_ne (by omega)];exact hg0
    have hfw:∀c,Fw [] h (H.set (h.length+1) c):=fun c=> fw.set_new (by omega) c
    have hvb:(0:Nat)=0:=rfl
    try simp only[e2,e3,go_sem,↓reduceIte,Nat.reduceEqDiff,Nat.reduceBEq,Nat.reduceAdd,Nat.reduceSub,Nat.reduceLT,Nat.reduceLeDiff,Int.reduceLT,Int.reduceLE,Int.reduceEq,Int.reduceToNat]
    repeat' (
      first | refine q5z ?_ ?_ | refine q3z ?_ ?_ | refine q4z ?_ ?_
      all_goals intro hvc
      all_goals first | replace hvc:=q2z hvc | replace hvc:=q1z hvc | skip
      all_goals first | subst hvc | replace hvb:=And.intro hvc hvb
      all_goals try simp only[hvb,e2,e3,go_sem,↓reduceIte,Nat.reduceEqDiff,Nat.reduceBEq,Nat.reduceAdd,Nat.reduceSub,Nat.reduceLT,Nat.reduceLeDiff,Int.reduceLT,Int.reduceLE,Int.reduceEq,Int.reduceToNat])
    refine wp_for (fun m e H'=>∃j,m=8 - j∧j≤8∧e 56= .s (.int .i64 (j:Nat))∧e 2= .ptr h.length [0] 1∧e 3= .ptr (h.length+1) [0] 1∧H'[h.length]? =some (.cells (some 25) [.arr 25 zer16])∧H'[h.length+1]? =some (.cells (some 155) [.arr 155 (stirN X j).vs])∧Fw [] h H')
      (fun e H'=> e 2= .ptr h.length [0] 1∧e 3= .ptr (h.length+1) [0] 1∧H'[h.length]? =some (.cells (some 25) [.arr 25 zer16])∧H'[h.length+1]? =some (.cells (some 155) [.arr 155 (stirN X 8).vs])∧Fw [] h H')
      8 _ _ ⟨0,rfl,by omega,rfl,e2,e3,hg0,hg1,fw⟩ ?_ ?_
    ·clear hss hs0 hfw hg0 hg1 fw
     rintro m e H' ⟨j,rfl,hj,e56,e2,e3,hg0,hg1,fw⟩
     by_cases c:j < 8
     ·have c':(j:Int)< 8:=by omega
      have hst:=stir_ok h.length H' (h.length+1) (stirN X j) hg1
      have hss:=q9z hg1 (b:= .cells (some 155) [.arr 155 (stirN X (j+1)).vs])
      have hs0:(H'.set (h.length+1) (.cells (some 155) [.arr 155 (stirN X (j+1)).vs]))[h.length]? =some (.cells (some 25) [.arr 25 zer16]):=by rw[List.getElem?_set_ne (by omega)];exact hg0
      have hfw:Fw [] h (H'.set (h.length+1) (.cells (some 155) [.arr 155 (stirN X (j+1)).vs])):=fw.set_new (by omega) _
      have hst:run fns2 pr2 h.length 93 [.ptr (h.length+1) [0] 1] H'=some (.tup [],H'.set (h.length+1) (.cells (some 155) [.arr 155 (stirN X (j+1)).vs])):=hst
      have hwr:IntKind.i64.wrap ((j:Int)+1)=((j+1:Nat):Int):=q17z (by omega)
      have hvb:(0:Nat)=0:=rfl
      try simp only[e56,e2,e3,c',hst,hwr,go_sem,↓reduceIte,Nat.reduceEqDiff,Nat.reduceBEq,Nat.reduceAdd,Nat.reduceSub,Nat.reduceLT,Nat.reduceLeDiff,Int.reduceLT,Int.reduceLE,Int.reduceEq,Int.reduceToNat]
      repeat' (
        first | refine q5z ?_ ?_ | refine q3z ?_ ?_ | refine q4z ?_ ?_
        all_goals intro hvc
        all_goals first | replace hvc:=q2z hvc | replace hvc:=q1z hvc | skip
        all_goals first | subst hvc | replace hvb:=And.intro hvc hvb
        all_goals try simp only[hvb,e56,e2,e3,c',hst,hwr,go_sem,↓reduceIte,Nat.reduceEqDiff,Nat.reduceBEq,Nat.reduceAdd,Nat.reduceSub,Nat.reduceLT,Nat.reduceLeDiff,Int.reduceLT,Int.reduceLE,Int.reduceEq,Int.reduceToNat])
      all_goals exact ⟨8 - (j+1),by omega,j+1,rfl,by omega,rfl,hs0,hss,hfw⟩
     ·have c':¬(j:Int)< 8:=by omega
      have:j=8:=by omega
      subst this
      have hvb:(0:Nat)=0:=rfl
      try simp only[e56,e2,e3,c',go_sem,↓reduceIte,Nat.reduceEqDiff,Nat.reduceBEq,Nat.reduceAdd,Nat.reduceSub,Nat.reduceLT,Nat.reduceLeDiff,Int.reduceLT,Int.reduceLE,Int.reduceEq,Int.reduceToNat]
      repeat' (
        first | refine q5z ?_ ?_ | refine q3z ?_ ?_ | refine q4z ?_ ?_
        all_goals intro hvc
        all_goals first | replace hvc:=q2z hvc | replace hvc:=q1z hvc | skip
        all_goals first | subst hvc | replace hvb:=And.intro hvc hvb
        all_goals try simp only[hvb,e56,e2,e3,c',go_sem,↓reduceIte,Nat.reduceEqDiff,Nat.reduceBEq,Nat.reduceAdd,Nat.reduceSub,Nat.reduceLT,Nat.reduceLeDiff,Int.reduceLT,Int.reduceLE,Int.reduceEq,Int.reduceToNat])
      all_goals exact ⟨hg0,hg1,fw⟩
    ·clear hss hs0 hfw hg0 hg1 fw
     rintro e H ⟨e2,e3,hg0,hg1,fw⟩
     have hYok:=stirN_ok hXok 8
     generalize stirN X 8=Y at hg1 hout hYok
     have hvb:(0:Nat)=0:=rfl
     try simp only[e2,e3,go_sem,↓reduceIte,Nat.reduceEqDiff,Nat.reduceBEq,Nat.reduceAdd,Nat.reduceSub,Nat.reduceLT,Nat.reduceLeDiff,Int.reduceLT,Int.reduceLE,Int.reduceEq,Int.reduceToNat]
     repeat' (
       first | refine q5z ?_ ?_ | refine q3z ?_ ?_ | refine q4z ?_ ?_
       all_goals intro hvc
       all_goals first | replace hvc:=q2z hvc | replace hvc:=q1z hvc | skip
       all_goals first | subst hvc | replace hvb:=And.intro hvc hvb
       all_goals try simp only[hvb,e2,e3,go_sem,↓reduceIte,Nat.reduceEqDiff,Nat.reduceBEq,Nat.reduceAdd,Nat.reduceSub,Nat.reduceLT,Nat.reduceLeDiff,Int.reduceLT,Int.reduceLE,Int.reduceEq,Int.reduceToNat])
     have hlo:h.length+1 < H.length:=q6z hg1
     have hT:(H++[Blk.cells (some 25) [.arr 25 zer16]])[H.length]? =_:=get_app0 H [Blk.cells (some 25) [.arr 25 zer16]]
     obtain ⟨o,ho⟩:∃o,H.length=o:=⟨_,rfl⟩
     have hz16:zer16=(outN Y 0++List.replicate 16 0).map byteV:=rfl
     refine wp_for (fun m e H'=>∃i,m=16 - i∧i≤16∧e 60= .s (.int .i64 (i:Nat))∧e 2= .ptr h.length [0] 1∧e 3= .ptr (h.length+1) [0] 1∧e 6= .ptr o [0] 1∧H'[h.length]? =some (.cells (some 25) [.arr 25 zer16])∧H'[h.length+1]? =some (.cells (some 155) [.arr 155 Y.vs])∧H'[o]? =some (.cells (some 25) [.arr 25 ((outN Y i++List.replicate (16 - i) 0).map byteV)])∧Fw [] h H')
       (fun e H'=> e 2= .ptr h.length [0] 1∧e 6= .ptr o [0] 1∧H'[h.length]? =some (.cells (some 25) [.arr 25 zer16])∧H'[o]? =some (.cells (some 25) [.arr 25 ((outN Y 16).map byteV)])∧Fw [] h H')
       16 _ _ ⟨0,rfl,by omega,rfl,e2,e3,by rw[←ho];rfl,q10z hg0 _,q10z hg1 _,by rw[←ho];exact hT,fw.trans (Fw.app _ _ _)⟩ ?_ ?_
     ·clear hT hg0 hg1 fw
      rintro m e H' ⟨i,rfl,hi,e60,e2,e3,e6,hg0,hg1,hg2,fw⟩
      by_cases c:i < 16
      ·have c':(i:Int)< 16:=by omega
       have c16:(i:Int)<((16:Nat):Int):=by omega
       have i0:(0:Int)≤(i:Int):=by omega
       have hq:∀cf base h,opV cf base h (.bin .num .quo) [.s (.int .i64 i),.s (.int .i64 4)]=some (.s (.int .i64 ((i / 4:Nat):Int)),h):=fun cf base h=> by
         rw[o_quo cf base h .i64 _ 4 (by omega),Int.tdiv_eq_ediv_of_nonneg (by omega),wrap_i64 (by omega) (by omega)];rfl
       have hr:∀cf base h,opV cf base h (.bin .num .rem) [.s (.int .i64 i),.s (.int .i64 4)]=some (.s (.int .i64 ((i % 4:Nat):Int)),h):=fun cf base h=> by
         rw[o_rem cf base h .i64 _ 4 (by omega),Int.tmod_eq_emod_of_nonneg (by omega)];rfl
       have w8:IntKind.i64.wrap (8 *((i % 4:Nat):Int))=((8 *(i % 4):Nat):Int):=by rw[wrap_i64 (by omega) (by omega)];omega
       have hsh:∀cf base h,opV cf base h (.bin .num .shr) [.s (.int .u32 ((Y.at (i / 4):Nat):Int)),.s (.int .i64 ((8 *(i % 4):Nat):Int))]=some (.s (.int .u32 ((Y.at (i / 4)/ 2 ^(8 *(i % 4)):Nat):Int)),h):=fun cf base h=> by
         rw[o_shr cf base h .u32 .i64 _ _ (by omega),shr_i (by omega)]
       have hYv:Y.vs[i / 4]? =some (.s (.int .u32 ((Y.at (i / 4):Nat):Int))):=by
         have:i / 4=0∨i / 4=1∨i / 4=2∨i / 4=3:=by omega
         rcases this with h | h | h | h <;> rw[h]<;> rfl
       have hYl:Y.vs.length=4:=rfl
       have c4:((i / 4:Nat):Int)< 4:=by omega
       have c4':((i / 4:Nat):Int)<((4:Nat):Int):=by omega
       have j0:(0:Int)≤((i / 4:Nat):Int):=by omega
       have c4n:i / 4 < 4:=by omega
       have hlv:((outN Y i++List.replicate (16 - i) 0).map byteV).length=16:=by rw[List.length_map,List.length_append,outN_len,List.length_replicate];omega
       obtain ⟨z,hz,hzt⟩:∃z,((outN Y i++List.replicate (16 - i) 0).map byteV)[i]? =some z∧z.ty=none:=by
         refine ⟨byteV ((outN Y i++List.replicate (16 - i) 0)[i]'(by rw[List.length_map] at hlv;omega)),?_,rfl⟩
         rw[List.getElem?_map,List.getElem?_eq_getElem (by rw[List.length_map] at hlv;omega)];rfl
       have hst:((outN Y i++List.replicate (16 - i) 0).map byteV).set i (V.s (.int .u8 (IntKind.u8.wrap ((Y.at (i / 4)/ 2 ^(8 *(i % 4)):Nat):Int))))=(outN Y (i+1)++List.replicate (16 - (i+1)) 0).map byteV:=by
         rw[u8_mod,←List.map_set,List.set_append_right _ _ (by rw[outN_len];exact Nat.le_refl _),outN_len,Nat.sub_self,show 16 - i=(16 - (i+1))+1 by omega,List.replicate_succ,List.set_cons_zero,outN,List.append_assoc]
         rfl
       generalize (outN Y i++List.replicate (16 - i) 0).map byteV=vs at hg2 hlv hz hst
       have hne1:h.length+1≠o:=by omega
       have hne0:h.length≠o:=by omega
       have n0:(H'.set o (.cells (some 25) [.arr 25 ((outN Y (i+1)++List.replicate (16 - (i+1)) 0).map byteV)]))[h.length]? =some (.cells (some 25) [.arr 25 zer16]):=by rw[List.getElem?_set_ne (by omega)];exact hg0
       have n1:(H'.set o (.cells (some 25) [.arr 25 ((outN Y (i+1)++List.replicate (16 - (i+1)) 0).map byteV)]))[h.length+1]? =some (.cells (some 155) [.arr 155 Y.vs]):=by rw[List.getElem?_set_ne (by omega)];exact hg1
       have n2:=q9z hg2 (b:= .cells (some 25) [.arr 25 ((outN Y (i+1)++List.replicate (16 - (i+1)) 0).map byteV)])
       have nf:Fw [] h (H'.set o (.cells (some 25) [.arr 25 ((outN Y (i+1)++List.replicate (16 - (i+1)) 0).map byteV)])):=fw.set_new (by omega) _
       have hwr:IntKind.i64.wrap ((i:Int)+1)=((i+1:Nat):Int):=q17z (by omega)
       have hvb:(0:Nat)=0:=rfl
       try simp only[e60,e2,e3,e6,c',c16,i0,hq,hr,w8,hsh,hYv,hYl,c4,c4',j0,c4n,hlv,hz,hzt,hst,hg0,hg1,hg2,ground_or,hwr,Int.toNat_natCast,go_sem,↓reduceIte,Nat.reduceEqDiff,Nat.reduceBEq,Nat.reduceAdd,Nat.reduceSub,Nat.reduceLT,Nat.reduceLeDiff,Int.reduceLT,Int.reduceLE,Int.reduceEq,Int.reduceToNat]
       repeat' (
         first | refine q5z ?_ ?_ | refine q3z ?_ ?_ | refine q4z ?_ ?_
         all_goals intro hvc
         all_goals first | replace hvc:=q2z hvc | replace hvc:=q1z hvc | skip
         all_goals first | subst hvc | replace hvb:=And.intro hvc hvb
         all_goals try simp only[hvb,e60,e2,e3,e6,c',c16,i0,hq,hr,w8,hsh,hYv,hYl,c4,c4',j0,c4n,hlv,hz,hzt,hst,hg0,hg1,hg2,ground_or,hwr,Int.toNat_natCast,go_sem,↓reduceIte,Nat.reduceEqDiff,Nat.reduceBEq,Nat.reduceAdd,Nat.reduceSub,Nat.reduceLT,Nat.reduceLeDiff,Int.reduceLT,Int.reduceLE,Int.reduceEq,Int.reduceToNat])
       all_goals exact ⟨16 - (i+1),by omega,i+1,rfl,by omega,rfl,n0,n1,n2,nf⟩
      ·have c':¬(i:Int)< 16:=by omega
       have:i=16:=by omega
       subst this
       rw[Nat.sub_self,List.replicate_zero,List.append_nil] at hg2
       have hvb:(0:Nat)=0:=rfl
       try simp only[e60,e2,e3,e6,c',go_sem,↓reduceIte,Nat.reduceEqDiff,Nat.reduceBEq,Nat.reduceAdd,Nat.reduceSub,Nat.reduceLT,Nat.reduceLeDiff,Int.reduceLT,Int.reduceLE,Int.reduceEq,Int.reduceToNat]
       repeat' (
         first | refine q5z ?_ ?_ | refine q3z ?_ ?_ | refine q4z ?_ ?_
         all_goals intro hvc
         all_goals first | replace hvc:=q2z hvc | replace hvc:=q1z hvc | skip
         all_goals first | subst hvc | replace hvb:=And.intro hvc hvb
         all_goals try simp only[hvb,e60,e2,e3,e6,c',go_sem,↓reduceIte,Nat.reduceEqDiff,Nat.reduceBEq,Nat.reduceAdd,Nat.reduceSub,Nat.reduceLT,Nat.reduceLeDiff,Int.reduceLT,Int.reduceLE,Int.reduceEq,Int.reduceToNat])
       all_goals exact ⟨hg0,hg2,fw⟩
     ·clear hT hg0 hg1 fw
      rintro e H' ⟨e2,e6,hg0,hg2,fw⟩
      have htk:∀c,(H'.set h.length c).take h.length=h:=fun c=>(fw.set_new (Nat.le_refl _) c).take
      have hss:∀c,(H'.set h.length c)[h.length]? =some c:=fun c=> q9z hg0
      rw[←hout] at hg2
      have hlen:=sumB_len l
      have hfz:∀n h,frzV.all n h ((sumB l).map byteV)=some ((sumB l).map byteV):=fun n h=> frzA_bytes n h (sumB l)
      generalize (sumB l).map byteV=ws at hg2 hfz
      have hvb:(0:Nat)=0:=rfl
      try simp only[e2,e6,hg0,hg2,htk,hss,ground_or,hfz,go_sem,↓reduceIte,Nat.reduceEqDiff,Nat.reduceBEq,Nat.reduceAdd,Nat.reduceSub,Nat.reduceLT,Nat.reduceLeDiff,Int.reduceLT,Int.reduceLE,Int.reduceEq,Int.reduceToNat]
      repeat' (
        first | refine q5z ?_ ?_ | refine q3z ?_ ?_ | refine q4z ?_ ?_
        all_goals intro hvc
        all_goals first | replace hvc:=q2z hvc | replace hvc:=q1z hvc | skip
        all_goals first | subst hvc | replace hvb:=And.intro hvc hvb
        all_goals try simp only[hvb,e2,e6,hg0,hg2,htk,hss,ground_or,hfz,go_sem,↓reduceIte,Nat.reduceEqDiff,Nat.reduceBEq,Nat.reduceAdd,Nat.reduceSub,Nat.reduceLT,Nat.reduceLeDiff,Int.reduceLT,Int.reduceLE,Int.reduceEq,Int.reduceToNat])
theorem sum_calls {c:Ctx} {w:World} {vs:List V} {us:List Value} {h:Hp} {v:V} {h':Hp} (hr:sumF vs h=some (v,h')) (hv:RVl (layOf Tryz.prog) c vs us) (hs:Sim (layOf Tryz.prog) c h w):CallRes Tryz.prog (layOf Tryz.prog) c w 60 us v h':=by
 unfold sumF at hr
 split at hr
 case h_2=> cases hr
 rename_i x
 split at hr
 case h_2=> cases hr
 rename_i es he
 split at hr
 case h_2=> cases hr
 rename_i l hb
 split at hr
 case isFalse=> cases hr
 rename_i hl
 cases hr
 have hbr:Rd h x l:=Rd.mk' (by rw[he,hl.1]) hl.2.1
 exact ((run_sound lay_ok fns2_ok pr2_ok pr2_kp 0 _ _ _ _ _ (Sum_ok 0 h x l hbr hl.2.2)).2 c w us hv hs)
end Go.Proofs.YtannfageakbpmaaGreat
namespace Go.Cl
open Go.Vm
abbrev numB (n:Nat):Bs:=(List.range 8).map fun i=> UInt8.ofNat (n / 256 ^(7 - i) % 256)
theorem numB_len (n:Nat):(numB n).length=8:=by simp[numB]
end Go.Cl
namespace Go.Proofs.YtannfageakbpmaaGreat
open Go Go.Vm Go.Proofs Go.Cl
set_option maxRecDepth 100000
def numP (n j:Nat):List V:=((numB n).take j).map byteV++List.replicate (8 - j) (.s (.int .u8 0))
theorem numP_zero (n:Nat):numP n 0=[.s (.int .u8 0),.s (.int .u8 0),.s (.int .u8 0),.s (.int .u8 0),.s (.int .u8 0),.s (.int .u8 0),.s (.int .u8 0),.s (.int .u8 0)]:=by simp[numP]
theorem numP_len (n j:Nat) (hj:j≤8):(numP n j).length=8:=by simp[numP];omega
theorem numP_all (n:Nat):numP n 8=(numB n).map byteV:=by
 unfold numP
 rw[List.take_of_length_le (by rw[numB_len];omega)]
 exact List.append_nil _
theorem numP_step (n j:Nat) (hj:j < 8):(numP n j).set j (byteV (UInt8.ofNat (n / 256 ^(7 - j) % 256)))=numP n (j+1):=by
 have:j=0∨j=1∨j=2∨j=3∨j=4∨j=5∨j=6∨j=7:=by omega
 rcases this with rfl | rfl | rfl | rfl | rfl | rfl | rfl | rfl <;> simp[numP,numB,List.range_succ,List.replicate]
theorem numP_get (n j:Nat) (hj:j < 8):∃o,(numP n j)[j]? =some (.s o):=by
 have:j=0∨j=1∨j=2∨j=3∨j=4∨j=5∨j=6∨j=7:=by omega
 rcases this with rfl | rfl | rfl | rfl | rfl | rfl | rfl | rfl <;> exact ⟨_,rfl⟩
theorem Number_ok (b:Nat) (h:Hp) (n:Nat) (hn:n < 18446744073709551616) (hb:b≤h.length):run fns pr b 41 [.s (.int .u64 n)] h=some (.ref h.length [] none 0 8 8,h++[.cells none ((numB n).map byteV)]):=by
 refine Vm.runN (nt:=22) rfl fit41 (by simp) ?_
 have hvb:(0:Nat)=0:=rfl
 try simp only[B41,B41R0,B41L0,go_sem,↓reduceIte,Nat.reduceEqDiff,Nat.reduceBEq,Nat.reduceAdd,Nat.reduceSub,Nat.reduceLT,Nat.reduceLeDiff,Int.reduceLT,Int.reduceLE,Int.reduceEq,Int.reduceToNat]
 repeat' (
   first | refine q5z ?_ ?_ | refine q3z ?_ ?_ | refine q4z ?_ ?_
   all_goals intro hvc
   all_goals first | replace hvc:=q2z hvc | replace hvc:=q1z hvc | skip
   all_goals first | subst hvc | replace hvb:=And.intro hvc hvb
   all_goals try simp only[hvb,B41,B41R0,B41L0,go_sem,↓reduceIte,Nat.reduceEqDiff,Nat.reduceBEq,Nat.reduceAdd,Nat.reduceSub,Nat.reduceLT,Nat.reduceLeDiff,Int.reduceLT,Int.reduceLE,Int.reduceEq,Int.reduceToNat])
 refine wp_for (fun m e H=>∃j,m=8 - j∧j≤8∧e 8= .s (.int .i64 (j:Nat))∧e 7= .s (.int .i64 8)∧e 3= .ref h.length [] none 0 8 8∧e 0= .s (.int .u64 n)∧H=h++[.cells none (numP n j)])
   (fun e H=> e 3= .ref h.length [] none 0 8 8∧H=h++[.cells none (numP n 8)]) 8 _ _ ⟨0,rfl,by omega,rfl,rfl,rfl,rfl,by rw[numP_zero];rfl⟩ ?_ ?_
 ·rintro m e H ⟨j,rfl,hj,e8,e7,e3,e0,rfl⟩
  have hl:=numP_len n j hj
  by_cases c:j < 8
  ·have c':(j:Int)< 8:=by omega
   have w1:IntKind.i64.wrap (7 - (j:Int))=((7 - j:Nat):Int):=by rw[wrap_i64 (by omega) (by omega)];omega
   have w2:IntKind.i64.wrap (8 *((7 - j:Nat):Int))=((8 *(7 - j):Nat):Int):=by rw[wrap_i64 (by omega) (by omega)];omega
   have w3:IntKind.i64.wrap ((j:Int)+1)=((j+1:Nat):Int):=q17z (by omega)
   have hs:=fun cf base h=> o_shr (cf:=cf) (base:=base) (h:=h) .u64 .i64 (n:Int) ((8 *(7 - j):Nat):Int) (by omega)
   have s2:shrI .u64 (n:Int) ((8 *(7 - j):Nat):Int)=_:=shr64 (a:=n) (k:=8 *(7 - j)) (by omega)
   have hp:2 ^(8 *(7 - j))=256 ^(7 - j):=by rw[Nat.pow_mul]
   rw[hp] at s2
   have hst:=numP_step n j c
   obtain ⟨o,ho⟩:=numP_get n j c
   have cc:(0≤(j:Int)∧(j:Int)<((8:Nat):Int)∧j < 8)=True:=by simp;omega
   have so:(byteV (UInt8.ofNat (n / 256 ^(7 - j) % 256))).solid=true:=rfl
   have to:(byteV (UInt8.ofNat (n / 256 ^(7 - j) % 256))).ty=none:=rfl
   have gr:(byteV (UInt8.ofNat (n / 256 ^(7 - j) % 256))).ground=true:=rfl
   have hvb:(0:Nat)=0:=rfl
   try simp only[e8,e7,e3,e0,c',w1,w2,w3,hs,s2,u8_mod,hl,cc,ho,so,to,gr,hst,go_sem,↓reduceIte,Nat.reduceEqDiff,Nat.reduceBEq,Nat.reduceAdd,Nat.reduceSub,Nat.reduceLT,Nat.reduceLeDiff,Int.reduceLT,Int.reduceLE,Int.reduceEq,Int.reduceToNat]
   repeat' (
     first | refine q5z ?_ ?_ | refine q3z ?_ ?_ | refine q4z ?_ ?_
     all_goals intro hvc
     all_goals first | replace hvc:=q2z hvc | replace hvc:=q1z hvc | skip
     all_goals first | subst hvc | replace hvb:=And.intro hvc hvb
     all_goals try simp only[hvb,e8,e7,e3,e0,c',w1,w2,w3,hs,s2,u8_mod,hl,cc,ho,so,to,gr,hst,go_sem,↓reduceIte,Nat.reduceEqDiff,Nat.reduceBEq,Nat.reduceAdd,Nat.reduceSub,Nat.reduceLT,Nat.reduceLeDiff,Int.reduceLT,Int.reduceLE,Int.reduceEq,Int.reduceToNat])
   all_goals exact ⟨8 - (j+1),by omega,j+1,rfl,by omega,by simp_all⟩
  ·have c':¬(j:Int)< 8:=by omega
   have hj8:j=8:=by omega
   subst hj8
   have hvb:(0:Nat)=0:=rfl
   try simp only[e8,e7,e3,c',go_sem,↓reduceIte,Nat.reduceEqDiff,Nat.reduceBEq,Nat.reduceAdd,Nat.reduceSub,Nat.reduceLT,Nat.reduceLeDiff,Int.reduceLT,Int.reduceLE,Int.reduceEq,Int.reduceToNat]
   repeat' (
     first | refine q5z ?_ ?_ | refine q3z ?_ ?_ | refine q4z ?_ ?_
     all_goals intro hvc
     all_goals first | replace hvc:=q2z hvc | replace hvc:=q1z hvc | skip
     all_goals first | subst hvc | replace hvb:=And.intro hvc hvb
     all_goals try simp only[hvb,e8,e7,e3,c',go_sem,↓reduceIte,Nat.reduceEqDiff,Nat.reduceBEq,Nat.reduceAdd,Nat.reduceSub,Nat.reduceLT,Nat.reduceLeDiff,Int.reduceLT,Int.reduceLE,Int.reduceEq,Int.reduceToNat])
   all_goals simp_all
 ·rintro e H ⟨e3,rfl⟩
  rw[numP_all]
  have hvb:(0:Nat)=0:=rfl
  try simp only[e3,go_sem,↓reduceIte,Nat.reduceEqDiff,Nat.reduceBEq,Nat.reduceAdd,Nat.reduceSub,Nat.reduceLT,Nat.reduceLeDiff,Int.reduceLT,Int.reduceLE,Int.reduceEq,Int.reduceToNat]
  repeat' (
    first | refine q5z ?_ ?_ | refine q3z ?_ ?_ | refine q4z ?_ ?_
    all_goals intro hvc
    all_goals first | replace hvc:=q2z hvc | replace hvc:=q1z hvc | skip
    all_goals first | subst hvc | replace hvb:=And.intro hvc hvb
    all_goals try simp only[hvb,e3,go_sem,↓reduceIte,Nat.reduceEqDiff,Nat.reduceBEq,Nat.reduceAdd,Nat.reduceSub,Nat.reduceLT,Nat.reduceLeDiff,Int.reduceLT,Int.reduceLE,Int.reduceEq,Int.reduceToNat])
theorem Clone_run (b:Nat) (h:Hp) (xs:List V):run fns pr b 91 xs h=cloneV xs h:=by rw[run_pr fns pr rfl];rfl
theorem BSum_ok (b:Nat) (h:Hp) (x:V) (l:Bs) (hr:Rd h x l) (hl:l.length≤1000000):run fns pr b 60 [x] h=some (.arr 25 ((sumB l).map byteV),h):=by
 rw[run_pr fns pr rfl];exact sumF_eq hr hl
theorem Rd.source {h:Hp} {x:V} {l:Bs} (hr:Rd h x l):source h x=some (none,l.map byteV):=by
 have:=hr.1 h (Fw.refl _ _)
 cases x <;> first | exact this | (simp[elems] at this)
theorem app_row {cf:CF} {base:Nat} {H:Hp} {id:Nat} {l m:Bs} {y:V} (hg:H[id]? =some (.cells none (l.map byteV))) (hs:source H y=some (none,m.map byteV)) (hl:l.length+m.length≤140737488355328):
 opV cf base H (.app none 1) [.ref id [] none 0 l.length l.length,y]=some (.ref id [] none 0 (l.length+m.length) (l.length+m.length),H.set id (.cells none ((l++m).map byteV))):=by
 by_cases hm:m=[]
 ·subst hm
  rw[List.append_nil,o_app_none hs (n:=l.length) rfl]
  rw[set_self hg];simp
 ·have hne:m.map byteV≠[]:=by simpa using hm
  have:=o_app_grow (cf:=cf) (base:=base) (bytes:=1) hg hs hne (fun y hy=> by
    obtain ⟨b,_,rfl⟩:=List.mem_map.1 hy
    simp[mayPut,byteV,V.ground]) (by simpa using hl)
  simpa using this
def keyB (k l:Bs):Bs:=sumB (k++l)
theorem Keyed_ok (b:Nat) (h:Hp) (x:V) (k l:Bs) (hk:k.length=16) (hr:Rd h x l) (hl:l.length≤900000):run fns pr b 79 [.arr 25 (k.map byteV),x] h=some (.arr 25 ((keyB k l).map byteV),h):=by
 refine Vm.runP (nt:=10) rfl fit79 (by simp) ?_
 have hkl:(k.map byteV).length=16:=by simp[hk]
 have hk0:k≠[]:=by intro e;rw[e] at hk;cases hk
 have hel:elems (h++[Blk.cells (some 25) [V.arr 25 (k.map byteV)],Blk.cells (some 25) [z16 25]]) (.ref h.length [0] none 0 16 1)=some (none,k.map byteV):=by
   simp only[elems_refR,go_sem,↓reduceIte,Nat.reduceEqDiff,Nat.reduceBEq,Nat.reduceAdd,Nat.reduceSub,Nat.reduceLT,Nat.reduceLeDiff,Int.reduceLT,Int.reduceLE,Int.reduceEq,Int.reduceToNat,List.append_assoc,List.length_append,Vm.get_app,Vm.set_app,Vm.get_appL,Vm.get_appL0,Vm.set_appL,Vm.set_appL0,Nat.le_refl,Nat.le_add_right,elR_some,List.drop_zero,List.take_of_length_le (Nat.le_of_eq hkl)]
 have hcl:=clone_eqE hel (by omega)
 simp only[cv,ct,hk0,if_false,hk,List.length_append,List.length_cons,List.length_nil] at hcl
 generalize hGd:h++[Blk.cells (some 25) [V.arr 25 (k.map byteV)],Blk.cells (some 25) [z16 25]]=G at hcl
 have hG:G.length=h.length+2:=by rw[←hGd];simp
 have fG:Fw [] h (G++[Blk.cells none (k.map byteV)]):=by rw[←hGd,List.append_assoc];exact Fw.app [] h _
 have hap:=fun cf base=> app_row (cf:=cf) (base:=base) (H:=G++[Blk.cells none (k.map byteV)]) (id:=h.length+2) (l:=k) (m:=l) (y:=x) (by rw[←hG];simp) (hr.fw fG).source (by omega)
 rw[hk] at hap
 have hset:(G++[Blk.cells none (k.map byteV)]).set (h.length+2) (.cells none ((k++l).map byteV))=G++[.cells none ((k++l).map byteV)]:=by rw[←hG];simp
 rw[hset] at hap
 have hsm:=fun b=> BSum_ok b (G++[.cells none ((k++l).map byteV)]) (.ref (h.length+2) [] none 0 (16+l.length) (16+l.length)) (k++l) (BR.rd (BR_ref (by rw[←hG];simp) (by simp[hk]))) (by simp;omega)
 have hkl2:((keyB k l).map byteV).length=16:=by simp[keyB,sumB_len]
 have g0:G[h.length]? =some (.cells (some 25) [.arr 25 (k.map byteV)]):=by rw[←hGd];exact (get2 h _ _).1
 have g1:G[h.length+1]? =some (.cells (some 25) [z16 25]):=by rw[←hGd];exact (get2 h _ _).2
 have g2:∀X,(G++X)[h.length+1]? =some (.cells (some 25) [z16 25]):=fun X=> by rw[List.getElem?_append_left (by omega)];exact g1
 have tk:∀X b,((G++X).set (h.length+1) b).take h.length=h:=fun X b=> by
   rw[List.take_set_of_le (by omega),List.take_append_of_le_length (by omega),←hGd,List.take_left]
 have hvb:(0:Nat)=0:=rfl
 try simp only[B79,Clone_run,hkl,hGd,hcl,hap,hsm,g0,g1,g2,tk,hkl2,q9z (g2 _),ty_arr,keyB,go_sem,↓reduceIte,Nat.reduceEqDiff,Nat.reduceBEq,Nat.reduceAdd,Nat.reduceSub,Nat.reduceLT,Nat.reduceLeDiff,Int.reduceLT,Int.reduceLE,Int.reduceEq,Int.reduceToNat]
 repeat' (
   first | refine q5z ?_ ?_ | refine q3z ?_ ?_ | refine q4z ?_ ?_
   all_goals intro hvc
   all_goals first | replace hvc:=q2z hvc | replace hvc:=q1z hvc | skip
   all_goals first | subst hvc | replace hvb:=And.intro hvc hvb
   all_goals try simp only[hvb,B79,Clone_run,hkl,hGd,hcl,hap,hsm,g0,g1,g2,tk,hkl2,q9z (g2 _),ty_arr,keyB,go_sem,↓reduceIte,Nat.reduceEqDiff,Nat.reduceBEq,Nat.reduceAdd,Nat.reduceSub,Nat.reduceLT,Nat.reduceLeDiff,Int.reduceLT,Int.reduceLE,Int.reduceEq,Int.reduceToNat])
theorem Two_ok (b:Nat) (h:Hp) (k l:Bs) (hk:k.length=16) (hl:l.length=16):run fns pr b 59 [.arr 25 (k.map byteV),.arr 25 (l.map byteV)] h=some (.arr 25 ((keyB k l).map byteV),h):=by
 refine Vm.runP (nt:=8) rfl fit59 (by simp) ?_
 have hll:(l.map byteV).length=16:=by simp[hl]
 have hkl2:((keyB k l).map byteV).length=16:=by simp[keyB,sumB_len]
 have hky:=fun b=> Keyed_ok b (h++[Blk.cells (some 25) [V.arr 25 (k.map byteV)],Blk.cells (some 25) [V.arr 25 (l.map byteV)],Blk.cells (some 25) [z16 25]]) (.ref (h.length+1) [0] none 0 16 1) k l hk (Rd.mk' (by
   simp only[elems_refR,go_sem,↓reduceIte,Nat.reduceEqDiff,Nat.reduceBEq,Nat.reduceAdd,Nat.reduceSub,Nat.reduceLT,Nat.reduceLeDiff,Int.reduceLT,Int.reduceLE,Int.reduceEq,Int.reduceToNat,List.append_assoc,List.length_append,Vm.get_app,Vm.set_app,Vm.get_appL,Vm.get_appL0,Vm.set_appL,Vm.set_appL0,Nat.le_refl,Nat.le_add_right,elR_some,List.drop_zero,List.take_of_length_le (Nat.le_of_eq hll)]) (by simp[lenV,hl])) (by omega)
 have hvb:(0:Nat)=0:=rfl
 try simp only[B59,hll,hky,hkl2,ty_arr,go_sem,↓reduceIte,Nat.reduceEqDiff,Nat.reduceBEq,Nat.reduceAdd,Nat.reduceSub,Nat.reduceLT,Nat.reduceLeDiff,Int.reduceLT,Int.reduceLE,Int.reduceEq,Int.reduceToNat]
 repeat' (
   first | refine q5z ?_ ?_ | refine q3z ?_ ?_ | refine q4z ?_ ?_
   all_goals intro hvc
   all_goals first | replace hvc:=q2z hvc | replace hvc:=q1z hvc | skip
   all_goals first | subst hvc | replace hvb:=And.intro hvc hvb
   all_goals try simp only[hvb,B59,hll,hky,hkl2,ty_arr,go_sem,↓reduceIte,Nat.reduceEqDiff,Nat.reduceBEq,Nat.reduceAdd,Nat.reduceSub,Nat.reduceLT,Nat.reduceLeDiff,Int.reduceLT,Int.reduceLE,Int.reduceEq,Int.reduceToNat])
def New (h H:Hp) (v:V) (l:Bs):Prop:=∃k,XR H none k v (l.map byteV)∧h.length≤k∧Fw [] h H
theorem New.br {h H:Hp} {v:V} {l:Bs} (hn:New h H v l):BR H v l:=let ⟨_,x,_,_⟩:=hn;x.BR
theorem New.fw {h H:Hp} {v:V} {l:Bs} (hn:New h H v l):Fw [] h H:=let ⟨_,_,_,f⟩:=hn;f
theorem New.frz {h H:Hp} {v:V} {l:Bs} (hn:New h H v l) {n:Nat} (hl:n≤h.length):frzV n H v=some (.imm false none (l.map byteV)):=by
 obtain ⟨k,x,hk,f⟩:=hn
 exact x.frz (Nat.le_trans hl hk) (plain_bytes l)
theorem New.old {h0 h H:Hp} {v:V} {l:Bs} (hn:New h H v l) (f:Fw [] h0 h):New h0 H v l:=by
 obtain ⟨k,x,hk,g⟩:=hn
 exact ⟨k,x,Nat.le_trans f.len hk,f.trans g⟩
theorem New.mono {h H H':Hp} {v:V} {l:Bs} (hn:New h H v l) (f:Fw [] H H'):New h H' v l:=let ⟨k,x,hk,g⟩:=hn;⟨k,x.mono fun b hb=> f.old _ _ hb (by simp),hk,g.trans f⟩
theorem New.ty {h H:Hp} {v:V} {l:Bs} (hn:New h H v l):v.ty=none:=let ⟨_,x,_,_⟩:=hn;x.ty.1
theorem New.solid {h H:Hp} {v:V} {l:Bs} (hn:New h H v l):v.solid=true:=let ⟨_,x,_,_⟩:=hn;x.ty.2
theorem New.app {h H:Hp} {v y:V} {l m:Bs} (hn:New h H v l) (hs:source H y=some (none,m.map byteV)) (hl:l.length+m.length≤140737488355328):
 ∃v' H',(∀cf base,opV cf base H (.app none 1) [v,y]=some (v',H'))∧New h H' v' (l++m):=by
 obtain ⟨k,x,hk,f⟩:=hn
 obtain ⟨v',H',k',h1,h2,h3,h4,h5,h6,h7⟩:=x.appL (n:=h.length) (bytes:=1) hk f.len hs (fun z hz=> by obtain ⟨b,_,rfl⟩:=List.mem_map.1 hz;rfl) (by simpa using hl)
 refine ⟨v',H',h1,k',by rw[List.map_append];exact h2,h3,?_⟩
 exact Fw.of_old h4 fun j b hb=> by
   have hj:j < h.length:=q6z hb
   exact h7 j b (by omega) (f.old _ _ hb (by simp))
theorem New.nil (h:Hp):New h h (.imm true none []) []:=⟨h.length,XR.nil _ _ _,Nat.le_refl _,Fw.refl _ _⟩
theorem clone_new {h:Hp} {x:V} {l:Bs} (hb:Rd h x l) (hl:l.length≤140737488355328):∃v H,(∀b,run fns pr b 91 [x] h=some (v,H))∧New h H v l:=by
 have:=clone_eqE (hb.1 h (Fw.refl _ _)) hl
 refine ⟨cv h l,h++ct l,fun b=> by rw[Clone_run];exact this,h.length,?_,Nat.le_refl _,Fw.app [] h _⟩
 unfold cv ct
 by_cases e:l=[]
 ·subst e;exact .inl ⟨by simp,rfl⟩
 ·rw[if_neg e,if_neg e];exact .inr ⟨by simp,by simp⟩
def strmN (k:Bs) (n i:Nat):Bs:=(List.range i).flatMap fun j=> keyB k (numB n++numB j)
theorem strmN_len (k:Bs) (n:Nat):∀i,(strmN k n i).length=16 * i
 | 0=> rfl
 | i+1=> by
   have:=strmN_len k n i
   unfold strmN at this ⊢
   rw[List.range_succ,List.flatMap_append,List.length_append,this]
   simp[keyB,sumB_len];omega
theorem strmN_succ (k:Bs) (n i:Nat):strmN k n (i+1)=strmN k n i++keyB k (numB n++numB i):=by
 unfold strmN
 rw[List.range_succ,List.flatMap_append];simp
def streamB (k:Bs) (n c:Nat):Bs:=(strmN k n ((c+15)/ 16)).take c
theorem streamB_len (k:Bs) (n c:Nat):(streamB k n c).length=c:=by
 unfold streamB
 rw[List.length_take,strmN_len];omega
theorem Stream_ok (b:Nat) (h:Hp) (k:Bs) (n c:Nat) (hk:k.length=16) (hn:n < 18446744073709551616) (hc:c≤8192) (hb:b≤h.length):
 ∃v H,run fns pr b 109 [.arr 25 (k.map byteV),.s (.int .u64 n),.s (.int .i64 c)] h=some (v,H)∧New h H v (streamB k n c):=by
 refine Vm.runQ (nt:=33) rfl fit109 (by simp) ?_
 have hkl:(k.map byteV).length=16:=by simp[hk]
 have m1:max 0 (min (c:Int) 8192)=(c:Int):=by omega
 have hvb:(0:Nat)=0:=rfl
 try simp only[B109,B109R0,B109L0,hkl,m1,go_sem,↓reduceIte,Nat.reduceEqDiff,Nat.reduceBEq,Nat.reduceAdd,Nat.reduceSub,Nat.reduceLT,Nat.reduceLeDiff,Int.reduceLT,Int.reduceLE,Int.reduceEq,Int.reduceToNat]
 repeat' (
   first | refine q5z ?_ ?_ | refine q3z ?_ ?_ | refine q4z ?_ ?_
   all_goals intro hvc
   all_goals first | replace hvc:=q2z hvc | replace hvc:=q1z hvc | skip
   all_goals first | subst hvc | replace hvb:=And.intro hvc hvb
   all_goals try simp only[hvb,B109,B109R0,B109L0,hkl,m1,go_sem,↓reduceIte,Nat.reduceEqDiff,Nat.reduceBEq,Nat.reduceAdd,Nat.reduceSub,Nat.reduceLT,Nat.reduceLeDiff,Int.reduceLT,Int.reduceLE,Int.reduceEq,Int.reduceToNat])
 generalize hGd:h++[Blk.cells (some 25) [V.arr 25 (k.map byteV)]]=G
 have hG:G.length=h.length+1:=by rw[←hGd];simp
 have gG:G[h.length]? =some (.cells (some 25) [V.arr 25 (k.map byteV)]):=by rw[←hGd];simp
 have fG:Fw [] h G:=by rw[←hGd];exact Fw.app [] h _
 refine wp_for (fun m e H=>∃i v,m=(c+15)/ 16 - i∧i≤(c+15)/ 16∧e 8= .s (.int .u64 (i:Nat))∧e 7=v∧e 3= .ptr h.length [0] 1∧e 2= .s (.int .i64 c)∧e 1= .s (.int .u64 n)∧New G H v (strmN k n i))
   (fun e H=>∃v,e 7=v∧e 2= .s (.int .i64 c)∧New G H v (strmN k n ((c+15)/ 16))) ((c+15)/ 16) _ _
   ⟨0,_,rfl,by omega,rfl,rfl,rfl,rfl,rfl,New.nil G⟩ ?_ ?_
 ·rintro m e H ⟨i,v,rfl,hi,e8,e7,e3,e2,e1,hN⟩
  have hlen:=fun cf base=> hN.br.o_len (cf:=cf) (base:=base) (h:=H)
  rw[strmN_len] at hlen
  by_cases cd:i <(c+15)/ 16
  ·have c':((16 * i:Nat):Int)<(c:Int):=by omega
   have hbH:b≤H.length:=by have:=hN.fw.len;have:=fG.len;omega
   have w3:IntKind.u64.wrap ((i:Int)+1)=((i+1:Nat):Int):=by rw[wrap_u64 (by omega) (by omega)];omega
   have gH:H[h.length]? =some (.cells (some 25) [V.arr 25 (k.map byteV)]):=hN.fw.old _ _ gG (by simp)
   have gH2:∀X,(H++X)[h.length]? =some (.cells (some 25) [V.arr 25 (k.map byteV)]):=fun X=> q10z gH X
   have n1:=Number_ok b H n hn hbH
   have n2:=Number_ok b (H++[.cells none ((numB n).map byteV)]) i (by omega) (by simp;omega)
   have ha:∀cf base,opV cf base (H++[.cells none ((numB n).map byteV),.cells none ((numB i).map byteV)]) (.app none 1) [.ref H.length [] none 0 8 8,.ref (H.length+1) [] none 0 8 8]=some (.ref H.length [] none 0 16 16,H++[.cells none ((numB n++numB i).map byteV),.cells none ((numB i).map byteV)]):=fun cf base=> by
     have:=app_row (cf:=cf) (base:=base) (H:=H++[.cells none ((numB n).map byteV),.cells none ((numB i).map byteV)]) (id:=H.length) (l:=numB n) (m:=numB i) (y:= .ref (H.length+1) [] none 0 8 8) (get2 H _ _).1 (BR.src (BR_ref (get2 H _ _).2 (numB_len i))) (by rw[numB_len,numB_len];omega)
     rw[numB_len,numB_len] at this
     rw[this]
     congr 2
     rw[set_app0];rfl
   have hky:=fun b=> Keyed_ok b (H++[Blk.cells none ((numB n++numB i).map byteV),.cells none ((numB i).map byteV)]) (.ref H.length [] none 0 16 16) k (numB n++numB i) hk (BR.rd (BR_ref (by simp) (by simp))) (by simp)
   obtain ⟨v2,H2,hap,hN2⟩:=(hN.mono (Fw.app [] H [.cells none ((numB n++numB i).map byteV),.cells none ((numB i).map byteV)])).app (y:= .imm true none ((keyB k (numB n++numB i)).map byteV)) (m:=keyB k (numB n++numB i)) rfl (by rw[strmN_len];simp[keyB,sumB_len];omega)
   rw[←strmN_succ] at hN2
   simp only[e8,e7,e3,e2,e1,hlen,c',gH,gH2,n1,n2,ha,hky,o_callp,callR_same,eff_callp,indep_callp,hap,w3,go_sem,↓reduceIte,Nat.reduceEqDiff,Nat.reduceBEq,Nat.reduceAdd,Nat.reduceSub,Nat.reduceLT,Nat.reduceLeDiff,Int.reduceLT,Int.reduceLE,Int.reduceEq,Int.reduceToNat]
   exact ⟨(c+15)/ 16 - (i+1),by omega,i+1,v2,rfl,by omega,by simp_all⟩
  ·have c':¬((16 * i:Nat):Int)<(c:Int):=by omega
   have hi2:i=(c+15)/ 16:=by omega
   subst hi2
   simp only[e8,e7,e3,e2,e1,hlen,c',go_sem,↓reduceIte,Nat.reduceEqDiff,Nat.reduceBEq,Nat.reduceAdd,Nat.reduceSub,Nat.reduceLT,Nat.reduceLeDiff,Int.reduceLT,Int.reduceLE,Int.reduceEq,Int.reduceToNat]
   exact ⟨v,rfl,hN⟩
 ·rintro e H ⟨v,e7,e2,hN⟩
  have hc2:c≤(strmN k n ((c+15)/ 16)).length:=by rw[strmN_len];omega
  obtain ⟨y,hy,hby⟩:=hN.br.hi (k:= .i64) (r:=c) hc2
  obtain ⟨v2,H2,hcl,hN2⟩:=clone_new (BR.rd hby) (by rw[List.length_take];omega)
  simp only[e7,e2,hy,hcl,go_sem,↓reduceIte,Nat.reduceEqDiff,Nat.reduceBEq,Nat.reduceAdd,Nat.reduceSub,Nat.reduceLT,Nat.reduceLeDiff,Int.reduceLT,Int.reduceLE,Int.reduceEq,Int.reduceToNat]
  exact hN2.old (fG.trans hN.fw)
def xorB (a b:Bs):Bs:=List.zipWith (fun x y=> x ^^^ y) a b
def hidP (s l:Bs) (j:Nat):Bs:=xorB (s.take j) (l.take j)++s.drop j
theorem hidP_len {s l:Bs} (h:s.length=l.length) (j:Nat) (hj:j≤l.length):(hidP s l j).length=l.length:=by
 simp[hidP,xorB];omega
theorem hidP_zero (s l:Bs):hidP s l 0=s:=by simp[hidP,xorB]
theorem hidP_all {s l:Bs} (h:s.length=l.length):hidP s l l.length=xorB s l:=by
 unfold hidP
 rw[List.take_of_length_le (by omega),List.take_of_length_le (Nat.le_refl _),List.drop_of_length_le (by omega),List.append_nil]
theorem hidP_get {s l:Bs} (h:s.length=l.length) {j:Nat} (hj:j < l.length):(hidP s l j)[j]? =some (s.getD j 0):=by
 have h1:(xorB (s.take j) (l.take j)).length=j:=by simp[xorB];omega
 unfold hidP
 rw[List.getElem?_append_right (by omega),h1,Nat.sub_self,List.getElem?_drop,Nat.add_zero,List.getD,List.getElem?_eq_getElem (by omega)];rfl
theorem hidP_step {s l:Bs} (h:s.length=l.length) {j:Nat} (hj:j < l.length):(hidP s l j).set j (s.getD j 0 ^^^ l.getD j 0)=hidP s l (j+1):=by
 have h1:(xorB (s.take j) (l.take j)).length=j:=by simp[xorB];omega
 have e1:s.getD j 0=s[j]:=by rw[List.getD,List.getElem?_eq_getElem (by omega)];rfl
 have e2:l.getD j 0=l[j]:=by rw[List.getD,List.getElem?_eq_getElem (by omega)];rfl
 unfold hidP
 rw[List.set_append_right _ _ (by omega),h1,Nat.sub_self,List.drop_eq_getElem_cons (by omega),List.set_cons_zero,e1,e2,List.take_succ_eq_append_getElem (by omega),List.take_succ_eq_append_getElem (by omega)]
 have:xorB (s.take j++[s[j]]) (l.take j++[l[j]])=xorB (s.take j) (l.take j)++[s[j]^^^ l[j]]:=by
   unfold xorB
   rw[List.zipWith_append (by simp;omega)];rfl
 rw[this,List.append_assoc];rfl
def hidB (k:Bs) (n:Nat) (l:Bs):Bs:=xorB (streamB k n l.length) l
theorem hidB_len (k:Bs) (n:Nat) (l:Bs):(hidB k n l).length=l.length:=by simp[hidB,xorB,streamB_len]
theorem hidden_ok (b:Nat) (h:Hp) (x:V) (k l:Bs) (n:Nat) (hk:k.length=16) (hn:n < 18446744073709551616) (hx:BR h x l) (hl:l.length≤8192) (hb:b≤h.length):
 ∃v H,run fns pr b 89 [.arr 25 (k.map byteV),.s (.int .u64 n),x] h=some (v,H)∧New h H v (hidB k n l):=by
 refine Vm.runQ (nt:=31) rfl fit89 (by simp) ?_
 have hkl:(k.map byteV).length=16:=by simp[hk]
 have hlx:=fun cf base H=> hx.o_len (cf:=cf) (base:=base) (h:=H)
 generalize hGd:h++[Blk.cells (some 25) [V.arr 25 (k.map byteV)]]=G
 have fG:Fw [] h G:=by rw[←hGd];exact Fw.app [] h _
 obtain ⟨v,H,hst,hN⟩:=Stream_ok b G k n l.length hk hn hl (by have:=fG.len;omega)
 have hlv:=fun cf base H=> hN.br.o_len (cf:=cf) (base:=base) (h:=H)
 rw[streamB_len] at hlv
 have g0:G[h.length]? =some (.cells (some 25) [.arr 25 (k.map byteV)]):=by rw[←hGd];simp
 simp only[B89,B89R0,B89L0,hkl,hlx,hGd,g0,hst,hlv,go_sem,↓reduceIte,Nat.reduceEqDiff,Nat.reduceBEq,Nat.reduceAdd,Nat.reduceSub,Nat.reduceLT,Nat.reduceLeDiff,Int.reduceLT,Int.reduceLE,Int.reduceEq,Int.reduceToNat]
 obtain ⟨kid,xr,hkid,f⟩:=hN
 have hs:(streamB k n l.length).length=l.length:=streamB_len _ _ _
 unfold hidB
 generalize streamB k n l.length=s at xr hs hst
 by_cases hl0:l=[]
 ·subst hl0
  have s0:s=[]:=List.length_eq_zero_iff.1 hs
  subst s0
  refine wp_for (fun m e H'=> m=0∧e 16= .s (.int .i64 0)∧e 15= .s (.int .i64 ((0:Nat):Int))∧e 7=v∧H'=H) (fun e H'=> e 7=v∧H'=H) 0 _ _ ⟨rfl,rfl,rfl,rfl,rfl⟩ ?_ ?_
  ·rintro m e H' ⟨rfl,e16,e15,e7,rfl⟩
   have c':¬(0:Int)<((0:Nat):Int):=by omega
   simp only[e16,e15,e7,c',go_sem,↓reduceIte,Nat.reduceEqDiff,Nat.reduceBEq,Nat.reduceAdd,Nat.reduceSub,Nat.reduceLT,Nat.reduceLeDiff,Int.reduceLT,Int.reduceLE,Int.reduceEq,Int.reduceToNat]
   try simp_all
  ·rintro e H' ⟨e7,rfl⟩
   simp only[e7,go_sem,↓reduceIte,Nat.reduceEqDiff,Nat.reduceBEq,Nat.reduceAdd,Nat.reduceSub,Nat.reduceLT,Nat.reduceLeDiff,Int.reduceLT,Int.reduceLE,Int.reduceEq,Int.reduceToNat]
   exact ⟨kid,xr,Nat.le_trans fG.len hkid,fG.trans f⟩
 ·rcases xr with ⟨rfl,h0⟩ | ⟨rfl,hg⟩
  ·have:s.length=0:=by simpa using h0
   exact absurd (List.length_eq_zero_iff.1 (by omega)) hl0
  have hks:(s.map byteV).length=l.length:=by simp[hs]
  rw[hks]
  refine wp_for (fun m e H'=>∃j,m=l.length - j∧j≤l.length∧e 16= .s (.int .i64 (j:Nat))∧e 15= .s (.int .i64 (l.length:Nat))∧e 7= .ref kid [] none 0 l.length l.length∧e 2=x∧H'=H.set kid (.cells none ((hidP s l j).map byteV)))
    (fun e H'=> e 7= .ref kid [] none 0 l.length l.length∧H'=H.set kid (.cells none ((xorB s l).map byteV))) l.length _ _
    ⟨0,rfl,by omega,rfl,rfl,rfl,rfl,by rw[hidP_zero,set_self hg]⟩ ?_ ?_
  ·rintro m e H' ⟨j,rfl,hj,e16,e15,e7,e2,rfl⟩
   by_cases cd:j < l.length
   ·have c':(j:Int)<((l.length:Nat):Int):=by omega
    have w3:IntKind.i64.wrap ((j:Int)+1)=((j+1:Nat):Int):=q17z (by omega)
    have hf:Fw [] h (H.set kid (.cells none ((hidP s l j).map byteV))):=(fG.trans f).set_new (Nat.le_trans fG.len hkid) _
    have hsr:=(BR.sr hx).fw hf
    have hl2:l[j]? =some (l.getD j 0):=by rw[List.getD,List.getElem?_eq_getElem cd];rfl
    have i1:=fun cf base=> hsr.o_ias (cf:=cf) (base:=base) (k:= .i64) (i:=j) (by simpa using cd)
    have i2:=fun cf base=> hsr.o_ld (cf:=cf) (base:=base) (i:=j) (v:= .s (.int .u8 ((l.getD j 0).toNat:Int))) (by rw[List.getElem?_map,hl2];rfl) rfl
    have hlen2:=hidP_len hs j (by omega)
    have hgt:((hidP s l j).map byteV)[j]? =some (.s (.int .u8 ((s.getD j 0).toNat:Int))):=by rw[List.getElem?_map,hidP_get hs cd];rfl
    have hgs:=q9z (b:= .cells none ((hidP s l j).map byteV)) hg
    have hxo:=Vm.u8_xor (s.getD j 0) (l.getD j 0)
    have hst2:((hidP s l j).map byteV).set j (.s (.int .u8 ((s.getD j 0 ^^^ l.getD j 0).toNat:Int)))=(hidP s l (j+1)).map byteV:=by rw[←hidP_step hs cd,List.map_set];rfl
    have cc:(0≤(j:Int)∧j < l.length)=True:=by simp;omega
    have gr:(V.s (.int .u8 ((s.getD j 0 ^^^ l.getD j 0).toNat:Int))).ground=true:=rfl
    simp only[e16,e15,e7,e2,c',w3,i1,i2,hgs,hlen2,cc,hgt,hxo,hst2,gr,go_sem,↓reduceIte,Nat.reduceEqDiff,Nat.reduceBEq,Nat.reduceAdd,Nat.reduceSub,Nat.reduceLT,Nat.reduceLeDiff,Int.reduceLT,Int.reduceLE,Int.reduceEq,Int.reduceToNat]
    exact ⟨l.length - (j+1),by omega,j+1,rfl,by omega,by simp_all⟩
   ·have c':¬(j:Int)<((l.length:Nat):Int):=by omega
    have hj2:j=l.length:=by omega
    subst hj2
    rw[hidP_all hs]
    simp only[e16,e15,e7,e2,c',go_sem,↓reduceIte,Nat.reduceEqDiff,Nat.reduceBEq,Nat.reduceAdd,Nat.reduceSub,Nat.reduceLT,Nat.reduceLeDiff,Int.reduceLT,Int.reduceLE,Int.reduceEq,Int.reduceToNat]
  ·rintro e H' ⟨e7,rfl⟩
   simp only[e7,go_sem,↓reduceIte,Nat.reduceEqDiff,Nat.reduceBEq,Nat.reduceAdd,Nat.reduceSub,Nat.reduceLT,Nat.reduceLeDiff,Int.reduceLT,Int.reduceLE,Int.reduceEq,Int.reduceToNat]
   refine ⟨kid,.inr ⟨by simp[xorB,hs],q9z hg⟩,Nat.le_trans fG.len hkid,(fG.trans f).set_new (Nat.le_trans fG.len hkid) _⟩
def Gr (h:Hp) (n:Nat) (v:V) (H:Hp) (l:Bs):Prop:=(n=0∧l=[]∧v= .imm true none []∧H=h)∨(0 < n∧l.length≤n∧v= .ref h.length [] none 0 l.length n∧H=h++[.cells none (l.map byteV++List.replicate (n - l.length) (.s (.int .u8 0)))])
theorem Gr.fw {h H:Hp} {n:Nat} {v:V} {l:Bs} (g:Gr h n v H l):Fw [] h H:=by
 rcases g with ⟨_,_,_,rfl⟩ | ⟨_,_,_,rfl⟩
 ·exact Fw.refl _ _
 ·exact Fw.app [] h _
theorem Gr.app {h H:Hp} {n:Nat} {v y:V} {l m:Bs} (g:Gr h n v H l) (hs:source H y=some (none,m.map byteV)) (hl:l.length+m.length≤n):
 ∃v' H',(∀cf base,base≤h.length→opV cf base H (.app none 1) [v,y]=some (v',H'))∧Gr h n v' H' (l++m):=by
 by_cases hm:m=[]
 ·subst hm
  refine ⟨v,H,fun cf base _=> ?_,by rw[List.append_nil];exact g⟩
  rcases g with ⟨_,_,rfl,_⟩ | ⟨_,_,rfl,_⟩
  ·exact o_app_none hs (n:=0) rfl
  ·exact o_app_none hs (n:=l.length) rfl
 ·have hm0:0 < m.length:=List.length_pos_iff.2 hm
  rcases g with ⟨rfl,_,_,_⟩ | ⟨h0,h1,rfl,rfl⟩
  ·omega
  ·have hg:(h++[Blk.cells none (l.map byteV++List.replicate (n - l.length) (.s (.int .u8 0)))])[h.length]? =some (.cells none (l.map byteV++List.replicate (n - l.length) (.s (.int .u8 0)))):=by simp
   have hlen:(l.map byteV++List.replicate (n - l.length) (V.s (.int .u8 0))).length=n:=by simp;omega
   have key:=fun cf base (hb:base≤h.length)=> o_app_in (cf:=cf) (base:=base) (bytes:=1) (off:=0) (len:=l.length) hg hs (by simpa using hm) (fun z hz=> by simp[mayPut,hb]) (by rw[hlen];simp;omega)
   rw[hlen] at key
   refine ⟨_,_,key,.inr ⟨h0,by simp;omega,by simp,?_⟩⟩
   simp only[List.map_append,List.length_append,List.length_map,List.length_replicate,Nat.zero_add]
   rw[set_app0,List.take_append_of_le_length (by simp),List.take_of_length_le (by simp),List.drop_append,List.drop_of_length_le (by simp),List.nil_append]
   simp only[List.length_map,List.drop_replicate,List.set_cons_zero]
   rw[show n - l.length - (l.length+m.length - l.length)=n - (l.length+m.length) by omega]
theorem cap_imm (cf:CF) (base:Nat) (h:Hp) (g:Option Nat) (es:List V):opV cf base h .cap [.imm true g es]=some (.s (.int .i64 es.length),h):=rfl
theorem slc_nil (cf:CF) (base:Nat) (h:Hp) (g:Option Nat):opV cf base h (.slc g false true false) [.imm true g [],.s (.int .i64 ((0:Nat):Int))]=some (.imm true g [],h):=by
 simp[opV,opSlc,lenV,splitBounds,natOf,sliceV]
theorem apz_nil (cf:CF) (base:Nat) (h:Hp) (g:Option Nat) (z:V) {n:Nat} (h0:0 < n) (hn:n≤100000000):opV cf base h (.apz g 1 z) [.imm true g [],.s (.int .i64 n)]=some (.ref h.length [] g 0 n n,h++[.cells g (List.replicate n z)]):=by
 have h1:List.replicate n z≠[]:=by simp;omega
 have h2:n≤140737488355328:=by omega
 simp[opV,opApz,appendV,h1,h2]
theorem Grow_ok (b:Nat) (h:Hp) (n:Nat) (hn:n≤100000000):∃v H,run fns pr b 120 [.imm true none [],.s (.int .i64 n)] h=some (v,H)∧Gr h n v H []:=by
 refine Vm.runQ (nt:=27) rfl fit120 (by simp) ?_
 have c0:¬(n:Int)< 0:=by omega
 have w0:IntKind.i64.wrap (n:Int)=(n:Int):=wrap_i64 (by omega) (by omega)
 have w1:IntKind.i64.wrap ((n:Int) - 0)=(n:Int):=by rw[Int.sub_zero,w0]
 have w2:IntKind.i64.wrap (((0:Nat):Int) - ((0:Nat):Int))=0:=rfl
 by_cases hn0:n=0
 ·subst hn0
  have c1:¬(0:Int)<((0:Nat):Int):=by omega
  simp only[B120,c0,c1,cap_imm,w2,w1,go_sem,↓reduceIte,Nat.reduceEqDiff,Nat.reduceBEq,Nat.reduceAdd,Nat.reduceSub,Nat.reduceLT,Nat.reduceLeDiff,Int.reduceLT,Int.reduceLE,Int.reduceEq,Int.reduceToNat]
  exact .inl ⟨rfl,rfl,rfl,rfl⟩
 ·have c1:(0:Int)<(n:Int):=by omega
  have sl:=fun cf base=> slc_hi (cf:=cf) (base:=base) (h:=h++[.cells none (List.replicate n (.s (.int .u8 0)))]) (g:=none) (id:=h.length) (es:=List.replicate n (.s (.int .u8 0))) (n:=n) (r:=0) (k:= .i64) (by simp) (by simp) (by omega)
  simp only[B120,c0,c1,cap_imm,w2,w1,slc_nil,apz_nil _ _ _ _ _ (Nat.pos_of_ne_zero hn0) hn,eff_apz,sl,go_sem,↓reduceIte,Nat.reduceEqDiff,Nat.reduceBEq,Nat.reduceAdd,Nat.reduceSub,Nat.reduceLT,Nat.reduceLeDiff,Int.reduceLT,Int.reduceLE,Int.reduceEq,Int.reduceToNat]
  exact .inr ⟨by omega,by simp,rfl,by simp⟩
theorem Rd.ty {h:Hp} {x:V} {l:Bs} (hr:Rd h x l):x.ty=none:=by
 have:=hr.1 h (Fw.refl _ _)
 cases x <;> first | rfl | (simp[elems] at this)
theorem Rd.solid {h:Hp} {x:V} {l:Bs} (hr:Rd h x l):x.solid=true:=by
 have:=hr.1 h (Fw.refl _ _)
 cases x <;> first | rfl | (simp[elems] at this)
theorem Rd.o_len {cf:CF} {base:Nat} {h0 h:Hp} {x:V} {l:Bs} (hr:Rd h0 x l):opV cf base h .len [x]=some (.s (.int .i64 l.length),h):=Vm.o_len cf base h x _ hr.2
def Rds (h:Hp) (vs:List V) (ls:List Bs):Prop:=vs.length=ls.length∧∀(i:Nat) (v:V) (l:Bs),vs[i]? =some v→ls[i]? =some l→Rd h v l
theorem Concat_ok (b:Nat) (h:Hp) (x:V) (m:Nat) (vs:List V) (ls:List Bs) (hsr:SR h x none vs) (hm:vs.length=m) (hm2:m≤1000) (hr:Rds h vs ls) (hl:ls.flatten.length≤100000000):
 run fns pr b 104 [x] h=some (.imm false none (ls.flatten.map byteV),h):=by
 refine Vm.runP (nt:=36) rfl fit104 (by simp) ?_
 have hlx:∀cf base H,opV cf base H .len [x]=some (.s (.int .i64 (m:Nat)),H):=fun cf base H=> by rw[←hm];exact hsr.o_len
 obtain ⟨hml,hbr⟩:=hr
 have hlm:ls.length=m:=by omega
 have hat:∀(j:Nat),j < m→∃(v:V) (l:Bs),vs[j]? =some v∧ls[j]? =some l∧Rd h v l∧(ls.take (j+1)).flatten=(ls.take j).flatten++l:=fun j hj=> by
   refine ⟨vs[j],ls[j],List.getElem?_eq_getElem (by omega),List.getElem?_eq_getElem (by omega),hbr j _ _ (List.getElem?_eq_getElem (by omega)) (List.getElem?_eq_getElem (by omega)),?_⟩
   rw[List.take_succ_eq_append_getElem (by omega),List.flatten_append];simp
 have hle:∀j,(ls.take j).flatten.length≤ls.flatten.length:=fun j=> by
   conv=> rhs;rw[←List.take_append_drop j ls,List.flatten_append,List.length_append]
   omega
 have hall:(ls.take m).flatten=ls.flatten:=by rw[List.take_of_length_le (by omega)]
 have hel:∀(H:Hp),Fw [] h H→∀(j:Nat) (v:V) (l:Bs),j < m→vs[j]? =some v→Rd h v l→(∀cf base,opV cf base H (.ias none) [x,.s (.int .i64 (j:Nat))]=some (eltP x j,H))∧(∀cf base,opV cf base H (.ld none) [eltP (x) j]=some (v,H)):=fun H f j v l hj hv hb=>
   ⟨fun cf base=>(hsr.fw f).o_ias (by omega),fun cf base=>(hsr.fw f).o_ld hv hb.ty⟩
 simp only[B104,B104R0,B104R2,B104L2,B104L0,hlx,go_sem,↓reduceIte,Nat.reduceEqDiff,Nat.reduceBEq,Nat.reduceAdd,Nat.reduceSub,Nat.reduceLT,Nat.reduceLeDiff,Int.reduceLT,Int.reduceLE,Int.reduceEq,Int.reduceToNat]
 refine wp_for (fun q e H=>∃j,q=m - j∧j≤m∧e 11= .s (.int .i64 (j:Nat))∧e 10= .s (.int .i64 (m:Nat))∧e 9=x∧e 0=x∧e 3= .s (.int .i64 ((ls.take j).flatten.length:Nat))∧H=h)
   (fun e H=> e 0=x∧e 3= .s (.int .i64 (ls.flatten.length:Nat))∧H=h) m _ _ ⟨0,rfl,by omega,rfl,rfl,rfl,rfl,rfl,rfl⟩ ?_ ?_
 ·rintro q e H ⟨j,rfl,hj,e11,e10,e9,e0,e3,rfl⟩
  by_cases cd:j < m
  ·have c':(j:Int)<((m:Nat):Int):=by omega
   obtain ⟨v,l,hv,hl2,hb,hfl⟩:=hat j cd
   obtain ⟨i1,i2⟩:=hel H (Fw.refl _ _) j v l cd hv hb
   have i3:=fun cf base H=> hb.o_len (cf:=cf) (base:=base) (h:=H)
   have hx:=hle (j+1)
   rw[hfl,List.length_append] at hx
   have w3:IntKind.i64.wrap ((j:Int)+1)=((j+1:Nat):Int):=q17z (by omega)
   have w4:IntKind.i64.wrap ((((ls.take j).flatten.length:Nat):Int)+((l.length:Nat):Int))=(((ls.take j).flatten.length+l.length:Nat):Int):=by rw[wrap_i64 (by omega) (by omega)];omega
   have c2:¬(((ls.take j).flatten.length+l.length:Nat):Int)< 0:=by omega
   simp only[e11,e10,e9,e0,e3,c',i1,i2,i3,w3,w4,c2,go_sem,↓reduceIte,Nat.reduceEqDiff,Nat.reduceBEq,Nat.reduceAdd,Nat.reduceSub,Nat.reduceLT,Nat.reduceLeDiff,Int.reduceLT,Int.reduceLE,Int.reduceEq,Int.reduceToNat]
   exact ⟨m - (j+1),by omega,j+1,rfl,by omega,by simp_all⟩
  ·have c':¬(j:Int)<((m:Nat):Int):=by omega
   have hjm:j=m:=by omega
   subst hjm
   rw[hall] at e3
   simp only[e11,e10,e9,e0,e3,c',go_sem,↓reduceIte,Nat.reduceEqDiff,Nat.reduceBEq,Nat.reduceAdd,Nat.reduceSub,Nat.reduceLT,Nat.reduceLeDiff,Int.reduceLT,Int.reduceLE,Int.reduceEq,Int.reduceToNat]
 ·rintro e H ⟨e0,e3,rfl⟩
  obtain ⟨v0,H0,hgr,G0⟩:=Grow_ok H.length H ls.flatten.length hl
  simp only[e0,e3,hgr,hlx,go_sem,↓reduceIte,Nat.reduceEqDiff,Nat.reduceBEq,Nat.reduceAdd,Nat.reduceSub,Nat.reduceLT,Nat.reduceLeDiff,Int.reduceLT,Int.reduceLE,Int.reduceEq,Int.reduceToNat]
  refine wp_for (fun q e H'=>∃j v,q=m - j∧j≤m∧e 27= .s (.int .i64 (j:Nat))∧e 26= .s (.int .i64 (m:Nat))∧e 25=x∧e 6=v∧Gr H ls.flatten.length v H' (ls.take j).flatten)
    (fun e H'=>∃v,e 6=v∧Gr H ls.flatten.length v H' ls.flatten) m _ _ ⟨0,v0,rfl,by omega,rfl,rfl,rfl,rfl,G0⟩ ?_ ?_
  ·rintro q e H' ⟨j,v,rfl,hj,e27,e26,e25,e6,G⟩
   by_cases cd:j < m
   ·have c':(j:Int)<((m:Nat):Int):=by omega
    obtain ⟨y,l,hv,hl2,hb,hfl⟩:=hat j cd
    obtain ⟨i1,i2⟩:=hel H' G.fw j y l cd hv hb
    have hx:=hle (j+1)
    rw[hfl,List.length_append] at hx
    obtain ⟨v2,H2,hap,G2⟩:=G.app (hb.fw G.fw).source (m:=l) hx
    rw[←hfl] at G2
    have hap2:=fun cf=> hap cf H.length (Nat.le_refl _)
    have w3:IntKind.i64.wrap ((j:Int)+1)=((j+1:Nat):Int):=q17z (by omega)
    simp only[e27,e26,e25,e6,c',i1,i2,hap2,w3,go_sem,↓reduceIte,Nat.reduceEqDiff,Nat.reduceBEq,Nat.reduceAdd,Nat.reduceSub,Nat.reduceLT,Nat.reduceLeDiff,Int.reduceLT,Int.reduceLE,Int.reduceEq,Int.reduceToNat]
    exact ⟨m - (j+1),by omega,j+1,v2,rfl,by omega,by simp_all⟩
   ·have c':¬(j:Int)<((m:Nat):Int):=by omega
    have hjm:j=m:=by omega
    subst hjm
    rw[hall] at G
    simp only[e27,e26,e25,e6,c',go_sem,↓reduceIte,Nat.reduceEqDiff,Nat.reduceBEq,Nat.reduceAdd,Nat.reduceSub,Nat.reduceLT,Nat.reduceLeDiff,Int.reduceLT,Int.reduceLE,Int.reduceEq,Int.reduceToNat]
    exact ⟨v,rfl,G⟩
  ·rintro e H' ⟨v,e6,G⟩
   have hfz:frzV H.length H' v=some (.imm false none (ls.flatten.map byteV)):=by
     rcases G with ⟨_,h1,rfl,rfl⟩ | ⟨_,_,rfl,rfl⟩
     ·rw[h1];rfl
     ·refine XR.frz (k:=H.length) (.inr ⟨by rw[List.length_map],?_⟩) (Nat.le_refl _) (plain_bytes _)
      simp
   have htk:=G.fw.take
   simp only[e6,hfz,htk,go_sem,↓reduceIte,Nat.reduceEqDiff,Nat.reduceBEq,Nat.reduceAdd,Nat.reduceSub,Nat.reduceLT,Nat.reduceLeDiff,Int.reduceLT,Int.reduceLE,Int.reduceEq,Int.reduceToNat]
def markD (k:Bs) (n:Nat) (ad l:Bs):Bs:=keyB (keyB k k) (numB n++(numB ad.length++(ad++l)))
def markB (k:Bs) (n:Nat) (ad l:Bs):Bs:=(markD k n ad l).take 8
theorem markB_len (k:Bs) (n:Nat) (ad l:Bs):(markB k n ad l).length=8:=by simp[markB,markD,keyB,sumB_len]
theorem keyB_len (k l:Bs):(keyB k l).length=16:=by simp[keyB,sumB_len]
theorem sla_hi {cf:CF} {base:Nat} {h:Hp} {t:Nat} {g:Option Nat} {id tot:Nat} {p:List Nat} {es:List V} {k:IntKind} {r:Nat} (hn:node h id p tot=some (.arr t es)) (hr:r≤es.length):opV cf base h (.sla t g false true) [.ptr id p tot,.s (.int k r)]=some (.ref id p g 0 r tot,h):=by
 simp[opV,opSla,splitBounds,hn,natOf,hr]
theorem gr_arr (t:Nat):∀l:Bs,(V.arr t (l.map byteV)).ground=true
 | []=> rfl
 | b::l=> by
   have:=gr_arr t l
   simp only[V.ground] at this ⊢
   simp only[List.map_cons,V.ground.all,this];rfl
theorem mark_ok (b:Nat) (h:Hp) (x y:V) (k ad l:Bs) (n:Nat) (hk:k.length=16) (hn:n < 18446744073709551616) (hx:Rd h x ad) (hy:Rd h y l) (had:ad.length≤100000) (hl:l.length≤100000) (hb:b≤h.length):
 ∃v H,run fns pr b 90 [.arr 25 (k.map byteV),.s (.int .u64 n),x,y] h=some (v,H)∧Rd H v (markB k n ad l)∧Fw [] h H:=by
 refine Vm.runQ (nt:=25) rfl fit90 (by simp) ?_
 have hkl:(k.map byteV).length=16:=by simp[hk]
 have hlx:=fun cf base H=> hx.o_len (cf:=cf) (base:=base) (h:=H)
 generalize hGd:h++[Blk.cells (some 25) [V.arr 25 (k.map byteV)]]=G
 have hG:G.length=h.length+1:=by rw[←hGd];simp
 have g0:G[h.length]? =some (.cells (some 25) [.arr 25 (k.map byteV)]):=by rw[←hGd];simp
 have fG:Fw [] h G:=by rw[←hGd];exact Fw.app [] h _
 have htw:=fun b H=> Two_ok b H k k hk hk
 have n1:=Number_ok b G n hn (by omega)
 have n2:=Number_ok b (G++[.cells none ((numB n).map byteV)]) ad.length (by omega) (by simp;omega)
 have wl:IntKind.u64.wrap ((ad.length:Nat):Int)=((ad.length:Nat):Int):=wrap_u64 (by omega) (by omega)
 have x1:=hx.ty;have x2:=hx.solid;have y1:=hy.ty;have y2:=hy.solid
 have fX:∀X,Fw [] h (G++X):=fun X=> fG.trans (Fw.app [] G X)
 have hco:=fun b=> Concat_ok b (G++[.cells none ((numB n).map byteV),.cells none ((numB ad.length).map byteV),.cells none [.ref G.length [] none 0 8 8,.ref (G.length+1) [] none 0 8 8,x,y]]) (.ref (G.length+2) [] none 0 4 4) 4 [.ref G.length [] none 0 8 8,.ref (G.length+1) [] none 0 8 8,x,y] [numB n,numB ad.length,ad,l] (SR_ref (by simp) rfl) rfl (by omega) ⟨rfl,fun i v m hv hm=> by
   match i,hv,hm with
   | 0,hv,hm=> cases hv;cases hm;exact BR.rd (BR_ref (by simp) (numB_len n))
   | 1,hv,hm=> cases hv;cases hm;exact BR.rd (BR_ref (by simp) (numB_len _))
   | 2,hv,hm=> cases hv;cases hm;exact hx.fw (fX _)
   | 3,hv,hm=> cases hv;cases hm;exact hy.fw (fX _)
   | i+4,hv,hm=> simp at hv⟩ (by simp;omega)
 simp only[List.flatten_cons,List.flatten_nil,List.append_nil] at hco
 have hky:=fun b H=> Keyed_ok b H (.imm false none ((numB n++(numB ad.length++(ad++l))).map byteV)) (keyB k k) _ (keyB_len k k) (BR.rd (BR_imm H false _)) (by simp;omega)
 have hk2:(List.map byteV (keyB (keyB k k) (numB n++(numB ad.length++(ad++l))))).length=16:=by simp[keyB_len]
 have hnd:∀(A B C:Blk) (m:Bs),node (G++[A,B,C,.cells (some 25) [.arr 25 (m.map byteV)]]) (G.length+3) [0] 1=some (.arr 25 (m.map byteV)):=fun A B C m=> by simp only[go_sem,↓reduceIte,Nat.reduceEqDiff,Nat.reduceBEq,Nat.reduceAdd,Nat.reduceSub,Nat.reduceLT,Nat.reduceLeDiff,Int.reduceLT,Int.reduceLE,Int.reduceEq,Int.reduceToNat,List.append_assoc,List.length_append,Vm.get_app,Vm.set_app,Vm.get_appL,Vm.get_appL0,Vm.set_appL,Vm.set_appL0,Nat.le_refl,Nat.le_add_right]
 have hsl:=fun cf base A B C (m:Bs) (hm:m.length=16)=> sla_hi (cf:=cf) (base:=base) (g:=none) (k:= .i64) (r:=8) (hnd A B C m) (by simp[hm])
 have hsl2:=fun cf base A B C=> hsl cf base A B C (keyB (keyB k k) (numB n++(numB ad.length++(ad++l)))) (keyB_len _ _)
 simp only[B90,hkl,hGd,g0,htw,n1,hlx,wl,n2,get_appL,x1,x2,y1,y2,bslR_some,hco,hky,hk2,gr_arr,show (V.s (.int .i64 8))=V.s (.int .i64 ((8:Nat):Int)) from rfl,hsl2,go_sem,↓reduceIte,Nat.reduceEqDiff,Nat.reduceBEq,Nat.reduceAdd,Nat.reduceSub,Nat.reduceLT,Nat.reduceLeDiff,Int.reduceLT,Int.reduceLE,Int.reduceEq,Int.reduceToNat]
 refine ⟨Rd.mk' ?_ (by simp[lenV,markB_len]),fX _⟩
 rw[elems_refR,Vm.rowAt_cons,hnd]
 simp only[arrR_some,elR_some,List.drop_zero,markB,markD,List.map_take]
theorem strEq (l m:Bs):(decide ((⟨l.toArray⟩:ByteArray)=⟨m.toArray⟩))=decide (l=m):=by
 rw[decide_eq_decide];simp
theorem EqualR_ok (b:Nat) (h:Hp) (x y:V) (l m:Bs) (hx:Rd h x l) (hy:Rd h y m):run fns pr b 103 [x,y] h=some (.s (.bool (decide (l=m))),h):=by
 refine Vm.runP (nt:=10) rfl fit103 (by simp) ?_
 have ex:=hx.1 h (Fw.refl _ _)
 have ey:=hy.1 h (Fw.refl _ _)
 simp only[B103,o_b2sE,ex,ey,b2sR_bytes,strEq,go_sem,↓reduceIte,Nat.reduceEqDiff,Nat.reduceBEq,Nat.reduceAdd,Nat.reduceSub,Nat.reduceLT,Nat.reduceLeDiff,Int.reduceLT,Int.reduceLE,Int.reduceEq,Int.reduceToNat]
theorem Same_ok (b:Nat) (h:Hp) (x y:V) (l m:Bs) (hx:Rd h x l) (hy:Rd h y m):run fns pr b 124 [x,y] h=some (.s (.bool (decide (l=m))),h):=by
 refine Vm.runP (nt:=8) rfl fit124 (by simp) ?_
 have he:=fun b=> EqualR_ok b h x y l m hx hy
 simp only[B124,he,go_sem,↓reduceIte,Nat.reduceEqDiff,Nat.reduceBEq,Nat.reduceAdd,Nat.reduceSub,Nat.reduceLT,Nat.reduceLeDiff,Int.reduceLT,Int.reduceLE,Int.reduceEq,Int.reduceToNat]
def sealB (k:Bs) (n:Nat) (ad l:Bs):Bs:=if l.length≤8184∧ad.length≤8192 then hidB k n l++markB k n ad l else []
theorem sealB_len (k:Bs) (n:Nat) (ad l:Bs) (h1:l.length≤8184) (h2:ad.length≤8192):(sealB k n ad l).length=l.length+8:=by
 rw[sealB,if_pos ⟨h1,h2⟩,List.length_append,hidB_len,markB_len]
theorem Seal_ok (b:Nat) (h:Hp) (x y:V) (k ad l:Bs) (n:Nat) (hk:k.length=16) (hn:n < 18446744073709551616) (hx:Rd h x ad) (hy:BR h y l) (had:ad.length≤100000):
 run fns pr b 57 [.arr 25 (k.map byteV),.s (.int .u64 n),x,y] h=some (.imm false none ((sealB k n ad l).map byteV),h):=by
 refine Vm.runP (nt:=27) rfl fit57 (by simp) ?_
 have hkl:(k.map byteV).length=16:=by simp[hk]
 have lx:=fun cf base H=> hx.o_len (cf:=cf) (base:=base) (h:=H)
 have ly:=fun cf base H=> hy.o_len (cf:=cf) (base:=base) (h:=H)
 have fz:frzV h.length h (.imm false none [])=some (.imm false none []):=rfl
 unfold sealB
 by_cases c1:l.length≤8184
 ·have c1':¬(8184:Int)<((l.length:Nat):Int):=by omega
  by_cases c2:ad.length≤8192
  ·have c2':¬(8192:Int)<((ad.length:Nat):Int):=by omega
   rw[if_pos ⟨c1,c2⟩]
   generalize hGd:h++[Blk.cells (some 25) [V.arr 25 (k.map byteV)]]=G
   have hG:G.length=h.length+1:=by rw[←hGd];simp
   have g0:G[h.length]? =some (.cells (some 25) [.arr 25 (k.map byteV)]):=by rw[←hGd];simp
   have fG:Fw [] h G:=by rw[←hGd];exact Fw.app [] h _
   obtain ⟨v,H,hh,hN⟩:=hidden_ok h.length G y k l n hk hn (hy.mono fG) (by omega) (by omega)
   have gH:H[h.length]? =some (.cells (some 25) [.arr 25 (k.map byteV)]):=hN.fw.old _ _ g0 (by simp)
   obtain ⟨w,H2,hm,hR,f2⟩:=mark_ok h.length H x y k ad l n hk hn (hx.fw (fG.trans hN.fw)) (BR.rd (hy.mono (fG.trans hN.fw))) (by omega) (by omega) (by have:=hN.fw.len;omega)
   obtain ⟨u,H3,hap,hN3⟩:=(hN.mono f2).app hR.source (by rw[hidB_len,markB_len];omega)
   have hfz:=hN3.frz (n:=h.length) (by omega)
   have htk:=(fG.trans hN3.fw).take
   simp only[B57,hkl,lx,ly,c1',c2',hGd,g0,hh,gH,hm,hap,hfz,htk,go_sem,↓reduceIte,Nat.reduceEqDiff,Nat.reduceBEq,Nat.reduceAdd,Nat.reduceSub,Nat.reduceLT,Nat.reduceLeDiff,Int.reduceLT,Int.reduceLE,Int.reduceEq,Int.reduceToNat]
  ·have c2':(8192:Int)<((ad.length:Nat):Int):=by omega
   rw[if_neg (by omega)]
   simp only[B57,hkl,lx,ly,c1',c2',List.take_left,go_sem,↓reduceIte,Nat.reduceEqDiff,Nat.reduceBEq,Nat.reduceAdd,Nat.reduceSub,Nat.reduceLT,Nat.reduceLeDiff,Int.reduceLT,Int.reduceLE,Int.reduceEq,Int.reduceToNat]
 ·have c1':(8184:Int)<((l.length:Nat):Int):=by omega
  rw[if_neg (by omega)]
  simp only[B57,hkl,lx,ly,c1',List.take_left,go_sem,↓reduceIte,Nat.reduceEqDiff,Nat.reduceBEq,Nat.reduceAdd,Nat.reduceSub,Nat.reduceLT,Nat.reduceLeDiff,Int.reduceLT,Int.reduceLE,Int.reduceEq,Int.reduceToNat]
def openB (k:Bs) (n:Nat) (ad b:Bs):Option Bs:=
 if 8≤b.length∧b.length≤8192∧ad.length≤8192 then
  let t:=hidB k n (b.take (b.length - 8))
  if markB k n ad t=b.drop (b.length - 8) then some t else none
 else none
def openV :Option Bs→V
 | some t=> .tup [.imm false none (t.map byteV),.s (.int .i64 0)]
 | none=> .tup [.imm false none [],.s (.int .i64 30)]
theorem Open_ok (b:Nat) (h:Hp) (x y:V) (k ad l:Bs) (n:Nat) (hk:k.length=16) (hn:n < 18446744073709551616) (hx:Rd h x ad) (hy:BR h y l):
 run fns pr b 116 [.arr 25 (k.map byteV),.s (.int .u64 n),x,y] h=some (openV (openB k n ad l),h):=by
 refine Vm.runP (nt:=45) rfl fit116 (by simp) ?_
 have hkl:(k.map byteV).length=16:=by simp[hk]
 have lx:=fun cf base H=> hx.o_len (cf:=cf) (base:=base) (h:=H)
 have ly:=fun cf base H=> hy.o_len (cf:=cf) (base:=base) (h:=H)
 unfold openB
 by_cases c0:l.length < 8
 ·have c0':((l.length:Nat):Int)< 8:=by omega
  rw[if_neg (by omega)]
  simp only[B116,hkl,lx,ly,c0',openV,List.take_left,go_sem,↓reduceIte,Nat.reduceEqDiff,Nat.reduceBEq,Nat.reduceAdd,Nat.reduceSub,Nat.reduceLT,Nat.reduceLeDiff,Int.reduceLT,Int.reduceLE,Int.reduceEq,Int.reduceToNat]
 have c0':¬((l.length:Nat):Int)< 8:=by omega
 by_cases c1:8192 < l.length
 ·have c1':(8192:Int)<((l.length:Nat):Int):=by omega
  rw[if_neg (by omega)]
  simp only[B116,hkl,lx,ly,c0',c1',openV,List.take_left,go_sem,↓reduceIte,Nat.reduceEqDiff,Nat.reduceBEq,Nat.reduceAdd,Nat.reduceSub,Nat.reduceLT,Nat.reduceLeDiff,Int.reduceLT,Int.reduceLE,Int.reduceEq,Int.reduceToNat]
 have c1':¬(8192:Int)<((l.length:Nat):Int):=by omega
 by_cases c2:8192 < ad.length
 ·have c2':(8192:Int)<((ad.length:Nat):Int):=by omega
  rw[if_neg (by omega)]
  simp only[B116,hkl,lx,ly,c0',c1',c2',openV,List.take_left,go_sem,↓reduceIte,Nat.reduceEqDiff,Nat.reduceBEq,Nat.reduceAdd,Nat.reduceSub,Nat.reduceLT,Nat.reduceLeDiff,Int.reduceLT,Int.reduceLE,Int.reduceEq,Int.reduceToNat]
 have c2':¬(8192:Int)<((ad.length:Nat):Int):=by omega
 rw[if_pos ⟨by omega,by omega,by omega⟩]
 have w8:IntKind.i64.wrap (((l.length:Nat):Int) - 8)=((l.length - 8:Nat):Int):=by rw[wrap_i64 (by omega) (by omega)];omega
 generalize hGd:h++[Blk.cells (some 25) [V.arr 25 (k.map byteV)]]=G
 have hG:G.length=h.length+1:=by rw[←hGd];simp
 have g0:G[h.length]? =some (.cells (some 25) [.arr 25 (k.map byteV)]):=by rw[←hGd];simp
 have fG:Fw [] h G:=by rw[←hGd];exact Fw.app [] h _
 obtain ⟨z,hz,hbz⟩:=(hy.mono fG).hi (k:= .i64) (r:=l.length - 8) (by omega)
 obtain ⟨v,H,hh,hN⟩:=hidden_ok h.length G z k (l.take (l.length - 8)) n hk hn hbz (by rw[List.length_take];omega) (by omega)
 have gH:H[h.length]? =some (.cells (some 25) [.arr 25 (k.map byteV)]):=hN.fw.old _ _ g0 (by simp)
 obtain ⟨w,H2,hm,hR,f2⟩:=mark_ok h.length H x v k ad (hidB k n (l.take (l.length - 8))) n hk hn (hx.fw (fG.trans hN.fw)) (BR.rd hN.br) (by omega) (by rw[hidB_len,List.length_take];omega) (by have:=hN.fw.len;omega)
 have sy:=(BR.sr hy).fw (fG.trans (hN.fw.trans f2))
 have hu:=fun cf base=> sy.o_lo (cf:=cf) (base:=base) (k:= .i64) (l:=l.length - 8) (by simp)
 have hu0:=fun cf base=>((BR.sr hy).fw (fG.trans hN.fw)).o_lo (cf:=cf) (base:=base) (k:= .i64) (l:=l.length - 8) (by simp)
 have su:=sy.loR (l:=l.length - 8) (by simp)
 rw[←List.map_drop,List.length_map] at su
 have hsm:=fun b=> Same_ok b H2 w _ _ _ hR (Rd.mk' su.elems (by rw[su.len,List.length_map]))
 have hfz:=(hN.mono f2).frz (n:=h.length) (by omega)
 have htk:=(fG.trans (hN.fw.trans f2)).take
 by_cases c3:markB k n ad (hidB k n (l.take (l.length - 8)))=l.drop (l.length - 8)
 ·simp only[B116,hkl,lx,ly,c0',c1',c2',w8,hGd,g0,hz,hh,gH,hm,hu,hu0,hsm,c3,hfz,htk,openV,go_sem,↓reduceIte,Nat.reduceEqDiff,Nat.reduceBEq,Nat.reduceAdd,Nat.reduceSub,Nat.reduceLT,Nat.reduceLeDiff,Int.reduceLT,Int.reduceLE,Int.reduceEq,Int.reduceToNat]
 ·simp only[B116,hkl,lx,ly,c0',c1',c2',w8,hGd,g0,hz,hh,gH,hm,hu,hu0,hsm,c3,hfz,htk,openV,go_sem,↓reduceIte,Nat.reduceEqDiff,Nat.reduceBEq,Nat.reduceAdd,Nat.reduceSub,Nat.reduceLT,Nat.reduceLeDiff,Int.reduceLT,Int.reduceLE,Int.reduceEq,Int.reduceToNat]
theorem ints_bytes :∀l:Bs,ints .u8 (l.map byteV)=some (l.map fun b=>(b.toNat:Int))
 | []=> rfl
 | b::l=> by
   have ih:=ints_bytes l
   show (if IntKind.u8=IntKind.u8 then (ints .u8 (l.map byteV)).map ((b.toNat:Int):: ·) else none)=_
   rw[if_pos rfl,ih];rfl
theorem toNat_map_inj :∀ {a b:Bs},(a.map fun b=>(b.toNat:Int))=(b.map fun b=>(b.toNat:Int))→a=b
 | [],[],_=> rfl
 | [],_::_,h=> by simp at h
 | _::_,[],h=> by simp at h
 | x::a,y::b,h=> by
   simp only[List.map_cons,List.cons.injEq] at h
   have h1:x.toNat=y.toNat:=by have:=h.1;omega
   rw[UInt8.toNat_inj.1 h1,toNat_map_inj h.2]
theorem o_eqaB {cf:CF} {base:Nat} {h:Hp} (t:Nat) (neg:Bool) (a b:Bs):opV cf base h (.eqa t .u8 neg) [.arr t (a.map byteV),.arr t (b.map byteV)]=some (.s (.bool (if neg=true then !decide (a=b) else decide (a=b))),h):=by
 rw[o_eqa,ints_bytes,ints_bytes,eqaR_some]
 have:(List.map (fun b=>(b.toNat:Int)) a=List.map (fun b=>(b.toNat:Int)) b)=(a=b):=propext ⟨toNat_map_inj,fun h=> by rw[h]⟩
 simp only[this]
theorem zero16_v :[V.s (.int .u8 0),.s (.int .u8 0),.s (.int .u8 0),.s (.int .u8 0),.s (.int .u8 0),.s (.int .u8 0),.s (.int .u8 0),.s (.int .u8 0),.s (.int .u8 0),.s (.int .u8 0),.s (.int .u8 0),.s (.int .u8 0),.s (.int .u8 0),.s (.int .u8 0),.s (.int .u8 0),.s (.int .u8 0)]=zero16.map byteV:=(rfl)
def whoB (c n:Int):Bool:=decide (0≤c)&& decide (c < 4)&& decide (n≤1099511627776)
def rightV (v:Vault):Bool:=decide (1≤v.gen)&& decide (v.gen≤1099511627776)&&
 (if v.gone=true then decide (v.pin=zero16)&& decide (v.owner=zero16)&& decide (v.secret.length=0)&& decide (v.limit=0)&& decide (v.used=0)
  else !v.wiped && decide (1≤v.limit)&& decide (v.limit≤32)&& decide (0≤v.used)&& decide (v.used < v.limit)&& decide (v.secret.length≤64))
theorem RightVault_ok (b:Nat) (h:Hp) (v:Vault):run fns pr b 75 [v.enc] h=some (.s (.bool (rightV v)),h):=by
 refine Vm.runP (nt:=72) rfl fit75 (by simp) ?_
 obtain ⟨id,ge,pin,se,li,us,ow,go,wi⟩:=v
 simp only[rightV]
 have hl:((se.length:Int)≤64)=(se.length≤64):=propext (by omega)
 have hz:(se.length=0)=((se.length:Int)=0):=propext (by omega)
 by_cases g1:ge < 1
 ·have g1':¬1≤ge:=by omega
  simp only[B75,Vault.enc,go_sem,↓reduceIte,Nat.reduceEqDiff,Nat.reduceBEq,Nat.reduceAdd,Nat.reduceSub,Nat.reduceLT,Nat.reduceLeDiff,Int.reduceLT,Int.reduceLE,Int.reduceEq,Int.reduceToNat,List.append_assoc,List.length_append,Vm.get_app,Vm.set_app,Vm.get_appL,Vm.get_appL0,Vm.set_appL,Vm.set_appL0,Nat.le_refl,Nat.le_add_right,Nat.le_refl,hl,hz,zero16_v,o_eqaB,Bool.true_and,Bool.false_and,Bool.and_false,Bool.and_true,decide_false,decide_true,if_false,if_true,Bool.not_true,Bool.not_false,Bool.false_eq_true,g1,g1']
 have g1':1≤ge:=by omega
 by_cases g2:1099511627776 < ge
 ·have g2':¬ge≤1099511627776:=by omega
  simp only[B75,Vault.enc,go_sem,↓reduceIte,Nat.reduceEqDiff,Nat.reduceBEq,Nat.reduceAdd,Nat.reduceSub,Nat.reduceLT,Nat.reduceLeDiff,Int.reduceLT,Int.reduceLE,Int.reduceEq,Int.reduceToNat,List.append_assoc,List.length_append,Vm.get_app,Vm.set_app,Vm.get_appL,Vm.get_appL0,Vm.set_appL,Vm.set_appL0,Nat.le_refl,Nat.le_add_right,Nat.le_refl,hl,hz,zero16_v,o_eqaB,Bool.true_and,Bool.false_and,Bool.and_false,Bool.and_true,decide_false,decide_true,if_false,if_true,Bool.not_true,Bool.not_false,Bool.false_eq_true,g1,g1',g2,g2']
 have g2':ge≤1099511627776:=by omega
 cases go with
 | true=>
   by_cases k0:pin=zero16
   case neg=> simp only[B75,Vault.enc,go_sem,↓reduceIte,Nat.reduceEqDiff,Nat.reduceBEq,Nat.reduceAdd,Nat.reduceSub,Nat.reduceLT,Nat.reduceLeDiff,Int.reduceLT,Int.reduceLE,Int.reduceEq,Int.reduceToNat,List.append_assoc,List.length_append,Vm.get_app,Vm.set_app,Vm.get_appL,Vm.get_appL0,Vm.set_appL,Vm.set_appL0,Nat.le_refl,Nat.le_add_right,Nat.le_refl,hl,hz,zero16_v,o_eqaB,Bool.true_and,Bool.false_and,Bool.and_false,Bool.and_true,decide_false,decide_true,if_false,if_true,Bool.not_true,Bool.not_false,Bool.false_eq_true,g1,g1',g2,g2',k0]
   by_cases k1:ow=zero16
   case neg=> simp only[B75,Vault.enc,go_sem,↓reduceIte,Nat.reduceEqDiff,Nat.reduceBEq,Nat.reduceAdd,Nat.reduceSub,Nat.reduceLT,Nat.reduceLeDiff,Int.reduceLT,Int.reduceLE,Int.reduceEq,Int.reduceToNat,List.append_assoc,List.length_append,Vm.get_app,Vm.set_app,Vm.get_appL,Vm.get_appL0,Vm.set_appL,Vm.set_appL0,Nat.le_refl,Nat.le_add_right,Nat.le_refl,hl,hz,zero16_v,o_eqaB,Bool.true_and,Bool.false_and,Bool.and_false,Bool.and_true,decide_false,decide_true,if_false,if_true,Bool.not_true,Bool.not_false,Bool.false_eq_true,g1,g1',g2,g2',k0,k1]
   by_cases k2:(se.length:Int)=0
   case neg=> simp only[B75,Vault.enc,go_sem,↓reduceIte,Nat.reduceEqDiff,Nat.reduceBEq,Nat.reduceAdd,Nat.reduceSub,Nat.reduceLT,Nat.reduceLeDiff,Int.reduceLT,Int.reduceLE,Int.reduceEq,Int.reduceToNat,List.append_assoc,List.length_append,Vm.get_app,Vm.set_app,Vm.get_appL,Vm.get_appL0,Vm.set_appL,Vm.set_appL0,Nat.le_refl,Nat.le_add_right,Nat.le_refl,hl,hz,zero16_v,o_eqaB,Bool.true_and,Bool.false_and,Bool.and_false,Bool.and_true,decide_false,decide_true,if_false,if_true,Bool.not_true,Bool.not_false,Bool.false_eq_true,g1,g1',g2,g2',k0,k1,k2]
   by_cases k3:li=0
   case neg=> simp only[B75,Vault.enc,go_sem,↓reduceIte,Nat.reduceEqDiff,Nat.reduceBEq,Nat.reduceAdd,Nat.reduceSub,Nat.reduceLT,Nat.reduceLeDiff,Int.reduceLT,Int.reduceLE,Int.reduceEq,Int.reduceToNat,List.append_assoc,List.length_append,Vm.get_app,Vm.set_app,Vm.get_appL,Vm.get_appL0,Vm.set_appL,Vm.set_appL0,Nat.le_refl,Nat.le_add_right,Nat.le_refl,hl,hz,zero16_v,o_eqaB,Bool.true_and,Bool.false_and,Bool.and_false,Bool.and_true,decide_false,decide_true,if_false,if_true,Bool.not_true,Bool.not_false,Bool.false_eq_true,g1,g1',g2,g2',k0,k1,k2,k3]
   simp only[B75,Vault.enc,go_sem,↓reduceIte,Nat.reduceEqDiff,Nat.reduceBEq,Nat.reduceAdd,Nat.reduceSub,Nat.reduceLT,Nat.reduceLeDiff,Int.reduceLT,Int.reduceLE,Int.reduceEq,Int.reduceToNat,List.append_assoc,List.length_append,Vm.get_app,Vm.set_app,Vm.get_appL,Vm.get_appL0,Vm.set_appL,Vm.set_appL0,Nat.le_refl,Nat.le_add_right,Nat.le_refl,hl,hz,zero16_v,o_eqaB,Bool.true_and,Bool.false_and,Bool.and_false,Bool.and_true,decide_false,decide_true,if_false,if_true,Bool.not_true,Bool.not_false,Bool.false_eq_true,g1,g1',g2,g2',k0,k1,k2,k3]
 | false=>
   cases wi with
   | true=> simp only[B75,Vault.enc,go_sem,↓reduceIte,Nat.reduceEqDiff,Nat.reduceBEq,Nat.reduceAdd,Nat.reduceSub,Nat.reduceLT,Nat.reduceLeDiff,Int.reduceLT,Int.reduceLE,Int.reduceEq,Int.reduceToNat,List.append_assoc,List.length_append,Vm.get_app,Vm.set_app,Vm.get_appL,Vm.get_appL0,Vm.set_appL,Vm.set_appL0,Nat.le_refl,Nat.le_add_right,Nat.le_refl,hl,hz,zero16_v,o_eqaB,Bool.true_and,Bool.false_and,Bool.and_false,Bool.and_true,decide_false,decide_true,if_false,if_true,Bool.not_true,Bool.not_false,Bool.false_eq_true,g1,g1',g2,g2']
   | false=>
     by_cases k0:1≤li
     case neg=> simp only[B75,Vault.enc,go_sem,↓reduceIte,Nat.reduceEqDiff,Nat.reduceBEq,Nat.reduceAdd,Nat.reduceSub,Nat.reduceLT,Nat.reduceLeDiff,Int.reduceLT,Int.reduceLE,Int.reduceEq,Int.reduceToNat,List.append_assoc,List.length_append,Vm.get_app,Vm.set_app,Vm.get_appL,Vm.get_appL0,Vm.set_appL,Vm.set_appL0,Nat.le_refl,Nat.le_add_right,Nat.le_refl,hl,hz,zero16_v,o_eqaB,Bool.true_and,Bool.false_and,Bool.and_false,Bool.and_true,decide_false,decide_true,if_false,if_true,Bool.not_true,Bool.not_false,Bool.false_eq_true,g1,g1',g2,g2',k0]
     by_cases k1:li≤32
     case neg=> simp only[B75,Vault.enc,go_sem,↓reduceIte,Nat.reduceEqDiff,Nat.reduceBEq,Nat.reduceAdd,Nat.reduceSub,Nat.reduceLT,Nat.reduceLeDiff,Int.reduceLT,Int.reduceLE,Int.reduceEq,Int.reduceToNat,List.append_assoc,List.length_append,Vm.get_app,Vm.set_app,Vm.get_appL,Vm.get_appL0,Vm.set_appL,Vm.set_appL0,Nat.le_refl,Nat.le_add_right,Nat.le_refl,hl,hz,zero16_v,o_eqaB,Bool.true_and,Bool.false_and,Bool.and_false,Bool.and_true,decide_false,decide_true,if_false,if_true,Bool.not_true,Bool.not_false,Bool.false_eq_true,g1,g1',g2,g2',k0,k1]
     by_cases k2:0≤us
     case neg=> simp only[B75,Vault.enc,go_sem,↓reduceIte,Nat.reduceEqDiff,Nat.reduceBEq,Nat.reduceAdd,Nat.reduceSub,Nat.reduceLT,Nat.reduceLeDiff,Int.reduceLT,Int.reduceLE,Int.reduceEq,Int.reduceToNat,List.append_assoc,List.length_append,Vm.get_app,Vm.set_app,Vm.get_appL,Vm.get_appL0,Vm.set_appL,Vm.set_appL0,Nat.le_refl,Nat.le_add_right,Nat.le_refl,hl,hz,zero16_v,o_eqaB,Bool.true_and,Bool.false_and,Bool.and_false,Bool.and_true,decide_false,decide_true,if_false,if_true,Bool.not_true,Bool.not_false,Bool.false_eq_true,g1,g1',g2,g2',k0,k1,k2]
     by_cases k3:us < li
     case neg=> simp only[B75,Vault.enc,go_sem,↓reduceIte,Nat.reduceEqDiff,Nat.reduceBEq,Nat.reduceAdd,Nat.reduceSub,Nat.reduceLT,Nat.reduceLeDiff,Int.reduceLT,Int.reduceLE,Int.reduceEq,Int.reduceToNat,List.append_assoc,List.length_append,Vm.get_app,Vm.set_app,Vm.get_appL,Vm.get_appL0,Vm.set_appL,Vm.set_appL0,Nat.le_refl,Nat.le_add_right,Nat.le_refl,hl,hz,zero16_v,o_eqaB,Bool.true_and,Bool.false_and,Bool.and_false,Bool.and_true,decide_false,decide_true,if_false,if_true,Bool.not_true,Bool.not_false,Bool.false_eq_true,g1,g1',g2,g2',k0,k1,k2,k3]
     simp only[B75,Vault.enc,go_sem,↓reduceIte,Nat.reduceEqDiff,Nat.reduceBEq,Nat.reduceAdd,Nat.reduceSub,Nat.reduceLT,Nat.reduceLeDiff,Int.reduceLT,Int.reduceLE,Int.reduceEq,Int.reduceToNat,List.append_assoc,List.length_append,Vm.get_app,Vm.set_app,Vm.get_appL,Vm.get_appL0,Vm.set_appL,Vm.set_appL0,Nat.le_refl,Nat.le_add_right,Nat.le_refl,hl,hz,zero16_v,o_eqaB,Bool.true_and,Bool.false_and,Bool.and_false,Bool.and_true,decide_false,decide_true,if_false,if_true,Bool.not_true,Bool.not_false,Bool.false_eq_true,g1,g1',g2,g2',k0,k1,k2,k3]
def Vault.encF (f:Bool) (a:Vault):V:= .st 31 [.arr 27 (a.iD.map byteV),.s (.int .u64 a.gen),.arr 25 (a.pin.map byteV),.imm f none (a.secret.map byteV),.s (.int .i64 a.limit),.s (.int .i64 a.used),.arr 25 (a.owner.map byteV),.s (.bool a.gone),.s (.bool a.wiped)]
theorem Vault.enc_F (a:Vault):a.enc=a.encF false:=rfl
def zeroV :Vault:=⟨zero4,0,zero16,[],0,0,zero16,false,false⟩
theorem CSameF_ok (b:Nat) (h:Hp) (f g:Bool) (v w:Vault):run fns pr b 107 [v.encF f,w.encF g] h=some (.s (.bool (decide (v=w))),h):=by
 refine Vm.runP (nt:=66) rfl fit107 (by simp) ?_
 obtain ⟨a1,a2,a3,a4,a5,a6,a7,a8,a9⟩:=v
 obtain ⟨c1,c2,c3,c4,c5,c6,c7,c8,c9⟩:=w
 simp only[Vault.mk.injEq]
 have he:=fun h0 f g l m=> Equal_ok h.length h0 (.imm f none (l.map byteV)) (.imm g none (m.map byteV)) l m (BR_imm _ _ _) (BR_imm _ _ _)
 have hvb:(0:Nat)=0:=rfl
 try simp only[B107,Vault.encF,o_eqaB,he,go_sem,↓reduceIte,Nat.reduceEqDiff,Nat.reduceBEq,Nat.reduceAdd,Nat.reduceSub,Nat.reduceLT,Nat.reduceLeDiff,Int.reduceLT,Int.reduceLE,Int.reduceEq,Int.reduceToNat]
 repeat' (
   first | refine q5z ?_ ?_ | refine q3z ?_ ?_ | refine q4z ?_ ?_
   all_goals intro hvc
   all_goals first | replace hvc:=q2z hvc | replace hvc:=q1z hvc | skip
   all_goals first | subst hvc | replace hvb:=And.intro hvc hvb
   all_goals try simp only[hvb,B107,Vault.encF,o_eqaB,he,go_sem,↓reduceIte,Nat.reduceEqDiff,Nat.reduceBEq,Nat.reduceAdd,Nat.reduceSub,Nat.reduceLT,Nat.reduceLeDiff,Int.reduceLT,Int.reduceLE,Int.reduceEq,Int.reduceToNat])
 all_goals (clear he;simp_all [Bool.beq_eq_decide_eq])
theorem zero16_a (t:Nat):V.arr t [V.s (.int .u8 0),.s (.int .u8 0),.s (.int .u8 0),.s (.int .u8 0),.s (.int .u8 0),.s (.int .u8 0),.s (.int .u8 0),.s (.int .u8 0),.s (.int .u8 0),.s (.int .u8 0),.s (.int .u8 0),.s (.int .u8 0),.s (.int .u8 0),.s (.int .u8 0),.s (.int .u8 0),.s (.int .u8 0)]= .arr t (zero16.map byteV):=rfl
theorem zero4_a (t:Nat):V.arr t [V.s (.int .u8 0),.s (.int .u8 0),.s (.int .u8 0),.s (.int .u8 0)]= .arr t (zero4.map byteV):=rfl
theorem encF_tyV (f:Bool) (v:Vault):(v.encF f).ty=some 31:=rfl
theorem encF_soV (f:Bool) (v:Vault):(v.encF f).solid=true:=rfl
theorem enc_tyV (v:Vault):v.enc.ty=some 31:=rfl
theorem enc_soV (v:Vault):v.enc.solid=true:=rfl
theorem enc_frV (n:Nat) (h:Hp) (v:Vault):frzV n h v.enc=some v.enc:=by simp only[Vault.enc,go_sem]
theorem zeroV_v (f:Bool):V.st 31 [.arr 27 (zero4.map byteV),.s (.int .u64 0),.arr 25 (zero16.map byteV),.imm f none [],.s (.int .i64 0),.s (.int .i64 0),.arr 25 (zero16.map byteV),.s (.bool false),.s (.bool false)]=zeroV.encF f:=rfl
def goneV (v:Vault) (w:Bool):Vault:=⟨v.iD,v.gen,zero16,[],0,0,zero16,true,w⟩
theorem RightVaultF_ok (b:Nat) (h:Hp) (f:Bool) (v:Vault):run fns pr b 75 [v.encF f] h=some (.s (.bool (rightV v)),h):=by
 refine Vm.runP (nt:=72) rfl fit75 (by simp) ?_
 have hvb:(0:Nat)=0:=rfl
 try simp only[B75,Vault.encF,zero16_a,o_eqaB,go_sem,↓reduceIte,Nat.reduceEqDiff,Nat.reduceBEq,Nat.reduceAdd,Nat.reduceSub,Nat.reduceLT,Nat.reduceLeDiff,Int.reduceLT,Int.reduceLE,Int.reduceEq,Int.reduceToNat]
 repeat' (
   first | refine q5z ?_ ?_ | refine q3z ?_ ?_ | refine q4z ?_ ?_
   all_goals intro hvc
   all_goals first | replace hvc:=q2z hvc | replace hvc:=q1z hvc | skip
   all_goals first | subst hvc | replace hvb:=And.intro hvc hvb
   all_goals try simp only[hvb,B75,Vault.encF,zero16_a,o_eqaB,go_sem,↓reduceIte,Nat.reduceEqDiff,Nat.reduceBEq,Nat.reduceAdd,Nat.reduceSub,Nat.reduceLT,Nat.reduceLeDiff,Int.reduceLT,Int.reduceLE,Int.reduceEq,Int.reduceToNat])
 all_goals try simp only[decide_eq_true_eq,decide_eq_false_iff_not] at *
 all_goals first
   | (simp_all [rightV, -Int.not_le, -Int.not_lt, -Nat.not_le, -Nat.not_lt,Bool.beq_eq_decide_eq];done)
   | (simp_all [rightV, -Int.not_le, -Int.not_lt, -Nat.not_le, -Nat.not_lt,Bool.beq_eq_decide_eq];omega)
   | (simp_all [rightV,Bool.beq_eq_decide_eq];done)
   | (simp_all [rightV,Bool.beq_eq_decide_eq];omega)
   | skip
def leftV (v:Vault):Int:=if v.gone=true∨rightV v=false then 0 else v.limit - v.used
def usedV (v:Vault):Vault:= {v with used:=v.used+1}
theorem q14z {v:Vault} (h:rightV v=true):v.secret.length≤64:=by
 simp[rightV] at h
 have:=h.2
 split at this <;> simp_all
def flagB (v:Vault):UInt8:=if v.wiped=true then 3 else if v.gone=true then 1 else 0
def vaultB (v:Vault):Bs:=v.iD++(numB v.gen.toNat++([flagB v,bt v.limit,bt v.used]++(v.pin++(v.owner++([bt v.secret.length]++v.secret)))))
theorem putVault_ok (b:Nat) (h:Hp) (f:Bool) (v:Vault) (hw:v.wf) (hs:v.secret.length≤100000):run fns pr b 76 [v.encF f] h=some (.imm false none ((vaultB v).map byteV),h):=by
 refine Vm.runP (nt:=36) rfl fit76 (by simp) ?_
 obtain ⟨w1,w2,w3,w4,w5,w6,w7,w8,w9⟩:=hw
 obtain ⟨id,ge,pin,se,li,us,ow,go,wi⟩:=v
 simp only at w1 w2 w3 w4 w5 w6 w7 hs
 obtain ⟨g,rfl⟩:∃g:Nat,ge=(g:Int):=⟨ge.toNat,by omega⟩
 have l1:(id.map byteV).length=4:=by simp[w1]
 have l2:(pin.map byteV).length=16:=by simp[w3]
 have l3:(ow.map byteV).length=16:=by simp[w7]
 have n1:=fun H (hh:h.length≤H.length)=> Number_ok h.length H g (by omega) hh
 have key:∀fl:UInt8,flagB ⟨id,g,pin,se,li,us,ow,go,wi⟩=fl→∀H,H=h++[Blk.cells (some 31) [V.st 31 [.arr 27 (id.map byteV),.s (.int .u64 (g:Int)),.arr 25 (pin.map byteV),.imm f none (se.map byteV),.s (.int .i64 li),.s (.int .i64 us),.arr 25 (ow.map byteV),.s (.bool go),.s (.bool wi)]],.cells none ((numB g).map byteV)]→
  run fns pr h.length 104 [.imm true none [.ref h.length [0,0] none 0 4 1,.ref (h.length+1) [] none 0 8 8,.imm true none [byteV fl,byteV (bt li),byteV (bt us)],.ref h.length [0,2] none 0 16 1,.ref h.length [0,6] none 0 16 1,.imm true none [byteV (bt se.length)],.imm f none (se.map byteV)]] H
    =some (.imm false none ((vaultB ⟨id,g,pin,se,li,us,ow,go,wi⟩).map byteV),H):=by
   rintro fl hfl H rfl
   have:=Concat_ok h.length (h++[Blk.cells (some 31) [V.st 31 [.arr 27 (id.map byteV),.s (.int .u64 (g:Int)),.arr 25 (pin.map byteV),.imm f none (se.map byteV),.s (.int .i64 li),.s (.int .i64 us),.arr 25 (ow.map byteV),.s (.bool go),.s (.bool wi)]],.cells none ((numB g).map byteV)]) (.imm true none [.ref h.length [0,0] none 0 4 1,.ref (h.length+1) [] none 0 8 8,.imm true none [byteV fl,byteV (bt li),byteV (bt us)],.ref h.length [0,2] none 0 16 1,.ref h.length [0,6] none 0 16 1,.imm true none [byteV (bt se.length)],.imm f none (se.map byteV)]) 7 _ [id,numB g,[fl,bt li,bt us],pin,ow,[bt se.length],se] (.inl ⟨true,rfl⟩) rfl (by omega) ⟨rfl,fun i v m hv hm=> by
     match i,hv,hm with
     | 0,hv,hm=> cases hv;cases hm;exact Rd.mk' (by simp only[elems_refR,go_sem,↓reduceIte,Nat.reduceEqDiff,Nat.reduceBEq,Nat.reduceAdd,Nat.reduceSub,Nat.reduceLT,Nat.reduceLeDiff,Int.reduceLT,Int.reduceLE,Int.reduceEq,Int.reduceToNat,List.append_assoc,List.length_append,Vm.get_app,Vm.set_app,Vm.get_appL,Vm.get_appL0,Vm.set_appL,Vm.set_appL0,Nat.le_refl,Nat.le_add_right,elR_some,List.drop_zero,List.take_of_length_le (Nat.le_of_eq l1)]) (by simp[lenV,w1])
     | 1,hv,hm=> cases hv;cases hm;exact BR.rd (BR_ref (get2 h _ _).2 (numB_len _))
     | 2,hv,hm=> cases hv;cases hm;exact BR.rd (BR_imm _ true [fl,bt li,bt us])
     | 3,hv,hm=> cases hv;cases hm;exact Rd.mk' (by simp only[elems_refR,go_sem,↓reduceIte,Nat.reduceEqDiff,Nat.reduceBEq,Nat.reduceAdd,Nat.reduceSub,Nat.reduceLT,Nat.reduceLeDiff,Int.reduceLT,Int.reduceLE,Int.reduceEq,Int.reduceToNat,List.append_assoc,List.length_append,Vm.get_app,Vm.set_app,Vm.get_appL,Vm.get_appL0,Vm.set_appL,Vm.set_appL0,Nat.le_refl,Nat.le_add_right,elR_some,List.drop_zero,List.take_of_length_le (Nat.le_of_eq l2)]) (by simp[lenV,w3])
     | 4,hv,hm=> cases hv;cases hm;exact Rd.mk' (by simp only[elems_refR,go_sem,↓reduceIte,Nat.reduceEqDiff,Nat.reduceBEq,Nat.reduceAdd,Nat.reduceSub,Nat.reduceLT,Nat.reduceLeDiff,Int.reduceLT,Int.reduceLE,Int.reduceEq,Int.reduceToNat,List.append_assoc,List.length_append,Vm.get_app,Vm.set_app,Vm.get_appL,Vm.get_appL0,Vm.set_appL,Vm.set_appL0,Nat.le_refl,Nat.le_add_right,elR_some,List.drop_zero,List.take_of_length_le (Nat.le_of_eq l3)]) (by simp[lenV,w7])
     | 5,hv,hm=> cases hv;cases hm;exact BR.rd (BR_imm _ true [bt se.length])
     | 6,hv,hm=> cases hv;cases hm;exact BR.rd (BR_imm _ f se)
     | i+7,hv,hm=> simp at hv⟩ (by simp;omega)
   rw[this]
   simp only[vaultB,hfl,List.flatten_cons,List.flatten_nil,List.append_nil,Int.toNat_natCast]
 have k1:=fun fl hfl=> key fl hfl _ rfl
 have b3:V.s (.int .u8 3)=byteV 3:=rfl
 have b1:V.s (.int .u8 1)=byteV 1:=rfl
 have b0:V.s (.int .u8 0)=byteV 0:=rfl
 cases wi with
 | true=>
   have k2:=k1 3 rfl
   simp only[B76,Vault.encF,l1,l2,l3,n1,bt_v,o_callp,callR_same,eff_callp,indep_callp,k2,b3,go_sem,↓reduceIte,Nat.reduceEqDiff,Nat.reduceBEq,Nat.reduceAdd,Nat.reduceSub,Nat.reduceLT,Nat.reduceLeDiff,Int.reduceLT,Int.reduceLE,Int.reduceEq,Int.reduceToNat]
 | false=>
   cases go with
   | true=>
     have k2:=k1 1 rfl
     simp only[B76,Vault.encF,l1,l2,l3,n1,bt_v,o_callp,callR_same,eff_callp,indep_callp,k2,b1,go_sem,↓reduceIte,Nat.reduceEqDiff,Nat.reduceBEq,Nat.reduceAdd,Nat.reduceSub,Nat.reduceLT,Nat.reduceLeDiff,Int.reduceLT,Int.reduceLE,Int.reduceEq,Int.reduceToNat]
   | false=>
     have k2:=k1 0 rfl
     rw[←b0] at k2
     simp only[B76,Vault.encF,l1,l2,l3,n1,bt_v,o_callp,callR_same,eff_callp,indep_callp,k2,go_sem,↓reduceIte,Nat.reduceEqDiff,Nat.reduceBEq,Nat.reduceAdd,Nat.reduceSub,Nat.reduceLT,Nat.reduceLeDiff,Int.reduceLT,Int.reduceLE,Int.reduceEq,Int.reduceToNat]
theorem Vault_ok (b:Nat) (h:Hp) (f:Bool) (v:Vault) (hw:v.wf):run fns pr b 42 [v.encF f] h=some (if rightV v=true then .tup [.imm false none ((vaultB v).map byteV),.s (.int .i64 0)] else .tup [.imm false none [],.s (.int .i64 1)],h):=by
 refine Vm.runP (nt:=9) rfl fit42 (by simp) ?_
 have hr:=fun h0=> RightVaultF_ok h.length h0 f v
 cases c:rightV v with
 | false=>
   rw[c] at hr
   simp only[B42,encF_tyV,encF_soV,hr,go_sem,↓reduceIte,Nat.reduceEqDiff,Nat.reduceBEq,Nat.reduceAdd,Nat.reduceSub,Nat.reduceLT,Nat.reduceLeDiff,Int.reduceLT,Int.reduceLE,Int.reduceEq,Int.reduceToNat]
 | true=>
   rw[c] at hr
   have hp:=fun h0=> putVault_ok h.length h0 f v hw (by have:=q14z c;omega)
   simp only[B42,encF_tyV,encF_soV,hr,hp,go_sem,↓reduceIte,Nat.reduceEqDiff,Nat.reduceBEq,Nat.reduceAdd,Nat.reduceSub,Nat.reduceLT,Nat.reduceLeDiff,Int.reduceLT,Int.reduceLE,Int.reduceEq,Int.reduceToNat]
theorem none_ok (b:Nat) (h:Hp) (f:Bool) (v:Vault):run fns pr b 83 [v.encF f] h=some (.s (.bool (decide (v=zeroV))),h):=by
 refine Vm.runP (nt:=6) rfl fit83 (by simp) ?_
 have he:=fun h0 f g v w=> CSameF_ok h.length h0 f g v w
 simp only[B83,he,zero16_a,zero4_a,zeroV_v,encF_tyV,encF_soV,go_sem,↓reduceIte,Nat.reduceEqDiff,Nat.reduceBEq,Nat.reduceAdd,Nat.reduceSub,Nat.reduceLT,Nat.reduceLeDiff,Int.reduceLT,Int.reduceLE,Int.reduceEq,Int.reduceToNat]
theorem Cmp_run (b:Nat) (h:Hp) (xs:List V):run fns pr b 98 xs h=cmpF xs h:=by rw[run_pr fns pr rfl];rfl
def riseAt (l:List Vault) (i:Nat):Bool:=rightV (l.getD i zeroV)&&(i==0 || decide (Lib.compareBytes (l.getD (i - 1) zeroV).iD (l.getD i zeroV).iD < 0))
def risingB (l:List Vault):Bool:=decide (l.length≤4)&&(List.range l.length).all (riseAt l)
theorem rising_no {l:List Vault} {i:Nat} (hi:i < l.length) (h:riseAt l i=false):risingB l=false:=by
 unfold risingB
 rw[Bool.and_eq_false_iff];right
 rw[List.all_eq_false]
 exact ⟨i,List.mem_range.2 hi,by simp[h]⟩
theorem rising_ok (b:Nat) (h:Hp) (x:V) (l:List Vault) (hsr:SR h x (some 31) (l.map Vault.enc)) (hw:∀v∈l,v.wf):run fns pr b 84 [x] h=some (.s (.bool (risingB l)),h):=by
 refine Vm.runP (nt:=35) rfl fit84 (by simp) ?_
 have hlx:∀cf base H,opV cf base H .len [x]=some (.s (.int .i64 (l.length:Nat)),H):=fun cf base H=> by rw[hsr.o_len];simp
 by_cases c4:l.length≤4
 case neg=>
   have c':(4:Int)<((l.length:Nat):Int):=by omega
   have hf:risingB l=false:=by simp[risingB,c4]
   rw[hf]
   simp only[B84,B84R0,B84L0,hlx,c',List.take_left,go_sem,↓reduceIte,Nat.reduceEqDiff,Nat.reduceBEq,Nat.reduceAdd,Nat.reduceSub,Nat.reduceLT,Nat.reduceLeDiff,Int.reduceLT,Int.reduceLE,Int.reduceEq,Int.reduceToNat]
 have c':¬(4:Int)<((l.length:Nat):Int):=by omega
 simp only[B84,B84R0,B84L0,hlx,c',go_sem,↓reduceIte,Nat.reduceEqDiff,Nat.reduceBEq,Nat.reduceAdd,Nat.reduceSub,Nat.reduceLT,Nat.reduceLeDiff,Int.reduceLT,Int.reduceLE,Int.reduceEq,Int.reduceToNat]
 refine wp_for (fun q e H=>∃j,q=l.length - j∧j≤l.length∧e 10= .s (.int .i64 (j:Nat))∧e 9= .s (.int .i64 (l.length:Nat))∧e 8=x∧e 0=x∧Fw [] h H∧(∀i,i < j→riseAt l i=true))
   (fun e H=> Fw [] h H∧risingB l=true) l.length _ _ ⟨0,rfl,by omega,rfl,rfl,rfl,rfl,Fw.refl _ _,fun i hi=> by omega⟩ ?_ ?_
 ·rintro q e H ⟨j,rfl,hj,e10,e9,e8,e0,fw,hall⟩
  by_cases cd:j < l.length
  ·have cj:(j:Int)<((l.length:Nat):Int):=by omega
   have hjv:l[j]? =some (l.getD j zeroV):=by rw[List.getD,List.getElem?_eq_getElem cd];rfl
   have i1:=fun cf base=>(hsr.fw fw).o_ias (cf:=cf) (base:=base) (k:= .i64) (i:=j) (by simpa using cd)
   have i2:=fun cf base=>(hsr.fw fw).o_ld (cf:=cf) (base:=base) (i:=j) (v:=(l.getD j zeroV).enc) (by rw[List.getElem?_map,hjv];rfl) rfl
   have hr:=fun h0=> RightVault_ok h.length h0 (l.getD j zeroV)
   have w3:IntKind.i64.wrap ((j:Int)+1)=((j+1:Nat):Int):=q17z (by omega)
   have hle:=fw.len
   have tk:∀X,(H++X).take h.length=h:=fun X=>(fw.trans (Fw.app [] H X)).take
   have fX:∀X,Fw [] h (H++X):=fun X=> fw.trans (Fw.app [] H X)
   cases hrv:rightV (l.getD j zeroV) with
   | false=>
     rw[hrv] at hr
     rw[rising_no cd (by unfold riseAt;rw[hrv];rfl)]
     simp only[e10,e9,e8,e0,cj,i1,i2,enc_tyV,enc_soV,hr,hle,tk,go_sem,↓reduceIte,Nat.reduceEqDiff,Nat.reduceBEq,Nat.reduceAdd,Nat.reduceSub,Nat.reduceLT,Nat.reduceLeDiff,Int.reduceLT,Int.reduceLE,Int.reduceEq,Int.reduceToNat]
   | true=>
     rw[hrv] at hr
     by_cases j0:j=0
     ·subst j0
      have c0:¬(0:Int)<((0:Nat):Int):=by omega
      simp only[e10,e9,e8,e0,cj,i1,i2,enc_tyV,enc_soV,hr,w3,hle,c0,go_sem,↓reduceIte,Nat.reduceEqDiff,Nat.reduceBEq,Nat.reduceAdd,Nat.reduceSub,Nat.reduceLT,Nat.reduceLeDiff,Int.reduceLT,Int.reduceLE,Int.reduceEq,Int.reduceToNat]
      refine ⟨l.length - 1,by omega,1,rfl,by omega,rfl,fX _,fun i hi=> ?_⟩
      obtain rfl:i=0:=by omega
      unfold riseAt;rw[hrv];rfl
     ·have c0:(0:Int)<((j:Nat):Int):=by omega
      have w4:IntKind.i64.wrap ((j:Int) - 1)=((j - 1:Nat):Int):=by rw[wrap_i64 (by omega) (by omega)];omega
      have hjp:l[j - 1]? =some (l.getD (j - 1) zeroV):=by rw[List.getD,List.getElem?_eq_getElem (by omega)];rfl
      have wf1:=hw _ (List.mem_of_getElem? hjp)
      have wf2:=hw _ (List.mem_of_getElem? hjv)
      have p1:=fun cf base=>((hsr.fw (fX [.cells (some 31) [(l.getD j zeroV).enc]]))).o_ias (cf:=cf) (base:=base) (k:= .i64) (i:=j - 1) (by simp;omega)
      generalize hv1:l.getD (j - 1) zeroV=v1 at hjp wf1
      generalize hv2:l.getD j zeroV=v2 at *
      obtain ⟨a1,a2,a3,a4,a5,a6,a7,a8,a9⟩:=v1
      obtain ⟨c1,c2,c3,c4,c5,c6,c7,c8,c9⟩:=v2
      have sX:=hsr.fw (fX [.cells (some 31) [Vault.enc ⟨c1,c2,c3,c4,c5,c6,c7,c8,c9⟩]])
      have hm1:(l.map Vault.enc)[j - 1]? =some (.st 31 [.arr 27 (a1.map byteV),.s (.int .u64 a2),.arr 25 (a3.map byteV),.imm false none (a4.map byteV),.s (.int .i64 a5),.s (.int .i64 a6),.arr 25 (a7.map byteV),.s (.bool a8),.s (.bool a9)]):=by rw[List.getElem?_map,hjp];rfl
      have p2:=fun cf base=> sX.o_fa (cf:=cf) (base:=base) hm1 (f:=0) (by simp)
      have p3:=fun cf base=> sX.o_slf (cf:=cf) (base:=base) (g':=none) hm1 (f:=0) rfl
      have p4:=SR_el_slf sX (g':=none) hm1 (f:=0) rfl
      have l2:(c1.map byteV).length=4:=by simpa using wf2.iD
      simp only[e10,e9,e8,e0,cj,i1,i2,enc_tyV,enc_soV,hr,w3,hle,c0,w4,p1,p2,p3,go_sem,↓reduceIte,Nat.reduceEqDiff,Nat.reduceBEq,Nat.reduceAdd,Nat.reduceSub,Nat.reduceLT,Nat.reduceLeDiff,Int.reduceLT,Int.reduceLE,Int.reduceEq,Int.reduceToNat]
      simp only[Vault.enc,List.length_map] at p4 ⊢
      simp only[Cmp_run,cmpF_R,p4,elems_refR,l2,elR_some,List.take_of_length_le (Nat.le_of_eq l2),cmpR_bytes,go_sem,↓reduceIte,Nat.reduceEqDiff,Nat.reduceBEq,Nat.reduceAdd,Nat.reduceSub,Nat.reduceLT,Nat.reduceLeDiff,Int.reduceLT,Int.reduceLE,Int.reduceEq,Int.reduceToNat]
      by_cases cc:Lib.compareBytes a1 c1 < 0
      ·have cc':¬(0:Int)≤Lib.compareBytes a1 c1:=by omega
       simp only[cc',w3,e10,e9,e8,e0,go_sem,↓reduceIte,Nat.reduceEqDiff,Nat.reduceBEq,Nat.reduceAdd,Nat.reduceSub,Nat.reduceLT,Nat.reduceLeDiff,Int.reduceLT,Int.reduceLE,Int.reduceEq,Int.reduceToNat]
       refine ⟨l.length - (j+1),by omega,j+1,rfl,by omega,rfl,fX _,fun i hi=> ?_⟩
       by_cases hij:i=j
       ·subst hij
        unfold riseAt
        rw[hv1,hv2,hrv]
        simp[cc]
       ·exact hall i (by omega)
      ·have cc':(0:Int)≤Lib.compareBytes a1 c1:=by omega
       have hno:riseAt l j=false:=by
         unfold riseAt
         rw[hv1,hv2,hrv]
         simp[cc,j0]
       rw[rising_no cd hno]
       simp only[cc',tk,go_sem,↓reduceIte,Nat.reduceEqDiff,Nat.reduceBEq,Nat.reduceAdd,Nat.reduceSub,Nat.reduceLT,Nat.reduceLeDiff,Int.reduceLT,Int.reduceLE,Int.reduceEq,Int.reduceToNat]
  ·have cj:¬(j:Int)<((l.length:Nat):Int):=by omega
   have hjl:j=l.length:=by omega
   subst hjl
   simp only[e10,e9,e8,e0,cj,go_sem,↓reduceIte,Nat.reduceEqDiff,Nat.reduceBEq,Nat.reduceAdd,Nat.reduceSub,Nat.reduceLT,Nat.reduceLeDiff,Int.reduceLT,Int.reduceLE,Int.reduceEq,Int.reduceToNat]
   refine ⟨fw,?_⟩
   unfold risingB
   rw[decide_eq_true c4,Bool.true_and,List.all_eq_true]
   exact fun i hi=> hall i (List.mem_range.1 hi)
 ·rintro e H ⟨fw,hf⟩
  rw[hf]
  have htk:=fw.take
  simp only[htk,go_sem,↓reduceIte,Nat.reduceEqDiff,Nat.reduceBEq,Nat.reduceAdd,Nat.reduceSub,Nat.reduceLT,Nat.reduceLeDiff,Int.reduceLT,Int.reduceLE,Int.reduceEq,Int.reduceToNat]
def epochB (r:Record):Bool:=decide (1≤r.epoch)&& decide (r.epoch≤1099511627776)&& decide (0≤r.shard)&& decide (r.shard < 16)&& decide (r.vault=zeroV)
def rightR (r:Record):Bool:=
 if r.kind=1 then rightV r.vault && decide (r.shard=0)&& decide (r.to_=0)&& decide (r.epoch=0)&& decide (r.vaults.length=0)
 else if r.kind=2 then epochB r && decide (0≤r.to_)&& decide (r.to_ < 8)&& decide (r.vaults.length=0)
 else if r.kind=3 then epochB r && decide (r.to_=0)&& risingB r.vaults
 else if r.kind=4 then epochB r && decide (r.to_=0)&& decide (r.vaults.length=0) else false
theorem RightRecordX_ok (b:Nat) (h:Hp) (f:Bool) (x:V) (r:Record) (hsr:SR h x (some 31) (r.vaults.map Vault.enc)) (hw:∀v∈r.vaults,v.wf):run fns pr b 52 [.st 41 [.s (.int .i64 r.kind),.s (.int .i64 r.shard),.s (.int .i64 r.to_),.s (.int .u64 r.epoch),r.vault.encF f,x]] h=some (.s (.bool (rightR r)),h):=by
 refine Vm.runP (nt:=101) rfl fit52 (by simp) ?_
 obtain ⟨kind,shard,to_,epoch,vault,vaults⟩:=r
 simp only at hsr hw ⊢
 have h1:=fun h0=> none_ok h.length h0 f vault
 have h2:=fun h0=> RightVaultF_ok h.length h0 f vault
 have h3:∀B,run fns pr h.length 84 [x] (h++[B])=some (.s (.bool (risingB vaults)),h++[B]):=fun B=> rising_ok h.length _ x vaults (hsr.fw (Fw.app [] h _)) hw
 have hlx:∀cf base H,opV cf base H .len [x]=some (.s (.int .i64 (vaults.length:Nat)),H):=fun cf base H=> by rw[hsr.o_len];simp
 have hl0:(((vaults.length:Nat):Int)=0)=(vaults.length=0):=propext (by omega)
 have hty:x.ty=none:=by rcases hsr with ⟨f,rfl⟩ | ⟨_,_,_,_,rfl,_⟩<;> rfl
 have hso:x.solid=true:=by rcases hsr with ⟨f,rfl⟩ | ⟨_,_,_,_,rfl,_⟩<;> rfl
 have hvb:(0:Nat)=0:=rfl
 try simp only[B52,h1,h2,h3,hlx,hl0,encF_tyV,encF_soV,hty,hso,go_sem,↓reduceIte,Nat.reduceEqDiff,Nat.reduceBEq,Nat.reduceAdd,Nat.reduceSub,Nat.reduceLT,Nat.reduceLeDiff,Int.reduceLT,Int.reduceLE,Int.reduceEq,Int.reduceToNat]
 repeat' (
   first | refine q5z ?_ ?_ | refine q3z ?_ ?_ | refine q4z ?_ ?_
   all_goals intro hvc
   all_goals first | replace hvc:=q2z hvc | replace hvc:=q1z hvc | skip
   all_goals first | subst hvc | replace hvb:=And.intro hvc hvb
   all_goals try simp only[hvb,B52,h1,h2,h3,hlx,hl0,encF_tyV,encF_soV,hty,hso,go_sem,↓reduceIte,Nat.reduceEqDiff,Nat.reduceBEq,Nat.reduceAdd,Nat.reduceSub,Nat.reduceLT,Nat.reduceLeDiff,Int.reduceLT,Int.reduceLE,Int.reduceEq,Int.reduceToNat])
 all_goals clear h1 h2 h3 hlx
 all_goals try simp only[decide_eq_true_eq,decide_eq_false_iff_not] at *
 all_goals first
   | (simp_all [rightR,epochB, -Int.not_le, -Int.not_lt, -Nat.not_le, -Nat.not_lt,Bool.beq_eq_decide_eq];done)
   | (simp_all [rightR,epochB, -Int.not_le, -Int.not_lt, -Nat.not_le, -Nat.not_lt,Bool.beq_eq_decide_eq];omega)
   | (simp_all [rightR,epochB,Bool.beq_eq_decide_eq];done)
   | (simp_all [rightR,epochB,Bool.beq_eq_decide_eq];omega)
   | skip
theorem RightRecord_ok (b:Nat) (h:Hp) (r:Record) (hw:∀v∈r.vaults,v.wf):run fns pr b 52 [r.enc] h=some (.s (.bool (rightR r)),h):=by
 have:=RightRecordX_ok b h false (.imm false (some 31) (r.vaults.map Vault.enc)) r (.inl ⟨false,rfl⟩) hw
 rw[←Vault.enc_F] at this
 exact this
def recB (r:Record):Bs:=
 if r.kind=1 then bt r.kind::vaultB r.vault
 else if r.kind=2 then bt r.kind::bt r.shard::bt r.to_::numB r.epoch.toNat
 else if r.kind=3 then bt r.kind::bt r.shard::(numB r.epoch.toNat++(bt r.vaults.length::r.vaults.flatMap vaultB))
 else bt r.kind::bt r.shard::numB r.epoch.toNat
structure Rok (r:Record):Prop where
 k:r.kind=1∨r.kind=2∨r.kind=3∨r.kind=4
theorem q33z {r:Record} (h:rightR r=true):r.kind=1∨r.kind=2∨r.kind=3∨r.kind=4:=by
 unfold rightR at h
 split at h; · left;assumption
 split at h; · right;left;assumption
 split at h; · right;right;left;assumption
 split at h; · right;right;right;assumption
 cases h
theorem Record_ok (b:Nat) (h:Hp) (r:Record) (hw:r.wf) (hwv:∀v∈r.vaults,v.wf):run fns pr b 56 [r.enc] h=some (if rightR r=true then .tup [.imm false none ((recB r).map byteV),.s (.int .i64 0)] else .tup [.imm false none [],.s (.int .i64 1)],h):=by
 refine Vm.runP (nt:=79) rfl fit56 (by simp) ?_
 have hrr:=fun h0=> RightRecord_ok h.length h0 r hwv
 have hty:r.enc.ty=some 41:=rfl
 have hso:r.enc.solid=true:=rfl
 cases c:rightR r with
 | false=>
   rw[c] at hrr
   simp only[B56,B56L1,hrr,hty,hso,go_sem,↓reduceIte,Nat.reduceEqDiff,Nat.reduceBEq,Nat.reduceAdd,Nat.reduceSub,Nat.reduceLT,Nat.reduceLeDiff,Int.reduceLT,Int.reduceLE,Int.reduceEq,Int.reduceToNat]
 | true=>
   rw[c] at hrr
   have hk:=q33z c
   simp only[B56,B56L1,hrr,hty,hso,go_sem,↓reduceIte,Nat.reduceEqDiff,Nat.reduceBEq,Nat.reduceAdd,Nat.reduceSub,Nat.reduceLT,Nat.reduceLeDiff,Int.reduceLT,Int.reduceLE,Int.reduceEq,Int.reduceToNat]
   obtain ⟨kind,shard,to_,epoch,vault,vaults⟩:=r
   obtain ⟨w1,w2,w3,w4,w5⟩:=hw
   simp only at hk w4 w5 hwv
   obtain ⟨ep,rfl⟩:∃g:Nat,epoch=(g:Int):=⟨epoch.toNat,by omega⟩
   have N0:∀(A:Blk) (x:UInt8) (X:Hp),New h (h++A:: .cells none [byteV x]::X) (.ref (h.length+1) [] none 0 1 1) [x]:=fun A x X=>⟨h.length+1,.inr ⟨rfl,by rw[List.getElem?_append_right (by omega)];simp⟩,by omega,Fw.app [] h _⟩
   have bl:∀(x:UInt8),(none:Option Nat)=(byteV x).ty∧(byteV x).solid=true:=fun x=>⟨rfl,rfl⟩
   rcases hk with rfl | rfl | rfl | rfl
   ·have c1:rightV vault=true:=by
      simp only[rightR,if_true,Bool.and_eq_true] at c
      exact c.1.1.1.1
    have hp:=fun h0=> putVault_ok h.length h0 false vault w5 (by have:=q14z c1;omega)
    rw[←Vault.enc_F] at hp
    obtain ⟨v1,H1,a1,N1⟩:=(N0 (.cells (some 41) [.st 41 [.s (.int .i64 1),.s (.int .i64 shard),.s (.int .i64 to_),.s (.int .u64 (ep:Int)),vault.enc,.imm false (some 31) (vaults.map fun z=> z.enc)]]) (bt 1) []).app (y:= .imm false none ((vaultB vault).map byteV)) (m:=vaultB vault) rfl (by simp[vaultB];have:=q14z c1;have:=w5.iD;have:=w5.pin;have:=w5.owner;omega)
    have hfz:=N1.frz (n:=h.length) (Nat.le_refl _)
    have htk:=N1.fw.take
    simp only[Record.enc,bt_v,enc_tyV,enc_soV,hp,a1,hfz,htk,recB,go_sem,↓reduceIte,Nat.reduceEqDiff,Nat.reduceBEq,Nat.reduceAdd,Nat.reduceSub,Nat.reduceLT,Nat.reduceLeDiff,Int.reduceLT,Int.reduceLE,Int.reduceEq,Int.reduceToNat]
   ·-- out
    have hA:∀X,(h++(.cells (some 41) [.st 41 [.s (.int .i64 2),.s (.int .i64 shard),.s (.int .i64 to_),.s (.int .u64 (ep:Int)),vault.enc,.imm false (some 31) (vaults.map fun z=> z.enc)]])::X)[h.length]? =some (.cells (some 41) [.st 41 [.s (.int .i64 2),.s (.int .i64 shard),.s (.int .i64 to_),.s (.int .u64 (ep:Int)),vault.enc,.imm false (some 31) (vaults.map fun z=> z.enc)]]):=fun X=> by simp
    have f1:Fw [] (h++[(.cells (some 41) [.st 41 [.s (.int .i64 2),.s (.int .i64 shard),.s (.int .i64 to_),.s (.int .u64 (ep:Int)),vault.enc,.imm false (some 31) (vaults.map fun z=> z.enc)]])]) (h++(.cells (some 41) [.st 41 [.s (.int .i64 2),.s (.int .i64 shard),.s (.int .i64 to_),.s (.int .u64 (ep:Int)),vault.enc,.imm false (some 31) (vaults.map fun z=> z.enc)]]):: .cells none [byteV (bt 2)]::[.cells none [byteV (bt shard),byteV (bt to_)]]):=by
      have:=Fw.app [] (h++[(.cells (some 41) [.st 41 [.s (.int .i64 2),.s (.int .i64 shard),.s (.int .i64 to_),.s (.int .u64 (ep:Int)),vault.enc,.imm false (some 31) (vaults.map fun z=> z.enc)]])]) [.cells none [byteV (bt 2)],.cells none [byteV (bt shard),byteV (bt to_)]]
      simpa using this
    have M0:New (h++[(.cells (some 41) [.st 41 [.s (.int .i64 2),.s (.int .i64 shard),.s (.int .i64 to_),.s (.int .u64 (ep:Int)),vault.enc,.imm false (some 31) (vaults.map fun z=> z.enc)]])]) (h++(.cells (some 41) [.st 41 [.s (.int .i64 2),.s (.int .i64 shard),.s (.int .i64 to_),.s (.int .u64 (ep:Int)),vault.enc,.imm false (some 31) (vaults.map fun z=> z.enc)]]):: .cells none [byteV (bt 2)]::[.cells none [byteV (bt shard),byteV (bt to_)]]) (.ref (h.length+1) [] none 0 1 1) [bt 2]:=⟨h.length+1,.inr ⟨rfl,by rw[List.getElem?_append_right (by omega)];simp⟩,by simp,f1⟩
    obtain ⟨v1,H1,a1,N1⟩:=M0.app (y:= .ref (h.length+2) [] none 0 2 2) (m:=[bt shard,bt to_]) (BR.src (BR_ref (l:=[bt shard,bt to_]) (by rw[List.getElem?_append_right (by omega)];simp) rfl)) (by simp)
    have hl1:h.length≤H1.length:=by have:=N1.fw.len;simp at this;omega
    have n1:=Number_ok h.length H1 ep (by omega) hl1
    have g1:H1[h.length]? =some (.cells (some 41) [.st 41 [.s (.int .i64 2),.s (.int .i64 shard),.s (.int .i64 to_),.s (.int .u64 (ep:Int)),vault.enc,.imm false (some 31) (vaults.map fun z=> z.enc)]]):=N1.fw.old _ _ (by simp) (by simp)
    have g2:∀X,(H1++X)[h.length]? =some (.cells (some 41) [.st 41 [.s (.int .i64 2),.s (.int .i64 shard),.s (.int .i64 to_),.s (.int .u64 (ep:Int)),vault.enc,.imm false (some 31) (vaults.map fun z=> z.enc)]]):=fun X=> q10z g1 X
    obtain ⟨v2,H2,a2,N2⟩:=(N1.mono (Fw.app [] H1 [.cells none ((numB ep).map byteV)])).app (y:= .ref H1.length [] none 0 8 8) (m:=numB ep) (BR.src (BR_ref (by simp) (numB_len _))) (by simp)
    have f0:Fw [] h (h++[(.cells (some 41) [.st 41 [.s (.int .i64 2),.s (.int .i64 shard),.s (.int .i64 to_),.s (.int .u64 (ep:Int)),vault.enc,.imm false (some 31) (vaults.map fun z=> z.enc)]])]):=Fw.app [] h _
    have hfz:=N2.frz (n:=h.length) (by simp)
    have htk:=(f0.trans N2.fw).take
    simp only[Record.enc,bt_v,enc_tyV,enc_soV,bl,a1,n1,g1,g2,a2,hfz,htk,recB,go_sem,↓reduceIte,Nat.reduceEqDiff,Nat.reduceBEq,Nat.reduceAdd,Nat.reduceSub,Nat.reduceLT,Nat.reduceLeDiff,Int.reduceLT,Int.reduceLE,Int.reduceEq,Int.reduceToNat]
   ·-- in
    have cr:risingB vaults=true:=by
      simp[rightR] at c
      exact c.2
    have hlen4:vaults.length≤4:=by
      simp[risingB] at cr
      exact cr.1
    have f0:Fw [] h (h++[(.cells (some 41) [.st 41 [.s (.int .i64 3),.s (.int .i64 shard),.s (.int .i64 to_),.s (.int .u64 (ep:Int)),vault.enc,.imm false (some 31) (vaults.map fun z=> z.enc)]])]):=Fw.app [] h _
    have M0:New (h++[(.cells (some 41) [.st 41 [.s (.int .i64 3),.s (.int .i64 shard),.s (.int .i64 to_),.s (.int .u64 (ep:Int)),vault.enc,.imm false (some 31) (vaults.map fun z=> z.enc)]])]) (h++[(.cells (some 41) [.st 41 [.s (.int .i64 3),.s (.int .i64 shard),.s (.int .i64 to_),.s (.int .u64 (ep:Int)),vault.enc,.imm false (some 31) (vaults.map fun z=> z.enc)]]),.cells none [byteV (bt 3)]]) (.ref (h.length+1) [] none 0 1 1) [bt 3]:=⟨h.length+1,.inr ⟨rfl,by rw[List.getElem?_append_right (by omega)];simp⟩,by simp,by
      have:=Fw.app [] (h++[(.cells (some 41) [.st 41 [.s (.int .i64 3),.s (.int .i64 shard),.s (.int .i64 to_),.s (.int .u64 (ep:Int)),vault.enc,.imm false (some 31) (vaults.map fun z=> z.enc)]])]) [.cells none [byteV (bt 3)]]
      simpa using this⟩
    obtain ⟨v1,H1,a1,N1⟩:=M0.app (y:= .imm true none [byteV (bt shard)]) (m:=[bt shard]) rfl (by simp)
    have hl1:h.length≤H1.length:=by have:=N1.fw.len;simp at this;omega
    have n1:=Number_ok h.length H1 ep (by omega) hl1
    have g1:H1[h.length]? =some (.cells (some 41) [.st 41 [.s (.int .i64 3),.s (.int .i64 shard),.s (.int .i64 to_),.s (.int .u64 (ep:Int)),vault.enc,.imm false (some 31) (vaults.map fun z=> z.enc)]]):=N1.fw.old _ _ (by simp) (by simp)
    have g2:∀X,(H1++X)[h.length]? =some (.cells (some 41) [.st 41 [.s (.int .i64 3),.s (.int .i64 shard),.s (.int .i64 to_),.s (.int .u64 (ep:Int)),vault.enc,.imm false (some 31) (vaults.map fun z=> z.enc)]]):=fun X=> q10z g1 X
    obtain ⟨v2,H2,a2,N2⟩:=(N1.mono (Fw.app [] H1 [.cells none ((numB ep).map byteV)])).app (y:= .ref H1.length [] none 0 8 8) (m:=numB ep) (BR.src (BR_ref (by simp) (numB_len _))) (by simp)
    have g3:H2[h.length]? =some (.cells (some 41) [.st 41 [.s (.int .i64 3),.s (.int .i64 shard),.s (.int .i64 to_),.s (.int .u64 (ep:Int)),vault.enc,.imm false (some 31) (vaults.map fun z=> z.enc)]]):=N2.fw.old _ _ (by simp) (by simp)
    obtain ⟨v3,H3,a3,N3⟩:=N2.app (y:= .imm true none [byteV (bt vaults.length)]) (m:=[bt vaults.length]) rfl (by simp)
    have g4:H3[h.length]? =some (.cells (some 41) [.st 41 [.s (.int .i64 3),.s (.int .i64 shard),.s (.int .i64 to_),.s (.int .u64 (ep:Int)),vault.enc,.imm false (some 31) (vaults.map fun z=> z.enc)]]):=N3.fw.old _ _ (by simp) (by simp)
    have hlx:∀cf base H,opV cf base H .len [.imm false (some 31) (vaults.map fun z=> z.enc)]=some (.s (.int .i64 (vaults.length:Nat)),H):=fun cf base H=> by rw[o_lenI];simp
    simp only[Record.enc,bt_v,enc_tyV,enc_soV,bl,a1,n1,g1,g2,a2,g3,a3,g4,hlx,go_sem,↓reduceIte,Nat.reduceEqDiff,Nat.reduceBEq,Nat.reduceAdd,Nat.reduceSub,Nat.reduceLT,Nat.reduceLeDiff,Int.reduceLT,Int.reduceLE,Int.reduceEq,Int.reduceToNat]
    have hsr:SR h (.imm false (some 31) (vaults.map fun z=> z.enc)) (some 31) (vaults.map fun z=> z.enc):= .inl ⟨false,rfl⟩
    have hvl:∀v∈vaults,(vaultB v).length≤200:=fun v hv=> by
      have hrv:rightV v=true:=by
        obtain ⟨i,hi,rfl⟩:=List.mem_iff_getElem.1 hv
        have:=(Bool.and_eq_true_iff.1 cr).2
        rw[List.all_eq_true] at this
        have:=this i (List.mem_range.2 hi)
        unfold riseAt at this
        rw[List.getD,List.getElem?_eq_getElem hi] at this
        exact (Bool.and_eq_true_iff.1 this).1
      have h1:=q14z hrv
      obtain ⟨w1,w2,w3,w4,w5,w6,w7,w8,w9⟩:=hwv v hv
      simp[vaultB];omega
    have hfl:∀j,j≤vaults.length→((vaults.take j).flatMap vaultB).length≤200 * j:=fun j=> by
      induction j with
      | zero=> intro _;simp
      | succ j ih=>
        intro hj
        rw[List.take_succ_eq_append_getElem (by omega),List.flatMap_append,List.length_append]
        have:=ih (by omega)
        have:=hvl vaults[j] (List.getElem_mem _)
        simp only[List.flatMap_cons,List.flatMap_nil,List.append_nil];omega
    generalize hb0:[bt 3]++[bt shard]++numB ep++[bt vaults.length]=base0 at N3
    have hb0l:base0.length=11:=by rw[←hb0];simp
    refine wp_for (fun q e H=>∃j v,q=vaults.length - j∧j≤vaults.length∧e 69= .s (.int .i64 (j:Nat))∧e 68= .s (.int .i64 (vaults.length:Nat))∧e 67= .imm false (some 31) (vaults.map fun z=> z.enc)∧e 4=v∧New (h++[(.cells (some 41) [.st 41 [.s (.int .i64 3),.s (.int .i64 shard),.s (.int .i64 to_),.s (.int .u64 (ep:Int)),vault.enc,.imm false (some 31) (vaults.map fun z=> z.enc)]])]) H v (base0++(vaults.take j).flatMap vaultB))
      (fun e H=>∃v,e 4=v∧New (h++[(.cells (some 41) [.st 41 [.s (.int .i64 3),.s (.int .i64 shard),.s (.int .i64 to_),.s (.int .u64 (ep:Int)),vault.enc,.imm false (some 31) (vaults.map fun z=> z.enc)]])]) H v (base0++vaults.flatMap vaultB)) vaults.length _ _ ⟨0,v3,rfl,by omega,rfl,rfl,rfl,rfl,by simpa using N3⟩ ?_ ?_
    ·rintro q e H ⟨j,v,rfl,hj,e69,e68,e67,e4,N⟩
     by_cases cd:j < vaults.length
     ·have cj:(j:Int)<((vaults.length:Nat):Int):=by omega
      have hjv:vaults[j]? =some vaults[j]:=List.getElem?_eq_getElem cd
      have fh:=f0.trans N.fw
      have i1:=fun cf base=>(hsr.fw fh).o_ias (cf:=cf) (base:=base) (k:= .i64) (i:=j) (by simpa using cd)
      have i2:=fun cf base=>(hsr.fw fh).o_ld (cf:=cf) (base:=base) (i:=j) (v:=vaults[j].enc) (by rw[List.getElem?_map,hjv];rfl) rfl
      have hle:=fh.len
      have hm:=hwv _ (List.getElem_mem cd)
      have hvb:=hvl _ (List.getElem_mem cd)
      have hp:=fun h0=> putVault_ok h.length h0 false vaults[j] hm (by simp[vaultB] at hvb;omega)
      rw[←Vault.enc_F] at hp
      have hfj:=hfl j hj
      obtain ⟨v5,H5,a5,N5⟩:=(N.mono (Fw.app [] H [.cells (some 31) [vaults[j].enc]])).app (y:= .imm false none ((vaultB vaults[j]).map byteV)) (m:=vaultB vaults[j]) rfl (by simp only[List.length_append];omega)
      have hnx:base0++(vaults.take j).flatMap vaultB++vaultB vaults[j]=base0++(vaults.take (j+1)).flatMap vaultB:=by
        rw[List.take_succ_eq_append_getElem cd,List.flatMap_append];simp
      rw[hnx] at N5
      have w3:IntKind.i64.wrap ((j:Int)+1)=((j+1:Nat):Int):=q17z (by omega)
      simp only[e69,e68,e67,e4,cj,i1,i2,hle,enc_tyV,enc_soV,hp,a5,w3,go_sem,↓reduceIte,Nat.reduceEqDiff,Nat.reduceBEq,Nat.reduceAdd,Nat.reduceSub,Nat.reduceLT,Nat.reduceLeDiff,Int.reduceLT,Int.reduceLE,Int.reduceEq,Int.reduceToNat]
      exact ⟨vaults.length - (j+1),by omega,j+1,v5,rfl,by omega,rfl,rfl,N5⟩
     ·have cj:¬(j:Int)<((vaults.length:Nat):Int):=by omega
      have hjl:j=vaults.length:=by omega
      subst hjl
      rw[List.take_of_length_le (Nat.le_refl _)] at N
      simp only[e69,e68,e67,e4,cj,go_sem,↓reduceIte,Nat.reduceEqDiff,Nat.reduceBEq,Nat.reduceAdd,Nat.reduceSub,Nat.reduceLT,Nat.reduceLeDiff,Int.reduceLT,Int.reduceLE,Int.reduceEq,Int.reduceToNat]
      exact ⟨v,rfl,N⟩
    ·rintro e H ⟨v,e4,N⟩
     have hfz:=N.frz (n:=h.length) (by simp)
     have htk:=(f0.trans N.fw).take
     rw[←hb0] at hfz
     simp only[e4,hfz,htk,recB,go_sem,↓reduceIte,Nat.reduceEqDiff,Nat.reduceBEq,Nat.reduceAdd,Nat.reduceSub,Nat.reduceLT,Nat.reduceLeDiff,Int.reduceLT,Int.reduceLE,Int.reduceEq,Int.reduceToNat]
   ·-- done
    have hA:∀X,(h++(.cells (some 41) [.st 41 [.s (.int .i64 4),.s (.int .i64 shard),.s (.int .i64 to_),.s (.int .u64 (ep:Int)),vault.enc,.imm false (some 31) (vaults.map fun z=> z.enc)]])::X)[h.length]? =some (.cells (some 41) [.st 41 [.s (.int .i64 4),.s (.int .i64 shard),.s (.int .i64 to_),.s (.int .u64 (ep:Int)),vault.enc,.imm false (some 31) (vaults.map fun z=> z.enc)]]):=fun X=> by simp
    have f1:Fw [] (h++[(.cells (some 41) [.st 41 [.s (.int .i64 4),.s (.int .i64 shard),.s (.int .i64 to_),.s (.int .u64 (ep:Int)),vault.enc,.imm false (some 31) (vaults.map fun z=> z.enc)]])]) (h++(.cells (some 41) [.st 41 [.s (.int .i64 4),.s (.int .i64 shard),.s (.int .i64 to_),.s (.int .u64 (ep:Int)),vault.enc,.imm false (some 31) (vaults.map fun z=> z.enc)]]):: .cells none [byteV (bt 4)]::[.cells none [byteV (bt shard)]]):=by
      have:=Fw.app [] (h++[(.cells (some 41) [.st 41 [.s (.int .i64 4),.s (.int .i64 shard),.s (.int .i64 to_),.s (.int .u64 (ep:Int)),vault.enc,.imm false (some 31) (vaults.map fun z=> z.enc)]])]) [.cells none [byteV (bt 4)],.cells none [byteV (bt shard)]]
      simpa using this
    have M0:New (h++[(.cells (some 41) [.st 41 [.s (.int .i64 4),.s (.int .i64 shard),.s (.int .i64 to_),.s (.int .u64 (ep:Int)),vault.enc,.imm false (some 31) (vaults.map fun z=> z.enc)]])]) (h++(.cells (some 41) [.st 41 [.s (.int .i64 4),.s (.int .i64 shard),.s (.int .i64 to_),.s (.int .u64 (ep:Int)),vault.enc,.imm false (some 31) (vaults.map fun z=> z.enc)]]):: .cells none [byteV (bt 4)]::[.cells none [byteV (bt shard)]]) (.ref (h.length+1) [] none 0 1 1) [bt 4]:=⟨h.length+1,.inr ⟨rfl,by rw[List.getElem?_append_right (by omega)];simp⟩,by simp,f1⟩
    obtain ⟨v1,H1,a1,N1⟩:=M0.app (y:= .ref (h.length+2) [] none 0 1 1) (m:=[bt shard]) (BR.src (BR_ref (l:=[bt shard]) (by rw[List.getElem?_append_right (by omega)];simp) rfl)) (by simp)
    have hl1:h.length≤H1.length:=by have:=N1.fw.len;simp at this;omega
    have n1:=Number_ok h.length H1 ep (by omega) hl1
    have g1:H1[h.length]? =some (.cells (some 41) [.st 41 [.s (.int .i64 4),.s (.int .i64 shard),.s (.int .i64 to_),.s (.int .u64 (ep:Int)),vault.enc,.imm false (some 31) (vaults.map fun z=> z.enc)]]):=N1.fw.old _ _ (by simp) (by simp)
    have g2:∀X,(H1++X)[h.length]? =some (.cells (some 41) [.st 41 [.s (.int .i64 4),.s (.int .i64 shard),.s (.int .i64 to_),.s (.int .u64 (ep:Int)),vault.enc,.imm false (some 31) (vaults.map fun z=> z.enc)]]):=fun X=> q10z g1 X
    obtain ⟨v2,H2,a2,N2⟩:=(N1.mono (Fw.app [] H1 [.cells none ((numB ep).map byteV)])).app (y:= .ref H1.length [] none 0 8 8) (m:=numB ep) (BR.src (BR_ref (by simp) (numB_len _))) (by simp)
    have f0:Fw [] h (h++[(.cells (some 41) [.st 41 [.s (.int .i64 4),.s (.int .i64 shard),.s (.int .i64 to_),.s (.int .u64 (ep:Int)),vault.enc,.imm false (some 31) (vaults.map fun z=> z.enc)]])]):=Fw.app [] h _
    have hfz:=N2.frz (n:=h.length) (by simp)
    have htk:=(f0.trans N2.fw).take
    simp only[Record.enc,bt_v,enc_tyV,enc_soV,bl,a1,n1,g1,g2,a2,hfz,htk,recB,go_sem,↓reduceIte,Nat.reduceEqDiff,Nat.reduceBEq,Nat.reduceAdd,Nat.reduceSub,Nat.reduceLT,Nat.reduceLeDiff,Int.reduceLT,Int.reduceLE,Int.reduceEq,Int.reduceToNat]
def rdr (f:Bool) (l:Bs) (bad:Bool):Blk:= .cells (some 191) [.st 191 [.imm f none (l.map byteV),.s (.bool bad)]]
theorem imm_hi (cf:CF) (base:Nat) (h:Hp) (f:Bool) (l:Bs) (k:IntKind) (n:Nat) (hn:n≤l.length):opV cf base h (.slc none false true false) [.imm f none (l.map byteV),.s (.int k n)]=some (.imm (f && n==l.length) none ((l.take n).map byteV),h):=by
 simp[opV,opSlc,lenV,splitBounds,natOf,sliceV,hn,List.map_take]
theorem imm_lo (cf:CF) (base:Nat) (h:Hp) (f:Bool) (l:Bs) (k:IntKind) (n:Nat) (hn:n≤l.length):opV cf base h (.slc none true false false) [.imm f none (l.map byteV),.s (.int k n)]=some (.imm f none ((l.drop n).map byteV),h):=by
 have:(List.drop n (List.map byteV l)).take (l.length - n)=(l.drop n).map byteV:=by
   rw[←List.map_drop,List.take_of_length_le (by simp)]
 simp[opV,opSlc,lenV,splitBounds,natOf,sliceV,hn,this]
def takeS (n:Nat) (s:Bs×Bool):Bs×(Bs×Bool):=if n≤s.1.length then (s.1.take n,(s.1.drop n,s.2)) else (List.replicate n 0,([],true))
theorem q20z (n:Nat) (s:Bs×Bool):(takeS n s).1.length=n:=by
 unfold takeS
 split
 ·simp;omega
 ·simp
theorem zeros_map (n:Nat):List.replicate n (V.s (.int .u8 0))=(List.replicate n (0:UInt8)).map byteV:=by rw[List.map_replicate];rfl
theorem gr_imm (f:Bool) (g:Option Nat):∀l:Bs,(V.imm f g (l.map byteV)).ground=true
 | []=> rfl
 | b::l=> by
   have:=gr_imm f g l
   simp only[V.ground] at this ⊢
   simp only[List.map_cons,V.ground.all,this];rfl
theorem gr_nil (f:Bool) (g:Option Nat):(V.imm f g []).ground=true:=rfl
theorem gr_s (x:Value):(V.s x).ground=true:=rfl
theorem take_ok (id n:Nat) (f bad:Bool) (l:Bs) (hn:n≤100000):
 ∃f',∀(b:Nat) (h:Hp) (hg:h[id]? =some (rdr f l bad)),run fns pr b 132 [.ptr id [0] 1,.s (.int .i64 n)] h=some (.imm false none ((takeS n (l,bad)).1.map byteV),h.set id (rdr f' (takeS n (l,bad)).2.1 (takeS n (l,bad)).2.2)):=by
 unfold takeS
 by_cases c:n≤l.length
 ·rw[if_pos c]
  refine ⟨f,fun b h hg=> ?_⟩
  have tk:∀b',(h.set id b').take h.length=h.set id b':=fun b'=> List.take_of_length_le (by simp)
  refine Vm.runP (nt:=37) rfl fit132 (by simp) ?_
  have c':¬((l.length:Nat):Int)<(n:Int):=by omega
  simp only[B132,hg,rdr,c',imm_hi _ _ _ _ _ _ _ c,imm_lo _ _ _ _ _ _ _ c,tk,gr_imm,go_sem,↓reduceIte,Nat.reduceEqDiff,Nat.reduceBEq,Nat.reduceAdd,Nat.reduceSub,Nat.reduceLT,Nat.reduceLeDiff,Int.reduceLT,Int.reduceLE,Int.reduceEq,Int.reduceToNat]
 ·rw[if_neg c]
  refine ⟨true,fun b h hg=> ?_⟩
  have tk:∀b',(h.set id b').take h.length=h.set id b':=fun b'=> List.take_of_length_le (by simp)
  refine Vm.runP (nt:=37) rfl fit132 (by simp) ?_
  have c':((l.length:Nat):Int)<(n:Int):=by omega
  have hn0:¬n=0:=by omega
  have m1:(0≤(n:Int)∧(n:Int)≤16777216)=True:=by simp;omega
  have m2:((n:Int)=0)=False:=by simp;omega
  have hz:=zeros_map n
  have tk2:∀X Y,(h.set id X++Y).take h.length=h.set id X:=fun X Y=> by rw[List.take_append_of_le_length (by simp),List.take_of_length_le (by simp)]
  have hll:(List.replicate n (0:UInt8)).length=n:=by simp
  have hfw:=frzW_bytes h.length (List.replicate n (0:UInt8))
  rw[hll] at hfw
  simp only[B132,hg,rdr,c',tk,gr_nil,gr_s,q9z hg,m1,m2,hz,hll,hfw,tk2,go_sem,↓reduceIte,Nat.reduceEqDiff,Nat.reduceBEq,Nat.reduceAdd,Nat.reduceSub,Nat.reduceLT,Nat.reduceLeDiff,Int.reduceLT,Int.reduceLE,Int.reduceEq,Int.reduceToNat]
def byte0 (l:Bs):Nat:=(l.getD 0 0).toNat
theorem one_ok (id:Nat) (f bad:Bool) (l:Bs):
 ∃f',∀(b:Nat) (h:Hp) (hg:h[id]? =some (rdr f l bad)),run fns pr b 125 [.ptr id [0] 1] h=some (.s (.int .i64 (byte0 (takeS 1 (l,bad)).1:Nat)),h.set id (rdr f' (takeS 1 (l,bad)).2.1 (takeS 1 (l,bad)).2.2)):=by
 obtain ⟨f',ht0⟩:=take_ok id 1 f bad l (by omega)
 refine ⟨f',fun b h hg=> ?_⟩
 have ht:=ht0 h.length h hg
 refine Vm.runP (nt:=8) rfl fit125 (by simp) ?_
 have hl:=q20z 1 (l,bad)
 generalize (takeS 1 (l,bad)).1=m at ht hl
 match m,hl with
 | [x],_=>
   have tk:∀b',(h.set id b').take h.length=h.set id b':=fun b'=> List.take_of_length_le (by simp)
   have hw:IntKind.i64.wrap (x.toNat:Int)=(x.toNat:Int):=wrap_i64 (by omega) (by have:=x.toNat_lt;omega)
   simp only[B125,show (V.s (.int .i64 1))=V.s (.int .i64 ((1:Nat):Int)) from rfl,ht,List.map_cons,List.map_nil,byteV,hw,tk,byte0,go_sem,↓reduceIte,Nat.reduceEqDiff,Nat.reduceBEq,Nat.reduceAdd,Nat.reduceSub,Nat.reduceLT,Nat.reduceLeDiff,Int.reduceLT,Int.reduceLE,Int.reduceEq,Int.reduceToNat]
theorem s2a_imm (cf:CF) (base:Nat) (h:Hp) (t n:Nat) (g:Option Nat) (f:Bool) (es:List V) (h0:0 < n) (hn:n≤es.length):opV cf base h (.s2a t g n) [.imm f g es]=some (.iptr (.arr t (es.take n)),h):=by
 simp[opV,opS2a,opKil,hn,h0]
theorem rid_ok (id:Nat) (f bad:Bool) (l:Bs):
 ∃f',∀(b:Nat) (h:Hp) (hg:h[id]? =some (rdr f l bad)),run fns pr b 133 [.ptr id [0] 1] h=some (.arr 27 ((takeS 4 (l,bad)).1.map byteV),h.set id (rdr f' (takeS 4 (l,bad)).2.1 (takeS 4 (l,bad)).2.2)):=by
 obtain ⟨f',ht0⟩:=take_ok id 4 f bad l (by omega)
 refine ⟨f',fun b h hg=> ?_⟩
 have hlt:=q6z hg
 generalize hG:h++[.cells (some 27) [z4 27]]=G
 have g0:G[h.length]? =some (.cells (some 27) [z4 27]):=by rw[←hG];simp
 have gi:G[id]? =some (rdr f l bad):=by rw[←hG];exact q10z hg _
 have ht:=ht0 h.length G gi
 refine Vm.runP (nt:=7) rfl fit133 (by simp) ?_
 have hl:=q20z 4 (l,bad)
 generalize (takeS 4 (l,bad)).1=m at ht hl ⊢
 generalize hR:rdr f' (takeS 4 (l,bad)).2.1 (takeS 4 (l,bad)).2.2=R at ht ⊢
 have hm:(m.map byteV).length=4:=by simp[hl]
 have hs:=s2a_imm (run fns pr h.length) h.length (G.set id R) 27 4 none false (m.map byteV) (by omega) (by omega)
 rw[List.take_of_length_le (by omega)] at hs
 have g1:(G.set id R)[h.length]? =some (.cells (some 27) [z4 27]):=by rw[List.getElem?_set_ne (by omega)];exact g0
 have tk:∀X,((G.set id R).set h.length X).take h.length=h.set id R:=fun X=> by
   rw[←hG,List.set_append_left _ _ hlt,List.set_append_right _ _ (by simp)]
   rw[List.take_append_of_le_length (by simp),List.take_of_length_le (by simp)]
 simp only[B133,hG,show (V.s (.int .i64 4))=V.s (.int .i64 ((4:Nat):Int)) from rfl,ht,hs,g1,tk,q9z g1,gr_arr,go_sem,↓reduceIte,Nat.reduceEqDiff,Nat.reduceBEq,Nat.reduceAdd,Nat.reduceSub,Nat.reduceLT,Nat.reduceLeDiff,Int.reduceLT,Int.reduceLE,Int.reduceEq,Int.reduceToNat]
theorem dig_ok (id:Nat) (f bad:Bool) (l:Bs):
 ∃f',∀(b:Nat) (h:Hp) (hg:h[id]? =some (rdr f l bad)),run fns pr b 134 [.ptr id [0] 1] h=some (.arr 25 ((takeS 16 (l,bad)).1.map byteV),h.set id (rdr f' (takeS 16 (l,bad)).2.1 (takeS 16 (l,bad)).2.2)):=by
 obtain ⟨f',ht0⟩:=take_ok id 16 f bad l (by omega)
 refine ⟨f',fun b h hg=> ?_⟩
 have hlt:=q6z hg
 generalize hG:h++[.cells (some 25) [z16 25]]=G
 have g0:G[h.length]? =some (.cells (some 25) [z16 25]):=by rw[←hG];simp
 have gi:G[id]? =some (rdr f l bad):=by rw[←hG];exact q10z hg _
 have ht:=ht0 h.length G gi
 refine Vm.runP (nt:=7) rfl fit134 (by simp) ?_
 have hl:=q20z 16 (l,bad)
 generalize (takeS 16 (l,bad)).1=m at ht hl ⊢
 generalize hR:rdr f' (takeS 16 (l,bad)).2.1 (takeS 16 (l,bad)).2.2=R at ht ⊢
 have hm:(m.map byteV).length=16:=by simp[hl]
 have hs:=s2a_imm (run fns pr h.length) h.length (G.set id R) 25 16 none false (m.map byteV) (by omega) (by omega)
 rw[List.take_of_length_le (by omega)] at hs
 have g1:(G.set id R)[h.length]? =some (.cells (some 25) [z16 25]):=by rw[List.getElem?_set_ne (by omega)];exact g0
 have tk:∀X,((G.set id R).set h.length X).take h.length=h.set id R:=fun X=> by
   rw[←hG,List.set_append_left _ _ hlt,List.set_append_right _ _ (by simp)]
   rw[List.take_append_of_le_length (by simp),List.take_of_length_le (by simp)]
 simp only[B134,hG,show (V.s (.int .i64 16))=V.s (.int .i64 ((16:Nat):Int)) from rfl,ht,hs,g1,tk,q9z g1,gr_arr,go_sem,↓reduceIte,Nat.reduceEqDiff,Nat.reduceBEq,Nat.reduceAdd,Nat.reduceSub,Nat.reduceLT,Nat.reduceLeDiff,Int.reduceLT,Int.reduceLE,Int.reduceEq,Int.reduceToNat]
def beN (l:Bs):Nat:=l.foldl (fun a x=> a * 256+x.toNat) 0
theorem beN_take {m:Bs} {j:Nat} (hj:j < m.length):beN (m.take (j+1))=beN (m.take j)* 256+(m.getD j 0).toNat:=by
 unfold beN
 rw[List.take_add_one,List.foldl_append,List.getD,List.getElem?_eq_getElem hj]
 rfl
theorem beN_lt (m:Bs):∀j,j≤m.length→beN (m.take j)< 256 ^ j
 | 0,_=> by simp[beN]
 | j+1,hj=> by
   rw[beN_take (by omega),Nat.pow_succ]
   have:=beN_lt m j (by omega)
   have:=(m.getD j 0).toNat_lt
   omega
theorem wrap64_nat {n:Nat} (h:n < 18446744073709551616):IntKind.u64.wrap (n:Int)=(n:Int):=wrap_u64 (by omega) (by omega)
theorem shl64 {a:Nat} (h:a * 256 < 18446744073709551616):shlI .u64 (a:Int) 8=((a * 256:Nat):Int):=by
 have e:shlI .u64 (a:Int) 8=IntKind.u64.wrap ((a:Int)* 256):=rfl
 rw[e,wrap_u64 (by omega) (by omega)];omega
theorem or64 {a y:Nat} (h:a * 256+y < 18446744073709551616) (hy:y < 256):orI .u64 ((a * 256:Nat):Int) (y:Int)=((a * 256+y:Nat):Int):=by
 have e:orI .u64 ((a * 256:Nat):Int) (y:Int)=IntKind.u64.wrap (((BitVec.ofInt 64 ((a * 256:Nat):Int) ||| BitVec.ofInt 64 (y:Int)).toNat:Nat):Int):=rfl
 rw[e,ofInt_nat,ofInt_nat,BitVec.toNat_or,BitVec.toNat_ofNat,BitVec.toNat_ofNat,Nat.mod_eq_of_lt (show a * 256 < 2 ^ 64 by omega),Nat.mod_eq_of_lt (show y < 2 ^ 64 by omega),show a * 256=a * 2 ^ 8 from rfl,or_add (k:=8) (by omega)]
 exact wrap64_nat h
theorem num_ok (id:Nat) (f bad:Bool) (l:Bs):
 ∃f',∀(b:Nat) (h:Hp) (hg:h[id]? =some (rdr f l bad)),run fns pr b 127 [.ptr id [0] 1] h=some (.s (.int .u64 (beN (takeS 8 (l,bad)).1:Nat)),h.set id (rdr f' (takeS 8 (l,bad)).2.1 (takeS 8 (l,bad)).2.2)):=by
 obtain ⟨f',ht0⟩:=take_ok id 8 f bad l (by omega)
 refine ⟨f',fun b h hg=> ?_⟩
 have ht:=ht0 h.length h hg
 refine Vm.runP (nt:=20) rfl fit127 (by simp) ?_
 have hl:=q20z 8 (l,bad)
 generalize (takeS 8 (l,bad)).1=m at ht hl ⊢
 generalize hR:h.set id (rdr f' (takeS 8 (l,bad)).2.1 (takeS 8 (l,bad)).2.2)=R at ht ⊢
 have tk:R.take h.length=R:=List.take_of_length_le (by rw[←hR];simp)
 have hm:(m.map byteV).length=8:=by simp[hl]
 have tk2:m.take 8=m:=List.take_of_length_le (by omega)
 have hsr:∀H,SR H (.imm false none (m.map byteV)) none (m.map byteV):=fun H=> .inl ⟨false,rfl⟩
 generalize hx:V.imm false none (m.map byteV)=x at ht hsr
 have hlx:∀cf base h,opV cf base h .len [x]=some (.s (.int .i64 8),h):=fun cf base h=> by rw[(hsr h).o_len];simp[hl]
 simp only[B127,B127R0,B127L0,show (V.s (.int .i64 8))=V.s (.int .i64 ((8:Nat):Int)) from rfl,ht,hlx,go_sem,↓reduceIte,Nat.reduceEqDiff,Nat.reduceBEq,Nat.reduceAdd,Nat.reduceSub,Nat.reduceLT,Nat.reduceLeDiff,Int.reduceLT,Int.reduceLE,Int.reduceEq,Int.reduceToNat]
 refine wp_for (fun q e H=>∃j,q=8 - j∧j≤8∧e 9= .s (.int .i64 (j:Nat))∧e 8= .s (.int .i64 8)∧e 7=x∧e 3= .s (.int .u64 (beN (m.take j):Nat))∧H=R)
   (fun e H=> e 3= .s (.int .u64 (beN m:Nat))∧H=R) 8 _ _ ?_ ?_ ?_
 ·exact ⟨0,rfl,by omega,rfl,rfl,rfl,rfl,rfl⟩
 ·rintro q e H ⟨j,rfl,hj,e9,e8,e7,e3,rfl⟩
  by_cases cd:j < 8
  ·have cj:(j:Int)< 8:=by omega
   have i1:=fun cf base=>(hsr H).o_ias (cf:=cf) (base:=base) (k:= .i64) (i:=j) (by simp;omega)
   have i2:=fun cf base=>(hsr H).o_ld (cf:=cf) (base:=base) (i:=j) (v:=byteV (m.getD j 0)) (by rw[List.getElem?_map,List.getD,List.getElem?_eq_getElem (by omega)];rfl) rfl
   have w3:IntKind.i64.wrap ((j:Int)+1)=((j+1:Nat):Int):=q17z (by omega)
   have hb:=beN_lt m j (by omega)
   have hy:=(m.getD j 0).toNat_lt
   have hp:256 ^ j * 256≤18446744073709551616:=by rw[←Nat.pow_succ];exact Nat.pow_le_pow_right (by omega) (show j+1≤8 by omega)
   have s1:=shl64 (a:=beN (m.take j)) (by omega)
   have s2:=or64 (a:=beN (m.take j)) (y:=(m.getD j 0).toNat) (by omega) hy
   have hw:=wrap64_nat (n:=(m.getD j 0).toNat) (by omega)
   have h1:∀cf base h,opV cf base h (.bin .num .shl) [.s (.int .u64 (beN (m.take j):Nat)),.s (.int .u64 8)]=some (.s (.int .u64 ((beN (m.take j)* 256:Nat):Int)),h):=fun cf base h=> by rw[←s1];exact o_shl cf base h .u64 .u64 _ 8 (by omega)
   simp only[e9,e8,e7,e3,cj,i1,i2,byteV,w3,h1,hw,s2,go_sem,↓reduceIte,Nat.reduceEqDiff,Nat.reduceBEq,Nat.reduceAdd,Nat.reduceSub,Nat.reduceLT,Nat.reduceLeDiff,Int.reduceLT,Int.reduceLE,Int.reduceEq,Int.reduceToNat]
   refine ⟨8 - (j+1),by omega,j+1,rfl,by omega,rfl,?_⟩
   rw[beN_take (by omega)]
  ·have cj:¬(j:Int)< 8:=by omega
   obtain rfl:j=8:=by omega
   simp only[e9,e8,e7,e3,cj,tk2,go_sem,↓reduceIte,Nat.reduceEqDiff,Nat.reduceBEq,Nat.reduceAdd,Nat.reduceSub,Nat.reduceLT,Nat.reduceLeDiff,Int.reduceLT,Int.reduceLE,Int.reduceEq,Int.reduceToNat]
 ·rintro e H ⟨e3,rfl⟩
  simp only[e3,tk,go_sem,↓reduceIte,Nat.reduceEqDiff,Nat.reduceBEq,Nat.reduceAdd,Nat.reduceSub,Nat.reduceLT,Nat.reduceLeDiff,Int.reduceLT,Int.reduceLE,Int.reduceEq,Int.reduceToNat]
theorem rd_imm (f:Bool) (h:Hp) (l:Bs):Rd h (.imm f none (l.map byteV)) l:=⟨fun _ _=> rfl,by simp[lenV]⟩
def textS (s:Bs×Bool):Bs×(Bs×Bool):=takeS (byte0 (takeS 1 s).1) (takeS 1 s).2
theorem byte0_lt (l:Bs):byte0 l < 256:=(l.getD 0 0).toNat_lt
theorem text_ok (id:Nat) (f bad:Bool) (l:Bs):
 ∃f',∀(b:Nat) (h:Hp) (hg:h[id]? =some (rdr f l bad)),run fns pr b 135 [.ptr id [0] 1] h=some (.imm false none ((textS (l,bad)).1.map byteV),h.set id (rdr f' (textS (l,bad)).2.1 (textS (l,bad)).2.2)):=by
 obtain ⟨f1,h1⟩:=one_ok id f bad l
 have hb:=byte0_lt (takeS 1 (l,bad)).1
 unfold textS
 generalize takeS 1 (l,bad)=s1 at h1 hb ⊢
 obtain ⟨o,l1,b1⟩:=s1
 simp only at h1 hb ⊢
 obtain ⟨f',h2⟩:=take_ok id (byte0 o) f1 b1 l1 (by omega)
 have hl:=q20z (byte0 o) (l1,b1)
 generalize takeS (byte0 o) (l1,b1)=s2 at h2 hl ⊢
 obtain ⟨m,l2,b2⟩:=s2
 simp only at h2 hl ⊢
 refine ⟨f',fun b h hg=> ?_⟩
 replace h1:=h1 h.length h hg
 replace h2:=h2 h.length (h.set id (rdr f1 l1 b1)) (q9z hg)
 rw[List.set_set] at h2
 obtain ⟨v,H,hc,hN⟩:=clone_new (rd_imm false (h.set id (rdr f' l2 b2)) m) (by omega)
 have hz:=hN.frz (n:=h.length) (by simp)
 have tk:H.take h.length=h.set id (rdr f' l2 b2):=by have:=hN.fw.take;simpa using this
 refine Vm.runP (nt:=8) rfl fit135 (by simp) ?_
 simp only[B135,h1,h2,hc,hz,tk,go_sem,↓reduceIte,Nat.reduceEqDiff,Nat.reduceBEq,Nat.reduceAdd,Nat.reduceSub,Nat.reduceLT,Nat.reduceLeDiff,Int.reduceLT,Int.reduceLE,Int.reduceEq,Int.reduceToNat]
theorem left_ok (b:Nat) (h:Hp) (id:Nat) (f bad:Bool) (l:Bs) (hg:h[id]? =some (rdr f l bad)):
 run fns pr b 128 [.ptr id [0] 1] h=some (.s (.bool (bad || decide (l≠[]))),h):=by
 refine Vm.runP (nt:=15) rfl fit128 (by simp) ?_
 have tk:h.take h.length=h:=List.take_of_length_le (Nat.le_refl _)
 cases bad with
 | true=>
   simp only[B128,hg,rdr,tk,go_sem,↓reduceIte,Nat.reduceEqDiff,Nat.reduceBEq,Nat.reduceAdd,Nat.reduceSub,Nat.reduceLT,Nat.reduceLeDiff,Int.reduceLT,Int.reduceLE,Int.reduceEq,Int.reduceToNat]
 | false=>
   cases l with
   | nil=>
     simp only[B128,hg,rdr,tk,List.map_nil,go_sem,↓reduceIte,Nat.reduceEqDiff,Nat.reduceBEq,Nat.reduceAdd,Nat.reduceSub,Nat.reduceLT,Nat.reduceLeDiff,Int.reduceLT,Int.reduceLE,Int.reduceEq,Int.reduceToNat]
     simp
   | cons x l=>
     have c:(0:Int)<(((x::l).length:Nat):Int):=by simp
     simp only[B128,hg,rdr,tk,c,go_sem,↓reduceIte,Nat.reduceEqDiff,Nat.reduceBEq,Nat.reduceAdd,Nat.reduceSub,Nat.reduceLT,Nat.reduceLeDiff,Int.reduceLT,Int.reduceLE,Int.reduceEq,Int.reduceToNat]
     simp
def flagW (n:Nat):Bool:= !decide (n=0)&& !decide (n=1)&& !decide (n=3)
def vaultS (s:Bs×Bool):Vault×(Bs×Bool):=
 match takeS 4 s with
 | (i,s1)=> match takeS 8 s1 with
   | (g,s2)=> match takeS 1 s2 with
     | (fl,s3)=> match takeS 1 (s3.1,s3.2 || flagW (byte0 fl)) with
       | (li,s4)=> match takeS 1 s4 with
         | (us,s5)=> match takeS 16 s5 with
           | (p,s6)=> match takeS 16 s6 with
             | (o,s7)=> match textS s7 with
               | (t,s8)=>(⟨i,(beN g:Nat),p,t,(byte0 li:Nat),(byte0 us:Nat),o,!decide (byte0 fl=0),decide (byte0 fl=3)⟩,(s8.1,s8.2 || !rightV ⟨i,(beN g:Nat),p,t,(byte0 li:Nat),(byte0 us:Nat),o,!decide (byte0 fl=0),decide (byte0 fl=3)⟩))
theorem set_self {h:Hp} {id:Nat} {R:Blk} (hg:h[id]? =some R):h.set id R=h:=List.ext_getElem? fun k=> by
 rw[List.getElem?_set]
 split
 ·rename_i e;subst e;rw[hg];simp[q6z hg]
 ·rfl
theorem rvault_ok (id:Nat) (f bad:Bool) (l:Bs):
 ∃f',∀(b:Nat) (h:Hp) (hg:h[id]? =some (rdr f l bad)),run fns pr b 126 [.ptr id [0] 1] h=some ((vaultS (l,bad)).1.enc,h.set id (rdr f' (vaultS (l,bad)).2.1 (vaultS (l,bad)).2.2)):=by
 unfold vaultS
 obtain ⟨f1,c1⟩:=rid_ok id f bad l
 have n1:=q20z 4 (l,bad)
 generalize takeS 4 (l,bad)=s1 at c1 n1 ⊢
 obtain ⟨i,l1,b1⟩:=s1
 simp only at c1 n1 ⊢
 obtain ⟨f2,c2⟩:=num_ok id f1 b1 l1
 have n2:=q20z 8 (l1,b1)
 generalize takeS 8 (l1,b1)=s2 at c2 n2 ⊢
 obtain ⟨g,l2,b2⟩:=s2
 simp only at c2 n2 ⊢
 obtain ⟨f3,c3⟩:=one_ok id f2 b2 l2
 have n3:=q20z 1 (l2,b2)
 generalize takeS 1 (l2,b2)=s3 at c3 n3 ⊢
 obtain ⟨fl,l3,b3⟩:=s3
 simp only at c3 n3 ⊢
 generalize hw:(b3 || flagW (byte0 fl))=w
 obtain ⟨f4,c4⟩:=one_ok id f3 w l3
 have n4:=q20z 1 (l3,w)
 generalize takeS 1 (l3,w)=s4 at c4 n4 ⊢
 obtain ⟨li,l4,b4⟩:=s4
 simp only at c4 n4 ⊢
 obtain ⟨f5,c5⟩:=one_ok id f4 b4 l4
 have n5:=q20z 1 (l4,b4)
 generalize takeS 1 (l4,b4)=s5 at c5 n5 ⊢
 obtain ⟨us,l5,b5⟩:=s5
 simp only at c5 n5 ⊢
 obtain ⟨f6,c6⟩:=dig_ok id f5 b5 l5
 have n6:=q20z 16 (l5,b5)
 generalize takeS 16 (l5,b5)=s6 at c6 n6 ⊢
 obtain ⟨p,l6,b6⟩:=s6
 simp only at c6 n6 ⊢
 obtain ⟨f7,c7⟩:=dig_ok id f6 b6 l6
 have n7:=q20z 16 (l6,b6)
 generalize takeS 16 (l6,b6)=s7 at c7 n7 ⊢
 obtain ⟨o,l7,b7⟩:=s7
 simp only at c7 n7 ⊢
 obtain ⟨f8,c8⟩:=text_ok id f7 b7 l7
 have n8:True:=trivial
 generalize textS (l7,b7)=s8 at c8 ⊢
 obtain ⟨t,l8,b8⟩:=s8
 simp only at c8 ⊢
 refine ⟨f8,fun b h hg=> ?_⟩
 have hlt:=q6z hg
 have qi:∀R X,(h.set id R++X)[id]? =some R:=fun R X=> by rw[List.getElem?_append_left (by simpa using hlt)];exact q9z hg
 have q0:∀R A X,(h.set id R++A::X)[h.length]? =some A:=fun R A X=> by rw[List.getElem?_append_right (by simp)];simp
 have q1:∀R A B,(h.set id R++[A,B])[h.length+1]? =some B:=fun R A B=> by rw[List.getElem?_append_right (by simp)];simp
 have si:∀R X R',(h.set id R++X).set id R'=h.set id R'++X:=fun R X R'=> by rw[List.set_append_left _ _ (by simpa using hlt),List.set_set]
 have s0:∀R A X A',(h.set id R++A::X).set h.length A'=h.set id R++A'::X:=fun R A X A'=> by rw[List.set_append_right _ _ (by simp)];simp
 have s1:∀R A B B',(h.set id R++[A,B]).set (h.length+1) B'=h.set id R++[A,B']:=fun R A B B'=> by rw[List.set_append_right _ _ (by simp)];simp
 have tk:∀R X,(h.set id R++X).take h.length=h.set id R:=fun R X=> by rw[List.take_append_of_le_length (by simp),List.take_of_length_le (by simp)]
 have h0:∀X,h++X=h.set id (rdr f l bad)++X:=fun X=> by rw[set_self hg]
 replace c1:=fun X=> c1 h.length (h.set id _++X) (qi _ X)
 simp only[si] at c1
 replace c2:=fun X=> c2 h.length (h.set id _++X) (qi _ X)
 simp only[si] at c2
 replace c3:=fun X=> c3 h.length (h.set id _++X) (qi _ X)
 simp only[si] at c3
 replace c4:=fun X=> c4 h.length (h.set id _++X) (qi _ X)
 simp only[si] at c4
 replace c5:=fun X=> c5 h.length (h.set id _++X) (qi _ X)
 simp only[si] at c5
 replace c6:=fun X=> c6 h.length (h.set id _++X) (qi _ X)
 simp only[si] at c6
 replace c7:=fun X=> c7 h.length (h.set id _++X) (qi _ X)
 simp only[si] at c7
 replace c8:=fun X=> c8 h.length (h.set id _++X) (qi _ X)
 simp only[si] at c8
 have d0:(((byte0 fl:Nat):Int)=0)=(byte0 fl=0):=propext (by omega)
 have d1:(((byte0 fl:Nat):Int)=1)=(byte0 fl=1):=propext (by omega)
 have d3:(((byte0 fl:Nat):Int)=3)=(byte0 fl=3):=propext (by omega)
 generalize hv:Vault.mk i (beN g:Nat) p t (byte0 li:Nat) (byte0 us:Nat) o (!decide (byte0 fl=0)) (decide (byte0 fl=3))=v
 have hr:=fun h0=> RightVault_ok h.length h0 v
 have he:v.enc=V.st 31 [.arr 27 (i.map byteV),.s (.int .u64 (beN g:Nat)),.arr 25 (p.map byteV),.imm false none (t.map byteV),.s (.int .i64 (byte0 li:Nat)),.s (.int .i64 (byte0 us:Nat)),.arr 25 (o.map byteV),.s (.bool (!decide (byte0 fl=0))),.s (.bool (decide (byte0 fl=3)))]:=by rw[←hv];rfl
 rw[he] at hr ⊢
 simp only[rdr] at h0 c1 c2 c3 c4 c5 c6 c7 c8 ⊢
 refine Vm.runP (nt:=65) rfl fit126 (by simp) ?_
 simp only[B126,h0,List.length_set,c1,c2,c3,q0,q1,qi,s0,s1,si,tk,d0,d1,d3,go_sem,↓reduceIte,Nat.reduceEqDiff,Nat.reduceBEq,Nat.reduceAdd,Nat.reduceSub,Nat.reduceLT,Nat.reduceLeDiff,Int.reduceLT,Int.reduceLE,Int.reduceEq,Int.reduceToNat]
 cases b3 with
 | true=>
   have hw':w=true:=by rw[←hw];rfl
   subst hw'
   simp only[c4,c5,c6,c7,c8,q0,q1,qi,s0,s1,si,tk,d0,d1,d3,gr_s,gr_arr,gr_imm,Bool.or_true,Bool.true_or,Bool.false_or,Bool.not_true,Bool.not_false,decide_true,decide_false,go_sem,↓reduceIte,Nat.reduceEqDiff,Nat.reduceBEq,Nat.reduceAdd,Nat.reduceSub,Nat.reduceLT,Nat.reduceLeDiff,Int.reduceLT,Int.reduceLE,Int.reduceEq,Int.reduceToNat]
   cases b8 with
   | true=>
     simp only[hr,c4,c5,c6,c7,c8,q0,q1,qi,s0,s1,si,tk,d0,d1,d3,gr_s,gr_arr,gr_imm,Bool.or_true,Bool.true_or,Bool.false_or,Bool.not_true,Bool.not_false,decide_true,decide_false,go_sem,↓reduceIte,Nat.reduceEqDiff,Nat.reduceBEq,Nat.reduceAdd,Nat.reduceSub,Nat.reduceLT,Nat.reduceLeDiff,Int.reduceLT,Int.reduceLE,Int.reduceEq,Int.reduceToNat]
   | false=>
     simp only[hr,c4,c5,c6,c7,c8,q0,q1,qi,s0,s1,si,tk,d0,d1,d3,gr_s,gr_arr,gr_imm,Bool.or_true,Bool.true_or,Bool.false_or,Bool.not_true,Bool.not_false,decide_true,decide_false,go_sem,↓reduceIte,Nat.reduceEqDiff,Nat.reduceBEq,Nat.reduceAdd,Nat.reduceSub,Nat.reduceLT,Nat.reduceLeDiff,Int.reduceLT,Int.reduceLE,Int.reduceEq,Int.reduceToNat]
 | false=>
   by_cases k0:byte0 fl=0
   ·have k1:¬byte0 fl=1:=by omega
    have k3:¬byte0 fl=3:=by omega
    have e0:(byte0 fl=0)=True:=eq_true k0
    have e1:(byte0 fl=1)=False:=eq_false k1
    have e3:(byte0 fl=3)=False:=eq_false k3
    have hw':w=false:=by rw[←hw];simp[flagW,e0,e1,e3]
    subst hw'
    simp only[e0,e1,e3,decide_true,decide_false,Bool.not_true,Bool.not_false] at hr ⊢
    simp only[hr,c4,c5,c6,c7,c8,q0,q1,qi,s0,s1,si,tk,d0,d1,d3,gr_s,gr_arr,gr_imm,Bool.or_true,Bool.true_or,Bool.false_or,Bool.not_true,Bool.not_false,decide_true,decide_false,e0,e1,e3,go_sem,↓reduceIte,Nat.reduceEqDiff,Nat.reduceBEq,Nat.reduceAdd,Nat.reduceSub,Nat.reduceLT,Nat.reduceLeDiff,Int.reduceLT,Int.reduceLE,Int.reduceEq,Int.reduceToNat]
    cases b8 with
    | true=>
      simp only[hr,c4,c5,c6,c7,c8,q0,q1,qi,s0,s1,si,tk,d0,d1,d3,gr_s,gr_arr,gr_imm,Bool.or_true,Bool.true_or,Bool.false_or,Bool.not_true,Bool.not_false,decide_true,decide_false,e0,e1,e3,go_sem,↓reduceIte,Nat.reduceEqDiff,Nat.reduceBEq,Nat.reduceAdd,Nat.reduceSub,Nat.reduceLT,Nat.reduceLeDiff,Int.reduceLT,Int.reduceLE,Int.reduceEq,Int.reduceToNat]
    | false=>
      simp only[hr,c4,c5,c6,c7,c8,q0,q1,qi,s0,s1,si,tk,d0,d1,d3,gr_s,gr_arr,gr_imm,Bool.or_true,Bool.true_or,Bool.false_or,Bool.not_true,Bool.not_false,decide_true,decide_false,e0,e1,e3,go_sem,↓reduceIte,Nat.reduceEqDiff,Nat.reduceBEq,Nat.reduceAdd,Nat.reduceSub,Nat.reduceLT,Nat.reduceLeDiff,Int.reduceLT,Int.reduceLE,Int.reduceEq,Int.reduceToNat]
   ·by_cases k1:byte0 fl=1
    ·have k3:¬byte0 fl=3:=by omega
     have e0:(byte0 fl=0)=False:=eq_false k0
     have e1:(byte0 fl=1)=True:=eq_true k1
     have e3:(byte0 fl=3)=False:=eq_false k3
     have hw':w=false:=by rw[←hw];simp[flagW,e0,e1,e3]
     subst hw'
     simp only[e0,e1,e3,decide_true,decide_false,Bool.not_true,Bool.not_false] at hr ⊢
     simp only[hr,c4,c5,c6,c7,c8,q0,q1,qi,s0,s1,si,tk,d0,d1,d3,gr_s,gr_arr,gr_imm,Bool.or_true,Bool.true_or,Bool.false_or,Bool.not_true,Bool.not_false,decide_true,decide_false,e0,e1,e3,go_sem,↓reduceIte,Nat.reduceEqDiff,Nat.reduceBEq,Nat.reduceAdd,Nat.reduceSub,Nat.reduceLT,Nat.reduceLeDiff,Int.reduceLT,Int.reduceLE,Int.reduceEq,Int.reduceToNat]
     cases b8 with
     | true=>
       simp only[hr,c4,c5,c6,c7,c8,q0,q1,qi,s0,s1,si,tk,d0,d1,d3,gr_s,gr_arr,gr_imm,Bool.or_true,Bool.true_or,Bool.false_or,Bool.not_true,Bool.not_false,decide_true,decide_false,e0,e1,e3,go_sem,↓reduceIte,Nat.reduceEqDiff,Nat.reduceBEq,Nat.reduceAdd,Nat.reduceSub,Nat.reduceLT,Nat.reduceLeDiff,Int.reduceLT,Int.reduceLE,Int.reduceEq,Int.reduceToNat]
     | false=>
       simp only[hr,c4,c5,c6,c7,c8,q0,q1,qi,s0,s1,si,tk,d0,d1,d3,gr_s,gr_arr,gr_imm,Bool.or_true,Bool.true_or,Bool.false_or,Bool.not_true,Bool.not_false,decide_true,decide_false,e0,e1,e3,go_sem,↓reduceIte,Nat.reduceEqDiff,Nat.reduceBEq,Nat.reduceAdd,Nat.reduceSub,Nat.reduceLT,Nat.reduceLeDiff,Int.reduceLT,Int.reduceLE,Int.reduceEq,Int.reduceToNat]
    ·by_cases k3:byte0 fl=3
     ·skip
      have e0:(byte0 fl=0)=False:=eq_false k0
      have e1:(byte0 fl=1)=False:=eq_false k1
      have e3:(byte0 fl=3)=True:=eq_true k3
      have hw':w=false:=by rw[←hw];simp[flagW,e0,e1,e3]
      subst hw'
      simp only[e0,e1,e3,decide_true,decide_false,Bool.not_true,Bool.not_false] at hr ⊢
      simp only[hr,c4,c5,c6,c7,c8,q0,q1,qi,s0,s1,si,tk,d0,d1,d3,gr_s,gr_arr,gr_imm,Bool.or_true,Bool.true_or,Bool.false_or,Bool.not_true,Bool.not_false,decide_true,decide_false,e0,e1,e3,go_sem,↓reduceIte,Nat.reduceEqDiff,Nat.reduceBEq,Nat.reduceAdd,Nat.reduceSub,Nat.reduceLT,Nat.reduceLeDiff,Int.reduceLT,Int.reduceLE,Int.reduceEq,Int.reduceToNat]
      cases b8 with
      | true=>
        simp only[hr,c4,c5,c6,c7,c8,q0,q1,qi,s0,s1,si,tk,d0,d1,d3,gr_s,gr_arr,gr_imm,Bool.or_true,Bool.true_or,Bool.false_or,Bool.not_true,Bool.not_false,decide_true,decide_false,e0,e1,e3,go_sem,↓reduceIte,Nat.reduceEqDiff,Nat.reduceBEq,Nat.reduceAdd,Nat.reduceSub,Nat.reduceLT,Nat.reduceLeDiff,Int.reduceLT,Int.reduceLE,Int.reduceEq,Int.reduceToNat]
      | false=>
        simp only[hr,c4,c5,c6,c7,c8,q0,q1,qi,s0,s1,si,tk,d0,d1,d3,gr_s,gr_arr,gr_imm,Bool.or_true,Bool.true_or,Bool.false_or,Bool.not_true,Bool.not_false,decide_true,decide_false,e0,e1,e3,go_sem,↓reduceIte,Nat.reduceEqDiff,Nat.reduceBEq,Nat.reduceAdd,Nat.reduceSub,Nat.reduceLT,Nat.reduceLeDiff,Int.reduceLT,Int.reduceLE,Int.reduceEq,Int.reduceToNat]
     ·skip
      have e0:(byte0 fl=0)=False:=eq_false k0
      have e1:(byte0 fl=1)=False:=eq_false k1
      have e3:(byte0 fl=3)=False:=eq_false k3
      have hw':w=true:=by rw[←hw];simp[flagW,e0,e1,e3]
      subst hw'
      simp only[e0,e1,e3,decide_true,decide_false,Bool.not_true,Bool.not_false] at hr ⊢
      simp only[hr,c4,c5,c6,c7,c8,q0,q1,qi,s0,s1,si,tk,d0,d1,d3,gr_s,gr_arr,gr_imm,Bool.or_true,Bool.true_or,Bool.false_or,Bool.not_true,Bool.not_false,decide_true,decide_false,e0,e1,e3,go_sem,↓reduceIte,Nat.reduceEqDiff,Nat.reduceBEq,Nat.reduceAdd,Nat.reduceSub,Nat.reduceLT,Nat.reduceLeDiff,Int.reduceLT,Int.reduceLE,Int.reduceEq,Int.reduceToNat]
      cases b8 with
      | true=>
        simp only[hr,c4,c5,c6,c7,c8,q0,q1,qi,s0,s1,si,tk,d0,d1,d3,gr_s,gr_arr,gr_imm,Bool.or_true,Bool.true_or,Bool.false_or,Bool.not_true,Bool.not_false,decide_true,decide_false,e0,e1,e3,go_sem,↓reduceIte,Nat.reduceEqDiff,Nat.reduceBEq,Nat.reduceAdd,Nat.reduceSub,Nat.reduceLT,Nat.reduceLeDiff,Int.reduceLT,Int.reduceLE,Int.reduceEq,Int.reduceToNat]
      | false=>
        simp only[hr,c4,c5,c6,c7,c8,q0,q1,qi,s0,s1,si,tk,d0,d1,d3,gr_s,gr_arr,gr_imm,Bool.or_true,Bool.true_or,Bool.false_or,Bool.not_true,Bool.not_false,decide_true,decide_false,e0,e1,e3,go_sem,↓reduceIte,Nat.reduceEqDiff,Nat.reduceBEq,Nat.reduceAdd,Nat.reduceSub,Nat.reduceLT,Nat.reduceLeDiff,Int.reduceLT,Int.reduceLE,Int.reduceEq,Int.reduceToNat]
theorem takeS_le (n:Nat) (s:Bs×Bool):(takeS n s).2.1.length≤s.1.length:=by
 unfold takeS
 split
 ·simp
 ·simp
theorem textS_le (s:Bs×Bool):(textS s).2.1.length≤s.1.length:=Nat.le_trans (takeS_le _ _) (takeS_le _ _)
theorem vaultS_le (s:Bs×Bool):(vaultS s).2.1.length≤s.1.length:=by
 have h1:=takeS_le 4 s
 have h2:=takeS_le 8 (takeS 4 s).2
 have h3:=takeS_le 1 (takeS 8 (takeS 4 s).2).2
 unfold vaultS
 generalize takeS 4 s=s1 at *
 obtain ⟨i,s1⟩:=s1
 simp only at h1 h2 h3 ⊢
 generalize takeS 8 s1=s2 at *
 obtain ⟨g,s2⟩:=s2
 simp only at h2 h3 ⊢
 generalize takeS 1 s2=s3 at *
 obtain ⟨fl,s3⟩:=s3
 simp only at h3 ⊢
 have h4:=takeS_le 1 (s3.1,s3.2 || flagW (byte0 fl))
 generalize takeS 1 (s3.1,s3.2 || flagW (byte0 fl))=s4 at *
 obtain ⟨li,s4⟩:=s4
 simp only at h4 ⊢
 have h5:=takeS_le 1 s4
 generalize takeS 1 s4=s5 at *
 obtain ⟨us,s5⟩:=s5
 simp only at h5 ⊢
 have h6:=takeS_le 16 s5
 generalize takeS 16 s5=s6 at *
 obtain ⟨p,s6⟩:=s6
 simp only at h6 ⊢
 have h7:=takeS_le 16 s6
 generalize takeS 16 s6=s7 at *
 obtain ⟨o,s7⟩:=s7
 simp only at h7 ⊢
 have h8:=textS_le s7
 generalize textS s7=s8 at *
 obtain ⟨t,s8⟩:=s8
 simp only at h8 ⊢
 omega
def toVaultB (l:Bs):Vault×Int×Int:=if (vaultS (l,false)).2.2=true then (zeroV,0,12) else ((vaultS (l,false)).1,((l.length - (vaultS (l,false)).2.1.length:Nat):Int),0)
theorem ToVault_ok (b:Nat) (h:Hp) (f:Bool) (l:Bs) (hl:l.length≤100000000):
 run fns pr b 129 [.imm f none (l.map byteV)] h=some (.tup [(toVaultB l).1.enc,.s (.int .i64 (toVaultB l).2.1),.s (.int .i64 (toVaultB l).2.2)],h):=by
 obtain ⟨f1,c⟩:=rvault_ok (h.length+1) f false l
 have hle:=vaultS_le (l,false)
 have w:IntKind.i64.wrap (((l.length:Nat):Int) - (((vaultS (l,false)).2.1.length:Nat):Int))=((l.length - (vaultS (l,false)).2.1.length:Nat):Int):=by
   simp only at hle
   rw[wrap_i64 (by omega) (by omega)];omega
 unfold toVaultB
 generalize vaultS (l,false)=r at *
 obtain ⟨v,l1,b1⟩:=r
 simp only at c w hle ⊢
 have c1:∀A,run fns pr h.length 126 [.ptr (h.length+1) [0] 1] (h++[A,rdr f l false])=some (v.enc,h++[A,rdr f1 l1 b1]):=fun A=> by
   rw[c h.length (h++[A,rdr f l false]) (by simp)]
   simp
 have tk:∀X,(h++X).take h.length=h:=fun X=> by simp
 simp only[rdr] at c1
 have t1:=enc_tyV v
 have t2:=enc_soV v
 refine Vm.runP (nt:=26) rfl fit129 (by simp) ?_
 simp only[B129,c1,t1,t2,tk,go_sem,↓reduceIte,Nat.reduceEqDiff,Nat.reduceBEq,Nat.reduceAdd,Nat.reduceSub,Nat.reduceLT,Nat.reduceLeDiff,Int.reduceLT,Int.reduceLE,Int.reduceEq,Int.reduceToNat]
 cases b1 with
 | true=>
   simp only[c1,tk,go_sem,↓reduceIte,Nat.reduceEqDiff,Nat.reduceBEq,Nat.reduceAdd,Nat.reduceSub,Nat.reduceLT,Nat.reduceLeDiff,Int.reduceLT,Int.reduceLE,Int.reduceEq,Int.reduceToNat]
   rfl
 | false=>
   simp only[c1,t1,t2,enc_frV,w,tk,go_sem,↓reduceIte,Nat.reduceEqDiff,Nat.reduceBEq,Nat.reduceAdd,Nat.reduceSub,Nat.reduceLT,Nat.reduceLeDiff,Int.reduceLT,Int.reduceLE,Int.reduceEq,Int.reduceToNat]
def vsS :Nat→Bs×Bool→List Vault×(Bs×Bool)
 | 0,s=>([],s)
 | n+1,s=>((vsS n s).1++[(vaultS (vsS n s).2).1],(vaultS (vsS n s).2).2)
theorem vsS_len (n:Nat) (s:Bs×Bool):(vsS n s).1.length=n:=by
 induction n with
 | zero=> rfl
 | succ n ih=> simp[vsS,ih]
def recS (s:Bs×Bool):Record×(Bs×Bool):=
 match takeS 1 s with
 | (k,s1)=>
   if byte0 k=1 then match vaultS s1 with
    | (v,s2)=>(⟨1,0,0,0,v,[]⟩,s2)
   else if byte0 k=2 then match takeS 1 s1 with
     | (a,s2)=> match takeS 1 s2 with
       | (t,s3)=> match takeS 8 s3 with
         | (e,s4)=>(⟨2,(byte0 a:Nat),(byte0 t:Nat),(beN e:Nat),zeroV,[]⟩,s4)
   else if byte0 k=3 then match takeS 1 s1 with
     | (a,s2)=> match takeS 8 s2 with
       | (e,s3)=> match takeS 1 s3 with
         | (n,s4)=> match vsS (min (byte0 n) 5) s4 with
           | (vs,s5)=>(⟨3,(byte0 a:Nat),0,(beN e:Nat),zeroV,vs⟩,s5)
   else if byte0 k=4 then match takeS 1 s1 with
     | (a,s2)=> match takeS 8 s2 with
       | (e,s3)=>(⟨4,(byte0 a:Nat),0,(beN e:Nat),zeroV,[]⟩,s3)
   else (⟨(byte0 k:Nat),0,0,0,zeroV,[]⟩,s1)
def zeroRec :Record:=⟨0,0,0,0,zeroV,[]⟩
def toRecB (l:Bs):Record×Int:=if (recS (l,false)).2.2=true∨(recS (l,false)).2.1≠[]∨rightR (recS (l,false)).1=false then (zeroRec,12) else ((recS (l,false)).1,0)
def recX (r:Record) (f:Bool) (x:V):Blk:= .cells (some 41) [.st 41 [.s (.int .i64 r.kind),.s (.int .i64 r.shard),.s (.int .i64 r.to_),.s (.int .u64 r.epoch),r.vault.encF f,x]]
theorem atR {F:Nat} {h:Hp} {f bad:Bool} {l:Bs} {v:V} {R':Blk} (c:∀(b:Nat) (h0:Hp) (_:h0[h.length+1]? =some (rdr f l bad)),run fns pr b F [.ptr (h.length+1) [0] 1] h0=some (v,h0.set (h.length+1) R')) (A:Blk) (X:Hp):
 run fns pr h.length F [.ptr (h.length+1) [0] 1] (h++A::rdr f l bad::X)=some (v,h++A::R'::X):=by
 rw[c h.length (h++A::rdr f l bad::X) (by rw[List.getElem?_append_right (by omega)];simp)]
 rw[List.set_append_right _ _ (by omega)]
 simp
theorem byte0_i (l:Bs): -9223372036854775808≤((byte0 l:Nat):Int)∧((byte0 l:Nat):Int)≤9223372036854775807:=by
 have:=byte0_lt l;omega
theorem beN_8 {l:Bs} (h:l.length=8):beN l < 18446744073709551616:=by
 have:=beN_lt l 8 (by omega)
 rw[List.take_of_length_le (by omega)] at this
 omega
theorem textS_len (s:Bs×Bool):(textS s).1.length < 256:=by
 unfold textS;rw[q20z];exact byte0_lt _
theorem vaultS_wf (s:Bs×Bool):(vaultS s).1.wf:=by
 unfold vaultS
 have h1:=q20z 4 s
 generalize takeS 4 s=s1 at *
 obtain ⟨i,s1⟩:=s1
 simp only at h1 ⊢
 have h2:=q20z 8 s1
 generalize takeS 8 s1=s2 at *
 obtain ⟨g,s2⟩:=s2
 simp only at h2 ⊢
 generalize takeS 1 s2=s3 at *
 obtain ⟨fl,s3⟩:=s3
 simp only
 generalize takeS 1 (s3.1,s3.2 || flagW (byte0 fl))=s4 at *
 obtain ⟨li,s4⟩:=s4
 simp only
 generalize takeS 1 s4=s5 at *
 obtain ⟨us,s5⟩:=s5
 simp only
 have h6:=q20z 16 s5
 generalize takeS 16 s5=s6 at *
 obtain ⟨p,s6⟩:=s6
 simp only at h6 ⊢
 have h7:=q20z 16 s6
 generalize takeS 16 s6=s7 at *
 obtain ⟨o,s7⟩:=s7
 simp only at h7 ⊢
 have h8:=textS_len s7
 generalize textS s7=s8 at *
 obtain ⟨t,s8⟩:=s8
 simp only at h8 ⊢
 have hb:=beN_8 h2
 exact ⟨h1,⟨by simp only;omega,by simp only;omega⟩,h6,by simp only;omega,byte0_i li,byte0_i us,h7,trivial,trivial⟩
theorem enc_grV (v:Vault):v.enc.ground=true:=by
 have:v.enc.plain=true:=by simp only[Vault.enc,go_sem]
 exact ground_plain _ this
theorem wpC_cut {cf:CF} {base n:Nat} {v:V} {a b:C} {e:Env} {h:Hp} {K:Post} (M:Env→Hp→Prop) (h1:∀e H,M e H→K .normal e H) (h2:∀K':Post,(∀e H,M e H→K' .normal e H)→wpC cf base v a b e h (blockK n K')):wpC cf base v a b e h (blockK n K):=h2 K h1
theorem encF_fr (n:Nat) (h:Hp) (f:Bool) (v:Vault):frzV n h (v.encF f)=some v.enc:=by simp only[Vault.encF,Vault.enc,go_sem]
def recM (h:Hp) (l:Bs) (e:Env) (H:Hp):Prop:=e 4= .ptr (h.length+1) [0] 1∧e 5= .ptr (h.length+2) [0] 1∧e 2= .ptr h.length [0] 1∧
 ∃r l' b' f' fv x kk A,recS (l,false)=(r,l',b')∧Fw [] h H∧H[h.length]? =some (.cells (some 41) [A])∧A.ty=some 41∧H[h.length+1]? =some (rdr f' l' b')∧H[h.length+2]? =some (recX r fv x)∧XR H (some 31) kk x (r.vaults.map Vault.enc)∧h.length+3≤kk∧∀v∈r.vaults,v.wf
theorem ToRecord_ok (b:Nat) (h:Hp) (f:Bool) (l:Bs):
 run fns pr b 117 [.imm f none (l.map byteV)] h=some (.tup [(toRecB l).1.enc,.s (.int .i64 (toRecB l).2)],h):=by
 refine Vm.runP (nt:=68) rfl fit117 (by simp) ?_
 obtain ⟨f1,c1⟩:=one_ok (h.length+1) f false l
 replace c1:=atR c1
 have n1:=q20z 1 (l,false)
 unfold toRecB
 have hrec:recS (l,false)=recS (l,false):=rfl
 conv at hrec=> rhs;unfold recS
 generalize takeS 1 (l,false)=s1 at hrec c1 n1
 obtain ⟨k,l1,b1⟩:=s1
 simp only at c1 n1 hrec
 have a1:(((byte0 k:Nat):Int)=1)=(byte0 k=1):=propext (by omega)
 have a2:(((byte0 k:Nat):Int)=2)=(byte0 k=2):=propext (by omega)
 have a3:(((byte0 k:Nat):Int)=3)=(byte0 k=3):=propext (by omega)
 have a4:(((byte0 k:Nat):Int)=4)=(byte0 k=4):=propext (by omega)
 have tk:∀X,(h++X).take h.length=h:=fun X=> by simp
 simp only[rdr] at c1
 simp only[B117,B117L1,c1,tk,go_sem,↓reduceIte,Nat.reduceEqDiff,Nat.reduceBEq,Nat.reduceAdd,Nat.reduceSub,Nat.reduceLT,Nat.reduceLeDiff,Int.reduceLT,Int.reduceLE,Int.reduceEq,Int.reduceToNat]
 refine wpC_cut (recM h l) ?_ ?_
 ·rintro e H ⟨e4,e5,e2,r,l',b',f',fv,x,kk,A,hr,fw,g0,hA,g1,g2,xr,hk,hwf⟩
  rw[hr]
  simp only
  have cl:=left_ok h.length H (h.length+1) f' b' l' g1
  have cr:=RightRecordX_ok h.length H fv x r xr.SR hwf
  have hz:∀B,frzV h.length (H.set h.length B) x=some (.imm false (some 31) (r.vaults.map Vault.enc)):=fun B=>(xr.set (j:=h.length) (by omega) B).frz (by omega) (by rw[plain_all_iff];intro v hv;obtain ⟨w,_,rfl⟩:=List.mem_map.1 hv;simp[Vault.enc,V.plain,V.plain.all,plain_bytes])
  have htk:=fw.take
  have hxt:=xr.ty
  have htk2:∀X,(H.set h.length X).take h.length=h:=fun X=> by rw[List.take_set,htk,List.set_eq_of_length_le (Nat.le_refl _)]
  have e0:∀fv x,V.ty (.st 41 [.s (.int .i64 r.kind),.s (.int .i64 r.shard),.s (.int .i64 r.to_),.s (.int .u64 r.epoch),r.vault.encF fv,x])=some 41:=fun _ _=> rfl
  unfold recX at g2
  by_cases hb:(b' || decide (l'≠[]))=true
  ·rw[hb] at cl
   have hcond:b'=true∨l'≠[]∨rightR r=false:=by simpa[or_assoc] using (show (b'=true∨l'≠[])∨rightR r=false from .inl (by simpa using hb))
   rw[if_pos hcond]
   simp only[e4,e5,e2,cl,g0,hA,htk2,q9z g0,go_sem,↓reduceIte,Nat.reduceEqDiff,Nat.reduceBEq,Nat.reduceAdd,Nat.reduceSub,Nat.reduceLT,Nat.reduceLeDiff,Int.reduceLT,Int.reduceLE,Int.reduceEq,Int.reduceToNat]
   rfl
  ·have hb':(b' || decide (l'≠[]))=false:=by simpa using hb
   rw[hb'] at cl
   cases hrr:rightR r with
   | false=>
     rw[hrr] at cr
     have hcond:b'=true∨l'≠[]∨false=false:= .inr (.inr rfl)
     rw[if_pos hcond]
     simp only[e4,e5,e2,cl,g2,cr,g0,hA,htk2,q9z g0,go_sem,↓reduceIte,Nat.reduceEqDiff,Nat.reduceBEq,Nat.reduceAdd,Nat.reduceSub,Nat.reduceLT,Nat.reduceLeDiff,Int.reduceLT,Int.reduceLE,Int.reduceEq,Int.reduceToNat]
     rfl
   | true=>
     rw[hrr] at cr
     have hcond:¬(b'=true∨l'≠[]∨true=false):=by
       intro hc
       apply hb
       rcases hc with h1 | h1 | h1
       ·simp[h1]
       ·simp[h1]
       ·cases h1
     rw[if_neg hcond]
     simp only[e4,e5,e2,cl,g2,cr,g0,hA,htk2,q9z g0,hz,hxt.1,hxt.2,encF_fr,encF_tyV,encF_soV,go_sem,↓reduceIte,Nat.reduceEqDiff,Nat.reduceBEq,Nat.reduceAdd,Nat.reduceSub,Nat.reduceLT,Nat.reduceLeDiff,Int.reduceLT,Int.reduceLE,Int.reduceEq,Int.reduceToNat]
     rfl
 ·intro K hK
  generalize hbk:byte0 k=bk at *
  have G0:∀A X,(h++A::X)[h.length]? =some A:=fun A X=> by simp
  have G1:∀A B X,(h++A::B::X)[h.length+1]? =some B:=fun A B X=> by rw[List.getElem?_append_right (by omega)];simp
  have G2:∀A B C X,(h++A::B::C::X)[h.length+2]? =some C:=fun A B C X=> by rw[List.getElem?_append_right (by omega)];simp
  by_cases k1:bk=1
  ·subst k1
   rw[if_pos rfl] at hrec
   obtain ⟨f2,c2⟩:=rvault_ok (h.length+1) f1 b1 l1
   replace c2:=atR c2
   generalize vaultS (l1,b1)=s2 at *
   obtain ⟨v,l2,b2⟩:=s2
   simp only at c2 hrec
   simp only[rdr] at c2
   have q1:(((1:Nat):Int)=1)=True:=by simp
   simp only[q1,c2,decide_true,enc_tyV,enc_soV,go_sem,↓reduceIte,Nat.reduceEqDiff,Nat.reduceBEq,Nat.reduceAdd,Nat.reduceSub,Nat.reduceLT,Nat.reduceLeDiff,Int.reduceLT,Int.reduceLE,Int.reduceEq,Int.reduceToNat]
   refine hK _ _ ⟨rfl,rfl,rfl,_,_,_,f2,false,.imm true (some 31) [],h.length+3,_,hrec,Fw.app [] h _,G0 _ _,?_,G1 _ _ _,(G2 _ _ _ _).trans ?_,XR.nil _ _ _,Nat.le_refl _,fun v hv=> by cases hv⟩
   ·rfl
   ·simp only[recX,←Vault.enc_F];rfl
  by_cases k2:bk=2
  ·subst k2
   rw[if_neg (by omega),if_pos rfl] at hrec
   obtain ⟨f2,c2⟩:=one_ok (h.length+1) f1 b1 l1
   replace c2:=atR c2
   generalize takeS 1 (l1,b1)=s2 at *
   obtain ⟨a,l2,b2⟩:=s2
   simp only at c2 hrec
   obtain ⟨f3,c3⟩:=one_ok (h.length+1) f2 b2 l2
   replace c3:=atR c3
   generalize takeS 1 (l2,b2)=s3 at *
   obtain ⟨t,l3,b3⟩:=s3
   simp only at c3 hrec
   obtain ⟨f4,c4⟩:=num_ok (h.length+1) f3 b3 l3
   replace c4:=atR c4
   generalize takeS 8 (l3,b3)=s4 at *
   obtain ⟨e,l4,b4⟩:=s4
   simp only at c4 hrec
   simp only[rdr] at c2 c3 c4
   have q1:(((2:Nat):Int)=1)=False:=by simp
   have q2:(((2:Nat):Int)=2)=True:=by simp
   simp only[q1,q2,c2,c3,c4,decide_true,decide_false,enc_tyV,enc_soV,go_sem,↓reduceIte,Nat.reduceEqDiff,Nat.reduceBEq,Nat.reduceAdd,Nat.reduceSub,Nat.reduceLT,Nat.reduceLeDiff,Int.reduceLT,Int.reduceLE,Int.reduceEq,Int.reduceToNat]
   refine hK _ _ ⟨rfl,rfl,rfl,_,_,_,f4,true,.imm true (some 31) [],h.length+3,_,hrec,Fw.app [] h _,G0 _ _,?_,G1 _ _ _,(G2 _ _ _ _).trans ?_,XR.nil _ _ _,Nat.le_refl _,fun v hv=> by cases hv⟩
   ·rfl
   ·rfl
  by_cases k3:bk=3
  ·subst k3
   rw[if_neg (by omega),if_neg (by omega),if_pos rfl] at hrec
   obtain ⟨f2,c2⟩:=one_ok (h.length+1) f1 b1 l1
   replace c2:=atR c2
   generalize takeS 1 (l1,b1)=s2 at *
   obtain ⟨a,l2,b2⟩:=s2
   simp only at c2 hrec
   obtain ⟨f3,c3⟩:=num_ok (h.length+1) f2 b2 l2
   replace c3:=atR c3
   generalize takeS 8 (l2,b2)=s3 at *
   obtain ⟨ep,l3,b3⟩:=s3
   simp only at c3 hrec
   obtain ⟨f4,c4⟩:=one_ok (h.length+1) f3 b3 l3
   replace c4:=atR c4
   generalize takeS 1 (l3,b3)=s4 at *
   obtain ⟨n,l4,b4⟩:=s4
   simp only at c4 hrec
   simp only[rdr] at c2 c3 c4
   have q1:(((3:Nat):Int)=1)=False:=by simp
   have q2:(((3:Nat):Int)=2)=False:=by simp
   have q3:(((3:Nat):Int)=3)=True:=by simp
   have hN:min (byte0 n) 5≤5:=by omega
   have hmin:∀cf base H,opV cf base H .min [.s (.int .i64 (byte0 n:Nat)),.s (.int .i64 5)]=some (.s (.int .i64 (min (byte0 n) 5:Nat)),H):=fun cf base H=> by
     rw[o_min,show min ((byte0 n:Nat):Int) 5=((min (byte0 n) 5:Nat):Int) by omega]
   generalize min (byte0 n) 5=N at *
   simp only[q1,q2,q3,c2,c3,c4,decide_true,decide_false,hmin,go_sem,↓reduceIte,Nat.reduceEqDiff,Nat.reduceBEq,Nat.reduceAdd,Nat.reduceSub,Nat.reduceLT,Nat.reduceLeDiff,Int.reduceLT,Int.reduceLE,Int.reduceEq,Int.reduceToNat]
   refine wp_for (fun q e H=>∃j,q=N - j∧j≤N∧e 41= .s (.int .i64 (j:Nat))∧e 40= .s (.int .i64 (N:Nat))∧e 4= .ptr (h.length+1) [0] 1∧e 5= .ptr (h.length+2) [0] 1∧e 2= .ptr h.length [0] 1∧
       ∃f' x kk A,Fw [] h H∧H[h.length]? =some (.cells (some 41) [A])∧A.ty=some 41∧H[h.length+1]? =some (rdr f' (vsS j (l4,b4)).2.1 (vsS j (l4,b4)).2.2)∧H[h.length+2]? =some (recX ⟨3,(byte0 a:Nat),0,(beN ep:Nat),zeroV,(vsS j (l4,b4)).1⟩ true x)∧XR H (some 31) kk x ((vsS j (l4,b4)).1.map Vault.enc)∧h.length+3≤kk∧∀v∈(vsS j (l4,b4)).1,v.wf)
     (fun e H=> recM h l e H) N _ _ ?_ ?_ ?_
   ·refine ⟨0,rfl,by omega,rfl,rfl,rfl,rfl,rfl,f4,.imm true (some 31) [],h.length+3,_,Fw.app [] h _,G0 _ _,?_,G1 _ _ _,(G2 _ _ _ _).trans ?_,XR.nil _ _ _,Nat.le_refl _,fun v hv=> by cases hv⟩
    ·rfl
    ·rfl
   ·rintro q e H ⟨j,rfl,hj,e41,e40,e4,e5,e2,f',x,kk,A,fw,g0,hA,g1,g2,xr,hk,hwf⟩
    by_cases cd:j < N
    ·have cj:(j:Int)<(N:Int):=by omega
     have ev:vsS (j+1) (l4,b4)=((vsS j (l4,b4)).1++[(vaultS (vsS j (l4,b4)).2).1],(vaultS (vsS j (l4,b4)).2).2):=rfl
     have hvl:=vsS_len j (l4,b4)
     generalize vsS j (l4,b4)=w at ev hvl g1 g2 xr hwf
     obtain ⟨vs,l5,b5⟩:=w
     simp only at ev hvl g1 g2 xr hwf
     obtain ⟨f6,cv⟩:=rvault_ok (h.length+1) f' b5 l5
     replace cv:=cv h.length H g1
     have hvw:(vaultS (l5,b5)).1.wf:=vaultS_wf _
     generalize vaultS (l5,b5)=y at ev cv hvw
     obtain ⟨v,l6,b6⟩:=y
     simp only at ev cv hvw
     have hlt:=q6z g2
     have xr1:=xr.set (j:=h.length+1) (by omega) (rdr f6 l6 b6)
     have g01:(H.set (h.length+1) (rdr f6 l6 b6))[h.length]? =_:=(List.getElem?_set_ne (by omega)).trans g0
     have g11:(H.set (h.length+1) (rdr f6 l6 b6))[h.length+1]? =some (rdr f6 l6 b6):=q9z g1
     have g21:(H.set (h.length+1) (rdr f6 l6 b6))[h.length+2]? =_:=(List.getElem?_set_ne (by omega)).trans g2
     have fw1:∀i b0,h[i]? =some b0→(H.set (h.length+1) (rdr f6 l6 b6))[i]? =some b0:=fun i b0 hb=> by
       have:=q6z hb
       rw[List.getElem?_set_ne (by omega)];exact fw.old _ _ hb (by simp)
     have hle1:(H.set (h.length+1) (rdr f6 l6 b6)).length=H.length:=by simp
     generalize H.set (h.length+1) (rdr f6 l6 b6)=H1 at cv xr1 g01 g11 g21 fw1 hle1
     obtain ⟨x',H',k',ap,xr',hk1,hk2,hk3,hk4,hold⟩:=xr1.pushL (n:=h.length) (bytes:=96) (ys:=[v.enc]) (m:=1) (by omega) (by omega) rfl (fun z hz=> by rw[List.mem_singleton] at hz;subst hz;exact enc_grV v) (by simp;omega)
     have g02:=hold _ _ (by omega) g01
     have g12:=hold _ _ (by omega) g11
     have g22:=hold _ _ (by omega) g21
     have hxt:=xr'.ty
     have hxo:=xr.ty
     have w3:IntKind.i64.wrap ((j:Int)+1)=((j+1:Nat):Int):=q17z (by omega)
     have c0:h.length≤h.length+2:=by omega
     have hlt1:=q6z g21
     have g23:∀X:Hp,(H1++X)[h.length+2]? =_:=fun X=>(List.getElem?_append_left hlt1).trans g21
     have g22':=g22
     simp only[recX] at g2 g22 g21 g23
     simp only[e41,e40,e4,e5,e2,cj,g2,cv,enc_tyV,enc_soV,ap,g22,g21,g23,hxo.1,hxt.1,hxt.2,w3,c0,decide_true,Bool.true_or,or_true,true_and,go_sem,↓reduceIte,Nat.reduceEqDiff,Nat.reduceBEq,Nat.reduceAdd,Nat.reduceSub,Nat.reduceLT,Nat.reduceLeDiff,Int.reduceLT,Int.reduceLE,Int.reduceEq,Int.reduceToNat]
     have hne:∀i,i≠h.length+2→∀B,(H'.set (h.length+2) B)[i]? =H'[i]? :=fun i hi B=> List.getElem?_set_ne (fun e=> hi e.symm)
     refine ⟨N - (j+1),by omega,j+1,rfl,by omega,rfl,f6,x',k',A,?_,(hne _ (by omega) _).trans g02,hA,?_,?_,?_,by omega,?_⟩
     ·refine ⟨by simp;omega,fun i b0 hb _=> ?_,fun i l0 hb=> ?_⟩
      ·have:=q6z hb
       rw[hne _ (by omega)];exact hold _ _ (by omega) (fw1 _ _ hb)
      ·have:=q6z hb
       rw[hne _ (by omega)];exact hold _ _ (by omega) (fw1 _ _ hb)
     ·rw[ev];exact (hne _ (by omega) _).trans g12
     ·rw[ev];exact q9z g22
     ·rw[ev]
      have:=xr'.set (j:=h.length+2) (by omega) (Blk.cells (some 41) [.st 41 [.s (.int .i64 3),.s (.int .i64 (byte0 a:Nat)),.s (.int .i64 0),.s (.int .u64 (beN ep:Nat)),zeroV.encF true,x']])
      simpa using this
     ·rw[ev]
      intro w hw
      simp only[List.mem_append,List.mem_singleton] at hw
      rcases hw with hw | rfl
      ·exact hwf _ hw
      ·exact hvw
    ·have cj:¬(j:Int)<(N:Int):=by omega
     obtain rfl:j=N:=by omega
     simp only[e41,e40,cj,go_sem,↓reduceIte,Nat.reduceEqDiff,Nat.reduceBEq,Nat.reduceAdd,Nat.reduceSub,Nat.reduceLT,Nat.reduceLeDiff,Int.reduceLT,Int.reduceLE,Int.reduceEq,Int.reduceToNat]
     exact ⟨e4,e5,e2,_,_,_,f',true,x,kk,A,hrec,fw,g0,hA,g1,g2,xr,hk,hwf⟩
   ·rintro e H hM
    exact hK _ _ hM
  by_cases k4:bk=4
  ·subst k4
   rw[if_neg (by omega),if_neg (by omega),if_neg (by omega),if_pos rfl] at hrec
   obtain ⟨f2,c2⟩:=one_ok (h.length+1) f1 b1 l1
   replace c2:=atR c2
   generalize takeS 1 (l1,b1)=s2 at *
   obtain ⟨a,l2,b2⟩:=s2
   simp only at c2 hrec
   obtain ⟨f4,c4⟩:=num_ok (h.length+1) f2 b2 l2
   replace c4:=atR c4
   generalize takeS 8 (l2,b2)=s4 at *
   obtain ⟨e,l4,b4⟩:=s4
   simp only at c4 hrec
   simp only[rdr] at c2 c4
   have q1:(((4:Nat):Int)=1)=False:=by simp
   have q2:(((4:Nat):Int)=2)=False:=by simp
   have q3:(((4:Nat):Int)=3)=False:=by simp
   have q4:(((4:Nat):Int)=4)=True:=by simp
   simp only[q1,q2,q3,q4,c2,c4,decide_true,decide_false,enc_tyV,enc_soV,go_sem,↓reduceIte,Nat.reduceEqDiff,Nat.reduceBEq,Nat.reduceAdd,Nat.reduceSub,Nat.reduceLT,Nat.reduceLeDiff,Int.reduceLT,Int.reduceLE,Int.reduceEq,Int.reduceToNat]
   refine hK _ _ ⟨rfl,rfl,rfl,_,_,_,f4,true,.imm true (some 31) [],h.length+3,_,hrec,Fw.app [] h _,G0 _ _,?_,G1 _ _ _,(G2 _ _ _ _).trans ?_,XR.nil _ _ _,Nat.le_refl _,fun v hv=> by cases hv⟩
   ·rfl
   ·rfl
  ·rw[if_neg k1,if_neg k2,if_neg k3,if_neg k4] at hrec
   have q1:(bk=1)=False:=eq_false k1
   have q2:(bk=2)=False:=eq_false k2
   have q3:(bk=3)=False:=eq_false k3
   have q4:(bk=4)=False:=eq_false k4
   simp only[a1,a2,a3,a4,q1,q2,q3,q4,decide_true,decide_false,go_sem,↓reduceIte,Nat.reduceEqDiff,Nat.reduceBEq,Nat.reduceAdd,Nat.reduceSub,Nat.reduceLT,Nat.reduceLeDiff,Int.reduceLT,Int.reduceLE,Int.reduceEq,Int.reduceToNat]
   refine hK _ _ ⟨rfl,rfl,rfl,_,_,_,f1,true,.imm true (some 31) [],h.length+3,_,hrec,Fw.app [] h _,G0 _ _,?_,G1 _ _ _,(G2 _ _ _ _).trans ?_,XR.nil _ _ _,Nat.le_refl _,fun v hv=> by cases hv⟩
   ·rfl
   ·rfl
abbrev cmpB (a b:Bs):Int:=Lib.compareBytes a b
theorem cmp_self :∀a:Bs,cmpB a a=0
 | []=> rfl
 | x::a=> by simp only[cmpB,Lib.compareBytes,UInt8.lt_irrefl,if_false];exact cmp_self a
theorem cmp_zero :∀a b:Bs,cmpB a b=0→a=b
 | [],[],_=> rfl
 | [],_::_,h=> by simp[cmpB,Lib.compareBytes] at h
 | _::_,[],h=> by simp[cmpB,Lib.compareBytes] at h
 | x::a,y::b,h=> by
   simp only[cmpB,Lib.compareBytes] at h
   split at h
   ·cases h
   ·split at h
    ·cases h
    ·rename_i h1 h2
     rw[UInt8.lt_iff_toNat_lt] at h1 h2
     have:x=y:=UInt8.toNat_inj.1 (by omega)
     rw[this,cmp_zero a b h]
theorem cmp_anti :∀a b:Bs,cmpB a b= - cmpB b a
 | [],[]=> rfl
 | [],_::_=> rfl
 | _::_,[]=> rfl
 | x::a,y::b=> by
   have ih:=cmp_anti a b
   simp only[cmpB] at ih
   simp only[cmpB,Lib.compareBytes,UInt8.lt_iff_toNat_lt]
   by_cases h1:x.toNat < y.toNat
   ·rw[if_pos h1,if_neg (by omega),if_pos h1]
   ·by_cases h2:y.toNat < x.toNat
    ·rw[if_neg h1,if_pos h2,if_pos h2];rfl
    ·rw[if_neg h1,if_neg h2,if_neg h2,if_neg h1];exact ih
theorem cmp_trans :∀a b c:Bs,cmpB a b < 0→cmpB b c < 0→cmpB a c < 0
 | [],[],_,h,_=> by simp[cmpB,Lib.compareBytes] at h
 | [],_::_,[],_,h=> by simp[cmpB,Lib.compareBytes] at h
 | [],_::_,_::_,_,_=> by simp[cmpB,Lib.compareBytes]
 | _::_,[],_,h,_=> by simp[cmpB,Lib.compareBytes] at h
 | _::_,_::_,[],_,h=> by simp[cmpB,Lib.compareBytes] at h
 | x::a,y::b,z::c,h1,h2=> by
   have ih:=cmp_trans a b c
   simp only[cmpB] at ih
   simp only[cmpB,Lib.compareBytes,UInt8.lt_iff_toNat_lt] at h1 h2 ⊢
   split at h1
   ·split at h2
    ·rw[if_pos (by omega)];decide
    ·split at h2
     ·cases h2
     ·rw[if_pos (by omega)];decide
   ·split at h1
    ·cases h1
    ·split at h2
     ·rw[if_pos (by omega)];decide
     ·split at h2
      ·cases h2
      ·rw[if_neg (by omega),if_neg (by omega)];exact ih h1 h2
def Rise (l:List Vault):Prop:=l.Pairwise fun v w=> cmpB v.iD w.iD < 0
def pos (l:List Vault) (id:Bs):Nat:=l.countP fun v=> decide (cmpB v.iD id < 0)
theorem pos_le (l:List Vault) (id:Bs):pos l id≤l.length:=List.countP_le_length
theorem pos_lt {id:Bs}:∀ {l:List Vault},Rise l→∀ {i:Nat} {v:Vault},l[i]? =some v→(cmpB v.iD id < 0↔i < pos l id)
 | [],_,i,v,h=> by simp at h
 | w::l,hr,i,v,h=> by
   obtain ⟨h1,h2⟩:=List.pairwise_cons.1 hr
   simp only[pos,List.countP_cons]
   by_cases hw:cmpB w.iD id < 0
   ·simp only[hw,decide_true,if_true]
    cases i with
    | zero=> simp at h;subst h;simp[hw]
    | succ i=>
      have:=pos_lt (id:=id) h2 (by simpa using h)
      rw[this];unfold pos;omega
   ·simp only[hw,decide_false,Bool.false_eq_true,if_false,Nat.add_zero]
    have hz:pos l id=0:=by
      rw[pos,List.countP_eq_zero]
      intro x hx
      have h3:=h1 x hx
      simp only[decide_eq_true_eq]
      intro h4
      exact hw (cmp_trans _ _ _ h3 h4)
    unfold pos at hz
    rw[hz]
    cases i with
    | zero=> simp at h;subst h;simp[hw]
    | succ i=>
      have h3:=h1 v (List.mem_of_getElem? (by simpa using h))
      constructor
      ·intro h4;exact absurd (cmp_trans _ _ _ h3 h4) hw
      ·omega
theorem turn_ok (b:Nat) (h:Hp) (x k:Nat) (hx:x < 4294967296) (hk:k≤31):run fns pr b 130 [.s (.int .u32 x),.s (.int .i64 k)] h=some (.s (.int .u32 (rot k x:Nat)),h):=by
 refine Vm.runP (nt:=15) rfl fit130 (by simp) ?_
 have hvb:(0:Nat)=0:=rfl
 try simp only[B130,B130R0,B130L0,go_sem,↓reduceIte,Nat.reduceEqDiff,Nat.reduceBEq,Nat.reduceAdd,Nat.reduceSub,Nat.reduceLT,Nat.reduceLeDiff,Int.reduceLT,Int.reduceLE,Int.reduceEq,Int.reduceToNat]
 repeat' (
   first | refine q5z ?_ ?_ | refine q3z ?_ ?_ | refine q4z ?_ ?_
   all_goals intro hvc
   all_goals first | replace hvc:=q2z hvc | replace hvc:=q1z hvc | skip
   all_goals first | subst hvc | replace hvb:=And.intro hvc hvb
   all_goals try simp only[hvb,B130,B130R0,B130L0,go_sem,↓reduceIte,Nat.reduceEqDiff,Nat.reduceBEq,Nat.reduceAdd,Nat.reduceSub,Nat.reduceLT,Nat.reduceLeDiff,Int.reduceLT,Int.reduceLE,Int.reduceEq,Int.reduceToNat])
 refine wp_for (fun m e H=>∃j,m=k - j∧j≤k∧e 1= .s (.int .i64 ((k - j:Nat):Int))∧e 0= .s (.int .u32 (rot j x:Nat))∧H=h)
   (fun e H=> e 0= .s (.int .u32 (rot k x:Nat))∧H=h)
   k _ _ ⟨0,rfl,by omega,rfl,by rw[rot_zero hx];rfl,rfl⟩ ?_ ?_
 ·rintro m e H ⟨j,rfl,hj,e1,e0,rfl⟩
  have hy:=rot_lt (k:=j) hx (by omega)
  by_cases c:j < k
  ·have c':(0:Int)<((k - j:Nat):Int):=by omega
   have hs:=rot_succ (x:=x) (j:=j) hx (by omega)
   generalize rot j x=y at e0 hy hs
   have s1:shlI .u32 (y:Int) 1=_:=shl_i (a:=y) (k:=1) (by omega)
   have s2:shrI .u32 (y:Int) 31=_:=shr_i (a:=y) (k:=31) (by omega)
   have s3:=or_i (a:=y * 2 ^ 1 % 4294967296) (b:=y / 2 ^ 31) (Nat.mod_lt _ (by decide)) (Nat.lt_of_le_of_lt (Nat.div_le_self _ _) hy)
   rw[show (y * 2 ^ 1 % 4294967296) ||| (y / 2 ^ 31)=rot 1 y from rot_or (k:=1) hy (by omega),hs] at s3
   have h1:∀cf base h,opV cf base h (.bin .num .shl) [.s (.int .u32 y),.s (.int .u64 1)]=some (.s (.int .u32 ((y * 2 ^ 1 % 4294967296:Nat):Int)),h):=fun cf base h=> by rw[←s1];exact o_shl cf base h .u32 .u64 (y:Int) 1 (by omega)
   have h2:∀cf base h,opV cf base h (.bin .num .shr) [.s (.int .u32 y),.s (.int .u64 31)]=some (.s (.int .u32 ((y / 2 ^ 31:Nat):Int)),h):=fun cf base h=> by rw[←s2];exact o_shr cf base h .u32 .u64 (y:Int) 31 (by omega)
   clear s1 s2
   generalize y * 2 ^ 1 % 4294967296=y1 at h1 s3
   generalize y / 2 ^ 31=y2 at h2 s3
   have hw:IntKind.i64.wrap (((k - j:Nat):Int) - 1)=((k - (j+1):Nat):Int):=by rw[wrap_i64 (by omega) (by omega)];omega
   have hvb:(0:Nat)=0:=rfl
   try simp only[e1,e0,c',h1,h2,s3,hw,go_sem,↓reduceIte,Nat.reduceEqDiff,Nat.reduceBEq,Nat.reduceAdd,Nat.reduceSub,Nat.reduceLT,Nat.reduceLeDiff,Int.reduceLT,Int.reduceLE,Int.reduceEq,Int.reduceToNat]
   repeat' (
     first | refine q5z ?_ ?_ | refine q3z ?_ ?_ | refine q4z ?_ ?_
     all_goals intro hvc
     all_goals first | replace hvc:=q2z hvc | replace hvc:=q1z hvc | skip
     all_goals first | subst hvc | replace hvb:=And.intro hvc hvb
     all_goals try simp only[hvb,e1,e0,c',h1,h2,s3,hw,go_sem,↓reduceIte,Nat.reduceEqDiff,Nat.reduceBEq,Nat.reduceAdd,Nat.reduceSub,Nat.reduceLT,Nat.reduceLeDiff,Int.reduceLT,Int.reduceLE,Int.reduceEq,Int.reduceToNat])
   all_goals exact ⟨k - (j+1),by omega,j+1,rfl,by omega,rfl,rfl⟩
  ·have c':¬(0:Int)<((k - j:Nat):Int):=by omega
   have:j=k:=by omega
   subst this
   have hvb:(0:Nat)=0:=rfl
   try simp only[e1,e0,c',go_sem,↓reduceIte,Nat.reduceEqDiff,Nat.reduceBEq,Nat.reduceAdd,Nat.reduceSub,Nat.reduceLT,Nat.reduceLeDiff,Int.reduceLT,Int.reduceLE,Int.reduceEq,Int.reduceToNat]
   repeat' (
     first | refine q5z ?_ ?_ | refine q3z ?_ ?_ | refine q4z ?_ ?_
     all_goals intro hvc
     all_goals first | replace hvc:=q2z hvc | replace hvc:=q1z hvc | skip
     all_goals first | subst hvc | replace hvb:=And.intro hvc hvb
     all_goals try simp only[hvb,e1,e0,c',go_sem,↓reduceIte,Nat.reduceEqDiff,Nat.reduceBEq,Nat.reduceAdd,Nat.reduceSub,Nat.reduceLT,Nat.reduceLeDiff,Int.reduceLT,Int.reduceLE,Int.reduceEq,Int.reduceToNat])
 ·rintro e H ⟨e0,rfl⟩
  have hvb:(0:Nat)=0:=rfl
  try simp only[e0,go_sem,↓reduceIte,Nat.reduceEqDiff,Nat.reduceBEq,Nat.reduceAdd,Nat.reduceSub,Nat.reduceLT,Nat.reduceLeDiff,Int.reduceLT,Int.reduceLE,Int.reduceEq,Int.reduceToNat]
  repeat' (
    first | refine q5z ?_ ?_ | refine q3z ?_ ?_ | refine q4z ?_ ?_
    all_goals intro hvc
    all_goals first | replace hvc:=q2z hvc | replace hvc:=q1z hvc | skip
    all_goals first | subst hvc | replace hvb:=And.intro hvc hvb
    all_goals try simp only[hvb,e0,go_sem,↓reduceIte,Nat.reduceEqDiff,Nat.reduceBEq,Nat.reduceAdd,Nat.reduceSub,Nat.reduceLT,Nat.reduceLeDiff,Int.reduceLT,Int.reduceLE,Int.reduceEq,Int.reduceToNat])
theorem ground_orR (p:Bool) (n:Value):(p || (V.s n).ground)=true:=by cases p <;> rfl
theorem rstir_ok (b:Nat) (h:Hp) (id:Nat) (x:W) (hx:x.ok) (hg:h[id]? =some (.cells none x.vs)):
 run fns pr b 122 [.ref id [] none 0 4 4] h=some (.tup [],h.set id (.cells none (stirW x).vs)):=by
 refine Vm.runP (nt:=78) rfl fit122 (by simp) ?_
 have hss:∀c,(h.set id c)[id]? =some c:=fun c=> q9z hg
 have hs2:∀c d,(h.set id c).set id d=h.set id d:=fun c d=> List.set_set ..
 have htk:∀c,(h.set id c).take h.length=h.set id c:=fun c=> List.take_of_length_le (by rw[List.length_set];exact Nat.le_refl _)
 have r16:∀b h y z,run fns pr b 130 [.s (.int .u32 ((xr y z:Nat):Int)),.s (.int .i64 16)] h=some (.s (.int .u32 ((rot 16 (xr y z):Nat):Int)),h):=fun b h y z=> turn_ok b h _ 16 (xr_lt _ _) (by omega)
 have r12:∀b h y z,run fns pr b 130 [.s (.int .u32 ((xr y z:Nat):Int)),.s (.int .i64 12)] h=some (.s (.int .u32 ((rot 12 (xr y z):Nat):Int)),h):=fun b h y z=> turn_ok b h _ 12 (xr_lt _ _) (by omega)
 have r8:∀b h y z,run fns pr b 130 [.s (.int .u32 ((xr y z:Nat):Int)),.s (.int .i64 8)] h=some (.s (.int .u32 ((rot 8 (xr y z):Nat):Int)),h):=fun b h y z=> turn_ok b h _ 8 (xr_lt _ _) (by omega)
 have r7:∀b h y z,run fns pr b 130 [.s (.int .u32 ((xr y z:Nat):Int)),.s (.int .i64 7)] h=some (.s (.int .u32 ((rot 7 (xr y z):Nat):Int)),h):=fun b h y z=> turn_ok b h _ 7 (xr_lt _ _) (by omega)
 simp only[W.vs] at hg
 have l0:(0:Int)<((4:Nat):Int):=by decide
 have l1:(1:Int)<((4:Nat):Int):=by decide
 have l2:(2:Int)<((4:Nat):Int):=by decide
 have l3:(3:Int)<((4:Nat):Int):=by decide
 have hvb:(0:Nat)=0:=rfl
 try simp only[B122,l0,l1,l2,l3,hg,hss,hs2,htk,ad_i,xr_i,r16,r12,r8,r7,ground_orR,go_sem,↓reduceIte,Nat.reduceEqDiff,Nat.reduceBEq,Nat.reduceAdd,Nat.reduceSub,Nat.reduceLT,Nat.reduceLeDiff,Int.reduceLT,Int.reduceLE,Int.reduceEq,Int.reduceToNat]
 repeat' (
   first | refine q5z ?_ ?_ | refine q3z ?_ ?_ | refine q4z ?_ ?_
   all_goals intro hvc
   all_goals first | replace hvc:=q2z hvc | replace hvc:=q1z hvc | skip
   all_goals first | subst hvc | replace hvb:=And.intro hvc hvb
   all_goals try simp only[hvb,B122,l0,l1,l2,l3,hg,hss,hs2,htk,ad_i,xr_i,r16,r12,r8,r7,ground_orR,go_sem,↓reduceIte,Nat.reduceEqDiff,Nat.reduceBEq,Nat.reduceAdd,Nat.reduceSub,Nat.reduceLT,Nat.reduceLeDiff,Int.reduceLT,Int.reduceLE,Int.reduceEq,Int.reduceToNat])
 all_goals rfl
theorem word_ok (b:Nat) (h:Hp) (x:V) (l:Bs) (hb:BR h x l) (hl:4≤l.length):run fns pr b 121 [x] h=some (.s (.int .u32 (le4 l:Nat)),h):=by
 refine Vm.runP (nt:=18) rfl fit121 (by simp) ?_
 have hvb:(0:Nat)=0:=rfl
 try simp only[B121,B121R0,B121L0,go_sem,↓reduceIte,Nat.reduceEqDiff,Nat.reduceBEq,Nat.reduceAdd,Nat.reduceSub,Nat.reduceLT,Nat.reduceLeDiff,Int.reduceLT,Int.reduceLE,Int.reduceEq,Int.reduceToNat]
 repeat' (
   first | refine q5z ?_ ?_ | refine q3z ?_ ?_ | refine q4z ?_ ?_
   all_goals intro hvc
   all_goals first | replace hvc:=q2z hvc | replace hvc:=q1z hvc | skip
   all_goals first | subst hvc | replace hvb:=And.intro hvc hvb
   all_goals try simp only[hvb,B121,B121R0,B121L0,go_sem,↓reduceIte,Nat.reduceEqDiff,Nat.reduceBEq,Nat.reduceAdd,Nat.reduceSub,Nat.reduceLT,Nat.reduceLeDiff,Int.reduceLT,Int.reduceLE,Int.reduceEq,Int.reduceToNat])
 have hsr:SR h x none (l.map byteV):=by
   rcases hb with ⟨f,rfl⟩ | ⟨id,off,bl,rfl,h1,h2,h3⟩
   ·exact .inl ⟨f,rfl⟩
   ·exact .inr ⟨id,off,bl.length,bl.map byteV,by simp,h1,by simp,by simpa using h2,by rw[List.length_map,←List.map_drop,←List.map_take,h3]⟩
 have hv:∀i,i < 4→∃u:Nat,u < 256∧(l.getD i 0).toNat=u∧(∀cf base,opV cf base h (.ias none) [x,.s (.int .i64 (i:Nat))]=some (eltP x i,h))∧(∀cf base,opV cf base h (.ld none) [eltP x i]=some (.s (.int .u8 u),h)):=by
   intro i hi
   have h1:l[i]? =some (l.getD i 0):=by rw[List.getD,List.getElem?_eq_getElem (by omega)];rfl
   exact ⟨_,(l.getD i 0).toNat_lt,rfl,fun cf base=> hsr.o_ias (by simp;omega),fun cf base=> hsr.o_ld (v:=byteV (l.getD i 0)) (by rw[List.getElem?_map,h1];rfl) rfl⟩
 refine wp_for (fun m e H=>∃j,m=j∧j≤4∧e 4= .s (.int .i64 ((j:Nat) - 1))∧e 3= .s (.int .u32 (le4 l / 256 ^ j:Nat))∧e 0=x∧H=h)
   (fun e H=> e 3= .s (.int .u32 (le4 l:Nat))∧H=h)
   4 _ _ ⟨4,rfl,by omega,rfl,by rw[le4_top];rfl,rfl,rfl⟩ ?_ ?_
 ·rintro m e H ⟨j,rfl,hj,e4,e3,e0,rfl⟩
  cases m with
  | zero=>
    have c':¬(0:Int)≤((0:Nat):Int) - 1:=by omega
    rw[Nat.pow_zero,Nat.div_one] at e3
    have hvb:(0:Nat)=0:=rfl
    try simp only[e4,c',go_sem,↓reduceIte,Nat.reduceEqDiff,Nat.reduceBEq,Nat.reduceAdd,Nat.reduceSub,Nat.reduceLT,Nat.reduceLeDiff,Int.reduceLT,Int.reduceLE,Int.reduceEq,Int.reduceToNat]
    repeat' (
      first | refine q5z ?_ ?_ | refine q3z ?_ ?_ | refine q4z ?_ ?_
      all_goals intro hvc
      all_goals first | replace hvc:=q2z hvc | replace hvc:=q1z hvc | skip
      all_goals first | subst hvc | replace hvb:=And.intro hvc hvb
      all_goals try simp only[hvb,e4,c',go_sem,↓reduceIte,Nat.reduceEqDiff,Nat.reduceBEq,Nat.reduceAdd,Nat.reduceSub,Nat.reduceLT,Nat.reduceLeDiff,Int.reduceLT,Int.reduceLE,Int.reduceEq,Int.reduceToNat])
    all_goals exact e3
  | succ j=>
    have hj1:(((j+1:Nat):Int) - 1)=(j:Int):=by omega
    rw[hj1] at e4
    have c':(0:Int)≤(j:Int):=by omega
    obtain ⟨u,hu,hu2,hia,hld⟩:=hv j (by omega)
    have hst:=le4_step l j (by omega)
    have hsm:=le4_small l j
    rw[hu2] at hst
    generalize le4 l / 256 ^(j+1)=y at e3 hst hsm
    have hw:IntKind.i64.wrap ((j:Int) - 1)=(j:Int) - 1:=wrap_i64 (by omega) (by omega)
    have wu:IntKind.u32.wrap (u:Int)=(u:Int):=wrap_u32 (by omega) (by omega)
    have s1:IntKind.u32.wrap ((y:Int)* 256)=((y * 256:Nat):Int):=by rw[wrap_u32 (by omega) (by omega)];omega
    have s3:IntKind.u32.wrap (((y * 256:Nat):Int)+(u:Int))=((y * 256+u:Nat):Int):=by rw[wrap_u32 (by omega) (by omega)];omega
    rw[hst] at s3
    have hvb:(0:Nat)=0:=rfl
    try simp only[e4,e3,e0,c',hia,hld,wu,s1,s3,hw,go_sem,↓reduceIte,Nat.reduceEqDiff,Nat.reduceBEq,Nat.reduceAdd,Nat.reduceSub,Nat.reduceLT,Nat.reduceLeDiff,Int.reduceLT,Int.reduceLE,Int.reduceEq,Int.reduceToNat]
    repeat' (
      first | refine q5z ?_ ?_ | refine q3z ?_ ?_ | refine q4z ?_ ?_
      all_goals intro hvc
      all_goals first | replace hvc:=q2z hvc | replace hvc:=q1z hvc | skip
      all_goals first | subst hvc | replace hvb:=And.intro hvc hvb
      all_goals try simp only[hvb,e4,e3,e0,c',hia,hld,wu,s1,s3,hw,go_sem,↓reduceIte,Nat.reduceEqDiff,Nat.reduceBEq,Nat.reduceAdd,Nat.reduceSub,Nat.reduceLT,Nat.reduceLeDiff,Int.reduceLT,Int.reduceLE,Int.reduceEq,Int.reduceToNat])
    all_goals exact ⟨j,by omega,j,rfl,by omega,rfl,rfl⟩
 ·rintro e H ⟨e3,rfl⟩
  have hvb:(0:Nat)=0:=rfl
  try simp only[e3,go_sem,↓reduceIte,Nat.reduceEqDiff,Nat.reduceBEq,Nat.reduceAdd,Nat.reduceSub,Nat.reduceLT,Nat.reduceLeDiff,Int.reduceLT,Int.reduceLE,Int.reduceEq,Int.reduceToNat]
  repeat' (
    first | refine q5z ?_ ?_ | refine q3z ?_ ?_ | refine q4z ?_ ?_
    all_goals intro hvc
    all_goals first | replace hvc:=q2z hvc | replace hvc:=q1z hvc | skip
    all_goals first | subst hvc | replace hvb:=And.intro hvc hvb
    all_goals try simp only[hvb,e3,go_sem,↓reduceIte,Nat.reduceEqDiff,Nat.reduceBEq,Nat.reduceAdd,Nat.reduceSub,Nat.reduceLT,Nat.reduceLeDiff,Int.reduceLT,Int.reduceLE,Int.reduceEq,Int.reduceToNat])
end Go.Proofs.YtannfageakbpmaaGreat
