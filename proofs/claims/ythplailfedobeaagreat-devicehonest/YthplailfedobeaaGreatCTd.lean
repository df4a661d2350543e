/- Texts for DeviceHonest, part 4. Conditions: none. -/
import Derived.Test.YthplailfedobeaaGreatCTc
set_option linter.unusedSimpArgs false
set_option linter.unusedVariables false
set_option linter.unusedSectionVars false
namespace Go.Proofs.YthplailfedobeaaGreat
open Go Go.Vm Go.Proofs Go.Cl
set_option maxRecDepth 100000
structure aL where
 mem:Int
 bj:Int
 key:Bs
 is:Int
 st:ba
 dk:Dk
 r:ah
 steps:Int
 bd:Int
 dG:Int
def aL.down (D:aL) (t:Int):aL:= {D with is:=2,bd:= -1,dk:=D.dk.jg t}
def aL.step (D:aL):Bool×aL:=if D.bd=0 then (false,D.down D.dG) else (true, {D with bd:=if 0 < D.bd then D.bd - 1 else D.bd,steps:=D.steps+1})
def aL.put (D:aL) (n:Int) (l:Bs):aL:= {D with dk:=if Dk.kg n l=true then D.dk.put n.toNat l else D.dk}
def aL.lay (D:aL) (n:Int) (l:Bs):Bool×aL:=
 if D.step.1=false then (false,D.step.2) else if (D.step.2.put n l).step.1=false then (false,(D.step.2.put n l).step.2)
 else (true, {(D.step.2.put n l).step.2 with dk:=(D.step.2.put n l).step.2.dk.sync})
def eL (D:aL) (sp:V) (did:Nat):List V:=[.st 73 [.s (.int .i64 D.mem),.s (.int .i64 D.bj),.arr 27 (D.key.map aa),.s (.int .i64 D.is),sp,.ptr did [0] 1,D.r.enc,.s (.int .i64 D.steps),.s (.int .i64 D.bd),.s (.int .i64 D.dG)]]
structure vT (h:Hp) (id:Nat) (D:aL) (F:List Nat) (did:Nat) (sp:V) (sid:Nat) (Fs:List Nat):Prop where
 o:h[id]? =some (.cells (some 73) (eL D sp did))
 d:Bp.DR h did D.dk
 s:D.is=1→sp= .ptr sid [0] 1∧iU h sid D.st Fs
 ty:sp.ty=none
 so:sp.aA=true
 f:F=id::did::Fs
 n1:id≠did
 n2:id∉Fs
 n3:did∉Fs
 fl:∀j∈F,j < h.length
 kl:D.key.length=16
def lY (h:Hp) (id:Nat) (D:aL) (F:List Nat):Prop:=∃did sp sid Fs,vT h id D F did sp sid Fs
theorem vT.mono {S F Fs:List Nat} {h h':Hp} {id did sid:Nat} {D:aL} {sp:V} (hd:vT h id D F did sp sid Fs) (f:Fw S h h') (hS:∀j∈F,j∉S):vT h' id D F did sp sid Fs:=by
 obtain ⟨o,d,s,ty,so,rfl,n1,n2,n3,fl,kl⟩:=hd
 exact ⟨f.db _ _ o (hS _ (by simp)),d.mono f (hS _ (by simp)),fun hi=>⟨(s hi).1,(s hi).2.mono f fun j hj=> hS _ (by simp[hj])⟩,ty,so,rfl,n1,n2,n3,fun j hj=> f.lt (fl j hj),kl⟩
theorem lY.mono {S F:List Nat} {h h':Hp} {id:Nat} {D:aL} (hd:lY h id D F) (f:Fw S h h') (hS:∀j∈F,j∉S):lY h' id D F:=by
 obtain ⟨did,sp,sid,Fs,hd⟩:=hd
 exact ⟨did,sp,sid,Fs,hd.mono f hS⟩
theorem lY.lt {F:List Nat} {h:Hp} {id:Nat} {D:aL} (hd:lY h id D F):∀j∈F,j < h.length:=by
 obtain ⟨did,sp,sid,Fs,hd⟩:=hd
 exact hd.fl
theorem lY.mem {F:List Nat} {h:Hp} {id:Nat} {D:aL} (hd:lY h id D F):id∈F:=by
 obtain ⟨did,sp,sid,Fs,hd⟩:=hd
 rw[hd.f];simp
theorem lY.app {F:List Nat} {h:Hp} {id:Nat} {D:aL} (hd:lY h id D F) (X:Hp):lY (h++X) id D F:=hd.mono (Fw.app [] h X) (by simp)
theorem vT.EX {F Fs:List Nat} {h:Hp} {id did sid:Nat} {D D':aL} {sp:V} (hd:vT h id D F did sp sid Fs) (h1:D'.dk=D.dk) (h2:D'.is=1→D.is=1∧D'.st=D.st) (h3:D'.key.length=16):
 vT (h.set id (.cells (some 73) (eL D' sp did))) id D' F did sp sid Fs∧Fw F h (h.set id (.cells (some 73) (eL D' sp did))):=by
 have f:Fw [id] h (h.set id (.cells (some 73) (eL D' sp did))):=Fw.set (by simp) hd.o
 obtain ⟨o,d,s,ty,so,rfl,n1,n2,n3,fl,kl⟩:=hd
 refine ⟨⟨q9z o,by rw[h1];exact d.mono f (by simp[adY n1]),fun hi=> ?_,ty,so,rfl,n1,n2,n3,fun j hj=> f.lt (fl j hj),h3⟩,f.mono (by simp)⟩
 obtain ⟨a,b⟩:=h2 hi
 obtain ⟨c,e⟩:=s a
 exact ⟨c,by rw[b];exact e.mono f (fun j hj=> by simp;rintro rfl;exact n2 hj)⟩
theorem vT.Se {F Fs:List Nat} {h h':Hp} {id did sid:Nat} {D:aL} {sp:V} {K:Dk} (hd:vT h id D F did sp sid Fs) (hk:Bp.DR h' did K) (f:Fw [did] h h'):
 vT h' id {D with dk:=K} F did sp sid Fs∧Fw F h h':=by
 obtain ⟨o,d,s,ty,so,rfl,n1,n2,n3,fl,kl⟩:=hd
 exact ⟨⟨f.db _ _ o (by simp[n1]),hk,fun hi=>⟨(s hi).1,(s hi).2.mono f (fun j hj=> by simp;rintro rfl;exact n3 hj)⟩,ty,so,rfl,n1,n2,n3,fun j hj=> f.lt (fl j hj),kl⟩,f.mono (by simp)⟩
theorem Dj (b:Nat) (h:Hp) (id:Nat) (D:aL) (F:List Nat) (t:Int) (hF:∀j∈F,b≤j) (hd:lY h id D F):
 ∃v h',run fns pr b 22 [.ptr id [0] 1,.s (.int .i64 t)] h=some (v,h')∧v= .bP []∧lY h' id (D.down t) F∧Fw F h h':=by
 obtain ⟨did,sp,sid,Fs,hd⟩:=hd
 refine Vm.ef (nt:=16) rfl UU (by simp) ?_
 obtain ⟨h1,f1⟩:=hd.EX (D':= {D with is:=2,bd:= -1}) rfl (fun h=> by cases h) hd.kl
 have jo:b≤id:=hF _ (by rw[hd.f];simp)
 have qU:b≤did:=hF _ (by rw[hd.f];simp)
 obtain ⟨v2,H2,hc,rfl,d2,f2⟩:=Bp.Jy b _ did D.dk t qU h1.d
 obtain ⟨h3,f3⟩:=h1.Se d2 f2
 have hg:=hd.o
 have je:∀B,(h.set id B)[id]? =some B:=fun B=> q9z hg
 have bR:=q6z hg
 have dw:=hd.ty
 have jX:=hd.so
 simp only[eL,Bp.R] at hg hc
 simp only[B22,hg,je,jo,bR,adf,dw,jX,hc,go_sem,simprocAttr]
 exact ⟨⟨did,sp,sid,Fs,h3⟩,f1.trans f3⟩
theorem sJ (b:Nat) (h:Hp) (id:Nat) (D:aL) (F:List Nat) (hF:∀j∈F,b≤j) (hd:lY h id D F) (hs:0≤D.steps∧D.steps < 4611686018427387904) (hfu:D.bd≤9223372036854775807):
 ∃v h',run fns pr b 35 [.ptr id [0] 1] h=some (v,h')∧v= .s (.bool D.step.1)∧lY h' id D.step.2 F∧Fw F h h':=by
 have hdn:=Dj b h id D F D.dG hF hd
 obtain ⟨did,sp,sid,Fs,hd⟩:=hd
 refine Vm.ef (nt:=33) rfl Vl (by simp) ?_
 have hg:=hd.o
 have je:∀B,(h.set id B)[id]? =some B:=fun B=> q9z hg
 have bR:=q6z hg
 have dw:=hd.ty
 have jX:=hd.so
 have jo:b≤id:=hF _ (by rw[hd.f];simp)
 have w1:IntKind.i64.wrap (D.steps+1)=D.steps+1:=wrap_i64 (by omega) (by omega)
 simp only[eL] at hg
 unfold aL.step
 by_cases c0:D.bd=0
 ·rw[if_pos c0]
  obtain ⟨v2,H2,e2,rfl,d2,f2⟩:=hdn
  simp only[B35,hg,je,jo,bR,adf,dw,jX,c0,e2,go_sem,simprocAttr]
  exact ⟨d2,f2⟩
 ·rw[if_neg c0]
  obtain ⟨h1,f1⟩:=hd.EX (D':= {D with bd:=if 0 < D.bd then D.bd - 1 else D.bd,steps:=D.steps+1}) rfl (fun h=>⟨h,rfl⟩) hd.kl
  by_cases c1:0 < D.bd
  ·have w2:IntKind.i64.wrap (D.bd - 1)=D.bd - 1:=wrap_i64 (by omega) (by omega)
   simp only[c1,if_true,eL] at h1 f1 ⊢
   simp only[B35,hg,je,jo,bR,adf,dw,jX,c0,c1,w1,w2,go_sem,simprocAttr]
   exact ⟨⟨did,sp,sid,Fs,h1⟩,f1⟩
  ·simp only[c1,if_false,eL] at h1 f1 ⊢
   simp only[B35,hg,je,jo,bR,adf,dw,jX,c0,c1,w1,go_sem,simprocAttr]
   exact ⟨⟨did,sp,sid,Fs,h1⟩,f1⟩
theorem Po (b:Nat) (h:Hp) (id:Nat) (D:aL) (F:List Nat) (hd:lY h id D F):run fns pr b 10 [.ptr id [0] 1] h=some (.s (.int .i64 D.is),h):=by
 obtain ⟨did,sp,sid,Fs,hd⟩:=hd
 have hg:=hd.o
 simp only[eL] at hg
 refine Vm.aQ (nt:=7) rfl Uw (by simp) ?_
 simp only[B10,hg,go_sem,simprocAttr]
theorem kh (b:Nat) (h:Hp) (id:Nat) (D:aL) (F:List Nat) (hd:lY h id D F):run fns pr b 12 [.ptr id [0] 1] h=some (D.r.enc,h):=by
 obtain ⟨did,sp,sid,Fs,hd⟩:=hd
 have hg:=fun X=> q10z hd.o X
 simp only[eL] at hg
 refine Vm.aQ (nt:=7) rfl UA (by simp) ?_
 simp only[B12,hg,ah.cQ,ah.cR,ah.qT,acq,go_sem,simprocAttr]
def fe (D:aL):Int:=if D.is=2 then 29 else if D.is=3 then 28 else 0
theorem Jz (b:Nat) (h:Hp) (id:Nat) (D:aL) (F:List Nat) (hd:lY h id D F):run fns pr b 28 [.ptr id [0] 1] h=some (.s (.int .i64 (fe D)),h):=by
 obtain ⟨did,sp,sid,Fs,hd⟩:=hd
 have hg:=hd.o
 simp only[eL] at hg
 refine Vm.aQ (nt:=11) rfl U7 (by simp) ?_
 unfold fe
 by_cases c2:D.is=2
 ·simp only[B28,hg,c2,go_sem,simprocAttr]
  all_goals rfl
 ·by_cases c3:D.is=3
  ·simp only[B28,hg,c2,c3,go_sem,simprocAttr]
   all_goals rfl
  ·simp only[B28,hg,c2,c3,go_sem,simprocAttr]
   all_goals rfl
def aL.jq (D:aL) (n t:Int):aL:= {D with bd:=max n (-1),dG:=t}
theorem xy (b:Nat) (h:Hp) (id:Nat) (D:aL) (F:List Nat) (n t:Int) (hF:∀j∈F,b≤j) (hd:lY h id D F):
 ∃v h',run fns pr b 6 [.ptr id [0] 1,.s (.int .i64 n),.s (.int .i64 t)] h=some (v,h')∧v= .bP []∧lY h' id (D.jq n t) F∧Fw F h h':=by
 obtain ⟨did,sp,sid,Fs,hd⟩:=hd
 refine Vm.ef (nt:=15) rfl aaJ (by simp) ?_
 have hg:=hd.o
 have je:∀B,(h.set id B)[id]? =some B:=fun B=> q9z hg
 have bR:=q6z hg
 have jo:b≤id:=hF _ (by rw[hd.f];simp)
 have dw:=hd.ty
 have jX:=hd.so
 obtain ⟨h1,f1⟩:=hd.EX (D':=D.jq n t) rfl (fun h=>⟨h,rfl⟩) hd.kl
 simp only[eL] at hg
 simp only[eL,aL.jq] at h1 f1
 simp only[B6,hg,je,jo,bR,adf,dw,jX,go_sem,simprocAttr]
 exact ⟨⟨did,sp,sid,Fs,h1⟩,f1⟩
def aL.stop (D:aL):aL:=if D.is=1 then D.down 0 else D
theorem xz (b:Nat) (h:Hp) (id:Nat) (D:aL) (F:List Nat) (hF:∀j∈F,b≤j) (hd:lY h id D F):
 ∃v h',run fns pr b 8 [.ptr id [0] 1] h=some (v,h')∧v= .bP []∧lY h' id D.stop F∧Fw F h h':=by
 have hdn:=Dj b h id D F 0 hF hd
 have hd0:=hd
 obtain ⟨did,sp,sid,Fs,hd⟩:=hd
 have hg:=hd.o
 simp only[eL] at hg
 refine Vm.ef (nt:=9) rfl aaN (by simp) ?_
 unfold aL.stop
 by_cases c:D.is=1
 ·rw[if_pos c]
  obtain ⟨v2,H2,e2,rfl,d2,f2⟩:=hdn
  simp only[B8,hg,c,e2,go_sem,simprocAttr]
  exact ⟨d2,f2⟩
 ·rw[if_neg c]
  simp only[B8,hg,c,go_sem,simprocAttr]
  exact ⟨hd0,Fw.refl _ _⟩
structure oH (p:Nat) (N:Int) (D:aL):Prop where
 ec:D.dk.ec≤p
 s0:0≤D.steps
 s1:D.steps≤N
 f1:D.bd≤9223372036854775807
 gr:bm D.r=true
 gw:D.r.wf
 so:D.is=1→jG D.st
 is:D.is=1∨D.is=2∨D.is=3
theorem oH.wk {p p':Nat} {N N':Int} {D:aL} (hk:oH p N D) (h1:p≤p') (h2:N≤N'):oH p' N' D:=
 ⟨acN hk.ec h1,hk.s0,Int.le_trans hk.s1 h2,hk.f1,hk.gr,hk.gw,hk.so,hk.is⟩
theorem oH.down {p:Nat} {N:Int} {D:aL} (hk:oH p N D) (t:Int):oH 0 N (D.down t):=
 ⟨acm _,hk.s0,hk.s1,by simp[aL.down],hk.gr,hk.gw,fun h=> by simp[aL.down] at h,.inr (.inl rfl)⟩
theorem oH.step {p:Nat} {N:Int} {D:aL} (hk:oH p N D):oH p (N+1) D.step.2:=by
 unfold aL.step
 by_cases c:D.bd=0
 ·rw[if_pos c]
  exact (hk.down D.dG).wk (by omega) (by omega)
 ·rw[if_neg c]
  obtain ⟨h1,h2,h3,h4,h5,h6,h7,h8⟩:=hk
  exact ⟨h1,by simp only;omega,by simp only;omega,by simp only;split <;> omega,h5,h6,h7,h8⟩
theorem oH.put {p:Nat} {N:Int} {D:aL} (hk:oH p N D) (n:Int) (l:Bs):oH (p+1) N (D.put n l):=by
 obtain ⟨h1,h2,h3,h4,h5,h6,h7,h8⟩:=hk
 refine ⟨?_,h2,h3,h4,h5,h6,h7,h8⟩
 unfold aL.put
 simp only
 split
 ·simp only[Dk.put];omega
 ·omega
theorem oH.sync {p:Nat} {N:Int} {D:aL} (hk:oH p N D):oH 0 N {D with dk:=D.dk.sync}:=by
 obtain ⟨h1,h2,h3,h4,h5,h6,h7,h8⟩:=hk
 exact ⟨acm _,h2,h3,h4,h5,h6,h7,h8⟩
theorem oH.Yu {p:Nat} {N:Int} {D:aL} (hk:oH p N D) (hf:D.step.1=false):oH 0 N D.step.2:=by
 unfold aL.step at hf ⊢
 by_cases c:D.bd=0
 ·rw[if_pos c]
  exact hk.down D.dG
 ·rw[if_neg c] at hf;cases hf
theorem oH.lay {N:Int} {D:aL} (hk:oH 0 N D) (n:Int) (l:Bs):oH 0 (N+2) (D.lay n l).2:=by
 unfold aL.lay
 have k1:=hk.step
 cases c1:D.step.1 with
 | false=>
   rw[if_pos rfl]
   exact k1.wk (by omega) (by omega)
 | true=>
   rw[if_neg (by simp)]
   have k2:=k1.put n l
   have k3:=k2.step
   cases c3:(D.step.2.put n l).step.1 with
   | false=>
     rw[if_pos rfl]
     exact (k2.Yu c3).wk (by omega) (by omega)
   | true=>
     rw[if_neg (by simp)]
     have:=k3.sync
     rwa [show N+1+1=N+2 by omega] at this
def aL.same (D E:aL):Prop:=E.mem=D.mem∧E.bj=D.bj∧E.key=D.key∧E.st=D.st∧E.r=D.r
theorem aL.jA (D:aL):D.same D.step.2∧(D.step.1=true→D.step.2.is=D.is):=by
 unfold aL.step aL.same
 by_cases c:D.bd=0
 ·simp[c,aL.down]
 ·simp[c]
theorem aL.qe (D:aL) (n:Int) (l:Bs):D.same (D.lay n l).2∧((D.lay n l).1=true→(D.lay n l).2.is=D.is):=by
 unfold aL.lay
 obtain ⟨⟨a1,a2,a3,a4,a5⟩,a6⟩:=aL.jA D
 cases c1:D.step.1 with
 | false=>
   rw[if_pos rfl]
   exact ⟨⟨a1,a2,a3,a4,a5⟩,fun h=> by cases h⟩
 | true=>
   rw[if_neg (by simp)]
   obtain ⟨⟨b1,b2,b3,b4,b5⟩,b6⟩:=aL.jA (D.step.2.put n l)
   have hs:D.same (D.step.2.put n l).step.2:=⟨b1.trans a1,b2.trans a2,b3.trans a3,b4.trans a4,b5.trans a5⟩
   cases c3:(D.step.2.put n l).step.1 with
   | false=>
     rw[if_pos rfl]
     exact ⟨hs,fun h=> by cases h⟩
   | true=>
     rw[if_neg (by simp)]
     exact ⟨hs,fun _=>(b6 c3).trans (a6 c1)⟩
theorem MY (b:Nat) (h:Hp) (id:Nat) (D:aL) (F:List Nat) (did:Nat) (sp:V) (sid:Nat) (Fs:List Nat) (n:Int) (y:V) (l:Bs) (hF:∀j∈F,b≤j) (hd:vT h id D F did sp sid Fs) (hy:BR h y l) (hl:l.length≤140737488355328) (hp:D.dk.ec < 4611686018427387904):
 ∃h',run fns pr b 72 [.ptr did [0] 1,.s (.int .i64 n),y] h=some (.s (.bool (Dk.kg n l)),h')∧vT h' id (D.put n l) F did sp sid Fs∧Fw F h h':=by
 have qU:b≤did:=hF _ (by rw[hd.f];simp)
 obtain ⟨v,h',e,rfl,d,f⟩:=Bp.R9 b h did D.dk n y l qU hd.d hy hl hp
 obtain ⟨h3,f3⟩:=hd.Se d f
 exact ⟨h',e,h3,f3⟩
theorem JA (b:Nat) (h:Hp) (id:Nat) (D:aL) (F:List Nat) (did:Nat) (sp:V) (sid:Nat) (Fs:List Nat) (hF:∀j∈F,b≤j) (hd:vT h id D F did sp sid Fs):
 ∃h',run fns pr b 73 [.ptr did [0] 1] h=some (.bP [],h')∧vT h' id {D with dk:=D.dk.sync} F did sp sid Fs∧Fw F h h':=by
 have qU:b≤did:=hF _ (by rw[hd.f];simp)
 obtain ⟨v,h',e,rfl,d,f⟩:=Bp.sH b h did D.dk qU hd.d
 obtain ⟨h3,f3⟩:=hd.Se d f
 exact ⟨h',e,h3,f3⟩
theorem JB (b:Nat) (h:Hp) (id:Nat) (D:aL) (F:List Nat) (n:Int) (y:V) (l:Bs) (hF:∀j∈F,b≤j) (hd:lY h id D F) (N:Int) (hN:N < 1000000000) (hk:oH 0 N D) (hy:BR h y l) (hl:l.length≤140737488355328):
 ∃v h',run fns pr b 33 [.ptr id [0] 1,.s (.int .i64 n),y] h=some (v,h')∧v= .s (.bool (D.lay n l).1)∧lY h' id (D.lay n l).2 F∧Fw F h h':=by
 refine Vm.ef (nt:=25) rfl Vh (by simp) ?_
 have k1:=hk.step
 obtain ⟨v1,H1,e1,rfl,d1,f1⟩:=sJ b h id D F hF hd ⟨hk.s0,by have:=hk.s1;omega⟩ hk.f1
 unfold aL.lay
 cases c1:D.step.1 with
 | false=>
   rw[c1] at e1
   rw[if_pos rfl]
   simp only[B33,e1,go_sem,simprocAttr]
   exact ⟨d1,f1⟩
 | true=>
   rw[c1] at e1
   rw[if_neg (by simp)]
   generalize D.step.2=D1 at *
   obtain ⟨did,sp,sid,Fs,p1⟩:=d1
   have cT:=p1.o
   simp only[eL] at cT
   obtain ⟨H2,e2,p2,f2⟩:=MY b H1 id D1 F did sp sid Fs n y l hF p1 (hy.mono f1) hl (by have:=k1.ec;omega)
   obtain ⟨v3,H3,e3,rfl,d3,f3⟩:=sJ b H2 id (D1.put n l) F hF ⟨did,sp,sid,Fs,p2⟩ ⟨k1.s0,by have:=k1.s1;show D1.steps < _;omega⟩ k1.f1
   cases c3:(D1.put n l).step.1 with
   | false=>
     rw[c3] at e3
     rw[if_pos rfl]
     simp only[B33,e1,cT,e2,e3,go_sem,simprocAttr]
     exact ⟨d3,f1.trans (f2.trans f3)⟩
   | true=>
     rw[c3] at e3
     rw[if_neg (by simp)]
     generalize (D1.put n l).step.2=D3 at *
     obtain ⟨did3,sp3,sid3,Fs3,p3⟩:=d3
     have yS:=p3.o
     simp only[eL] at yS
     obtain ⟨H4,e4,p4,f4⟩:=JA b H3 id D3 F did3 sp3 sid3 Fs3 hF p3
     simp only[B33,e1,cT,e2,e3,yS,e4,go_sem,simprocAttr]
     exact ⟨⟨_,_,_,_,p4⟩,f1.trans (f2.trans (f3.trans f4))⟩
def aL.mV (D:aL):Bs:=(kM D.key D.r (gD D.st)).1
def aL.fold (D:aL):Bool×aL:=
 if (D.lay (1 - D.r.aG) D.mV).1=false then (false,(D.lay (1 - D.r.aG) D.mV).2)
 else if (D.lay (1 - D.r.aG) D.mV).2.step.1=false then (false,(D.lay (1 - D.r.aG) D.mV).2.step.2)
 else (true, {(D.lay (1 - D.r.aG) D.mV).2.step.2 with r:=(iN (D.lay (1 - D.r.aG) D.mV).2.step.2.r (cV D.mV)).1})
theorem tQ (k:Bs) (r:ah) (l:Bs):(kM k r l).1.length≤8192:=by
 unfold kM
 split
 ·simp
 ·rw[qN _ _ _ _ (by omega) (by decide)];omega
theorem Dl (b:Nat) (h:Hp) (id:Nat) (D:aL) (F:List Nat) (hF:∀j∈F,b≤j) (hd:lY h id D F) (N:Int) (hN:N < 1000000000 - 10) (hk:oH 0 N D) (hi:D.is=1):
 ∃v h',run fns pr b 26 [.ptr id [0] 1] h=some (v,h')∧v= .s (.bool D.fold.1)∧lY h' id D.fold.2 F∧Fw F h h':=by
 have hd0:=hd
 obtain ⟨did,sp,sid,Fs,hd⟩:=hd
 obtain ⟨vU,aR⟩:=hd.s hi
 have nV:=fun b=> qd b h sid D.st Fs aR (hk.so hi)
 have hjs:=fun b=> Js b h (.al false none ((gD D.st).map aa)) D.key (gD D.st) D.r hd.kl hk.gw (dp _ _ _)
 have hpt:D.r.aG=0∨D.r.aG=1:=(q11z hk.gr).2.2.2.2.1
 have pf:=fun b H=> MW b H D.r hpt
 have hil:=tQ D.key D.r (gD D.st)
 obtain ⟨v1,H1,e1,rfl,d1,f1⟩:=JB b h id D F (1 - D.r.aG) (.al false none (D.mV.map aa)) D.mV hF hd0 N (by omega) hk (dp _ _ _) (by unfold aL.mV;omega)
 have k1:=hk.lay (1 - D.r.aG) D.mV
 obtain ⟨v2,H2,e2,rfl,d2,f2⟩:=sJ b H1 id _ F hF d1 ⟨k1.s0,by have:=k1.s1;omega⟩ k1.f1
 have k2:=k1.step
 have s1:=(aL.qe D (1 - D.r.aG) D.mV).1
 have s2:=(aL.jA (D.lay (1 - D.r.aG) D.mV).2).1
 have hg:=hd.o
 have gP:(D.key.map aa).length=16:=by simp[hd.kl]
 refine Vm.ef (nt:=49) rfl U3 (by simp) ?_
 unfold aL.fold
 have him:(kM D.key D.r (gD D.st)).1=D.mV:=rfl
 rw[him] at hjs
 simp only[eL,vU] at hg
 generalize (D.lay (1 - D.r.aG) D.mV)=L at *
 cases c1:L.1 with
 | false=>
   rw[c1] at e1
   rw[if_pos rfl]
   simp only[B26,hg,nV,hjs,pf,e1,bM,ah.cQ,ah.cR,go_sem,simprocAttr]
   exact ⟨d1,f1⟩
 | true=>
   rw[c1] at e1
   rw[if_neg (by simp)]
   cases c2:L.2.step.1 with
   | false=>
     rw[c2] at e2
     rw[if_pos rfl]
     simp only[B26,hg,nV,hjs,pf,e1,bM,ah.cQ,ah.cR,e2,go_sem,simprocAttr]
     exact ⟨d2,f1.trans f2⟩
   | true=>
     rw[c2] at e2
     rw[if_neg (by simp)]
     generalize L.2.step.2=D3 at *
     obtain ⟨did3,sp3,sid3,Fs3,p3⟩:=d2
     have yS:=p3.o
     have je:∀B,(H2.set id B)[id]? =some B:=fun B=> q9z yS
     have bR:=q6z yS
     have jo:b≤id:=hF _ (by rw[hd.f];simp)
     have dw:=p3.ty
     have jX:=p3.so
     have hfi:=fun b=> vS b H2 (.al false none (D.mV.map aa)) D.mV (dp _ _ _) (by unfold aL.mV;omega)
     have qV:=fun b=> MV b H2 D3.r (cV D.mV) k2.gw (bq _)
     obtain ⟨h4,f4⟩:=p3.EX (D':= {D3 with r:=(iN D3.r (cV D.mV)).1}) rfl (fun h=>⟨h,rfl⟩) p3.kl
     simp only[eL] at yS h4 f4
     simp only[B26,hg,nV,hjs,pf,e1,bM,ah.cQ,ah.cR,e2,yS,je,jo,bR,dw,jX,hfi,qV,go_sem,simprocAttr]
     exact ⟨⟨_,_,_,_,h4⟩,f1.trans (f2.trans f4)⟩
def aL.frame (D:aL) (r:av):Bs:=(mh D.key (D.r.count.toNat+1) D.r.head r).1
def aL.next (D:aL) (r:av):ah×Bool:=eK D.r (dy D.r.head (D.frame r))
def aL.y9 (D:aL) (r:av):aL:= {(D.lay (bg D.r) (D.frame r)).2.step.2 with r:=(D.next r).1,st:=(bf (D.lay (bg D.r) (D.frame r)).2.step.2.st r).2}
def aL.do (D:aL) (r:av):Int×aL:=
 if fe D≠0 then (fe D,D)
 else if bT D.st r≠0 then (bT D.st r,D)
 else if (D.next r).2=false then (31,D)
 else if (D.lay (bg D.r) (D.frame r)).1=false then (29,(D.lay (bg D.r) (D.frame r)).2)
 else if (D.lay (bg D.r) (D.frame r)).2.step.1=false then (29,(D.lay (bg D.r) (D.frame r)).2.step.2)
 else if bz (D.y9 r).r=8 then (if (D.y9 r).fold.1=false then 29 else 0,(D.y9 r).fold.2)
 else (0,D.y9 r)
theorem za {r:av} (hr:aS r=true) (hw:r.wf) (hv:∀v∈r.ag,v.wf):(na r).length≤1000:=by
 have h4:=lE hr
 have p9:r.kind=3→∀v∈r.ag,aP v=true∧v.wf:=fun k3 v hm=> by
   have:rising r.ag=true:=by
     unfold aS at hr
     rw[k3] at hr
     simp at hr
     exact q32z hr.2
   unfold rising at this
   simp only[acn,decide_eq_true_eq,acJ] at this
   exact ⟨this.1.2 v hm,hv v hm⟩
 have hv1:r.kind=1→(aT r.aq).length≤112:=fun k1=> q35z hw.aq (by unfold aS at hr;rw[if_pos k1] at hr;simp at hr;simp[hr])
 unfold na
 split
 ·have:=hv1 (by assumption)
  simp only[acR];omega
 ·split
  ·simp only[acR,bx];omega
  ·split
   ·have:=q34z (p9 (by assumption))
    simp only[acR,aco,bx];omega
   ·simp only[acR,bx];omega
theorem vV (D:aL) {r:av} (hw:r.wf) (hv:∀v∈r.ag,v.wf) (hh:D.r.head.length=16):(D.frame r).length≤8192:=by
 unfold aL.frame mh
 split
 ·have:=za (by assumption) hw hv
  rw[qN _ _ _ _ (by omega) (by omega)];omega
 ·simp
theorem vT.oG {F Fs Fs':List Nat} {h h':Hp} {id did sid:Nat} {D:aL} {sp:V} {S:ba} (hd:vT h id D F did sp sid Fs) (hi:D.is=1) (hs:iU h' sid S Fs') (f:Fw Fs h h') (hn:∀j∈Fs',j∈Fs∨h.length≤j):
 vT h' id {D with st:=S} (id::did::Fs') did sp sid Fs'∧Fw F h h'∧∀j∈id::did::Fs',j∈F∨h.length≤j:=by
 obtain ⟨o,d,s,ty,so,rfl,n1,n2,n3,fl,kl⟩:=hd
 have l1:=fl id (by simp)
 have l2:=fl did (by simp)
 refine ⟨⟨f.db _ _ o n2,d.mono f n3,fun _=>⟨(s hi).1,hs⟩,ty,so,rfl,n1,fun hm=> ?_,fun hm=> ?_,fun j hj=> ?_,kl⟩,f.mono (fun j hj=> by simp[hj]),fun j hj=> ?_⟩
 ·rcases hn _ hm with h1 | h1
  ·exact n2 h1
  ·omega
 ·rcases hn _ hm with h1 | h1
  ·exact n3 h1
  ·omega
 ·simp only[acQ] at hj
  rcases hj with rfl | rfl | hj
  ·exact f.lt l1
  ·exact f.lt l2
  ·exact hs.lt _ hj
 ·simp only[acQ] at hj ⊢
  rcases hj with rfl | rfl | hj
  ·exact .inl (.inl rfl)
  ·exact .inl (.inr (.inl rfl))
  ·rcases hn _ hj with h1 | h1
   ·exact .inl (.inr (.inr h1))
   ·exact .inr h1
theorem q30z {r:ah} {hd:Bs} (hw:r.wf) (hl:hd.length=16) (h:(eK r hd).2=true):(eK r hd).1=⟨r.bD,r.count+1,r.base,hd,r.aG⟩∧bm r=true∧bm (eK r hd).1=true∧(eK r hd).1.wf:=by
 unfold eK xw at h ⊢
 split at h
 ·rename_i c
  rw[if_pos c]
  have:=q11z c.1
  obtain ⟨w1,w2,w3,w4,w5⟩:=hw
  exact ⟨rfl,c.1,c.2,⟨w1,by simp only;omega,w3,hl,w5⟩⟩
 ·cases h
theorem JC (b:Nat) (h:Hp) (id:Nat) (D:aL) (F:List Nat) (r:av) (hF:∀j∈F,b≤j) (hd:lY h id D F) (N:Int) (hN:N < 1000000000 - 20) (hk:oH 0 N D) (hw:r.wf) (hv:∀v∈r.ag,v.wf):
 ∃v h',run fns pr b 13 [.ptr id [0] 1,r.enc] h=some (v,h')∧v= .s (.int .i64 (D.do r).1)∧∃F',lY h' id (D.do r).2 F'∧Fw F h h'∧∀j∈F',j∈F∨h.length≤j:=by
 have hd0:=hd
 have ng:=fun b X=> Jz b (h++X) id D F (hd.app X)
 have dw:r.enc.ty=some 59:=rfl
 have jX:r.enc.aA=true:=rfl
 refine Vm.ef (nt:=97) rfl UC (by simp) ?_
 unfold aL.do
 by_cases c0:fe D=0
 case neg=>
   rw[if_pos c0]
   simp only[B13,ng,c0,dw,jX,go_sem,simprocAttr]
   exact ⟨F,hd0.app _,Fw.app _ _ _,fun j hj=> .inl hj⟩
 rw[if_neg (by simp[c0])]
 have hi:D.is=1:=by
   unfold fe at c0
   have:=hk.is
   split at c0
   ·cases c0
   ·split at c0
    ·cases c0
    ·omega
 obtain ⟨did,sp,sid,Fs,hd⟩:=hd
 have hid:=hd.fl id (by rw[hd.f];simp)
 have hbh:b≤h.length:=by have:=hF id (by rw[hd.f];simp);omega
 have hFl:=hd.fl
 have fA:Fw [] h (h++[bc.cells (some 59) [r.enc]]):=Fw.app [] h _
 have dA:=hd.mono fA (by simp)
 have gA:(h++[bc.cells (some 59) [r.enc]])[h.length]? =some (bc.cells (some 59) [r.enc]):=aH _ _
 have lA:(h++[bc.cells (some 59) [r.enc]]).length=h.length+1:=by simp
 have ng:=fun b=> ng b [bc.cells (some 59) [r.enc]]
 generalize hHA:h++[bc.cells (some 59) [r.enc]]=HA at *
 have hgA:=dA.o
 obtain ⟨vU,aR⟩:=dA.s hi
 subst vU
 have AD:=fun b=> yY b HA sid D.st Fs r aR (hk.so hi) hw hv
 simp only[eL] at hgA
 by_cases c1:bT D.st r=0
 case neg=>
   rw[if_pos c1]
   simp only[B13,hHA,ng,c0,dw,jX,hgA,gA,AD,c1,go_sem,simprocAttr]
   exact ⟨F,⟨_,_,_,_,dA⟩,fA.mono (by simp),fun j hj=> .inl hj⟩
 rw[if_neg (by simp[c1])]
 have hhl:=hk.gw.head
 have oB:=q11z hk.gr
 have hcw:=hk.gw.count
 have xA:=fun b=> Jt b HA D.key D.r.head (D.r.count.toNat+1) r hd.kl hhl (by omega) hw hv
 have mT:IntKind.u64.wrap (D.r.count+1)=((D.r.count.toNat+1:Nat):Int):=by rw[wrap_u64 (by omega) (by omega)];omega
 have m6:=vV D hw hv hhl
 have aa3:(mh D.key (D.r.count.toNat+1) D.r.head r).1=D.frame r:=rfl
 rw[aa3] at xA
 have hhd:=fun b H=> y5 b H (.al false none ((D.frame r).map aa)) D.r.head (D.frame r) hhl (dp _ _ _) (by omega)
 have Yv:(dy D.r.head (D.frame r)).length=16:=by simp[dy,dx,bq]
 have iK:=fun b H=> MT b H D.r (dy D.r.head (D.frame r)) hk.gw Yv
 have Yw:eK D.r (dy D.r.head (D.frame r))=D.next r:=rfl
 have Yx:=q30z (hd:=dy D.r.head (D.frame r)) hk.gw Yv
 rw[Yw] at Yx
 simp only[Yw] at iK
 have Yy:∀q:ah,q.enc=V.st 35 [.s (.int .u64 q.bD),.s (.int .u64 q.count),.s (.int .u64 q.base),.arr 27 (q.head.map aa),.s (.int .i64 q.aG)]:=fun q=> rfl
 have hDr:=Yy D.r
 have abY:(D.key.map aa).length=16:=by simp[hd.kl]
 have sd:∀x,(decide (b≤HA.length) || x)=true:=fun x=> by rw[decide_eq_true (by omega)];rfl
 by_cases c2:(D.next r).2=true
 case neg=>
   have c2':(D.next r).2=false:=by simpa using c2
   rw[if_pos c2']
   rw[c2'] at iK
   rw[hDr] at hgA iK
   have hgAX:=fun X=> q10z hgA X
   simp only[B13,hHA,ng,c0,dw,jX,hgA,gA,AD,c1,xA,mT,hhd,iK,bM,ah.cQ,ah.cR,sd,hgAX,go_sem,simprocAttr]
   exact ⟨F,⟨_,_,_,_,dA.mono (Fw.app [] HA _) (by simp)⟩,(fA.trans (Fw.app [] HA _)).mono (by simp),fun j hj=> .inl hj⟩
 rw[if_neg (by simp[c2])]
 obtain ⟨Hj,hn2,Dg,hn4⟩:=Yx c2
 rw[c2] at iK
 have fB:Fw [] HA (HA++[bc.cells (some 35) [(D.next r).1.enc]]):=Fw.app [] HA _
 have dB:lY _ id D F:=⟨_,_,_,_,dA.mono fB (by simp)⟩
 have gB0:=fB.db _ _ gA (by simp)
 have gB1:(HA++[bc.cells (some 35) [(D.next r).1.enc]])[HA.length]? =some (bc.cells (some 35) [(D.next r).1.enc]):=aH _ _
 have hgB:=(dA.mono fB (by simp)).o
 simp only[eL] at hgB
 have fE:=fun b H=> Jr b H D.r hk.gw
 obtain ⟨v1,H1,e1,rfl,d1,f1⟩:=JB b _ id D F (bg D.r) (.al false none ((D.frame r).map aa)) (D.frame r) hF dB N (by omega) hk (dp _ _ _) (by omega)
 have k1:=hk.lay (bg D.r) (D.frame r)
 obtain ⟨v2,H2,e2,rfl,d2,f2⟩:=sJ b H1 id _ F hF d1 ⟨k1.s0,by have:=k1.s1;omega⟩ k1.f1
 have k2:=k1.step
 have s1:=aL.qe D (bg D.r) (D.frame r)
 have s2:=aL.jA (D.lay (bg D.r) (D.frame r)).2
 have fAB:=fA.trans fB
 have fh2:Fw F h H2:=(fAB.mono (by simp)).trans (f1.trans f2)
 have Yz:D.y9 r= {(D.lay (bg D.r) (D.frame r)).2.step.2 with r:=(D.next r).1,st:=(bf (D.lay (bg D.r) (D.frame r)).2.step.2.st r).2}:=rfl
 rw[Yz]
 rw[hDr] at hgA hgB iK fE
 have hgAX:=fun X=> q10z hgA X
 have hnF:∀j,h.length≤j→j∉F:=fun j hj hm=> by have:=hFl j hm;omega
 have g10:=f1.db _ _ gB0 (hnF _ (acm _))
 have g11:=f1.db _ _ gB1 (hnF _ (by omega))
 have g20:=f2.db _ _ g10 (hnF _ (acm _))
 have g21:=f2.db _ _ g11 (hnF _ (by omega))
 generalize (D.lay (bg D.r) (D.frame r))=L at *
 generalize hHB:HA++[bc.cells (some 35) [(D.next r).1.enc]]=HB at *
 have abZ:=fun n H=> ah.qT n H (D.next r).1
 generalize (D.next r).1=nx at *
 cases c3:L.1 with
 | false=>
   rw[c3] at e1
   rw[if_pos rfl]
   simp only[B13,hHA,ng,c0,dw,jX,hgA,gA,AD,c1,xA,mT,hhd,iK,bM,ah.cQ,ah.cR,sd,hHB,hgB,fE,e1,hgAX,go_sem,simprocAttr]
   exact ⟨F,d1,(fAB.mono (by simp)).trans f1,fun j hj=> .inl hj⟩
 | true=>
   rw[c3] at e1
   rw[if_neg (by simp)]
   cases c4:L.2.step.1 with
   | false=>
     rw[c4] at e2
     rw[if_pos rfl]
     simp only[B13,hHA,ng,c0,dw,jX,hgA,gA,AD,c1,xA,mT,hhd,iK,bM,ah.cQ,ah.cR,sd,hHB,hgB,fE,e1,hgAX,e2,go_sem,simprocAttr]
     exact ⟨F,d2,fh2,fun j hj=> .inl hj⟩
   | true=>
     rw[c4] at e2
     rw[if_neg (by simp)]
     have i3:L.2.step.2.is=1:=by rw[s2.2 c4,s1.2 c3,hi]
     generalize L.2.step.2=D3 at *
     obtain ⟨did3,sp3,sid3,Fs3,p3⟩:=d2
     obtain ⟨aa4,R4⟩:=p3.s i3
     subst aa4
     have yS:=p3.o
     have je:∀B,(H2.set id B)[id]? =some B:=fun B=> q9z yS
     have bR:=q6z yS
     have jo:b≤id:=hF _ (by rw[hd.f];simp)
     obtain ⟨p4,f4⟩:=p3.EX (D':= {D3 with r:=nx}) rfl (fun h=>⟨h,rfl⟩) p3.kl
     have k3:oH 0 (N+3) {D3 with r:=nx}:=by
       obtain ⟨z1,z2,z3,z4,z5,z6,z7,z8⟩:=k2
       exact ⟨z1,z2,by simp only;omega,z4,Dg,hn4,z7,z8⟩
     have g31:=f4.db _ _ g20 (hnF _ (acm _))
     obtain ⟨ab0,aa5⟩:=p4.s i3
     have hFs3:∀j∈Fs3,b≤j:=fun j hj=> hF _ (by rw[p3.f];simp[hj])
     obtain ⟨v5,H5,e5,rfl,Fs5,aa6,f5,hn5⟩:=tL b _ sid3 D3.st Fs3 r hFs3 aa5 (k2.so i3) hw hv
     obtain ⟨p5,f5',YA⟩:=p4.oG i3 aa6 f5 hn5
     have k5:oH 0 (N+3) {D3 with r:=nx,st:=(bf D3.st r).2}:=by
       obtain ⟨z1,z2,z3,z4,z5,z6,z7,z8⟩:=k3
       exact ⟨z1,z2,z3,z4,z5,z6,fun h=> nh (z7 h) hw hv,z8⟩
     have hF5:∀j∈id::did3::Fs5,b≤j:=fun j hj=> by
       rcases YA j hj with h1 | h1
       ·exact hF j h1
       ·rw[adz] at h1;omega
     have CY:=fh2.len
     have hn5h:∀j∈id::did3::Fs5,j∈F∨h.length≤j:=fun j hj=> by
       rcases YA j hj with h1 | h1
       ·exact .inl h1
       ·rw[adz] at h1;exact .inr (by omega)
     have fh5:=fh2.trans (f4.trans f5')
     have Ho:=fun b=> sF b H5 nx hn4
     have hg5:=p5.o
     simp only[eL] at yS hg5 e5
     simp only[eL] at g31
     by_cases c8:bz nx=8
     ·rw[if_pos c8]
      obtain ⟨v6,H6,e6,rfl,d6,f6⟩:=Dl b H5 id _ _ hF5 ⟨_,_,_,_,p5⟩ (N+3) (by omega) k5 i3
      generalize ({D3 with r:=nx,st:=(bf D3.st r).2}:aL).fold=Z at *
      have fin:∃F',lY H6 id Z.2 F'∧Fw F h H6∧∀j∈F',j∈F∨h.length≤j:=⟨_,d6,fh5.new f6 (fun j hj=>(hn5h j hj).symm),hn5h⟩
      cases c9:Z.1 with
      | false=>
        rw[c9] at e6
        simp only[B13,hHA,ng,c0,dw,jX,hgA,gA,AD,c1,xA,mT,hhd,iK,bM,ah.cQ,ah.cR,sd,hHB,hgB,fE,e1,hgAX,e2,yS,je,jo,bR,g20,g21,g31,e5,hg5,Ho,c8,e6,go_sem,simprocAttr]
        exact fin
      | true=>
        rw[c9] at e6
        simp only[B13,hHA,ng,c0,dw,jX,hgA,gA,AD,c1,xA,mT,hhd,iK,bM,ah.cQ,ah.cR,sd,hHB,hgB,fE,e1,hgAX,e2,yS,je,jo,bR,g20,g21,g31,e5,hg5,Ho,c8,e6,go_sem,simprocAttr]
        exact fin
     ·rw[if_neg c8]
      simp only[B13,hHA,ng,c0,dw,jX,hgA,gA,AD,c1,xA,mT,hhd,iK,bM,ah.cQ,ah.cR,sd,hHB,hgB,fE,e1,hgAX,e2,yS,je,jo,bR,g20,g21,g31,e5,hg5,Ho,c8,go_sem,simprocAttr]
      exact ⟨_,⟨_,_,_,_,p5⟩,fh5,hn5h⟩
theorem jr {n:Nat} {m:Bs} (hm:m.length=n) (rest:Bs) (bad:Bool):aF n (m++rest,bad)=(m,(rest,bad)):=by
 subst hm
 unfold aF
 rw[if_pos (by simp)]
 simp
theorem qf (x:UInt8) (rest:Bs) (bad:Bool):aF 1 (x::rest,bad)=([x],(rest,bad)):=jr (m:=[x]) rfl rest bad
theorem qg (x:UInt8):aI [x]=x.toNat:=rfl
theorem jI {n:Int} (h0:0≤n) (h1:n < 256):(((bt n).toNat:Nat):Int)=n:=by
 obtain ⟨m,rfl⟩:∃m:Nat,n=m:=⟨n.toNat,by omega⟩
 have:∀m:Nat,m < 256→(bt (m:Int)).toNat=m:=by decide+kernel
 rw[this m (by omega)]
theorem YB (x:Nat):(UInt8.ofNat (x % 256)).toNat=x % 256:=by simp
theorem nm (n:Nat) (hn:n < 18446744073709551616):j9 (bu n)=n:=by
 have s:∀j,n / 256 ^ j=256 *(n / 256 ^(j+1))+n / 256 ^ j % 256:=fun j=> by
   rw[ae5,←Nat.div_div_eq_div_mul];omega
 have e8:n / 256 ^ 8=0:=ae7 (by omega)
 have e0:n / 256 ^ 0=n:=by simp
 simp only[j9,bu,adX,List.range_zero,ac1,adm,acx,acF,ade,aeF,List.foldl_nil,YB,Nat.reduceSub]
 have s0:=s 0
 have s1:=s 1
 have s2:=s 2
 have s3:=s 3
 have s4:=s 4
 have s5:=s 5
 have s6:=s 6
 have s7:=s 7
 clear s hn
 simp only[Nat.reduceAdd] at s0 s1 s2 s3 s4 s5 s6 s7
 rw[e8] at s7
 generalize n / 256 ^ 0=d0 at *
 generalize n / 256 ^ 1=d1 at *
 generalize n / 256 ^ 2=d2 at *
 generalize n / 256 ^ 3=d3 at *
 generalize n / 256 ^ 4=d4 at *
 generalize n / 256 ^ 5=d5 at *
 generalize n / 256 ^ 6=d6 at *
 generalize n / 256 ^ 7=d7 at *
 omega
theorem JD (v:ae) (hr:aP v=true):nc (tq v).toNat=false∧(!decide ((tq v).toNat=0))=v.gone∧decide ((tq v).toNat=3)=v.mY:=by
 unfold aP at hr
 unfold tq nc
 cases hg:v.gone <;> cases hw:v.mY <;> simp_all <;> decide
theorem tR (v:ae) (hw:v.wf) (hr:aP v=true) (rest:Bs) (bad:Bool):cL (aT v++rest,bad)=(v,(rest,bad)):=by
 obtain ⟨f1,f2,f3⟩:=JD v hr
 have hr0:=hr
 unfold aP at hr
 obtain ⟨w1,w2,w3,w4,w5,w6,w7,w8,w9⟩:=hw
 have Br:0≤v.cW∧v.cW < 256∧0≤v.used∧v.used < 256∧0≤v.gen∧v.gen < 18446744073709551616∧v.cx.length < 256:=by
   cases hg:v.gone <;> simp_all <;> omega
 obtain ⟨l1,l2,l3,l4,l5,l6,l7⟩:=Br
 have e1:(((bt v.cW).toNat:Nat):Int)=v.cW:=jI l1 l2
 have e2:(((bt v.used).toNat:Nat):Int)=v.used:=jI l3 l4
 have e3:(bt (v.cx.length:Int)).toNat=v.cx.length:=by have:=jI (n:=(v.cx.length:Int)) (by omega) (by omega);omega
 have e4:((j9 (bu v.gen.toNat):Nat):Int)=v.gen:=by rw[nm _ (by omega)];omega
 have q1:=jr (n:=4) (m:=v.iD) (by simpa using w1)
 have q3:=jr (n:=16) (m:=v.mX) (by simpa using w3)
 have q7:=jr (n:=16) (m:=v.owner) (by simpa using w7)
 unfold cL aT
 simp only[acs,ade,ac1,q1,jr (bx _),qf,qg,f1,Bool.or_false,q3,q7,mH,e3,jr (m:=v.cx) rfl,e1,e2,e4,f2,f3]
 rw[hr0]
 simp
theorem Pp (l:List ae) (hw:∀v∈l,v.wf) (hr:∀v∈l,aP v=true) (rest:Bs) (bad:Bool):∀n,n≤l.length→sA n (l.flatMap aT++rest,bad)=(l.take n,((l.drop n).flatMap aT++rest,bad))
 | 0,_=> rfl
 | n+1,hn=> by
   have ih:=Pp l hw hr rest bad n (by omega)
   have hd:l.drop n=l[n]::l.drop (n+1):=adh (by omega)
   have hm:l[n]∈l:=ac3 _
   simp only[sA]
   rw[ih,hd,aeJ,acs,tR _ (hw _ hm) (hr _ hm),acT (by omega)]
theorem Sf (r:av) (hw:r.wf) (hwv:∀v∈r.ag,v.wf) (hr:aS r=true):oE (na r,false)=(r,([],false)):=by
 have hr0:=hr
 obtain ⟨kind,aw,cg,au,aq,ag⟩:=r
 obtain ⟨w1,w2,w3,w4,w5,w6⟩:=hw
 simp only at w1 w2 w3 w4 w5 w6 hwv
 rcases q33z hr with hk | hk | hk | hk
 all_goals simp only at hk;subst hk
 all_goals simp only[aS,ib,Int.reduceEq,if_true,if_false,acn,decide_eq_true_eq] at hr
 ·obtain ⟨⟨⟨⟨h1,h2⟩,h3⟩,h4⟩,h5⟩:=hr
  obtain rfl:ag=[]:=ad7 h5
  subst h2 h3 h4
  have hv:=tR aq w5 h1 [] false
  rw[acL] at hv
  simp only[oE,na,qf,qg,if_true,hv,show (bt 1).toNat=1 from rfl]
 ·obtain ⟨⟨⟨⟨⟨⟨⟨h1,h2⟩,h3⟩,h4⟩,h5⟩,h6⟩,h7⟩,h8⟩:=hr
  obtain rfl:ag=[]:=ad7 h8
  subst h5
  have e1:(((bt aw).toNat:Nat):Int)=aw:=jI h3 (by omega)
  have e2:(((bt cg).toNat:Nat):Int)=cg:=jI h6 (by omega)
  have e3:((j9 (bu au.toNat):Nat):Int)=au:=by rw[nm _ (by omega)];omega
  have hn:=jr (bx au.toNat) [] false
  rw[acL] at hn
  simp only[oE,na,qf,qg,if_true,show (bt 2).toNat=2 from rfl,hn,e1,e2,e3,show ((2:Int)=1)=False from by simp,show ((2:Nat)=1)=False from by simp,if_false]
 ·obtain ⟨⟨⟨⟨⟨⟨h1,h2⟩,h3⟩,h4⟩,h5⟩,h6⟩,h8⟩:=hr
  subst h5 h6
  have iB:∀v∈ag,aP v=true:=fun v hv=> by
    unfold bW at h8
    rw[acn,acJ] at h8
    obtain ⟨i,hi,rfl⟩:=aeT hv
    have:=h8.2 i (ado.2 hi)
    unfold eA at this
    rw[acn,List.getD,aci hi] at this
    exact this.1
  have hl4:ag.length≤4:=by
    unfold bW at h8
    rw[acn,decide_eq_true_eq] at h8
    exact h8.1
  have e1:(((bt aw).toNat:Nat):Int)=aw:=jI h3 (by omega)
  have e2:(bt (ag.length:Int)).toNat=ag.length:=by have:=jI (n:=(ag.length:Int)) (by omega) (by omega);omega
  have e3:((j9 (bu au.toNat):Nat):Int)=au:=by rw[nm _ (by omega)];omega
  have hm:min ag.length 5=ag.length:=by omega
  have hv:=Pp ag hwv iB [] false ag.length (acm _)
  rw[acL,adN,aeR] at hv
  simp only[oE,na,qf,qg,if_true,show (bt 3).toNat=3 from rfl,jr (bx au.toNat),e1,e2,e3,hm,hv,show ((3:Int)=1)=False from by simp,show ((3:Nat)=1)=False from by simp,show ((3:Int)=2)=False from by simp,show ((3:Nat)=2)=False from by simp,if_false,afA,acL]
 ·obtain ⟨⟨⟨⟨⟨⟨h1,h2⟩,h3⟩,h4⟩,h5⟩,h6⟩,h8⟩:=hr
  obtain rfl:ag=[]:=ad7 h8
  subst h5 h6
  have e1:(((bt aw).toNat:Nat):Int)=aw:=jI h3 (by omega)
  have e3:((j9 (bu au.toNat):Nat):Int)=au:=by rw[nm _ (by omega)];omega
  have hn:=jr (bx au.toNat) [] false
  rw[acL] at hn
  simp only[oE,na,qf,qg,if_true,show (bt 4).toNat=4 from rfl,hn,e1,e3,show ((4:Int)=1)=False from by simp,show ((4:Nat)=1)=False from by simp,show ((4:Int)=2)=False from by simp,show ((4:Nat)=2)=False from by simp,show ((4:Int)=3)=False from by simp,show ((4:Nat)=3)=False from by simp,if_false]
theorem JE (r:av) (hw:r.wf) (hwv:∀v∈r.ag,v.wf) (hr:aS r=true):nd (na r)=(r,0):=by
 unfold nd
 rw[Sf r hw hwv hr]
 simp[hr]
theorem Bt (v:ae):v.enc.plain=true:=by simp only[ae.enc,go_sem]
theorem qW (r:av):r.enc.plain=true:=by
 have h1:=Bt r.aq
 have h2:=jE r.ag
 simp only[av.enc,go_sem,h1,h2]
theorem Bu (l:List av):V.plain.all (l.map av.enc)=true:=by
 rw[cu]
 intro v hv
 obtain ⟨w,_,rfl⟩:=ac6.1 hv
 exact qW w
theorem MZ (n:Nat) (h:Hp) (r:av):bA n h r.enc=some r.enc:=lH n h _ (qW r)
theorem iY (r:av):r.enc.ty=some 59:=rfl
theorem iZ (r:av):r.enc.aA=true:=rfl
theorem ph (r:av):r.enc.ground=true:=gC _ (qW r)
def lI (k:Bs) (n:Nat) (prev l:Bs):av×Int:=match oN k n prev l with
 | none=>(ke,30)
 | some t=> nd t
theorem JF (b:Nat) (h:Hp) (k prev l:Bs) (n:Nat) (hk:k.length=16) (hp:prev.length=16) (hn:n < 18446744073709551616):run fns pr b 91 [.arr 27 (k.map aa),.s (.int .u64 n),.arr 27 (prev.map aa),.al false none (l.map aa)] h=some (.bP [(lI k n prev l).1.enc,.s (.int .i64 (lI k n prev l).2)],h):=by
 refine Vm.aQ (nt:=28) rfl Xa (by simp) ?_
 have gP:(k.map aa).length=16:=by simp[hk]
 have fE:(prev.map aa).length=16:=by simp[hp]
 generalize hZ:(bc.cells (some 59) [V.st 59 [.s (.int .i64 0),.s (.int .i64 0),.s (.int .i64 0),.s (.int .u64 0),V.st 56 [z4 54,ku,bC 27,kx,ki,ki,bC 27,.s (.bool false),.s (.bool false)],.al false (some 56) []]])=Z
 generalize hGd:h++[bc.cells (some 27) [V.arr 27 (k.map aa)],bc.cells (some 27) [V.arr 27 (prev.map aa)],Z]=G
 have g1:G[h.length+1]? =some (bc.cells (some 27) [V.arr 27 (prev.map aa)]):=by rw[←hGd];exact aM _ _ 1
 have Hn:=Rd.mk' (h:=G) (x:= .ref (h.length+1) [0] none 0 prev.length 1) (l:=prev) (xq g1) rfl
 rw[hp] at Hn
 have ai:=fun b=> C3 b G (.ref (h.length+1) [0] none 0 16 1) (.al false none (l.map aa)) k prev l n hk hn Hn (dp _ _ _)
 have g0:G[h.length]? =some (bc.cells (some 27) [V.arr 27 (k.map aa)]):=by rw[←hGd];exact aM _ _ 0
 have g2:G[h.length+2]? =some Z:=by rw[←hGd];exact aM _ _ 2
 have fk:∀B,(G.set (h.length+2) B).take h.length=h:=fun B=> by rw[afc (by omega),←hGd,acq]
 have ab1:G.take h.length=h:=by rw[←hGd,acq]
 have je:∀B,(G.set (h.length+2) B)[h.length+2]? =some B:=fun B=> q9z g2
 subst hZ
 unfold lI
 cases hq:oN k n prev l with
 | none=>
   rw[hq] at ai
   simp only[oO] at ai
   simp only[B91,gP,fE,hGd,g0,g1,g2,ai,bM,je,fk,go_sem,simprocAttr]
   all_goals rfl
 | some t=>
   rw[hq] at ai
   simp only[oO] at ai
   have htr:=fun b H=> yO b H false t
   simp only[B91,gP,fE,hGd,g0,g1,g2,ai,bM,je,fk,htr,iY,iZ,MZ,go_sem,simprocAttr]
def jh (k:Bs) (K:Dk) (r:ah):Bs×Bs×Int:=
 if r.base=0 then ([],bY,0) else match K.get r.aG with
  | none=>([],bY,30)
  | some l=> match oN k r.base.toNat nj l with
    | some t=>(t,cV l,0)
    | none=>([],cV l,30)
theorem Dm {K:Dk} (hk:K.OK) {n:Int} {l:Bs} (h:K.get n=some l):l.length≤8192:=by
 unfold Dk.get at h
 split at h
 ·have:=hk.ns n.toNat
  rw[h] at this
  exact this
 ·cases h
theorem M1 (b:Nat) (h:Hp) (did:Nat) (k:Bs) (K:Dk) (r:ah) (hk:k.length=16) (hw:r.wf) (hd:Bp.DR h did K):run fns pr b 89 [.arr 27 (k.map aa),.ptr did [0] 1,r.enc] h=some (.bP [.al false none ((jh k K r).1.map aa),.arr 27 ((jh k K r).2.1.map aa),.s (.int .i64 (jh k K r).2.2)],h):=by
 refine Vm.aQ (nt:=41) rfl W6 (by simp) ?_
 have gP:(k.map aa).length=16:=by simp[hk]
 have vF:=hd.lt
 have dL:=fun b X=> Bp.Jx b (h++X) did K r.aG (hd.mono (Fw.app [] h X) (by simp))
 have him:∀f H,Rd H (.al f none (nj.map aa)) nj:=fun f H=> BR.rd (dp H f nj)
 have hiw:nj.map aa=[.s (.int .u8 105),.s (.int .u8 109),.s (.int .u8 97),.s (.int .u8 103),.s (.int .u8 101)]:=rfl
 have ai:=fun b f X l=> C3 b (h++X) (.al f none (nj.map aa)) (.al false none (l.map aa)) k nj l r.base.toNat hk (by have:=hw.base;omega) (him f _) (dp _ _ _)
 have hc:((r.base.toNat:Nat):Int)=r.base:=by have:=hw.base;omega
 rw[hc,hiw] at ai
 have hz:V.arr 27 (bY.map aa)=bC 27:=rfl
 have vn:(bY.map aa).length=16:=rfl
 unfold jh
 obtain ⟨bD,count,base,head,aG⟩:=r
 simp only[Bp.R] at *
 by_cases c0:base=0
 ·rw[if_pos c0]
  simp only[B89,ah.enc,gP,c0,acq,acF,go_sem,simprocAttr]
  all_goals rfl
 rw[if_neg c0]
 cases hq:K.get aG with
 | none=>
   rw[hq] at dL
   simp only[afD,adF,acF] at dL
   simp only[B89,ah.enc,gP,c0,dL,acq,acF,go_sem,simprocAttr]
   all_goals rfl
 | some l=>
   rw[hq] at dL
   simp only[acX,adr] at dL
   have ai:=fun b f X=> ai b f X l
   have oC:=Dm hd.ok hq
   have hfi:=fun b X=> vS b (h++X) (.al false none (l.map aa)) l (dp _ _ _) (by omega)
   have hsl:((cV l).map aa).length=16:=by simp[bq]
   cases ho:oN k base.toNat nj l with
   | none=>
     rw[ho] at ai
     simp only[oO] at ai
     simp only[B89,ah.enc,gP,c0,dL,ai,hfi,hsl,bM,acq,go_sem,simprocAttr]
     all_goals first | (rw[ho];done) | (rw[ho];rfl)
   | some t=>
     rw[ho] at ai
     simp only[oO] at ai
     simp only[B89,ah.enc,gP,c0,dL,ai,hfi,hsl,bM,acq,go_sem,simprocAttr]
     all_goals first | (rw[ho];done) | (rw[ho];rfl)
def bX (k:Bs) (K:Dk) (base:Nat) (h:Bs):Nat→Option (List av×Bs)
 | 0=> some ([],h)
 | n+1=> match bX k K base h n with
   | none=> none
   | some (l,h1)=> if (K.get (2+(n:Nat))).isSome=false∨(lI k (base+n+1) h1 ((K.get (2+(n:Nat))).getD [])).2≠0 then none
     else some (l++[(lI k (base+n+1) h1 ((K.get (2+(n:Nat))).getD [])).1],dy h1 ((K.get (2+(n:Nat))).getD []))
theorem q28z {k:Bs} {K:Dk} {base:Nat} {h:Bs} {n:Nat} (hn:bX k K base h n=none):∀m,bX k K base h (n+m)=none
 | 0=> hn
 | m+1=> by rw[←Nat.add_assoc,bX,q28z hn m]
theorem nn {k:Bs} {K:Dk} {base:Nat} {h:Bs}:∀ {n:Nat} {l:List av} {h1:Bs},bX k K base h n=some (l,h1)→l.length=n
 | 0,l,h1,e=> by cases e;rfl
 | n+1,l,h1,e=> by
   rw[bX] at e
   split at e
   ·cases e
   ·rename_i l2 h2 e2
    have:=nn e2
    split at e
    ·cases e
    ·cases e;simp[this]
theorem Bv {k:Bs} {K:Dk} {base:Nat} {h:Bs} (hh:h.length=16):∀ {n:Nat} {l:List av} {h1:Bs},bX k K base h n=some (l,h1)→h1.length=16
 | 0,l,h1,e=> by cases e;exact hh
 | n+1,l,h1,e=> by
   rw[bX] at e
   split at e
   ·cases e
   ·split at e
    ·cases e
    ·cases e;simp[dy,dx,bq]
def kj (k:Bs) (K:Dk) (r:ah):Bs×List av×Int:=
 if bm r=false then ([],[],1) else if (jh k K r).2.2≠0 then ([],[],(jh k K r).2.2)
 else match bX k K r.base.toNat (jh k K r).2.1 (bz r).toNat with
   | none=>([],[],30)
   | some (l,h)=> if h=r.head then ((jh k K r).1,l,0) else ([],[],30)
theorem JG (k:Bs) (K:Dk) (r:ah):(jh k K r).2.1.length=16:=by
 unfold jh
 split
 ·rfl
 ·split
  ·rfl
  ·split
   ·exact bq _
   ·exact bq _
def rF (x:Bs×List av×Int):V:= .bP [.al false none (x.1.map aa),.al false (some 59) (x.2.1.map av.enc),.s (.int .i64 x.2.2)]
theorem M3 (b:Nat) (h:Hp) (did:Nat) (k:Bs) (K:Dk) (r:ah) (hk:k.length=16) (hw:r.wf) (hd:Bp.DR h did K):run fns pr b 54 [.arr 27 (k.map aa),.ptr did [0] 1,r.enc] h=some (rF (kj k K r),h):=by
 refine Vm.aQ (nt:=81) rfl VZ (by simp) ?_
 have gP:(k.map aa).length=16:=by simp[hk]
 have yt:=fun b H=> qc b H r hw
 have Ho:=fun b H=> sF b H r hw
 have hba:=fun b X=> M1 b (h++X) did k K r hk hw (hd.mono (Fw.app [] h X) (by simp))
 have sI:=JG k K r
 unfold kj
 cases hr:bm r with
 | false=>
   rw[if_pos rfl]
   simp only[B54,CR,CQ,ah.cQ,ah.cR,gP,yt,hr,acq,rF,acF,go_sem,simprocAttr]
 | true=>
   rw[if_neg (by simp)]
   rw[hr] at yt
   generalize hB:jh k K r=B at *
   obtain ⟨im,h0,why⟩:=B
   simp only at sI hba ⊢
   have hbm:(h0.map aa).length=16:=by simp[sI]
   by_cases c0:why=0
   case neg=>
     rw[if_pos c0]
     simp only[B54,CR,CQ,ah.cQ,ah.cR,gP,yt,hba,bM,c0,acq,rF,acF,go_sem,simprocAttr]
   rw[if_neg (by simp[c0])]
   have Br:=q11z hr
   obtain ⟨w1,w2,w3,w4,w5⟩:=hw
   obtain ⟨N,hN⟩:∃N:Nat,bz r=N:=⟨(bz r).toNat,by have:=jH r ⟨w1,w2,w3,w4,w5⟩;omega⟩
   have hN8:N≤8:=by have:=jH r ⟨w1,w2,w3,w4,w5⟩;omega
   rw[hN] at Ho ⊢
   simp only[acC]
   have hDr:r.enc=V.st 35 [.s (.int .u64 r.bD),.s (.int .u64 r.count),.s (.int .u64 r.base),.arr 27 (r.head.map aa),.s (.int .i64 r.aG)]:=rfl
   rw[hDr] at yt Ho hba ⊢
   simp only[B54,CR,CQ,gP,yt,hba,bM,c0,Ho,go_sem,simprocAttr]
   have m6:∀i,i < N→bX k K r.base.toNat h0 (i+1)=none→bX k K r.base.toNat h0 N=none:=fun i hi hn=> by
     have:=q28z hn (N - (i+1))
     rwa [show i+1+(N - (i+1))=N by omega] at this
   refine aV (fun q e H=>∃(i:Nat) (l:List av) (hd:Bs) (ko:Nat) (out:V),q=N - i∧i≤N∧e 38= .s (.int .i64 (i:Nat))∧e 37= .s (.int .i64 (N:Nat))∧e 1= .ptr did [0] 1∧e 3= .ptr h.length [0] 1∧e 5= .ptr (h.length+1) [0] 1∧e 10= .ptr (h.length+2) [0] 1∧e 9= .al false none (im.map aa)∧e 12=out∧
       bX k K r.base.toNat h0 i=some (l,hd)∧H[h.length]? =some (.cells (some 27) [.arr 27 (k.map aa)])∧H[h.length+1]? =some (.cells (some 35) [V.st 35 [.s (.int .u64 r.bD),.s (.int .u64 r.count),.s (.int .u64 r.base),.arr 27 (r.head.map aa),.s (.int .i64 r.aG)]])∧H[h.length+2]? =some (.cells (some 27) [.arr 27 (hd.map aa)])∧XR H (some 59) ko out (l.map av.enc)∧h.length+3≤ko∧Fw [] h H∧h.length+3≤H.length)
     (fun e H=>∃(l:List av) (hd:Bs) (ko:Nat) (out:V),e 5= .ptr (h.length+1) [0] 1∧e 10= .ptr (h.length+2) [0] 1∧e 9= .al false none (im.map aa)∧e 12=out∧
       bX k K r.base.toNat h0 N=some (l,hd)∧H[h.length+1]? =some (.cells (some 35) [V.st 35 [.s (.int .u64 r.bD),.s (.int .u64 r.count),.s (.int .u64 r.base),.arr 27 (r.head.map aa),.s (.int .i64 r.aG)]])∧H[h.length+2]? =some (.cells (some 27) [.arr 27 (hd.map aa)])∧XR H (some 59) ko out (l.map av.enc)∧h.length+3≤ko∧Fw [] h H)
     N _ _ ⟨0,[],h0,h.length+3,_,rfl,by omega,rfl,rfl,rfl,rfl,rfl,rfl,rfl,rfl,rfl,aM _ _ 0,aM _ _ 1,aM _ _ 2,XR.nil _ _ _,acm _,Fw.app _ _ _,by simp⟩ ?_ ?_
   ·rintro q e H ⟨i,l,np,ko,out,rfl,hi,e38,e37,e1,e3,e5,e10,e9,e12,xA,g0,g1,g2,xr,yr,fw,hHl⟩
    have vF:=Bv sI xA
    have oC:=nn xA
    by_cases ci:i < N
    ·have ci':(i:Int)<((N:Nat):Int):=by omega
     have w1:IntKind.i64.wrap ((i:Int)+1)=((i+1:Nat):Int):=q18z (by omega)
     have w2:IntKind.i64.wrap (2+(i:Int))=2+(i:Nat):=wrap_i64 (by omega) (by omega)
     have w3:IntKind.u64.wrap (i:Int)=(i:Nat):=wrap_u64 (by omega) (by omega)
     have w4:IntKind.u64.wrap (r.base+(i:Nat))=r.base+(i:Nat):=wrap_u64 (by omega) (by omega)
     have w5:IntKind.u64.wrap (r.base+(i:Nat)+1)=((r.base.toNat+i+1:Nat):Int):=by rw[wrap_u64 (by omega) (by omega)];omega
     have dL:=fun b=> Bp.Jx b H did K (2+(i:Nat)) (hd.mono fw (by simp))
     simp only[Bp.R] at dL
     have ai:=fun b=> JF b H k np ((K.get (2+(i:Nat))).getD []) (r.base.toNat+i+1) hk vF (by omega)
     have iK:bX k K r.base.toNat h0 (i+1)=if (K.get (2+(i:Nat))).isSome=false∨(lI k (r.base.toNat+i+1) np ((K.get (2+(i:Nat))).getD [])).2≠0 then none
      else some (l++[(lI k (r.base.toNat+i+1) np ((K.get (2+(i:Nat))).getD [])).1],dy np ((K.get (2+(i:Nat))).getD [])):=by rw[bX,xA]
     have hgl:((K.get (2+(i:Nat))).getD []).length≤8192:=by
       cases hq:K.get (2+(i:Nat)) with
       | none=> simp
       | some x=> exact Dm hd.ok hq
     have hhd:=fun b H'=> y5 b H' (.al false none (((K.get (2+(i:Nat))).getD []).map aa)) np ((K.get (2+(i:Nat))).getD []) vF (dp _ _ _) (by omega)
     generalize K.get (2+(i:Nat))=G at *
     generalize hX:lI k (r.base.toNat+i+1) np (G.getD [])=X at *
     obtain ⟨x,why⟩:=X
     simp only at iK ai
     have tkr:∀Y,(H++Y).take h.length=h:=fun Y=>(fw.trans (Fw.app [] H Y)).take
     cases hs:G.isSome with
     | false=>
       rw[hs] at dL iK
       have j5:=m6 i ci (by rw[iK];simp)
       simp only[e38,e37,e1,e3,e5,e10,e9,e12,ci',w2,w3,w4,w5,dL,g0,g1,g2,ai,iY,iZ,ph,adu,bM,j5,rF,acF,tkr,go_sem,simprocAttr]
     | true=>
       rw[hs] at dL iK
       by_cases cw:why=0
       case neg=>
         have j5:=m6 i ci (by rw[iK];simp[cw])
         simp only[e38,e37,e1,e3,e5,e10,e9,e12,ci',w2,w3,w4,w5,dL,g0,g1,g2,ai,iY,iZ,ph,adu,bM,j5,rF,acF,tkr,cw,go_sem,simprocAttr]
       rw[if_neg (by simp[cw])] at iK
       have xr1:=xr.mono (H:=H++[.cells (some 59) [x.enc]]) (fun b hb=> q10z hb _)
       obtain ⟨out2,H2,ko2,jY,xr2,yM,hH2,hkk,hH2l,hold⟩:=xr1.tC (n:=h.length+3) (bytes:=152) (ys:=[x.enc]) (m:=1) yr (by simp;omega) rfl (by simp[ph]) (by simp;omega)
       rw[acs] at jY
       simp only[aco,acR,ada,acU,ade,ac1] at jY
       have n2:∀j b,j≠ko→H[j]? =some b→H2[j]? =some b:=fun j b hj hb=> hold j b hj (q10z hb _)
       have g02:=n2 _ _ (by omega) g0
       have g12:=n2 _ _ (by omega) g1
       have g22:=n2 _ _ (by omega) g2
       have fw2:Fw [] h H2:=(fw.trans (Fw.app [] H _)).trans' (n:=0) hH2l hold (by omega)
       have xk:decide (h.length≤h.length+2)=true:=by simp
       have j5:∃m,m < N - i∧∃(i':Nat) (l':List av) (hd2:Bs) (ko:Nat) (out:V),m=N - i'∧i'≤N∧Value.int IntKind.i64 ((i+1:Nat):Int)=Value.int IntKind.i64 (i':Int)∧out2=out∧bX k K r.base.toNat h0 i'=some (l',hd2)∧
         (H2.set (h.length+2) (.cells (some 27) [.arr 27 ((dy np (G.getD [])).map aa)]))[h.length]? =some (.cells (some 27) [.arr 27 (k.map aa)])∧
         (H2.set (h.length+2) (.cells (some 27) [.arr 27 ((dy np (G.getD [])).map aa)]))[h.length+1]? =some (.cells (some 35) [V.st 35 [.s (.int .u64 r.bD),.s (.int .u64 r.count),.s (.int .u64 r.base),.arr 27 (r.head.map aa),.s (.int .i64 r.aG)]])∧
         (H2.set (h.length+2) (.cells (some 27) [.arr 27 ((dy np (G.getD [])).map aa)]))[h.length+2]? =some (.cells (some 27) [.arr 27 (hd2.map aa)])∧
         XR (H2.set (h.length+2) (.cells (some 27) [.arr 27 ((dy np (G.getD [])).map aa)])) (some 59) ko out (l'.map av.enc)∧h.length+3≤ko∧Fw [] h (H2.set (h.length+2) (.cells (some 27) [.arr 27 ((dy np (G.getD [])).map aa)]))∧h.length+3≤H2.length:=by
         refine ⟨N - (i+1),by omega,i+1,_,_,ko2,out2,rfl,by omega,rfl,rfl,iK,?_,?_,q9z g22,?_,yM,fw2.cP (by omega) _,hH2⟩
         ·rw[acp (by omega)];exact g02
         ·rw[acp (by omega)];exact g12
         ·rw[adm];exact xr2.set (by omega) _
       simp only[e38,e37,e1,e3,e5,e10,e9,e12,ci',w1,w2,w3,w4,w5,dL,g0,g1,g2,ai,iY,iZ,ph,adu,bM,cw,jY,hhd,g22,g02,g12,xk,go_sem,simprocAttr]
       exact j5
    ·have ci':¬(i:Int)<((N:Nat):Int):=by omega
     obtain rfl:i=N:=by omega
     simp only[e38,e37,e1,e3,e5,e10,e9,e12,ci',go_sem,simprocAttr]
     exact ⟨l,np,ko,out,rfl,xA,g1,g2,xr,yr,fw⟩
   ·rintro e H ⟨l,np,ko,out,e5,e10,e9,e12,xA,g1,g2,xr,yr,fw⟩
    have fk:=fw.take
    have dt:=xr.oy (n:=h.length) (by omega) (Bu l)
    by_cases ch:np=r.head
    ·simp only[e5,e10,e9,e12,g1,g2,bM,bI,ch,dt,fk,rF,xA,go_sem,simprocAttr]
    ·simp only[e5,e10,e9,e12,g1,g2,bM,bI,ch,dt,fk,rF,xA,go_sem,simprocAttr]
theorem xB (cf:CF) (base:Nat) (h:Hp) (f:Bool) (l:Bs) (k:IntKind) (n:Nat) (hn:n≤l.length):aC cf base h (.j2 none true false false) [.al f none (l.map aa),.s (.int k (n:Nat))]=some (.al f none ((l.drop n).map aa),h):=by
 rw[SR.RS (cf:=cf) (base:=base) (h:=h) (x:= .al f none (l.map aa)) (g:=none) (vs:=l.map aa) (.inl ⟨f,rfl⟩) (k:=k) (l:=n) (by simpa using hn)]
 simp only[pj,acy,BEq.rfl,adC,←List.map_drop]
 rw[ack (by simp)]
theorem Ba (cf:CF) (base:Nat) (h:Hp) (f:Bool) (l:Bs) (k:IntKind) (n:Nat) (hn:n≤l.length):aC cf base h (.j2 none false true false) [.al f none (l.map aa),.s (.int k (n:Nat))]=some (.al (f && n==l.length) none ((l.take n).map aa),h):=by
 rw[SR.aa7 (cf:=cf) (base:=base) (h:=h) (x:= .al f none (l.map aa)) (g:=none) (vs:=l.map aa) (.inl ⟨f,rfl⟩) (k:=k) (r:=n) (by simpa using hn)]
 simp only[pj,acy,ac2,afn,aeX]
theorem Bw (b:Nat) (h:Hp) (f:Bool) (l:Bs) (hl:8≤l.length):run fns pr b 125 [.al f none (l.map aa)] h=some (.s (.int .u64 (j9 (l.take 8):Nat)),h):=by
 refine Vm.aQ (nt:=20) rfl QL (by simp) ?_
 have hc:=fun cf base H=> Ba cf base H f l .i64 8 hl
 have hml:(l.take 8).length=8:=by rw[acI];omega
 have tk:∀X,(h++X).take h.length=h:=fun X=> acq
 generalize (f && 8==l.length)=g at hc
 generalize hm:l.take 8=m at *
 have dE:∀H,SR H (.al g none (m.map aa)) none (m.map aa):=fun H=> .inl ⟨g,rfl⟩
 have tk2:m.take 8=m:=ack (by omega)
 generalize hx:V.al g none (m.map aa)=x at hc dE
 have dQ:∀cf base h,aC cf base h .len [x]=some (.s (.int .i64 8),h):=fun cf base h=> by rw[(dE h).bU];simp[hml]
 simp only[QJ,IA,Iz,show (V.s (.int .i64 8))=V.s (.int .i64 ((8:Nat):Int)) from rfl,hc,dQ,go_sem,simprocAttr]
 refine aV (fun q e H=>∃j,q=8 - j∧j≤8∧e 9= .s (.int .i64 (j:Nat))∧e 8= .s (.int .i64 8)∧e 7=x∧e 3= .s (.int .u64 (j9 (m.take j):Nat))∧H=h)
   (fun e H=> e 3= .s (.int .u64 (j9 m:Nat))∧H=h) 8 _ _ ?_ ?_ ?_
 ·exact ⟨0,rfl,by omega,rfl,rfl,rfl,rfl,rfl⟩
 ·rintro q e H ⟨j,rfl,hj,e9,e8,e7,e3,rfl⟩
  by_cases cd:j < 8
  ·have cj:(j:Int)< 8:=by omega
   have i1:=fun cf base=>(dE H).ck (cf:=cf) (base:=base) (k:= .i64) (i:=j) (by simp;omega)
   have i2:=fun cf base=>(dE H).fL (cf:=cf) (base:=base) (i:=j) (v:=aa (m.getD j 0)) (by rw[acv,List.getD,aci (by omega)];rfl) rfl
   have w3:IntKind.i64.wrap ((j:Int)+1)=((j+1:Nat):Int):=q17z (by omega)
   have hb:=tz m j (by omega)
   have hy:=(m.getD j 0).toNat_lt
   have hp:256 ^ j * 256≤18446744073709551616:=by rw[←Nat.pow_succ];exact Nat.pow_le_pow_right (by omega) (show j+1≤8 by omega)
   have s1:=Pl (a:=j9 (m.take j)) (by omega)
   have s2:=Yh (a:=j9 (m.take j)) (y:=(m.getD j 0).toNat) (by omega) hy
   have hw:=pd (n:=(m.getD j 0).toNat) (by omega)
   have h1:∀cf base h,aC cf base h (.bin .num .shl) [.s (.int .u64 (j9 (m.take j):Nat)),.s (.int .i64 8)]=some (.s (.int .u64 ((j9 (m.take j)* 256:Nat):Int)),h):=fun cf base h=> by rw[←s1];exact vE cf base h .u64 .i64 _ 8 (by omega)
   have h2:∀cf base h,aC cf base h (.bin .num .shl) [.s (.int .u64 (j9 (m.take j):Nat)),.s (.int .u64 8)]=some (.s (.int .u64 ((j9 (m.take j)* 256:Nat):Int)),h):=fun cf base h=> by rw[←s1];exact vE cf base h .u64 .u64 _ 8 (by omega)
   simp only[e9,e8,e7,e3,cj,i1,i2,aa,w3,h1,h2,hw,s2,go_sem,simprocAttr]
   refine ⟨8 - (j+1),by omega,j+1,rfl,by omega,rfl,?_⟩
   rw[tx (by omega)]
  ·have cj:¬(j:Int)< 8:=by omega
   obtain rfl:j=8:=by omega
   simp only[e9,e8,e7,e3,cj,tk2,go_sem,simprocAttr]
 ·rintro e H ⟨e3,rfl⟩
  simp only[e3,adN,go_sem,simprocAttr]
def dz :Nat→Bs→Option (List ae×Bs)
 | 0,l=> some ([],l)
 | n+1,l=> match dz n l with
   | none=> none
   | some (vs,m)=> if (cy m).2.2≠0 then none else some (vs++[(cy m).1],m.drop (cy m).2.1.toNat)
theorem q27z {l:Bs} {n:Nat} (hn:dz n l=none):∀m,dz (n+m) l=none
 | 0=> hn
 | m+1=> by rw[←Nat.add_assoc,dz,q27z hn m]
theorem q21z (m:Bs) (h:(cy m).2.2=0):(cy m).1.wf:=by
 have hw:=nZ (m,false)
 unfold cy at h ⊢
 generalize cL (m,false)=x at *
 by_cases c:x.2.2=true
 ·rw[if_pos c] at h
  exact absurd h (by decide)
 ·rw[if_neg c]
  exact hw
theorem Bx (m:Bs):∃n:Nat,(cy m).2.1=n∧n≤m.length:=by
 unfold cy
 generalize cL (m,false)=x at *
 by_cases c:x.2.2=true
 ·rw[if_pos c];exact ⟨0,rfl,by omega⟩
 ·rw[if_neg c];exact ⟨_,rfl,Nat.sub_le _ _⟩
theorem pk {l:Bs}:∀ {n:Nat} {vs:List ae} {m:Bs},dz n l=some (vs,m)→m.length≤l.length∧vs.length=n∧∀v∈vs,v.wf
 | 0,vs,m,e=> by cases e;simp
 | n+1,vs,m,e=> by
   rw[dz] at e
   split at e
   ·cases e
   ·rename_i vs2 m2 e2
    obtain ⟨h1,h2,h3⟩:=pk e2
    have hw:=q21z m2
    generalize cy m2=X at *
    by_cases c:X.2.2≠0
    ·rw[if_pos c] at e;cases e
    ·rw[if_neg c] at e
     simp only[Option.some.injEq,Prod.mk.injEq] at e
     obtain ⟨rfl,rfl⟩:=e
     refine ⟨by simp;omega,by simp[h2],fun v hv=> ?_⟩
     rcases acG.1 hv with hv | hv
     ·exact h3 v hv
     ·simp only[adE] at hv
      subst hv
      exact hw (ae2.1 c)
def qh (x:Option (List ae×Bs)):V:=match x with
 | none=> .bP [.al false (some 56) [],.al false none [],.s (.bool false)]
 | some (vs,m)=> .bP [.al false (some 56) (vs.map ae.enc),.al false none (m.map aa),.s (.bool true)]
theorem By (b:Nat) (h:Hp) (f:Bool) (l:Bs) (N:Nat) (hl:l.length≤100000) (hN:N≤255):run fns pr b 124 [.al f none (l.map aa),.s (.int .i64 (N:Nat))] h=some (qh (dz N l),h):=by
 refine Vm.aQ (nt:=32) rfl QI (by simp) ?_
 simp only[QG,Iy,Ix,go_sem,simprocAttr]
 refine aV (fun q e H=>∃(i:Nat) (vs:List ae) (m:Bs) (f:Bool) (ko:Nat) (out:V),q=N - i∧i≤N∧e 12= .s (.int .i64 (i:Nat))∧e 11= .s (.int .i64 (N:Nat))∧e 0= .al f none (m.map aa)∧e 7=out∧dz i l=some (vs,m)∧XR H (some 56) ko out (vs.map ae.enc)∧h.length≤ko∧Fw [] h H)
   (fun e H=>∃(vs:List ae) (m:Bs) (f:Bool) (ko:Nat) (out:V),e 0= .al f none (m.map aa)∧e 7=out∧dz N l=some (vs,m)∧XR H (some 56) ko out (vs.map ae.enc)∧h.length≤ko∧Fw [] h H)
   N _ _ ⟨0,[],l,f,h.length,_,rfl,by omega,rfl,rfl,rfl,rfl,rfl,XR.nil _ _ _,acm _,Fw.refl _ _⟩ ?_ ?_
 ·rintro q e H ⟨i,vs,m,f,ko,out,rfl,hi,e12,e11,e0,e7,hvi,xr,yr,fw⟩
  obtain ⟨hml,ED,_⟩:=pk hvi
  by_cases ci:i < N
  ·have ci':(i:Int)<((N:Nat):Int):=by omega
   have w1:IntKind.i64.wrap ((i:Int)+1)=((i+1:Nat):Int):=q18z (by omega)
   have htv:=fun b H=> Bb b H f m (by omega)
   have iK:dz (i+1) l=if (cy m).2.2≠0 then none else some (vs++[(cy m).1],m.drop (cy m).2.1.toNat):=by rw[dz,hvi]
   obtain ⟨n,Hj,hn2⟩:=Bx m
   generalize cy m=X at *
   obtain ⟨x,n',why⟩:=X
   simp only at Hj htv iK
   subst Hj
   rw[acC] at iK
   have hle:=fw.len
   have sd:∀y,(decide (h.length≤H.length) || y)=true:=fun y=> by rw[decide_eq_true hle];rfl
   have tkr:∀Y,(H++Y).take h.length=h:=fun Y=>(fw.trans (Fw.app [] H Y)).take
   by_cases cw:why=0
   case neg=>
     rw[if_pos cw] at iK
     have j5:dz N l=none:=by
       have:=q27z iK (N - (i+1))
       rwa [show i+1+(N - (i+1))=N by omega] at this
     simp only[e12,e11,e0,e7,ci',htv,cw,aJ,aK,sd,tkr,j5,qh,go_sem,simprocAttr]
   rw[if_neg (by simp[cw])] at iK
   have xr1:=xr.mono (H:=H++[.cells (some 56) [x.enc]]) (fun b hb=> q10z hb _)
   obtain ⟨out2,H2,ko2,jY,xr2,yM,hH2,hkk,hH2l,hold⟩:=xr1.tC (n:=h.length) (bytes:=96) (ys:=[x.enc]) (m:=1) yr (by simp;omega) rfl (by simp[jF]) (by simp;omega)
   rw[acs] at jY
   simp only[aco,acR,ada,acU,ade,ac1] at jY
   have fw2:Fw [] h H2:=(fw.trans (Fw.app [] H _)).trans' (n:=0) hH2l hold yr
   have hsl:=fun cf base H=> xB cf base H f m .i64 n hn2
   rw[show vs.map ae.enc++[x.enc]=(vs++[x]).map ae.enc by simp] at xr2
   simp only[e12,e11,e0,e7,ci',htv,cw,aJ,aK,sd,jY,hsl,w1,go_sem,simprocAttr]
   exact ⟨N - (i+1),by omega,i+1,_,_,f,ko2,out2,rfl,by omega,rfl,rfl,rfl,iK,xr2,yM,fw2⟩
  ·have ci':¬(i:Int)<((N:Nat):Int):=by omega
   obtain rfl:i=N:=by omega
   simp only[e12,e11,e0,e7,ci',go_sem,simprocAttr]
   exact ⟨vs,m,f,ko,out,rfl,rfl,hvi,xr,yr,fw⟩
 ·rintro e H ⟨vs,m,f,ko,out,e0,e7,hvi,xr,yr,fw⟩
  have fk:=fw.take
  have dt:=xr.oy (n:=h.length) yr (jE vs)
  simp only[e0,e7,dt,fk,hvi,qh,go_sem,simprocAttr]
def oR (l:Bs):Option (kK×Bs):=if l.length < 11 then none else match dz (l.getD 10 0).toNat (l.drop 11) with
 | none=> none
 | some (vs,m)=> some (⟨((l.getD 0 0).toNat:Nat),(j9 ((l.drop 1).take 8):Nat),((l.getD 9 0).toNat:Nat),vs⟩,m)
def lJ (s0:ba) (l:Bs):Nat→Option (ba×Bs)
 | 0=> some (s0,l)
 | n+1=> match lJ s0 l n with
   | none=> none
   | some (s,m)=> match oR m with
     | none=> none
     | some (q,rest)=> if (oG s n q).1≠0 then none else some ((oG s n q).2,rest)
theorem q26z {s0:ba} {l:Bs} {n:Nat} (hn:lJ s0 l n=none):∀m,lJ s0 l (n+m)=none
 | 0=> hn
 | m+1=> by rw[←Nat.add_assoc,lJ,q26z hn m]
def vW (a b:Int) (l:Bs):Option ba:=if l.length < 2 then none else (lJ (ba.new a b) (l.drop 2) 16).map (·.1)
theorem EY {s:ba} {n:Nat} {q:kK} (h1:ni s n q=true) (h2:rising q.vs=true) (hw:∀v∈q.vs,v.wf):POk s n q:=by
 unfold ni at h1
 split at h1
 ·cases h1
 ·rename_i c1
  split at h1
  ·cases h1
  ·rename_i c2
   split at h1
   ·cases h1
   ·rename_i c3
    unfold rising at h2
    simp only[acn,decide_eq_true_eq,acJ] at h2
    simp only[aeq,afr,decide_eq_true_eq,ae2] at h1
    obtain ⟨⟨h4,h5⟩,h6⟩:=h2
    refine ⟨by omega,by omega,by omega,fun h=> by omega,fun h=> by omega,fun h=> ?_,h6,h4,fun v hv=>⟨h5 v hv,hw v hv,?_⟩⟩
    ·exact ad7 (by omega)
    ·have:=h1 v hv;omega
theorem zb {l:Bs} {q:kK} {m:Bs} (h:oR l=some (q,m)):11≤l.length∧m.length≤l.length∧(∀v∈q.vs,v.wf)∧q.vs.length≤255:=by
 unfold oR at h
 split at h
 ·cases h
 ·split at h
  ·cases h
  ·rename_i vs m2 e2
   obtain ⟨h1,h2,h3⟩:=pk e2
   simp only[Option.some.injEq,Prod.mk.injEq] at h
   obtain ⟨rfl,rfl⟩:=h
   have:=(l.getD 10 0).toNat_lt
   refine ⟨by omega,by rw[adb] at h1;omega,h3,by simp only;omega⟩
theorem M4 {s:ba} {n:Nat} {q:kK} (hk:jG s) (hw:∀v∈q.vs,v.wf):jG (oG s n q).2:=by
 unfold oG
 split
 ·rename_i c
  exact hk.kY fun hi=> EY c.1 c.2 hw
 ·exact hk
def YC (h:Hp) (v:V) (h':Hp):Option ba→Prop
 | none=> v= .bP [.s (.pointer none),.s (.bool false)]∧Fw [] h h'
 | some s=> jG s∧∃F,v= .bP [.ptr h.length [0] 1,.s (.bool true)]∧iU h' h.length s F∧Fw [] h h'∧∀j∈F,h.length≤j
theorem sK (b:Nat) (h:Hp) (x z:Int) (f:Bool) (l:Bs) (hl:l.length≤100000) (hb:b≤h.length) (h1:1≤z) (h2:z≤8) (h3:0≤x) (h4:x < z):
 ∃v h',run fns pr b 92 [.s (.int .i64 x),.s (.int .i64 z),.al f none (l.map aa)] h=some (v,h')∧YC h v h' (vW x z l):=by
 refine Vm.ef (nt:=65) rfl Xc (by simp) ?_
 obtain ⟨v1,H1,e1,F1,rfl,s1,f1,n1⟩:=sE b h x z hb h1 h2 h3 h4
 have dQ:∀cf base H f (l:Bs),aC cf base H .len [.al f none (l.map aa)]=some (.s (.int .i64 (l.length:Nat)),H):=fun cf base H f l=> by rw[nb];simp
 unfold vW
 by_cases c0:l.length < 2
 ·have c0':((l.length:Nat):Int)< 2:=by omega
  rw[if_pos c0]
  simp only[B92,Ih,Ig,e1,dQ,c0',go_sem,simprocAttr]
  exact ⟨rfl,f1⟩
 have c0':¬((l.length:Nat):Int)< 2:=by omega
 rw[if_neg c0]
 have Ek:∀cf base H,aC cf base H (.j2 none true false false) [.al f none (l.map aa),.s (.int .i64 2)]=some (.al f none ((l.drop 2).map aa),H):=fun cf base H=> xB cf base H f l .i64 2 (by omega)
 simp only[B92,Ih,Ig,e1,dQ,c0',Ek,go_sem,simprocAttr]
 have vF:(l.drop 2).length≤100000:=by rw[adb];omega
 generalize l.drop 2=l2 at *
 have k0:=jG.new h1 h2 h3 h4
 generalize ba.new x z=S0 at *
 refine aV (fun q e H=>∃(i:Nat) (s:ba) (m:Bs) (F':List Nat) (f:Bool),q=16 - i∧i≤16∧e 25= .s (.int .i64 (i:Nat))∧e 8= .ptr h.length [0] 1∧e 2= .al f none (m.map aa)∧lJ S0 l2 i=some (s,m)∧m.length≤l2.length∧jG s∧iU H h.length s F'∧Fw [] h H∧∀j∈F',h.length≤j)
   (fun e H=>∃(s:ba) (m:Bs) (F':List Nat),e 8= .ptr h.length [0] 1∧lJ S0 l2 16=some (s,m)∧jG s∧iU H h.length s F'∧Fw [] h H∧∀j∈F',h.length≤j)
   16 _ _ ⟨0,S0,l2,F1,f,rfl,by omega,rfl,rfl,rfl,rfl,acm _,k0,s1,f1,n1⟩ ?_ ?_
 ·rintro q e H ⟨i,s,m,F',f,rfl,hi,e25,e8,e2,yt,hml,hk,hs,fw,hn⟩
  by_cases ci:i < 16
  ·have ci':(i:Int)< 16:=by omega
   have w1:IntKind.i64.wrap ((i:Int)+1)=((i+1:Nat):Int):=q18z (by omega)
   have Dn:lJ S0 l2 (i+1)=none→lJ S0 l2 16=none:=fun hh=> by
     have:=q26z hh (16 - (i+1))
     rwa [show i+1+(16 - (i+1))=16 by omega] at this
   have iK:lJ S0 l2 (i+1)=match oR m with
     | none=> none
     | some (q,rest)=> if (oG s i q).1≠0 then none else some ((oG s i q).2,rest):=by rw[lJ,yt]
   by_cases c11:m.length < 11
   ·have c11':((m.length:Nat):Int)< 11:=by omega
    have hp:oR m=none:=by unfold oR;rw[if_pos c11]
    rw[hp] at iK
    have hz:=Dn iK
    simp only[e25,e8,e2,ci',dQ,c11',hz,aej,go_sem,simprocAttr]
    exact ⟨rfl,fw⟩
   have c11':¬((m.length:Nat):Int)< 11:=by omega
   have Sg:∀cf base H,aC cf base H (.j2 none true false false) [.al f none (m.map aa),.s (.int .i64 11)]=some (.al f none ((m.drop 11).map aa),H):=fun cf base H=> xB cf base H f m .i64 11 (by omega)
   have vR:∀cf base H,aC cf base H (.j2 none true false false) [.al f none (m.map aa),.s (.int .i64 1)]=some (.al f none ((m.drop 1).map aa),H):=fun cf base H=> xB cf base H f m .i64 1 (by omega)
   have dE:∀H,SR H (.al f none (m.map aa)) none (m.map aa):=fun H=> .inl ⟨f,rfl⟩
   have i1:=fun cf base H (n:Nat) (hn:n < m.length)=>(dE H).ck (cf:=cf) (base:=base) (k:= .i64) (i:=n) (by simpa using hn)
   have i2:=fun cf base H (n:Nat) (hn:n < m.length)=>(dE H).fL (cf:=cf) (base:=base) (i:=n) (v:=aa (m.getD n 0)) (by rw[acv,List.getD,aci hn];rfl) rfl
   have a10:∀cf base H,aC cf base H (.de none) [.al f none (m.map aa),.s (.int .i64 10)]=some (iW (.al f none (m.map aa)) 10,H):=fun cf base H=> i1 cf base H 10 (by omega)
   have b10:=fun cf base H=> i2 cf base H 10 (by omega)
   have a0:∀cf base H,aC cf base H (.de none) [.al f none (m.map aa),.s (.int .i64 0)]=some (iW (.al f none (m.map aa)) 0,H):=fun cf base H=> i1 cf base H 0 (by omega)
   have b0:=fun cf base H=> i2 cf base H 0 (by omega)
   have a9:∀cf base H,aC cf base H (.de none) [.al f none (m.map aa),.s (.int .i64 9)]=some (iW (.al f none (m.map aa)) 9,H):=fun cf base H=> i1 cf base H 9 (by omega)
   have b9:=fun cf base H=> i2 cf base H 9 (by omega)
   have nV:∀y:UInt8,IntKind.i64.wrap (y.toNat:Int)=(y.toNat:Nat):=fun y=> wrap_i64 (by omega) (by have:=y.toNat_lt;omega)
   have hiv:=fun b H=> By b H f (m.drop 11) (m.getD 10 0).toNat (by rw[adb];omega) (by have:=(m.getD 10 0).toNat_lt;omega)
   have hnu:=fun b H=> Bw b H f (m.drop 1) (by rw[adb];omega)
   have hpm:oR m=match dz (m.getD 10 0).toNat (m.drop 11) with
     | none=> none
     | some (vs,r)=> some (⟨((m.getD 0 0).toNat:Nat),(j9 ((m.drop 1).take 8):Nat),((m.getD 9 0).toNat:Nat),vs⟩,r):=by unfold oR;rw[if_neg c11]
   have hpf:=fun q r=> zb (l:=m) (q:=q) (m:=r)
   generalize dz (m.getD 10 0).toNat (m.drop 11)=W at *
   cases W with
   | none=>
     simp only at hpm
     rw[hpm] at iK
     have hz:=Dn iK
     simp only[e25,e8,e2,ci',dQ,c11',Sg,a10,b10,aa,nV,hiv,qh,hz,aej,go_sem,simprocAttr]
     exact ⟨rfl,fw⟩
   | some W=>
     obtain ⟨vs,r⟩:=W
     simp only at hpm
     obtain ⟨p1,p2,p3,p4⟩:=hpf _ _ hpm
     rw[hpm] at iK
     simp only[qh] at hiv
     have YD:∀b H,run fns pr b 125 [.al f none ((m.drop 1).map aa)] H=some (.s (.int .u64 (j9 ((m.drop 1).take 8):Nat)),H):=hnu
     generalize hq:(⟨((m.getD 0 0).toNat:Nat),(j9 ((m.drop 1).take 8):Nat),((m.getD 9 0).toNat:Nat),vs⟩:kK)=q at *
     obtain ⟨v2,H2,e2',rfl,F2,s2,f2,n2⟩:=Jo b H h.length i s F' q (fun j hj=> acN hb (hn j hj)) hs ci (by omega) p3
     have k2:=M4 (n:=i) hk p3
     simp only at iK
     have hqr:q.role=((m.getD 0 0).toNat:Nat)∧q.au=(j9 ((m.drop 1).take 8):Nat)∧q.to=((m.getD 9 0).toNat:Nat)∧q.vs=vs:=by rw[←hq];exact ⟨rfl,rfl,rfl,rfl⟩
     obtain ⟨q1,q2,q3,q4⟩:=hqr
     rw[q1,q2,q3,q4] at e2'
     generalize oG s i q=Z at *
     have fw2:Fw [] h H2:=fw.new f2 (fun j hj=> .inl (hn j hj))
     have n3:∀j∈F2,h.length≤j:=fun j hj=>(n2 j hj).elim (hn j) fun h1=> by have:=fw.len;omega
     by_cases cz:Z.1=0
     ·rw[if_neg (by simp[cz])] at iK
      rw[cz] at e2'
      simp only[e25,e8,e2,ci',dQ,c11',Sg,a10,b10,aa,nV,hiv,vR,YD,a0,b0,a9,b9,e2',w1,go_sem,simprocAttr]
      exact ⟨16 - (i+1),by omega,i+1,_,r,F2,false,rfl,by omega,rfl,rfl,iK,by omega,k2,s2,fw2,n3⟩
     ·rw[if_pos cz] at iK
      have hz:=Dn iK
      simp only[e25,e8,e2,ci',dQ,c11',Sg,a10,b10,aa,nV,hiv,vR,YD,a0,b0,a9,b9,e2',cz,hz,aej,go_sem,simprocAttr]
      exact ⟨rfl,fw2⟩
  ·have ci':¬(i:Int)< 16:=by omega
   obtain rfl:i=16:=by omega
   simp only[e25,e8,e2,ci',go_sem,simprocAttr]
   exact ⟨s,m,F',yt,hk,hs,fw,hn⟩
 ·rintro e H ⟨s,m,F',e8,yt,hk,hs,fw,hn⟩
  simp only[e8,yt,acO,go_sem,simprocAttr]
  exact ⟨hk,F',rfl,hs,fw,hn⟩
def ofI (a b:Int) (l:Bs):Option ba:=match vW a b l with
 | none=> none
 | some s=> if gD s=l then some s else none
def ofR (h:Hp) (v:V) (h':Hp):Option ba→Prop
 | none=> v= .bP [.s (.pointer none),.s (.int .i64 12)]∧Fw [] h h'
 | some s=> jG s∧∃F,v= .bP [.ptr h.length [0] 1,.s (.int .i64 0)]∧iU h' h.length s F∧Fw [] h h'∧∀j∈F,h.length≤j
theorem YE (b:Nat) (h:Hp) (x z:Int) (f:Bool) (l:Bs) (hl:l.length≤100000) (hb:b≤h.length) (h1:1≤z) (h2:z≤8) (h3:0≤x) (h4:x < z):
 ∃v h',run fns pr b 55 [.s (.int .i64 x),.s (.int .i64 z),.al f none (l.map aa)] h=some (v,h')∧ofR h v h' (ofI x z l):=by
 obtain ⟨v1,H1,e1,r1⟩:=sK b h x z f l hl hb h1 h2 h3 h4
 refine Vm.ef (nt:=27) rfl V1 (by simp) ?_
 unfold ofI
 cases hr:vW x z l with
 | none=>
   rw[hr] at r1
   obtain ⟨rfl,f1⟩:=r1
   simp only[B55,e1,go_sem,simprocAttr]
   exact ⟨rfl,f1⟩
 | some s=>
   rw[hr] at r1
   obtain ⟨hk,F,rfl,hs,f1,hn⟩:=r1
   have nV:=fun b=> qd b H1 h.length s F hs hk
   have heq:=fun b f=> yG b H1 (.al false none ((gD s).map aa)) (.al f none (l.map aa)) (gD s) l (dp _ _ _) (dp _ _ _)
   simp only
   by_cases c:gD s=l
   ·rw[if_pos c]
    have cd:decide (gD s=l)=true:=decide_eq_true c
    simp only[B55,e1,nV,heq,cd,go_sem,simprocAttr]
    exact ⟨hk,F,rfl,hs,f1,hn⟩
   ·rw[if_neg c]
    have cd:decide (gD s=l)=false:=decide_eq_false c
    simp only[B55,e1,nV,heq,cd,go_sem,simprocAttr]
    exact ⟨rfl,f1⟩
theorem Sh {m:Bs} (hm:m.length=8):j9 m < 18446744073709551616:=by
 have:=tz m 8 (by omega)
 rwa [ack (by omega)] at this
theorem JH (s:Bs×Bool):∀n,∀v∈(sA n s).1,v.wf
 | 0=> by simp[sA]
 | n+1=> by
   have ih:=JH s n
   have hw:=nZ (sA n s).2
   intro v hv
   simp only[sA] at hv
   generalize sA n s=x at *
   rcases acG.1 hv with h | h
   ·exact ih v h
   ·simp only[adE] at h
    rw[h];exact hw
theorem iO :zeroV.wf:=by
 refine ⟨?_,?_,?_,?_,?_,?_,?_,?_,?_⟩<;> first | trivial | decide
theorem M5 (s:Bs×Bool):(oE s).1.wf:=by
 unfold oE
 have b0:=fun l=> pY l
 generalize aF 1 s=s1
 obtain ⟨k,s1⟩:=s1
 simp only
 have hk:=b0 k
 split
 ·have hw:=nZ s1
  generalize cL s1=x at *
  obtain ⟨v,x⟩:=x
  exact ⟨by simp,by simp,by simp,by simp,hw,by simp⟩
 ·split
  ·generalize aF 1 s1=s2
   obtain ⟨a,s2⟩:=s2
   simp only
   generalize aF 1 s2=s3
   obtain ⟨t,s3⟩:=s3
   simp only
   have hl:=q20z 8 s3
   generalize aF 8 s3=s4 at *
   obtain ⟨e,s4⟩:=s4
   simp only at hl ⊢
   have h1:=b0 a
   have h2:=b0 t
   have h3:=Sh hl
   exact ⟨by simp,by simp only;omega,by simp only;omega,by simp only;omega,iO,by simp⟩
  ·split
   ·generalize aF 1 s1=s2
    obtain ⟨a,s2⟩:=s2
    simp only
    have hl:=q20z 8 s2
    generalize aF 8 s2=s3 at *
    obtain ⟨e,s3⟩:=s3
    simp only at hl ⊢
    generalize aF 1 s3=s4
    obtain ⟨n,s4⟩:=s4
    simp only
    have hv:=JH s4 (min (aI n) 5)
    have ED:=C6 (min (aI n) 5) s4
    generalize sA (min (aI n) 5) s4=s5 at *
    obtain ⟨vs,s5⟩:=s5
    simp only at hv ED ⊢
    have h1:=b0 a
    have h3:=Sh hl
    exact ⟨by simp,by simp only;omega,by simp,by simp only;omega,iO,by simp only;omega,hv⟩
   ·split
    ·generalize aF 1 s1=s2
     obtain ⟨a,s2⟩:=s2
     simp only
     have hl:=q20z 8 s2
     generalize aF 8 s2=s3 at *
     obtain ⟨e,s3⟩:=s3
     simp only at hl ⊢
     have h1:=b0 a
     have h3:=Sh hl
     exact ⟨by simp,by simp only;omega,by simp,by simp only;omega,iO,by simp⟩
    ·exact ⟨by simp only;omega,by simp,by simp,by simp,iO,by simp⟩
theorem tS :ke.wf:=⟨by simp[ke],by simp[ke],by simp[ke],by simp[ke],iO,by simp[ke]⟩
theorem EZ (l:Bs):(nd l).1.wf:=by
 have hw:=M5 (l,false)
 unfold nd
 generalize oE (l,false)=x at *
 split
 ·exact tS
 ·exact hw
theorem JI (k:Bs) (n:Nat) (prev l:Bs):(lI k n prev l).1.wf:=by
 unfold lI
 split
 ·exact tS
 ·exact EZ _
theorem tT {k:Bs} {K:Dk} {base:Nat} {h:Bs}:∀ {n:Nat} {l:List av} {h1:Bs},bX k K base h n=some (l,h1)→∀r∈l,r.wf
 | 0,l,h1,e=> by cases e;simp
 | n+1,l,h1,e=> by
   rw[bX] at e
   split at e
   ·cases e
   ·rename_i l2 h2 e2
    have ih:=tT e2
    have hw:=JI k (base+n+1) h2 ((K.get (2+(n:Nat))).getD [])
    generalize lI k (base+n+1) h2 ((K.get (2+(n:Nat))).getD [])=x at *
    split at e
    ·cases e
    ·simp only[Option.some.injEq,Prod.mk.injEq] at e
     obtain ⟨rfl,rfl⟩:=e
     intro r hr
     rcases acG.1 hr with h | h
     ·exact ih r h
     ·simp only[adE] at h
      rw[h];exact hw
theorem JJ (k:Bs) (K:Dk) (r:ah):∀x∈(kj k K r).2.1,x.wf:=by
 unfold kj
 split
 ·simp
 ·split
  ·simp
  ·split
   ·simp
   ·rename_i l h e
    have:=tT e
    split
    ·exact this
    ·simp
theorem E0 {k:Bs} {n:Nat} {ad b t:Bs} (h:oN k n ad b=some t):t.length≤8192:=by
 unfold oN at h
 split at h
 ·simp only at h
  split at h
  ·cases h
   rw[lq,acI];omega
  ·cases h
 ·cases h
theorem E1 (k:Bs) (K:Dk) (r:ah):(jh k K r).1.length≤8192:=by
 unfold jh
 split
 ·simp
 ·split
  ·simp
  ·split
   ·exact E0 (by assumption)
   ·simp
theorem E2 (k:Bs) (K:Dk) (r:ah):(kj k K r).1.length≤8192:=by
 have hb:=E1 k K r
 unfold kj
 split
 ·simp
 ·split
  ·simp
  ·split
   ·simp
   ·split
    ·exact hb
    ·simp
theorem E3 (k:Bs) (K:Dk) (r:ah) (hw:r.wf):(kj k K r).2.1.length≤8:=by
 have:=jH r hw
 unfold kj
 split
 ·simp
 ·split
  ·simp
  ·split
   ·simp
   ·rename_i l h e
    have:=nn e
    split
    ·simp only;omega
    ·simp
def jJ :ba→List av→Option ba
 | s,[]=> some s
 | s,r::l=> if (bf s r).1≠0 then none else jJ (bf s r).2 l
def aL.begin (D:aL):Option ba:=if 0 < D.r.base then ofI D.mem D.bj (kj D.key D.dk D.r).1 else some (ba.new D.mem D.bj)
def aL.load (D:aL):Option ba:=if (kj D.key D.dk D.r).2.2≠0 then none else match D.begin with
 | none=> none
 | some s=> jJ s (kj D.key D.dk D.r).2.1
def YF (h:Hp) (v:V) (h':Hp):Option ba→Prop
 | none=> v= .bP [.s (.pointer none),.s (.bool false)]∧Fw [] h h'
 | some s=> jG s∧∃sid F,v= .bP [.ptr sid [0] 1,.s (.bool true)]∧iU h' sid s F∧Fw [] h h'∧∀j∈F,h.length≤j
structure DM (D:aL):Prop where
 m1:1≤D.bj
 m2:D.bj≤8
 m3:0≤D.mem
 m4:D.mem < D.bj
theorem JK (b:Nat) (h:Hp) (id:Nat) (D:aL) (F:List Nat) (hb:b≤h.length) (hd:lY h id D F) (hm:DM D) (hw:D.r.wf):
 ∃v h',run fns pr b 24 [.ptr id [0] 1] h=some (v,h')∧YF h v h' D.load:=by
 obtain ⟨did,sp,sid,Fs,hd⟩:=hd
 have hg:=hd.o
 have gU:=fun b=> M3 b h did D.key D.dk D.r hd.kl hw hd.d
 have sx:=E2 D.key D.dk D.r
 have hjw:=JJ D.key D.dk D.r
 have hjc:=E3 D.key D.dk D.r hw
 refine Vm.ef (nt:=71) rfl UZ (by simp) ?_
 unfold aL.load aL.begin
 simp only[eL] at hg
 generalize kj D.key D.dk D.r=J at *
 obtain ⟨im,L,why⟩:=J
 simp only[rF] at gU sx hjw hjc ⊢
 have hDr:D.r.enc=V.st 35 [.s (.int .u64 D.r.bD),.s (.int .u64 D.r.count),.s (.int .u64 D.r.base),.arr 27 (D.r.head.map aa),.s (.int .i64 D.r.aG)]:=rfl
 rw[hDr] at hg gU
 by_cases c0:why=0
 case neg=>
   rw[if_pos c0]
   simp only[B24,yw,yv,hg,gU,bM,c0,go_sem,simprocAttr]
   exact ⟨rfl,Fw.refl _ _⟩
 rw[if_neg (by simp[c0])]
 obtain ⟨v1,H1,e1,F1,rfl,s1,f1,n1⟩:=sE b h D.mem D.bj hb hm.m1 hm.m2 hm.m3 hm.m4
 have cT:=(hd.mono f1 (by simp)).o
 simp only[eL] at cT
 rw[hDr] at cT
 have dQ:∀cf base H,aC cf base H .len [.al false (some 59) (L.map av.enc)]=some (.s (.int .i64 (L.length:Nat)),H):=fun cf base H=> by rw[nb];simp
 by_cases cb:0 < D.r.base
 ·rw[if_pos cb]
  obtain ⟨v2,H2,e2,r2⟩:=YE b H1 D.mem D.bj false im (by omega) (acN hb f1.len) hm.m1 hm.m2 hm.m3 hm.m4
  cases ho:ofI D.mem D.bj im with
  | none=>
    rw[ho] at r2
    obtain ⟨rfl,f2⟩:=r2
    simp only[B24,yw,yv,hg,gU,bM,c0,e1,cT,cb,e2,go_sem,simprocAttr]
    exact ⟨rfl,f1.trans f2⟩
  | some S0=>
    rw[ho] at r2
    obtain ⟨k0,F0,rfl,s0,f2,n2⟩:=r2
    simp only[B24,yw,yv,hg,gU,bM,c0,e1,cT,cb,e2,dQ,go_sem,simprocAttr]
    refine aV (fun q e H=>∃(i:Nat) (s:ba) (F':List Nat),q=L.length - i∧i≤L.length∧e 61= .s (.int .i64 (i:Nat))∧e 60= .s (.int .i64 (L.length:Nat))∧e 59= .al false (some 59) (L.map av.enc)∧e 7= .ptr H1.length [0] 1∧jJ S0 L=jJ s (L.drop i)∧jG s∧iU H H1.length s F'∧Fw [] h H∧∀j∈F',h.length≤j)
      (fun e H=>∃(s:ba) (F':List Nat),e 7= .ptr H1.length [0] 1∧jJ S0 L=some s∧jG s∧iU H H1.length s F'∧Fw [] h H∧∀j∈F',h.length≤j)
      L.length _ _ ⟨0,S0,F0,by omega,by omega,rfl,rfl,rfl,rfl,rfl,k0,s0,(f1.trans f2),(fun j hj=> acN f1.len (n2 j hj))⟩ ?_ ?_
    ·rintro q e H ⟨i,s,F',rfl,hi,e61,e60,e59,e7,qV,hk,hs,fw,hn⟩
     by_cases ci:i < L.length
     ·have ci':(i:Int)<((L.length:Nat):Int):=by omega
      have w1:IntKind.i64.wrap ((i:Int)+1)=((i+1:Nat):Int):=q18z (by omega)
      have hv:L[i]? =some L[i]:=aci ci
      have hdr:L.drop i=L[i]::L.drop (i+1):=adh ci
      have vh:=hjw _ (ac3 ci)
      generalize L[i]=x at hv hdr vh
      rw[hdr] at qV
      have dE:SR H (.al false (some 59) (L.map av.enc)) (some 59) (L.map av.enc):= .inl ⟨false,rfl⟩
      have i1:=fun cf base=> dE.ck (cf:=cf) (base:=base) (k:= .i64) (i:=i) (by simpa using ci)
      have i2:=fun cf base=> dE.fL (cf:=cf) (base:=base) (i:=i) (v:=x.enc) (by rw[acv,hv];rfl) rfl
      have fP:Fw [] H (H++[bc.cells (some 59) [x.enc]]):=Fw.app [] H _
      have hbH:b≤H.length:=acN hb fw.len
      have sd:∀y,(decide (b≤H.length) || y)=true:=fun y=> by rw[decide_eq_true hbH];rfl
      obtain ⟨v3,H3,e3,rfl,F3,s3,f3,n3⟩:=tL b _ H1.length s F' x (fun j hj=> acN hb (hn j hj)) (hs.mono fP (by simp)) hk vh vh.ag.2
      have k3:=nh hk vh vh.ag.2
      simp only[jJ] at qV
      generalize bf s x=Z at *
      have fw3:Fw [] h H3:=(fw.trans fP).new f3 (fun j hj=> .inl (hn j hj))
      have Dg:∀j∈F3,h.length≤j:=fun j hj=>(n3 j hj).elim (hn j) fun h1=> by have:=fw.len;have:=fP.len;omega
      by_cases cz:Z.1=0
      ·rw[if_neg (by simp[cz])] at qV
       rw[cz] at e3
       simp only[e61,e60,e59,e7,ci',i1,i2,iY,iZ,sd,e3,w1,go_sem,simprocAttr]
       exact ⟨L.length - (i+1),by omega,i+1,_,F3,rfl,by omega,rfl,qV,k3,s3,fw3,Dg⟩
      ·rw[if_pos cz] at qV
       simp only[e61,e60,e59,e7,ci',i1,i2,iY,iZ,sd,e3,cz,qV,go_sem,simprocAttr]
       exact ⟨rfl,fw3⟩
     ·have ci':¬(i:Int)<((L.length:Nat):Int):=by omega
      obtain rfl:i=L.length:=by omega
      rw[aeR] at qV
      simp only[e61,e60,e59,e7,ci',go_sem,simprocAttr]
      exact ⟨s,F',qV,hk,hs,fw,hn⟩
    ·rintro e H ⟨s,F',e7,qV,hk,hs,fw,hn⟩
     simp only[e7,qV,go_sem,simprocAttr]
     exact ⟨hk,_,F',rfl,hs,fw,hn⟩
 ·rw[if_neg cb]
  simp only[B24,yw,yv,hg,gU,bM,c0,e1,cT,cb,dQ,go_sem,simprocAttr]
  have k0:=jG.new hm.m1 hm.m2 hm.m3 hm.m4
  refine aV (fun q e H=>∃(i:Nat) (s:ba) (F':List Nat),q=L.length - i∧i≤L.length∧e 61= .s (.int .i64 (i:Nat))∧e 60= .s (.int .i64 (L.length:Nat))∧e 59= .al false (some 59) (L.map av.enc)∧e 7= .ptr h.length [0] 1∧jJ (ba.new D.mem D.bj) L=jJ s (L.drop i)∧jG s∧iU H h.length s F'∧Fw [] h H∧∀j∈F',h.length≤j)
    (fun e H=>∃(s:ba) (F':List Nat),e 7= .ptr h.length [0] 1∧jJ (ba.new D.mem D.bj) L=some s∧jG s∧iU H h.length s F'∧Fw [] h H∧∀j∈F',h.length≤j)
    L.length _ _ ⟨0,(ba.new D.mem D.bj),F1,by omega,by omega,rfl,rfl,rfl,rfl,rfl,k0,s1,f1,n1⟩ ?_ ?_
  ·rintro q e H ⟨i,s,F',rfl,hi,e61,e60,e59,e7,qV,hk,hs,fw,hn⟩
   by_cases ci:i < L.length
   ·have ci':(i:Int)<((L.length:Nat):Int):=by omega
    have w1:IntKind.i64.wrap ((i:Int)+1)=((i+1:Nat):Int):=q18z (by omega)
    have hv:L[i]? =some L[i]:=aci ci
    have hdr:L.drop i=L[i]::L.drop (i+1):=adh ci
    have vh:=hjw _ (ac3 ci)
    generalize L[i]=x at hv hdr vh
    rw[hdr] at qV
    have dE:SR H (.al false (some 59) (L.map av.enc)) (some 59) (L.map av.enc):= .inl ⟨false,rfl⟩
    have i1:=fun cf base=> dE.ck (cf:=cf) (base:=base) (k:= .i64) (i:=i) (by simpa using ci)
    have i2:=fun cf base=> dE.fL (cf:=cf) (base:=base) (i:=i) (v:=x.enc) (by rw[acv,hv];rfl) rfl
    have fP:Fw [] H (H++[bc.cells (some 59) [x.enc]]):=Fw.app [] H _
    have hbH:b≤H.length:=acN hb fw.len
    have sd:∀y,(decide (b≤H.length) || y)=true:=fun y=> by rw[decide_eq_true hbH];rfl
    obtain ⟨v3,H3,e3,rfl,F3,s3,f3,n3⟩:=tL b _ h.length s F' x (fun j hj=> acN hb (hn j hj)) (hs.mono fP (by simp)) hk vh vh.ag.2
    have k3:=nh hk vh vh.ag.2
    simp only[jJ] at qV
    generalize bf s x=Z at *
    have fw3:Fw [] h H3:=(fw.trans fP).new f3 (fun j hj=> .inl (hn j hj))
    have Dg:∀j∈F3,h.length≤j:=fun j hj=>(n3 j hj).elim (hn j) fun h1=> by have:=fw.len;have:=fP.len;omega
    by_cases cz:Z.1=0
    ·rw[if_neg (by simp[cz])] at qV
     rw[cz] at e3
     simp only[e61,e60,e59,e7,ci',i1,i2,iY,iZ,sd,e3,w1,go_sem,simprocAttr]
     exact ⟨L.length - (i+1),by omega,i+1,_,F3,rfl,by omega,rfl,qV,k3,s3,fw3,Dg⟩
    ·rw[if_pos cz] at qV
     simp only[e61,e60,e59,e7,ci',i1,i2,iY,iZ,sd,e3,cz,qV,go_sem,simprocAttr]
     exact ⟨rfl,fw3⟩
   ·have ci':¬(i:Int)<((L.length:Nat):Int):=by omega
    obtain rfl:i=L.length:=by omega
    rw[aeR] at qV
    simp only[e61,e60,e59,e7,ci',go_sem,simprocAttr]
    exact ⟨s,F',qV,hk,hs,fw,hn⟩
  ·rintro e H ⟨s,F',e7,qV,hk,hs,fw,hn⟩
   simp only[e7,qV,go_sem,simprocAttr]
   exact ⟨hk,_,F',rfl,hs,fw,hn⟩
theorem vT.MH {F Fs Fs':List Nat} {h:Hp} {id did sid sid':Nat} {D D':aL} {sp sp':V} (hd:vT h id D F did sp sid Fs) (h1:D'.dk=D.dk) (h2:D'.is=1→sp'= .ptr sid' [0] 1∧iU h sid' D'.st Fs') (h3:D'.key.length=16)
 (ty:sp'.ty=none) (so:sp'.aA=true) (n2:id∉Fs') (n3:did∉Fs') (fl:∀j∈Fs',j < h.length):
 vT (h.set id (.cells (some 73) (eL D' sp' did))) id D' (id::did::Fs') did sp' sid' Fs'∧Fw F h (h.set id (.cells (some 73) (eL D' sp' did))):=by
 have f:Fw [id] h (h.set id (.cells (some 73) (eL D' sp' did))):=Fw.set (by simp) hd.o
 obtain ⟨o,d,s,_,_,rfl,n1,_,_,fl0,kl⟩:=hd
 refine ⟨⟨q9z o,by rw[h1];exact d.mono f (by simp[adY n1]),fun hi=> ?_,ty,so,rfl,n1,n2,n3,fun j hj=> ?_,h3⟩,f.mono (by simp)⟩
 ·obtain ⟨c,e⟩:=h2 hi
  exact ⟨c,e.mono f (fun j hj=> by simp;rintro rfl;exact n2 hj)⟩
 ·simp only[acQ] at hj
  rcases hj with rfl | rfl | hj
  ·exact f.lt (fl0 _ (by simp))
  ·exact f.lt (fl0 _ (by simp))
  ·exact f.lt (fl j hj)
def aL.new (a b:Int) (k:Bs):aL:=⟨a,b,dx k [bt a],1,ba.new a b,Dk.new,jf,0, -1,0⟩
theorem JL :jf.wf:=⟨by simp[jf],by simp[jf],by simp[jf],rfl,by simp[jf]⟩
theorem oH.new {a b:Int} (k:Bs) (h1:1≤b) (h2:b≤8) (h3:0≤a) (h4:a < b):oH 0 0 (aL.new a b k):=
 ⟨acm _,by simp[aL.new],by simp[aL.new],by simp[aL.new],by rfl,JL,fun _=> jG.new h1 h2 h3 h4,.inl rfl⟩
theorem Dp (b:Nat) (h:Hp) (x z:Int) (k:Bs) (hb:b≤h.length) (hk:k.length=16) (h1:1≤z) (h2:z≤8) (h3:0≤x) (h4:x < z):
 ∃v h',run fns pr b 4 [.s (.int .i64 x),.s (.int .i64 z),.arr 27 (k.map aa)] h=some (v,h')∧∃id F,v= .bP [.ptr id [0] 1,.s (.int .i64 0)]∧lY h' id (aL.new x z k) F∧Fw [] h h'∧∀j∈F,h.length≤j:=by
 refine Vm.ef (nt:=23) rfl aaF (by simp) ?_
 have gP:(k.map aa).length=16:=by simp[hk]
 have fA:Fw [] h (h++[bc.cells (some 27) [.arr 27 (k.map aa)]]):=Fw.app [] h _
 have gA:(h++[bc.cells (some 27) [.arr 27 (k.map aa)]])[h.length]? =some (bc.cells (some 27) [.arr 27 (k.map aa)]):=aH _ _
 have lA:=fA.len
 generalize hHA:h++[bc.cells (some 27) [.arr 27 (k.map aa)]]=HA at *
 obtain ⟨v1,H1,e1,F1,rfl,s1,f1,n1⟩:=sE b HA x z (acN hb lA) h1 h2 h3 h4
 have g1:=f1.db _ _ gA (by simp)
 have Az:=fun b=> MX b H1 k x hk
 obtain ⟨v2,H2,e2,rfl,d2,f2⟩:=Bp.tO b H1
 simp only[Bp.R] at e2
 have s2:=s1.mono f2 (by simp)
 have vf:=f1.len
 have CY:=f2.len
 simp only[B4,hHA,gP,e1,g1,Az,bM,e2,go_sem,simprocAttr]
 have f3:Fw [] H2 (H2++[bc.cells (some 73) (eL (aL.new x z k) (.ptr HA.length [0] 1) H1.length)]):=Fw.app [] H2 _
 have yu:=d2.lt
 have hF1:=s1.lt
 refine ⟨H2.length,H2.length::H1.length::F1,rfl,⟨H1.length,.ptr HA.length [0] 1,HA.length,F1,?_,d2.mono f3 (by simp),fun _=>⟨rfl,s2.mono f3 (by simp)⟩,rfl,rfl,rfl,by omega,fun hm=> ?_,fun hm=> ?_,fun j hj=> ?_,?_⟩,fA.trans (f1.trans (f2.trans f3)),fun j hj=> ?_⟩
 ·exact aH _ _
 ·have:=hF1 _ hm;omega
 ·have:=hF1 _ hm;omega
 ·simp only[acQ] at hj
  rcases hj with rfl | rfl | hj
  ·simp
  ·simp;omega
  ·have:=hF1 _ hj;simp;omega
 ·simp[aL.new,dx,bq]
 ·simp only[acQ] at hj
  rcases hj with rfl | rfl | hj
  ·omega
  ·omega
  ·have:=n1 _ hj;omega
def aL.ja (D:aL):aL:= {D with r:=(cF D.r).1}
def aL.up (D:aL) (s:ba):aL:= {D.ja with is:=1,st:=s}
def aL.start (D:aL):Int×aL:=
 if D.is=1 then (14,D) else if D.is=3 then (28,D) else if (cF D.r).2=false then (31,D)
 else match D.ja.load with
   | none=>(28, {D.ja with is:=3})
   | some s=> if bz (cF D.r).1=8 then (if (D.up s).fold.1=false then 29 else 0,(D.up s).fold.2) else (0,D.up s)
theorem q29z {r:ah} (hw:r.wf) (h:(cF r).2=true):(cF r).1=⟨r.bD+1,r.count,r.base,r.head,r.aG⟩∧bm (cF r).1=true∧(cF r).1.wf:=by
 unfold cF xw at h ⊢
 split at h
 ·rename_i c
  rw[if_pos c]
  have:=q11z c.1
  obtain ⟨w1,w2,w3,w4,w5⟩:=hw
  exact ⟨rfl,c.2,⟨by simp only;omega,w2,w3,w4,w5⟩⟩
 ·cases h
theorem qj (b:Nat) (h:Hp) (id:Nat) (D:aL) (F:List Nat) (hF:∀j∈F,b≤j) (hd:lY h id D F) (N:Int) (hN:N < 1000000000 - 20) (hk:oH 0 N D) (hm:DM D):
 ∃v h',run fns pr b 9 [.ptr id [0] 1] h=some (v,h')∧v= .s (.int .i64 D.start.1)∧∃F',lY h' id D.start.2 F'∧Fw F h h'∧∀j∈F',j∈F∨h.length≤j:=by
 have hd0:=hd
 obtain ⟨did,sp,sid,Fs,hd⟩:=hd
 have hg:=hd.o
 have hid:=hd.fl id (by rw[hd.f];simp)
 have jo:b≤id:=hF _ (by rw[hd.f];simp)
 have hbh:b≤h.length:=by omega
 have hbo:=fun b H=> MU b H D.r hk.gw
 refine Vm.ef (nt:=54) rfl aaP (by simp) ?_
 unfold aL.start
 simp only[eL] at hg
 by_cases i1:D.is=1
 ·rw[if_pos i1]
  simp only[B9,hg,i1,go_sem,simprocAttr]
  exact ⟨F,hd0,Fw.refl _ _,fun j hj=> .inl hj⟩
 rw[if_neg i1]
 by_cases i3:D.is=3
 ·rw[if_pos i3]
  simp only[B9,hg,i1,i3,go_sem,simprocAttr]
  exact ⟨F,hd0,Fw.refl _ _,fun j hj=> .inl hj⟩
 rw[if_neg i3]
 have sd:∀x,(decide (b≤h.length) || x)=true:=fun x=> by rw[decide_eq_true hbh];rfl
 cases c2:(cF D.r).2 with
 | false=>
   rw[if_pos rfl]
   rw[c2] at hbo
   simp only[B9,hg,i1,i3,ah.cQ,ah.cR,hbo,sd,go_sem,simprocAttr]
   exact ⟨F,hd0.app _,(Fw.app [] h _).mono (by simp),fun j hj=> .inl hj⟩
 | true=>
   rw[if_neg (by simp)]
   rw[c2] at hbo
   obtain ⟨Hj,hn2,Dg⟩:=q29z hk.gw c2
   have fB:Fw [] h (h++[bc.cells (some 35) [(cF D.r).1.enc]]):=Fw.app [] h _
   have pB:=hd.mono fB (by simp)
   have gB1:(h++[bc.cells (some 35) [(cF D.r).1.enc]])[h.length]? =some (bc.cells (some 35) [(cF D.r).1.enc]):=aH _ _
   have lB:=fB.len
   generalize hHB:h++[bc.cells (some 35) [(cF D.r).1.enc]]=HB at *
   obtain ⟨p1,f1⟩:=pB.EX (D':=D.ja) rfl (fun h=>⟨h,rfl⟩) hd.kl
   have hgB:=pB.o
   have bR:=q6z hgB
   have je:∀B,(HB.set id B)[id]? =some B:=fun B=> q9z hgB
   obtain ⟨v2,H2,e2,r2⟩:=JK b _ id D.ja F (by rw[adz];omega) ⟨_,_,_,_,p1⟩ ⟨hm.m1,hm.m2,hm.m3,hm.m4⟩ Dg
   have dw:=hd.ty
   have jX:=hd.so
   cases hL:D.ja.load with
   | none=>
     rw[hL] at r2
     obtain ⟨rfl,f2⟩:=r2
     have p2:=p1.mono f2 (by simp)
     obtain ⟨p3,f3⟩:=p2.MH (D':= {D.ja with is:=3}) (sp':= .s (.pointer none)) (sid':=0) (Fs':=[]) rfl (fun h=> by cases h) hd.kl rfl rfl (by simp) (by simp) (by simp)
     have jZ:=p2.o
     have Bz:∀B,(H2.set id B)[id]? =some B:=fun B=> q9z jZ
     have Bq:=q6z jZ
     simp only[eL] at hgB e2 jZ p3 f3
     simp only[aL.ja] at e2 jZ p3 f3 ⊢
     simp only[B9,hg,i1,i3,ah.cQ,ah.cR,hbo,sd,hHB,gB1,hgB,je,jo,bR,adf,dw,jX,e2,jZ,Bz,Bq,go_sem,simprocAttr]
     refine ⟨_,⟨_,_,_,_,p3⟩,(fB.mono (by simp)).trans (f1.trans ((f2.mono (by simp)).trans f3)),fun j hj=> ?_⟩
     simp only[acQ,ae8,or_false] at hj
     left
     rw[hd.f]
     rcases hj with rfl | rfl <;> simp
   | some s=>
     rw[hL] at r2
     obtain ⟨k2,sid2,F2,rfl,s2,f2,n2⟩:=r2
     have p2:=p1.mono f2 (by simp)
     have abO:=hd.fl did (by rw[hd.f];simp)
     have n2':∀j∈F2,h.length≤j:=fun j hj=> by have:=n2 j hj;rw[adz] at this;omega
     obtain ⟨p3,f3⟩:=p2.MH (D':=D.up s) (sp':= .ptr sid2 [0] 1) (sid':=sid2) (Fs':=F2) rfl (fun _=>⟨rfl,s2⟩) hd.kl rfl rfl (fun hm=> by have:=n2' _ hm;omega) (fun hm=> by have:=n2' _ hm;omega) s2.lt
     have k3:oH 0 N (D.up s):=⟨hk.ec,hk.s0,hk.s1,hk.f1,hn2,Dg,fun _=> k2,.inl rfl⟩
     have M6:∀j∈id::did::F2,j∈F∨h.length≤j:=fun j hj=> by
       simp only[acQ] at hj
       rw[hd.f]
       rcases hj with rfl | rfl | hj
       ·left;simp
       ·left;simp
       ·exact .inr (n2' _ hj)
     have hF3:∀j∈id::did::F2,b≤j:=fun j hj=>(M6 j hj).elim (hF j) fun h1=> by omega
     have fh3:=(fB.mono (T:=F) (by simp)).trans (f1.trans ((f2.mono (by simp)).trans f3))
     have Ho:=fun b H=> sF b H (cF D.r).1 Dg
     have jZ:=p2.o
     have Bz:∀B,(H2.set id B)[id]? =some B:=fun B=> q9z jZ
     have Bq:=q6z jZ
     have fo:=Dl b _ id (D.up s) _ hF3 ⟨_,_,_,_,p3⟩ N (by omega) k3 rfl
     simp only[eL] at hgB e2 jZ
     by_cases c8:bz (cF D.r).1=8
     ·simp only
      rw[if_pos c8]
      obtain ⟨v6,H6,e6,rfl,d6,f6⟩:=fo
      generalize (D.up s).fold=Z at *
      have fin:∃F',lY H6 id Z.2 F'∧Fw F h H6∧∀j∈F',j∈F∨h.length≤j:=⟨_,d6,fh3.new f6 (fun j hj=>(M6 j hj).symm),M6⟩
      simp only[eL,aL.up,aL.ja] at e2 jZ e6
      cases c9:Z.1 with
      | false=>
        rw[c9] at e6
        simp only[B9,hg,i1,i3,ah.cQ,ah.cR,hbo,sd,hHB,gB1,hgB,je,jo,bR,adf,dw,jX,e2,jZ,Bz,Bq,Ho,c8,e6,go_sem,simprocAttr]
        exact fin
      | true=>
        rw[c9] at e6
        simp only[B9,hg,i1,i3,ah.cQ,ah.cR,hbo,sd,hHB,gB1,hgB,je,jo,bR,adf,dw,jX,e2,jZ,Bz,Bq,Ho,c8,e6,go_sem,simprocAttr]
        exact fin
     ·simp only
      rw[if_neg c8]
      have fin:∃F',lY _ id (D.up s) F'∧Fw F h _∧∀j∈F',j∈F∨h.length≤j:=⟨_,⟨_,_,_,_,p3⟩,fh3,M6⟩
      simp only[eL,aL.up,aL.ja] at e2 jZ fin
      simp only[B9,hg,i1,i3,ah.cQ,ah.cR,hbo,sd,hHB,gB1,hgB,je,jo,bR,adf,dw,jX,e2,jZ,Bz,Bq,Ho,c8,go_sem,simprocAttr]
      exact fin
theorem sL (b:Nat) (h:Hp) (id:Nat) (D:aL) (F:List Nat) (hb:b≤h.length) (hd:lY h id D F) (hk:D.is=1→jG D.st):
 ∃v h',run fns pr b 15 [.ptr id [0] 1] h=some (v,h')∧(if D.is=1 then ∃F',v= .ptr h.length [0] 1∧iU h' h.length D.st F'∧Fw [] h h'∧∀j∈F',h.length≤j else v= .s (.pointer none)∧h'=h):=by
 obtain ⟨did,sp,sid,Fs,hd⟩:=hd
 have hg:=hd.o
 refine Vm.ef (nt:=13) rfl UG (by simp) ?_
 by_cases i1:D.is=1
 ·obtain ⟨rfl,hs⟩:=hd.s i1
  obtain ⟨v2,H2,e2,F2,rfl,s2,f2,n2⟩:=Jp b h sid D.st Fs hb hs (hk i1)
  simp only[eL] at hg
  simp only[i1,if_true]
  simp only[B15,hg,i1,e2,go_sem,simprocAttr]
  exact ⟨F2,s2,f2,n2⟩
 ·simp only[eL] at hg
  simp only[i1,if_false]
  simp only[B15,hg,i1,go_sem,simprocAttr]
def sf (n c:Nat):List V:=List.replicate c (.s (.int .u8 0))++((bu n).drop c).map aa
theorem JM (n:Nat):sf n 8=[.s (.int .u8 0),.s (.int .u8 0),.s (.int .u8 0),.s (.int .u8 0),.s (.int .u8 0),.s (.int .u8 0),.s (.int .u8 0),.s (.int .u8 0)]:=by simp[sf,bu,adX]
theorem E4 (n:Nat):sf n 0=(bu n).map aa:=by simp[sf]
theorem JN (n c:Nat) (hc:c≤8):(sf n c).length=8:=by simp[sf];omega
theorem E5 (n c:Nat) (hc:c < 8):(sf n (c+1)).set c (aa (UInt8.ofNat (n / 256 ^(7 - c) % 256)))=sf n c:=by
 have:c=0∨c=1∨c=2∨c=3∨c=4∨c=5∨c=6∨c=7:=by omega
 rcases this with rfl | rfl | rfl | rfl | rfl | rfl | rfl | rfl <;> simp[sf,bu,adX,List.replicate]
theorem JO (n c:Nat) (hc:c < 8):∃o,(sf n (c+1))[c]? =some (.s o):=by
 have:c=0∨c=1∨c=2∨c=3∨c=4∨c=5∨c=6∨c=7:=by omega
 rcases this with rfl | rfl | rfl | rfl | rfl | rfl | rfl | rfl <;> exact ⟨_,rfl⟩
theorem YG (cf:CF) (base:Nat) (h:Hp) (a:Nat) (ha:a < 18446744073709551616):aC cf base h (.bin .num .quo) [.s (.int .u64 (a:Int)),.s (.int .u64 256)]=some (.s (.int .u64 ((a / 256:Nat):Int)),h):=by
 have h2:Int.tdiv (a:Int) 256=((a / 256:Nat):Int):=by rw[adx (by omega)];rfl
 have h3:IntKind.u64.wrap ((a / 256:Nat):Int)=((a / 256:Nat):Int):=wrap_u64 (by omega) (by omega)
 simp only[aC,lK,vp,jK,h2,h3,j6,ad6,if_true,show ¬(256:Int)=0 by omega,if_false]
theorem tU (b:Nat) (h:Hp) (n:Nat) (hn:n < 18446744073709551616) (hb:b≤h.length):run fns pr b 46 [.s (.int .u64 n)] h=some (.ref h.length [] none 0 8 8,h++[.cells none ((bu n).map aa)]):=by
 refine Vm.runN (nt:=18) rfl VI (by simp) ?_
 simp only[B46,O7,O6,go_sem,↓reduceIte,Nat.reduceEqDiff,Nat.reduceBEq,Nat.reduceAdd,Nat.reduceSub,Nat.reduceLT,Nat.reduceLeDiff,Int.reduceLT,Int.reduceLE,Int.reduceEq,Int.reduceToNat]
 refine aV (fun m e H=>∃c,m=c∧c≤8∧e 4= .s (.int .i64 ((c:Int) - 1))∧e 3= .ref h.length [] none 0 8 8∧e 0= .s (.int .u64 ((n / 256 ^(8 - c):Nat):Int))∧H=h++[.cells none (sf n c)])
   (fun e H=> e 3= .ref h.length [] none 0 8 8∧H=h++[.cells none (sf n 0)]) 8 _ _ ⟨8,rfl,by omega,rfl,rfl,by simp;rfl,by rw[JM];rfl⟩ ?_ ?_
 ·rintro m e H ⟨c,rfl,hc,e4,e3,e0,rfl⟩
  cases m with
  | zero=>
    have c':¬(0:Int)≤((0:Nat):Int) - 1:=by omega
    simp only[e4,e3,c',go_sem,↓reduceIte,Nat.reduceEqDiff,Nat.reduceBEq,Nat.reduceAdd,Nat.reduceSub,Nat.reduceLT,Nat.reduceLeDiff,Int.reduceLT,Int.reduceLE,Int.reduceEq,Int.reduceToNat]
  | succ c=>
    have hc1:(((c+1:Nat):Int) - 1)=(c:Int):=by omega
    rw[hc1] at e4
    have hl:=JN n (c+1) hc
    have c':(0:Int)≤(c:Int):=by omega
    have w3:IntKind.i64.wrap ((c:Int) - 1)=(c:Int) - 1:=wrap_i64 (by omega) (by omega)
    have hle:n / 256 ^(8 - (c+1))≤n:=aep _ _
    have hq:=fun cf base h=> YG cf base h (n / 256 ^(8 - (c+1))) (by omega)
    have hpp:n / 256 ^(8 - (c+1))/ 256=n / 256 ^(8 - c):=by rw[aey,←Nat.pow_succ,show (8 - (c+1)).succ=8 - c by omega]
    rw[hpp] at hq
    have he:8 - (c+1)=7 - c:=by omega
    rw[he] at hq e0
    obtain ⟨o,ho⟩:=JO n c (by omega)
    have aR:=E5 n c (by omega)
    have cc:((c:Int)<((8:Nat):Int)∧c < 8)=True:=by simp;omega
    have so:(aa (UInt8.ofNat (n / 256 ^(7 - c) % 256))).aA=true:=rfl
    have to:(aa (UInt8.ofNat (n / 256 ^(7 - c) % 256))).ty=none:=rfl
    have gr:(aa (UInt8.ofNat (n / 256 ^(7 - c) % 256))).ground=true:=rfl
    simp only[e4,e3,e0,c',w3,te,hl,cc,ho,so,to,gr,aR,hq,go_sem,↓reduceIte,Nat.reduceEqDiff,Nat.reduceBEq,Nat.reduceAdd,Nat.reduceSub,Nat.reduceLT,Nat.reduceLeDiff,Int.reduceLT,Int.reduceLE,Int.reduceEq,Int.reduceToNat]
    exact ⟨c,by omega,c,rfl,by omega,by simp_all⟩
 ·rintro e H ⟨e3,rfl⟩
  rw[E4]
  simp only[e3,go_sem,↓reduceIte,Nat.reduceEqDiff,Nat.reduceBEq,Nat.reduceAdd,Nat.reduceSub,Nat.reduceLT,Nat.reduceLeDiff,Int.reduceLT,Int.reduceLE,Int.reduceEq,Int.reduceToNat]
theorem E6 (b:Nat) (h:Hp) (x:V) (k l:Bs) (hk:k.length=16) (hr:Rd h x l) (hl:l.length≤900000):run fns pr b 138 [.arr 27 (k.map aa),x] h=some (.arr 27 ((dx k l).map aa),h):=by
 refine Vm.aQ (nt:=11) rfl Q9 (by simp) ?_
 have gP:(k.map aa).length=16:=by simp[hk]
 generalize hGd:h++[bc.cells (some 27) [V.arr 27 (k.map aa)],bc.cells (some 27) [bC 27]]=G
 have hG:G.length=h.length+2:=by rw[←hGd];simp
 have fG:Fw [] h G:=by rw[←hGd];exact Fw.app [] h _
 have g0:G[h.length]? =some (.cells (some 27) [.arr 27 (k.map aa)]):=by rw[←hGd];exact (yJ h _ _).1
 have g1:G[h.length+1]? =some (.cells (some 27) [bC 27]):=by rw[←hGd];exact (yJ h _ _).2
 have hsk:source G (.ref h.length [0] none 0 16 1)=some (none,k.map aa):=by
   have:elems G (.ref h.length [0] none 0 16 1)=some (none,k.map aa):=by
     simp only[cK,go_sem,simprocAttr,acs,aco,Vm.aM,Vm.bN,Vm.bh,Vm.aX,Vm.bw,Vm.bb,acm,acS,g0,dP,ac2,ack (aec gP)]
   exact this
 obtain ⟨v,H,jY,hN⟩:=(jl.nil G).app hsk (by simp;omega)
 obtain ⟨w,H2,yL,hN2⟩:=hN.app ((hr.fw (fG.trans hN.fw)).source) (by simp;omega)
 rw[ac1] at hN2
 have El:=fun b=> xp b H2 w (k++l) (BR.rd hN2.br) (by simp;omega)
 have g2:H2[h.length+1]? =some (.cells (some 27) [bC 27]):=hN2.fw.db _ _ g1 (by simp)
 have A6:((dx k l).map aa).length=16:=by simp[pW]
 have tk:∀b,(H2.set (h.length+1) b).take h.length=h:=fun b=> by
   rw[afc (by omega)];exact (fG.trans hN2.fw).take
 simp only[Q7,lL,gP,hGd,g0,jY,yL,El,g2,tk,q9z g2,show cV (k++l)=dx k l from rfl,A6,qK,go_sem,simprocAttr]
def vX (q:kK) (x:V):V:= .st 75 [.s (.int .i64 q.role),.s (.int .u64 q.au),.s (.int .i64 q.to),x]
def eZ (p:Nat→kK) (xs:Nat→V):List V:=(List.range 16).map fun i=> vX (p i) (xs i)
theorem eu (p:Nat→kK) (xs:Nat→V):(eZ p xs).length=16:=by simp[eZ]
theorem od (p:Nat→kK) (xs:Nat→V) (i:Nat) (h:i < 16):(eZ p xs)[i]? =some (vX (p i) (xs i)):=by simp[eZ,h]
theorem vY (p:Nat→kK) (xs:Nat→V) (i:Nat) (q:kK) (x:V):(eZ p xs).set i (vX q x)=eZ (fun j=> if j=i then q else p j) (fun j=> if j=i then x else xs j):=by
 apply adl
 intro j
 rw[ac7,eu]
 by_cases hj:j < 16
 ·rw[od _ _ _ hj,od _ _ _ hj]
  by_cases vg:i=j
  ·subst vg;simp[hj]
  ·simp[vg,adY vg]
 ·rw[acW (by rw[eu];omega),acW (by rw[eu];omega)]
  simp;omega
def tV (s:ba) (xs:Nat→V):List V:=[.st 78 [.s (.int .i64 s.mem),.s (.int .i64 s.bj),.arr 77 (eZ s.p xs)]]
def sM (h:Hp) (m:Nat) (s:ba):Prop:=∃xs:Nat→V,h[m]? =some (.cells (some 78) (tV s xs))∧∀i,i < 16→SR h (xs i) (some 56) ((s.p i).vs.map ae.enc)
theorem sM.lt {h:Hp} {m:Nat} {s:ba} (hs:sM h m s):m < h.length:=by
 obtain ⟨xs,h1,_⟩:=hs
 exact q6z h1
def vi (h:Hp) (m:Nat) (s:ba) (R:List Nat):Prop:=∃xs:Nat→V,h[m]? =some (.cells (some 78) (tV s xs))∧(∀i,i < 16→SR h (xs i) (some 56) ((s.p i).vs.map ae.enc))∧
 (∀i,i < 16→(∃f l,xs i= .al f (some 56) l)∨∃id off n aB,xs i= .ref id [] (some 56) off n aB∧id∈R)∧∀j∈R,j < h.length∧j≠m
theorem vi.st {h:Hp} {m:Nat} {s:ba} {R:List Nat} (hs:vi h m s R):sM h m s:=by
 obtain ⟨xs,h1,h2,_⟩:=hs
 exact ⟨xs,h1,h2⟩
theorem tW (b:Nat) (h:Hp) (x z:Int) (hb:b≤h.length) (h1:1≤z) (h2:z≤8) (h3:0≤x) (h4:x < z):∃v h',run fns pr b 5 [.s (.int .i64 x),.s (.int .i64 z)] h=some (v,h')∧v= .ptr h.length [0] 1∧vi h' h.length (ba.new x z) []∧Fw [] h h':=by
 refine Vm.ef (nt:=48) rfl aaH (by simp) ?_
 have q1:¬z < 1:=by omega
 have q2:¬8 < z:=by omega
 have q3:¬x < 0:=by omega
 have q4:¬z≤x:=by omega
 simp only[B5,Uu,Ut,q1,q2,q3,q4,go_sem,simprocAttr]
 let X:Nat→V:=fun _=> .al true (some 56) []
 let P:Nat→Nat→kK:=fun i j=> if j < i then (ba.new x z).p j else ⟨0,0,0,[]⟩
 refine aV (fun q e H=>∃i:Nat,q=16 - i∧i≤16∧e 6= .s (.int .i64 (i:Nat))∧e 5= .ptr h.length [0] 1∧e 0= .s (.int .i64 x)∧e 1= .s (.int .i64 z)∧H=h++[.cells (some 78) (tV ⟨x,z,P i⟩ X)])
   (fun e H=> e 5= .ptr h.length [0] 1∧H=h++[.cells (some 78) (tV ⟨x,z,P 16⟩ X)]) 16 _ _ ⟨0,rfl,by omega,rfl,rfl,rfl,rfl,rfl⟩ ?_ ?_
 ·rintro q e H ⟨i,rfl,hi,e6,e5,e0,e1,rfl⟩
  by_cases c:i < 16
  ·have c':(i:Int)< 16:=by omega
   have i0:(0:Int)≤(i:Int):=by omega
   have c16:(i:Int)<((16:Nat):Int):=by omega
   have wr:IntKind.i64.wrap ((i:Int)+1)=((i+1:Nat):Int):=q18z (by omega)
   have hq:=fun cf base h=> iJ cf base h .i64 (i:Int) z (by omega)
   have hm:(i:Int).tmod z=(i:Int) % z:=adw i0
   have hPl:=eu (P i) X
   have hPn:(eZ (P i) X)[i]? =some (.st 75 [.s (.int .i64 0),.s (.int .u64 0),.s (.int .i64 0),.al true (some 56) []]):=by
     rw[od _ _ _ c]
     simp[P,X,vX]
   have hPs:∀y,((eZ (P i) X).set i y)[i]? =some y:=fun y=> by rw[adU (by rw[hPl];exact c)]
   have iK:∀k,(k=if (i:Int) % z=x then 1 else 0)→(eZ (P i) X).set i (.st 75 [.s (.int .i64 k),.s (.int .u64 1),.s (.int .i64 0),.al true (some 56) []])=eZ (P (i+1)) X:=fun k hk=> by
     have:=vY (P i) X i ⟨k,1,0,[]⟩ (.al true (some 56) [])
     simp only[vX] at this
     rw[this]
     unfold eZ
     apply aes
     intro j _
     simp only[P,X]
     by_cases hj:j=i
     ·subst hj;simp[ba.new,hk]
     ·simp only[hj,if_false]
      by_cases h5:j < i
      ·simp[h5,show j < i+1 by omega]
      ·simp[h5,show ¬j < i+1 by omega]
   have gr0:decide (b≤h.length)=true:=by simpa using hb
   by_cases cf:(i:Int) % z=x
   ·have hn:=iK 1 (by rw[if_pos cf])
    simp only[e6,e5,e0,e1,c',c16,i0,wr,hq,hm,cf,tV,hPl,hPn,hPs,c,hb,gr0,adf,hn,go_sem,simprocAttr]
    exact ⟨16 - (i+1),by omega,i+1,rfl,by omega,rfl,rfl⟩
   ·have hn:=iK 0 (by rw[if_neg cf])
    simp only[e6,e5,e0,e1,c',c16,i0,wr,hq,hm,cf,tV,hPl,hPn,hPs,c,hb,gr0,adf,hn,go_sem,simprocAttr]
    exact ⟨16 - (i+1),by omega,i+1,rfl,by omega,rfl,rfl⟩
  ·have c':¬(i:Int)< 16:=by omega
   obtain rfl:i=16:=by omega
   simp only[e6,e5,e0,e1,c',go_sem,simprocAttr]
 ·rintro e H ⟨e5,rfl⟩
  simp only[e5,go_sem,simprocAttr]
  refine ⟨⟨X,?_,fun i hi=> ?_,fun i _=> .inl ⟨_,_,rfl⟩,fun j hj=> by simp at hj⟩,Fw.app _ _ _⟩
  ·rw[aH]
   have:eZ (P 16) X=eZ (ba.new x z).p X:=by
     unfold eZ
     apply aes
     intro j hj
     simp[P,ado.1 hj]
   simp only[tV,this]
   rfl
  ·exact .inl ⟨true,by simp[X,ba.new]⟩
theorem E7 (b:Nat) (h:Hp) (x z:Int) (hb:b≤h.length) (h1:1≤z) (h2:z≤8) (h3:0≤x) (h4:x < z):∃v h',run fns pr b 5 [.s (.int .i64 x),.s (.int .i64 z)] h=some (v,h')∧v= .ptr h.length [0] 1∧sM h' h.length (ba.new x z)∧Fw [] h h':=by
 obtain ⟨v,h',e,hv,hs,f⟩:=tW b h x z hb h1 h2 h3 h4
 exact ⟨v,h',e,hv,hs.st,f⟩
def Sl7 (h:Hp) (v:V) (s:Option Bs):Prop:=∃x,v= .st 193 [.s (.bool s.isSome),x]∧BR h x (s.getD [])
def JP (h:Hp) (vs:List V) (ss:List (Option Bs)):Prop:=vs.length=ss.length∧∀(i:Nat) v s,vs[i]? =some v→ss[i]? =some s→Sl7 h v s
theorem Sl7.mono {S:List Nat} {h h':Hp} {v:V} {s:Option Bs} (hs:Sl7 h v s) (f:Fw S h h'):Sl7 h' v s:=by
 obtain ⟨x,h1,h2⟩:=hs;exact ⟨x,h1,h2.mono f⟩
theorem JP.mono {S:List Nat} {h h':Hp} {v:List V} {s:List (Option Bs)} (hs:JP h v s) (f:Fw S h h'):JP h' v s:=
 ⟨hs.1,fun i v s h1 h2=>(hs.2 i v s h1 h2).mono f⟩
def R7 (h:Hp) (id:Nat) (K:Dk):Prop:=∃nv ov x last n,h[id]? =some (.cells (some 196) [.st 196 [.arr 195 nv,.arr 195 ov,.s (.int .i64 last),x,.s (.int .i64 n)]])∧
 JP h nv K.now∧JP h ov K.bJ∧(K.ec=0→last= -1)∧(0 < K.ec→last=K.at_∧BR h x K.last)∧x.ty=none∧x.aA=true∧K.OK
theorem R7.mono {S:List Nat} {h h':Hp} {id:Nat} {K:Dk} (hd:R7 h id K) (f:Fw S h h') (hi:id∉S):R7 h' id K:=by
 obtain ⟨nv,ov,x,last,n,h1,h2,h3,h4,h5,h6,h7,h8⟩:=hd
 exact ⟨nv,ov,x,last,n,f.db _ _ h1 hi,h2.mono f,h3.mono f,h4,fun hp=>⟨(h5 hp).1,(h5 hp).2.mono f⟩,h6,h7,h8⟩
theorem R7.lt {h:Hp} {id:Nat} {K:Dk} (hd:R7 h id K):id < h.length:=by
 obtain ⟨nv,ov,x,last,n,h1,_⟩:=hd;exact q6z h1
def Z7 :V:= .st 193 [.s (.bool false),.al true none []]
theorem JQ (b:Nat) (h:Hp):∃v h',run fns pr b 121 [] h=some (v,h')∧v= .ptr h.length [0] 1∧R7 h' h.length Dk.new∧Fw [] h h':=by
 refine Vm.ef (nt:=3) rfl QA (by simp) ?_
 simp only[Qy,go_sem,simprocAttr]
 refine ⟨⟨List.replicate 10 Z7,List.replicate 10 Z7,_,_,_,aH _ _,?_,?_,fun _=> rfl,fun h=> by simp[Dk.new] at h,rfl,rfl,Dk.tO⟩,Fw.app _ _ _⟩
 all_goals
   refine ⟨by simp[Dk.new],fun i v s h1 h2=> ?_⟩
   simp only[Dk.new,aet] at h1 h2
   split at h1
   ·rename_i hi
    rw[if_pos hi] at h2
    cases h1;cases h2
    exact ⟨_,rfl,pg _ _⟩
   ·cases h1
theorem E8 (b:Nat) (h:Hp) (k:Bs) (m:Int) (hk:k.length=16):run fns pr b 120 [.arr 27 (k.map aa),.s (.int .i64 m)] h=some (.arr 27 ((dx k [bt m]).map aa),h):=by
 refine Vm.aQ (nt:=10) rfl Qx (by simp) ?_
 have gP:(k.map aa).length=16:=by simp[hk]
 have Hn:∀A B,Rd (h++[A,B,bc.cells none [aa (bt m)]]) (.ref (h.length+2) [] none 0 1 1) [bt m]:=fun A B=> BR.rd (di (aM _ _ 2) rfl)
 have Az:=fun b A B=> E6 b (h++[A,B,bc.cells none [aa (bt m)]]) (.ref (h.length+2) [] none 0 1 1) k [bt m] hk (Hn A B) (by simp)
 have j3:((dx k [bt m]).map aa).length=16:=by simp[dx,bq]
 simp only[Qv,gP,lz,j3,bM,acq,Az,go_sem,simprocAttr]
def Pq (D:aL) (sp:V) (did:Nat):List V:=[.st 37 [.s (.int .i64 D.mem),.s (.int .i64 D.bj),.arr 27 (D.key.map aa),.s (.int .i64 D.is),sp,.ptr did [0] 1,D.r.enc,.s (.int .i64 D.bd),.s (.int .i64 D.dG),.s (.int .i64 D.steps)]]
structure RDP (h:Hp) (id:Nat) (D:aL) (did:Nat) (sp:V) (sid:Nat):Prop where
 o:h[id]? =some (.cells (some 37) (Pq D sp did))
 d:R7 h did D.dk
 s1:D.is=1→sp= .ptr sid [0] 1∧sM h sid D.st∧sid≠id∧sid≠did
 s2:D.is≠1→sp= .s (.pointer none)
 n1:id≠did
 kl:D.key.length=16
theorem E9 (b:Nat) (h:Hp) (x z:Int) (k:Bs) (hb:b≤h.length) (hk:k.length=16) (h1:1≤z) (h2:z≤8) (h3:0≤x) (h4:x < z):
 ∃v h',run fns pr b 86 [.s (.int .i64 x),.s (.int .i64 z),.arr 27 (k.map aa)] h=some (v,h')∧∃id did sp sid,v= .ptr id [0] 1∧RDP h' id (aL.new x z k) did sp sid∧Fw [] h h'∧h.length≤id∧h.length≤did∧h.length≤sid:=by
 refine Vm.ef (nt:=22) rfl W2 (by simp) ?_
 have gP:(k.map aa).length=16:=by simp[hk]
 have fA:Fw [] h (h++[bc.cells (some 27) [.arr 27 (k.map aa)]]):=Fw.app [] h _
 have gA:(h++[bc.cells (some 27) [.arr 27 (k.map aa)]])[h.length]? =some (bc.cells (some 27) [.arr 27 (k.map aa)]):=aH _ _
 have lA:=fA.len
 generalize hHA:h++[bc.cells (some 27) [.arr 27 (k.map aa)]]=HA at *
 obtain ⟨v1,H1,e1,rfl,s1,f1⟩:=E7 b HA x z (acN hb lA) h1 h2 h3 h4
 have g1:=f1.db _ _ gA (by simp)
 have Az:=fun b=> E8 b H1 k x hk
 obtain ⟨v2,H2,e2,rfl,d2,f2⟩:=JQ b H1
 have vf:=s1.lt
 have CY:=d2.lt
 simp only[B86,hHA,gP,e1,g1,Az,bM,e2,go_sem,simprocAttr]
 have f3:Fw [] H2 (H2++[bc.cells (some 37) (Pq (aL.new x z k) (.ptr HA.length [0] 1) H1.length)]):=Fw.app [] H2 _
 have m1:=f1.len
 have m2:=f2.len
 refine ⟨H2.length,H1.length,.ptr HA.length [0] 1,HA.length,rfl,⟨aH _ _,d2.mono f3 (by simp),fun _=>⟨rfl,?_,by omega,by omega⟩,fun hh=> absurd rfl hh,by omega,by simp[aL.new,dx,bq]⟩,fA.trans (f1.trans (f2.trans f3)),by omega,by omega,by omega⟩
 obtain ⟨xs,a1,a2⟩:=s1
 exact ⟨xs,f3.db _ _ (f2.db _ _ a1 (by simp)) (by simp),fun i hi=>((a2 i hi).fw f2).fw f3⟩
theorem JR (b:Nat) (h:Hp) (x z:Int) (k:Bs) (hb:b≤h.length) (hk:k.length=16) (h1:1≤z) (h2:z≤8) (h3:0≤x) (h4:x < z):
 ∃v h',run fns pr b 48 [.s (.int .i64 x),.s (.int .i64 z),.arr 27 (k.map aa)] h=some (v,h')∧∃t id F mid did sp sid,v= .ptr t [0] 1∧h'[t]? =some (.cells (some 40) [.st 40 [.ptr id [0] 1,.ptr mid [0] 1,.s (.pointer none),.s (.pointer none)]])∧
  lY h' id (aL.new x z k) F∧RDP h' mid (aL.new x z k) did sp sid∧Fw [] h h'∧(∀j∈F,h.length≤j∧j < mid∧j < did∧j < sid∧j < t)∧h.length≤t∧h.length≤mid∧h.length≤did∧h.length≤sid∧mid < t∧did < t∧sid < t:=by
 refine Vm.ef (nt:=35) rfl VM (by simp) ?_
 have gP:(k.map aa).length=16:=by simp[hk]
 have fA:Fw [] h (h++[bc.cells (some 27) [.arr 27 (k.map aa)]]):=Fw.app [] h _
 have gA:(h++[bc.cells (some 27) [.arr 27 (k.map aa)]])[h.length]? =some (bc.cells (some 27) [.arr 27 (k.map aa)]):=aH _ _
 have lA:=fA.len
 generalize hHA:h++[bc.cells (some 27) [.arr 27 (k.map aa)]]=HA at *
 obtain ⟨v1,H1,e1,id,F,rfl,d1,f1,n1⟩:=Dp b HA x z k (acN hb lA) hk h1 h2 h3 h4
 have g1:=f1.db _ _ gA (by simp)
 have m1:=f1.len
 obtain ⟨v2,H2,e2,mid,did,sp,sid,rfl,p2,f2,l1,l2,l3⟩:=E9 b H1 x z k (by omega) hk h1 h2 h3 h4
 have bR:=d1.lt
 have CY:=q6z p2.o
 have yu:=p2.d.lt
 simp only[B48,hHA,gP,gA,e1,g1,bM,e2,go_sem,simprocAttr]
 have f3:Fw [] H2 (H2++[bc.cells (some 40) [.st 40 [.ptr id [0] 1,.ptr mid [0] 1,.s (.pointer none),.s (.pointer none)]]]):=Fw.app [] H2 _
 obtain ⟨q1,q2,q3,q4⟩:=p2.s1 rfl
 have hl4:=q2.lt
 refine ⟨H2.length,id,F,mid,did,sp,sid,rfl,aH _ _,(d1.mono f2 (by simp)).mono f3 (by simp),?_,fA.trans (f1.trans (f2.trans f3)),fun j hj=> ?_,by omega,by omega,by omega,by omega,by omega,by omega,by omega⟩
 ·obtain ⟨a1,a2,a3,a4,a5,a6⟩:=p2
  refine ⟨f3.db _ _ a1 (by simp),a2.mono f3 (by simp),fun hi=> ?_,a4,a5,a6⟩
  obtain ⟨c1,⟨xs,c2,c3⟩,c4,c5⟩:=a3 hi
  exact ⟨c1,⟨xs,f3.db _ _ c2 (by simp),fun i hi=>(c3 i hi).fw f3⟩,c4,c5⟩
 ·have:=n1 j hj
  have:=bR j hj
  exact ⟨by omega,by omega,by omega,by omega,by omega⟩
theorem BA (a b:Bs) (cf:CF) (base:Nat) (h:Hp):aC cf base h (.bin .num .geq) [.s (.string ⟨a.toArray⟩),.s (.string ⟨b.toArray⟩)]=some (.s (.bool (!decide (bB a b < 0))),h):=by
 have:aC cf base h (.bin .num .geq) [.s (.string ⟨a.toArray⟩),.s (.string ⟨b.toArray⟩)]=some (.s (.bool !(Op.bytesLess (ByteArray.mk a.toArray).toList (ByteArray.mk b.toArray).toList)),h):=rfl
 rw[this,toList_mk,toList_mk,tD]
theorem tX (b:Nat) (h:Hp) (n:Int):run fns pr b 112 [.s (.int .u64 n)] h=some (.s (.bool (decide (n≤1099511627776))),h):=by
 refine Vm.aQ (nt:=5) rfl Iq (by simp) ?_
 have tk:h.take h.length=h:=ack (acm _)
 simp only[Ip,tk,go_sem,simprocAttr]
theorem Fa (b:Nat) (h:Hp) (x:V) (l:List ae) (dE:SR h x (some 56) (l.map ae.enc)) (hw:∀v∈l,v.wf):run fns pr b 115 [x] h=some (.s (.bool (bW l)),h):=by
 refine Vm.aQ (nt:=39) rfl Ql (by simp) ?_
 have dQ:∀cf base H,aC cf base H .len [x]=some (.s (.int .i64 (l.length:Nat)),H):=fun cf base H=> by rw[dE.bU];simp
 have tk0:h.take h.length=h:=ack (acm _)
 by_cases c4:l.length≤4
 case neg=>
   have c':(4:Int)<((l.length:Nat):Int):=by omega
   have hf:bW l=false:=by simp[bW,c4]
   rw[hf]
   simp only[Me,AN,AM,dQ,c',tk0,go_sem,↓reduceIte,Nat.reduceEqDiff,Nat.reduceBEq,Nat.reduceAdd,Nat.reduceSub,Nat.reduceLT,Nat.reduceLeDiff,Int.reduceLT,Int.reduceLE,Int.reduceEq,Int.reduceToNat]
 have c':¬(4:Int)<((l.length:Nat):Int):=by omega
 simp only[Me,AN,AM,dQ,c',go_sem,↓reduceIte,Nat.reduceEqDiff,Nat.reduceBEq,Nat.reduceAdd,Nat.reduceSub,Nat.reduceLT,Nat.reduceLeDiff,Int.reduceLT,Int.reduceLE,Int.reduceEq,Int.reduceToNat]
 refine aV (fun q e H=>∃j,q=l.length - j∧j≤l.length∧e 3= .s (.int .i64 (j:Nat))∧e 0=x∧H=h∧(∀i,i < j→eA l i=true))
   (fun e H=> H=h∧bW l=true) l.length _ _ ⟨0,rfl,by omega,rfl,rfl,rfl,fun i hi=> by omega⟩ ?_ ?_
 ·rintro q e H ⟨j,rfl,hj,e3,e0,rfl,bV⟩
  by_cases cd:j < l.length
  ·have cj:(j:Int)<((l.length:Nat):Int):=by omega
   have hjv:l[j]? =some (l.getD j zeroV):=by rw[List.getD,aci cd];rfl
   have i1:=fun cf base=> dE.ck (cf:=cf) (base:=base) (k:= .i64) (i:=j) (by simpa using cd)
   have i2:=fun cf base=> dE.fL (cf:=cf) (base:=base) (i:=j) (v:=(l.getD j zeroV).enc) (by rw[acv,hjv];rfl) rfl
   have hr:=fun h0=> tp H.length h0 (l.getD j zeroV)
   have w3:IntKind.i64.wrap ((j:Int)+1)=((j+1:Nat):Int):=q17z (by omega)
   cases iB:aP (l.getD j zeroV) with
   | false=>
     rw[iB] at hr
     rw[nY cd (by unfold eA;rw[iB];rfl)]
     simp only[e3,e0,dQ,cj,i1,i2,aJ,aK,hr,tk0,go_sem,↓reduceIte,Nat.reduceEqDiff,Nat.reduceBEq,Nat.reduceAdd,Nat.reduceSub,Nat.reduceLT,Nat.reduceLeDiff,Int.reduceLT,Int.reduceLE,Int.reduceEq,Int.reduceToNat]
   | true=>
     rw[iB] at hr
     by_cases j0:j=0
     ·subst j0
      have c0:¬(0:Int)<((0:Nat):Int):=by omega
      simp only[e3,e0,dQ,cj,i1,i2,aJ,aK,hr,w3,c0,go_sem,↓reduceIte,Nat.reduceEqDiff,Nat.reduceBEq,Nat.reduceAdd,Nat.reduceSub,Nat.reduceLT,Nat.reduceLeDiff,Int.reduceLT,Int.reduceLE,Int.reduceEq,Int.reduceToNat]
      refine ⟨l.length - 1,by omega,1,rfl,by omega,rfl,fun i hi=> ?_⟩
      obtain rfl:i=0:=by omega
      unfold eA;rw[iB];rfl
     ·have c0:(0:Int)<((j:Nat):Int):=by omega
      have w4:IntKind.i64.wrap ((j:Int) - 1)=((j - 1:Nat):Int):=by rw[wrap_i64 (by omega) (by omega)];omega
      have hjp:l[j - 1]? =some (l.getD (j - 1) zeroV):=by rw[List.getD,aci (by omega)];rfl
      have p1:=fun cf base=> dE.ck (cf:=cf) (base:=base) (k:= .i64) (i:=j - 1) (by simp;omega)
      generalize hv1:l.getD (j - 1) zeroV=v1 at hjp
      generalize hv2:l.getD j zeroV=v2 at *
      obtain ⟨a1,a2,a3,a4,a5,a6,a7,a8,a9⟩:=v1
      obtain ⟨d1,d2,d3,d4,d5,d6,d7,d8,d9⟩:=v2
      have kI:(l.map ae.enc)[j - 1]? =some (.st 56 [.arr 54 (a1.map aa),.s (.int .u64 a2),.arr 27 (a3.map aa),.al false none (a4.map aa),.s (.int .i64 a5),.s (.int .i64 a6),.arr 27 (a7.map aa),.s (.bool a8),.s (.bool a9)]):=by rw[acv,hjp];rfl
      have pK:(l.map ae.enc)[j]? =some (.st 56 [.arr 54 (d1.map aa),.s (.int .u64 d2),.arr 27 (d3.map aa),.al false none (d4.map aa),.s (.int .i64 d5),.s (.int .i64 d6),.arr 27 (d7.map aa),.s (.bool d8),.s (.bool d9)]):=by rw[acv,hjv];rfl
      have p2:=fun cf base=> dE.qO (cf:=cf) (base:=base) kI (f:=0) (by simp)
      have p3:=fun cf base=> dE.yN (cf:=cf) (base:=base) (g':=none) kI (f:=0) rfl
      have p4:=fun cf base=> oL cf base H _ _ a1 (lC dE (g':=none) kI (f:=0) rfl)
      have r2:=fun cf base=> dE.qO (cf:=cf) (base:=base) pK (f:=0) (by simp)
      have r3:=fun cf base=> dE.yN (cf:=cf) (base:=base) (g':=none) pK (f:=0) rfl
      have r4:=fun cf base=> oL cf base H _ _ d1 (lC dE (g':=none) pK (f:=0) rfl)
      simp only[acy] at p3 p4 r3 r4
      simp only[e3,e0,dQ,cj,i1,i2,aJ,aK,hr,w3,c0,w4,p1,p2,p3,p4,r2,r3,r4,BA,bB,go_sem,↓reduceIte,Nat.reduceEqDiff,Nat.reduceBEq,Nat.reduceAdd,Nat.reduceSub,Nat.reduceLT,Nat.reduceLeDiff,Int.reduceLT,Int.reduceLE,Int.reduceEq,Int.reduceToNat]
      by_cases cc:Lib.compareBytes a1 d1 < 0
      ·simp only[cc,w3,e3,e0,decide_true,acK,go_sem,↓reduceIte,Nat.reduceEqDiff,Nat.reduceBEq,Nat.reduceAdd,Nat.reduceSub,Nat.reduceLT,Nat.reduceLeDiff,Int.reduceLT,Int.reduceLE,Int.reduceEq,Int.reduceToNat]
       refine ⟨l.length - (j+1),by omega,j+1,rfl,by omega,rfl,fun i hi=> ?_⟩
       by_cases AA:i=j
       ·subst AA
        unfold eA
        rw[hv1,hv2,iB]
        simp[cc]
       ·exact bV i (by omega)
      ·have hno:eA l j=false:=by
         unfold eA
         rw[hv1,hv2,iB]
         simp[cc,j0]
       rw[nY cd hno]
       simp only[cc,tk0,decide_false,acH,go_sem,↓reduceIte,Nat.reduceEqDiff,Nat.reduceBEq,Nat.reduceAdd,Nat.reduceSub,Nat.reduceLT,Nat.reduceLeDiff,Int.reduceLT,Int.reduceLE,Int.reduceEq,Int.reduceToNat]
  ·have cj:¬(j:Int)<((l.length:Nat):Int):=by omega
   have sx:j=l.length:=by omega
   subst sx
   simp only[e3,e0,dQ,cj,true_and,go_sem,↓reduceIte,Nat.reduceEqDiff,Nat.reduceBEq,Nat.reduceAdd,Nat.reduceSub,Nat.reduceLT,Nat.reduceLeDiff,Int.reduceLT,Int.reduceLE,Int.reduceEq,Int.reduceToNat]
   unfold bW
   rw[decide_eq_true c4,adq,acJ]
   exact fun i hi=> bV i (ado.1 hi)
 ·rintro e H ⟨rfl,hf⟩
  rw[hf]
  simp only[tk0,go_sem,↓reduceIte,Nat.reduceEqDiff,Nat.reduceBEq,Nat.reduceAdd,Nat.reduceSub,Nat.reduceLT,Nat.reduceLeDiff,Int.reduceLT,Int.reduceLE,Int.reduceEq,Int.reduceToNat]
theorem sg (b:Nat) (h:Hp) (f:Bool) (v:ae):run fns pr b 113 [v.ek f] h=some (.s (.bool (aP v)),h):=by
 refine Vm.aQ (nt:=71) rfl Ir (by simp) ?_
 have hn:=fun h0 n=> tX h.length h0 n
 have ax:(0:Nat)=0:=rfl
 try simp only[Eg,ae.ek,hn,bG,bI,go_sem,simprocAttr]
 repeat' (
   first | refine q5z ?_ ?_ | refine q3z ?_ ?_ | refine q4z ?_ ?_
   all_goals intro aj
   all_goals first | replace aj:=q2z aj | replace aj:=q1z aj | skip
   all_goals first | subst aj | replace ax:=And.intro aj ax
   all_goals try simp only[ax,Eg,ae.ek,hn,bG,bI,go_sem,simprocAttr])
 all_goals try simp only[decide_eq_true_eq,decide_eq_false_iff_not] at *
 all_goals first
   | (simp_all [aP, -Int.not_le, -Int.not_lt, -Nat.not_le, -Nat.not_lt,acD];done)
   | (simp_all [aP, -Int.not_le, -Int.not_lt, -Nat.not_le, -Nat.not_lt,acD];omega)
   | (simp_all [aP,acD];done)
   | (simp_all [aP,acD];omega)
   | skip
theorem qX (b:Nat) (h:Hp) (f:Bool) (x:V) (r:av) (dE:SR h x (some 56) (r.ag.map ae.enc)) (hw:∀v∈r.ag,v.wf):run fns pr b 77 [.st 59 [.s (.int .i64 r.kind),.s (.int .i64 r.aw),.s (.int .i64 r.cg),.s (.int .u64 r.au),r.aq.ek f,x]] h=some (.s (.bool (aS r)),h):=by
 refine Vm.aQ (nt:=121) rfl WJ (by simp) ?_
 obtain ⟨kind,aw,cg,au,aq,ag⟩:=r
 simp only at dE hw ⊢
 have h0:=fun h0 n=> tX h.length h0 n
 have h1:=fun h0=> Bc h.length h0 f aq
 have h2:=fun h0=> sg h.length h0 f aq
 have h3:∀B,run fns pr h.length 115 [x] (h++[B])=some (.s (.bool (bW ag)),h++[B]):=fun B=> Fa h.length _ x ag (dE.fw (Fw.app [] h _)) hw
 have dQ:∀cf base H,aC cf base H .len [x]=some (.s (.int .i64 (ag.length:Nat)),H):=fun cf base H=> by rw[dE.bU];simp
 have Ew:(((ag.length:Nat):Int)=0)=(ag.length=0):=propext (by omega)
 have dw:x.ty=none:=by rcases dE with ⟨f,rfl⟩ | ⟨_,_,_,_,rfl,_⟩<;> rfl
 have jX:x.aA=true:=by rcases dE with ⟨f,rfl⟩ | ⟨_,_,_,_,rfl,_⟩<;> rfl
 have ax:(0:Nat)=0:=rfl
 try simp only[B77,h0,h1,h2,h3,dQ,Ew,eF,eG,dw,jX,go_sem,simprocAttr]
 repeat' (
   first | refine q5z ?_ ?_ | refine q3z ?_ ?_ | refine q4z ?_ ?_
   all_goals intro aj
   all_goals first | replace aj:=q2z aj | replace aj:=q1z aj | skip
   all_goals first | subst aj | replace ax:=And.intro aj ax
   all_goals try simp only[ax,B77,h0,h1,h2,h3,dQ,Ew,eF,eG,dw,jX,go_sem,simprocAttr])
 all_goals clear h0 h1 h2 h3 dQ
 all_goals try simp only[decide_eq_true_eq,decide_eq_false_iff_not] at *
 all_goals first
   | (simp_all [aS,ib, -Int.not_le, -Int.not_lt, -Nat.not_le, -Nat.not_lt,acD];done)
   | (simp_all [aS,ib, -Int.not_le, -Int.not_lt, -Nat.not_le, -Nat.not_lt,acD];omega)
   | (simp_all [aS,ib,acD];done)
   | (simp_all [aS,ib,acD];omega)
   | skip
def rG (l:List ae) (id:Bs):Int:=match l.findIdx? (fun v=> decide (v.iD=id)) with | some i=>(i:Nat) | none=> -1
theorem sM.o {h:Hp} {m:Nat} {s:ba} {xs:Nat→V} (hs:h[m]? =some (.cells (some 78) (tV s xs))) (X:Hp):(h++X)[m]? =some (.cells (some 78) [.st 78 [.s (.int .i64 s.mem),.s (.int .i64 s.bj),.arr 77 (eZ s.p xs)]]):=q10z hs X
theorem iP (p:Nat→kK) (xs:Nat→V) (i:Nat) (h:i < 16):(eZ p xs)[i]? =some (.st 75 [.s (.int .i64 (p i).role),.s (.int .u64 (p i).au),.s (.int .i64 (p i).to),xs i]):=od p xs i h
theorem JS (b:Nat) (h:Hp) (m:Nat) (s:ba) (id:Bs) (hs:sM h m s) (hk:jG s) (hl:id.length≤1000000):
 run fns pr b 78 [.ptr m [0] 1,.arr 54 (id.map aa)] h=some (.bP [.s (.int .i64 (az id:Nat)),.s (.int .i64 (rG (s.p (az id)).vs id))],h):=by
 obtain ⟨xs,h1,h2⟩:=hs
 refine Vm.aQ (nt:=38) rfl WL (by simp) ?_
 have hn:=ie id
 have pJ:=fun b h0=> kf b h0 id hl
 have ok:=hk.p _ hn
 generalize az id=S at *
 have cS:=fun X=> sM.o h1 X
 have fE:=eu s.p xs
 have lD:=iP s.p xs S hn
 have dE:=h2 S hn
 have oC:=ok.len
 generalize (s.p S).vs=l at *
 generalize xs S=x at *
 have i0:(0:Int)≤(S:Int):=by omega
 have c16:(S:Int)<((16:Nat):Int):=by omega
 have qC:x.ty=none:=dE.ty
 have jm:x.aA=true:=dE.aA
 have dQ:∀cf base H,aC cf base H .len [x]=some (.s (.int .i64 (l.length:Nat)),H):=fun cf base H=> by rw[dE.bU];simp
 simp only[B78,Pc,Pb,pJ,go_sem,↓reduceIte,Nat.reduceEqDiff,Nat.reduceBEq,Nat.reduceAdd,Nat.reduceSub,Nat.reduceLT,Nat.reduceLeDiff,Int.reduceLT,Int.reduceLE,Int.reduceEq,Int.reduceToNat]
 generalize hGd:h++[bc.cells (some 54) [.arr 54 (id.map aa)]]=G
 have g0:G[h.length]? =some (.cells (some 54) [.arr 54 (id.map aa)]):=by rw[←hGd];simp
 have fG:Fw [] h G:=by rw[←hGd];exact Fw.app [] h _
 have gm:=cS [bc.cells (some 54) [.arr 54 (id.map aa)]]
 rw[hGd] at gm
 have tk0:=fG.take
 have hsG:=dE.fw fG
 refine aV (fun q e H=>∃j,q=l.length - j∧j≤l.length∧e 7= .s (.int .i64 (j:Nat))∧e 6= .s (.int .i64 (S:Nat))∧e 3= .ptr h.length [0] 1∧e 0= .ptr m [0] 1∧H=G∧(∀i v,i < j→l[i]? =some v→v.iD≠id))
   (fun e H=> H=G∧e 6= .s (.int .i64 (S:Nat))∧rG l id= -1) l.length _ _ ⟨0,rfl,by omega,rfl,rfl,rfl,rfl,rfl,fun i v hi=> by omega⟩ ?_ ?_
 ·rintro q e H ⟨j,rfl,hj,e7,e6,e3,e0,rfl,bV⟩
  by_cases cd:j < l.length
  ·have cj:(j:Int)<((l.length:Nat):Int):=by omega
   have w3:IntKind.i64.wrap ((j:Int)+1)=((j+1:Nat):Int):=q17z (by omega)
   obtain ⟨v,hv⟩:∃v,l[j]? =some v:=⟨_,aci cd⟩
   have i1:=fun cf base=> hsG.ck (cf:=cf) (base:=base) (k:= .i64) (i:=j) (by simpa using cd)
   have hid:v.iD=id↔decide (v.iD=id)=true:=by simp
   obtain ⟨a1,a2,a3,a4,a5,a6,a7,a8,a9⟩:=v
   have kI:(l.map ae.enc)[j]? =some (.st 56 [.arr 54 (a1.map aa),.s (.int .u64 a2),.arr 27 (a3.map aa),.al false none (a4.map aa),.s (.int .i64 a5),.s (.int .i64 a6),.arr 27 (a7.map aa),.s (.bool a8),.s (.bool a9)]):=by rw[acv,hv];rfl
   have p2:=fun cf base=> hsG.qO (cf:=cf) (base:=base) kI (f:=0) (by simp)
   have p3:=fun cf base=> hsG.vP (cf:=cf) (base:=base) (g':=some 54) kI (f:=0) rfl rfl
   simp only at hid
   by_cases cc:a1=id
   ·have hf:rG l id=(j:Nat):=by
      unfold rG
      have:l.findIdx? (fun v=> decide (v.iD=id))=some j:=by
        rw[aeZ]
        refine ⟨cd,by rw[aci cd] at hv;rw[Option.some.inj hv];simpa using cc,fun i hi=> ?_⟩
        simpa using bV i _ hi (aci (by omega))
      rw[this]
    simp only[e7,e6,e3,e0,g0,gm,fE,lD,hn,i0,c16,dQ,qC,jm,cj,i1,p2,p3,bI,cc,decide_true,hf,tk0,go_sem,↓reduceIte,Nat.reduceEqDiff,Nat.reduceBEq,Nat.reduceAdd,Nat.reduceSub,Nat.reduceLT,Nat.reduceLeDiff,Int.reduceLT,Int.reduceLE,Int.reduceEq,Int.reduceToNat]
   ·simp only[e7,e6,e3,e0,g0,gm,fE,lD,hn,i0,c16,dQ,qC,jm,cj,i1,p2,p3,bI,cc,decide_false,w3,go_sem,↓reduceIte,Nat.reduceEqDiff,Nat.reduceBEq,Nat.reduceAdd,Nat.reduceSub,Nat.reduceLT,Nat.reduceLeDiff,Int.reduceLT,Int.reduceLE,Int.reduceEq,Int.reduceToNat]
    refine ⟨l.length - (j+1),by omega,j+1,rfl,by omega,rfl,fun i v hi BB=> ?_⟩
    by_cases AA:i=j
    ·subst AA
     rw[hv] at BB;cases BB
     exact cc
    ·exact bV i v (by omega) BB
  ·have cj:¬(j:Int)<((l.length:Nat):Int):=by omega
   simp only[e7,e6,e3,e0,g0,gm,fE,lD,hn,i0,c16,dQ,qC,jm,cj,true_and,go_sem,↓reduceIte,Nat.reduceEqDiff,Nat.reduceBEq,Nat.reduceAdd,Nat.reduceSub,Nat.reduceLT,Nat.reduceLeDiff,Int.reduceLT,Int.reduceLE,Int.reduceEq,Int.reduceToNat]
   unfold rG
   have:l.findIdx? (fun v=> decide (v.iD=id))=none:=by
     rw[afo]
     intro v hv
     obtain ⟨i,hi,rfl⟩:=aeT hv
     simpa using bV i _ (by omega) (aci hi)
   rw[this]
 ·rintro e H ⟨rfl,e6,hf⟩
  rw[hf]
  simp only[e6,tk0,go_sem,↓reduceIte,Nat.reduceEqDiff,Nat.reduceBEq,Nat.reduceAdd,Nat.reduceSub,Nat.reduceLT,Nat.reduceLeDiff,Int.reduceLT,Int.reduceLE,Int.reduceEq,Int.reduceToNat]
def xC (q:kK):Int:=if q.role=0 then 26 else if q.role=2 then 27 else 0
theorem vZ (b:Nat) (h:Hp) (m:Nat) (s:ba) (n:Nat) (hs:sM h m s) (hn:n < 16):
 run fns pr b 79 [.ptr m [0] 1,.s (.int .i64 (n:Nat))] h=some (.s (.int .i64 (xC (s.p n))),h):=by
 obtain ⟨xs,h1,h2⟩:=hs
 refine Vm.aQ (nt:=16) rfl WN (by simp) ?_
 have cS:=fun X=> sM.o h1 X
 have gm:=cS []
 rw[acL] at gm
 have fE:=eu s.p xs
 have lD:=iP s.p xs n hn
 have i0:(0:Int)≤(n:Int):=by omega
 have c16:(n:Int)<((16:Nat):Int):=by omega
 unfold xC
 by_cases c0:(s.p n).role=0
 ·simp only[B79,gm,fE,lD,hn,i0,c16,c0,go_sem,↓reduceIte,Nat.reduceEqDiff,Nat.reduceBEq,Nat.reduceAdd,Nat.reduceSub,Nat.reduceLT,Nat.reduceLeDiff,Int.reduceLT,Int.reduceLE,Int.reduceEq,Int.reduceToNat]
  all_goals rfl
 ·by_cases c2:(s.p n).role=2
  ·simp only[B79,gm,fE,lD,hn,i0,c16,c0,c2,go_sem,↓reduceIte,Nat.reduceEqDiff,Nat.reduceBEq,Nat.reduceAdd,Nat.reduceSub,Nat.reduceLT,Nat.reduceLeDiff,Int.reduceLT,Int.reduceLE,Int.reduceEq,Int.reduceToNat]
   all_goals rfl
  ·simp only[B79,gm,fE,lD,hn,i0,c16,c0,c2,go_sem,↓reduceIte,Nat.reduceEqDiff,Nat.reduceBEq,Nat.reduceAdd,Nat.reduceSub,Nat.reduceLT,Nat.reduceLeDiff,Int.reduceLT,Int.reduceLE,Int.reduceEq,Int.reduceToNat]
   all_goals rfl
theorem sM.app {h:Hp} {m:Nat} {s:ba} (hs:sM h m s) (X:Hp):sM (h++X) m s:=by
 obtain ⟨xs,h1,h2⟩:=hs
 exact ⟨xs,q10z h1 X,fun i hi=>(h2 i hi).app X⟩
theorem sM.fw {S:List Nat} {h h':Hp} {m:Nat} {s:ba} (hs:sM h m s) (f:Fw S h h') (hm:m∉S) (hx:∀(xs:Nat→V),(∀i,i < 16→SR h (xs i) (some 56) ((s.p i).vs.map ae.enc))→∀i,i < 16→SR h' (xs i) (some 56) ((s.p i).vs.map ae.enc)):sM h' m s:=by
 obtain ⟨xs,h1,h2⟩:=hs
 exact ⟨xs,f.db _ _ h1 hm,hx xs h2⟩
theorem JT {l:List ae} (hr:fc l) (id:Bs):(rG l id < 0)=((jn l id).isSome=false):=by
 apply propext
 have h1:=vl hr id
 unfold rG
 cases hf:l.findIdx? (fun v=> decide (v.iD=id)) with
 | none=>
   rw[afo] at hf
   have:jn l id=none:=h1.2 fun v hv=> by simpa using hf v hv
   simp[this]
 | some i=>
   rw[aeZ] at hf
   obtain ⟨hi,h2,_⟩:=hf
   have h3:jn l id≠none:=fun e=> by
     have:=h1.1 e _ (ac3 hi)
     simp[this] at h2
   have h4:=Option.isSome_iff_ne_none.2 h3
   rw[h4]
   simp only
   constructor
   ·intro h;omega
   ·intro h;cases h
theorem Fb (b:Nat) (h:Hp) (m:Nat) (s:ba) (r:av) (hs:sM h m s) (hk:jG s) (hw:r.wf) (hv:∀v∈r.ag,v.wf):
 run fns pr b 37 [.ptr m [0] 1,r.enc] h=some (.s (.int .i64 (bT s r)),h):=by
 refine Vm.aQ (nt:=144) rfl Vq (by simp) ?_
 have jy:=fun h0=> qX h.length h0 false (.al false (some 56) (r.ag.map ae.enc)) r (.inl ⟨_,rfl⟩) hv
 have gi:=jz (r:=r)
 have hvi:=hw.aq.iD
 obtain ⟨kind,aw,cg,au,aq,ag⟩:=r
 simp only at jy hv gi hvi
 unfold bT
 simp only[←ae.lu] at jy
 generalize hGd:h++[bc.cells (some 59) [.st 59 [.s (.int .i64 kind),.s (.int .i64 aw),.s (.int .i64 cg),.s (.int .u64 au),aq.enc,.al false (some 56) (ag.map ae.enc)]]]=G
 have g0:G[h.length]? =some (bc.cells (some 59) [.st 59 [.s (.int .i64 kind),.s (.int .i64 aw),.s (.int .i64 cg),.s (.int .u64 au),aq.enc,.al false (some 56) (ag.map ae.enc)]]):=by rw[←hGd];simp
 have fG:Fw [] h G:=by rw[←hGd];exact Fw.app [] h _
 have hsG:sM G m s:=by rw[←hGd];exact hs.app _
 have tk:=fG.take
 cases crr:aS ⟨kind,aw,cg,au,aq,ag⟩ with
 | false=>
   rw[crr] at jy
   simp only[yq,iG,iF,av.enc,aJ,aK,hGd,g0,jy,tk,if_true,go_sem,↓reduceIte,Nat.reduceEqDiff,Nat.reduceBEq,Nat.reduceAdd,Nat.reduceSub,Nat.reduceLT,Nat.reduceLeDiff,Int.reduceLT,Int.reduceLE,Int.reduceEq,Int.reduceToNat]
 | true=>
 rw[crr] at jy
 have gi:=gi crr
 simp only[adR,if_false]
 obtain ⟨xs,x1,x2⟩:=hsG
 have gm:=sM.o x1 []
 rw[acL] at gm
 have fE:=eu s.p xs
 by_cases k1:kind=1
 ·subst k1
  rw[if_pos rfl]
  have hf:=fun b=> JS b G m s aq.iD ⟨xs,x1,x2⟩ hk (by omega)
  have hn:=ie aq.iD
  have jd:=fun b=> vZ b G m s (az aq.iD) ⟨xs,x1,x2⟩ hn
  have lD:=iP s.p xs _ hn
  have hfn:=JT (hk.p _ hn).EO aq.iD
  have hx:=x2 _ hn
  have qC:=hx.ty
  have jm:=hx.aA
  have dQ:∀cf base H,aC cf base H .len [xs (az aq.iD)]=some (.s (.int .i64 ((s.p (az aq.iD)).vs.length:Nat)),H):=fun cf base H=> by rw[hx.bU];simp
  unfold mg
  obtain ⟨a1,a2,a3,a4,a5,a6,a7,a8,a9⟩:=aq
  simp only at hvi hn lD hfn hx qC jm dQ jd hf ⊢
  generalize az a1=S at *
  have i0:(0:Int)≤(S:Int):=by omega
  have c16:(S:Int)<((16:Nat):Int):=by omega
  generalize rG (s.p S).vs a1=fi at *
  unfold xC at jd
  have Bi:ae.enc ⟨a1,a2,a3,a4,a5,a6,a7,a8,a9⟩= .st 56 [.arr 54 (a1.map aa),.s (.int .u64 a2),.arr 27 (a3.map aa),.al false none (a4.map aa),.s (.int .i64 a5),.s (.int .i64 a6),.arr 27 (a7.map aa),.s (.bool a8),.s (.bool a9)]:=rfl
  simp only[Bi] at jy hGd g0
  by_cases c0:(s.p S).role=0
  ·simp only[yq,iG,iF,av.enc,Bi,hGd,g0,jy,hf,jd,c0,tk,go_sem,↓reduceIte,Nat.reduceEqDiff,Nat.reduceBEq,Nat.reduceAdd,Nat.reduceSub,Nat.reduceLT,Nat.reduceLeDiff,Int.reduceLT,Int.reduceLE,Int.reduceEq,Int.reduceToNat]
   all_goals rfl
  ·by_cases c2:(s.p S).role=2
   ·simp only[yq,iG,iF,av.enc,Bi,hGd,g0,jy,hf,jd,c0,c2,tk,go_sem,↓reduceIte,Nat.reduceEqDiff,Nat.reduceBEq,Nat.reduceAdd,Nat.reduceSub,Nat.reduceLT,Nat.reduceLeDiff,Int.reduceLT,Int.reduceLE,Int.reduceEq,Int.reduceToNat]
    all_goals rfl
   ·by_cases cf:fi < 0
    ·have cf2:=cf
     rw[hfn] at cf2
     by_cases c4:4≤(s.p S).vs.length
     ·have c4':(4:Int)≤(((s.p S).vs.length:Nat):Int):=by omega
      simp only[yq,iG,iF,av.enc,Bi,hGd,g0,jy,hf,jd,c0,c2,cf,cf2,gm,fE,lD,i0,c16,qC,jm,dQ,c4,c4',tk,go_sem,↓reduceIte,Nat.reduceEqDiff,Nat.reduceBEq,Nat.reduceAdd,Nat.reduceSub,Nat.reduceLT,Nat.reduceLeDiff,Int.reduceLT,Int.reduceLE,Int.reduceEq,Int.reduceToNat]
      all_goals rfl
     ·have c4':¬(4:Int)≤(((s.p S).vs.length:Nat):Int):=by omega
      simp only[yq,iG,iF,av.enc,Bi,hGd,g0,jy,hf,jd,c0,c2,cf,cf2,gm,fE,lD,i0,c16,qC,jm,dQ,c4,c4',tk,go_sem,↓reduceIte,Nat.reduceEqDiff,Nat.reduceBEq,Nat.reduceAdd,Nat.reduceSub,Nat.reduceLT,Nat.reduceLeDiff,Int.reduceLT,Int.reduceLE,Int.reduceEq,Int.reduceToNat]
      all_goals rfl
    ·have cf2:=cf
     rw[hfn] at cf2
     simp only[yq,iG,iF,av.enc,Bi,hGd,g0,jy,hf,jd,c0,c2,cf,cf2,tk,go_sem,↓reduceIte,Nat.reduceEqDiff,Nat.reduceBEq,Nat.reduceAdd,Nat.reduceSub,Nat.reduceLT,Nat.reduceLeDiff,Int.reduceLT,Int.reduceLE,Int.reduceEq,Int.reduceToNat]
     all_goals rfl
 rw[if_neg k1]
 obtain ⟨s0,s16,ep1,ep2,hz⟩:=gi k1
 obtain ⟨n,rfl⟩:∃n:Nat,aw=(n:Int):=⟨aw.toNat,by omega⟩
 have hn:n < 16:=by omega
 have lD:=iP s.p xs _ hn
 have jd:=fun b=> vZ b G m s n ⟨xs,x1,x2⟩ hn
 have ok:=hk.p _ hn
 have c16:(n:Int)<((16:Nat):Int):=by omega
 simp only[acC]
 by_cases k2:kind=2
 ·subst k2
  rw[if_pos rfl]
  have hwp:IntKind.u64.wrap ((s.p n).au+1)=(s.p n).au+1:=by have:=ok.e1;have:=ok.e2;exact wrap_u64 (by omega) (by omega)
  unfold yX
  simp only[acC]
  unfold xC at jd
  by_cases c1:s.bj≤cg
  ·simp only[yq,iG,iF,av.enc,aJ,aK,hGd,g0,jy,gm,c1,tk,go_sem,↓reduceIte,Nat.reduceEqDiff,Nat.reduceBEq,Nat.reduceAdd,Nat.reduceSub,Nat.reduceLT,Nat.reduceLeDiff,Int.reduceLT,Int.reduceLE,Int.reduceEq,Int.reduceToNat]
   all_goals rfl
  ·by_cases c2:cg=s.mem
   ·subst c2
    simp only[yq,iG,iF,av.enc,aJ,aK,hGd,g0,jy,gm,c1,tk,go_sem,↓reduceIte,Nat.reduceEqDiff,Nat.reduceBEq,Nat.reduceAdd,Nat.reduceSub,Nat.reduceLT,Nat.reduceLeDiff,Int.reduceLT,Int.reduceLE,Int.reduceEq,Int.reduceToNat]
    all_goals rfl
   ·by_cases c3:(s.p n).role=0
    ·simp only[yq,iG,iF,av.enc,aJ,aK,hGd,g0,jy,gm,jd,c1,c2,c3,tk,go_sem,↓reduceIte,Nat.reduceEqDiff,Nat.reduceBEq,Nat.reduceAdd,Nat.reduceSub,Nat.reduceLT,Nat.reduceLeDiff,Int.reduceLT,Int.reduceLE,Int.reduceEq,Int.reduceToNat]
     all_goals rfl
    ·by_cases c4:(s.p n).role=2
     ·simp only[yq,iG,iF,av.enc,aJ,aK,hGd,g0,jy,gm,jd,c1,c2,c3,c4,tk,go_sem,↓reduceIte,Nat.reduceEqDiff,Nat.reduceBEq,Nat.reduceAdd,Nat.reduceSub,Nat.reduceLT,Nat.reduceLeDiff,Int.reduceLT,Int.reduceLE,Int.reduceEq,Int.reduceToNat]
      all_goals rfl
     ·by_cases c5:au=(s.p n).au+1
      ·subst c5
       simp only[yq,iG,iF,av.enc,aJ,aK,hGd,g0,jy,gm,jd,c1,c2,c3,c4,s0,c16,hn,fE,lD,hwp,tk,go_sem,↓reduceIte,Nat.reduceEqDiff,Nat.reduceBEq,Nat.reduceAdd,Nat.reduceSub,Nat.reduceLT,Nat.reduceLeDiff,Int.reduceLT,Int.reduceLE,Int.reduceEq,Int.reduceToNat]
       all_goals rfl
      ·simp only[yq,iG,iF,av.enc,aJ,aK,hGd,g0,jy,gm,jd,c1,c2,c3,c4,c5,s0,c16,hn,fE,lD,hwp,tk,go_sem,↓reduceIte,Nat.reduceEqDiff,Nat.reduceBEq,Nat.reduceAdd,Nat.reduceSub,Nat.reduceLT,Nat.reduceLeDiff,Int.reduceLT,Int.reduceLE,Int.reduceEq,Int.reduceToNat]
       all_goals rfl
 rw[if_neg k2]
 by_cases k3:kind=3
 ·subst k3
  rw[if_pos rfl]
  unfold tK
  simp only[acC]
  have oC:ag.length≤4:=lE crr
  simp only[yq,iG,iF,av.enc,aJ,aK,hGd,g0,jy,go_sem,↓reduceIte,Nat.reduceEqDiff,Nat.reduceBEq,Nat.reduceAdd,Nat.reduceSub,Nat.reduceLT,Nat.reduceLeDiff,Int.reduceLT,Int.reduceLE,Int.reduceEq,Int.reduceToNat]
  refine aV (fun q e H=>∃j,q=ag.length - j∧j≤ag.length∧e 9= .s (.int .i64 (j:Nat))∧e 3= .ptr h.length [0] 1∧e 0= .ptr m [0] 1∧H=G∧(∀i v,i < j→ag[i]? =some v→az v.iD=n))
    (fun e H=> H=G∧e 3= .ptr h.length [0] 1∧e 0= .ptr m [0] 1∧(ag.any fun v=> decide ((az v.iD:Int)≠(n:Nat)))=false) ag.length _ _ ⟨0,rfl,by omega,rfl,rfl,rfl,rfl,fun i v hi=> by omega⟩ ?_ ?_
  ·rintro q e H ⟨j,rfl,hj,e9,e3,e0,rfl,bV⟩
   have dQ:∀cf base H,aC cf base H .len [V.al false (some 56) (ag.map ae.enc)]=some (.s (.int .i64 (ag.length:Nat)),H):=fun cf base H=> by rw[nb];simp
   by_cases cd:j < ag.length
   ·have cj:(j:Int)<((ag.length:Nat):Int):=by omega
    have w3:IntKind.i64.wrap ((j:Int)+1)=((j+1:Nat):Int):=q17z (by omega)
    obtain ⟨v,hvv⟩:∃v,ag[j]? =some v:=⟨_,aci cd⟩
    have dE:SR H (.al false (some 56) (ag.map ae.enc)) (some 56) (ag.map ae.enc):= .inl ⟨_,rfl⟩
    have i1:=fun cf base=> dE.ck (cf:=cf) (base:=base) (k:= .i64) (i:=j) (by simpa using cd)
    have hvw:=(hv v (acw hvv)).iD
    have pJ:=fun b H=> kf b H v.iD (by omega)
    have Jn:az v.iD≠n→(ag.any fun v=> decide ((az v.iD:Int)≠(n:Nat)))=true:=fun cC=> by
      rw[aeQ]
      exact ⟨v,acw hvv,by simp;omega⟩
    obtain ⟨a1,a2,a3,a4,a5,a6,a7,a8,a9⟩:=v
    have kI:(ag.map ae.enc)[j]? =some (.st 56 [.arr 54 (a1.map aa),.s (.int .u64 a2),.arr 27 (a3.map aa),.al false none (a4.map aa),.s (.int .i64 a5),.s (.int .i64 a6),.arr 27 (a7.map aa),.s (.bool a8),.s (.bool a9)]):=by rw[acv,hvv];rfl
    have p2:=fun cf base=> dE.qO (cf:=cf) (base:=base) kI (f:=0) (by simp)
    have p3:=fun cf base=> dE.vP (cf:=cf) (base:=base) (g':=some 54) kI (f:=0) rfl rfl
    simp only at pJ Jn
    by_cases cc:az a1=n
    ·have cc':((az a1:Nat):Int)=(n:Nat):=by omega
     simp only[e9,e3,e0,g0,dQ,cj,i1,p2,p3,pJ,cc,w3,go_sem,↓reduceIte,Nat.reduceEqDiff,Nat.reduceBEq,Nat.reduceAdd,Nat.reduceSub,Nat.reduceLT,Nat.reduceLeDiff,Int.reduceLT,Int.reduceLE,Int.reduceEq,Int.reduceToNat]
     refine ⟨ag.length - (j+1),by omega,j+1,rfl,by omega,rfl,fun i v hi BB=> ?_⟩
     by_cases AA:i=j
     ·subst AA
      rw[hvv] at BB;cases BB
      exact cc
     ·exact bV i v (by omega) BB
    ·have cc':¬((az a1:Nat):Int)=(n:Nat):=by omega
     rw[Jn cc]
     simp only[e9,e3,e0,g0,dQ,cj,i1,p2,p3,pJ,cc',tk,if_true,go_sem,↓reduceIte,Nat.reduceEqDiff,Nat.reduceBEq,Nat.reduceAdd,Nat.reduceSub,Nat.reduceLT,Nat.reduceLeDiff,Int.reduceLT,Int.reduceLE,Int.reduceEq,Int.reduceToNat]
   ·have cj:¬(j:Int)<((ag.length:Nat):Int):=by omega
    simp only[e9,e3,e0,g0,dQ,cj,true_and,go_sem,↓reduceIte,Nat.reduceEqDiff,Nat.reduceBEq,Nat.reduceAdd,Nat.reduceSub,Nat.reduceLT,Nat.reduceLeDiff,Int.reduceLT,Int.reduceLE,Int.reduceEq,Int.reduceToNat]
    rw[afr]
    intro v hv
    obtain ⟨i,hi,rfl⟩:=aeT hv
    have:=bV i _ (by omega) (aci hi)
    simp[this]
  ·rintro e H ⟨rfl,e3,e0,hf⟩
   rw[hf]
   simp only[acz,if_false]
   by_cases c3:(s.p n).role=1
   ·simp only[e3,e0,g0,gm,s0,c16,hn,fE,lD,c3,tk,go_sem,↓reduceIte,Nat.reduceEqDiff,Nat.reduceBEq,Nat.reduceAdd,Nat.reduceSub,Nat.reduceLT,Nat.reduceLeDiff,Int.reduceLT,Int.reduceLE,Int.reduceEq,Int.reduceToNat]
    all_goals rfl
   ·by_cases c4:au≤(s.p n).au
    ·simp only[e3,e0,g0,gm,s0,c16,hn,fE,lD,c3,c4,tk,go_sem,↓reduceIte,Nat.reduceEqDiff,Nat.reduceBEq,Nat.reduceAdd,Nat.reduceSub,Nat.reduceLT,Nat.reduceLeDiff,Int.reduceLT,Int.reduceLE,Int.reduceEq,Int.reduceToNat]
     all_goals rfl
    ·simp only[e3,e0,g0,gm,s0,c16,hn,fE,lD,c3,c4,tk,go_sem,↓reduceIte,Nat.reduceEqDiff,Nat.reduceBEq,Nat.reduceAdd,Nat.reduceSub,Nat.reduceLT,Nat.reduceLeDiff,Int.reduceLT,Int.reduceLE,Int.reduceEq,Int.reduceToNat]
     all_goals rfl
 rw[if_neg k3]
 have k4:kind=4:=by
   unfold aS at crr
   simp only[k1,k2,k3,if_false] at crr
   split at crr
   ·assumption
   ·cases crr
 subst k4
 by_cases c1:(s.p n).role=2
 ·by_cases c2:(s.p n).au=au
  ·subst c2
   simp only[yq,iG,iF,av.enc,aJ,aK,hGd,g0,jy,gm,jd,c1,s0,c16,hn,fE,lD,tk,go_sem,↓reduceIte,Nat.reduceEqDiff,Nat.reduceBEq,Nat.reduceAdd,Nat.reduceSub,Nat.reduceLT,Nat.reduceLeDiff,Int.reduceLT,Int.reduceLE,Int.reduceEq,Int.reduceToNat]
   all_goals rfl
  ·simp only[yq,iG,iF,av.enc,aJ,aK,hGd,g0,jy,gm,jd,c1,c2,s0,c16,hn,fE,lD,tk,go_sem,↓reduceIte,Nat.reduceEqDiff,Nat.reduceBEq,Nat.reduceAdd,Nat.reduceSub,Nat.reduceLT,Nat.reduceLeDiff,Int.reduceLT,Int.reduceLE,Int.reduceEq,Int.reduceToNat]
   all_goals rfl
 ·simp only[yq,iG,iF,av.enc,aJ,aK,hGd,g0,jy,gm,jd,c1,s0,c16,hn,fE,lD,tk,go_sem,↓reduceIte,Nat.reduceEqDiff,Nat.reduceBEq,Nat.reduceAdd,Nat.reduceSub,Nat.reduceLT,Nat.reduceLeDiff,Int.reduceLT,Int.reduceLE,Int.reduceEq,Int.reduceToNat]
  all_goals rfl
theorem po (a b:Bs) (cf:CF) (base:Nat) (h:Hp):aC cf base h (.bin .num .leq) [.s (.string ⟨a.toArray⟩),.s (.string ⟨b.toArray⟩)]=some (.s (.bool (!decide (bB b a < 0))),h):=by
 have:aC cf base h (.bin .num .leq) [.s (.string ⟨a.toArray⟩),.s (.string ⟨b.toArray⟩)]=some (.s (.bool (Op.bytesLess (ByteArray.mk a.toArray).toList (ByteArray.mk b.toArray).toList || (ByteArray.mk a.toArray).toList==(ByteArray.mk b.toArray).toList)),h):=rfl
 rw[this,toList_mk,toList_mk,tD]
 have h1:=pZ a b
 by_cases c:a=b
 ·subst c
  simp[eo]
 ·have h2:bB a b≠0:=fun e=> c (iL _ _ e)
  by_cases c1:bB a b < 0
  ·have:¬bB b a < 0:=by omega
   simp[c1,this]
  ·have:bB b a < 0:=by omega
   simp[c1,this,c]
def er (v:ae) (a:List ae×Bool) (w:ae):List ae×Bool:=
 ((if a.2=false∧¬bB w.iD v.iD < 0 then a.1++[v] else a.1)++(if w.iD=v.iD then [] else [w]),a.2 || decide (¬bB w.iD v.iD < 0))
theorem zd (v:ae):∀(l:List ae) (o:List ae),l.foldl (er v) (o,true)=(o++l.filter (fun w=> decide (w.iD≠v.iD)),true)
 | [],o=> by simp
 | w::l,o=> by
   have:er v (o,true) w=(o++(if w.iD=v.iD then [] else [w]),true):=by simp[er]
   rw[aeF,this,zd v l]
   by_cases c:w.iD=v.iD
   ·rw[if_pos c,acL,ad9 (by simpa using c)]
   ·rw[if_neg c,ad8 (by simpa using c),acs];rfl
theorem ze {v:ae}:∀ {l:List ae} (hr:fc l) (o:List ae),(let a:=l.foldl (er v) (o,false);if a.2=true then a.1 else a.1++[v])=o++eh l v
 | [],hr,o=> by simp[eh]
 | w::l,hr,o=> by
   obtain ⟨h1,h2⟩:=aeY.1 hr
   by_cases c:bB w.iD v.iD < 0
   ·have cC:w.iD≠v.iD:=fun e=> by rw[e] at c;have:=eo v.iD;omega
    have h3:er v (o,false) w=(o++[w],false):=by simp[er,c,cC]
    rw[aeF,h3]
    have:=ze (v:=v) h2 (o++[w])
    rw[this]
    unfold eh
    rw[ad8 (by simpa using c),ad9 (by simp;omega)]
    simp
   ·have h3:er v (o,false) w=(o++[v]++(if w.iD=v.iD then [] else [w]),true):=by simp[er,c]
    rw[aeF,h3,zd]
    simp only[if_true]
    have hz:∀x∈l,0 < bB x.iD v.iD:=fun x hx=> by
      have a1:=h1 x hx
      by_cases a2:bB x.iD v.iD < 0
      ·exact absurd (eU _ _ _ a1 a2) c
      ·by_cases a3:bB x.iD v.iD=0
       ·rw[iL _ _ a3] at a1;exact absurd a1 c
       ·omega
    have f1:((w::l).filter fun w=> decide (bB w.iD v.iD < 0))=[]:=by
      rw[afF]
      intro x hx
      rcases acQ.1 hx with rfl | hx
      ·simpa using c
      ·have:=hz x hx;simp;omega
    have f2:(l.filter fun w=> decide (0 < bB w.iD v.iD))=l:=afh.2 fun x hx=> by simpa using hz x hx
    have f3:(l.filter fun w=> decide (w.iD≠v.iD))=l:=afh.2 fun x hx=> by
      have:=hz x hx
      have cC:x.iD≠v.iD:=fun e=> by rw[e,eo] at this;omega
      simpa using cC
    unfold eh
    rw[f1,f3]
    by_cases cw:w.iD=v.iD
    ·have:¬0 < bB w.iD v.iD:=by rw[cw,eo];omega
     rw[if_pos cw,ad9 (by simpa using this),f2]
     simp
    ·have:0 < bB w.iD v.iD:=by
       by_cases a3:bB w.iD v.iD=0
       ·exact absurd (iL _ _ a3) cw
       ·omega
     rw[if_neg cw,ad8 (by simpa using this),f2]
     simp
theorem BC (v:ae) (l:List ae) (j:Nat) (w:ae) (h:l[j]? =some w):(l.take (j+1)).foldl (er v) ([],false)=er v ((l.take j).foldl (er v) ([],false)) w:=by
 rw[aee,h];simp
theorem qY (v:ae):∀(l:List ae) (a:List ae×Bool),(l.foldl (er v) a).1.length≤a.1.length+2 * l.length
 | [],a=> by simp
 | w::l,a=> by
   have h1:=qY v l (er v a w)
   have h2:(er v a w).1.length≤a.1.length+2:=by
     unfold er
     simp only[aco]
     have:(if a.2=false∧¬bB w.iD v.iD < 0 then a.1++[v] else a.1).length≤a.1.length+1:=by split <;> simp
     have:(if w.iD=v.iD then [] else [w]).length≤1:=by split <;> simp
     omega
   rw[aeF,acR];omega
def qk (h H:Hp) (x:V) (l:List ae):Prop:=∃k,XR H (some 56) k x (l.map ae.enc)∧h.length≤k∧Fw [] h H
theorem qk.push {h H:Hp} {x:V} {l:List ae} (hn:qk h H x l) (w:ae) (hl:l.length≤1000000):
 ∃x' H',(∀cf base,aC cf base (H++[.cells (some 56) [w.enc]]) (.app (some 56) 96) [x,.ref H.length [] (some 56) 0 1 1]=some (x',H'))∧qk h H' x' (l++[w]):=by
 obtain ⟨k,xr,hk,f⟩:=hn
 obtain ⟨x',H',k',ap,xr',En,yM,hk3,hk4,hold⟩:=xr.tC (n:=h.length) (bytes:=96) (ys:=[w.enc]) (m:=1) hk f.len rfl (fun z hz=> by rw[adE] at hz;subst hz;exact sB w) (by simp;omega)
 exact ⟨x',H',ap,k',by simpa using xr',En,Fw.trans' (n:=0) (k:=k) f hk4 hold (by omega)⟩
theorem qk.fw {h H:Hp} {x:V} {l:List ae} (hn:qk h H x l):Fw [] h H:=let ⟨_,_,_,f⟩:=hn;f
theorem qk.oy {h H:Hp} {x:V} {l:List ae} (hn:qk h H x l) {n:Nat} (hl:n≤h.length):bA n H x=some (.al false (some 56) (l.map ae.enc)):=by
 obtain ⟨k,xr,hk,f⟩:=hn
 refine xr.oy (by omega) ?_
 exact jE l
theorem qk.ty {h H:Hp} {x:V} {l:List ae} (hn:qk h H x l):x.ty=none∧x.aA=true:=let ⟨_,xr,_,_⟩:=hn;xr.ty
theorem qk.mono {h H H':Hp} {x:V} {l:List ae} (hn:qk h H x l) (f:Fw [] H H'):qk h H' x l:=let ⟨k,xr,hk,g⟩:=hn;⟨k,xr.mono fun b hb=> f.db _ _ hb (by simp),hk,g.trans f⟩
theorem Fc (b:Nat) (h:Hp) (x:V) (l:List ae) (v:ae) (dE:SR h x (some 56) (l.map ae.enc)) (hr:fc l) (hl:l.length≤1000):
 run fns pr b 39 [x,v.enc] h=some (.al false (some 56) ((eh l v).map ae.enc),h):=by
 refine Vm.aQ (nt:=54) rfl Vu (by simp) ?_
 have fE:=ze (v:=v) hr []
 rw[ac1] at fE
 have hvt:=aJ v
 have p9:=aK v
 have dQ:∀cf base H,aC cf base H .len [x]=some (.s (.int .i64 (l.length:Nat)),H):=fun cf base H=> by rw[dE.bU];simp
 obtain ⟨d1,d2,d3,d4,d5,d6,d7,d8,d9⟩:=v
 have Bi:ae.enc ⟨d1,d2,d3,d4,d5,d6,d7,d8,d9⟩= .st 56 [.arr 54 (d1.map aa),.s (.int .u64 d2),.arr 27 (d3.map aa),.al false none (d4.map aa),.s (.int .i64 d5),.s (.int .i64 d6),.arr 27 (d7.map aa),.s (.bool d8),.s (.bool d9)]:=rfl
 generalize hv:(⟨d1,d2,d3,d4,d5,d6,d7,d8,d9⟩:ae)=v at *
 have hid:v.iD=d1:=by rw[←hv]
 generalize hGd:h++[bc.cells (some 56) [v.enc]]=G
 have g0:G[h.length]? =some (.cells (some 56) [.st 56 [.arr 54 (d1.map aa),.s (.int .u64 d2),.arr 27 (d3.map aa),.al false none (d4.map aa),.s (.int .i64 d5),.s (.int .i64 d6),.arr 27 (d7.map aa),.s (.bool d8),.s (.bool d9)]]):=by rw[←hGd,←Bi];simp
 have fG:Fw [] h G:=by rw[←hGd];exact Fw.app [] h _
 simp only[B39,O3,O2,hvt,p9,hGd,go_sem,simprocAttr]
 refine aV (fun q e H=>∃(j:Nat),q=l.length - j∧j≤l.length∧e 7= .s (.int .i64 (j:Nat))∧e 3= .ptr h.length [0] 1∧e 0=x∧(∃y,e 5=y∧qk G H y ((l.take j).foldl (er v) ([],false)).1)∧e 6= .s (.bool ((l.take j).foldl (er v) ([],false)).2))
   (fun e H=> e 3= .ptr h.length [0] 1∧(∃y,e 5=y∧qk G H y (l.foldl (er v) ([],false)).1)∧e 6= .s (.bool (l.foldl (er v) ([],false)).2)) l.length _ _ ⟨0,rfl,by omega,by exact rfl,by exact rfl,by exact rfl,by exact ⟨_,rfl,h.length+1,XR.nil _ _ _,by rw[←hGd];simp,Fw.refl _ _⟩,by exact rfl⟩ ?_ ?_
 ·rintro q e H ⟨j,rfl,hj,e7,e3,e0,⟨y,e5,N⟩,e6⟩
  by_cases cd:j < l.length
  ·have cj:(j:Int)<((l.length:Nat):Int):=by omega
   have w3:IntKind.i64.wrap ((j:Int)+1)=((j+1:Nat):Int):=q17z (by omega)
   obtain ⟨w,hw⟩:∃w,l[j]? =some w:=⟨_,aci cd⟩
   have aR:=BC v l j w hw
   have j3:=qY v (l.take j) ([],false)
   rw[acI] at j3
   generalize (l.take j).foldl (er v) ([],false)=A at *
   obtain ⟨o,inn⟩:=A
   simp only at N e6 j3
   have gU:o.length≤2000:=by simp at j3;omega
   have Ax:=aJ w
   have hws:=aK w
   have hm0:(l.map ae.enc)[j]? =some w.enc:=by rw[acv,hw];rfl
   obtain ⟨a1,a2,a3,a4,a5,a6,a7,a8,a9⟩:=w
   have hwe:ae.enc ⟨a1,a2,a3,a4,a5,a6,a7,a8,a9⟩= .st 56 [.arr 54 (a1.map aa),.s (.int .u64 a2),.arr 27 (a3.map aa),.al false none (a4.map aa),.s (.int .i64 a5),.s (.int .i64 a6),.arr 27 (a7.map aa),.s (.bool a8),.s (.bool a9)]:=rfl
   generalize hww:(⟨a1,a2,a3,a4,a5,a6,a7,a8,a9⟩:ae)=w at *
   have YH:w.iD=a1:=by rw[←hww]
   have kI:=hm0
   rw[hwe] at kI
   have fx:∀T,Fw [] G T→∀cf base,aC cf base T (.de (some 56)) [x,.s (.int .i64 (j:Nat))]=some (iW x j,T):=fun T f cf base=>((dE.fw fG).fw f).ck (k:= .i64) (i:=j) (by simpa using cd)
   have s0:=(dE.fw fG).fw N.fw
   have i1:=fx H N.fw
   have p2:=fun cf base=> s0.qO (cf:=cf) (base:=base) kI (f:=0) (by simp)
   have p3:=fun cf base=> s0.yN (cf:=cf) (base:=base) (g':=none) kI (f:=0) rfl
   have p4:=fun cf base=> oL cf base H _ _ a1 (lC s0 (g':=none) kI (f:=0) rfl)
   simp only[acy] at p3 p4
   have gH:=N.fw.db _ _ g0 (by simp)
   have jo:(d1.map aa).length=d1.length:=acy _
   have p5:=fun cf base=> oL cf base H (.ref h.length [0,0] none 0 d1.length 1) none d1 (by simp only[cK,go_sem,simprocAttr,acs,aco,Vm.aM,Vm.bN,Vm.bh,Vm.aX,Vm.bw,Vm.bb,acm,acS,gH,dP,ac2,ack (aec jo)])
   have q1:∀T,Fw [] G T→∀cf base,aC cf base T (.ld (some 56)) [iW x j]=some (w.enc,T):=fun T f cf base=>((dE.fw fG).fw f).fL hm0 Ax
   have q2:∀T,Fw [] G T→∀cf base,aC cf base T (.fa 56 0) [iW x j]=some (tY x j 0,T):=fun T f cf base=>((dE.fw fG).fw f).qO kI (f:=0) (by simp)
   have q3:∀T,Fw [] G T→∀cf base,aC cf base T (.ld (some 54)) [tY x j 0]=some (.arr 54 (a1.map aa),T):=fun T f cf base=>((dE.fw fG).fw f).vP kI (f:=0) rfl rfl
   have st1:er v (o,true) w=(o++(if a1=d1 then [] else [w]),true):=by simp[er,YH,hid]
   have st2:er v (o,false) w=((if ¬bB a1 d1 < 0 then o++[v] else o)++(if a1=d1 then [] else [w]),decide (¬bB a1 d1 < 0)):=by simp[er,YH,hid]
   cases inn with
   | true=>
     rw[st1] at aR
     by_cases ca:a1=d1
     ·rw[if_pos ca,acL] at aR
      simp only[e7,e6,e5,e3,e0,dQ,cj,i1,p2,gH,q3 H N.fw,bI,ca,decide_true,acK,w3,go_sem,simprocAttr]
      exact ⟨l.length - (j+1),by omega,j+1,rfl,by omega,rfl,⟨_,rfl,by rw[aR];exact N⟩,by rw[aR]⟩
     ·rw[if_neg ca] at aR
      obtain ⟨y',H',ap,N'⟩:=N.push w (by omega)
      simp only[e7,e6,e5,e3,e0,dQ,cj,i1,p2,gH,q3 H N.fw,bI,ca,decide_false,acH,q1 H N.fw,Ax,hws,ap,w3,go_sem,simprocAttr]
      exact ⟨l.length - (j+1),by omega,j+1,rfl,by omega,rfl,⟨_,rfl,by rw[aR];exact N'⟩,by rw[aR]⟩
   | false=>
     rw[st2] at aR
     by_cases cc:bB a1 d1 < 0
     ·have ca:¬a1=d1:=fun e=> by rw[e,eo] at cc;omega
      rw[if_neg (by simpa using cc),if_neg ca] at aR
      obtain ⟨y',H',ap,N'⟩:=N.push w (by omega)
      simp only[e7,e6,e5,e3,e0,dQ,cj,i1,p2,p3,p4,p5,gH,po,cc,decide_true,acK,q3 H N.fw,bI,ca,decide_false,acH,q1 H N.fw,Ax,hws,ap,w3,go_sem,simprocAttr]
      exact ⟨l.length - (j+1),by omega,j+1,rfl,by omega,rfl,⟨_,rfl,by rw[aR];exact N'⟩,by rw[aR];simp[cc]⟩
     ·rw[if_pos (by simpa using cc)] at aR
      obtain ⟨y',H',ap,N'⟩:=N.push v (by omega)
      rw[Bi] at ap
      have gH':=N'.fw.db _ _ g0 (by simp)
      by_cases ca:a1=d1
      ·rw[if_pos ca,acL] at aR
       have hda:decide (a1=d1)=true:=by simpa using ca
       clear ca
       simp only[e7,e6,e5,e3,e0,dQ,cj,i1,p2,p3,p4,p5,gH,po,cc,decide_false,acH,ap,fx H' N'.fw,q2 H' N'.fw,gH',q3 H' N'.fw,bI,hda,acK,w3,go_sem,simprocAttr]
       exact ⟨l.length - (j+1),by omega,j+1,rfl,by omega,rfl,⟨_,rfl,by rw[aR];exact N'⟩,by rw[aR];simp[cc]⟩
      ·rw[if_neg ca] at aR
       obtain ⟨y2,H2,ap2,N2⟩:=N'.push w (by simp;omega)
       simp only[e7,e6,e5,e3,e0,dQ,cj,i1,p2,p3,p4,p5,gH,po,cc,decide_false,acH,ap,fx H' N'.fw,q2 H' N'.fw,gH',q3 H' N'.fw,bI,ca,q1 H' N'.fw,Ax,hws,ap2,w3,go_sem,simprocAttr]
       exact ⟨l.length - (j+1),by omega,j+1,rfl,by omega,rfl,⟨_,rfl,by rw[aR];exact N2⟩,by rw[aR];simp[cc]⟩
  ·have cj:¬(j:Int)<((l.length:Nat):Int):=by omega
   have sx:j=l.length:=by omega
   subst sx
   rw[ack (acm _)] at N e6
   simp only[e7,e6,e5,e3,e0,dQ,cj,true_and,go_sem,simprocAttr]
   exact ⟨_,rfl,N⟩
 ·rintro e H ⟨e3,⟨y,e5,N⟩,e6⟩
  have j3:=qY v l ([],false)
  generalize l.foldl (er v) ([],false)=A at *
  obtain ⟨o,inn⟩:=A
  simp only at N e6 fE j3
  have gH:=N.fw.db _ _ g0 (by simp)
  cases inn with
  | true=>
    simp only[if_true] at fE
    subst fE
    have hz:=N.oy (n:=h.length) fG.len
    have tk:=(fG.trans N.fw).take
    simp only[e3,e5,e6,hz,tk,go_sem,simprocAttr]
  | false=>
    simp only[acz,if_false] at fE
    obtain ⟨y',H',ap,N'⟩:=N.push v (by simp at j3;omega)
    rw[fE] at N'
    have hz:=N'.oy (n:=h.length) fG.len
    have tk:=(fG.trans N'.fw).take
    rw[Bi] at ap
    simp only[e3,e5,e6,gH,ap,hz,tk,go_sem,simprocAttr]
theorem M7 (a s:UInt8):s ^^^(s ^^^ a)=a:=by
 apply afe.1
 simp[UInt8.toNat_xor,←Nat.xor_assoc]
theorem wa :∀(s l:Bs),l.length≤s.length→lp s (lp s l)=l
 | s,[],_=> by simp[lp]
 | [],a::l,h=> by simp at h
 | b::s,a::l,h=> by
   have:=wa s l (by simpa using h)
   simp only[lp,List.zipWith_cons_cons] at this ⊢
   rw[this,M7]
theorem M8 (k:Bs) (n:Nat) (l:Bs):pb k n (pb k n l)=l:=by
 have h:(lp (l9 k n l.length) l).length=l.length:=lq k n l
 unfold pb
 rw[h]
 exact wa _ _ (by rw[j8];exact acm _)
theorem wb (k:Bs) (n:Nat) (ad l:Bs) (h1:l.length≤8184) (h2:ad.length≤8192):oN k n ad (mE k n ad l)=some l:=by
 have hl:=qN k n ad l h1 h2
 have hh:=lq k n l
 have hc:8≤(mE k n ad l).length∧(mE k n ad l).length≤8192∧ad.length≤8192:=⟨by omega,by omega,h2⟩
 unfold oN
 rw[if_pos hc,hl,afm]
 have hs:mE k n ad l=pb k n l++m7 k n ad l:=by unfold mE;rw[if_pos ⟨h1,h2⟩]
 rw[hs]
 have e1:(pb k n l++m7 k n ad l).take l.length=pb k n l:=by rw[←hh];exact acq
 have e2:(pb k n l++m7 k n ad l).drop l.length=m7 k n ad l:=by rw[←hh];exact aeP
 simp only[e1,e2,M8,if_true]
theorem BD (k:Bs) (n:Nat) (prev:Bs) (r:av) (hp:prev.length=16) (hw:r.wf) (hr:aS r=true):lI k n prev (mh k n prev r).1=(r,0):=by
 have hl:=za hr hw hw.ag.2
 unfold lI mh
 rw[if_pos hr]
 simp only
 rw[wb k n prev (na r) (by omega) (by omega)]
 exact JE r hw hw.ag.2 hr
def HD (mem bj:Int) (key:Bs) (K:Dk) (r:ah) (S:ba):Prop:=
 ∃im h0 L S0,jh key K r=(im,h0,0)∧bX key K r.base.toNat h0 (bz r).toNat=some (L,r.head)∧(if 0 < r.base then ofI mem bj im else some (ba.new mem bj))=some S0∧jJ S0 L=some S
theorem HD.load {D:aL} {S:ba} (hg:bm D.r=true) (h:HD D.mem D.bj D.key D.dk D.r S):D.load=some S:=by
 obtain ⟨im,h0,L,S0,h1,h2,h3,h4⟩:=h
 have hj:kj D.key D.dk D.r=(im,L,0):=by
   unfold kj
   rw[if_neg (by simp[hg]),h1]
   simp only[ne_eq,not_true_eq_false,if_false,h2,if_true]
 unfold aL.load aL.begin
 rw[hj]
 simp only[ne_eq,not_true_eq_false,if_false]
 rw[h3]
 exact h4
def tZ (K K':Dk) (r:ah):Prop:=(0 < r.base→K'.get r.aG=K.get r.aG)∧∀i:Nat,(i:Int)< bz r→K'.get (2+(i:Int))=K.get (2+(i:Int))
theorem rH {k:Bs} {K K':Dk} {base:Nat} {h:Bs}:∀(n:Nat),(∀i:Nat,i < n→K'.get (2+(i:Int))=K.get (2+(i:Int)))→bX k K' base h n=bX k K base h n
 | 0,_=> rfl
 | n+1,hs=> by
   rw[bX,bX,rH n (fun i hi=> hs i (by omega)),hs n (by omega)]
theorem HD.same {mem bj:Int} {key:Bs} {K K':Dk} {r:ah} {S:ba} (h:HD mem bj key K r S) (hb:0≤r.base) (hs:tZ K K' r):HD mem bj key K' r S:=by
 obtain ⟨im,h0,L,S0,h1,h2,h3,h4⟩:=h
 refine ⟨im,h0,L,S0,?_,?_,h3,h4⟩
 ·rw[←h1]
  unfold jh
  by_cases c:r.base=0
  ·rw[if_pos c,if_pos c]
  ·rw[if_neg c,if_neg c,hs.1 (by omega)]
 ·rw[←h2]
  exact rH _ fun i hi=> hs.2 i (by omega)
theorem q19z {r:ah} (h:bm r=true):bz r=r.count - r.base:=by unfold bz;rw[if_pos h]
theorem HD.bD {mem bj:Int} {key:Bs} {K:Dk} {r:ah} {S:ba} (h:HD mem bj key K r S) (hw:r.wf) (hb:(cF r).2=true) (hr:bm r=true):HD mem bj key K (cF r).1 S:=by
 obtain ⟨e1,e2,_⟩:=q29z hw hb
 obtain ⟨im,h0,L,S0,h1,h2,h3,h4⟩:=h
 have hh:bz (cF r).1=bz r:=by rw[q19z e2,q19z hr,e1]
 refine ⟨im,h0,L,S0,?_,?_,?_,h4⟩
 ·rw[e1];exact h1
 ·rw[hh,e1];exact h2
 ·rw[e1];exact h3
theorem ua {S0 S:ba} {r:av}:∀(L:List av),jJ S0 L=some S→(bf S r).1=0→jJ S0 (L++[r])=some (bf S r).2
 | [],h,h0=> by
   cases h
   simp[jJ,h0]
 | x::L,h,h0=> by
   simp only[jJ,ade] at h ⊢
   split at h
   ·cases h
   ·rename_i c
    rw[if_neg c]
    revert h
    generalize (bf S0 x).2=S1
    intro h
    exact ua L h h0
theorem BE {s:ba} (hk:jG s) {r:av} (h:bT s r=0):(bf s r).1=0:=by
 have hr:=tN h
 unfold bf
 rw[if_neg (by simp[h])]
 by_cases k1:r.kind=1
 ·rw[if_pos k1]
  unfold bT at h
  rw[if_neg (by simp[hr]),if_pos k1] at h
  have iB:aP r.aq=true:=by unfold aS at hr;rw[if_pos k1] at hr;simp at hr;simp[hr]
  have pf:=Jm hk h
  simp only
  unfold qa
  rw[if_neg (by simp[iB])]
  by_cases c:((s.p (az r.aq.iD)).vs[pos (s.p (az r.aq.iD)).vs r.aq.iD]?).map ae.iD=some r.aq.iD
  ·rw[if_pos c]
  ·rw[if_neg c,if_neg]
   have:jn (s.p (az r.aq.iD)).vs r.aq.iD=none:=by unfold jn;rw[if_neg c]
   have:=pf this
   omega
 ·rw[if_neg k1]
  split
  ·rfl
  ·split <;> rfl
theorem HD.next {mem bj:Int} {key:Bs} {K:Dk} {r:ah} {S:ba} {x:av} {l:Bs} (h:HD mem bj key K r S) (hw:r.wf) (hx:x.wf) (hk:jG S) (hc:bT S x=0)
 (hl:l=(mh key (r.count.toNat+1) r.head x).1) (hn:(eK r (dy r.head l)).2=true) (hg:K.get (2+bz r)=some l):HD mem bj key K (eK r (dy r.head l)).1 (bf S x).2:=by
 have hhl:(dy r.head l).length=16:=by simp[dy,dx,bq]
 obtain ⟨e1,e2,e3,_⟩:=q30z hw hhl hn
 have hr:=tN hc
 obtain ⟨im,h0,L,S0,h1,h2,h3,h4⟩:=h
 have Br:=q11z e2
 have hh:(bz (eK r (dy r.head l)).1).toNat=(bz r).toNat+1:=by rw[q19z e3,q19z e2,e1];simp only;omega
 have hd2:(2+((bz r).toNat:Nat):Int)=2+bz r:=by rw[q19z e2];omega
 have hcn:r.base.toNat+(bz r).toNat+1=r.count.toNat+1:=by rw[q19z e2];have:=hw.base;omega
 refine ⟨im,h0,L++[x],S0,?_,?_,?_,ua L h4 (BE hk hc)⟩
 ·rw[e1];exact h1
 ·rw[hh,bX,e1]
  simp only[h2,hd2,hg,hcn,acX,adr]
  rw[hl,BD key _ r.head x hw.head hx hr]
  simp
 ·rw[e1];exact h3
theorem JU {S:List Nat} {h h':Hp} {x:V} {vs:List V} {R:List Nat} {g:Option Nat} (hs:SR h x g vs) (hx:(∃f l,x= .al f g l)∨∃id off n aB,x= .ref id [] g off n aB∧id∈R) (f:Fw S h h') (hR:∀j∈R,j∉S):SR h' x g vs:=by
 rcases hs with ⟨f1,rfl⟩ | ⟨id,off,aB,es,rfl,h1,h2⟩
 ·exact .inl ⟨_,rfl⟩
 ·rcases hx with ⟨_,_,hx⟩ | ⟨id',_,_,_,hx,hm⟩
  ·cases hx
  ·cases hx
   exact .inr ⟨_,_,_,_,rfl,f.db _ _ h1 (hR _ hm),h2⟩
theorem vi.mono {S R:List Nat} {h h':Hp} {m:Nat} {s:ba} (hs:vi h m s R) (f:Fw S h h') (hm:m∉S) (hR:∀j∈R,j∉S):vi h' m s R:=by
 obtain ⟨xs,h1,h2,h3,h4⟩:=hs
 exact ⟨xs,f.db _ _ h1 hm,fun i hi=> JU (h2 i hi) (h3 i hi) f hR,h3,fun j hj=>⟨f.lt (h4 j hj).1,(h4 j hj).2⟩⟩
theorem vi.app {R:List Nat} {h:Hp} {m:Nat} {s:ba} (hs:vi h m s R) (X:Hp):vi (h++X) m s R:=hs.mono (Fw.app [] h X) (by simp) (by simp)
theorem vi.kY {R:List Nat} {h h':Hp} {m n id:Nat} {s:ba} {q:kK} {x:V} {xs:Nat→V} (hn:n < 16) (h1:h'[m]? =some (.cells (some 78) [.st 78 [.s (.int .i64 s.mem),.s (.int .i64 s.bj),.arr 77 ((eZ s.p xs).set n (.st 75 [.s (.int .i64 q.role),.s (.int .u64 q.au),.s (.int .i64 q.to),x]))]]))
 (h2:∀i,i < 16→SR h (xs i) (some 56) ((s.p i).vs.map ae.enc)) (h3:∀i,i < 16→(∃f l,xs i= .al f (some 56) l)∨∃id off n aB,xs i= .ref id [] (some 56) off n aB∧id∈R) (h4:∀j∈R,j < h.length∧j≠m)
 (hx:SR h' x (some 56) (q.vs.map ae.enc)) (hxr:(∃f l,x= .al f (some 56) l)∨∃off n aB,x= .ref id [] (some 56) off n aB) (hid:id < h'.length∧id≠m) (f:Fw [m] h h'):vi h' m (s.kY n q) (id::R):=by
 refine ⟨fun j=> if j=n then x else xs j,?_,fun i hi=> ?_,fun i hi=> ?_,fun j hj=> ?_⟩
 ·rw[h1]
  have:=vY s.p xs n q x
  simp only[vX] at this
  rw[this]
  rfl
 ·by_cases c:i=n
  ·subst c;simp only[if_true,y0];exact hx
  ·simp only[if_neg c,Bm _ _ _ _ c]
   exact JU (h2 i hi) (h3 i hi) f fun j hj=> by simpa using (h4 j hj).2
 ·by_cases c:i=n
  ·subst c;simp only[if_true]
   rcases hxr with hxr | ⟨off,k,aB,hxr⟩
   ·exact .inl hxr
   ·exact .inr ⟨id,off,k,aB,hxr,by simp⟩
  ·simp only[if_neg c]
   rcases h3 i hi with h | ⟨a,b,c,d,e,g⟩
   ·exact .inl h
   ·exact .inr ⟨a,b,c,d,e,by simp[g]⟩
 ·rcases acQ.1 hj with rfl | hj
  ·exact hid
  ·exact ⟨f.lt (h4 j hj).1,(h4 j hj).2⟩
theorem Fe (b:Nat) (h:Hp) (m:Nat) (s:ba) (R:List Nat) (r:av) (hb:b≤m) (hs:vi h m s R) (hk:jG s) (hw:r.wf) (hv:∀v∈r.ag,v.wf):
 ∃v h',run fns pr b 14 [.ptr m [0] 1,r.enc] h=some (v,h')∧v= .s (.int .i64 (bf s r).1)∧∃R',vi h' m (bf s r).2 R'∧Fw [m] h h'∧∀j∈R',j∈R∨h.length≤j:=by
 have ha0:=fun h=> BE hk (r:=r) h
 have hr0:=fun h=> tN (s:=s) (r:=r) h
 have hrt:=iY r
 have hrs:=iZ r
 refine Vm.ef (nt:=90) rfl UE (by simp) ?_
 generalize hGd:h++[bc.cells (some 59) [r.enc]]=G
 have g0:G[h.length]? =some (bc.cells (some 59) [r.enc]):=by rw[←hGd];simp
 have fG:Fw [] h G:=by rw[←hGd];exact Fw.app [] h _
 have lG:G.length=h.length+1:=by rw[←hGd];simp
 have hsG:vi G m s R:=by rw[←hGd];exact hs.app _
 have vj:=fun b=> Fb b G m s r hsG.st hk hw hv
 obtain ⟨xs,x1,x2,x3,x4⟩:=hsG
 obtain ⟨_,hm0,_⟩:=hs
 have hml:=q6z hm0
 have gm:=sM.o x1 []
 rw[acL] at gm
 have gms:∀B,(G.set m B)[m]? =some B:=fun B=> q9z gm
 have gsh:∀B,(G.set m B)[h.length]? =G[h.length]? :=fun B=> by rw[acp (by omega)]
 rw[g0] at gsh
 have gmX:∀X,(G++X)[m]? =_:=fun X=> sM.o x1 X
 have bR:=q6z gm
 have fE:=eu s.p xs
 have hob:decide (b≤m)=true:=by simpa using hb
 have fset:∀B,Fw [m] G (G.set m (.cells (some 78) B)):=fun B=> Fw.set (by simp) gm
 have fin:∀B,Fw [m] h (G.set m (.cells (some 78) B)):=fun B=>(fG.mono (by simp)).trans (fset B)
 have hRn:∀j∈h.length::R,j∈R∨h.length≤j:=fun j hj=> by rcases acQ.1 hj with rfl | hj;exact .inr (acm _);exact .inl hj
 obtain ⟨kind,aw,cg,au,aq,ag⟩:=r
 simp only[av.enc] at g0 hGd vj hrt hrs gsh
 by_cases c0:bT s ⟨kind,aw,cg,au,aq,ag⟩=0
 case neg=>
   have e:bf s ⟨kind,aw,cg,au,aq,ag⟩=(bT s ⟨kind,aw,cg,au,aq,ag⟩,s):=by unfold bf;rw[if_pos c0]
   rw[e]
   simp only[B14,av.enc,hGd,hrt,hrs,g0,vj,c0,go_sem,↓reduceIte,Nat.reduceEqDiff,Nat.reduceBEq,Nat.reduceAdd,Nat.reduceSub,Nat.reduceLT,Nat.reduceLeDiff,Int.reduceLT,Int.reduceLE,Int.reduceEq,Int.reduceToNat]
   exact ⟨R,⟨xs,x1,x2,x3,x4⟩,fG.mono (by simp),fun j hj=> .inl hj⟩
 have jy:=hr0 c0
 have h0:=ha0 c0
 rw[c0] at vj
 have gi:=jz jy
 by_cases k1:kind=1
 ·subst k1
  have hn:=ie aq.iD
  have hvi:aq.iD.length=4:=hw.aq.iD
  have ok:=hk.p _ hn
  have ks:mg s aq=0:=by
    unfold bT at c0
    rw[if_neg (by simp[jy]),if_pos rfl] at c0
    exact c0
  have iB:aP aq=true:=by unfold aS at jy;rw[if_pos rfl] at jy;simp at jy;simp[jy]
  have hpt:=tM ok.EO iB (Jm hk ks)
  have ea:bf s ⟨1,aw,cg,au,aq,ag⟩=(0,s.kY (az aq.iD) {s.p (az aq.iD) with vs:=eh (s.p (az aq.iD)).vs aq}):=by
    have:(bf s ⟨1,aw,cg,au,aq,ag⟩).2=s.kY (az aq.iD) {s.p (az aq.iD) with vs:=eh (s.p (az aq.iD)).vs aq}:=by
      unfold bf
      rw[if_neg (by simp[c0]),if_pos rfl,hpt]
    rw[←this,←h0]
  rw[ea]
  have pJ:=fun b H=> kf b H aq.iD (by omega)
  have lD:=iP s.p xs _ hn
  have hx:=x2 _ hn
  have hpc:=fun b=> Fc b G (xs (az aq.iD)) (s.p (az aq.iD)).vs aq hx ok.EO (by have:=ok.len;omega)
  have qC:=hx.ty
  have jm:=hx.aA
  generalize hsv:az aq.iD=S at *
  have i0:(0:Int)≤(S:Int):=by omega
  have c16:(S:Int)<((16:Nat):Int):=by omega
  have hvt:=aJ aq
  have p9:=aK aq
  obtain ⟨a1,a2,a3,a4,a5,a6,a7,a8,a9⟩:=aq
  have Bi:ae.enc ⟨a1,a2,a3,a4,a5,a6,a7,a8,a9⟩= .st 56 [.arr 54 (a1.map aa),.s (.int .u64 a2),.arr 27 (a3.map aa),.al false none (a4.map aa),.s (.int .i64 a5),.s (.int .i64 a6),.arr 27 (a7.map aa),.s (.bool a8),.s (.bool a9)]:=rfl
  simp only at hsv pJ
  simp only[Bi] at g0 hGd vj hrt hrs hpc
  simp only[B14,av.enc,Bi,hGd,hrt,hrs,g0,vj,pJ,hsv,lD,fE,i0,c16,hn,gm,qC,jm,hpc,nX,ia,jx,fV,hvt,p9,hob,bR,go_sem,↓reduceIte,Nat.reduceEqDiff,Nat.reduceBEq,Nat.reduceAdd,Nat.reduceSub,Nat.reduceLT,Nat.reduceLeDiff,Int.reduceLT,Int.reduceLE,Int.reduceEq,Int.reduceToNat]
  exact ⟨h.length::R,vi.kY hn (gms _) x2 x3 x4 (.inl ⟨_,rfl⟩) (.inl ⟨_,_,rfl⟩) ⟨by simp[lG],by omega⟩ (fset _),fin _,hRn⟩
 obtain ⟨s0,s16,ep1,ep2,hz⟩:=gi k1
 simp only at s0 s16 ep1 ep2 hz
 obtain ⟨n,rfl⟩:∃n:Nat,aw=(n:Int):=⟨aw.toNat,by omega⟩
 have hn:n < 16:=by omega
 have lD:=iP s.p xs _ hn
 have ok:=hk.p _ hn
 have c16:(n:Int)<((16:Nat):Int):=by omega
 have hx:=x2 _ hn
 have o9:∀y,((eZ s.p xs).set n y)[n]? =some y:=fun y=> by rw[adU (by rw[fE];exact hn)]
 have hsl:∀y,((eZ s.p xs).set n y).length=16:=fun y=> by rw[adz,fE]
 by_cases k2:kind=2
 ·subst k2
  have ea:bf s ⟨2,(n:Nat),cg,au,aq,ag⟩=(0,s.kY n ⟨2,au,cg,(s.p n).vs⟩):=by
    unfold bf
    rw[if_neg (by simp[c0]),if_neg (by simp),if_pos rfl]
    simp only[acC]
  rw[ea]
  simp only[B14,av.enc,hGd,hrt,hrs,g0,vj,lD,fE,s0,c16,hn,gm,hob,bR,o9,hsl,gms,gsh,adf,go_sem,↓reduceIte,Nat.reduceEqDiff,Nat.reduceBEq,Nat.reduceAdd,Nat.reduceSub,Nat.reduceLT,Nat.reduceLeDiff,Int.reduceLT,Int.reduceLE,Int.reduceEq,Int.reduceToNat]
  have aR:=fun B=> JU hx (x3 n hn) (fset B) fun j hj=> by simpa using (x4 j hj).2
  rcases x3 n hn with hxi | ⟨id,off,k,aB,hxi,hxm⟩
  ·exact ⟨h.length::R,vi.kY (q:=⟨2,au,cg,(s.p n).vs⟩) hn (gms _) x2 x3 x4 (aR _) (id:=h.length) (.inl hxi) ⟨by simp[lG],by omega⟩ (fset _),fin _,hRn⟩
  ·exact ⟨id::R,vi.kY (q:=⟨2,au,cg,(s.p n).vs⟩) hn (gms _) x2 x3 x4 (aR _) (id:=id) (.inr ⟨_,_,_,hxi⟩) ⟨by simpa using (x4 id hxm).1,(x4 id hxm).2⟩ (fset _),fin _,fun j hj=> by rcases acQ.1 hj with rfl | hj;exact .inl hxm;exact .inl hj⟩
 by_cases k3:kind=3
 ·subst k3
  have ea:bf s ⟨3,(n:Nat),cg,au,aq,ag⟩=(0,s.kY n ⟨1,au,0,ag⟩):=by
    unfold bf
    rw[if_neg (by simp[c0]),if_neg (by simp),if_neg (by simp),if_pos rfl]
    simp only[acC]
  rw[ea]
  obtain ⟨x',H',k',ap,xr',En,yM,hk3,hk4,hold⟩:=(XR.nil G (some 56) G.length).Mt (n:=G.length) (bytes:=96) (y:= .al false (some 56) (ag.map ae.enc)) (acm _) (acm _) (SR.src (.inl ⟨_,rfl⟩)) (fun z hz=> by obtain ⟨w,_,rfl⟩:=ac6.1 hz;exact sB w) (by have:=lE jy;simp only at this;simp;omega)
  have fH:Fw [] G H':=Fw.xj hk4 fun j B hj=> hold j B (by have:=q6z hj;omega) hj
  have gm':=fH.db _ _ gm (by simp)
  have Be:=q6z gm'
  have g0':=fH.db _ _ g0 (by simp)
  have qC:=xr'.ty.1
  have jm:=xr'.ty.2
  have fset':∀B,Fw [m] G (H'.set m (.cells (some 78) B)):=fun B=>(fH.mono (by simp)).trans (Fw.set (by simp) gm')
  simp only[B14,av.enc,hGd,hrt,hrs,g0,vj,lD,fE,s0,c16,hn,gm,hob,bR,lL,ap,gm',g0',Be,qC,jm,go_sem,↓reduceIte,Nat.reduceEqDiff,Nat.reduceBEq,Nat.reduceAdd,Nat.reduceSub,Nat.reduceLT,Nat.reduceLeDiff,Int.reduceLT,Int.reduceLE,Int.reduceEq,Int.reduceToNat]
  have hm':m≠k':=by omega
  have dE:SR (H'.set m (.cells (some 78) [.st 78 [.s (.int .i64 s.mem),.s (.int .i64 s.bj),.arr 77 ((eZ s.p xs).set n (.st 75 [.s (.int .i64 1),.s (.int .u64 au),.s (.int .i64 0),x']))]])) x' (some 56) (ag.map ae.enc):=by
    have:=(xr'.set hm' (.cells (some 78) [.st 78 [.s (.int .i64 s.mem),.s (.int .i64 s.bj),.arr 77 ((eZ s.p xs).set n (.st 75 [.s (.int .i64 1),.s (.int .u64 au),.s (.int .i64 0),x']))]])).SR
    simpa using this
  rcases xr' with ⟨rfl,_⟩ | ⟨rfl,hxg⟩
  ·exact ⟨h.length::R,vi.kY (q:=⟨1,au,0,ag⟩) hn (q9z gm') x2 x3 x4 dE (id:=h.length) (.inl ⟨_,_,rfl⟩) ⟨by simp;omega,by omega⟩ (fset' _),(fG.mono (by simp)).trans (fset' _),hRn⟩
  ·exact ⟨k'::R,vi.kY (q:=⟨1,au,0,ag⟩) hn (q9z gm') x2 x3 x4 dE (id:=k') (.inr ⟨_,_,_,rfl⟩) ⟨by simpa using q6z hxg,adY hm'⟩ (fset' _),(fG.mono (by simp)).trans (fset' _),fun j hj=> by rcases acQ.1 hj with rfl | hj;exact .inr (by omega);exact .inl hj⟩
 have k4:kind=4:=by
   unfold aS at jy
   simp only[k1,k2,k3,if_false] at jy
   split at jy
   ·assumption
   ·cases jy
 subst k4
 have ea:bf s ⟨4,(n:Nat),cg,au,aq,ag⟩=(0,s.kY n ⟨0,au,0,[]⟩):=by
   unfold bf
   rw[if_neg (by simp[c0]),if_neg (by simp),if_neg (by simp),if_neg (by simp)]
   simp only[acC]
 rw[ea]
 simp only[B14,av.enc,hGd,hrt,hrs,g0,vj,lD,fE,s0,c16,hn,gm,hob,bR,go_sem,↓reduceIte,Nat.reduceEqDiff,Nat.reduceBEq,Nat.reduceAdd,Nat.reduceSub,Nat.reduceLT,Nat.reduceLeDiff,Int.reduceLT,Int.reduceLE,Int.reduceEq,Int.reduceToNat]
 exact ⟨h.length::R,vi.kY (q:=⟨0,au,0,[]⟩) hn (gms _) x2 x3 x4 (.inl ⟨_,rfl⟩) (.inl ⟨_,_,rfl⟩) ⟨by simp[lG],by omega⟩ (fset _),fin _,hRn⟩
theorem Ff (b:Nat) (h:Hp) (f:Bool) (v:ae) (hw:v.wf) (hs:v.cx.length≤100000) (hg:v.mY=true→v.gone=true):
 run fns pr b 47 [v.ek f] h=some (.al false none ((aT v).map aa),h):=by
 refine Vm.aQ (nt:=46) rfl VK (by simp) ?_
 obtain ⟨w1,w2,w3,w4,w5,w6,w7,w8,w9⟩:=hw
 obtain ⟨id,ge,mX,se,li,us,ow,go,wi⟩:=v
 simp only at w1 w2 w3 w4 w5 w6 w7 hs hg
 obtain ⟨g,rfl⟩:∃g:Nat,ge=(g:Int):=⟨ge.toNat,by omega⟩
 have l1:(id.map aa).length=4:=by simp[w1]
 have l2:(mX.map aa).length=16:=by simp[w3]
 have l3:(ow.map aa).length=16:=by simp[w7]
 generalize hGd:h++[bc.cells (some 56) [V.st 56 [.arr 54 (id.map aa),.s (.int .u64 (g:Int)),.arr 27 (mX.map aa),.al f none (se.map aa),.s (.int .i64 li),.s (.int .i64 us),.arr 27 (ow.map aa),.s (.bool go),.s (.bool wi)]]]=G
 have g0:G[h.length]? =some (bc.cells (some 56) [V.st 56 [.arr 54 (id.map aa),.s (.int .u64 (g:Int)),.arr 27 (mX.map aa),.al f none (se.map aa),.s (.int .i64 li),.s (.int .i64 us),.arr 27 (ow.map aa),.s (.bool go),.s (.bool wi)]]):=by rw[←hGd];simp
 have fG:Fw [] h G:=by rw[←hGd];exact Fw.app [] h _
 have mG:=fG.len
 have s1:source G (.ref h.length [0,0] none 0 4 1)=some (none,id.map aa):=(Rd.mk' (by simp only[cK,go_sem,↓reduceIte,Nat.reduceEqDiff,Nat.reduceBEq,Nat.reduceAdd,Nat.reduceSub,Nat.reduceLT,Nat.reduceLeDiff,Int.reduceLT,Int.reduceLE,Int.reduceEq,Int.reduceToNat,acs,aco,Vm.aM,Vm.bN,Vm.bh,Vm.aX,Vm.bw,Vm.bb,acm,acS,g0,dP,ac2,ack (aec l1)]) (by simp[fj,w1])).source
 obtain ⟨v1,H1,a1,N1⟩:=(jl.nil G).app s1 (by simp;omega)
 have n1:=tU h.length H1 g (by omega) (by have:=N1.fw.len;omega)
 have g1:=N1.fw.db _ _ g0 (by simp)
 obtain ⟨v2,H2,a2,N2⟩:=(N1.mono (Fw.app [] H1 [.cells none ((bu g).map aa)])).app (y:= .ref H1.length [] none 0 8 8) (m:=bu g) (BR.src (di (aH _ _) (bx _))) (by simp;omega)
 have g2:=N2.fw.db _ _ g0 (by simp)
 have wr:IntKind.u8.wrap (1+2)=3:=by decide
 have l4:[bt se.length].length=1:=rfl
 obtain ⟨q,hq⟩:∃q,q=bt se.length:=⟨_,rfl⟩
 have key:∀(fl:UInt8) (x:V),aa fl=x→∃v3 H3 v4 H4 v5 H5 v6 H6 v7 H7,(∀cf base,aC cf base (H2++[.cells none [x,aa (bt li),aa (bt us)]]) (.app none 1) [v2,.ref H2.length [] none 0 3 3]=some (v3,H3))∧
  (∀cf base,aC cf base H3 (.app none 1) [v3,.ref h.length [0,2] none 0 16 1]=some (v4,H4))∧(∀cf base,aC cf base H4 (.app none 1) [v4,.ref h.length [0,6] none 0 16 1]=some (v5,H5))∧
  (∀cf base,aC cf base (H5++[.cells none [aa q]]) (.app none 1) [v5,.ref H5.length [] none 0 1 1]=some (v6,H6))∧(∀cf base,aC cf base H6 (.app none 1) [v6,.al f none (se.map aa)]=some (v7,H7))∧
  H3[h.length]? =G[h.length]?∧H4[h.length]? =G[h.length]?∧H5[h.length]? =G[h.length]?∧H6[h.length]? =G[h.length]?∧bA h.length H7 v7=some (.al false none ((id++(bu g++([fl,bt li,bt us]++(mX++(ow++([q]++se)))))).map aa))∧H7.take h.length=h:=by
   rintro fl x rfl
   obtain ⟨v3,H3,a3,N3⟩:=(N2.mono (Fw.app [] H2 [.cells none ([fl,bt li,bt us].map aa)])).app (y:= .ref H2.length [] none 0 3 3) (m:=[fl,bt li,bt us]) (BR.src (di (aH _ _) rfl)) (by simp;omega)
   have g3:=N3.fw.db _ _ g0 (by simp)
   have s4:source H3 (.ref h.length [0,2] none 0 16 1)=some (none,mX.map aa):=(Rd.mk' (by simp only[cK,go_sem,↓reduceIte,Nat.reduceEqDiff,Nat.reduceBEq,Nat.reduceAdd,Nat.reduceSub,Nat.reduceLT,Nat.reduceLeDiff,Int.reduceLT,Int.reduceLE,Int.reduceEq,Int.reduceToNat,acs,aco,Vm.aM,Vm.bN,Vm.bh,Vm.aX,Vm.bw,Vm.bb,acm,acS,g3,dP,ac2,ack (aec l2)]) (by simp[fj,w3])).source
   obtain ⟨v4,H4,a4,N4⟩:=N3.app s4 (by simp;omega)
   have g4:=N4.fw.db _ _ g0 (by simp)
   have s5:source H4 (.ref h.length [0,6] none 0 16 1)=some (none,ow.map aa):=(Rd.mk' (by simp only[cK,go_sem,↓reduceIte,Nat.reduceEqDiff,Nat.reduceBEq,Nat.reduceAdd,Nat.reduceSub,Nat.reduceLT,Nat.reduceLeDiff,Int.reduceLT,Int.reduceLE,Int.reduceEq,Int.reduceToNat,acs,aco,Vm.aM,Vm.bN,Vm.bh,Vm.aX,Vm.bw,Vm.bb,acm,acS,g4,dP,ac2,ack (aec l3)]) (by simp[fj,w7])).source
   obtain ⟨v5,H5,a5,N5⟩:=N4.app s5 (by simp;omega)
   have g5:=N5.fw.db _ _ g0 (by simp)
   obtain ⟨v6,H6,a6,N6⟩:=(N5.mono (Fw.app [] H5 [.cells none ([q].map aa)])).app (y:= .ref H5.length [] none 0 1 1) (m:=[q]) (BR.src (di (aH _ _) rfl)) (by simp;omega)
   have g6:=N6.fw.db _ _ g0 (by simp)
   obtain ⟨v7,H7,a7,N7⟩:=N6.app (dp H6 f se).src (by simp;omega)
   have hz:=N7.oy (n:=h.length) mG
   refine ⟨v3,H3,v4,H4,v5,H5,v6,H6,v7,H7,a3,a4,a5,a6,a7,g3.trans g0.symm,g4.trans g0.symm,g5.trans g0.symm,g6.trans g0.symm,?_,(fG.trans N7.fw).take⟩
   simpa only[ac1,acs] using hz
 have fin:∀(fl:UInt8) (x:V) (go wi:Bool),aa fl=x→tq ⟨id,g,mX,se,li,us,ow,go,wi⟩=fl→(id++(bu g++([fl,bt li,bt us]++(mX++(ow++([q]++se))))))=aT ⟨id,g,mX,se,li,us,ow,go,wi⟩:=by
   rintro fl x go wi _ rfl
   rw[hq];rfl
 cases wi with
 | true=>
   obtain rfl:=hg rfl
   obtain ⟨v3,H3,v4,H4,v5,H5,v6,H6,v7,H7,a3,a4,a5,a6,a7,g3,g4,g5,g6,fz,tk⟩:=key 3 _ rfl
   rw[g0] at g3 g4 g5 g6
   have gX:=fun X=> q10z g5 X
   rw[show aa 3= .s (.int .u8 3) from rfl] at a3
   rw[fin 3 _ true true rfl rfl] at fz
   simp only[B47,ae.ek,l1,l2,l3,lz,←hq,lL,hGd,g0,a1,g1,n1,a2,g2,wr,a3,g3,a4,g4,a5,g5,gX,a6,g6,a7,fz,tk,go_sem,↓reduceIte,Nat.reduceEqDiff,Nat.reduceBEq,Nat.reduceAdd,Nat.reduceSub,Nat.reduceLT,Nat.reduceLeDiff,Int.reduceLT,Int.reduceLE,Int.reduceEq,Int.reduceToNat]
 | false=>
   cases go with
   | true=>
     obtain ⟨v3,H3,v4,H4,v5,H5,v6,H6,v7,H7,a3,a4,a5,a6,a7,g3,g4,g5,g6,fz,tk⟩:=key 1 _ rfl
     rw[g0] at g3 g4 g5 g6
     have gX:=fun X=> q10z g5 X
     rw[show aa 1= .s (.int .u8 1) from rfl] at a3
     rw[fin 1 _ true false rfl rfl] at fz
     simp only[B47,ae.ek,l1,l2,l3,lz,←hq,lL,hGd,g0,a1,g1,n1,a2,g2,wr,a3,g3,a4,g4,a5,g5,gX,a6,g6,a7,fz,tk,go_sem,↓reduceIte,Nat.reduceEqDiff,Nat.reduceBEq,Nat.reduceAdd,Nat.reduceSub,Nat.reduceLT,Nat.reduceLeDiff,Int.reduceLT,Int.reduceLE,Int.reduceEq,Int.reduceToNat]
   | false=>
     obtain ⟨v3,H3,v4,H4,v5,H5,v6,H6,v7,H7,a3,a4,a5,a6,a7,g3,g4,g5,g6,fz,tk⟩:=key 0 _ rfl
     rw[g0] at g3 g4 g5 g6
     have gX:=fun X=> q10z g5 X
     rw[show aa 0= .s (.int .u8 0) from rfl] at a3
     rw[fin 0 _ false false rfl rfl] at fz
     simp only[B47,ae.ek,l1,l2,l3,lz,←hq,lL,hGd,g0,a1,g1,n1,a2,g2,wr,a3,g3,a4,g4,a5,g5,gX,a6,g6,a7,fz,tk,go_sem,↓reduceIte,Nat.reduceEqDiff,Nat.reduceBEq,Nat.reduceAdd,Nat.reduceSub,Nat.reduceLT,Nat.reduceLeDiff,Int.reduceLT,Int.reduceLE,Int.reduceEq,Int.reduceToNat]
theorem jl.M9 {h H:Hp} {v y:V} {l m:Bs} (hn:jl h H v l) (hs:source H y=some (none,m.map aa)) (hl:l.length+m.length≤140737488355328):
 ∃v' H',(∀cf base,aC cf base H (.app none 1) [v,y]=some (v',H'))∧jl h H' v' (l++m)∧∀(j g:Nat) es,H[j]? =some (.cells (some g) es)→H'[j]? =some (.cells (some g) es):=by
 obtain ⟨k,x,hk,f⟩:=hn
 by_cases cC:m=[]
 ·subst cC
  exact ⟨v,H,fun cf base=> g9 hs x.SR.len,by rw[acL];exact ⟨k,x,hk,f⟩,fun j g es h=> h⟩
 ·have YI:m.map aa≠[]:=by simpa using cC
  have hma:∀base,∀z∈m.map aa,bQ base k z=true:=fun base z h=> by obtain ⟨b,_,rfl⟩:=ac6.1 h;simp[bQ,show (aa b).ground=true from rfl]
  rcases x with ⟨rfl,hv⟩ | ⟨rfl,h1⟩
  ·have Ew:l=[]:=by simpa using hv
   subst Ew
   exact ⟨_,H++[.cells none (m.map aa)],fun cf base=> ig hs YI (by simpa using hl),⟨H.length,.inr ⟨by simp,aH _ _⟩,f.len,f.trans (Fw.app [] _ _)⟩,fun j g es h=> q10z h _⟩
  ·refine ⟨_,H.set k (.cells none (l.map aa++m.map aa)),fun cf base=> fM h1 hs YI (hma base) (by simpa using hl),⟨k,.inr ⟨by simp,by rw[q9z h1,adm]⟩,hk,f.cP hk _⟩,fun j g es h=> ?_⟩
   rw[acp (fun e=> by subst e;rw[h1] at h;cases h)];exact h
theorem zf {v:ae} (h:aP v=true):v.mY=true→v.gone=true:=by
 unfold aP at h
 cases hg:v.gone <;> cases hw:v.mY <;> simp_all
theorem wc (b:Nat) (h:Hp) (m:Nat) (s:ba) (hs:sM h m s) (hk:jG s):run fns pr b 17 [.ptr m [0] 1] h=some (.al false none ((gD s).map aa),h):=by
 refine Vm.aQ (nt:=63) rfl UK (by simp) ?_
 have N0:jl h (h++[.cells none [aa (bt s.mem),aa (bt s.bj)]]) (.ref h.length [] none 0 2 2) ([bt s.mem,bt s.bj]++eB s 0):=⟨h.length,.inr ⟨rfl,aH _ _⟩,acm _,Fw.app _ _ _⟩
 obtain ⟨xs,x1,x2⟩:=hs
 have gm0:=sM.o x1 []
 rw[acL] at gm0
 have fE:=eu s.p xs
 simp only[B17,OZ,OY,OX,gm0,lz,go_sem,simprocAttr]
 refine aV (fun q e H=>∃(i:Nat) (v:V),q=16 - i∧i≤16∧e 4= .s (.int .i64 (i:Nat))∧e 0= .ptr m [0] 1∧e 3=v∧jl h H v ([bt s.mem,bt s.bj]++eB s i))
   (fun e H=>∃v,e 3=v∧jl h H v ([bt s.mem,bt s.bj]++eB s 16)) 16 _ _ ⟨0,_,rfl,by omega,rfl,rfl,rfl,N0⟩ ?_ ?_
 ·rintro q e H ⟨i,v,rfl,hi,e4,e0,e3,N⟩
  by_cases cd:i < 16
  ·have cj:(i:Int)< 16:=by omega
   have c16:(i:Int)<((16:Nat):Int):=by omega
   have i0:(0:Int)≤(i:Int):=by omega
   have w3:IntKind.i64.wrap ((i:Int)+1)=((i+1:Nat):Int):=q18z (by omega)
   have ok:=hk.p i cd
   have hpb:=q36z hk i (by omega)
   have sI:=q34z (l:=(s.p i).vs) fun v hv=>⟨(ok.vs v hv).1,(ok.vs v hv).2.1⟩
   have ho4:=ok.len
   have gm:=N.fw.db _ _ gm0 (by simp)
   have lD:=iP s.p xs i cd
   have hx0:=x2 i cd
   have hx:=(x2 i cd).fw N.fw
   have qC:=hx.ty
   have jm:=hx.aA
   generalize xs i=x at *
   obtain ⟨ep,hep⟩:∃n:Nat,(s.p i).au=n:=⟨(s.p i).au.toNat,by have:=ok.e1;omega⟩
   have Sd:ep < 18446744073709551616:=by have:=ok.e2;omega
   have hle:=N.fw.len
   obtain ⟨P,hP⟩:∃P,bc.cells (some 75) [.st 75 [.s (.int .i64 (s.p i).role),.s (.int .u64 (s.p i).au),.s (.int .i64 (s.p i).to),x]]=P:=⟨_,rfl⟩
   have gp0:(H++[P])[H.length]? =some P:=aH _ _
   obtain ⟨v1,H1,a1,N1,k1⟩:=(N.mono (Fw.app [] H [P])).M9 (y:= .al true none [aa (bt (s.p i).role)]) (m:=[bt (s.p i).role]) rfl (by simp;omega)
   have gp1:H1[H.length]? =some P:=by have:=k1 H.length _ _ (by rw[hP];exact gp0);rw[hP] at this;exact this
   have vf:h.length≤H1.length:=N1.fw.len
   have n1:=tU h.length H1 ep Sd vf
   obtain ⟨v2,H2,a2,N2,k2⟩:=(N1.mono (Fw.app [] H1 [.cells none ((bu ep).map aa)])).M9 (y:= .ref H1.length [] none 0 8 8) (m:=bu ep) (BR.src (di (by simp) (bx _))) (by simp;omega)
   have gpN:(H1++[.cells none ((bu ep).map aa)])[H.length]? =some P:=q10z gp1 _
   have gp2:H2[H.length]? =some P:=by have:=k2 H.length _ _ (by rw[hP];exact gpN);rw[hP] at this;exact this
   obtain ⟨v3,H3,a3,N3,k3⟩:=N2.M9 (y:= .al true none [aa (bt (s.p i).to),aa (bt (s.p i).vs.length)]) (m:=[bt (s.p i).to,bt (s.p i).vs.length]) rfl (by simp;omega)
   have gp3:H3[H.length]? =some P:=by have:=k3 H.length _ _ (by rw[hP];exact gp2);rw[hP] at this;exact this
   have dQ:∀cf base H,aC cf base H .len [x]=some (.s (.int .i64 ((s.p i).vs.length:Nat)),H):=fun cf base H=> by rw[hx.bU];simp
   have hx':∀T,Fw [] H T→SR T x (some 56) ((s.p i).vs.map ae.enc):=fun T f=> hx.fw f
   generalize hqe:H.length=pid at *
   rw[hep] at lD hP
   subst hP
   simp only[e4,e0,e3,cj,c16,i0,gm,fE,lD,hqe,qC,jm,lz,gp0,a1,gp1,n1,gpN,a2,gp2,dQ,a3,gp3,hle,or_true,go_sem,simprocAttr]
   obtain ⟨L0,hL,hLl,N4⟩:∃L,L++(s.p i).vs.flatMap aT=([bt s.mem,bt s.bj]++eB s (i+1))∧L.length≤459 * i+20∧jl h H3 v3 L:=⟨_,by rw[nk,mK,show (s.p i).au.toNat=ep by omega];simp,by have:=bx ep;simp;omega,N3⟩
   obtain ⟨VS,hVS⟩:∃VS,(s.p i).vs=VS:=⟨_,rfl⟩
   have hov:=ok.vs
   rw[hVS] at hL hx0 hov ho4 dQ sI
   refine aV (fun q e H'=>∃(j:Nat) (v:V),q=VS.length - j∧j≤VS.length∧e 6= .s (.int .i64 (j:Nat))∧e 5= .ptr pid [0] 1∧e 4= .s (.int .i64 (i:Nat))∧e 0= .ptr m [0] 1∧e 3=v∧jl h H' v (L0++(VS.take j).flatMap aT)∧H'[pid]? =some (.cells (some 75) [.st 75 [.s (.int .i64 (s.p i).role),.s (.int .u64 ep),.s (.int .i64 (s.p i).to),x]]))
     (fun e H'=>∃v,e 4= .s (.int .i64 (i:Nat))∧e 0= .ptr m [0] 1∧e 3=v∧jl h H' v (L0++VS.flatMap aT)) VS.length _ _ ⟨0,v3,rfl,by omega,rfl,rfl,e4,e0,rfl,by simpa using N4,gp3⟩ ?_ ?_
   ·rintro q' e' H' ⟨j,v',rfl,hj,f6,f5,f4,f0,f3,N,gp⟩
    have hxh:=hx0.fw N.fw
    by_cases cv:j < VS.length
    ·have cv':(j:Int)<(VS.length:Nat):=by omega
     have wj:IntKind.i64.wrap ((j:Int)+1)=((j+1:Nat):Int):=q18z (by omega)
     have hy:VS[j]? =some VS[j]:=aci cv
     have hvo:=hov VS[j] (ac3 cv)
     have hts:VS.take (j+1)=VS.take j++[VS[j]]:=by rw[acT cv]
     have tF:((VS.take j).flatMap aT).length≤112 * j:=by
       have:=q34z (l:=VS.take j) fun v hv=>⟨(hov v (acA hv)).1,(hov v (acA hv)).2.1⟩
       rw[acI] at this;omega
     generalize VS[j]=y at hy hvo hts
     have ED:=q35z hvo.2.1 hvo.1
     have iB:run fns pr h.length 47 [y.enc] H'=some (.al false none ((aT y).map aa),H'):=Ff h.length H' false y hvo.2.1 (by have:=q14z hvo.1;omega) (zf hvo.1)
     have i1:=hxh.ck (cf:=run fns pr h.length) (base:=h.length) (k:= .i64) (i:=j) (by simpa using cv)
     have i2:=hxh.fL (cf:=run fns pr h.length) (base:=h.length) (i:=j) (v:=y.enc) (by simp[hy]) rfl
     obtain ⟨v5,H5,a5,N5,k5⟩:=N.M9 (y:= .al false none ((aT y).map aa)) (m:=aT y) rfl (by rw[aco];omega)
     have gp5:=k5 pid _ _ gp
     simp only[f6,f5,f4,f0,f3,gp,qC,jm,dQ,cv',i1,i2,iB,a5,wj,go_sem,simprocAttr]
     exact ⟨_,by omega,j+1,v5,rfl,by omega,rfl,rfl,by rw[hts,aei,←List.append_assoc];simpa using N5,gp5⟩
    ·have cv':¬(j:Int)<(VS.length:Nat):=by omega
     simp only[f6,f5,f4,f0,f3,gp,qC,jm,dQ,cv',go_sem,simprocAttr]
     rw[ack (by omega)] at N
     exact ⟨v',rfl,N⟩
   ·rintro e' H' ⟨v',f4,f0,f3,N⟩
    rw[hL] at N
    simp only[f4,f0,f3,w3,go_sem,simprocAttr]
    exact ⟨_,by omega,i+1,v',rfl,by omega,rfl,rfl,N⟩
  ·have cj:¬(i:Int)< 16:=by omega
   obtain rfl:i=16:=by omega
   simp only[e4,e0,e3,cj,go_sem,simprocAttr]
   exact ⟨v,rfl,N⟩
 ·rintro e H ⟨v,e3,N⟩
  have dt:=N.oy (n:=h.length) (by simp)
  have fk:=N.fw.take
  simp only[e3,dt,fk,gD,go_sem,simprocAttr]
theorem BF (v:ae) (hw:v.wf) (hr:aP v=true) (rest:Bs):cy (aT v++rest)=(v,((aT v).length:Int),0):=by
 have h:=tR v hw hr rest false
 unfold cy
 rw[h]
 simp only[acz,if_false]
 rw[aco,afm]
theorem we (l:List ae) (h:∀v∈l,aP v=true∧v.wf) (rest:Bs):∀n,n≤l.length→dz n (l.flatMap aT++rest)=some (l.take n,(l.drop n).flatMap aT++rest)
 | 0,_=> rfl
 | n+1,hn=> by
   have ih:=we l h rest n (by omega)
   have hd:l.drop n=l[n]::l.drop (n+1):=adh (by omega)
   obtain ⟨h1,h2⟩:=h _ (ac3 (show n < l.length by omega))
   rw[dz,ih,hd,aeJ,acs]
   have ht:=BF l[n] h2 h1 ((l.drop (n+1)).flatMap aT++rest)
   simp only[ht,acC,aeP,ne_eq,not_true_eq_false,if_false,acT (show n < l.length by omega)]
theorem Na {s:ba} {i:Nat} {q:kK} (h:POk s i q) (rest:Bs) (hs:s.bj≤8∧0≤s.mem):oR (mK q++rest)=some (q,rest):=by
 obtain ⟨role,au,to,vs⟩:=q
 obtain ⟨a1,a2,a3,a4,a5,a6,a7,a8,a9⟩:=h
 simp only at a1 a2 a3 a4 a5 a6 a7 a8 a9
 have r1:(((bt role).toNat:Nat):Int)=role:=jI (by omega) (by omega)
 have r2:(((bt to).toNat:Nat):Int)=to:=jI (by rcases a1 with h | h | h <;> first | (have:=a5 (by omega);omega) | (have:=a4 h;omega)) (by rcases a1 with h | h | h <;> first | (have:=a5 (by omega);omega) | (have:=a4 h;omega))
 have r3:(bt (vs.length:Int)).toNat=vs.length:=by have:=jI (n:=(vs.length:Int)) (by omega) (by omega);omega
 have r4:((j9 (bu au.toNat):Nat):Int)=au:=by rw[nm _ (by omega)];omega
 have hv:=we vs (fun v hv=>⟨(a9 v hv).1,(a9 v hv).2.1⟩) rest vs.length (acm _)
 rw[adN,aeR,afA,ac1] at hv
 obtain ⟨n,hn⟩:∃n,bu au.toNat=n:=⟨_,rfl⟩
 have mU:n.length=8:=by rw[←hn];exact bx _
 rw[hn] at r4
 match n,mU with
 | [n0,n1,n2,n3,n4,n5,n6,n7],_=>
   unfold oR mK
   simp only[hn,ade,ac1,acs]
   rw[if_neg (by simp)]
   simp only[List.getD_cons_zero,List.getD_cons_succ,afg,ac2,r3,hv,adV,aex,r1,r2]
   rw[r4]
def nq (s:ba) (n:Nat):Bs:=(List.range (16 - n)).flatMap fun i=> mK (s.p (n+i))
theorem zg (s:ba):nq s 0=eB s 16:=by simp[nq,eB]
theorem zh (s:ba) (n:Nat) (h:n < 16):nq s n=mK (s.p n)++nq s (n+1):=by
 unfold nq
 rw[show 16 - n=(16 - (n+1))+1 by omega,List.range_succ_eq_map,aeJ,List.flatMap_map]
 have hf:(fun i=> mK (s.p (n+(i+1))))=fun i=> mK (s.p (n+1+i)):=funext fun i=> by rw[show n+(i+1)=n+1+i by omega]
 simp only[aeC,Nat.succ_eq_add_one]
 rw[hf]
theorem Fg (s t:ba) (n:Nat):(kL s t n).kY n (s.p n)=kL s t (n+1):=by
 simp only[kL,ba.kY,ba.mk.injEq,true_and]
 funext j
 by_cases h:j=n
 ·subst h;simp
 ·simp only[h,if_false]
  by_cases h1:j < n
  ·simp[h1,show j < n+1 by omega]
  ·simp[h1,show ¬j < n+1 by omega]
theorem Dq {s:ba} (hk:jG s):∀n,n≤16→lJ (kL s (ba.new s.mem s.bj) 0) (nq s 0) n=some (kL s (ba.new s.mem s.bj) n,nq s n)
 | 0,_=> rfl
 | n+1,hn=> by
   have ih:=Dq hk n (by omega)
   have ok:=hk.p n (by omega)
   have hp:=Na ok (nq s (n+1)) ⟨hk.m2,hk.m3⟩
   have aR:oG (kL s (ba.new s.mem s.bj) n) n (s.p n)=(0,kL s (ba.new s.mem s.bj) (n+1)):=by
     unfold oG;rw[if_pos (ok.right (t:=kL s (ba.new s.mem s.bj) n) rfl rfl),Fg]
   rw[lJ,ih,zh s n (by omega)]
   simp only[hp,aR,ne_eq,not_true_eq_false,if_false]
def beyond (s:ba):Prop:=∀j,16≤j→s.p j=(ba.new s.mem s.bj).p j
theorem YJ {s:ba} (hk:jG s) (hb:beyond s):ofI s.mem s.bj (gD s)=some s:=by
 have h1:=Dq hk 16 (acm _)
 have h0:kL s (ba.new s.mem s.bj) 0=ba.new s.mem s.bj:=by simp[kL,ba.new]
 have h16:kL s (ba.new s.mem s.bj) 16=s:=by
   obtain ⟨m,ms,p⟩:=s
   simp only[kL,ba.mk.injEq,true_and]
   funext j
   by_cases h:j < 16
   ·simp[h]
   ·simp only[h,if_false]
    exact (hb j (by omega)).symm
 rw[h0,h16,zg] at h1
 have hr:vW s.mem s.bj (gD s)=some s:=by
   unfold vW
   rw[if_neg (by simp[gD])]
   have:(gD s).drop 2=eB s 16:=by simp[gD]
   rw[this,h1]
   rfl
 unfold ofI
 rw[hr]
 simp
theorem mi {s:ba} (hb:beyond s) {n:Nat} (hn:n < 16) (q:kK):beyond (s.kY n q):=fun j hj=> by
 rw[Bm _ _ _ _ (by omega)]
 exact hb j hj
theorem xD {s:ba} (hb:beyond s) {r:av}:beyond (bf s r).2:=by
 unfold bf
 by_cases c0:bT s r=0
 case neg=> rw[if_pos c0];exact hb
 rw[if_neg (by simp[c0])]
 have hr:=tN c0
 by_cases k1:r.kind=1
 ·rw[if_pos k1];exact mi hb (ie _) _
 ·rw[if_neg k1]
  have:=jz hr k1
  split
  ·exact mi hb (by omega) _
  ·split
   ·exact mi hb (by omega) _
   ·exact mi hb (by omega) _
theorem JV {s:ba} (hk:jG s):(gD s).length≤8184:=by
 have:=q36z hk 16 (acm _)
 simp only[gD,aco,acR,ada];omega
theorem HD.fold {key:Bs} {K:Dk} {r:ah} {S:ba} {l:Bs} (hw:r.wf) (hr:bm r=true) (hc:r.base < r.count) (hk:jG S) (hb:beyond S)
 (hl:l=(kM key r (gD S)).1) (hg:K.get (1 - r.aG)=some l):HD S.mem S.bj key K (iN r (cV l)).1 S∧(iN r (cV l)).2=true∧(iN r (cV l)).1=⟨r.bD,r.count,r.count,cV l,1 - r.aG⟩:=by
 have Br:=q11z hr
 have him:=JV hk
 have CY:l=mE key r.count.toNat nj (gD S):=by rw[hl];unfold kM;rw[if_neg (by omega)]
 have nr:bm ⟨r.bD,r.count,r.count,cV l,1 - r.aG⟩=true:=by
   unfold bm
   simp only[acn,adg,decide_eq_true_eq]
   have:=hw.base
   exact ⟨⟨⟨⟨⟨by omega,by omega⟩,by omega⟩,by omega⟩,by omega⟩,.inl (by omega)⟩
 have hf:iN r (cV l)=(⟨r.bD,r.count,r.count,cV l,1 - r.aG⟩,true):=by
   unfold iN xw
   rw[if_neg (by omega),if_pos ⟨hr,nr⟩]
 rw[hf]
 refine ⟨⟨gD S,cV l,[],S,?_,?_,?_,rfl⟩,rfl,rfl⟩
 ·unfold jh
  simp only
  have:=hw.base
  rw[if_neg (by omega),hg,CY]
  simp only[wb key r.count.toNat nj (gD S) him (by decide)]
 ·have hh:bz ⟨r.bD,r.count,r.count,cV l,1 - r.aG⟩=0:=by rw[q19z nr];simp
  rw[hh];rfl
 ·have:=hw.base
  rw[if_pos (by simp only;omega)]
  exact YJ hk hb
end Go.Proofs.YthplailfedobeaaGreat
