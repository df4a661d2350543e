/- Texts for DeskTwice, part 4. Conditions: none. -/
import Derived.Test.YtggjbepemdhohaaGreatCTc
set_option linter.unusedSimpArgs false
set_option linter.unusedVariables false
set_option linter.unusedSectionVars false
namespace Go.Proofs.YtggjbepemdhohaaGreat
open Go Go.Vm Go.Proofs Go.Cl
theorem Mp {l:List ae} {id:Bs} {v:ae} (h:ec l id=some v):v.iD=id∧v∈l:=by
 unfold ec at h
 split at h
 ·rename_i hc
  rw[h] at hc
  exact ⟨by simpa using hc,abS h⟩
 ·cases h
theorem AZ {L:List ae} (hr:fZ L) {j:Nat} {w:ae} {id:Bs} (h:L[j]? =some w) (hw:w.iD=id):ec L id=some w:=by
 have:=pos_eq hr h hw
 unfold ec
 rw[this,h]
 simp[hw]
theorem IU {l:List ae} (hr:fZ l) {v:ae} (hv:v∈l):ec l v.iD=some v:=by
 obtain ⟨j,hj⟩:=List.getElem?_of_mem hv
 exact AZ hr hj rfl
theorem te {l:List ae} {v:ae} (hr:fZ l) (hv:aN v=true) (hc:ec l v.iD=none→l.length < 4):(pv l v).2=il l v:=by
 refine yH hr ?_
 unfold pv
 rw[if_neg (by simp[hv])]
 by_cases c:(l[pos l v.iD]?).map ae.iD=some v.iD
 ·rw[if_pos c]
 ·rw[if_neg c,if_neg ?_]
  have:ec l v.iD=none:=by unfold ec;rw[if_neg c]
  have:=hc this
  omega
theorem oM {l:List ae} (v w:ae):w∈il l v↔w=v∨w∈l∧w.iD≠v.iD:=by
 simp only[il,ab6,aeZ,ad7,decide_eq_true_eq]
 constructor
 ·rintro ((⟨h1,h2⟩ | h) | ⟨h1,h2⟩)
  ·exact .inr ⟨h1,fun e=> by rw[e,jq] at h2;omega⟩
  ·exact .inl h
  ·exact .inr ⟨h1,fun e=> by rw[e,jq] at h2;omega⟩
 ·rintro (h | ⟨h1,h2⟩)
  ·exact .inl (.inr h)
  ·by_cases h3:cN w.iD v.iD < 0
   ·exact .inl (.inl ⟨h1,h3⟩)
   ·refine .inr ⟨h1,?_⟩
    have:cN w.iD v.iD≠0:=fun e=> h2 (mP _ _ e)
    omega
theorem A0 {l:List ae} (hr:fZ l):(l.map ae.iD).Nodup:=by
 rw[List.nodup_iff_pairwise_ne,List.pairwise_map]
 exact hr.imp fun {a b} h e=> by rw[e,jq] at h;omega
theorem IV {l m:List Bs}:l.Nodup→(∀x∈l,x∈m)→l.length≤m.length:=by
 induction l generalizing m with
 | nil=> intro _ _;exact aeb _
 | cons a l ih=>
   intro hn hs
   obtain ⟨h1,h2⟩:=List.nodup_cons.1 hn
   have ha:=hs a (by simp)
   have:=ih (m:=m.erase a) h2 fun x hx=> by
     have da:x≠a:=fun e=> h1 (e ▸ hx)
     exact (List.mem_erase_of_ne da).2 (hs x (by simp[hx]))
   rw[List.length_erase_of_mem ha] at this
   have:=List.length_pos_of_mem ha
   simp only[ab3];omega
theorem A1 {l:List ae} (hr:fZ l) (v:ae) (hc:ec l v.iD=none→l.length < 4) (h4:l.length≤4):(il l v).length≤4:=by
 have hn:=A0 (sY hr v)
 by_cases hg:ec l v.iD=none
 ·have h1:=hc hg
  have:=IV (m:=v.iD::l.map ae.iD) hn fun x hx=> by
    obtain ⟨w,hw,rfl⟩:=acF.1 hx
    rcases (oM v w).1 hw with rfl | ⟨h,_⟩
    ·simp
    ·simp only[ack,acF];exact .inr ⟨w,h,rfl⟩
  simp at this;omega
 ·obtain ⟨w,hw⟩:=Option.ne_none_iff_exists'.1 hg
  obtain ⟨pd,Cp⟩:=Mp hw
  have:=IV (m:=l.map ae.iD) hn fun x hx=> by
    obtain ⟨u,hu,rfl⟩:=acF.1 hx
    rcases (oM v u).1 hu with rfl | ⟨h,_⟩
    ·rw[←pd];exact acF.2 ⟨w,Cp,rfl⟩
    ·exact acF.2 ⟨u,h,rfl⟩
  simp at this;omega
theorem tf (s:bF) (n:Nat) (q:pw):(s.pU n q).p n=q:=by simp[bF.pU]
theorem IW (s:bF) (n j:Nat) (q:pw) (h:j≠n):(s.pU n q).p j=s.p j:=by simp[bF.pU,h]
theorem mQ.pU {s:bF} (hk:mQ s) {n:Nat} {q:pw} (hq:n < 16→POk s n q):mQ (s.pU n q):=
 ⟨hk.m1,hk.m2,hk.m3,hk.m4,fun i hi=> by
   by_cases h:i=n
   ·subst h
    rw[tf]
    obtain ⟨a1,a2,a3,a4,a5,a6,a7,a8,a9⟩:=hq hi
    exact ⟨a1,a2,a3,a4,a5,a6,a7,a8,a9⟩
   ·rw[IW _ _ _ _ h]
    obtain ⟨a1,a2,a3,a4,a5,a6,a7,a8,a9⟩:=hk.p i hi
    exact ⟨a1,a2,a3,a4,a5,a6,a7,a8,a9⟩⟩
theorem xg {s:bF} {r:aC} (h:cY s r=0):bm r=true:=by
 unfold cY at h
 split at h
 ·cases h
 ·simpa using ‹¬bm r=false›
theorem OH {s:bF} (hk:mQ s) {v:ae} (h:oL s v=0):ec (s.p (al v.iD)).vs v.iD=none→(s.p (al v.iD)).vs.length < 4:=by
 intro hn
 unfold oL at h
 split at h
 ·cases h
 ·split at h
  ·cases h
  ·rw[hn] at h
   simp at h
   exact h
theorem th {s:bF} (hk:mQ s) {r:aC} (hw:r.wf) (hv:∀v∈r.aj,v.wf):mQ (bE s r).2:=by
 unfold bE
 by_cases c0:cY s r=0
 case neg=> rw[if_pos c0];exact hk
 rw[if_neg (by simp[c0])]
 have hr:=xg c0
 have c1:=c0
 unfold cY at c1
 rw[if_neg (by simp[hr])] at c1
 by_cases k1:r.kind=1
 ·rw[if_pos k1]
  rw[if_pos k1] at c1
  have jY:aN r.ax=true:=by unfold bm at hr;rw[if_pos k1] at hr;simp at hr;simp[hr]
  refine hk.pU fun hi=> ?_
  have ok:=hk.p _ hi
  have ma:=OH hk c1
  have XI:(s.p (al r.ax.iD)).role≠0:=by
    intro e;unfold oL at c1;rw[if_pos e] at c1;cases c1
  have hpt:=te ok.Eh jY ma
  obtain ⟨a1,a2,a3,a4,a5,a6,a7,a8,a9⟩:=ok
  refine ⟨a1,a2,a3,a4,a5,fun h=> absurd h XI,?_,?_,?_⟩
  ·show fZ (pv _ _).2
   rw[hpt];exact sY a7 _
  ·show (pv _ _).2.length≤4
   rw[hpt];exact A1 a7 _ ma a8
  ·show ∀v∈(pv _ _).2,_
   rw[hpt]
   intro v hv
   rcases (oM r.ax v).1 hv with rfl | ⟨h,_⟩
   ·exact ⟨jY,hw.ax,rfl⟩
   ·exact a9 v h
 ·rw[if_neg k1]
  rw[if_neg k1] at c1
  obtain ⟨g1,g2,g3,g4,g5⟩:=nD hr k1
  by_cases k2:r.kind=2
  ·rw[if_pos k2]
   rw[if_pos k2] at c1
   refine hk.pU fun hi=> ?_
   have ok:=hk.p _ hi
   have hto:0≤r.dS:=by unfold bm at hr;rw[if_neg k1,if_pos k2] at hr;simp at hr;omega
   obtain ⟨a1,a2,a3,a4,a5,a6,a7,a8,a9⟩:=ok
   unfold CP at c1
   split at c1
   ·cases c1
   ·split at c1
    ·cases c1
    ·refine ⟨by simp,g3,g4,fun _=> by simp only;omega,fun h=> absurd rfl h,(fun h=> by cases h),a7,a8,a9⟩
  ·rw[if_neg k2]
   rw[if_neg k2] at c1
   by_cases k3:r.kind=3
   ·rw[if_pos k3]
    rw[if_pos k3] at c1
    refine hk.pU fun hi=> ?_
    have yJ:rising r.aj=true:=by
      unfold bm at hr
      rw[k3] at hr
      simp at hr
      exact q28z hr.2
    unfold rising at yJ
    simp only[abH,decide_eq_true_eq,abZ] at yJ
    unfold xe at c1
    split at c1
    ·cases c1
    ·rename_i XJ
     simp only[aej,decide_eq_true_eq,not_exists,not_and,Decidable.not_not] at XJ
     refine ⟨by simp,g3,g4,(fun h=> by cases h),fun _=> rfl,(fun h=> by cases h),yJ.2,yJ.1.1,fun v hm=>⟨yJ.1.2 v hm,hv v hm,?_⟩⟩
     have:=XJ v hm
     omega
   ·rw[if_neg k3]
    refine hk.pU fun hi=> ?_
    exact ⟨by simp,g3,g4,(fun h=> by cases h),fun _=> rfl,fun _=> rfl,List.Pairwise.nil,by simp,by simp⟩
set_option maxRecDepth 100000
def ql (s:bF) (n:Nat) (q:pw):Bool:=
 if q.role < 0∨2 < q.role∨q.aI < 1∨1099511627776 < q.aI then false
 else if q.role=2∧(q.to < 0∨s.bL≤q.to∨q.to=s.mem)∨q.role≠2∧q.to≠0 then false
 else if q.role=0∧0 < q.vs.length then false
 else !(q.vs.any fun v=> decide ((al v.iD:Int)≠(n:Nat)))
theorem Ek (b:Nat) (h:Hp) (n:Nat) (v:ae) (id:Nat) (hl:v.iD.length≤1000000) (hg:h[id]? =some (.cells none [.s (.int .i64 (n:Nat))])):
 run fns pr b 150 [v.enc,.ptr id [0] 1] h=some (.s (.bool (decide ((al v.iD:Int)≠(n:Nat)))),h):=by
 refine Vm.aQ (nt:=9) rfl QT (by simp) ?_
 obtain ⟨a1,a2,a3,a4,a5,a6,a7,a8,a9⟩:=v
 simp only at hl ⊢
 have p6:=fun b h0=> gW b h0 a1 hl
 have cI:=fun X=> q10z hg X
 generalize al a1=S at *
 simp only[QR,ae.enc,p6,cI,abL,go_sem,simprocAttr]
 all_goals simp[bne,abK]
theorem A2 (b:Nat) (h:Hp) (m n:Nat) (s:bF) (F:List Nat) (q:pw) (hs:jf h m s F) (hn:n < 16) (hl:q.vs.length≤1000) (hv:∀v∈q.vs,v.wf):
 run fns pr b 143 [.ptr m [0] 1,.s (.int .i64 (n:Nat)),.s (.int .i64 q.role),.s (.int .u64 q.aI),.s (.int .i64 q.to),.aq false (some 37) (q.vs.map ae.enc)] h=some (.s (.bool (ql s n q)),h):=by
 obtain ⟨r,ts,own,hp⟩:=hs
 obtain ⟨role,aI,to,vs⟩:=q
 simp only at hl hv ⊢
 refine Vm.aQ (nt:=74) rfl QG (by simp) ?_
 have hr:=fun b h0=> nB b h0 n
 have q1:(0:Int)≤(n:Int):=by omega
 have q2:(n:Int)< 16:=by omega
 have hc:=fun b H (hg:H[h.length]? =_)=> pz b H (.aq false (some 37) (vs.map ae.enc)) vs 150 [.ptr h.length [0] 1] (fun v=> decide ((al v.iD:Int)≠(n:Nat))) (.inl ⟨_,rfl⟩) (by omega)
   (fun b v hm=> Ek b H n v h.length (by have:=(hv v hm).iD;omega) hg)
 have Gt:=fun b=> hc b (h++[aT.cells none [.s (.int .i64 (n:Nat))]]) (aS _ _)
 have cI:=fun X=>(hp.app X).o
 have kF:∀cf base H,aB cf base H .len [.aq false (some 37) (vs.map ae.enc)]=some (.s (.int .i64 (vs.length:Nat)),H):=fun cf base H=> by rw[qe];simp
 unfold ql
 simp only
 by_cases c1:role < 0
 ·rw[if_pos (.inl c1)]
  simp only[o6,hr,q1,q2,c1,abL,go_sem,simprocAttr]
  all_goals rfl
 by_cases c2:2 < role
 ·rw[if_pos (.inr (.inl c2))]
  simp only[o6,hr,q1,q2,c1,c2,abL,go_sem,simprocAttr]
  all_goals rfl
 by_cases c3:aI < 1
 ·rw[if_pos (.inr (.inr (.inl c3)))]
  simp only[o6,hr,q1,q2,c1,c2,c3,abL,go_sem,simprocAttr]
  all_goals rfl
 by_cases c4:1099511627776 < aI
 ·rw[if_pos (.inr (.inr (.inr c4)))]
  simp only[o6,hr,q1,q2,c1,c2,c3,c4,abL,go_sem,simprocAttr]
  all_goals rfl
 rw[if_neg (by omega)]
 generalize (vs.any fun v=> decide ((al v.iD:Int)≠(n:Nat)))=an at *
 by_cases k2:role=2
 ·subst k2
  have k0:¬(2:Int)=0:=by decide
  by_cases t1:to < 0
  ·rw[if_pos (.inl ⟨rfl,.inl t1⟩)]
   simp only[o6,hr,q1,q2,c3,c4,t1,abL,go_sem,simprocAttr]
   all_goals rfl
  by_cases t2:s.bL≤to
  ·rw[if_pos (.inl ⟨rfl,.inr (.inl t2)⟩)]
   simp only[o6,hr,q1,q2,c3,c4,t1,t2,cI,abL,go_sem,simprocAttr]
   all_goals rfl
  by_cases t3:to=s.mem
  ·rw[if_pos (.inl ⟨rfl,.inr (.inr t3)⟩)]
   have t1':¬s.mem < 0:=by rw[←t3];exact t1
   have t2':¬s.bL≤s.mem:=by rw[←t3];exact t2
   simp only[o6,hr,q1,q2,c3,c4,t1,t2,t1',t2',t3,cI,abL,go_sem,simprocAttr]
   all_goals rfl
  rw[if_neg (by omega),if_neg (by omega)]
  simp only[o6,hr,q1,q2,c3,c4,t1,t2,t3,cI,Gt,abL,go_sem,simprocAttr]
  all_goals rfl
 ·by_cases t0:to=0
  ·rw[if_neg (by omega)]
   subst t0
   by_cases k0:role=0
   ·subst k0
    by_cases l0:0 < vs.length
    ·have l0':(0:Int)<((vs.length:Nat):Int):=by omega
     rw[if_pos ⟨rfl,l0⟩]
     simp only[o6,hr,q1,q2,c3,c4,kF,l0',abL,go_sem,simprocAttr]
     all_goals rfl
    ·have l0':¬(0:Int)<((vs.length:Nat):Int):=by omega
     rw[if_neg (by omega)]
     simp only[o6,hr,q1,q2,c3,c4,kF,l0',Gt,abL,go_sem,simprocAttr]
     all_goals rfl
   ·rw[if_neg (by omega)]
    simp only[o6,hr,q1,q2,c1,c2,c3,c4,k2,k0,Gt,abL,go_sem,simprocAttr]
    all_goals rfl
  ·rw[if_pos (.inr ⟨k2,t0⟩)]
   simp only[o6,hr,q1,q2,c1,c2,c3,c4,k2,t0,abL,go_sem,simprocAttr]
   all_goals rfl
def ti (s:bF) (n:Nat) (q:pw):Int×bF:=if ql s n q=true∧rising q.vs=true then (0,s.pU n q) else (1,s)
theorem Rh (b:Nat) (h:Hp) (m n:Nat) (s:bF) (F:List Nat) (q:pw) (hF:∀j∈F,b≤j) (hs:jf h m s F) (hn:n < 16) (hl:q.vs.length≤1000) (hv:∀v∈q.vs,v.wf):
 ∃v h',run fns pr b 114 [.ptr m [0] 1,.s (.int .i64 (n:Nat)),.s (.int .i64 q.role),.s (.int .u64 q.aI),.s (.int .i64 q.to),.aq false (some 37) (q.vs.map ae.enc)] h=some (v,h')∧v= .s (.int .i64 (ti s n q).1)∧∃F',jf h' m (ti s n q).2 F'∧Fw F h h'∧∀j∈F',j∈F∨h.length≤j:=by
 have p7:=hs
 have hbh:b≤h.length:=by have:=hF m hs.mem;have:=hs.lt m hs.mem;omega
 have hri:=fun b X=> A2 b (h++X) m n s F q (hs.app X) hn hl hv
 obtain ⟨r,ts,own,hp⟩:=hs
 refine Vm.eU (nt:=40) rfl PE (by simp) ?_
 have hnw:=rU b h
 have fA:Fw [] h (h++[aT.cells (some 138) [.st 138 [.aq true (some 37) []]]]):=Fw.app [] h _
 have hT:TR (h++[aT.cells (some 138) [.st 138 [.aq true (some 37) []]]]) h.length h.length []:=⟨_,aS _ _,.inl ⟨rfl,rfl,rfl⟩⟩
 unfold ti
 cases c1:ql s n q with
 | false=>
   rw[if_neg (by simp)]
   simp only[Hq,hnw,hri,c1,go_sem,simprocAttr]
   exact ⟨F,p7.mono fA (by simp),fA.mono (by simp),fun j hj=> .inl hj⟩
 | true=>
   obtain ⟨H2,k',nZ,hT2,f2,lX⟩:=yG b _ h.length h.length [] q.vs (.aq false (some 37) (q.vs.map ae.enc)) hbh hT (.inl ⟨_,rfl⟩) hl
   have f02:Fw [] h H2:=fA.new f2 (fun j hj=> by simp at hj;subst hj;exact .inl (abJ _))
   cases c2:rising q.vs with
   | false=>
     rw[if_neg (by simp)]
     rw[c2,if_neg (by simp)] at nZ
     simp only[Hq,hnw,hri,c1,nZ,go_sem,simprocAttr]
     exact ⟨F,p7.mono f02 (by simp),f02.mono (by simp),fun j hj=> .inl hj⟩
   | true=>
     rw[if_pos ⟨rfl,rfl⟩]
     rw[c2,if_pos rfl] at nZ hT2
     have hpA:=hp.mono f02 (by simp)
     have ff:=fun cf base=> hpA.sr.cZ (cf:=cf) (base:=base) (k:= .i64) (i:=n) (by rw[bW];exact hn)
     have hep:k8 (.ref r [] (some 96) 0 16 16) n= .ptr r [n] 16:=by simp[k8]
     simp only[hep] at ff
     have hPn:(gK s.p ts 16)[n]? =some (.st 96 [.s (.int .i64 (s.p n).role),.s (.int .u64 (s.p n).aI),.s (.int .i64 (s.p n).to),.ptr (ts n).1 [0] 1]):=dt _ _ _ _ hn
     have hPl:=bW s.p ts 16
     have hgo:=hpA.o
     have Ab:=hpA.row
     have pA:b≤r:=hF _ hp.fr
     have cF:=q6z Ab
     simp only[Hq,hnw,hri,c1,nZ,hgo,ff,Ab,hPn,hPl,pA,cF,hn,go_sem,simprocAttr]
     have rI:=q6z hp.row
     have AK:h.length≤k':=by rcases lX with h1 | h1 | h1 <;> first | omega | (rw[abI] at h1;omega)
     have fs:Fw [r] H2 (H2.set r (.cells (some 96) ((gK s.p ts 16).set n (ed q h.length)))):=Fw.set (by simp) Ab
     exact hp.XH (q:=q) (t':=h.length) (k':=k') hn (q9z Ab) (hT2.mono fs (by simp;omega) (by simp;omega)) ((f02.mono (by simp)).trans (fs.mono (by simp))) (.inr (abJ _)) (.inr (.inr AK))
theorem jf.congr {h:Hp} {m:Nat} {s s':bF} {F:List Nat} (hs:jf h m s F) (h1:s'.mem=s.mem) (h2:s'.bL=s.bL) (h3:∀i,i < 16→s'.p i=s.p i):jf h m s' F:=by
 obtain ⟨r,ts,own,o,row,tab,om,orr,ot,fm,fr,ft,fl⟩:=hs
 refine ⟨r,ts,own,by rw[h1,h2];exact o,?_,fun i hi=> by rw[h3 i hi];exact tab i hi,om,orr,ot,fm,fr,ft,fl⟩
 rw[row,sZ (p:=s'.p) (p':=s.p) (ts:=ts) (ts':=ts) fun i hi=>⟨h3 i hi,rfl⟩]
theorem POk.right {s t:bF} {n:Nat} {q:pw} (hk:POk s n q) (h1:t.mem=s.mem) (h2:t.bL=s.bL):ql t n q=true∧rising q.vs=true:=by
 obtain ⟨a1,a2,a3,a4,a5,a6,a7,a8,a9⟩:=hk
 constructor
 ·unfold ql
  rw[h1,h2,if_neg (by omega),if_neg,if_neg]
  ·simp only[adV,List.any_eq_false,decide_eq_true_eq,Decidable.not_not]
   intro v hv
   rw[(a9 v hv).2.2]
  ·rintro ⟨c1,c2⟩
   rw[a6 c1] at c2
   simp at c2
  ·rintro (⟨c1,c2⟩ | ⟨c1,c2⟩)
   ·have:=a4 c1;omega
   ·exact c2 (a5 c1)
 ·unfold rising
  simp only[abH,decide_eq_true_eq,abZ]
  exact ⟨⟨a8,fun v hv=>(a9 v hv).1⟩,a7⟩
def jZ (s t:bF) (n:Nat):bF:= {s with p:=fun j=> if j < n then s.p j else t.p j}
theorem IX (b:Nat) (h:Hp) (m:Nat) (s:bF) (F:List Nat) (hb:b≤h.length) (hs:jf h m s F) (hk:mQ s):
 ∃v h',run fns pr b 71 [.ptr m [0] 1] h=some (v,h')∧∃F',v= .ptr h.length [0] 1∧jf h' h.length s F'∧Fw [] h h'∧∀j∈F',h.length≤j:=by
 refine Vm.eU (nt:=39) rfl VM (by simp) ?_
 obtain ⟨v1,H1,e1,F1,rfl,s1,f1,n1⟩:=CN b h s.mem s.bL hb hk.m1 hk.m2 hk.m3 hk.m4
 have yK:=hs.mono f1 (by simp)
 have p7:=hs
 obtain ⟨r,ts,own,hp⟩:=hs
 have hp1:=hp.mono f1 (by simp)
 have hg:=hp.o
 have cS:=hp1.o
 have kF:∀cf base H,aB cf base H .len [.ref r [] (some 96) 0 16 16]=some (.s (.int .i64 (16:Nat)),H):=fun cf base H=> by rw[SR.bG hp.sr,bW]
 have s1:jf H1 h.length (jZ s (bF.new s.mem s.bL) 0) F1:=s1.congr rfl rfl fun i hi=> by simp[jZ]
 simp only[B71,Ou,Ot,hg,e1,cS,kF,go_sem,↓reduceIte,Nat.reduceEqDiff,Nat.reduceBEq,Nat.reduceAdd,Nat.reduceSub,Nat.reduceLT,Nat.reduceLeDiff,Int.reduceLT,Int.reduceLE,Int.reduceEq,Int.reduceToNat]
 refine bo (fun q e H=>∃(i:Nat) (F':List Nat),q=16 - i∧i≤16∧e 20= .s (.int .i64 (i:Nat))∧e 19= .s (.int .i64 (16:Nat))∧e 18= .ref r [] (some 96) 0 16 16∧e 3= .ptr h.length [0] 1∧jf H h.length (jZ s (bF.new s.mem s.bL) i) F'∧Fw [] h H∧∀j∈F',h.length≤j)
   (fun e H=>∃(F':List Nat),e 3= .ptr h.length [0] 1∧jf H h.length s F'∧Fw [] h H∧∀j∈F',h.length≤j) 16 _ _ ⟨0,F1,rfl,by omega,rfl,rfl,rfl,rfl,s1,f1,n1⟩ ?_ ?_
 ·rintro q e H ⟨i,F',rfl,hi,e20,e19,e18,e3,hm,fw,hn⟩
  by_cases c:i < 16
  ·have c':(i:Int)<((16:Nat):Int):=by omega
   have jj:IntKind.i64.wrap ((i:Int)+1)=((i+1:Nat):Int):=q18z (by omega)
   have ok:=hk.p i c
   have hpH:=hp.mono fw (by simp)
   have ff:=fun cf base=> hpH.sr.cZ (cf:=cf) (base:=base) (k:= .i64) (i:=i) (by rw[bW];exact c)
   have iO:=fun cf base=> hpH.sr.iy (cf:=cf) (base:=base) (dt _ _ _ _ c) rfl
   have hbH:b≤H.length:=acm hb fw.len
   have fP:Fw [] H (H++[aT.cells (some 96) [ed (s.p i) (ts i).1]]):=Fw.app [] H _
   have Gw:=fun b=> CM b (H++[aT.cells (some 96) [ed (s.p i) (ts i).1]]) (ts i).1 (ts i).2 (s.p i).vs ((hpH.mono fP (by simp)).tab i c) (by have:=ok.len;omega) (fun v hv=> q14z (ok.vs v hv).1)
   obtain ⟨v2,H2,e2,rfl,F2,qM,f2,hn2⟩:=Rh b _ h.length i _ F' (s.p i) (fun j hj=> acm hb (hn j hj)) (hm.mono fP (by simp)) c (by have:=ok.len;omega) (fun v hv=>(ok.vs v hv).2.1)
   have ba:ti (jZ s (bF.new s.mem s.bL) i) i (s.p i)=(0,(jZ s (bF.new s.mem s.bL) i).pU i (s.p i)):=by
     unfold ti;rw[if_pos (ok.right (t:=jZ s (bF.new s.mem s.bL) i) rfl rfl)]
   rw[ba] at e2 qM
   have hor:∀x,(decide (b≤H.length) || x)=true:=fun x=> by rw[decide_eq_true hbH];rfl
   have hgp:(H++[aT.cells (some 96) [ed (s.p i) (ts i).1]])[H.length]? =some (aT.cells (some 96) [ed (s.p i) (ts i).1]):=aS _ _
   have f02:Fw [] h H2:=(fw.trans fP).new f2 (fun j hj=> .inl (hn j hj))
   have hm3:jf H2 h.length (jZ s (bF.new s.mem s.bL) (i+1)) F2:=qM.congr rfl rfl fun j hj=> by
     simp only[jZ,bF.pU]
     by_cases x5:j=i
     ·subst x5;simp
     ·simp only[x5,if_false]
      by_cases h1:j < i
      ·simp[h1,show j < i+1 by omega]
      ·simp[h1,show ¬j < i+1 by omega]
   have hn3:∀j∈F2,h.length≤j:=fun j hj=>(hn2 j hj).elim (hn j) fun h1=> by have:=fw.len;have:=fP.len;omega
   simp only[e20,e19,e18,e3,c',jj,ff,iO,hor,mR,mS,go_sem,↓reduceIte,Nat.reduceEqDiff,Nat.reduceBEq,Nat.reduceAdd,Nat.reduceSub,Nat.reduceLT,Nat.reduceLeDiff,Int.reduceLT,Int.reduceLE,Int.reduceEq,Int.reduceToNat]
   simp only[ed] at Gw e2 hgp
   simp only[ed,Gw,e2,hgp,jj,e20,e19,e18,e3,go_sem,↓reduceIte,Nat.reduceEqDiff,Nat.reduceBEq,Nat.reduceAdd,Nat.reduceSub,Nat.reduceLT,Nat.reduceLeDiff,Int.reduceLT,Int.reduceLE,Int.reduceEq,Int.reduceToNat]
   exact ⟨16 - (i+1),by omega,i+1,F2,rfl,by omega,rfl,hm3,f02,hn3⟩
  ·have c':¬(i:Int)<((16:Nat):Int):=by omega
   obtain rfl:i=16:=by omega
   have qM:jf H h.length s F':=hm.congr rfl rfl fun j hj=> by simp[jZ,hj]
   simp only[e20,e19,e18,e3,c',go_sem,↓reduceIte,Nat.reduceEqDiff,Nat.reduceBEq,Nat.reduceAdd,Nat.reduceSub,Nat.reduceLT,Nat.reduceLeDiff,Int.reduceLT,Int.reduceLE,Int.reduceEq,Int.reduceToNat]
   exact ⟨F',qM,fw,hn⟩
 ·rintro e H ⟨F',e3,hm,fw,hn⟩
  simp only[e3,go_sem,↓reduceIte,Nat.reduceEqDiff,Nat.reduceBEq,Nat.reduceAdd,Nat.reduceSub,Nat.reduceLT,Nat.reduceLeDiff,Int.reduceLT,Int.reduceLE,Int.reduceEq,Int.reduceToNat]
  exact ⟨F',hm,fw,hn⟩
set_option maxRecDepth 100000
def jM :ah:=⟨0,0,0,bp,0⟩
def bw (r:ah):Bool:=decide (r.bY≤1099511627776)&& decide (r.count≤1099511627776)&& decide (r.base≤r.count)&& decide (r.count - r.base≤8)&&(decide (r.aM=0) || decide (r.aM=1))&&(decide (0 < r.count) || decide (r.head=bp))
def xh (a r:ah):ah×Bool:=if bw a=true∧bw r=true then (r,true) else (jM,false)
def eE (r:ah) (hd:Bs):ah×Bool:=xh r ⟨r.bY,r.count+1,r.base,hd,r.aM⟩
def eW (r:ah):ah×Bool:=xh r ⟨r.bY+1,r.count,r.base,r.head,r.aM⟩
def iI (r:ah) (hd:Bs):ah×Bool:=if r.count≤r.base then (jM,false) else xh r ⟨r.bY,r.count,r.count,hd,1 - r.aM⟩
def bH (r:ah):Int:=if bw r=true then r.count - r.base else 0
theorem ah.ef (r:ah):r.enc.ty=some 63:=rfl
theorem ah.eg (r:ah):r.enc.aw=true:=rfl
theorem ah.tj (n:Nat) (h:Hp) (r:ah):bD n h r.enc=some r.enc:=by simp only[ah.enc,go_sem]
theorem tl (b:Nat) (h:Hp) (r:ah) (hw:r.wf):run fns pr b 62 [r.enc] h=some (.s (.bool (bw r)),h):=by
 refine Vm.aQ (nt:=47) rfl Vu (by simp) ?_
 obtain ⟨bY,count,base,head,aM⟩:=r
 obtain ⟨w1,w2,w3,w4,w5⟩:=hw
 simp only at w1 w2 w3 w4 w5
 unfold bw
 simp only
 by_cases c1:bY≤1099511627776
 case neg=>
   simp only[DK,ah.enc,c1,abL,go_sem,simprocAttr]
 by_cases c2:count≤1099511627776
 case neg=>
   simp only[DK,ah.enc,c1,c2,abL,go_sem,simprocAttr]
 by_cases c3:base≤count
 case neg=>
   simp only[DK,ah.enc,c1,c2,c3,abL,go_sem,simprocAttr]
 have pd:IntKind.u64.wrap (count - base)=count - base:=wrap_u64 (by omega) (by omega)
 by_cases c4:count - base≤8
 case neg=>
   simp only[DK,ah.enc,c1,c2,c3,pd,c4,abL,go_sem,simprocAttr]
 by_cases c5:aM=0
 ·by_cases c6:0 < count
  ·simp only[DK,ah.enc,c1,c2,c3,pd,c4,c5,c6,abL,go_sem,simprocAttr]
  ·by_cases c7:head=bp
   ·simp only[DK,ah.enc,c1,c2,c3,pd,c4,c5,c6,c7,cu,bR,abL,go_sem,simprocAttr]
   ·simp only[DK,ah.enc,c1,c2,c3,pd,c4,c5,c6,c7,cu,bR,abL,go_sem,simprocAttr]
 ·by_cases c8:aM=1
  ·by_cases c6:0 < count
   ·simp only[DK,ah.enc,c1,c2,c3,pd,c4,c5,c8,c6,abL,go_sem,simprocAttr]
   ·by_cases c7:head=bp
    ·simp only[DK,ah.enc,c1,c2,c3,pd,c4,c5,c8,c6,c7,cu,bR,abL,go_sem,simprocAttr]
    ·simp only[DK,ah.enc,c1,c2,c3,pd,c4,c5,c8,c6,c7,cu,bR,abL,go_sem,simprocAttr]
  ·simp only[DK,ah.enc,c1,c2,c3,pd,c4,c5,c8,abL,go_sem,simprocAttr]
theorem OI (b:Nat) (h:Hp) (a r:ah) (ha:a.wf) (hr:bw a=true→r.wf):run fns pr b 53 [a.enc,r.enc] h=some (.bM [(xh a r).1.enc,.s (.bool (xh a r).2)],h):=by
 refine Vm.aQ (nt:=16) rfl Vc (by simp) ?_
 have h1:=fun h0=> tl h.length h0 a ha
 have h2:=fun h0 hr=> tl h.length h0 r hr
 unfold xh
 have hz:V.st 63 [.s (.int .u64 0),.s (.int .u64 0),.s (.int .u64 0),aK 22,.s (.int .i64 0)]=jM.enc:=rfl
 cases c1:bw a with
 | false=>
   rw[if_neg (by simp)]
   simp only[B53,ah.ef,ah.eg,h1,c1,go_sem,simprocAttr]
   all_goals rfl
 | true=>
   have h2:=fun h0=> h2 h0 (hr c1)
   cases c2:bw r with
   | false=>
     rw[if_neg (by simp)]
     simp only[B53,ah.ef,ah.eg,h1,h2,c1,c2,go_sem,simprocAttr]
     all_goals rfl
   | true=>
     rw[if_pos ⟨rfl,rfl⟩]
     simp only[B53,ah.ef,ah.eg,ah.tj,h1,h2,c1,c2,go_sem,simprocAttr]
theorem q11z {r:ah} (h:bw r=true):r.bY≤1099511627776∧r.count≤1099511627776∧r.base≤r.count∧r.count - r.base≤8∧(r.aM=0∨r.aM=1)∧(0 < r.count∨r.head=bp):=by
 unfold bw at h
 simp only[abH,acv,decide_eq_true_eq] at h
 obtain ⟨⟨⟨⟨⟨h1,h2⟩,h3⟩,h4⟩,h5⟩,h6⟩:=h
 exact ⟨h1,h2,h3,h4,h5,h6⟩
theorem IY {a r r':ah} (h:bw a=false):xh a r=xh a r':=by
 unfold xh;rw[h];simp
theorem Mq (b:Nat) (h:Hp) (r:ah) (hd:Bs) (hw:r.wf) (hl:hd.length=16):run fns pr b 22 [r.enc,.arr 22 (hd.map aa)] h=some (.bM [(eE r hd).1.enc,.s (.bool (eE r hd).2)],h):=by
 refine Vm.aQ (nt:=19) rfl Ub (by simp) ?_
 have hs:∀c,(bw r=true→c=r.count+1)→∀h0,run fns pr h.length 53 [r.enc,ah.enc ⟨r.bY,c,r.base,hd,r.aM⟩] h0=some (.bM [(eE r hd).1.enc,.s (.bool (eE r hd).2)],h0):=by
   intro c hc h0
   have h1:=OI h.length h0 r ⟨r.bY,c,r.base,hd,r.aM⟩ hw (fun q=> by
     have:=q11z q
     have hc:=hc q
     obtain ⟨w1,w2,w3,w4,w5⟩:=hw
     exact ⟨w1,by simp only;omega,w3,hl,w5⟩)
   rw[h1]
   cases q:bw r with
   | true=> rw[hc q];rfl
   | false=> unfold eE;rw[IY (r:=⟨r.bY,c,r.base,hd,r.aM⟩) (r':=⟨r.bY,r.count+1,r.base,hd,r.aM⟩) q]
 have jj:bw r=true→IntKind.u64.wrap (r.count+1)=r.count+1:=fun q=> by
   have:=q11z q
   obtain ⟨w1,w2,w3,w4,w5⟩:=hw
   exact wrap_u64 (by omega) (by omega)
 have hs:=hs _ jj
 have f1:=fun n H=> ah.tj n H (eE r hd).1
 have f2:=ah.ef (eE r hd).1
 have f3:=ah.eg (eE r hd).1
 generalize eE r hd=x at *
 obtain ⟨bY,count,base,head,aM⟩:=r
 simp only[ah.enc] at hs ⊢
 generalize hx:V.st 63 [.s (.int .u64 x.1.bY),.s (.int .u64 x.1.count),.s (.int .u64 x.1.base),.arr 22 (x.1.head.map aa),.s (.int .i64 x.1.aM)]=X at *
 simp only[ah.enc,hx] at f1 f2 f3
 simp only[B22,hs,f1,f2,f3,go_sem,simprocAttr]
theorem Mr (b:Nat) (h:Hp) (r:ah) (hd:Bs) (hw:r.wf) (hl:hd.length=16):run fns pr b 66 [r.enc,.arr 22 (hd.map aa)] h=some (.bM [(iI r hd).1.enc,.s (.bool (iI r hd).2)],h):=by
 refine Vm.aQ (nt:=28) rfl VC (by simp) ?_
 unfold iI
 by_cases c0:r.count≤r.base
 ·rw[if_pos c0]
  obtain ⟨bY,count,base,head,aM⟩:=r
  simp only at c0
  simp only[B66,ah.enc,c0,jM,cu,go_sem,simprocAttr]
  all_goals rfl
 rw[if_neg c0]
 have hs:∀c,(bw r=true→c=1 - r.aM)→∀h0,run fns pr h.length 53 [r.enc,ah.enc ⟨r.bY,r.count,r.count,hd,c⟩] h0=some (.bM [(xh r ⟨r.bY,r.count,r.count,hd,1 - r.aM⟩).1.enc,.s (.bool (xh r ⟨r.bY,r.count,r.count,hd,1 - r.aM⟩).2)],h0):=by
   intro c hc h0
   have h1:=OI h.length h0 r ⟨r.bY,r.count,r.count,hd,c⟩ hw (fun q=> by
     have:=q11z q
     have hc:=hc q
     obtain ⟨w1,w2,w3,w4,w5⟩:=hw
     exact ⟨w1,w2,w2,hl,by simp only;omega⟩)
   rw[h1]
   cases q:bw r with
   | true=> rw[hc q]
   | false=> rw[IY (r:=⟨r.bY,r.count,r.count,hd,c⟩) (r':=⟨r.bY,r.count,r.count,hd,1 - r.aM⟩) q]
 have jj:bw r=true→IntKind.i64.wrap (1 - r.aM)=1 - r.aM:=fun q=> by
   have:=q11z q
   exact wrap_i64 (by omega) (by omega)
 have hs:=hs _ jj
 generalize xh r ⟨r.bY,r.count,r.count,hd,1 - r.aM⟩=x at *
 have f1:=fun n H=> ah.tj n H x.1
 have f2:=ah.ef x.1
 have f3:=ah.eg x.1
 obtain ⟨bY,count,base,head,aM⟩:=r
 simp only[ah.enc] at hs c0 ⊢
 generalize hx:V.st 63 [.s (.int .u64 x.1.bY),.s (.int .u64 x.1.count),.s (.int .u64 x.1.base),.arr 22 (x.1.head.map aa),.s (.int .i64 x.1.aM)]=X at *
 simp only[ah.enc,hx] at f1 f2 f3
 simp only[B66,c0,hs,f1,f2,f3,go_sem,simprocAttr]
theorem CQ (b:Nat) (h:Hp) (r:ah) (hw:r.wf):run fns pr b 28 [r.enc] h=some (.s (.int .i64 (bH r)),h):=by
 refine Vm.aQ (nt:=12) rfl Un (by simp) ?_
 have h1:=fun h0=> tl h.length h0 r hw
 unfold bH
 cases c1:bw r with
 | false=>
   rw[if_neg (by simp)]
   simp only[B28,ah.ef,ah.eg,h1,c1,abL,go_sem,simprocAttr]
 | true=>
   have:=q11z c1
   obtain ⟨w1,w2,w3,w4,w5⟩:=hw
   have q1:IntKind.u64.wrap (r.count - r.base)=r.count - r.base:=wrap_u64 (by omega) (by omega)
   have q2:IntKind.i64.wrap (r.count - r.base)=r.count - r.base:=wrap_i64 (by omega) (by omega)
   rw[if_pos rfl]
   obtain ⟨bY,count,base,head,aM⟩:=r
   simp only[ah.enc] at *
   simp only[B28,h1,c1,q1,q2,abL,go_sem,simprocAttr]
def bU (r:ah):Int:=if 8≤bH r then -1 else 2+bH r
theorem pB (r:ah) (hw:r.wf):0≤bH r∧bH r≤8:=by
 unfold bH
 split
 ·have:=q11z (by assumption);omega
 ·omega
theorem IZ (b:Nat) (h:Hp) (r:ah) (hw:r.wf):run fns pr b 25 [r.enc] h=some (.s (.int .i64 (bU r)),h):=by
 refine Vm.aQ (nt:=10) rfl Uh (by simp) ?_
 have h1:=fun h0=> CQ h.length h0 r hw
 have hl:=pB r hw
 unfold bU
 by_cases c:8≤bH r
 ·rw[if_pos c]
  simp only[B25,ah.ef,ah.eg,h1,c,abL,go_sem,simprocAttr]
 ·rw[if_neg c]
  have hw:IntKind.i64.wrap (2+bH r)=2+bH r:=wrap_i64 (by omega) (by omega)
  simp only[B25,ah.ef,ah.eg,h1,c,hw,abL,go_sem,simprocAttr]
theorem Ms (b:Nat) (h:Hp) (r:ah) (hp:r.aM=0∨r.aM=1):run fns pr b 65 [r.enc] h=some (.s (.int .i64 (1 - r.aM)),h):=by
 refine Vm.aQ (nt:=6) rfl VA (by simp) ?_
 have hw:IntKind.i64.wrap (1 - r.aM)=1 - r.aM:=wrap_i64 (by omega) (by omega)
 simp only[B65,ah.enc,hw,abL,go_sem,simprocAttr]
set_option maxRecDepth 100000
theorem fq (l:Bs):(V.arr 22 (l.map aa)).ty=some 22:=rfl
theorem El (b:Nat) (h:Hp) (x:V) (l:Bs) (hx:BR h x l) (hl:l.length≤1000000):run fns pr b 67 [x] h=some (.arr 22 ((cT l).map aa),h):=by
 refine Vm.aQ (nt:=5) rfl VE (by simp) ?_
 have hs:=fun b X=> wO b (h++X) x l (BR.rd (hx.mono (Fw.app [] h X))) hl
 have mo:((cT l).map aa).length=16:=by rw[abX,bO]
 simp only[B67,hs,mo,fq,abL,go_sem,simprocAttr]
def uV :Bs:=[105,109,97,103,101]
def j1 (k:Bs) (r:ah) (l:Bs):Bs×Int:=if 8184 < l.length then ([],3) else (ei k r.count.toNat uV l,0)
theorem I0 (b:Nat) (h:Hp) (x:V) (k l:Bs) (r:ah) (hk:k.length=16) (hw:r.wf) (hx:BR h x l):run fns pr b 63 [.arr 22 (k.map aa),r.enc,x] h=some (.bM [.aq false none ((j1 k r l).1.map aa),.s (.int .i64 (j1 k r l).2)],h):=by
 refine Vm.aQ (nt:=18) rfl Vw (by simp) ?_
 have dq:(k.map aa).length=16:=by simp[hk]
 have ly:=fun cf base H=> hx.bG (cf:=cf) (base:=base) (h:=H)
 have him:∀f H,Rd H (.aq f none (uV.map aa)) uV:=fun f H=> BR.rd (ck H f uV)
 have hse:=fun b f X=> wR b (h++X) (.aq f none (uV.map aa)) x k uV l r.count.toNat hk (by have:=hw.count;omega) (him f _) (hx.mono (Fw.app [] h X)) (by decide)
 have hc:((r.count.toNat:Nat):Int)=r.count:=by have:=hw.count;omega
 rw[hc] at hse
 unfold j1
 by_cases c:8184 < l.length
 ·have c':(8184:Int)<((l.length:Nat):Int):=by omega
  rw[if_pos c]
  simp only[B63,ah.enc,dq,ly,c',abL,go_sem,simprocAttr]
  all_goals rfl
 ·have c':¬(8184:Int)<((l.length:Nat):Int):=by omega
  rw[if_neg c]
  obtain ⟨bY,count,base,head,aM⟩:=r
  simp only at hse hc ⊢
  have hiw:uV.map aa=[.s (.int .u8 105),.s (.int .u8 109),.s (.int .u8 97),.s (.int .u8 103),.s (.int .u8 101)]:=rfl
  rw[hiw] at hse
  simp only[B63,ah.enc,dq,ly,c',hse,fq,go_sem,simprocAttr]
  all_goals rfl
def lG (k:Bs) (n:Nat) (prev:Bs) (r:aC):Bs×Int:=if bm r=true then (ei k n prev (mJ r),0) else ([],1)
theorem I1 (b:Nat) (h:Hp) (k prev:Bs) (n:Nat) (r:aC) (hk:k.length=16) (hp:prev.length=16) (hn:n < 18446744073709551616) (hw:r.wf) (hwv:∀v∈r.aj,v.wf):run fns pr b 21 [.arr 22 (k.map aa),.s (.int .u64 n),.arr 22 (prev.map aa),r.enc] h=some (.bM [.aq false none ((lG k n prev r).1.map aa),.s (.int .i64 (lG k n prev r).2)],h):=by
 refine Vm.aQ (nt:=25) rfl T9 (by simp) ?_
 have dq:(k.map aa).length=16:=by simp[hk]
 have nU:(prev.map aa).length=16:=by simp[hp]
 have dO:r.enc.ty=some 40:=rfl
 have ny:r.enc.aw=true:=rfl
 generalize hGd:h++[aT.cells (some 22) [V.arr 22 (k.map aa)],aT.cells (some 22) [V.arr 22 (prev.map aa)],aT.cells (some 40) [r.enc]]=G
 have g1:G[h.length+1]? =some (aT.cells (some 22) [V.arr 22 (prev.map aa)]):=by rw[←hGd];exact aJ _ _ 1
 have hrd:=Rd.mk' (h:=G) (x:= .ref (h.length+1) [0] none 0 prev.length 1) (l:=prev) (II g1) rfl
 rw[hp] at hrd
 have hse:=fun b f=> wR b G (.ref (h.length+1) [0] none 0 16 1) (.aq f none ((mJ r).map aa)) k prev (mJ r) n hk hn hrd (ck _ _ _) (by omega)
 have g0:G[h.length]? =some (aT.cells (some 22) [V.arr 22 (k.map aa)]):=by rw[←hGd];exact aJ _ _ 0
 have g2:G[h.length+2]? =some (aT.cells (some 40) [r.enc]):=by rw[←hGd];exact aJ _ _ 2
 have Em:=fun b=> D4 b G r hw hwv
 have dQ:G.take h.length=h:=by rw[←hGd,abL]
 unfold lG
 cases hr:bm r with
 | false=>
   rw[hr] at Em
   rw[if_neg (by simp)] at Em ⊢
   simp only[B21,dq,nU,dO,ny,hGd,Em,g0,g1,g2,dQ,go_sem,simprocAttr]
   all_goals rfl
 | true=>
   rw[hr] at Em
   rw[if_pos rfl] at Em ⊢
   simp only[B21,dq,nU,dO,ny,hGd,Em,g0,g1,g2,dQ,hse,fq,go_sem,simprocAttr]
   all_goals rfl
def eS (prev b:Bs):Bs:=cW prev (cT b)
theorem I2 (b:Nat) (h:Hp) (x:V) (prev l:Bs) (hp:prev.length=16) (hx:BR h x l) (hl:l.length≤1000000):run fns pr b 23 [.arr 22 (prev.map aa),x] h=some (.arr 22 ((eS prev l).map aa),h):=by
 refine Vm.aQ (nt:=9) rfl Ud (by simp) ?_
 have nU:(prev.map aa).length=16:=by simp[hp]
 have hs:=fun b X=> wO b (h++X) x l (BR.rd (hx.mono (Fw.app [] h X))) hl
 have ht:=fun b h0=> Im b h0 prev (cT l) hp (bO l)
 have mo:((cW prev (cT l)).map aa).length=16:=by simp[cW,bO]
 unfold eS
 simp only[B23,nU,hs,ht,mo,fq,abL,go_sem,simprocAttr]
 all_goals rfl
theorem Mt (b:Nat) (h:Hp) (k:Bs) (m:Int) (hk:k.length=16):run fns pr b 16 [.arr 22 (k.map aa),.s (.int .i64 m)] h=some (.arr 22 ((cW k [bt m]).map aa),h):=by
 refine Vm.aQ (nt:=10) rfl TY (by simp) ?_
 have dq:(k.map aa).length=16:=by simp[hk]
 have hrd:∀A B,Rd (h++[A,B,aT.cells none [aa (bt m)]]) (.ref (h.length+2) [] none 0 1 1) [bt m]:=fun A B=> BR.rd (ch (aJ _ _ 2) rfl)
 have xX:=fun b A B=> mz b (h++[A,B,aT.cells none [aa (bt m)]]) (.ref (h.length+2) [] none 0 1 1) k [bt m] hk (hrd A B) (by simp)
 have mo:((cW k [bt m]).map aa).length=16:=by simp[cW,bO]
 simp only[B16,dq,mH,mo,fq,abL,xX,go_sem,simprocAttr]
end Go.Proofs.YtggjbepemdhohaaGreat
namespace Go.Cl
structure Dk where
 now:List (Option Bs)
 bI:List (Option Bs)
 eh:Nat
 at_:Nat
 last:Bs
def Dk.new :Dk:=⟨List.replicate 10 none,List.replicate 10 none,0,0,[]⟩
def Dk.jN (n:Int) (l:Bs):Bool:=decide (0≤n)&& decide (n < 10)&& decide (l.length≤8192)
def Dk.put (D:Dk) (n:Nat) (l:Bs):Dk:= {D with now:=D.now.set n (some l),eh:=D.eh+1,at_:=n,last:=l}
def Dk.get (D:Dk) (n:Int):Option Bs:=if 0≤n∧n < 10 then D.now.getD n.toNat none else none
def Dk.sync (D:Dk):Dk:= {D with bI:=D.now,eh:=0}
def Dk.gL (D:Dk) (t:Int):List (Option Bs):=if 0 < D.eh∧0 < t then D.bI.set D.at_ (some (D.last.take t.toNat)) else D.bI
def Dk.iU (D:Dk) (t:Int):Dk:= {D with now:=D.gL t,bI:=D.gL t,eh:=0}
def Dk.copy (D:Dk):Dk:=⟨D.now,D.now,0,0,[]⟩
def flip (l:Bs) (k:Nat):Bs:=l.set k (l.getD k 0 ^^^ 1)
def Dk.turns (D:Dk) (n k:Int):Bool:=decide (0≤n)&& decide (n < 10)&& decide (0≤k)&& decide (k <((D.now.getD n.toNat none).getD []).length)
def Dk.Ri (D:Dk) (n k:Nat):Dk:= {D with now:=D.now.set n (some (flip ((D.now.getD n none).getD []) k)),bI:=D.bI.set n (some (flip ((D.now.getD n none).getD []) k))}
structure Dk.OK (D:Dk):Prop where
 now:D.now.length=10
 bI:D.bI.length=10
 at_:D.at_ < 10
 ns:∀n,((D.now.getD n none).getD []).length≤8192
 ls:∀n,((D.bI.getD n none).getD []).length≤8192
 last:D.last.length≤8192
theorem yL (n k:Nat):(List.replicate n (none:Option Bs)).getD k none=none:=by
 rw[acU,ad8];split <;> rfl
theorem Dk.xi :Dk.new.OK:=⟨by simp[Dk.new],by simp[Dk.new],by simp[Dk.new],fun n=> by simp only[Dk.new,yL];simp,fun n=> by simp only[Dk.new,yL];simp,by simp[Dk.new]⟩
theorem tm {α:Type} (l:List α) (i j:Nat) (x d:α):(l.set i x).getD j d=if i=j∧i < l.length then x else l.getD j d:=by
 simp only[acU,acs]
 by_cases h:i=j
 ·subst h
  by_cases h2:i < l.length <;> simp[h2]
 ·simp[h]
theorem kL {l:List (Option Bs)} (h:∀n,((l.getD n none).getD []).length≤8192) (i:Nat) {x:Bs} (hx:x.length≤8192):∀n,(((l.set i (some x)).getD n none).getD []).length≤8192:=by
 intro n
 rw[tm]
 split
 ·exact hx
 ·exact h n
theorem Dk.I3 {D:Dk} (h:D.OK) {n:Nat} {l:Bs} (hn:n < 10) (hl:l.length≤8192):(D.put n l).OK:=
 ⟨by simp[Dk.put,h.now],h.bI,hn,kL h.ns n hl,h.ls,hl⟩
theorem Dk.xj {D:Dk} (h:D.OK):D.sync.OK:=⟨h.now,h.now,h.at_,h.ns,h.ns,h.last⟩
theorem Dk.rV {D:Dk} (h:D.OK) (t:Int):(D.gL t).length=10∧∀n,(((D.gL t).getD n none).getD []).length≤8192:=by
 unfold Dk.gL
 split
 ·exact ⟨by simp[h.bI],kL h.ls _ (by have:=h.last;simp;omega)⟩
 ·exact ⟨h.bI,h.ls⟩
theorem Dk.I4 {D:Dk} (h:D.OK) (t:Int):(D.iU t).OK:=⟨(D.rV h t).1,(D.rV h t).1,h.at_,(D.rV h t).2,(D.rV h t).2,h.last⟩
theorem Dk.pj {D:Dk} (h:D.OK) (n k:Nat):(D.Ri n k).OK:=
 ⟨by simp[Dk.Ri,h.now],by simp[Dk.Ri,h.bI],h.at_,kL h.ns n (by simp[flip];exact h.ns n),kL h.ls n (by simp[flip];exact h.ns n),h.last⟩
end Go.Cl
namespace Go.Proofs.YtggjbepemdhohaaGreat.Dsk
open Go Go.Vm Go.Proofs Go.Cl Go.Proofs.YtggjbepemdhohaaGreat
noncomputable abbrev R (b:Nat):CF:=run fns pr b
theorem En (b:Nat) (vs:List V) (h:Hp):R b 89 vs h=dD vs h:=gQ b h vs
theorem Mu {b:Nat} {h:Hp} {x:V} {l:Bs} (hb:BR h x l) (hl:l.length≤140737488355328):run fns pr b 89 [x] h=some (cv h l,h++ct l):=by
 rw[gQ];exact sM hb hl
theorem I5 (b:Nat) (h:Hp) (n:Int):R b 104 [.s (.int .i64 n)] h=some (.s (.bool (decide (0≤n)&& decide (n < 10))),h):=by
 refine Vm.aQ (nt:=9) rfl Pl (by simp) ?_
 by_cases h0:0≤n
 ·simp only[Lu,go_sem,simprocAttr,h0]
 ·simp only[Lu,go_sem,simprocAttr,h0]
def SlR (h:Hp) (v:V) (s:Option Bs):Prop:=∃x,v= .st 99 [.s (.bool s.isSome),x]∧BR h x (s.getD [])
def uW (h:Hp) (vs:List V) (ss:List (Option Bs)):Prop:=vs.length=ss.length∧∀(i:Nat) v s,vs[i]? =some v→ss[i]? =some s→SlR h v s
theorem SlR.mono {S:List Nat} {h h':Hp} {v:V} {s:Option Bs} (hs:SlR h v s) (f:Fw S h h'):SlR h' v s:=by
 obtain ⟨x,h1,h2⟩:=hs;exact ⟨x,h1,h2.mono f⟩
theorem uW.mono {S:List Nat} {h h':Hp} {v:List V} {s:List (Option Bs)} (hs:uW h v s) (f:Fw S h h'):uW h' v s:=
 ⟨hs.1,fun i v s h1 h2=>(hs.2 i v s h1 h2).mono f⟩
theorem uW.set {h:Hp} {vs:List V} {ss:List (Option Bs)} {v:V} {s:Option Bs} (hs:uW h vs ss) (hv:SlR h v s) (i:Nat):uW h (vs.set i v) (ss.set i s):=by
 refine ⟨by simp[hs.1],fun j w t h1 h2=> ?_⟩
 rw[acs] at h1 h2
 split at h1
 ·rename_i he;subst he
  rw[if_pos rfl] at h2
  split at h1
  ·cases h1;rw[if_pos (by rw[←hs.1];assumption)] at h2;cases h2;exact hv
  ·cases h1
 ·rename_i he
  rw[if_neg he] at h2
  exact hs.2 j w t h1 h2
theorem uW.get {h:Hp} {vs:List V} {ss:List (Option Bs)} (hs:uW h vs ss) {i:Nat} (hi:i < ss.length):∃x,vs[i]? =some (.st 99 [.s (.bool (ss.getD i none).isSome),x])∧BR h x ((ss.getD i none).getD []):=by
 have h1:vs[i]? =some (vs[i]'(by rw[hs.1];exact hi)):=abE (by rw[hs.1];exact hi)
 have h2:ss[i]? =some ss[i]:=abE hi
 obtain ⟨x,h3,h4⟩:=hs.2 i _ _ h1 h2
 rw[acU,h2]
 exact ⟨x,by rw[h1,h3];rfl,h4⟩
def DR (h:Hp) (id:Nat) (D:Dk):Prop:=∃nv lv x,h[id]? =some (.cells (some 102) [.st 102 [.arr 101 nv,.arr 101 lv,.s (.int .i64 D.eh),.s (.int .i64 D.at_),x]])∧
 uW h nv D.now∧uW h lv D.bI∧BR h x D.last∧D.OK
theorem DR.mono {S:List Nat} {h h':Hp} {id:Nat} {D:Dk} (hd:DR h id D) (f:Fw S h h') (hi:id∉S):DR h' id D:=by
 obtain ⟨nv,lv,x,h1,h2,h3,h4,h5⟩:=hd
 exact ⟨nv,lv,x,f.cH _ _ h1 hi,h2.mono f,h3.mono f,h4.mono f,h5⟩
theorem DR.lt {h:Hp} {id:Nat} {D:Dk} (hd:DR h id D):id < h.length:=by
 obtain ⟨nv,lv,x,h1,_⟩:=hd;exact q6z h1
theorem DR.ok {h:Hp} {id:Nat} {D:Dk} (hd:DR h id D):D.OK:=by
 obtain ⟨nv,lv,x,_,_,_,_,h⟩:=hd;exact h
def Z60 :V:= .st 99 [.s (.bool false),.aq false none []]
def Z61 :V:= .st 99 [.s (.bool false),.aq true none []]
theorem xi (b:Nat) (h:Hp):∃v h',R b 17 [] h=some (v,h')∧v= .ptr h.length [0] 1∧DR h' h.length Dk.new∧Fw [] h h':=by
 refine Vm.eU (nt:=3) rfl T0 (by simp) ?_
 simp only[B17,go_sem,simprocAttr]
 refine ⟨⟨List.replicate 10 Z61,List.replicate 10 Z61,_,aS _ _,?_,?_,oN _ _,Dk.xi⟩,Fw.app _ _ _⟩
 all_goals
   refine ⟨by simp[Dk.new],fun i v s h1 h2=> ?_⟩
   simp only[Dk.new,ad8] at h1 h2
   split at h1
   ·rename_i hi
    rw[if_pos hi] at h2
    cases h1;cases h2
    exact ⟨_,rfl,oN _ _⟩
   ·cases h1
theorem CR (b:Nat) (h:Hp) (y:V) (l:Bs) (hb:b≤h.length) (hy:BR h y l) (hl:l.length≤140737488355328):∃v h',R b 105 [y] h=some (v,h')∧SlR h' v (some l)∧Fw [] h h'∧
 (l≠[]→∃k,h.length≤k∧v= .st 99 [.s (.bool true),.ref k [] none 0 l.length l.length]∧h'[k]? =some (.cells none (l.map aa))):=by
 refine Vm.eU (nt:=6) rfl Po (by simp) ?_
 obtain ⟨x,t,hc,hx,fV⟩:=I6 (h:=h++[.cells (some 99) [Z60]]) (hy.mono (Fw.app [] _ _)) hl
 have bh:=En b [y] (h++[.cells (some 99) [Z60]])
 rw[hc] at bh
 unfold Z60 at bh
 simp only[Pm,go_sem,simprocAttr,bh,abO,hx.ty,hx.aw,hb]
 refine ⟨⟨x,rfl,?_⟩,Fw.app _ _ _,fun da=> ?_⟩
 ·rcases fV with ⟨rfl,rfl,rfl⟩ | ⟨rfl,rfl⟩
  ·exact oN _ _
  ·refine ch ?_ rfl
   rw[abI,aJ];rfl
 ·rcases fV with ⟨rfl,rfl,rfl⟩ | ⟨rfl,rfl⟩
  ·exact absurd rfl da
  ·refine ⟨_,?_,rfl,?_⟩
   ·simp
   ·rw[abI,aJ];rfl
theorem DR.fw {h:Hp} {id:Nat} {D:Dk} (hd:DR h id D) (es:List V):Fw [id] h (h.set id (.cells (some 102) es)):=by
 obtain ⟨nv,lv,x,hg,_⟩:=hd
 exact Fw.set (by simp) hg
theorem Rj (b:Nat) (h:Hp) (id:Nat) (D:Dk) (n:Int) (y:V) (l:Bs) (hb:b≤id) (hd:DR h id D) (hy:BR h y l) (hl:l.length≤140737488355328) (hp:D.eh < 4611686018427387904):
 ∃v h',R b 56 [.ptr id [0] 1,.s (.int .i64 n),y] h=some (v,h')∧v= .s (.bool (Dk.jN n l))∧DR h' id (if Dk.jN n l=true then D.put n.toNat l else D)∧Fw [id] h h':=by
 have hr:=I5 b h n
 have hly:=fun h0=> hy.bG (cf:=run fns pr b) (base:=b) (h:=h0)
 refine Vm.eU (nt:=38) rfl Vi (by simp) ?_
 by_cases ht:Dk.jN n l=true
 ·have ht':=ht
  simp only[Dk.jN,abH,decide_eq_true_eq] at ht'
  obtain ⟨⟨h0,h1⟩,h2⟩:=ht'
  obtain ⟨m,rfl⟩:∃m:Nat,n=m:=⟨n.toNat,by omega⟩
  have hle:¬(8192:Int)< l.length:=by omega
  obtain ⟨v1,k1,e1,yK,f1,_⟩:=CR b h y l (by have:=hd.lt;omega) hy hl
  have hd1:=hd.mono f1 (by simp)
  have k9:=hd1.fw
  obtain ⟨nv,lv,x,hg,r1,r2,r3,r4⟩:=hd
  have cS:=f1.cH _ _ hg (by simp)
  obtain ⟨x0,hx0,_⟩:=r1.get (i:=m) (by rw[r4.now];omega)
  have nV:(m:Int)< nv.length:=by rw[r1.1,r4.now];omega
  obtain ⟨xs,rfl,nS⟩:=yK
  have hw:=q18z hp
  have aai:=q6z cS
  have Rk:=r3.ty
  have my:=fun es=> Mu (b:=b) (h:=k1.set id (.cells (some 102) es)) (x:=y) ((hy.mono f1).mono (k9 es)) hl
  simp only[B56,go_sem,simprocAttr,hr,hly,h0,h1,hle,e1,hg,Ah,cS,nV,hx0,hb,hw,aai,my,OG,yB,Rk]
  have F:=fun es=> f1.mono (T:=[id]) (by simp) |>.trans ((k9 es).trans (Fw.app [id] _ (ct l)))
  have F1:=fun es=>((k9 es).trans (Fw.app [id] _ (ct l)))
  refine ⟨by rw[ht],?_,F _⟩
  rw[if_pos ht]
  refine ⟨_,_,_,q10z (q9z cS) _,((r1.mono (F _)).set ⟨xs,rfl,nS.mono (F1 _)⟩ m),r2.mono (F _),?_,Dk.I3 r4 (by omega) h2⟩
  exact Rl (by rw[adf,adf]) l
 ·have ht':=ht
  simp only[adu] at ht'
  simp only[ht',abP,if_false]
  by_cases h0:0≤n
  ·by_cases h1:n < 10
   ·have hle:(8192:Int)< l.length:=by simp[Dk.jN,h0,h1] at ht';omega
    simp only[B56,go_sem,simprocAttr,hr,hly,h0,h1,hle]
    exact ⟨hd,Fw.refl _ _⟩
   ·simp only[B56,go_sem,simprocAttr,hr,hly,h0,h1]
    exact ⟨hd,Fw.refl _ _⟩
  ·simp only[B56,go_sem,simprocAttr,hr,hly,h0]
   exact ⟨hd,Fw.refl _ _⟩
theorem rW (b:Nat) (h:Hp) (id:Nat) (D:Dk) (hb:b≤id) (hd:DR h id D):∃v h',R b 57 [.ptr id [0] 1] h=some (v,h')∧v= .bM []∧DR h' id D.sync∧Fw [id] h h':=by
 refine Vm.eU (nt:=12) rfl Vk (by simp) ?_
 have k9:=hd.fw
 obtain ⟨nv,lv,x,hg,r1,r2,r3,r4⟩:=hd
 have cF:=q6z hg
 simp only[B57,go_sem,simprocAttr,hg,hb,cF]
 exact ⟨⟨_,_,_,q9z hg,r1.mono (k9 _),r1.mono (k9 _),r3.mono (k9 _),Dk.xj r4⟩,k9 _⟩
theorem I7 (b:Nat) (h:Hp) (id:Nat) (D:Dk) (t:Int) (hb:b≤id) (hd:DR h id D):∃v h',R b 106 [.ptr id [0] 1,.s (.int .i64 t)] h=some (v,h')∧v= .bM []∧DR h' id (D.iU t)∧Fw [id] h h':=by
 refine Vm.eU (nt:=43) rfl Pq (by simp) ?_
 have k9:=hd.fw
 have hd0:=hd
 obtain ⟨nv,lv,x,hg,r1,r2,r3,r4⟩:=hd
 have cF:=q6z hg
 have Rk:=r3.ty
 let es:List V:=[.st 102 [.arr 101 lv,.arr 101 lv,.s (.int .i64 D.eh),.s (.int .i64 D.at_),x]]
 let h1:=h.set id (.cells (some 102) es)
 have d1:DR h1 id {D with now:=D.bI}:=⟨_,_,_,q9z hg,r2.mono (k9 _),r2.mono (k9 _),r3.mono (k9 _),⟨r4.bI,r4.bI,r4.at_,r4.ls,r4.ls,r4.last⟩⟩
 by_cases hp:0 < D.eh
 ·by_cases ht:0 < t
  ·obtain ⟨m,rfl⟩:∃m:Nat,t=m:=⟨t.toNat,by omega⟩
   have nC:(0:Int)< D.eh:=by omega
   have Mv:min (m:Int) (D.last.length:Int)=((min m D.last.length:Nat):Int):=by omega
   have pA:BR h1 x D.last:=r3.mono (k9 es)
   have sH:=fun h0=> pA.bG (cf:=run fns pr b) (base:=b) (h:=h0)
   obtain ⟨y,hy,hyb⟩:=pA.hi (k:= .i64) (r:=min m D.last.length) (aeP _ _)
   have mi:=r4.last
   obtain ⟨v2,h2,e2,⟨xs,rfl,nS⟩,f2,_⟩:=CR b h1 y _ (by have:=hd0.lt;simp[h1];omega) hyb (by simp;omega)
   have d2:=d1.mono f2 (by simp)
   have XK:=d2.fw
   have oH:=f2.cH _ _ (q9z hg) (by simp)
   have aaj:=q6z oH
   have hat:=r4.at_
   obtain ⟨x0,hx0,_⟩:=r2.get (i:=D.at_) (by rw[r4.bI];omega)
   have nV:(D.at_:Int)< lv.length:=by rw[r2.1,r4.bI];omega
   have zX:(0:Int)≤D.at_:=by omega
   simp only[h1,es] at hy e2 oH
   simp only[Ho,go_sem,simprocAttr,hg,hb,cF,nC,ht,Rk,sH,Mv,hy,e2,Ah,oH,hx0,nV,aaj,zX]
   have G:=fun es'=>((k9 es).trans (f2.mono (T:=[id]) (by simp))).trans (XK es')
   have d3:=(⟨_,_,_,q9z oH,((r2.mono (G _)).set ⟨xs,rfl,nS.mono (XK _)⟩ D.at_),r2.mono (G _),r3.mono (G _),
     ⟨by simp[r4.bI],r4.bI,r4.at_,kL r4.ls _ (by simp;omega),r4.ls,r4.last⟩⟩:DR (h2.set id (.cells (some 102) [.st 102 [.arr 101 (lv.set D.at_ (.st 99 [.s (.bool true),xs])),.arr 101 lv,.s (.int .i64 D.eh),.s (.int .i64 D.at_),x]])) id ⟨D.bI.set D.at_ (some (D.last.take (min m D.last.length))),D.bI,D.eh,D.at_,D.last⟩)
   obtain ⟨v4,h4,e4,rfl,d4,f4⟩:=rW b _ id _ hb d3
   simp only[go_sem,simprocAttr,e4]
   refine ⟨?_,(G _).trans f4⟩
   have:D.iU m=Dk.sync ⟨D.bI.set D.at_ (some (D.last.take (min m D.last.length))),D.bI,D.eh,D.at_,D.last⟩:=by
     have:D.last.take (min m D.last.length)=D.last.take m:=by rw[←List.take_eq_take_min]
     simp only[Dk.iU,Dk.gL,Dk.sync,hp,ht,and_self,if_true,aca,this]
   rw[this];exact d4
  ·obtain ⟨v2,h2,e2,rfl,d2,f2⟩:=rW b h1 id _ hb d1
   have nC:(0:Int)< D.eh:=by omega
   simp only[h1,es] at e2
   simp only[Ho,go_sem,simprocAttr,hg,hb,cF,nC,ht,e2]
   refine ⟨?_,(k9 es).trans f2⟩
   have:D.iU t=Dk.sync {D with now:=D.bI}:=by simp[Dk.iU,Dk.gL,Dk.sync,ht]
   rw[this];exact d2
 ·obtain ⟨v2,h2,e2,rfl,d2,f2⟩:=rW b h1 id _ hb d1
  have nC:¬(0:Int)< D.eh:=by omega
  simp only[h1,es] at e2
  simp only[Ho,go_sem,simprocAttr,hg,hb,cF,nC,e2]
  refine ⟨?_,(k9 es).trans f2⟩
  have:D.iU t=Dk.sync {D with now:=D.bI}:=by simp[Dk.iU,Dk.gL,Dk.sync,hp]
  rw[this];exact d2
end Go.Proofs.YtggjbepemdhohaaGreat.Dsk
namespace Go.Proofs.YtggjbepemdhohaaGreat
open Go Go.Vm Go.Proofs Go.Cl
set_option maxRecDepth 100000
def mU (q:pw):Bs:=[bt q.role]++aE q.aI.toNat++[bt q.to,bt q.vs.length]++q.vs.flatMap bg
def gd (s:bF) (n:Nat):Bs:=(List.range n).flatMap fun i=> mU (s.p i)
def kM (s:bF):Bs:=[bt s.mem,bt s.bL]++gd s 16
theorem qV (s:bF) (n:Nat):gd s (n+1)=gd s n++mU (s.p n):=by simp[gd,adt]
theorem q31z {v:ae} (hw:v.wf) (hr:aN v=true):(bg v).length≤112:=by
 have h1:=q14z hr
 obtain ⟨w1,w2,w3,w4,w5,w6,w7,w8,w9⟩:=hw
 simp[bg];omega
theorem q30z {l:List ae} (h:∀v∈l,aN v=true∧v.wf):(l.flatMap bg).length≤112 * l.length:=by
 induction l with
 | nil=> simp
 | cons v l ih=>
   have h1:=ih fun w hw=> h w (by simp[hw])
   have h2:=q31z (h v (by simp)).2 (h v (by simp)).1
   simp only[adU,abI,ab3];omega
theorem Eo {s:bF} {i:Nat} {q:pw} (h:POk s i q):(mU q).length≤459:=by
 have:=q30z (l:=q.vs) fun v hv=>⟨(h.vs v hv).1,(h.vs v hv).2.1⟩
 have:=h.len
 simp only[mU,abI,ab3,aci,aF];omega
theorem q32z {s:bF} (hk:mQ s):∀n,n≤16→(gd s n).length≤459 * n
 | 0,_=> by simp[gd]
 | n+1,hn=> by
   have h1:=q32z hk n (by omega)
   have h2:=Eo (hk.p n (by omega))
   rw[qV,abI];omega
theorem I8 (b:Nat) (h:Hp) (m:Nat) (s:bF) (F:List Nat) (hs:jf h m s F) (hk:mQ s):run fns pr b 64 [.ptr m [0] 1] h=some (.aq false none ((kM s).map aa),h):=by
 refine Vm.aQ (nt:=72) rfl Vy (by simp) ?_
 have aak:=fun b=> AY b h m s F hs
 have N0:iS h (h++[.cells none [aa (bt s.mem),aa (bt s.bL)]]) (.ref h.length [] none 0 2 2) ([bt s.mem,bt s.bL]++gd s 0):=⟨h.length,.inr ⟨rfl,aS _ _⟩,abJ _,Fw.app _ _ _⟩
 simp only[B64,On,Om,Ol,aak,mH,go_sem,simprocAttr]
 refine bo (fun q e H=>∃(i:Nat) (v:V),q=16 - i∧i≤16∧e 27= .s (.int .i64 (i:Nat))∧e 0= .ptr m [0] 1∧e 5=v∧iS h H v ([bt s.mem,bt s.bL]++gd s i))
   (fun e H=>∃v,e 5=v∧iS h H v ([bt s.mem,bt s.bL]++gd s 16)) 16 _ _ ⟨0,_,rfl,by omega,rfl,rfl,rfl,N0⟩ ?_ ?_
 ·rintro q e H ⟨i,v,rfl,hi,e27,e0,e5,N⟩
  by_cases cd:i < 16
  ·have cj:(i:Int)< 16:=by omega
   have w3:IntKind.i64.wrap ((i:Int)+1)=((i+1:Nat):Int):=q18z (by omega)
   have ok:=hk.p i cd
   have nU:=q32z hk i (by omega)
   have x9:=q30z (l:=(s.p i).vs) fun v hv=>⟨(ok.vs v hv).1,(ok.vs v hv).2.1⟩
   have ho4:=ok.len
   have hsH:jf H m s F:=hs.mono N.fw (by simp)
   have r1:=fun b=> CO b H m i s F hsH cd
   have r2:=fun b=> ta b H m i s F hsH hk cd
   obtain ⟨ep,hep⟩:∃n:Nat,(s.p i).aI=n:=⟨(s.p i).aI.toNat,by have:=ok.e1;omega⟩
   have aal:ep < 18446744073709551616:=by have:=ok.e2;omega
   have hle:=N.fw.len
   obtain ⟨v1,H1,a1,N1⟩:=(N.mono (Fw.app [] H [.cells none [aa (bt (s.p i).role)]])).app (y:= .ref H.length [] none 0 1 1) (m:=[bt (s.p i).role]) (BR.src (ch (by simp) rfl)) (by simp;omega)
   have sH:h.length≤H1.length:=N1.fw.len
   have n1:=de h.length H1 ep aal sH
   obtain ⟨v2,H2,a2,N2⟩:=(N1.mono (Fw.app [] H1 [.cells none ((aE ep).map aa)])).app (y:= .ref H1.length [] none 0 8 8) (m:=aE ep) (BR.src (ch (by simp) (aF _))) (by simp;omega)
   obtain ⟨v3,H3,a3,N3⟩:=(N2.mono (Fw.app [] H2 [.cells none [aa (bt (s.p i).to),aa (bt (s.p i).vs.length)]])).app (y:= .ref H2.length [] none 0 2 2) (m:=[bt (s.p i).to,bt (s.p i).vs.length]) (BR.src (ch (by simp) rfl)) (by simp;omega)
   have kF:∀cf base H,aB cf base H .len [.aq false (some 37) ((s.p i).vs.map ae.enc)]=some (.s (.int .i64 ((s.p i).vs.length:Nat)),H):=fun cf base H=> by rw[qe];simp
   rw[hep] at r1
   simp only[e27,e0,e5,cj,r1,r2,mH,a1,n1,a2,a3,kF,go_sem,simprocAttr]
   generalize wT:[bt s.mem,bt s.bL]++gd s i++[bt (s.p i).role]++aE ep++[bt (s.p i).to,bt (s.p i).vs.length]=base0 at N3
   have hb0l:base0.length≤8000:=by rw[←wT];simp;omega
   have aam:base0++(s.p i).vs.flatMap bg=[bt s.mem,bt s.bL]++gd s (i+1):=by
     rw[←wT,qV,mU,hep]
     simp
   have pT:=ok.vs
   generalize (s.p i).vs=aj at *
   refine bo (fun q e H=>∃(j:Nat) (v:V),q=aj.length - j∧j≤aj.length∧e 57= .s (.int .i64 (j:Nat))∧e 56= .s (.int .i64 (aj.length:Nat))∧e 55= .aq false (some 37) (aj.map ae.enc)∧e 27= .s (.int .i64 (i:Nat))∧e 0= .ptr m [0] 1∧e 5=v∧iS h H v (base0++(aj.take j).flatMap bg))
     (fun e H=>∃v,e 27= .s (.int .i64 (i:Nat))∧e 0= .ptr m [0] 1∧e 5=v∧iS h H v (base0++aj.flatMap bg)) aj.length _ _ ⟨0,v3,rfl,by omega,rfl,rfl,rfl,e27,e0,rfl,by simpa using N3⟩ ?_ ?_
   ·rintro q e H ⟨j,v,rfl,hj,e57,e56,e55,e27,e0,e5,N⟩
    by_cases cv:j < aj.length
    ·have cj:(j:Int)<((aj.length:Nat):Int):=by omega
     have hjv:aj[j]? =some aj[j]:=abE cv
     have jF:SR H (.aq false (some 37) (aj.map ae.enc)) (some 37) (aj.map ae.enc):= .inl ⟨false,rfl⟩
     have i1:=fun cf base=> jF.cZ (cf:=cf) (base:=base) (k:= .i64) (i:=j) (by simpa using cv)
     have i2:=fun cf base=> jF.iy (cf:=cf) (base:=base) (i:=j) (v:=aj[j].enc) (by rw[abT,hjv];rfl) rfl
     have hle:=N.fw.len
     obtain ⟨m1,m2,_⟩:=pT _ (acZ cv)
     have au:=q31z m2 m1
     have hp:=fun h0=> Is h.length h0 false aj[j] m2
     rw[←ae.kG,m1,if_pos rfl] at hp
     have hfj:=q30z (l:=aj.take j) fun v hv=>⟨(pT v (abV hv)).1,(pT v (abV hv)).2.1⟩
     obtain ⟨v5,H5,a5,N5⟩:=(N.mono (Fw.app [] H [.cells (some 37) [aj[j].enc]])).app (y:= .aq false none ((bg aj[j]).map aa)) (m:=bg aj[j]) rfl (by rw[abY] at hfj;simp only[abI];omega)
     have qP:base0++(aj.take j).flatMap bg++bg aj[j]=base0++(aj.take (j+1)).flatMap bg:=by
       rw[acb cv,adD];simp
     rw[qP] at N5
     have w3:IntKind.i64.wrap ((j:Int)+1)=((j+1:Nat):Int):=q17z (by omega)
     simp only[e57,e56,e55,e27,e0,e5,cj,i1,i2,hle,bq,bu,hp,a5,w3,go_sem,simprocAttr]
     exact ⟨aj.length - (j+1),by omega,j+1,v5,rfl,by omega,rfl,rfl,N5⟩
    ·have cj:¬(j:Int)<((aj.length:Nat):Int):=by omega
     obtain rfl:j=aj.length:=by omega
     rw[abG (abJ _)] at N
     simp only[e57,e56,e55,e27,e0,e5,cj,go_sem,simprocAttr]
     exact ⟨v,rfl,N⟩
   ·rintro e H ⟨v,e27,e0,e5,N⟩
    rw[aam] at N
    simp only[e27,e0,e5,w3,go_sem,simprocAttr]
    exact ⟨16 - (i+1),by omega,i+1,v,rfl,by omega,rfl,rfl,N⟩
  ·have cj:¬(i:Int)< 16:=by omega
   obtain rfl:i=16:=by omega
   simp only[e27,e0,e5,cj,go_sem,simprocAttr]
   exact ⟨v,rfl,N⟩
 ·rintro e H ⟨v,e5,N⟩
  have df:=N.o4 (n:=h.length) (by simp)
  have dQ:=N.fw.take
  simp only[e5,df,dQ,kM,go_sem,simprocAttr]
structure aY where
 mem:Int
 bL:Int
 key:Bs
 is:Int
 st:bF
 dk:Dk
 r:ah
 steps:Int
 cO:Int
 gL:Int
def aY.down (D:aY) (t:Int):aY:= {D with is:=2,cO:= -1,dk:=D.dk.iU t}
def aY.step (D:aY):Bool×aY:=if D.cO=0 then (false,D.down D.gL) else (true, {D with cO:=if 0 < D.cO then D.cO - 1 else D.cO,steps:=D.steps+1})
def aY.put (D:aY) (n:Int) (l:Bs):aY:= {D with dk:=if Dk.jN n l=true then D.dk.put n.toNat l else D.dk}
def aY.lay (D:aY) (n:Int) (l:Bs):Bool×aY:=
 if D.step.1=false then (false,D.step.2) else if (D.step.2.put n l).step.1=false then (false,(D.step.2.put n l).step.2)
 else (true, {(D.step.2.put n l).step.2 with dk:=(D.step.2.put n l).step.2.dk.sync})
def iJ (D:aY) (sp:V) (did:Nat):List V:=[.st 65 [.s (.int .i64 D.mem),.s (.int .i64 D.bL),.arr 22 (D.key.map aa),.s (.int .i64 D.is),sp,.ptr did [0] 1,D.r.enc,.s (.int .i64 D.steps),.s (.int .i64 D.cO),.s (.int .i64 D.gL)]]
structure vA (h:Hp) (id:Nat) (D:aY) (F:List Nat) (did:Nat) (sp:V) (sid:Nat) (Fs:List Nat):Prop where
 o:h[id]? =some (.cells (some 65) (iJ D sp did))
 d:Dsk.DR h did D.dk
 s:D.is=1→sp= .ptr sid [0] 1∧jf h sid D.st Fs
 ty:sp.ty=none
 so:sp.aw=true
 f:F=id::did::Fs
 n1:id≠did
 n2:id∉Fs
 n3:did∉Fs
 fl:∀j∈F,j < h.length
 kl:D.key.length=16
def mV (h:Hp) (id:Nat) (D:aY) (F:List Nat):Prop:=∃did sp sid Fs,vA h id D F did sp sid Fs
theorem vA.mono {S F Fs:List Nat} {h h':Hp} {id did sid:Nat} {D:aY} {sp:V} (hd:vA h id D F did sp sid Fs) (f:Fw S h h') (hS:∀j∈F,j∉S):vA h' id D F did sp sid Fs:=by
 obtain ⟨o,d,s,ty,so,rfl,n1,n2,n3,fl,kl⟩:=hd
 exact ⟨f.cH _ _ o (hS _ (by simp)),d.mono f (hS _ (by simp)),fun hi=>⟨(s hi).1,(s hi).2.mono f fun j hj=> hS _ (by simp[hj])⟩,ty,so,rfl,n1,n2,n3,fun j hj=> f.lt (fl j hj),kl⟩
theorem mV.mono {S F:List Nat} {h h':Hp} {id:Nat} {D:aY} (hd:mV h id D F) (f:Fw S h h') (hS:∀j∈F,j∉S):mV h' id D F:=by
 obtain ⟨did,sp,sid,Fs,hd⟩:=hd
 exact ⟨did,sp,sid,Fs,hd.mono f hS⟩
theorem mV.lt {F:List Nat} {h:Hp} {id:Nat} {D:aY} (hd:mV h id D F):∀j∈F,j < h.length:=by
 obtain ⟨did,sp,sid,Fs,hd⟩:=hd
 exact hd.fl
theorem mV.mem {F:List Nat} {h:Hp} {id:Nat} {D:aY} (hd:mV h id D F):id∈F:=by
 obtain ⟨did,sp,sid,Fs,hd⟩:=hd
 rw[hd.f];simp
theorem mV.app {F:List Nat} {h:Hp} {id:Nat} {D:aY} (hd:mV h id D F) (X:Hp):mV (h++X) id D F:=hd.mono (Fw.app [] h X) (by simp)
theorem vA.Mw {F Fs:List Nat} {h:Hp} {id did sid:Nat} {D D':aY} {sp:V} (hd:vA h id D F did sp sid Fs) (h1:D'.dk=D.dk) (h2:D'.is=1→D.is=1∧D'.st=D.st) (h3:D'.key.length=16):
 vA (h.set id (.cells (some 65) (iJ D' sp did))) id D' F did sp sid Fs∧Fw F h (h.set id (.cells (some 65) (iJ D' sp did))):=by
 have f:Fw [id] h (h.set id (.cells (some 65) (iJ D' sp did))):=Fw.set (by simp) hd.o
 obtain ⟨o,d,s,ty,so,rfl,n1,n2,n3,fl,kl⟩:=hd
 refine ⟨⟨q9z o,by rw[h1];exact d.mono f (by simp[ado n1]),fun hi=> ?_,ty,so,rfl,n1,n2,n3,fun j hj=> f.lt (fl j hj),h3⟩,f.mono (by simp)⟩
 obtain ⟨a,b⟩:=h2 hi
 obtain ⟨c,e⟩:=s a
 exact ⟨c,by rw[b];exact e.mono f (fun j hj=> by simp;rintro rfl;exact n2 hj)⟩
theorem vA.Rm {F Fs:List Nat} {h h':Hp} {id did sid:Nat} {D:aY} {sp:V} {K:Dk} (hd:vA h id D F did sp sid Fs) (hk:Dsk.DR h' did K) (f:Fw [did] h h'):
 vA h' id {D with dk:=K} F did sp sid Fs∧Fw F h h':=by
 obtain ⟨o,d,s,ty,so,rfl,n1,n2,n3,fl,kl⟩:=hd
 exact ⟨⟨f.cH _ _ o (by simp[n1]),hk,fun hi=>⟨(s hi).1,(s hi).2.mono f (fun j hj=> by simp;rintro rfl;exact n3 hj)⟩,ty,so,rfl,n1,n2,n3,fun j hj=> f.lt (fl j hj),kl⟩,f.mono (by simp)⟩
theorem Mx (b:Nat) (h:Hp) (id:Nat) (D:aY) (F:List Nat) (t:Int) (hF:∀j∈F,b≤j) (hd:mV h id D F):
 ∃v h',run fns pr b 58 [.ptr id [0] 1,.s (.int .i64 t)] h=some (v,h')∧v= .bM []∧mV h' id (D.down t) F∧Fw F h h':=by
 obtain ⟨did,sp,sid,Fs,hd⟩:=hd
 refine Vm.eU (nt:=16) rfl Vn (by simp) ?_
 obtain ⟨h1,f1⟩:=hd.Mw (D':= {D with is:=2,cO:= -1}) rfl (fun h=> by cases h) hd.kl
 have pA:b≤id:=hF _ (by rw[hd.f];simp)
 have uX:b≤did:=hF _ (by rw[hd.f];simp)
 obtain ⟨v2,H2,hc,rfl,d2,f2⟩:=Dsk.I7 b _ did D.dk t uX h1.d
 obtain ⟨h3,f3⟩:=h1.Rm d2 f2
 have hg:=hd.o
 have jG:∀B,(h.set id B)[id]? =some B:=fun B=> q9z hg
 have cF:=q6z hg
 have dO:=hd.ty
 have ny:=hd.so
 simp only[iJ,Dsk.R] at hg hc
 simp only[B58,hg,jG,pA,cF,acM,dO,ny,hc,go_sem,simprocAttr]
 exact ⟨⟨did,sp,sid,Fs,h3⟩,f1.trans f3⟩
theorem rX (b:Nat) (h:Hp) (id:Nat) (D:aY) (F:List Nat) (hF:∀j∈F,b≤j) (hd:mV h id D F) (hs:0≤D.steps∧D.steps < 4611686018427387904) (hfu:D.cO≤9223372036854775807):
 ∃v h',run fns pr b 26 [.ptr id [0] 1] h=some (v,h')∧v= .s (.bool D.step.1)∧mV h' id D.step.2 F∧Fw F h h':=by
 have hdn:=Mx b h id D F D.gL hF hd
 obtain ⟨did,sp,sid,Fs,hd⟩:=hd
 refine Vm.eU (nt:=33) rfl Uj (by simp) ?_
 have hg:=hd.o
 have jG:∀B,(h.set id B)[id]? =some B:=fun B=> q9z hg
 have cF:=q6z hg
 have dO:=hd.ty
 have ny:=hd.so
 have pA:b≤id:=hF _ (by rw[hd.f];simp)
 have w1:IntKind.i64.wrap (D.steps+1)=D.steps+1:=wrap_i64 (by omega) (by omega)
 simp only[iJ] at hg
 unfold aY.step
 by_cases c0:D.cO=0
 ·rw[if_pos c0]
  obtain ⟨v2,H2,e2,rfl,d2,f2⟩:=hdn
  simp only[B26,hg,jG,pA,cF,acM,dO,ny,c0,e2,go_sem,simprocAttr]
  exact ⟨d2,f2⟩
 ·rw[if_neg c0]
  obtain ⟨h1,f1⟩:=hd.Mw (D':= {D with cO:=if 0 < D.cO then D.cO - 1 else D.cO,steps:=D.steps+1}) rfl (fun h=>⟨h,rfl⟩) hd.kl
  by_cases c1:0 < D.cO
  ·have w2:IntKind.i64.wrap (D.cO - 1)=D.cO - 1:=wrap_i64 (by omega) (by omega)
   simp only[c1,if_true,iJ] at h1 f1 ⊢
   simp only[B26,hg,jG,pA,cF,acM,dO,ny,c0,c1,w1,w2,go_sem,simprocAttr]
   exact ⟨⟨did,sp,sid,Fs,h1⟩,f1⟩
  ·simp only[c1,if_false,iJ] at h1 f1 ⊢
   simp only[B26,hg,jG,pA,cF,acM,dO,ny,c0,c1,w1,go_sem,simprocAttr]
   exact ⟨⟨did,sp,sid,Fs,h1⟩,f1⟩
theorem OJ (b:Nat) (h:Hp) (id:Nat) (D:aY) (F:List Nat) (hd:mV h id D F):run fns pr b 33 [.ptr id [0] 1] h=some (.s (.int .i64 D.is),h):=by
 obtain ⟨did,sp,sid,Fs,hd⟩:=hd
 have hg:=hd.o
 simp only[iJ] at hg
 refine Vm.aQ (nt:=7) rfl Ux (by simp) ?_
 simp only[B33,hg,go_sem,simprocAttr]
theorem yM (b:Nat) (h:Hp) (id:Nat) (D:aY) (F:List Nat) (hd:mV h id D F):run fns pr b 14 [.ptr id [0] 1] h=some (.s (.int .i64 D.steps),h):=by
 obtain ⟨did,sp,sid,Fs,hd⟩:=hd
 have hg:=hd.o
 simp only[iJ] at hg
 refine Vm.aQ (nt:=7) rfl TU (by simp) ?_
 simp only[B14,hg,go_sem,simprocAttr]
theorem qW (b:Nat) (h:Hp) (id:Nat) (D:aY) (F:List Nat) (hd:mV h id D F):run fns pr b 38 [.ptr id [0] 1] h=some (D.r.enc,h):=by
 obtain ⟨did,sp,sid,Fs,hd⟩:=hd
 have hg:=fun X=> q10z hd.o X
 simp only[iJ] at hg
 refine Vm.aQ (nt:=7) rfl UH (by simp) ?_
 simp only[B38,hg,ah.ef,ah.eg,ah.tj,abL,go_sem,simprocAttr]
def j2 (D:aY):Int:=if D.is=2 then 29 else if D.is=3 then 28 else 0
theorem I9 (b:Nat) (h:Hp) (id:Nat) (D:aY) (F:List Nat) (hd:mV h id D F):run fns pr b 19 [.ptr id [0] 1] h=some (.s (.int .i64 (j2 D)),h):=by
 obtain ⟨did,sp,sid,Fs,hd⟩:=hd
 have hg:=hd.o
 simp only[iJ] at hg
 refine Vm.aQ (nt:=11) rfl T5 (by simp) ?_
 unfold j2
 by_cases c2:D.is=2
 ·simp only[B19,hg,c2,go_sem,simprocAttr]
  all_goals rfl
 ·by_cases c3:D.is=3
  ·simp only[B19,hg,c2,c3,go_sem,simprocAttr]
   all_goals rfl
  ·simp only[B19,hg,c2,c3,go_sem,simprocAttr]
   all_goals rfl
def aY.CS (D:aY) (n t:Int):aY:= {D with cO:=max n (-1),gL:=t}
def aY.stop (D:aY):aY:=if D.is=1 then D.down 0 else D
structure oO (p:Nat) (N:Int) (D:aY):Prop where
 eh:D.dk.eh≤p
 s0:0≤D.steps
 s1:D.steps≤N
 f1:D.cO≤9223372036854775807
 gr:bw D.r=true
 gw:D.r.wf
 so:D.is=1→mQ D.st
 is:D.is=1∨D.is=2∨D.is=3
theorem oO.wk {p p':Nat} {N N':Int} {D:aY} (hk:oO p N D) (h1:p≤p') (h2:N≤N'):oO p' N' D:=
 ⟨acm hk.eh h1,hk.s0,Int.le_trans hk.s1 h2,hk.f1,hk.gr,hk.gw,hk.so,hk.is⟩
theorem oO.down {p:Nat} {N:Int} {D:aY} (hk:oO p N D) (t:Int):oO 0 N (D.down t):=
 ⟨abJ _,hk.s0,hk.s1,by simp[aY.down],hk.gr,hk.gw,fun h=> by simp[aY.down] at h,.inr (.inl rfl)⟩
theorem oO.step {p:Nat} {N:Int} {D:aY} (hk:oO p N D):oO p (N+1) D.step.2:=by
 unfold aY.step
 by_cases c:D.cO=0
 ·rw[if_pos c]
  exact (hk.down D.gL).wk (by omega) (by omega)
 ·rw[if_neg c]
  obtain ⟨h1,h2,h3,h4,h5,h6,h7,h8⟩:=hk
  exact ⟨h1,by simp only;omega,by simp only;omega,by simp only;split <;> omega,h5,h6,h7,h8⟩
theorem oO.put {p:Nat} {N:Int} {D:aY} (hk:oO p N D) (n:Int) (l:Bs):oO (p+1) N (D.put n l):=by
 obtain ⟨h1,h2,h3,h4,h5,h6,h7,h8⟩:=hk
 refine ⟨?_,h2,h3,h4,h5,h6,h7,h8⟩
 unfold aY.put
 simp only
 split
 ·simp only[Dk.put];omega
 ·omega
theorem oO.sync {p:Nat} {N:Int} {D:aY} (hk:oO p N D):oO 0 N {D with dk:=D.dk.sync}:=by
 obtain ⟨h1,h2,h3,h4,h5,h6,h7,h8⟩:=hk
 exact ⟨abJ _,h2,h3,h4,h5,h6,h7,h8⟩
theorem oO.XL {p:Nat} {N:Int} {D:aY} (hk:oO p N D) (hf:D.step.1=false):oO 0 N D.step.2:=by
 unfold aY.step at hf ⊢
 by_cases c:D.cO=0
 ·rw[if_pos c]
  exact hk.down D.gL
 ·rw[if_neg c] at hf;cases hf
theorem oO.lay {N:Int} {D:aY} (hk:oO 0 N D) (n:Int) (l:Bs):oO 0 (N+2) (D.lay n l).2:=by
 unfold aY.lay
 have k1:=hk.step
 cases c1:D.step.1 with
 | false=>
   rw[if_pos rfl]
   exact k1.wk (by omega) (by omega)
 | true=>
   rw[if_neg (by simp)]
   have k2:=k1.put n l
   have k3:=k2.step
   cases c3:(D.step.2.put n l).step.1 with
   | false=>
     rw[if_pos rfl]
     exact (k2.XL c3).wk (by omega) (by omega)
   | true=>
     rw[if_neg (by simp)]
     have:=k3.sync
     rwa [show N+1+1=N+2 by omega] at this
def aY.same (D E:aY):Prop:=E.mem=D.mem∧E.bL=D.bL∧E.key=D.key∧E.st=D.st∧E.r=D.r
theorem aY.jg (D:aY):D.same D.step.2∧(D.step.1=true→D.step.2.is=D.is):=by
 unfold aY.step aY.same
 by_cases c:D.cO=0
 ·simp[c,aY.down]
 ·simp[c]
theorem aY.pC (D:aY) (n:Int) (l:Bs):D.same (D.lay n l).2∧((D.lay n l).1=true→(D.lay n l).2.is=D.is):=by
 unfold aY.lay
 obtain ⟨⟨a1,a2,a3,a4,a5⟩,a6⟩:=aY.jg D
 cases c1:D.step.1 with
 | false=>
   rw[if_pos rfl]
   exact ⟨⟨a1,a2,a3,a4,a5⟩,fun h=> by cases h⟩
 | true=>
   rw[if_neg (by simp)]
   obtain ⟨⟨b1,b2,b3,b4,b5⟩,b6⟩:=aY.jg (D.step.2.put n l)
   have hs:D.same (D.step.2.put n l).step.2:=⟨b1.trans a1,b2.trans a2,b3.trans a3,b4.trans a4,b5.trans a5⟩
   cases c3:(D.step.2.put n l).step.1 with
   | false=>
     rw[if_pos rfl]
     exact ⟨hs,fun h=> by cases h⟩
   | true=>
     rw[if_neg (by simp)]
     exact ⟨hs,fun _=>(b6 c3).trans (a6 c1)⟩
theorem My (b:Nat) (h:Hp) (id:Nat) (D:aY) (F:List Nat) (did:Nat) (sp:V) (sid:Nat) (Fs:List Nat) (n:Int) (y:V) (l:Bs) (hF:∀j∈F,b≤j) (hd:vA h id D F did sp sid Fs) (hy:BR h y l) (hl:l.length≤140737488355328) (hp:D.dk.eh < 4611686018427387904):
 ∃h',run fns pr b 56 [.ptr did [0] 1,.s (.int .i64 n),y] h=some (.s (.bool (Dk.jN n l)),h')∧vA h' id (D.put n l) F did sp sid Fs∧Fw F h h':=by
 have uX:b≤did:=hF _ (by rw[hd.f];simp)
 obtain ⟨v,h',e,rfl,d,f⟩:=Dsk.Rj b h did D.dk n y l uX hd.d hy hl hp
 obtain ⟨h3,f3⟩:=hd.Rm d f
 exact ⟨h',e,h3,f3⟩
theorem Ja (b:Nat) (h:Hp) (id:Nat) (D:aY) (F:List Nat) (did:Nat) (sp:V) (sid:Nat) (Fs:List Nat) (hF:∀j∈F,b≤j) (hd:vA h id D F did sp sid Fs):
 ∃h',run fns pr b 57 [.ptr did [0] 1] h=some (.bM [],h')∧vA h' id {D with dk:=D.dk.sync} F did sp sid Fs∧Fw F h h':=by
 have uX:b≤did:=hF _ (by rw[hd.f];simp)
 obtain ⟨v,h',e,rfl,d,f⟩:=Dsk.rW b h did D.dk uX hd.d
 obtain ⟨h3,f3⟩:=hd.Rm d f
 exact ⟨h',e,h3,f3⟩
theorem Jb (b:Nat) (h:Hp) (id:Nat) (D:aY) (F:List Nat) (n:Int) (y:V) (l:Bs) (hF:∀j∈F,b≤j) (hd:mV h id D F) (N:Int) (hN:N < 1000000000) (hk:oO 0 N D) (hy:BR h y l) (hl:l.length≤140737488355328):
 ∃v h',run fns pr b 24 [.ptr id [0] 1,.s (.int .i64 n),y] h=some (v,h')∧v= .s (.bool (D.lay n l).1)∧mV h' id (D.lay n l).2 F∧Fw F h h':=by
 refine Vm.eU (nt:=25) rfl Uf (by simp) ?_
 have k1:=hk.step
 obtain ⟨v1,H1,e1,rfl,d1,f1⟩:=rX b h id D F hF hd ⟨hk.s0,by have:=hk.s1;omega⟩ hk.f1
 unfold aY.lay
 cases c1:D.step.1 with
 | false=>
   rw[c1] at e1
   rw[if_pos rfl]
   simp only[B24,e1,go_sem,simprocAttr]
   exact ⟨d1,f1⟩
 | true=>
   rw[c1] at e1
   rw[if_neg (by simp)]
   generalize D.step.2=D1 at *
   obtain ⟨did,sp,sid,Fs,p1⟩:=d1
   have cS:=p1.o
   simp only[iJ] at cS
   obtain ⟨H2,e2,p2,f2⟩:=My b H1 id D1 F did sp sid Fs n y l hF p1 (hy.mono f1) hl (by have:=k1.eh;omega)
   obtain ⟨v3,H3,e3,rfl,d3,f3⟩:=rX b H2 id (D1.put n l) F hF ⟨did,sp,sid,Fs,p2⟩ ⟨k1.s0,by have:=k1.s1;show D1.steps < _;omega⟩ k1.f1
   cases c3:(D1.put n l).step.1 with
   | false=>
     rw[c3] at e3
     rw[if_pos rfl]
     simp only[B24,e1,cS,e2,e3,go_sem,simprocAttr]
     exact ⟨d3,f1.trans (f2.trans f3)⟩
   | true=>
     rw[c3] at e3
     rw[if_neg (by simp)]
     generalize (D1.put n l).step.2=D3 at *
     obtain ⟨did3,sp3,sid3,Fs3,p3⟩:=d3
     have yD:=p3.o
     simp only[iJ] at yD
     obtain ⟨H4,e4,p4,f4⟩:=Ja b H3 id D3 F did3 sp3 sid3 Fs3 hF p3
     simp only[B24,e1,cS,e2,e3,yD,e4,go_sem,simprocAttr]
     exact ⟨⟨_,_,_,_,p4⟩,f1.trans (f2.trans (f3.trans f4))⟩
def aY.mq (D:aY):Bs:=(j1 D.key D.r (kM D.st)).1
def aY.fold (D:aY):Bool×aY:=
 if (D.lay (1 - D.r.aM) D.mq).1=false then (false,(D.lay (1 - D.r.aM) D.mq).2)
 else if (D.lay (1 - D.r.aM) D.mq).2.step.1=false then (false,(D.lay (1 - D.r.aM) D.mq).2.step.2)
 else (true, {(D.lay (1 - D.r.aM) D.mq).2.step.2 with r:=(iI (D.lay (1 - D.r.aM) D.mq).2.step.2.r (cT D.mq)).1})
theorem tn (k:Bs) (r:ah) (l:Bs):(j1 k r l).1.length≤8192:=by
 unfold j1
 split
 ·simp
 ·rw[qd _ _ _ _ (by omega) (by decide)];omega
theorem Mz (b:Nat) (h:Hp) (id:Nat) (D:aY) (F:List Nat) (hF:∀j∈F,b≤j) (hd:mV h id D F) (N:Int) (hN:N < 1000000000 - 10) (hk:oO 0 N D) (hi:D.is=1):
 ∃v h',run fns pr b 29 [.ptr id [0] 1] h=some (v,h')∧v= .s (.bool D.fold.1)∧mV h' id D.fold.2 F∧Fw F h h':=by
 have hd0:=hd
 obtain ⟨did,sp,sid,Fs,hd⟩:=hd
 obtain ⟨vB,ba⟩:=hd.s hi
 have pc:=fun b=> I8 b h sid D.st Fs ba (hk.so hi)
 have hjs:=fun b=> I0 b h (.aq false none ((kM D.st).map aa)) D.key (kM D.st) D.r hd.kl hk.gw (ck _ _ _)
 have hpt:D.r.aM=0∨D.r.aM=1:=(q11z hk.gr).2.2.2.2.1
 have ma:=fun b H=> Ms b H D.r hpt
 have hil:=tn D.key D.r (kM D.st)
 obtain ⟨v1,H1,e1,rfl,d1,f1⟩:=Jb b h id D F (1 - D.r.aM) (.aq false none (D.mq.map aa)) D.mq hF hd0 N (by omega) hk (ck _ _ _) (by unfold aY.mq;omega)
 have k1:=hk.lay (1 - D.r.aM) D.mq
 obtain ⟨v2,H2,e2,rfl,d2,f2⟩:=rX b H1 id _ F hF d1 ⟨k1.s0,by have:=k1.s1;omega⟩ k1.f1
 have k2:=k1.step
 have s1:=(aY.pC D (1 - D.r.aM) D.mq).1
 have s2:=(aY.jg (D.lay (1 - D.r.aM) D.mq).2).1
 have hg:=hd.o
 have dq:(D.key.map aa).length=16:=by simp[hd.kl]
 refine Vm.eU (nt:=49) rfl Up (by simp) ?_
 unfold aY.fold
 have him:(j1 D.key D.r (kM D.st)).1=D.mq:=rfl
 rw[him] at hjs
 simp only[iJ,vB] at hg
 generalize (D.lay (1 - D.r.aM) D.mq)=L at *
 cases c1:L.1 with
 | false=>
   rw[c1] at e1
   rw[if_pos rfl]
   simp only[B29,hg,pc,hjs,ma,e1,fq,ah.ef,ah.eg,go_sem,simprocAttr]
   exact ⟨d1,f1⟩
 | true=>
   rw[c1] at e1
   rw[if_neg (by simp)]
   cases c2:L.2.step.1 with
   | false=>
     rw[c2] at e2
     rw[if_pos rfl]
     simp only[B29,hg,pc,hjs,ma,e1,fq,ah.ef,ah.eg,e2,go_sem,simprocAttr]
     exact ⟨d2,f1.trans f2⟩
   | true=>
     rw[c2] at e2
     rw[if_neg (by simp)]
     generalize L.2.step.2=D3 at *
     obtain ⟨did3,sp3,sid3,Fs3,p3⟩:=d2
     have yD:=p3.o
     have jG:∀B,(H2.set id B)[id]? =some B:=fun B=> q9z yD
     have cF:=q6z yD
     have pA:b≤id:=hF _ (by rw[hd.f];simp)
     have dO:=p3.ty
     have ny:=p3.so
     have hfi:=fun b=> El b H2 (.aq false none (D.mq.map aa)) D.mq (ck _ _ _) (by unfold aY.mq;omega)
     have hfo:=fun b=> Mr b H2 D3.r (cT D.mq) k2.gw (bO _)
     obtain ⟨h4,f4⟩:=p3.Mw (D':= {D3 with r:=(iI D3.r (cT D.mq)).1}) rfl (fun h=>⟨h,rfl⟩) p3.kl
     simp only[iJ] at yD h4 f4
     simp only[B29,hg,pc,hjs,ma,e1,fq,ah.ef,ah.eg,e2,yD,jG,pA,cF,dO,ny,hfi,hfo,go_sem,simprocAttr]
     exact ⟨⟨_,_,_,_,h4⟩,f1.trans (f2.trans f4)⟩
def aY.frame (D:aY) (r:aC):Bs:=(lG D.key (D.r.count.toNat+1) D.r.head r).1
def aY.next (D:aY) (r:aC):ah×Bool:=eE D.r (eS D.r.head (D.frame r))
def aY.yN (D:aY) (r:aC):aY:= {(D.lay (bU D.r) (D.frame r)).2.step.2 with r:=(D.next r).1,st:=(bE (D.lay (bU D.r) (D.frame r)).2.step.2.st r).2}
def aY.do (D:aY) (r:aC):Int×aY:=
 if j2 D≠0 then (j2 D,D)
 else if cY D.st r≠0 then (cY D.st r,D)
 else if (D.next r).2=false then (31,D)
 else if (D.lay (bU D.r) (D.frame r)).1=false then (29,(D.lay (bU D.r) (D.frame r)).2)
 else if (D.lay (bU D.r) (D.frame r)).2.step.1=false then (29,(D.lay (bU D.r) (D.frame r)).2.step.2)
 else if bH (D.yN r).r=8 then (if (D.yN r).fold.1=false then 29 else 0,(D.yN r).fold.2)
 else (0,D.yN r)
theorem yO {r:aC} (hr:bm r=true) (hw:r.wf) (hv:∀v∈r.aj,v.wf):(mJ r).length≤1000:=by
 have h4:=qk hr
 have pT:r.kind=3→∀v∈r.aj,aN v=true∧v.wf:=fun k3 v hm=> by
   have:rising r.aj=true:=by
     unfold bm at hr
     rw[k3] at hr
     simp at hr
     exact q28z hr.2
   unfold rising at this
   simp only[abH,decide_eq_true_eq,abZ] at this
   exact ⟨this.1.2 v hm,hv v hm⟩
 have Cy:r.kind=1→(bg r.ax).length≤112:=fun k1=> q31z hw.ax (by unfold bm at hr;rw[if_pos k1] at hr;simp at hr;simp[hr])
 unfold mJ
 split
 ·have:=Cy (by assumption)
  simp only[ab3];omega
 ·split
  ·simp only[ab3,aF];omega
  ·split
   ·have:=q30z (pT (by assumption))
    simp only[ab3,abI,aF];omega
   ·simp only[ab3,aF];omega
theorem vC (D:aY) {r:aC} (hw:r.wf) (hv:∀v∈r.aj,v.wf) (hh:D.r.head.length=16):(D.frame r).length≤8192:=by
 unfold aY.frame lG
 split
 ·have:=yO (by assumption) hw hv
  rw[qd _ _ _ _ (by omega) (by omega)];omega
 ·simp
theorem vA.ti {F Fs Fs':List Nat} {h h':Hp} {id did sid:Nat} {D:aY} {sp:V} {S:bF} (hd:vA h id D F did sp sid Fs) (hi:D.is=1) (hs:jf h' sid S Fs') (f:Fw Fs h h') (hn:∀j∈Fs',j∈Fs∨h.length≤j):
 vA h' id {D with st:=S} (id::did::Fs') did sp sid Fs'∧Fw F h h'∧∀j∈id::did::Fs',j∈F∨h.length≤j:=by
 obtain ⟨o,d,s,ty,so,rfl,n1,n2,n3,fl,kl⟩:=hd
 have l1:=fl id (by simp)
 have l2:=fl did (by simp)
 refine ⟨⟨f.cH _ _ o n2,d.mono f n3,fun _=>⟨(s hi).1,hs⟩,ty,so,rfl,n1,fun hm=> ?_,fun hm=> ?_,fun j hj=> ?_,kl⟩,f.mono (fun j hj=> by simp[hj]),fun j hj=> ?_⟩
 ·rcases hn _ hm with h1 | h1
  ·exact n2 h1
  ·omega
 ·rcases hn _ hm with h1 | h1
  ·exact n3 h1
  ·omega
 ·simp only[ack] at hj
  rcases hj with rfl | rfl | hj
  ·exact f.lt l1
  ·exact f.lt l2
  ·exact hs.lt _ hj
 ·simp only[ack] at hj ⊢
  rcases hj with rfl | rfl | hj
  ·exact .inl (.inl rfl)
  ·exact .inl (.inr (.inl rfl))
  ·rcases hn _ hj with h1 | h1
   ·exact .inl (.inr (.inr h1))
   ·exact .inr h1
theorem q26z {r:ah} {hd:Bs} (hw:r.wf) (hl:hd.length=16) (h:(eE r hd).2=true):(eE r hd).1=⟨r.bY,r.count+1,r.base,hd,r.aM⟩∧bw r=true∧bw (eE r hd).1=true∧(eE r hd).1.wf:=by
 unfold eE xh at h ⊢
 split at h
 ·rename_i c
  rw[if_pos c]
  have:=q11z c.1
  obtain ⟨w1,w2,w3,w4,w5⟩:=hw
  exact ⟨rfl,c.1,c.2,⟨w1,by simp only;omega,w3,hl,w5⟩⟩
 ·cases h
theorem XM (b:Nat) (h:Hp) (id:Nat) (D:aY) (F:List Nat) (r:aC) (hF:∀j∈F,b≤j) (hd:mV h id D F) (N:Int) (hN:N < 1000000000 - 20) (hk:oO 0 N D) (hw:r.wf) (hv:∀v∈r.aj,v.wf):
 ∃v h',run fns pr b 8 [.ptr id [0] 1,r.enc] h=some (v,h')∧v= .s (.int .i64 (D.do r).1)∧∃F',mV h' id (D.do r).2 F'∧Fw F h h'∧∀j∈F',j∈F∨h.length≤j:=by
 have hd0:=hd
 have mT:=fun b X=> I9 b (h++X) id D F (hd.app X)
 have dO:r.enc.ty=some 40:=rfl
 have ny:r.enc.aw=true:=rfl
 refine Vm.eU (nt:=97) rfl Z2 (by simp) ?_
 unfold aY.do
 by_cases c0:j2 D=0
 case neg=>
   rw[if_pos c0]
   simp only[B8,mT,c0,dO,ny,go_sem,simprocAttr]
   exact ⟨F,hd0.app _,Fw.app _ _ _,fun j hj=> .inl hj⟩
 rw[if_neg (by simp[c0])]
 have hi:D.is=1:=by
   unfold j2 at c0
   have:=hk.is
   split at c0
   ·cases c0
   ·split at c0
    ·cases c0
    ·omega
 obtain ⟨did,sp,sid,Fs,hd⟩:=hd
 have hid:=hd.fl id (by rw[hd.f];simp)
 have hbh:b≤h.length:=by have:=hF id (by rw[hd.f];simp);omega
 have hFl:=hd.fl
 have fA:Fw [] h (h++[aT.cells (some 40) [r.enc]]):=Fw.app [] h _
 have dA:=hd.mono fA (by simp)
 have gA:(h++[aT.cells (some 40) [r.enc]])[h.length]? =some (aT.cells (some 40) [r.enc]):=aS _ _
 have lA:(h++[aT.cells (some 40) [r.enc]]).length=h.length+1:=by simp
 have mT:=fun b=> mT b [aT.cells (some 40) [r.enc]]
 generalize hHA:h++[aT.cells (some 40) [r.enc]]=HA at *
 have hgA:=dA.o
 obtain ⟨vB,ba⟩:=dA.s hi
 subst vB
 have Ad:=fun b=> yI b HA sid D.st Fs r ba (hk.so hi) hw hv
 simp only[iJ] at hgA
 by_cases c1:cY D.st r=0
 case neg=>
   rw[if_pos c1]
   simp only[B8,hHA,mT,c0,dO,ny,hgA,gA,Ad,c1,go_sem,simprocAttr]
   exact ⟨F,⟨_,_,_,_,dA⟩,fA.mono (by simp),fun j hj=> .inl hj⟩
 rw[if_neg (by simp[c1])]
 have hhl:=hk.gw.head
 have my:=q11z hk.gr
 have hcw:=hk.gw.count
 have hfr:=fun b=> I1 b HA D.key D.r.head (D.r.count.toNat+1) r hd.kl hhl (by omega) hw hv
 have pd:IntKind.u64.wrap (D.r.count+1)=((D.r.count.toNat+1:Nat):Int):=by rw[wrap_u64 (by omega) (by omega)];omega
 have nZ:=vC D hw hv hhl
 have aan:(lG D.key (D.r.count.toNat+1) D.r.head r).1=D.frame r:=rfl
 rw[aan] at hfr
 have hhd:=fun b H=> I2 b H (.aq false none ((D.frame r).map aa)) D.r.head (D.frame r) hhl (ck _ _ _) (by omega)
 have XN:(eS D.r.head (D.frame r)).length=16:=by simp[eS,cW,bO]
 have qP:=fun b H=> Mq b H D.r (eS D.r.head (D.frame r)) hk.gw XN
 have XO:eE D.r (eS D.r.head (D.frame r))=D.next r:=rfl
 have XP:=q26z (hd:=eS D.r.head (D.frame r)) hk.gw XN
 rw[XO] at XP
 simp only[XO] at qP
 have XQ:∀q:ah,q.enc=V.st 63 [.s (.int .u64 q.bY),.s (.int .u64 q.count),.s (.int .u64 q.base),.arr 22 (q.head.map aa),.s (.int .i64 q.aM)]:=fun q=> rfl
 have hDr:=XQ D.r
 have abl:(D.key.map aa).length=16:=by simp[hd.kl]
 have hor:∀x,(decide (b≤HA.length) || x)=true:=fun x=> by rw[decide_eq_true (by omega)];rfl
 by_cases c2:(D.next r).2=true
 case neg=>
   have c2':(D.next r).2=false:=by simpa using c2
   rw[if_pos c2']
   rw[c2'] at qP
   rw[hDr] at hgA qP
   have hgAX:=fun X=> q10z hgA X
   simp only[B8,hHA,mT,c0,dO,ny,hgA,gA,Ad,c1,hfr,pd,hhd,qP,fq,ah.ef,ah.eg,hor,hgAX,go_sem,simprocAttr]
   exact ⟨F,⟨_,_,_,_,dA.mono (Fw.app [] HA _) (by simp)⟩,(fA.trans (Fw.app [] HA _)).mono (by simp),fun j hj=> .inl hj⟩
 rw[if_neg (by simp[c2])]
 obtain ⟨Gs,hn2,hn3,hn4⟩:=XP c2
 rw[c2] at qP
 have fB:Fw [] HA (HA++[aT.cells (some 63) [(D.next r).1.enc]]):=Fw.app [] HA _
 have dB:mV _ id D F:=⟨_,_,_,_,dA.mono fB (by simp)⟩
 have gB0:=fB.cH _ _ gA (by simp)
 have gB1:(HA++[aT.cells (some 63) [(D.next r).1.enc]])[HA.length]? =some (aT.cells (some 63) [(D.next r).1.enc]):=aS _ _
 have hgB:=(dA.mono fB (by simp)).o
 simp only[iJ] at hgB
 have nU:=fun b H=> IZ b H D.r hk.gw
 obtain ⟨v1,H1,e1,rfl,d1,f1⟩:=Jb b _ id D F (bU D.r) (.aq false none ((D.frame r).map aa)) (D.frame r) hF dB N (by omega) hk (ck _ _ _) (by omega)
 have k1:=hk.lay (bU D.r) (D.frame r)
 obtain ⟨v2,H2,e2,rfl,d2,f2⟩:=rX b H1 id _ F hF d1 ⟨k1.s0,by have:=k1.s1;omega⟩ k1.f1
 have k2:=k1.step
 have s1:=aY.pC D (bU D.r) (D.frame r)
 have s2:=aY.jg (D.lay (bU D.r) (D.frame r)).2
 have fAB:=fA.trans fB
 have fh2:Fw F h H2:=(fAB.mono (by simp)).trans (f1.trans f2)
 have XS:D.yN r= {(D.lay (bU D.r) (D.frame r)).2.step.2 with r:=(D.next r).1,st:=(bE (D.lay (bU D.r) (D.frame r)).2.step.2.st r).2}:=rfl
 rw[XS]
 rw[hDr] at hgA hgB qP nU
 have hgAX:=fun X=> q10z hgA X
 have hnF:∀j,h.length≤j→j∉F:=fun j hj hm=> by have:=hFl j hm;omega
 have g10:=f1.cH _ _ gB0 (hnF _ (abJ _))
 have g11:=f1.cH _ _ gB1 (hnF _ (by omega))
 have g20:=f2.cH _ _ g10 (hnF _ (abJ _))
 have g21:=f2.cH _ _ g11 (hnF _ (by omega))
 generalize (D.lay (bU D.r) (D.frame r))=L at *
 generalize hHB:HA++[aT.cells (some 63) [(D.next r).1.enc]]=HB at *
 have abm:=fun n H=> ah.tj n H (D.next r).1
 generalize (D.next r).1=nx at *
 cases c3:L.1 with
 | false=>
   rw[c3] at e1
   rw[if_pos rfl]
   simp only[B8,hHA,mT,c0,dO,ny,hgA,gA,Ad,c1,hfr,pd,hhd,qP,fq,ah.ef,ah.eg,hor,hHB,hgB,nU,e1,hgAX,go_sem,simprocAttr]
   exact ⟨F,d1,(fAB.mono (by simp)).trans f1,fun j hj=> .inl hj⟩
 | true=>
   rw[c3] at e1
   rw[if_neg (by simp)]
   cases c4:L.2.step.1 with
   | false=>
     rw[c4] at e2
     rw[if_pos rfl]
     simp only[B8,hHA,mT,c0,dO,ny,hgA,gA,Ad,c1,hfr,pd,hhd,qP,fq,ah.ef,ah.eg,hor,hHB,hgB,nU,e1,hgAX,e2,go_sem,simprocAttr]
     exact ⟨F,d2,fh2,fun j hj=> .inl hj⟩
   | true=>
     rw[c4] at e2
     rw[if_neg (by simp)]
     have i3:L.2.step.2.is=1:=by rw[s2.2 c4,s1.2 c3,hi]
     generalize L.2.step.2=D3 at *
     obtain ⟨did3,sp3,sid3,Fs3,p3⟩:=d2
     obtain ⟨aao,Rf⟩:=p3.s i3
     subst aao
     have yD:=p3.o
     have jG:∀B,(H2.set id B)[id]? =some B:=fun B=> q9z yD
     have cF:=q6z yD
     have pA:b≤id:=hF _ (by rw[hd.f];simp)
     obtain ⟨p4,f4⟩:=p3.Mw (D':= {D3 with r:=nx}) rfl (fun h=>⟨h,rfl⟩) p3.kl
     have k3:oO 0 (N+3) {D3 with r:=nx}:=by
       obtain ⟨z1,z2,z3,z4,z5,z6,z7,z8⟩:=k2
       exact ⟨z1,z2,by simp only;omega,z4,hn3,hn4,z7,z8⟩
     have g31:=f4.cH _ _ g20 (hnF _ (abJ _))
     obtain ⟨abn,aap⟩:=p4.s i3
     have hFs3:∀j∈Fs3,b≤j:=fun j hj=> hF _ (by rw[p3.f];simp[hj])
     obtain ⟨v5,H5,e5,rfl,Fs5,aaq,f5,hn5⟩:=IT b _ sid3 D3.st Fs3 r hFs3 aap (k2.so i3) hw hv
     obtain ⟨p5,f5',XU⟩:=p4.ti i3 aaq f5 hn5
     have k5:oO 0 (N+3) {D3 with r:=nx,st:=(bE D3.st r).2}:=by
       obtain ⟨z1,z2,z3,z4,z5,z6,z7,z8⟩:=k3
       exact ⟨z1,z2,z3,z4,z5,z6,fun h=> th (z7 h) hw hv,z8⟩
     have hF5:∀j∈id::did3::Fs5,b≤j:=fun j hj=> by
       rcases XU j hj with h1 | h1
       ·exact hF j h1
       ·rw[adf] at h1;omega
     have Cr:=fh2.len
     have hn5h:∀j∈id::did3::Fs5,j∈F∨h.length≤j:=fun j hj=> by
       rcases XU j hj with h1 | h1
       ·exact .inl h1
       ·rw[adf] at h1;exact .inr (by omega)
     have fh5:=fh2.trans (f4.trans f5')
     have hhe:=fun b=> CQ b H5 nx hn4
     have hg5:=p5.o
     simp only[iJ] at yD hg5 e5
     simp only[iJ] at g31
     by_cases c8:bH nx=8
     ·rw[if_pos c8]
      obtain ⟨v6,H6,e6,rfl,d6,f6⟩:=Mz b H5 id _ _ hF5 ⟨_,_,_,_,p5⟩ (N+3) (by omega) k5 i3
      generalize ({D3 with r:=nx,st:=(bE D3.st r).2}:aY).fold=Z at *
      have fin:∃F',mV H6 id Z.2 F'∧Fw F h H6∧∀j∈F',j∈F∨h.length≤j:=⟨_,d6,fh5.new f6 (fun j hj=>(hn5h j hj).symm),hn5h⟩
      cases c9:Z.1 with
      | false=>
        rw[c9] at e6
        simp only[B8,hHA,mT,c0,dO,ny,hgA,gA,Ad,c1,hfr,pd,hhd,qP,fq,ah.ef,ah.eg,hor,hHB,hgB,nU,e1,hgAX,e2,yD,jG,pA,cF,g20,g21,g31,e5,hg5,hhe,c8,e6,go_sem,simprocAttr]
        exact fin
      | true=>
        rw[c9] at e6
        simp only[B8,hHA,mT,c0,dO,ny,hgA,gA,Ad,c1,hfr,pd,hhd,qP,fq,ah.ef,ah.eg,hor,hHB,hgB,nU,e1,hgAX,e2,yD,jG,pA,cF,g20,g21,g31,e5,hg5,hhe,c8,e6,go_sem,simprocAttr]
        exact fin
     ·rw[if_neg c8]
      simp only[B8,hHA,mT,c0,dO,ny,hgA,gA,Ad,c1,hfr,pd,hhd,qP,fq,ah.ef,ah.eg,hor,hHB,hgB,nU,e1,hgAX,e2,yD,jG,pA,cF,g20,g21,g31,e5,hg5,hhe,c8,go_sem,simprocAttr]
      exact ⟨_,⟨_,_,_,_,p5⟩,fh5,hn5h⟩
theorem dX {n:Nat} {m:Bs} (hm:m.length=n) (rest:Bs) (bad:Bool):aW n (m++rest,bad)=(m,(rest,bad)):=by
 subst hm
 unfold aW
 rw[if_pos (by simp)]
 simp
theorem nE (x:UInt8) (rest:Bs) (bad:Bool):aW 1 (x::rest,bad)=([x],(rest,bad)):=dX (m:=[x]) rfl rest bad
theorem lH (x:UInt8):bf [x]=x.toNat:=rfl
theorem dY {n:Int} (h0:0≤n) (h1:n < 256):(((bt n).toNat:Nat):Int)=n:=by
 obtain ⟨m,rfl⟩:∃m:Nat,n=m:=⟨n.toNat,by omega⟩
 have:∀m:Nat,m < 256→(bt (m:Int)).toNat=m:=by decide+kernel
 rw[this m (by omega)]
theorem XV (x:Nat):(UInt8.ofNat (x % 256)).toNat=x % 256:=by simp
theorem gf (n:Nat) (hn:n < 18446744073709551616):er (aE n)=n:=by
 have s:∀j,n / 256 ^ j=256 *(n / 256 ^(j+1))+n / 256 ^ j % 256:=fun j=> by
   rw[aee,←Nat.div_div_eq_div_mul];omega
 have e8:n / 256 ^ 8=0:=aeh (by omega)
 have e0:n / 256 ^ 0=n:=by simp
 simp only[er,aE,adt,List.range_zero,acj,acX,abR,ab1,acu,List.foldl_cons,List.foldl_nil,XV,Nat.reduceSub]
 have s0:=s 0
 have s1:=s 1
 have s2:=s 2
 have s3:=s 3
 have s4:=s 4
 have s5:=s 5
 have s6:=s 6
 have s7:=s 7
 clear s hn
 simp only[Nat.reduceAdd] at s0 s1 s2 s3 s4 s5 s6 s7
 rw[e8] at s7
 generalize n / 256 ^ 0=d0 at *
 generalize n / 256 ^ 1=d1 at *
 generalize n / 256 ^ 2=d2 at *
 generalize n / 256 ^ 3=d3 at *
 generalize n / 256 ^ 4=d4 at *
 generalize n / 256 ^ 5=d5 at *
 generalize n / 256 ^ 6=d6 at *
 generalize n / 256 ^ 7=d7 at *
 omega
theorem Jc (v:ae) (hr:aN v=true):Iw (vt v).toNat=false∧(!decide ((vt v).toNat=0))=v.gone∧decide ((vt v).toNat=3)=v.qJ:=by
 unfold aN at hr
 unfold vt Iw
 cases hg:v.gone <;> cases hw:v.qJ <;> simp_all <;> decide
theorem tp (v:ae) (hw:v.wf) (hr:aN v=true) (rest:Bs) (bad:Bool):mL (bg v++rest,bad)=(v,(rest,bad)):=by
 obtain ⟨f1,f2,f3⟩:=Jc v hr
 have hr0:=hr
 unfold aN at hr
 obtain ⟨w1,w2,w3,w4,w5,w6,w7,w8,w9⟩:=hw
 have Ep:0≤v.bA∧v.bA < 256∧0≤v.used∧v.used < 256∧0≤v.gen∧v.gen < 18446744073709551616∧v.aL.length < 256:=by
   cases hg:v.gone <;> simp_all <;> omega
 obtain ⟨l1,l2,l3,l4,l5,l6,l7⟩:=Ep
 have e1:(((bt v.bA).toNat:Nat):Int)=v.bA:=dY l1 l2
 have e2:(((bt v.used).toNat:Nat):Int)=v.used:=dY l3 l4
 have e3:(bt (v.aL.length:Int)).toNat=v.aL.length:=by have:=dY (n:=(v.aL.length:Int)) (by omega) (by omega);omega
 have e4:((er (aE v.gen.toNat):Nat):Int)=v.gen:=by rw[gf _ (by omega)];omega
 have q1:=dX (n:=4) (m:=v.iD) (by simpa using w1)
 have q3:=dX (n:=16) (m:=v.iY) (by simpa using w3)
 have q7:=dX (n:=16) (m:=v.owner) (by simpa using w7)
 unfold mL bg
 simp only[abO,acu,acj,q1,dX (aF _),nE,lH,f1,Bool.or_false,q3,q7,ph,e3,dX (m:=v.aL) rfl,e1,e2,e4,f2,f3]
 rw[hr0]
 simp
theorem OL (l:List ae) (hw:∀v∈l,v.wf) (hr:∀v∈l,aN v=true) (rest:Bs) (bad:Bool):∀n,n≤l.length→vsS n (l.flatMap bg++rest,bad)=(l.take n,((l.drop n).flatMap bg++rest,bad))
 | 0,_=> rfl
 | n+1,hn=> by
   have ih:=OL l hw hr rest bad n (by omega)
   have hd:l.drop n=l[n]::l.drop (n+1):=acJ (by omega)
   have hm:l[n]∈l:=acZ _
   simp only[vsS]
   rw[ih,hd,adU,abO,tp _ (hw _ hm) (hr _ hm),acb (by omega)]
theorem Rn (r:aC) (hw:r.wf) (hwv:∀v∈r.aj,v.wf) (hr:bm r=true):uT (mJ r,false)=(r,([],false)):=by
 have hr0:=hr
 obtain ⟨kind,aD,dS,aI,ax,aj⟩:=r
 obtain ⟨w1,w2,w3,w4,w5,w6⟩:=hw
 simp only at w1 w2 w3 w4 w5 w6 hwv
 rcases q29z hr with hk | hk | hk | hk
 all_goals simp only at hk;subst hk
 all_goals simp only[bm,lu,Int.reduceEq,if_true,if_false,abH,decide_eq_true_eq] at hr
 ·obtain ⟨⟨⟨⟨h1,h2⟩,h3⟩,h4⟩,h5⟩:=hr
  obtain rfl:aj=[]:=adG h5
  subst h2 h3 h4
  have hv:=tp ax w5 h1 [] false
  rw[ab8] at hv
  simp only[uT,mJ,nE,lH,if_true,hv,show (bt 1).toNat=1 from rfl]
 ·obtain ⟨⟨⟨⟨⟨⟨⟨h1,h2⟩,h3⟩,h4⟩,h5⟩,h6⟩,h7⟩,h8⟩:=hr
  obtain rfl:aj=[]:=adG h8
  subst h5
  have e1:(((bt aD).toNat:Nat):Int)=aD:=dY h3 (by omega)
  have e2:(((bt dS).toNat:Nat):Int)=dS:=dY h6 (by omega)
  have e3:((er (aE aI.toNat):Nat):Int)=aI:=by rw[gf _ (by omega)];omega
  have hn:=dX (aF aI.toNat) [] false
  rw[ab8] at hn
  simp only[uT,mJ,nE,lH,if_true,show (bt 2).toNat=2 from rfl,hn,e1,e2,e3,show ((2:Int)=1)=False from by simp,show ((2:Nat)=1)=False from by simp,if_false]
 ·obtain ⟨⟨⟨⟨⟨⟨h1,h2⟩,h3⟩,h4⟩,h5⟩,h6⟩,h8⟩:=hr
  subst h5 h6
  have jY:∀v∈aj,aN v=true:=fun v hv=> by
    unfold dj at h8
    rw[abH,abZ] at h8
    obtain ⟨i,hi,rfl⟩:=List.getElem_of_mem hv
    have:=h8.2 i (acL.2 hi)
    unfold iP at this
    rw[abH,List.getD,abE hi] at this
    exact this.1
  have hl4:aj.length≤4:=by
    unfold dj at h8
    rw[abH,decide_eq_true_eq] at h8
    exact h8.1
  have e1:(((bt aD).toNat:Nat):Int)=aD:=dY h3 (by omega)
  have e2:(bt (aj.length:Int)).toNat=aj.length:=by have:=dY (n:=(aj.length:Int)) (by omega) (by omega);omega
  have e3:((er (aE aI.toNat):Nat):Int)=aI:=by rw[gf _ (by omega)];omega
  have hm:min aj.length 5=aj.length:=by omega
  have hv:=OL aj hwv jY [] false aj.length (abJ _)
  rw[ab8,ac5,aeQ] at hv
  simp only[uT,mJ,nE,lH,if_true,show (bt 3).toNat=3 from rfl,dX (aF aI.toNat),e1,e2,e3,hm,hv,show ((3:Int)=1)=False from by simp,show ((3:Nat)=1)=False from by simp,show ((3:Int)=2)=False from by simp,show ((3:Nat)=2)=False from by simp,if_false,aeM,ab8]
 ·obtain ⟨⟨⟨⟨⟨⟨h1,h2⟩,h3⟩,h4⟩,h5⟩,h6⟩,h8⟩:=hr
  obtain rfl:aj=[]:=adG h8
  subst h5 h6
  have e1:(((bt aD).toNat:Nat):Int)=aD:=dY h3 (by omega)
  have e3:((er (aE aI.toNat):Nat):Int)=aI:=by rw[gf _ (by omega)];omega
  have hn:=dX (aF aI.toNat) [] false
  rw[ab8] at hn
  simp only[uT,mJ,nE,lH,if_true,show (bt 4).toNat=4 from rfl,hn,e1,e3,show ((4:Int)=1)=False from by simp,show ((4:Nat)=1)=False from by simp,show ((4:Int)=2)=False from by simp,show ((4:Nat)=2)=False from by simp,show ((4:Int)=3)=False from by simp,show ((4:Nat)=3)=False from by simp,if_false]
theorem Jd (r:aC) (hw:r.wf) (hwv:∀v∈r.aj,v.wf) (hr:bm r=true):AS (mJ r)=(r,0):=by
 unfold AS
 rw[Rn r hw hwv hr]
 simp[hr]
def CT (k:Bs) (n:Nat) (prev l:Bs):aC×Int:=match mB k n prev l with
 | none=>(CA,30)
 | some t=> AS t
def tq (k:Bs) (K:Dk) (r:ah):Bs×Bs×Int:=
 if r.base=0 then ([],bp,0) else match K.get r.aM with
  | none=>([],bp,30)
  | some l=> match mB k r.base.toNat uV l with
    | some t=>(t,cT l,0)
    | none=>([],cT l,30)
def jO (k:Bs) (K:Dk) (base:Nat) (h:Bs):Nat→Option (List aC×Bs)
 | 0=> some ([],h)
 | n+1=> match jO k K base h n with
   | none=> none
   | some (l,h1)=> if (K.get (2+(n:Nat))).isSome=false∨(CT k (base+n+1) h1 ((K.get (2+(n:Nat))).getD [])).2≠0 then none
     else some (l++[(CT k (base+n+1) h1 ((K.get (2+(n:Nat))).getD [])).1],eS h1 ((K.get (2+(n:Nat))).getD []))
def yP (k:Bs) (K:Dk) (r:ah):Bs×List aC×Int:=
 if bw r=false then ([],[],1) else if (tq k K r).2.2≠0 then ([],[],(tq k K r).2.2)
 else match jO k K r.base.toNat (tq k K r).2.1 (bH r).toNat with
   | none=>([],[],30)
   | some (l,h)=> if h=r.head then ((tq k K r).1,l,0) else ([],[],30)
def aa8 (x:Bs×List aC×Int):V:= .bM [.aq false none (x.1.map aa),.aq false (some 40) (x.2.1.map aC.enc),.s (.int .i64 x.2.2)]
theorem Io (cf:CF) (base:Nat) (h:Hp) (f:Bool) (l:Bs) (k:IntKind) (n:Nat) (hn:n≤l.length):aB cf base h (.jX none false true false) [.aq f none (l.map aa),.s (.int k (n:Nat))]=some (.aq (f && n==l.length) none ((l.take n).map aa),h):=by
 rw[SR.aar (cf:=cf) (base:=base) (h:=h) (x:= .aq f none (l.map aa)) (g:=none) (vs:=l.map aa) (.inl ⟨f,rfl⟩) (k:=k) (r:=n) (by simpa using hn)]
 simp only[nQ,abX,acg,aeA,adT]
def rY :Nat→Bs→Option (List ae×Bs)
 | 0,l=> some ([],l)
 | n+1,l=> match rY n l with
   | none=> none
   | some (vs,m)=> if (mM m).2.2≠0 then none else some (vs++[(mM m).1],m.drop (mM m).2.1.toNat)
def ZT (x:Option (List ae×Bs)):V:=match x with
 | none=> .bM [.aq false (some 37) [],.aq false none [],.s (.bool false)]
 | some (vs,m)=> .bM [.aq false (some 37) (vs.map ae.enc),.aq false none (m.map aa),.s (.bool true)]
def Je (l:Bs):Option (pw×Bs):=if l.length < 11 then none else match rY (l.getD 10 0).toNat (l.drop 11) with
 | none=> none
 | some (vs,m)=> some (⟨((l.getD 0 0).toNat:Nat),(er ((l.drop 1).take 8):Nat),((l.getD 9 0).toNat:Nat),vs⟩,m)
def CU (s0:bF) (l:Bs):Nat→Option (bF×Bs)
 | 0=> some (s0,l)
 | n+1=> match CU s0 l n with
   | none=> none
   | some (s,m)=> match Je m with
     | none=> none
     | some (q,rest)=> if (ti s n q).1≠0 then none else some ((ti s n q).2,rest)
def Jf (a b:Int) (l:Bs):Option bF:=if l.length < 2 then none else (CU (bF.new a b) (l.drop 2) 16).map (·.1)
def aa9 (h:Hp) (v:V) (h':Hp):Option bF→Prop
 | none=> v= .bM [.s (.pointer none),.s (.bool false)]∧Fw [] h h'
 | some s=> mQ s∧∃F,v= .bM [.ptr h.length [0] 1,.s (.bool true)]∧jf h' h.length s F∧Fw [] h h'∧∀j∈F,h.length≤j
def ofI (a b:Int) (l:Bs):Option bF:=match Jf a b l with
 | none=> none
 | some s=> if kM s=l then some s else none
def ofR (h:Hp) (v:V) (h':Hp):Option bF→Prop
 | none=> v= .bM [.s (.pointer none),.s (.int .i64 12)]∧Fw [] h h'
 | some s=> mQ s∧∃F,v= .bM [.ptr h.length [0] 1,.s (.int .i64 0)]∧jf h' h.length s F∧Fw [] h h'∧∀j∈F,h.length≤j
def tu :bF→List aC→Option bF
 | s,[]=> some s
 | s,r::l=> if (bE s r).1≠0 then none else tu (bE s r).2 l
def aY.begin (D:aY):Option bF:=if 0 < D.r.base then ofI D.mem D.bL (yP D.key D.dk D.r).1 else some (bF.new D.mem D.bL)
def aY.load (D:aY):Option bF:=if (yP D.key D.dk D.r).2.2≠0 then none else match D.begin with
 | none=> none
 | some s=> tu s (yP D.key D.dk D.r).2.1
def aba (h:Hp) (v:V) (h':Hp):Option bF→Prop
 | none=> v= .bM [.s (.pointer none),.s (.bool false)]∧Fw [] h h'
 | some s=> mQ s∧∃sid F,v= .bM [.ptr sid [0] 1,.s (.bool true)]∧jf h' sid s F∧Fw [] h h'∧∀j∈F,h.length≤j
structure DM (D:aY):Prop where
 m1:1≤D.bL
 m2:D.bL≤8
 m3:0≤D.mem
 m4:D.mem < D.bL
theorem vA.Xw {F Fs Fs':List Nat} {h:Hp} {id did sid sid':Nat} {D D':aY} {sp sp':V} (hd:vA h id D F did sp sid Fs) (h1:D'.dk=D.dk) (h2:D'.is=1→sp'= .ptr sid' [0] 1∧jf h sid' D'.st Fs') (h3:D'.key.length=16)
 (ty:sp'.ty=none) (so:sp'.aw=true) (n2:id∉Fs') (n3:did∉Fs') (fl:∀j∈Fs',j < h.length):
 vA (h.set id (.cells (some 65) (iJ D' sp' did))) id D' (id::did::Fs') did sp' sid' Fs'∧Fw F h (h.set id (.cells (some 65) (iJ D' sp' did))):=by
 have f:Fw [id] h (h.set id (.cells (some 65) (iJ D' sp' did))):=Fw.set (by simp) hd.o
 obtain ⟨o,d,s,_,_,rfl,n1,_,_,fl0,kl⟩:=hd
 refine ⟨⟨q9z o,by rw[h1];exact d.mono f (by simp[ado n1]),fun hi=> ?_,ty,so,rfl,n1,n2,n3,fun j hj=> ?_,h3⟩,f.mono (by simp)⟩
 ·obtain ⟨c,e⟩:=h2 hi
  exact ⟨c,e.mono f (fun j hj=> by simp;rintro rfl;exact n2 hj)⟩
 ·simp only[ack] at hj
  rcases hj with rfl | rfl | hj
  ·exact f.lt (fl0 _ (by simp))
  ·exact f.lt (fl0 _ (by simp))
  ·exact f.lt (fl j hj)
def aY.new (a b:Int) (k:Bs):aY:=⟨a,b,cW k [bt a],1,bF.new a b,Dk.new,jM,0, -1,0⟩
theorem Jg :jM.wf:=⟨by simp[jM],by simp[jM],by simp[jM],rfl,by simp[jM]⟩
theorem oO.new {a b:Int} (k:Bs) (h1:1≤b) (h2:b≤8) (h3:0≤a) (h4:a < b):oO 0 0 (aY.new a b k):=
 ⟨abJ _,by simp[aY.new],by simp[aY.new],by simp[aY.new],by rfl,Jg,fun _=> mQ.new h1 h2 h3 h4,.inl rfl⟩
theorem CV (b:Nat) (h:Hp) (x z:Int) (k:Bs) (hb:b≤h.length) (hk:k.length=16) (h1:1≤z) (h2:z≤8) (h3:0≤x) (h4:x < z):
 ∃v h',run fns pr b 5 [.s (.int .i64 x),.s (.int .i64 z),.arr 22 (k.map aa)] h=some (v,h')∧∃id F,v= .bM [.ptr id [0] 1,.s (.int .i64 0)]∧mV h' id (aY.new x z k) F∧Fw [] h h'∧∀j∈F,h.length≤j:=by
 refine Vm.eU (nt:=23) rfl ZY (by simp) ?_
 have dq:(k.map aa).length=16:=by simp[hk]
 have fA:Fw [] h (h++[aT.cells (some 22) [.arr 22 (k.map aa)]]):=Fw.app [] h _
 have gA:(h++[aT.cells (some 22) [.arr 22 (k.map aa)]])[h.length]? =some (aT.cells (some 22) [.arr 22 (k.map aa)]):=aS _ _
 have lA:=fA.len
 generalize hHA:h++[aT.cells (some 22) [.arr 22 (k.map aa)]]=HA at *
 obtain ⟨v1,H1,e1,F1,rfl,s1,f1,n1⟩:=CN b HA x z (acm hb lA) h1 h2 h3 h4
 have g1:=f1.cH _ _ gA (by simp)
 have xX:=fun b=> Mt b H1 k x hk
 obtain ⟨v2,H2,e2,rfl,d2,f2⟩:=Dsk.xi b H1
 simp only[Dsk.R] at e2
 have s2:=s1.mono f2 (by simp)
 have sH:=f1.len
 have Cr:=f2.len
 simp only[B5,hHA,dq,e1,g1,xX,fq,e2,go_sem,simprocAttr]
 have f3:Fw [] H2 (H2++[aT.cells (some 65) (iJ (aY.new x z k) (.ptr HA.length [0] 1) H1.length)]):=Fw.app [] H2 _
 have xd:=d2.lt
 have hF1:=s1.lt
 refine ⟨H2.length,H2.length::H1.length::F1,rfl,⟨H1.length,.ptr HA.length [0] 1,HA.length,F1,?_,d2.mono f3 (by simp),fun _=>⟨rfl,s2.mono f3 (by simp)⟩,rfl,rfl,rfl,by omega,fun hm=> ?_,fun hm=> ?_,fun j hj=> ?_,?_⟩,fA.trans (f1.trans (f2.trans f3)),fun j hj=> ?_⟩
 ·exact aS _ _
 ·have:=hF1 _ hm;omega
 ·have:=hF1 _ hm;omega
 ·simp only[ack] at hj
  rcases hj with rfl | rfl | hj
  ·simp
  ·simp;omega
  ·have:=hF1 _ hj;simp;omega
 ·simp[aY.new,cW,bO]
 ·simp only[ack] at hj
  rcases hj with rfl | rfl | hj
  ·omega
  ·omega
  ·have:=n1 _ hj;omega
def aY.tv (D:aY):aY:= {D with r:=(eW D.r).1}
def aY.up (D:aY) (s:bF):aY:= {D.tv with is:=1,st:=s}
def aY.start (D:aY):Int×aY:=
 if D.is=1 then (14,D) else if D.is=3 then (28,D) else if (eW D.r).2=false then (31,D)
 else match D.tv.load with
   | none=>(28, {D.tv with is:=3})
   | some s=> if bH (eW D.r).1=8 then (if (D.up s).fold.1=false then 29 else 0,(D.up s).fold.2) else (0,D.up s)
theorem q25z {r:ah} (hw:r.wf) (h:(eW r).2=true):(eW r).1=⟨r.bY+1,r.count,r.base,r.head,r.aM⟩∧bw (eW r).1=true∧(eW r).1.wf:=by
 unfold eW xh at h ⊢
 split at h
 ·rename_i c
  rw[if_pos c]
  have:=q11z c.1
  obtain ⟨w1,w2,w3,w4,w5⟩:=hw
  exact ⟨rfl,c.2,⟨by simp only;omega,w2,w3,w4,w5⟩⟩
 ·cases h
theorem CW (b:Nat) (h:Hp) (id:Nat) (D:aY) (F:List Nat) (hb:b≤h.length) (hd:mV h id D F) (hk:D.is=1→mQ D.st):
 ∃v h',run fns pr b 34 [.ptr id [0] 1] h=some (v,h')∧(if D.is=1 then ∃F',v= .ptr h.length [0] 1∧jf h' h.length D.st F'∧Fw [] h h'∧∀j∈F',h.length≤j else v= .s (.pointer none)∧h'=h):=by
 obtain ⟨did,sp,sid,Fs,hd⟩:=hd
 have hg:=hd.o
 refine Vm.eU (nt:=13) rfl Uz (by simp) ?_
 by_cases i1:D.is=1
 ·obtain ⟨rfl,hs⟩:=hd.s i1
  obtain ⟨v2,H2,e2,F2,rfl,s2,f2,n2⟩:=IX b h sid D.st Fs hb hs (hk i1)
  simp only[iJ] at hg
  simp only[i1,if_true]
  simp only[B34,hg,i1,e2,go_sem,simprocAttr]
  exact ⟨F2,s2,f2,n2⟩
 ·simp only[iJ] at hg
  simp only[i1,if_false]
  simp only[B34,hg,i1,go_sem,simprocAttr]
theorem MA (a s:UInt8):s ^^^(s ^^^ a)=a:=by
 apply aeY.1
 simp[UInt8.toNat_xor,←Nat.xor_assoc]
theorem vD :∀(s l:Bs),l.length≤s.length→iA s (iA s l)=l
 | s,[],_=> by simp[iA]
 | [],a::l,h=> by simp at h
 | b::s,a::l,h=> by
   have:=vD s l (by simpa using h)
   simp only[iA,List.zipWith_cons_cons] at this ⊢
   rw[this,MA]
theorem MB (k:Bs) (n:Nat) (l:Bs):lg k n (lg k n l)=l:=by
 have h:(iA (ik k n l.length) l).length=l.length:=fY k n l
 unfold lg
 rw[h]
 exact vD _ _ (by rw[iz];exact abJ _)
theorem qm (k:Bs) (n:Nat) (ad l:Bs) (h1:l.length≤8184) (h2:ad.length≤8192):mB k n ad (ei k n ad l)=some l:=by
 have hl:=qd k n ad l h1 h2
 have hh:=fY k n l
 have hc:8≤(ei k n ad l).length∧(ei k n ad l).length≤8192∧ad.length≤8192:=⟨by omega,by omega,h2⟩
 unfold mB
 rw[if_pos hc,hl,aez]
 have hs:ei k n ad l=lg k n l++iT k n ad l:=by unfold ei;rw[if_pos ⟨h1,h2⟩]
 rw[hs]
 have e1:(lg k n l++iT k n ad l).take l.length=lg k n l:=by rw[←hh];exact abL
 have e2:(lg k n l++iT k n ad l).drop l.length=iT k n ad l:=by rw[←hh];exact ad2
 simp only[e1,e2,MB,if_true]
theorem A3 (k:Bs) (n:Nat) (prev:Bs) (r:aC) (hp:prev.length=16) (hw:r.wf) (hr:bm r=true):CT k n prev (lG k n prev r).1=(r,0):=by
 have hl:=yO hr hw hw.aj.2
 unfold CT lG
 rw[if_pos hr]
 simp only
 rw[qm k n prev (mJ r) (by omega) (by omega)]
 exact Jd r hw hw.aj.2 hr
def HD (mem bL:Int) (key:Bs) (K:Dk) (r:ah) (S:bF):Prop:=
 ∃im h0 L S0,tq key K r=(im,h0,0)∧jO key K r.base.toNat h0 (bH r).toNat=some (L,r.head)∧(if 0 < r.base then ofI mem bL im else some (bF.new mem bL))=some S0∧tu S0 L=some S
theorem HD.load {D:aY} {S:bF} (hg:bw D.r=true) (h:HD D.mem D.bL D.key D.dk D.r S):D.load=some S:=by
 obtain ⟨im,h0,L,S0,h1,h2,h3,h4⟩:=h
 have hj:yP D.key D.dk D.r=(im,L,0):=by
   unfold yP
   rw[if_neg (by simp[hg]),h1]
   simp only[ne_eq,not_true_eq_false,if_false,h2,if_true]
 unfold aY.load aY.begin
 rw[hj]
 simp only[ne_eq,not_true_eq_false,if_false]
 rw[h3]
 exact h4
def tw (K K':Dk) (r:ah):Prop:=(0 < r.base→K'.get r.aM=K.get r.aM)∧∀i:Nat,(i:Int)< bH r→K'.get (2+(i:Int))=K.get (2+(i:Int))
theorem qX {k:Bs} {K K':Dk} {base:Nat} {h:Bs}:∀(n:Nat),(∀i:Nat,i < n→K'.get (2+(i:Int))=K.get (2+(i:Int)))→jO k K' base h n=jO k K base h n
 | 0,_=> rfl
 | n+1,hs=> by
   rw[jO,jO,qX n (fun i hi=> hs i (by omega)),hs n (by omega)]
theorem HD.same {mem bL:Int} {key:Bs} {K K':Dk} {r:ah} {S:bF} (h:HD mem bL key K r S) (hb:0≤r.base) (hs:tw K K' r):HD mem bL key K' r S:=by
 obtain ⟨im,h0,L,S0,h1,h2,h3,h4⟩:=h
 refine ⟨im,h0,L,S0,?_,?_,h3,h4⟩
 ·rw[←h1]
  unfold tq
  by_cases c:r.base=0
  ·rw[if_pos c,if_pos c]
  ·rw[if_neg c,if_neg c,hs.1 (by omega)]
 ·rw[←h2]
  exact qX _ fun i hi=> hs.2 i (by omega)
theorem q19z {r:ah} (h:bw r=true):bH r=r.count - r.base:=by unfold bH;rw[if_pos h]
theorem HD.bY {mem bL:Int} {key:Bs} {K:Dk} {r:ah} {S:bF} (h:HD mem bL key K r S) (hw:r.wf) (hb:(eW r).2=true) (hr:bw r=true):HD mem bL key K (eW r).1 S:=by
 obtain ⟨e1,e2,_⟩:=q25z hw hb
 obtain ⟨im,h0,L,S0,h1,h2,h3,h4⟩:=h
 have hh:bH (eW r).1=bH r:=by rw[q19z e2,q19z hr,e1]
 refine ⟨im,h0,L,S0,?_,?_,?_,h4⟩
 ·rw[e1];exact h1
 ·rw[hh,e1];exact h2
 ·rw[e1];exact h3
theorem tx {S0 S:bF} {r:aC}:∀(L:List aC),tu S0 L=some S→(bE S r).1=0→tu S0 (L++[r])=some (bE S r).2
 | [],h,h0=> by
   cases h
   simp[tu,h0]
 | x::L,h,h0=> by
   simp only[tu,acu] at h ⊢
   split at h
   ·cases h
   ·rename_i c
    rw[if_neg c]
    revert h
    generalize (bE S0 x).2=S1
    intro h
    exact tx L h h0
theorem Ro {s:bF} (hk:mQ s) {r:aC} (h:cY s r=0):(bE s r).1=0:=by
 have hr:=xg h
 unfold bE
 rw[if_neg (by simp[h])]
 by_cases k1:r.kind=1
 ·rw[if_pos k1]
  unfold cY at h
  rw[if_neg (by simp[hr]),if_pos k1] at h
  have jY:aN r.ax=true:=by unfold bm at hr;rw[if_pos k1] at hr;simp at hr;simp[hr]
  have ma:=OH hk h
  simp only
  unfold pv
  rw[if_neg (by simp[jY])]
  by_cases c:((s.p (al r.ax.iD)).vs[pos (s.p (al r.ax.iD)).vs r.ax.iD]?).map ae.iD=some r.ax.iD
  ·rw[if_pos c]
  ·rw[if_neg c,if_neg]
   have:ec (s.p (al r.ax.iD)).vs r.ax.iD=none:=by unfold ec;rw[if_neg c]
   have:=ma this
   omega
 ·rw[if_neg k1]
  split
  ·rfl
  ·split <;> rfl
theorem HD.next {mem bL:Int} {key:Bs} {K:Dk} {r:ah} {S:bF} {x:aC} {l:Bs} (h:HD mem bL key K r S) (hw:r.wf) (hx:x.wf) (hk:mQ S) (hc:cY S x=0)
 (hl:l=(lG key (r.count.toNat+1) r.head x).1) (hn:(eE r (eS r.head l)).2=true) (hg:K.get (2+bH r)=some l):HD mem bL key K (eE r (eS r.head l)).1 (bE S x).2:=by
 have hhl:(eS r.head l).length=16:=by simp[eS,cW,bO]
 obtain ⟨e1,e2,e3,_⟩:=q26z hw hhl hn
 have hr:=xg hc
 obtain ⟨im,h0,L,S0,h1,h2,h3,h4⟩:=h
 have Ep:=q11z e2
 have hh:(bH (eE r (eS r.head l)).1).toNat=(bH r).toNat+1:=by rw[q19z e3,q19z e2,e1];simp only;omega
 have hd2:(2+((bH r).toNat:Nat):Int)=2+bH r:=by rw[q19z e2];omega
 have hcn:r.base.toNat+(bH r).toNat+1=r.count.toNat+1:=by rw[q19z e2];have:=hw.base;omega
 refine ⟨im,h0,L++[x],S0,?_,?_,?_,tx L h4 (Ro hk hc)⟩
 ·rw[e1];exact h1
 ·rw[hh,jO,e1]
  simp only[h2,hd2,hg,hcn,ace,acQ]
  rw[hl,A3 key _ r.head x hw.head hx hr]
  simp
 ·rw[e1];exact h3
theorem A4 (v:ae) (hw:v.wf) (hr:aN v=true) (rest:Bs):mM (bg v++rest)=(v,((bg v).length:Int),0):=by
 have h:=tp v hw hr rest false
 unfold mM
 rw[h]
 simp only[abP,if_false]
 rw[abI,aez]
theorem vE (l:List ae) (h:∀v∈l,aN v=true∧v.wf) (rest:Bs):∀n,n≤l.length→rY n (l.flatMap bg++rest)=some (l.take n,(l.drop n).flatMap bg++rest)
 | 0,_=> rfl
 | n+1,hn=> by
   have ih:=vE l h rest n (by omega)
   have hd:l.drop n=l[n]::l.drop (n+1):=acJ (by omega)
   obtain ⟨h1,h2⟩:=h _ (acZ (show n < l.length by omega))
   rw[rY,ih,hd,adU,abO]
   have ht:=A4 l[n] h2 h1 ((l.drop (n+1)).flatMap bg++rest)
   simp only[ht,aca,ad2,ne_eq,not_true_eq_false,if_false,acb (show n < l.length by omega)]
theorem MC {s:bF} {i:Nat} {q:pw} (h:POk s i q) (rest:Bs) (hs:s.bL≤8∧0≤s.mem):Je (mU q++rest)=some (q,rest):=by
 obtain ⟨role,aI,to,vs⟩:=q
 obtain ⟨a1,a2,a3,a4,a5,a6,a7,a8,a9⟩:=h
 simp only at a1 a2 a3 a4 a5 a6 a7 a8 a9
 have r1:(((bt role).toNat:Nat):Int)=role:=dY (by omega) (by omega)
 have r2:(((bt to).toNat:Nat):Int)=to:=dY (by rcases a1 with h | h | h <;> first | (have:=a5 (by omega);omega) | (have:=a4 h;omega)) (by rcases a1 with h | h | h <;> first | (have:=a5 (by omega);omega) | (have:=a4 h;omega))
 have r3:(bt (vs.length:Int)).toNat=vs.length:=by have:=dY (n:=(vs.length:Int)) (by omega) (by omega);omega
 have r4:((er (aE aI.toNat):Nat):Int)=aI:=by rw[gf _ (by omega)];omega
 have hv:=vE vs (fun v hv=>⟨(a9 v hv).1,(a9 v hv).2.1⟩) rest vs.length (abJ _)
 rw[ac5,aeQ,aeM,acj] at hv
 obtain ⟨n,hn⟩:∃n,aE aI.toNat=n:=⟨_,rfl⟩
 have nV:n.length=8:=by rw[←hn];exact aF _
 rw[hn] at r4
 match n,nV with
 | [n0,n1,n2,n3,n4,n5,n6,n7],_=>
   unfold Je mU
   simp only[hn,acu,acj,abO]
   rw[if_neg (by simp)]
   simp only[List.getD_cons_zero,List.getD_cons_succ,aeq,acg,r3,hv,adb,adI,r1,r2]
   rw[r4]
def mW (s:bF) (n:Nat):Bs:=(List.range (16 - n)).flatMap fun i=> mU (s.p (n+i))
theorem yQ (s:bF):mW s 0=gd s 16:=by simp[mW,gd]
theorem yR (s:bF) (n:Nat) (h:n < 16):mW s n=mU (s.p n)++mW s (n+1):=by
 unfold mW
 rw[show 16 - n=(16 - (n+1))+1 by omega,List.range_succ_eq_map,adU,List.flatMap_map]
 have hf:(fun i=> mU (s.p (n+(i+1))))=fun i=> mU (s.p (n+1+i)):=funext fun i=> by rw[show n+(i+1)=n+1+i by omega]
 simp only[adO,Nat.succ_eq_add_one]
 rw[hf]
theorem Er (s t:bF) (n:Nat):(jZ s t n).pU n (s.p n)=jZ s t (n+1):=by
 simp only[jZ,bF.pU,bF.mk.injEq,true_and]
 funext j
 by_cases h:j=n
 ·subst h;simp
 ·simp only[h,if_false]
  by_cases h1:j < n
  ·simp[h1,show j < n+1 by omega]
  ·simp[h1,show ¬j < n+1 by omega]
theorem CX {s:bF} (hk:mQ s):∀n,n≤16→CU (jZ s (bF.new s.mem s.bL) 0) (mW s 0) n=some (jZ s (bF.new s.mem s.bL) n,mW s n)
 | 0,_=> rfl
 | n+1,hn=> by
   have ih:=CX hk n (by omega)
   have ok:=hk.p n (by omega)
   have hp:=MC ok (mW s (n+1)) ⟨hk.m2,hk.m3⟩
   have ba:ti (jZ s (bF.new s.mem s.bL) n) n (s.p n)=(0,jZ s (bF.new s.mem s.bL) (n+1)):=by
     unfold ti;rw[if_pos (ok.right (t:=jZ s (bF.new s.mem s.bL) n) rfl rfl),Er]
   rw[CU,ih,yR s n (by omega)]
   simp only[hp,ba,ne_eq,not_true_eq_false,if_false]
def beyond (s:bF):Prop:=∀j,16≤j→s.p j=(bF.new s.mem s.bL).p j
theorem XW {s:bF} (hk:mQ s) (hb:beyond s):ofI s.mem s.bL (kM s)=some s:=by
 have h1:=CX hk 16 (abJ _)
 have h0:jZ s (bF.new s.mem s.bL) 0=bF.new s.mem s.bL:=by simp[jZ,bF.new]
 have h16:jZ s (bF.new s.mem s.bL) 16=s:=by
   obtain ⟨m,ms,p⟩:=s
   simp only[jZ,bF.mk.injEq,true_and]
   funext j
   by_cases h:j < 16
   ·simp[h]
   ·simp only[h,if_false]
    exact (hb j (by omega)).symm
 rw[h0,h16,yQ] at h1
 have hr:Jf s.mem s.bL (kM s)=some s:=by
   unfold Jf
   rw[if_neg (by simp[kM])]
   have:(kM s).drop 2=gd s 16:=by simp[kM]
   rw[this,h1]
   rfl
 unfold ofI
 rw[hr]
 simp
theorem lI {s:bF} (hb:beyond s) {n:Nat} (hn:n < 16) (q:pw):beyond (s.pU n q):=fun j hj=> by
 rw[IW _ _ _ _ (by omega)]
 exact hb j hj
theorem xk {s:bF} (hb:beyond s) {r:aC}:beyond (bE s r).2:=by
 unfold bE
 by_cases c0:cY s r=0
 case neg=> rw[if_pos c0];exact hb
 rw[if_neg (by simp[c0])]
 have hr:=xg c0
 by_cases k1:r.kind=1
 ·rw[if_pos k1];exact lI hb (eD _) _
 ·rw[if_neg k1]
  have:=nD hr k1
  split
  ·exact lI hb (by omega) _
  ·split
   ·exact lI hb (by omega) _
   ·exact lI hb (by omega) _
theorem Jh {s:bF} (hk:mQ s):(kM s).length≤8184:=by
 have:=q32z hk 16 (abJ _)
 simp only[kM,abI,ab3,aci];omega
theorem HD.fold {key:Bs} {K:Dk} {r:ah} {S:bF} {l:Bs} (hw:r.wf) (hr:bw r=true) (hc:r.base < r.count) (hk:mQ S) (hb:beyond S)
 (hl:l=(j1 key r (kM S)).1) (hg:K.get (1 - r.aM)=some l):HD S.mem S.bL key K (iI r (cT l)).1 S∧(iI r (cT l)).2=true∧(iI r (cT l)).1=⟨r.bY,r.count,r.count,cT l,1 - r.aM⟩:=by
 have Ep:=q11z hr
 have him:=Jh hk
 have Cr:l=ei key r.count.toNat uV (kM S):=by rw[hl];unfold j1;rw[if_neg (by omega)]
 have mX:bw ⟨r.bY,r.count,r.count,cT l,1 - r.aM⟩=true:=by
   unfold bw
   simp only[abH,acv,decide_eq_true_eq]
   have:=hw.base
   exact ⟨⟨⟨⟨⟨by omega,by omega⟩,by omega⟩,by omega⟩,by omega⟩,.inl (by omega)⟩
 have hf:iI r (cT l)=(⟨r.bY,r.count,r.count,cT l,1 - r.aM⟩,true):=by
   unfold iI xh
   rw[if_neg (by omega),if_pos ⟨hr,mX⟩]
 rw[hf]
 refine ⟨⟨kM S,cT l,[],S,?_,?_,?_,rfl⟩,rfl,rfl⟩
 ·unfold tq
  simp only
  have:=hw.base
  rw[if_neg (by omega),hg,Cr]
  simp only[qm key r.count.toNat uV (kM S) him (by decide)]
 ·have hh:bH ⟨r.bY,r.count,r.count,cT l,1 - r.aM⟩=0:=by rw[q19z mX];simp
  rw[hh];rfl
 ·have:=hw.base
  rw[if_pos (by simp only;omega)]
  exact XW hk hb
theorem mY {D:aY} (h:D.step.1=false):D.step.2=D.down D.gL:=by
 unfold aY.step at h ⊢
 by_cases c:D.cO=0
 ·rw[if_pos c]
 ·rw[if_neg c] at h;cases h
theorem xl {D:aY} (h:D.step.1=true):D.step.2= {D with cO:=if 0 < D.cO then D.cO - 1 else D.cO,steps:=D.steps+1}:=by
 unfold aY.step at h ⊢
 by_cases c:D.cO=0
 ·rw[if_pos c] at h;cases h
 ·rw[if_neg c]
theorem xm {K:Dk} (hp:K.eh=0) (t:Int):K.iU t= {K with now:=K.bI,bI:=K.bI,eh:=0}:=by
 unfold Dk.iU Dk.gL
 rw[if_neg (by omega)]
theorem get_eq {K K':Dk} (h:K'.now=K.now) (i:Int):K'.get i=K.get i:=by unfold Dk.get;rw[h]
theorem CY {K K':Dk} {n:Nat} {x:Option Bs} (h:K'.now=K.now.set n x) (i:Int) (hi:i≠n):K'.get i=K.get i:=by
 unfold Dk.get
 split
 ·rw[h,tm,if_neg (by omega)]
 ·rfl
theorem Ji {K K':Dk} {n:Nat} {x:Bs} (h:K'.now=K.now.set n (some x)) (hk:K.now.length=10) (hn:n < 10):K'.get (n:Int)=some x:=by
 unfold Dk.get
 rw[if_pos (by omega),h,tm,if_pos (by omega)]
structure LD (K K':Dk) (n:Int):Prop where
 nl:K'.now=K'.bI
 p0:K'.eh=0
 ne:∀i:Int,i≠n→K'.get i=K.get i
 ok:K'.OK
theorem Jj {D:aY} (hp:D.dk.eh=0) (nV:D.dk.now=D.dk.bI) (hk:D.dk.OK) (n:Int) (l:Bs):
 LD D.dk (D.lay n l).2.dk n∧((D.lay n l).1=true→Dk.jN n l=true→(D.lay n l).2.dk.get n=some l):=by
 have hc0:LD D.dk (D.dk.iU D.gL) n:=by
   rw[xm hp]
   exact ⟨rfl,rfl,fun i _=> get_eq nV.symm i,⟨hk.bI,hk.bI,hk.at_,hk.ls,hk.ls,hk.last⟩⟩
 unfold aY.lay
 cases c1:D.step.1 with
 | false=>
   rw[if_pos rfl,mY c1]
   exact ⟨hc0,fun h=> by cases h⟩
 | true=>
   rw[if_neg (by simp),xl c1]
   generalize hD1:({D with cO:=if 0 < D.cO then D.cO - 1 else D.cO,steps:=D.steps+1}:aY)=D1
   have hdk:D1.dk=D.dk:=by rw[←hD1]
   have htn:D1.gL=D.gL:=by rw[←hD1]
   by_cases ct:Dk.jN n l=true
   ·have ct':=ct
    simp only[Dk.jN,abH,decide_eq_true_eq] at ct'
    obtain ⟨⟨t1,t2⟩,t3⟩:=ct'
    obtain ⟨m,rfl⟩:∃m:Nat,n=m:=⟨n.toNat,by omega⟩
    have fR:(D1.put m l).dk=D.dk.put m l:=by unfold aY.put;simp only[ct,if_true,hdk,aca]
    have iH:=Dk.I3 hk (n:=m) (l:=l) (by omega) t3
    cases c3:(D1.put m l).step.1 with
    | false=>
      rw[if_pos rfl,mY c3]
      refine ⟨?_,fun h=> by cases h⟩
      have e:((D1.put m l).down (D1.put m l).gL).dk=(D.dk.put m l).iU (D1.put m l).gL:=by simp only[aY.down,fR]
      rw[e]
      refine ⟨rfl,rfl,fun i hi=> ?_,Dk.I4 iH _⟩
      by_cases ctn:0 <(D.dk.put m l).eh∧0 <(D1.put m l).gL
      ·exact CY (K:=D.dk) (n:=m) (x:=some (l.take (D1.put m l).gL.toNat)) (by simp only[Dk.iU,Dk.gL,ctn,and_self,if_true];simp only[Dk.put,nV]) i hi
      ·exact get_eq (by simp only[Dk.iU,Dk.gL,ctn,if_false];simp only[Dk.put,nV]) i
    | true=>
      rw[if_neg (by simp),xl c3]
      have e:(D1.put m l).dk.sync=(D.dk.put m l).sync:=by rw[fR]
      simp only[e]
      refine ⟨⟨rfl,rfl,fun i hi=> CY (K:=D.dk) (n:=m) (x:=some l) (by simp only[Dk.sync,Dk.put]) i hi,Dk.xj iH⟩,fun _ _=> Ji (K:=D.dk) (by simp only[Dk.sync,Dk.put]) hk.now (by omega)⟩
   ·have fR:(D1.put n l).dk=D.dk:=by unfold aY.put;simp only[ct,abP,if_false,hdk]
    cases c3:(D1.put n l).step.1 with
    | false=>
      rw[if_pos rfl,mY c3]
      refine ⟨?_,fun h=> by cases h⟩
      have e:((D1.put n l).down (D1.put n l).gL).dk=D.dk.iU (D1.put n l).gL:=by simp only[aY.down,fR]
      rw[e,xm hp]
      exact ⟨rfl,rfl,fun i _=> get_eq nV.symm i,⟨hk.bI,hk.bI,hk.at_,hk.ls,hk.ls,hk.last⟩⟩
    | true=>
      rw[if_neg (by simp),xl c3]
      have e:(D1.put n l).dk.sync=D.dk.sync:=by rw[fR]
      simp only[e]
      exact ⟨⟨rfl,rfl,fun i _=> get_eq rfl i,Dk.xj hk⟩,fun _ h=> absurd h ct⟩
theorem CZ {D:aY} (hp:D.dk.eh=0) (nV:D.dk.now=D.dk.bI) (hk:D.dk.OK):D.step.2.dk.now=D.step.2.dk.bI∧D.step.2.dk.eh=0∧(∀i,D.step.2.dk.get i=D.dk.get i)∧D.step.2.dk.OK:=by
 cases c1:D.step.1 with
 | false=>
   rw[mY c1]
   simp only[aY.down,xm hp]
   exact ⟨trivial,trivial,fun i=> get_eq nV.symm i,⟨hk.bI,hk.bI,hk.at_,hk.ls,hk.ls,hk.last⟩⟩
 | true=>
   rw[xl c1]
   exact ⟨nV,hp,fun i=> rfl,hk⟩
structure HI0 (N:Int) (D:aY):Prop where
 ok:oO 0 N D
 dm:DM D
 dko:D.dk.OK
 nl:D.dk.now=D.dk.bI
 sm:D.st.mem=D.mem∧D.st.bL=D.bL
 sk:mQ D.st
 bey:beyond D.st
 hd:HD D.mem D.bL D.key D.dk D.r D.st
 is:D.is=1∨D.is=2
 cn:D.r.count≤N∧D.r.bY≤N
structure HI (N:Int) (D:aY):Prop extends HI0 N D where
 hl:D.is=1→bH D.r < 8
theorem HI.new {a b:Int} (k:Bs) (h1:1≤b) (h2:b≤8) (h3:0≤a) (h4:a < b):HI 0 (aY.new a b k):=by
 refine ⟨⟨oO.new k h1 h2 h3 h4,⟨h1,h2,h3,h4⟩,Dk.xi,rfl,⟨rfl,rfl⟩,mQ.new h1 h2 h3 h4,fun j _=> rfl,⟨[],bp,[],bF.new a b,rfl,rfl,?_,rfl⟩,.inl rfl,show jM.count≤0∧jM.bY≤0 by decide⟩,fun _=> show bH jM < 8 by decide⟩
 rw[if_neg (show ¬0 <(aY.new a b k).r.base from (by decide:¬0 < jM.base))];rfl
theorem C0 {r:ah} {hd:Bs} (hw:r.wf) (hr:bw r=true) (hl:bH r < 8) (hc:r.count < 1099511627776):(eE r hd).2=true:=by
 have:=q11z hr
 rw[q19z hr] at hl
 have mX:bw ⟨r.bY,r.count+1,r.base,hd,r.aM⟩=true:=by
   unfold bw
   simp only[abH,acv,decide_eq_true_eq]
   have:=hw.base
   exact ⟨⟨⟨⟨⟨by omega,by omega⟩,by omega⟩,by omega⟩,by omega⟩,.inl (by omega)⟩
 unfold eE xh
 rw[if_pos ⟨hr,mX⟩]
theorem A5 {r:ah} (hl:bH r < 8):bU r=2+bH r:=by unfold bU;rw[if_neg (by omega)]
theorem HI0.mk' {N M:Int} {D E:aY} (h:HI0 N D) (hs:D.same E) (hl:(E.dk.now=E.dk.bI∧E.dk.OK∧tw D.dk E.dk D.r)) (iH:oO 0 M E) (hN:N≤M) (hi:E.is=D.is∨E.is=2):HI0 M E:=by
 obtain ⟨m1,m2,m3,m4,m5⟩:=hs
 obtain ⟨l1,l2,l3⟩:=hl
 refine ⟨iH,⟨by rw[m2];exact h.dm.m1,by rw[m2];exact h.dm.m2,by rw[m1];exact h.dm.m3,by rw[m1,m2];exact h.dm.m4⟩,l2,l1,by rw[m1,m2,m4];exact h.sm,by rw[m4];exact h.sk,by rw[m4];exact h.bey,?_,?_,?_⟩
 ·rw[m1,m2,m3,m4,m5]
  exact h.hd.same h.ok.gw.base.1 l3
 ·rcases hi with hi | hi
  ·rw[hi];exact h.is
  ·exact .inr hi
 ·rw[m5];have:=h.cn;omega
theorem OM {D:aY} {n:Int} {l:Bs} (h:(D.lay n l).1=false):(D.lay n l).2.is=2:=by
 unfold aY.lay at h ⊢
 cases c1:D.step.1 with
 | false=>
   rw[if_pos rfl,mY c1];rfl
 | true=>
   rw[c1,if_neg (by simp)] at h
   rw[if_neg (by simp)]
   cases c3:(D.step.2.put n l).step.1 with
   | false=> rw[if_pos rfl,mY c3];rfl
   | true=> rw[c3,if_neg (by simp)] at h;cases h
theorem aY.same.trans {A B C:aY} (h:A.same B) (k:B.same C):A.same C:=by
 obtain ⟨a1,a2,a3,a4,a5⟩:=h
 obtain ⟨b1,b2,b3,b4,b5⟩:=k
 exact ⟨b1.trans a1,b2.trans a2,b3.trans a3,b4.trans a4,b5.trans a5⟩
theorem vF {K K':Dk} {r:ah} {n:Int} (hl:LD K K' n) (h1:n≠r.aM) (h2:n < 2∨2+bH r≤n):tw K K' r:=
 ⟨fun _=> hl.ne _ (fun e=> h1 e.symm),fun i hi=> hl.ne _ (fun e=> by omega)⟩
theorem qY {A B C:Dk} {r:ah} (h:tw A B r) (hg:∀i,C.get i=B.get i):tw A C r:=
 ⟨fun hb=>(hg _).trans (h.1 hb),fun i hi=>(hg _).trans (h.2 i hi)⟩
theorem HI0.fold {N:Int} {D:aY} (h:HI0 N D) (hi:D.is=1) (h8:bH D.r=8):
 HI (N+3) D.fold.2∧D.fold.2.st=D.st∧D.fold.2.r.count=D.r.count∧D.fold.2.r.bY=D.r.bY∧(D.fold.1=true→D.fold.2.is=1)∧(D.fold.1=false→D.fold.2.is=2):=by
 have Ep:=q11z h.ok.gr
 have hp0:D.dk.eh=0:=Nat.le_zero.1 h.ok.eh
 obtain ⟨hL,hG⟩:=Jj hp0 h.nl h.dko (1 - D.r.aM) D.mq
 have ok1:=h.ok.lay (1 - D.r.aM) D.mq
 obtain ⟨s1,i1⟩:=aY.pC D (1 - D.r.aM) D.mq
 have sk1:tw D.dk (D.lay (1 - D.r.aM) D.mq).2.dk D.r:=vF hL (by omega) (.inl (by omega))
 have hil:D.mq.length≤8192:=tn _ _ _
 have dQ:Dk.jN (1 - D.r.aM) D.mq=true:=by
   simp only[Dk.jN,abH,decide_eq_true_eq];omega
 have hf:=OM (D:=D) (n:=1 - D.r.aM) (l:=D.mq)
 unfold aY.fold
 generalize (D.lay (1 - D.r.aM) D.mq)=L at *
 cases c1:L.1 with
 | false=>
   rw[if_pos rfl]
   obtain ⟨m1,m2,m3,m4,m5⟩:=s1
   have rC:=hf c1
   have h0:=h.mk' ⟨m1,m2,m3,m4,m5⟩ ⟨hL.nl,hL.ok,sk1⟩ (ok1.wk (p':=0) (N':=N+3) (by omega) (by omega)) (by omega) (.inr rC)
   exact ⟨⟨h0,fun h1=> by rw[show (false,L.2).2=L.2 from rfl,rC] at h1;cases h1⟩,m4,by rw[m5],by rw[m5],(fun h=> by cases h),fun _=> rC⟩
 | true=>
   rw[if_neg (by simp)]
   obtain ⟨t1,t2,t3,t4⟩:=CZ hL.p0 hL.nl hL.ok
   have ok2:=ok1.step
   obtain ⟨s2,i2⟩:=aY.jg L.2
   have sk2:=qY sk1 t3
   have s12:=s1.trans s2
   cases c2:L.2.step.1 with
   | false=>
     rw[if_pos rfl]
     have rC:L.2.step.2.is=2:=by rw[mY c2];rfl
     obtain ⟨m1,m2,m3,m4,m5⟩:=s12
     have h0:=h.mk' ⟨m1,m2,m3,m4,m5⟩ ⟨t1,t4,sk2⟩ (ok2.wk (p':=0) (N':=N+3) (by omega) (by omega)) (by omega) (.inr rC)
     exact ⟨⟨h0,fun h1=> by rw[show (false,L.2.step.2).2=L.2.step.2 from rfl,rC] at h1;cases h1⟩,m4,by rw[m5],by rw[m5],(fun h=> by cases h),fun _=> rC⟩
   | true=>
     rw[if_neg (by simp)]
     have is2:L.2.step.2.is=1:=by rw[i2 c2,i1 c1,hi]
     have uK:=(t3 (1 - D.r.aM)).trans (hG c1 dQ)
     generalize L.2.step.2=E at *
     obtain ⟨m1,m2,m3,m4,m5⟩:=s12
     have hcb:D.r.base < D.r.count:=by rw[q19z h.ok.gr] at h8;omega
     obtain ⟨f1,f2,f3⟩:=HD.fold (key:=D.key) (K:=E.dk) h.ok.gw h.ok.gr hcb h.sk h.bey rfl uK
     have him:(j1 D.key D.r (kM D.st)).1=D.mq:=rfl
     rw[him] at f1 f2 f3
     simp only[m5]
     have oH:bw (iI D.r (cT D.mq)).1=true:=by
       have:=f2
       unfold iI xh at this ⊢
       rw[if_neg (by omega)] at this ⊢
       split at this
       ·rename_i c;rw[if_pos c];exact c.2
       ·cases this
     have Cp:(iI D.r (cT D.mq)).1.wf:=by
       rw[f3]
       obtain ⟨w1,w2,w3,w4,w5⟩:=h.ok.gw
       exact ⟨w1,w2,w2,bO _,by simp only;omega⟩
     have hh0:bH (iI D.r (cT D.mq)).1=0:=by rw[q19z oH,f3];simp
     refine ⟨⟨⟨⟨ok2.eh,ok2.s0,by have:=ok2.s1;simp only;omega,ok2.f1,oH,Cp,fun _=> by simp only[m4];exact h.sk,.inl is2⟩,⟨by simp only[m2];exact h.dm.m1,by simp only[m2];exact h.dm.m2,by simp only[m1];exact h.dm.m3,by simp only[m1,m2];exact h.dm.m4⟩,t4,t1,by simp only[m1,m2,m4];exact h.sm,by simp only[m4];exact h.sk,by simp only[m4];exact h.bey,?_,.inl is2,?_⟩,fun _=> by simp only;omega⟩,m4,by simp only[f3],by simp only[f3],fun _=> is2,(fun h=> by cases h)⟩
     ·simp only[m1,m2,m3,m4]
      have:=h.sm
      rw[this.1,this.2] at f1
      exact f1
     ·simp only[f3];have:=h.cn;omega
theorem HI.wk {N M:Int} {D:aY} (h:HI N D) (hm:N≤M):HI M D:=
 ⟨⟨h.ok.wk (abJ _) hm,h.dm,h.dko,h.nl,h.sm,h.sk,h.bey,h.hd,h.is,by have:=h.cn;omega⟩,h.hl⟩
def Kept (D E:aY) (e:Int) (r:aC):Prop:=
 (E.r=D.r∧E.st=D.st∧e=29∧E.is=2)∨(E.r.count=D.r.count+1∧E.r.bY=D.r.bY∧E.st=(bE D.st r).2∧(e=0∧E.is=1∨e=29∧E.is=2))
theorem HI.do {N:Int} {D:aY} (h:HI N D) (hN:N < 1000000000) {r:aC} (hw:r.wf) (hi:D.is=1) (hc:cY D.st r=0):HI (N+6) (D.do r).2∧Kept D (D.do r).2 (D.do r).1 r:=by
 have hrd:j2 D=0:=by unfold j2;rw[if_neg (by omega),if_neg (by omega)]
 have Ep:=q11z h.ok.gr
 have hp0:D.dk.eh=0:=Nat.le_zero.1 h.ok.eh
 have hh:=h.hl hi
 have hh0:=pB D.r h.ok.gw
 have nU:=A5 hh
 have hcn:=h.cn
 have qP:(D.next r).2=true:=C0 h.ok.gw h.ok.gr hh (by omega)
 have hhl:(eS D.r.head (D.frame r)).length=16:=by simp[eS,cW,bO]
 obtain ⟨n1,n2,n3,n4⟩:=q26z (hd:=eS D.r.head (D.frame r)) h.ok.gw hhl qP
 obtain ⟨hL,hG⟩:=Jj hp0 h.nl h.dko (bU D.r) (D.frame r)
 have ok1:=h.ok.lay (bU D.r) (D.frame r)
 obtain ⟨s1,i1⟩:=aY.pC D (bU D.r) (D.frame r)
 have sk1:tw D.dk (D.lay (bU D.r) (D.frame r)).2.dk D.r:=vF hL (by omega) (.inr (by omega))
 have nZ:=vC D hw hw.aj.2 h.ok.gw.head
 have dQ:Dk.jN (bU D.r) (D.frame r)=true:=by
   simp only[Dk.jN,abH,decide_eq_true_eq];omega
 have hf:=OM (D:=D) (n:=bU D.r) (l:=D.frame r)
 have hpd:D.yN r= {(D.lay (bU D.r) (D.frame r)).2.step.2 with r:=(D.next r).1,st:=(bE (D.lay (bU D.r) (D.frame r)).2.step.2.st r).2}:=rfl
 unfold aY.do
 rw[if_neg (by omega),if_neg (by omega),if_neg (by simp[qP]),hpd]
 generalize (D.lay (bU D.r) (D.frame r))=L at *
 cases c1:L.1 with
 | false=>
   rw[if_pos rfl]
   obtain ⟨m1,m2,m3,m4,m5⟩:=s1
   have rC:=hf c1
   have h0:=h.toHI0.mk' ⟨m1,m2,m3,m4,m5⟩ ⟨hL.nl,hL.ok,sk1⟩ (ok1.wk (p':=0) (N':=N+6) (by omega) (by omega)) (by omega) (.inr rC)
   exact ⟨⟨h0,fun h1=> by rw[show ((29:Int),L.2).2=L.2 from rfl,rC] at h1;cases h1⟩,.inl ⟨m5,m4,rfl,rC⟩⟩
 | true=>
   rw[if_neg (by simp)]
   obtain ⟨t1,t2,t3,t4⟩:=CZ hL.p0 hL.nl hL.ok
   have ok2:=ok1.step
   obtain ⟨s2,i2⟩:=aY.jg L.2
   have sk2:=qY sk1 t3
   have s12:=s1.trans s2
   cases c2:L.2.step.1 with
   | false=>
     rw[if_pos rfl]
     have rC:L.2.step.2.is=2:=by rw[mY c2];rfl
     obtain ⟨m1,m2,m3,m4,m5⟩:=s12
     have h0:=h.toHI0.mk' ⟨m1,m2,m3,m4,m5⟩ ⟨t1,t4,sk2⟩ (ok2.wk (p':=0) (N':=N+6) (by omega) (by omega)) (by omega) (.inr rC)
     exact ⟨⟨h0,fun h1=> by rw[show ((29:Int),L.2.step.2).2=L.2.step.2 from rfl,rC] at h1;cases h1⟩,.inl ⟨m5,m4,rfl,rC⟩⟩
   | true=>
     rw[if_neg (by simp)]
     have is2:L.2.step.2.is=1:=by rw[i2 c2,i1 c1,hi]
     have uK:=(t3 (bU D.r)).trans (hG c1 dQ)
     rw[nU] at uK
     generalize L.2.step.2=E at *
     obtain ⟨m1,m2,m3,m4,m5⟩:=s12
     have f1:=HD.next (x:=r) (l:=D.frame r) (h.hd.same h.ok.gw.base.1 sk2) h.ok.gw hw h.sk hc rfl qP uK
     have da:eE D.r (eS D.r.head (D.frame r))=D.next r:=rfl
     rw[da] at n1 n3 n4 f1
     have hA:HI0 (N+3) {E with r:=(D.next r).1,st:=(bE E.st r).2}:=by
       refine ⟨⟨ok2.eh,ok2.s0,by have:=ok2.s1;simp only;omega,ok2.f1,n3,n4,fun _=> by simp only[m4];exact th h.sk hw hw.aj.2,.inl is2⟩,⟨by simp only[m2];exact h.dm.m1,by simp only[m2];exact h.dm.m2,by simp only[m1];exact h.dm.m3,by simp only[m1,m2];exact h.dm.m4⟩,t4,t1,?_,by simp only[m4];exact th h.sk hw hw.aj.2,by simp only[m4];exact xk h.bey,?_,.inl is2,?_⟩
       ·simp only[m1,m2,m4]
        have:=h.sm
        rw[←this.1,←this.2]
        unfold bE
        split
        ·exact ⟨rfl,rfl⟩
        ·split
         ·exact ⟨rfl,rfl⟩
         ·split
          ·exact ⟨rfl,rfl⟩
          ·split <;> exact ⟨rfl,rfl⟩
       ·simp only[m1,m2,m3,m4]
        exact f1
       ·simp only[n1];omega
     have cn:(D.next r).1.count=D.r.count+1:=by rw[n1]
     have bn:(D.next r).1.bY=D.r.bY:=by rw[n1]
     by_cases c8:bH (D.next r).1=8
     ·rw[if_pos c8]
      obtain ⟨g1,g2,g3,g4,g5,g6⟩:=hA.fold is2 c8
      generalize ({E with r:=(D.next r).1,st:=(bE E.st r).2}:aY).fold=Z at *
      refine ⟨g1.wk (by omega),.inr ⟨g3.trans cn,g4.trans bn,by rw[g2,m4],?_⟩⟩
      cases c9:Z.1 with
      | false=> exact .inr ⟨rfl,g6 c9⟩
      | true=> exact .inl ⟨rfl,g5 c9⟩
     ·rw[if_neg c8]
      have hn8:=pB (D.next r).1 n4
      exact ⟨HI.wk ⟨hA,fun _=> by simp only;omega⟩ (by omega),.inr ⟨cn,bn,by simp only[m4],.inl ⟨rfl,is2⟩⟩⟩
theorem MD {r:ah} (hr:bw r=true) (hb:r.bY < 1099511627776):(eW r).2=true:=by
 have mX:bw ⟨r.bY+1,r.count,r.base,r.head,r.aM⟩=true:=by
   have:=q11z hr
   unfold bw at hr ⊢
   simp only[abH,acv,decide_eq_true_eq] at hr ⊢
   obtain ⟨⟨⟨⟨⟨h1,h2⟩,h3⟩,h4⟩,h5⟩,h6⟩:=hr
   exact ⟨⟨⟨⟨⟨by omega,h2⟩,h3⟩,h4⟩,h5⟩,h6⟩
 unfold eW xh
 rw[if_pos ⟨hr,mX⟩]
theorem HI.start {N:Int} {D:aY} (h:HI N D) (hN:N < 1000000000) (hi:D.is=2):HI (N+4) D.start.2∧D.start.2.st=D.st∧D.start.2.r.count=D.r.count∧D.start.2.r.bY=D.r.bY+1∧
 (D.start.1=0∧D.start.2.is=1∨D.start.1=29∧D.start.2.is=2)∧(bH D.r < 8→D.start=(0, {D.up D.st with r:=⟨D.r.bY+1,D.r.count,D.r.base,D.r.head,D.r.aM⟩})):=by
 have hcn:=h.cn
 have hb:=MD h.ok.gr (by omega)
 obtain ⟨b1,b2,b3⟩:=q25z h.ok.gw hb
 have hd2:=h.hd.bY h.ok.gw hb h.ok.gr
 have Ig:D.tv.load=some D.st:=HD.load (D:=D.tv) b2 hd2
 have hhe:bH (eW D.r).1=bH D.r:=by rw[q19z b2,q19z h.ok.gr,b1]
 have hup:D.up D.st= {D.up D.st with r:=⟨D.r.bY+1,D.r.count,D.r.base,D.r.head,D.r.aM⟩}:=by
   rw[←b1];rfl
 have hU:HI0 (N+1) (D.up D.st):=
   ⟨⟨h.ok.eh,h.ok.s0,by have:=h.ok.s1;show D.steps≤_;omega,h.ok.f1,b2,b3,fun _=> h.sk,.inl rfl⟩,⟨h.dm.m1,h.dm.m2,h.dm.m3,h.dm.m4⟩,h.dko,h.nl,h.sm,h.sk,h.bey,hd2,.inl rfl,by show (eW D.r).1.count≤_∧(eW D.r).1.bY≤_;rw[b1];simp only;omega⟩
 have fU:(D.up D.st).r.count=D.r.count:=by show (eW D.r).1.count=_;rw[b1]
 have hrb:(D.up D.st).r.bY=D.r.bY+1:=by show (eW D.r).1.bY=_;rw[b1]
 have ba:(D.up D.st).st=D.st:=rfl
 have hui:(D.up D.st).is=1:=rfl
 have hur:(D.up D.st).r=(eW D.r).1:=rfl
 unfold aY.start
 rw[if_neg (by omega),if_neg (by omega),if_neg (by simp[hb]),Ig]
 simp only
 rw[←hup]
 generalize D.up D.st=U at *
 by_cases c8:bH (eW D.r).1=8
 ·rw[if_pos c8]
  obtain ⟨g1,g2,g3,g4,g5,g6⟩:=hU.fold hui (by rw[hur];exact c8)
  generalize U.fold=Z at *
  refine ⟨?_,g2.trans ba,g3.trans fU,g4.trans hrb,?_,fun hc=> by omega⟩
  ·exact g1.wk (by omega)
  ·cases c9:Z.1 with
   | false=> exact .inr ⟨rfl,g6 c9⟩
   | true=> exact .inl ⟨rfl,g5 c9⟩
 ·rw[if_neg c8]
  have h8:=pB (eW D.r).1 b3
  exact ⟨HI.wk ⟨hU,fun _=> by rw[hur];omega⟩ (by omega),ba,fU,hrb,.inl ⟨rfl,hui⟩,fun _=> rfl⟩
theorem kN {D:aY} (h:D.cO < 0):D.step=(true, {D with steps:=D.steps+1}):=by
 unfold aY.step
 rw[if_neg (by omega),if_neg (by omega)]
theorem tz {D:aY} (h:D.cO < 0) (n:Int) (l:Bs):D.lay n l=(true, {D with steps:=D.steps+1+1,dk:=(D.put n l).dk.sync}):=by
 have e:({D with steps:=D.steps+1}:aY).put n l= {D.put n l with steps:=D.steps+1}:=rfl
 have h2:({D.put n l with steps:=D.steps+1}:aY).cO < 0:=h
 unfold aY.lay
 rw[kN h]
 simp only[e,kN h2]
 simp only[ad9,if_false]
 rfl
theorem Es {D:aY} (h:D.cO < 0):D.fold=(true, {D with steps:=D.steps+1+1+1,dk:=(D.put (1 - D.r.aM) D.mq).dk.sync,r:=(iI D.r (cT D.mq)).1}):=by
 have h2:({D with steps:=D.steps+1+1,dk:=(D.put (1 - D.r.aM) D.mq).dk.sync}:aY).cO < 0:=h
 unfold aY.fold
 rw[tz h]
 simp only[kN h2,ad9,if_false]
theorem C1 {N:Int} {D:aY} (h:HI N D) (hN:N < 1000000000) {r:aC} (hw:r.wf) (hi:D.is=1) (hc:cY D.st r=0) (hf:D.cO < 0):
 (D.do r).1=0∧(D.do r).2.is=1∧(D.do r).2.cO=D.cO∧(D.do r).2.steps=D.steps+(if bH D.r=7 then 6 else 3)∧bH (D.do r).2.r=(if bH D.r=7 then 0 else bH D.r+1):=by
 have hrd:j2 D=0:=by unfold j2;rw[if_neg (by omega),if_neg (by omega)]
 have hh:=h.hl hi
 have hcn:=h.cn
 have qP:(D.next r).2=true:=C0 h.ok.gw h.ok.gr hh (by omega)
 have hhl:(eS D.r.head (D.frame r)).length=16:=by simp[eS,cW,bO]
 obtain ⟨n1,n2,n3,n4⟩:=q26z (hd:=eS D.r.head (D.frame r)) h.ok.gw hhl qP
 have da:eE D.r (eS D.r.head (D.frame r))=D.next r:=rfl
 rw[da] at n1 n3 n4
 have h2:({D with steps:=D.steps+1+1,dk:=(D.put (bU D.r) (D.frame r)).dk.sync}:aY).cO < 0:=hf
 have hp:D.yN r= {D with steps:=D.steps+1+1+1,dk:=(D.put (bU D.r) (D.frame r)).dk.sync,r:=(D.next r).1,st:=(bE D.st r).2}:=by
   unfold aY.yN
   rw[tz hf]
   simp only[kN h2]
 have ON:bH (D.next r).1=bH D.r+1:=by rw[q19z n3,q19z h.ok.gr,n1];simp only;omega
 unfold aY.do
 rw[if_neg (by omega),if_neg (by omega),if_neg (by simp[qP]),tz hf]
 simp only[kN h2,ad9,if_false,hp]
 by_cases c7:bH D.r=7
 ·rw[if_pos (by omega),if_pos c7,if_pos c7]
  have h3:({D with steps:=D.steps+1+1+1,dk:=(D.put (bU D.r) (D.frame r)).dk.sync,r:=(D.next r).1,st:=(bE D.st r).2}:aY).cO < 0:=hf
  rw[Es h3]
  simp only[ad9,if_false]
  refine ⟨trivial,hi,trivial,by omega,?_⟩
  have hcb:¬(D.next r).1.count≤(D.next r).1.base:=by rw[q19z n3] at ON;omega
  have Ep:=q11z n3
  generalize hb:(cT (aY.mq {D with steps:=D.steps+1+1+1,dk:=(D.put (bU D.r) (D.frame r)).dk.sync,r:=(D.next r).1,st:=(bE D.st r).2}))=sm
  have mX:bw ⟨(D.next r).1.bY,(D.next r).1.count,(D.next r).1.count,sm,1 - (D.next r).1.aM⟩=true:=by
    unfold bw
    simp only[abH,acv,decide_eq_true_eq]
    have:=n4.base
    exact ⟨⟨⟨⟨⟨by omega,by omega⟩,by omega⟩,by omega⟩,by omega⟩,.inl (by omega)⟩
  have:(iI (D.next r).1 sm).1=⟨(D.next r).1.bY,(D.next r).1.count,(D.next r).1.count,sm,1 - (D.next r).1.aM⟩:=by
    unfold iI xh
    rw[if_neg hcb,if_pos ⟨n3,mX⟩]
  rw[this,q19z mX]
  simp only;omega
 ·rw[if_neg (by omega),if_neg c7,if_neg c7]
  exact ⟨rfl,hi,rfl,by simp only;omega,ON⟩
def Rp (s:bF):Prop:=∀j,j < 16→(s.p j).role=1
theorem C2 (k:Bs):Rp (aY.new 0 1 k).st:=fun j _=> by simp[aY.new,bF.new,Int.emod_one]
def bS (v:ae):aC:=⟨1,0,0,0,v,[]⟩
theorem A6 {v:ae} (h:aN v=true):bm (bS v)=true:=by
 unfold bm bS
 simp[h]
theorem rZ {v:ae} (h:v.wf):(bS v).wf:=⟨by simp[bS],by simp[bS],by simp[bS],by simp[bS],h,by simp[bS]⟩
theorem HI.cO {N:Int} {D:aY} (h:HI N D) (n t:Int) (hn:n≤9223372036854775807):HI N (D.CS n t):=by
 obtain ⟨⟨⟨a1,a2,a3,a4,a5,a6,a7,a8⟩,b,c,d,e,f,g,i,j,k⟩,l⟩:=h
 exact ⟨⟨⟨a1,a2,a3,by simp only[aY.CS];omega,a5,a6,a7,a8⟩,⟨b.m1,b.m2,b.m3,b.m4⟩,c,d,e,f,g,i,j,k⟩,l⟩
theorem HI.down {N:Int} {D:aY} (h:HI N D) (t:Int):HI N (D.down t):=by
 have hp0:D.dk.eh=0:=Nat.le_zero.1 h.ok.eh
 have hd:(D.down t).dk= {D.dk with now:=D.dk.bI,bI:=D.dk.bI,eh:=0}:=by simp only[aY.down,xm hp0]
 have hk:=h.dko
 refine ⟨h.toHI0.mk' ⟨rfl,rfl,rfl,rfl,rfl⟩ ⟨by rw[hd],by rw[hd];exact ⟨hk.bI,hk.bI,hk.at_,hk.ls,hk.ls,hk.last⟩,⟨fun _=> by rw[hd];exact get_eq h.nl.symm _,fun i _=> by rw[hd];exact get_eq h.nl.symm _⟩⟩ (h.ok.down t) (Int.le_refl _) (.inr rfl),fun hi=> by cases hi⟩
theorem HI.stop {N:Int} {D:aY} (h:HI N D):HI N D.stop:=by
 unfold aY.stop
 split
 ·exact h.down 0
 ·exact h
structure Lw (h H:Hp) (id:Nat) (D:aY) (F:List Nat) (P:Nat→Prop):Prop where
 d:mV H id D F
 fw:Fw [] h H
 fn:∀j∈F,h.length≤j
 pn:∀j,P j→j∉F∧j < H.length
theorem Lw.op {h H H':Hp} {id:Nat} {D D':aY} {F F':List Nat} {P:Nat→Prop} (l:Lw h H id D F P) (hd:mV H' id D' F') (f:Fw F H H') (hn:∀j∈F',j∈F∨H.length≤j):
 Lw h H' id D' F' P∧∀j b,P j→H[j]? =some b→H'[j]? =some b:=by
 refine ⟨⟨hd,l.fw.new f (fun j hj=> .inl (l.fn j hj)),fun j hj=> ?_,fun j hj=> ?_⟩,fun j b hj hb=> f.cH _ _ hb (l.pn j hj).1⟩
 ·rcases hn j hj with h1 | h1
  ·exact l.fn j h1
  ·have:=l.fw.len;omega
 ·obtain ⟨p1,p2⟩:=l.pn j hj
  refine ⟨fun hm=> ?_,f.lt p2⟩
  rcases hn j hm with h1 | h1
  ·exact p1 h1
  ·omega
theorem Lw.ext {h H H':Hp} {id:Nat} {D:aY} {F:List Nat} {P Q:Nat→Prop} (l:Lw h H id D F P) (f:Fw [] H H') (hq:∀j,Q j→P j∨(H.length≤j∧j < H'.length)):Lw h H' id D F Q:=by
 refine ⟨l.d.mono f (by simp),l.fw.trans f,l.fn,fun j hj=> ?_⟩
 rcases hq j hj with h1 | h1
 ·obtain ⟨p1,p2⟩:=l.pn j h1
  exact ⟨p1,f.lt p2⟩
 ·exact ⟨fun hm=> by have:=l.d.lt j hm;omega,h1.2⟩
def noP (w:Int) (q:Request):ae×av×Bool:=(zeroV,⟨w,q.iD,0,0,[],q.aO,q.num⟩,false)
def tC (s:bF) (q:Request):ae×av×Bool:=
 if cM q=false then (zeroV,⟨12,od,0,0,[],0,0⟩,false)
 else if (s.p (al q.iD)).role=0 then noP 26 q
 else if (s.p (al q.iD)).role=2 then noP 27 q
 else if (Cx ((ec (s.p (al q.iD)).vs q.iD).getD zeroV) q).2.2=true∧ec (s.p (al q.iD)).vs q.iD=none∧4≤(s.p (al q.iD)).vs.length then noP 13 q
 else Cx ((ec (s.p (al q.iD)).vs q.iD).getD zeroV) q
theorem Jk (b:Nat) (h:Hp) (m:Nat) (s:bF) (F:List Nat) (q:Request) (hs:jf h m s F) (hk:mQ s) (hw:q.wf):run fns pr b 37 [.ptr m [0] 1,q.enc] h=some (eo (tC s q),h):=by
 refine Vm.aQ (nt:=86) rfl UF (by simp) ?_
 have hq:=fun H=> gV h.length H false q
 have hn:=eD q.iD
 have hid:q.iD.length≤1000000:=by have:=hw.iD;omega
 have p6:=fun H=> gW h.length H q.iD hid
 have ma:=fun X=> CO h.length (h++X) m (al q.iD) s F (hs.app X) hn
 have uN:=fun X=> Mn h.length (h++X) m s F q.iD (hs.app X) hk hid
 have pT:=fun X=> ta h.length (h++X) m (al q.iD) s F (hs.app X) hk hn
 have qh:q.enc= .st 33 [.s (.int .i64 q.op),.arr 28 (q.iD.map aa),.arr 22 (q.iY.map aa),.aq false none (q.aL.map aa),.s (.int .i64 q.bA),.arr 22 (q.owner.map aa),.arr 22 (q.kz.map aa),.s (.int .i64 q.aO),.s (.int .u64 q.num)]:=rfl
 have hqf:q.aH false=q.enc:=rfl
 have yu:zeroV.enc= .st 37 [z4 28,ku,aK 22,kx,ki,ki,aK 22,.s (.bool false),.s (.bool false)]:=rfl
 have dQ:∀X,(h++X).take h.length=h:=fun X=> by simp
 rw[hqf,qh] at hq
 unfold tC
 cases cq:cM q with
 | false=>
   rw[cq] at hq
   rw[if_pos rfl]
   have e1:(⟨12,od,0,0,[],0,0⟩:av).enc= .st 45 [.s (.int .i64 12),z4 28,ku,ki,kx,ki,ku]:=rfl
   simp only[B37,qh,hq,eo,yu,e1,go_sem,simprocAttr]
 | true=>
   rw[cq] at hq
   rw[if_neg (show ¬true=false by simp)]
   by_cases r0:(s.p (al q.iD)).role=0
   ·rw[if_pos r0]
    simp only[B37,qh,hq,p6,ma,r0,eo,noP,yu,av.enc,go_sem,simprocAttr]
   rw[if_neg r0]
   by_cases r2:(s.p (al q.iD)).role=2
   ·rw[if_pos r2]
    simp only[B37,qh,hq,p6,ma,r2,eo,noP,yu,av.enc,go_sem,simprocAttr]
   rw[if_neg r2]
   have uK:∀v,ec (s.p (al q.iD)).vs q.iD=some v→v∈(s.p (al q.iD)).vs∧v.iD=q.iD:=fun v hv=> by
     unfold ec at hv
     split at hv
     ·rename_i hc;rw[hv] at hc;exact ⟨abS hv,by simpa using hc⟩
     ·cases hv
   generalize hgg:ec (s.p (al q.iD)).vs q.iD=g at *
   have hv0:0≤(g.getD zeroV).gen∧(g.getD zeroV=zeroV∨aN (g.getD zeroV)=true∧(g.getD zeroV).iD=q.iD):=by
     cases g with
     | none=> exact ⟨by simp[zeroV],.inl rfl⟩
     | some v=> have:=(hk.p _ hn).vs v (uK v rfl).1;exact ⟨this.2.1.gen.1,.inr ⟨this.1,(uK v rfl).2⟩⟩
   have Gx:=fun H=> L7 h.length H false false (g.getD zeroV) q hv0.1 cq hv0.2
   have hvf:(g.getD zeroV).aH false=(g.getD zeroV).enc:=rfl
   rw[hqf,hvf,qh] at Gx
   have hvt:∀v:ae,v.enc.ty=some 37:=fun _=> rfl
   have hvz:∀v:ae,v.enc.aw=true:=fun _=> rfl
   have hrt:∀v:av,v.enc.ty=some 45:=fun _=> rfl
   have hrz:∀v:av,v.enc.aw=true:=fun _=> rfl
   generalize Cx (g.getD zeroV) q=o at *
   obtain ⟨ov,orr,oc⟩:=o
   simp only[eo] at Gx ⊢
   have hl4:∀cf base H,aB cf base H .len [.aq false (some 37) ((s.p (al q.iD)).vs.map ae.enc)]=some (.s (.int .i64 ((s.p (al q.iD)).vs.length:Nat)),H):=fun cf base H=> by rw[qe];simp
   have fv:∀n H (v:ae),bD n H v.enc=some v.enc:=fun n H v=> kO n H v.enc (by simp[ae.enc,V.plain,V.plain.all,cE])
   have fr:∀n H (v:av),bD n H v.enc=some v.enc:=fun n H v=> kO n H v.enc (by simp[av.enc,V.plain,V.plain.all,cE])
   have gv:∀v:ae,V.ground v.enc=true:=fun v=> ja _ (by simp[ae.enc,V.plain,V.plain.all,cE])
   have gr:∀v:av,V.ground v.enc=true:=fun v=> ja _ (by simp[av.enc,V.plain,V.plain.all,cE])
   have jG:g=none↔g.isSome=false:=by cases g <;> simp
   generalize g.isSome=gs at *
   generalize g.getD zeroV=v0 at *
   cases oc with
   | false=>
     rw[if_neg (by simp)]
     simp only[B37,qh,hq,p6,ma,r0,r2,uN,Gx,hvt,hvz,hrt,hrz,fv,fr,gv,gr,dQ,go_sem,simprocAttr]
   | true=>
     cases gs with
     | true=>
       rw[if_neg (by rw[jG];simp)]
       simp only[B37,qh,hq,p6,ma,r0,r2,uN,Gx,hvt,hvz,hrt,hrz,fv,fr,gv,gr,dQ,go_sem,simprocAttr]
     | false=>
       by_cases l4:4≤(s.p (al q.iD)).vs.length
       ·have l4':(4:Int)≤((s.p (al q.iD)).vs.length:Nat):=by omega
        rw[if_pos ⟨rfl,jG.2 rfl,l4⟩]
        simp only[B37,qh,hq,p6,ma,r0,r2,uN,Gx,pT,hl4,l4',hvt,hvz,hrt,hrz,fv,fr,gv,gr,dQ,noP,yu,av.enc,go_sem,simprocAttr]
       ·have l4':¬(4:Int)≤((s.p (al q.iD)).vs.length:Nat):=by omega
        rw[if_neg (fun h=> l4 h.2.2)]
        simp only[B37,qh,hq,p6,ma,r0,r2,uN,Gx,pT,hl4,l4',hvt,hvz,hrt,hrz,fv,fr,gv,gr,dQ,go_sem,simprocAttr]
def gh (k:Bs) (t:UInt8) (l:Bs):Request×Int:=
 if l.length < 16 then (gN,12) else if 8192 < l.length then (gN,3) else
  match jo k t l with
  | none=>(gN,30)
  | some x=> qg x
theorem Rq (n:Nat) (H:Hp) (q:Request):bD n H q.enc=some q.enc:=kO n H q.enc (by simp[Request.enc,V.plain,V.plain.all,cE])
theorem Rr (q:Request):V.ground q.enc=true:=ja _ (by simp[Request.enc,V.plain,V.plain.all,cE])
theorem Rt (q:Request):q.enc.ty=some 33:=rfl
theorem Ru (q:Request):q.enc.aw=true:=rfl
theorem A7 (q:av):q.enc.ty=some 45:=rfl
theorem A8 (q:av):q.enc.aw=true:=rfl
theorem vG (b:Nat) (h:Hp) (y:V) (k l:Bs) (m:Int) (hk:k.length=16) (hy:BR h y l):run fns pr b 36 [.arr 22 (k.map aa),.s (.int .i64 m),y] h=some (.bM [(gh k (bt m) l).1.enc,.s (.int .i64 (gh k (bt m) l).2)],h):=by
 refine Vm.aQ (nt:=26) rfl UD (by simp) ?_
 have dq:(k.map aa).length=16:=by simp[hk]
 have ho:=fun X=> IG h.length (h++X) y k l (bt m) hk (hy.mono (Fw.app [] h X))
 have ht:=fun H x=> wX h.length H false x
 have yu:gN.enc= .st 33 [ki,z4 28,aK 22,kx,ki,aK 22,aK 22,ki,ku]:=rfl
 have dQ:∀X,(h++X).take h.length=h:=fun X=> by simp
 unfold gh
 unfold kJ at ho
 by_cases c0:l.length < 16
 ·rw[if_pos c0]
  simp only[if_pos c0] at ho
  simp only[B36,dq,mH,ho,yu,dQ,go_sem,simprocAttr]
 rw[if_neg c0]
 simp only[if_neg c0] at ho
 by_cases c1:8192 < l.length
 ·rw[if_pos c1]
  simp only[if_pos c1] at ho
  simp only[B36,dq,mH,ho,yu,dQ,go_sem,simprocAttr]
 rw[if_neg c1]
 simp only[if_neg c1] at ho
 cases hu:jo k (bt m) l with
 | none=>
   rw[hu] at ho
   simp only[fK] at ho
   simp only[B36,dq,mH,ho,yu,dQ,go_sem,simprocAttr]
 | some x=>
   rw[hu] at ho
   simp only[fK] at ho
   simp only
   simp only[B36,dq,mH,ho,dQ,ht,Rt,Ru,Rq,Rr,go_sem,simprocAttr]
theorem tD {r:av} (hw:r.wf) (hr:bN r=true):(dG r).length≤100:=by
 have zY:r.aL.length≤64:=by
   unfold bN at hr
   simp only[abH,decide_eq_true_eq] at hr
   exact hr.2
 have:=hw.iD
 simp[dG];omega
theorem Jl (b:Nat) (h:Hp) (q:Request) (r:av) (hq:q.wf) (hw:r.wf) (hr:bN r=true) (hcb:0≤q.aO∧q.aO≤1000):run fns pr b 39 [q.enc,r.enc] h=some (.bM [.aq false none ((cX q.kz q.num.toNat (bt (128+q.aO)) (dG r)).map aa),.s (.int .i64 0)],h):=by
 refine Vm.aQ (nt:=28) rfl UJ (by simp) ?_
 have hrp:=fun H=> Ix h.length H false r hw
 rw[hr] at hrp
 simp only[if_true] at hrp
 have mT:r.aH false=r.enc:=rfl
 rw[mT] at hrp
 have dq:=hq.kz
 have hl:=tD hw hr
 obtain ⟨n,hn⟩:∃n:Nat,q.num=n:=⟨q.num.toNat,by have:=hq.num;omega⟩
 have hnt:q.num.toNat=n:=by omega
 have my:=fun H=> Ea h.length H (.aq false none ((dG r).map aa)) q.kz (dG r) n (bt (128+q.aO)) dq (by have:=hq.num;omega) (ck _ _ _)
 unfold mO at my
 simp only[if_pos (show (dG r).length≤8176 by omega)] at my
 have qh:q.enc= .st 33 [.s (.int .i64 q.op),.arr 28 (q.iD.map aa),.arr 22 (q.iY.map aa),.aq false none (q.aL.map aa),.s (.int .i64 q.bA),.arr 22 (q.owner.map aa),.arr 22 (q.kz.map aa),.s (.int .i64 q.aO),.s (.int .u64 (n:Int))]:=by rw[←hn];rfl
 have hbt:IntKind.i64.wrap (128+q.aO)=128+q.aO:=wrap_i64 (by omega) (by omega)
 rw[hnt]
 simp only[B39,qh,A7,A8,hrp,mH,hbt,my,go_sem,simprocAttr]
theorem Rv (b:Nat) (h:Hp) (id:Nat) (D:aY) (F:List Nat) (y:V) (k l:Bs) (q:Request) (v:ae) (r:av) (c:Bool) (N:Int) (hb:b≤h.length) (hF:∀j∈F,b≤j) (hd:mV h id D F) (hI:HI N D) (hN:N < 1000000000 - 20) (is1:D.is=1) (fu:D.cO < 0)
 (hy:BR h y l) (hk:k.length=16) (ho:gh k (bt D.st.mem) l=(q,0)) (hqw:q.wf) (hqr:cM q=true) (hp:tC D.st q=(v,r,c)) (xZ:bN r=true) (hrw:r.wf) (hcb:0≤q.aO∧q.aO≤1000) (hv:c=true→v.wf∧cY D.st (bS v)=0):
 ∃a h',run fns pr b 11 [.ptr id [0] 1,.arr 22 (k.map aa),y] h=some (a,h')∧a= .bM [(⟨cX q.kz q.num.toNat (bt (128+q.aO)) (dG r),q.aO,true,c,⟨D.st.mem,q,r⟩⟩:Answer).enc,.s (.int .i64 0)]∧
  ∃F',mV h' id (if c=true then (D.do (bS v)).2 else D) F'∧Fw F h h'∧∀j∈F',j∈F∨h.length≤j:=by
 have dq:(k.map aa).length=16:=by simp[hk]
 have fA:Fw [] h (h++[aT.cells (some 22) [.arr 22 (k.map aa)],aT.cells (some 49) [(V.st 49 [kx,ki,.s (.bool false),.s (.bool false),.st 47 [ki,.st 33 [ki,z4 28,aK 22,kx,ki,aK 22,aK 22,ki,ku],.st 45 [ki,z4 28,ku,ki,kx,ki,ku]]])]]):=Fw.app [] h _
 have hdA:=hd.app [aT.cells (some 22) [.arr 22 (k.map aa)],aT.cells (some 49) [(V.st 49 [kx,ki,.s (.bool false),.s (.bool false),.st 47 [ki,.st 33 [ki,z4 28,aK 22,kx,ki,aK 22,aK 22,ki,ku],.st 45 [ki,z4 28,ku,ki,kx,ki,ku]]])]]
 have gk0:(h++[aT.cells (some 22) [.arr 22 (k.map aa)],aT.cells (some 49) [(V.st 49 [kx,ki,.s (.bool false),.s (.bool false),.st 47 [ki,.st 33 [ki,z4 28,aK 22,kx,ki,aK 22,aK 22,ki,ku],.st 45 [ki,z4 28,ku,ki,kx,ki,ku]]])]])[h.length]? =some (aT.cells (some 22) [.arr 22 (k.map aa)]):=aS _ _
 have ga0:(h++[aT.cells (some 22) [.arr 22 (k.map aa)],aT.cells (some 49) [(V.st 49 [kx,ki,.s (.bool false),.s (.bool false),.st 47 [ki,.st 33 [ki,z4 28,aK 22,kx,ki,aK 22,aK 22,ki,ku],.st 45 [ki,z4 28,ku,ki,kx,ki,ku]]])]])[h.length+1]? =some (aT.cells (some 49) [(V.st 49 [kx,ki,.s (.bool false),.s (.bool false),.st 47 [ki,.st 33 [ki,z4 28,aK 22,kx,ki,aK 22,aK 22,ki,ku],.st 45 [ki,z4 28,ku,ki,kx,ki,ku]]])]):=by rw[aJ];rfl
 have hlA:(h++[aT.cells (some 22) [.arr 22 (k.map aa)],aT.cells (some 49) [(V.st 49 [kx,ki,.s (.bool false),.s (.bool false),.st 47 [ki,.st 33 [ki,z4 28,aK 22,kx,ki,aK 22,aK 22,ki,ku],.st 45 [ki,z4 28,ku,ki,kx,ki,ku]]])]]).length=h.length+2:=by simp
 refine Vm.eU (nt:=99) rfl GN (by simp) ?_
 generalize hGA:h++[aT.cells (some 22) [.arr 22 (k.map aa)],aT.cells (some 49) [(V.st 49 [kx,ki,.s (.bool false),.s (.bool false),.st 47 [ki,.st 33 [ki,z4 28,aK 22,kx,ki,aK 22,aK 22,ki,ku],.st 45 [ki,z4 28,ku,ki,kx,ki,ku]]])]]=GA at *
 have his:=OJ b GA id D F hdA
 obtain ⟨v1,H1,q1,Cy⟩:=CW b GA id D F (by omega) hdA (fun _=> hI.sk)
 rw[if_pos is1] at Cy
 obtain ⟨F1,rfl,st1,f1,n1⟩:=Cy
 have gk1:=f1.cH _ _ gk0 (by simp)
 have ga1:=f1.cH _ _ ga0 (by simp)
 have sH:=f1.len
 have hwo:=AY b H1 _ D.st F1 st1
 have ag:=vG b H1 y k l D.st.mem hk ((hy.mono fA).mono f1)
 rw[ho] at ag
 have nU:=fun X=> Jk b (H1++X) _ D.st F1 q (st1.app X) hI.sk hqw
 rw[hp] at nU
 simp only[eo] at nU
 have zY:=fun H=> Jl b H q r hqw hrw xZ hcb
 have qh:q.enc= .st 33 [.s (.int .i64 q.op),.arr 28 (q.iD.map aa),.arr 22 (q.iY.map aa),.aq false none (q.aL.map aa),.s (.int .i64 q.bA),.arr 22 (q.owner.map aa),.arr 22 (q.kz.map aa),.s (.int .i64 q.aO),.s (.int .u64 q.num)]:=rfl
 simp only[qh] at ag nU zY
 have wT:b≤H1.length:=by omega
 have hbk:∀n,b≤H1.length+n:=fun n=> by omega
 have hai:h.length+1 < H1.length:=by omega
 have f01:Fw [] h H1:=fA.trans f1
 have hd1:=hdA.mono f1 (by simp)
 have fS:∀(H:Hp) (es es':List V),H[h.length+1]? =some (.cells (some 49) es)→Fw [h.length+1] H (H.set (h.length+1) (.cells (some 49) es')):=fun H es es' hg=> Fw.set (by simp) hg
 have hnF:∀j∈F,j∉ [h.length+1]:=fun j hj e=> by simp at e;have:=hd.lt j hj;omega
 cases c with
 | false=>
   rw[if_neg (by simp)]
   simp only[B11,dq,hGA,his,is1,q1,hwo,gk1,ga1,ag,nU,zY,qh,A7,A8,bq,bu,wT,hbk,hai,decide_true,adw,Answer.enc,mh.enc,show b≤h.length+1 from by omega,go_sem,simprocAttr]
   exact ⟨F,((hd1.mono (fS _ _ _ ga1) hnF).app _),(((f01.bX (by omega) _).trans (Fw.app [] _ _)).mono (by simp)),fun j hj=> .inl hj⟩
 | true=>
   obtain ⟨hvw,ai⟩:=hv rfl
   rw[if_pos rfl]
   have aas:=C1 hI (by omega) (rZ hvw) is1 ai fu
   obtain ⟨BQ,hBQ⟩:∃BQ,aT.cells (some 33) [V.st 33 [.s (.int .i64 q.op),.arr 28 (q.iD.map aa),.arr 22 (q.iY.map aa),.aq false none (q.aL.map aa),.s (.int .i64 q.bA),.arr 22 (q.owner.map aa),.arr 22 (q.kz.map aa),.s (.int .i64 q.aO),.s (.int .u64 q.num)]]=BQ:=⟨_,rfl⟩
   obtain ⟨BD,hBD⟩:∃BD,aT.cells (some 47) [V.st 47 [.s (.int .i64 D.st.mem),V.st 33 [.s (.int .i64 q.op),.arr 28 (q.iD.map aa),.arr 22 (q.iY.map aa),.aq false none (q.aL.map aa),.s (.int .i64 q.bA),.arr 22 (q.owner.map aa),.arr 22 (q.kz.map aa),.s (.int .i64 q.aO),.s (.int .u64 q.num)],r.enc]]=BD:=⟨_,rfl⟩
   have f2:Fw [] H1 (H1++[BQ,.cells (some 37) [v.enc],.cells (some 45) [r.enc],BD]):=Fw.app _ _ _
   have hd2:=hd1.mono f2 (by simp)
   have hrg:=qW b _ id D F hd2
   obtain ⟨v3,H3,q3,rfl,F3,d3,f3,n3⟩:=XM b _ id D F (bS v) hF hd2 N hN hI.ok (rZ hvw) (by simp[bS])
   rw[aas.1] at q3
   have xf:(bS v).enc= .st 40 [.s (.int .i64 1),ki,ki,ku,v.enc,.aq false (some 37) []]:=rfl
   rw[xf] at q3
   have qP:∀i,H1.length≤i→i∉F:=fun i hi hj=> by have:=hd.lt _ hj;omega
   have g1:=f3.cH H1.length _ (aS _ _) (qP _ (abJ _))
   have g3:=f3.cH (H1.length+2) _ (by rw[aJ];rfl) (qP _ (by omega))
   have g4:=f3.cH (H1.length+3) _ (by rw[aJ];rfl) (qP _ (by omega))
   have ga3:=f3.cH (h.length+1) _ (f2.cH _ _ ga1 (by simp)) (fun hj=> by have:=hd.lt _ hj;omega)
   have xd:=f3.len
   simp only[abI,ab3,aci] at xd n3
   have aat:h.length+1 < H3.length:=by omega
   have hde:D.r.enc= .st 63 [.s (.int .u64 D.r.bY),.s (.int .u64 D.r.count),.s (.int .u64 D.r.base),.arr 22 (D.r.head.map aa),.s (.int .i64 D.r.aM)]:=rfl
   subst hBQ hBD
   simp only[B11,dq,hGA,his,is1,q1,hwo,gk1,ga1,ag,nU,zY,qh,A7,A8,bq,bu,wT,hbk,hai,hrg,hde,q3,g1,g3,g4,ga3,aat,decide_true,adw,Answer.enc,mh.enc,show b≤h.length+1 from by omega,go_sem,simprocAttr]
   have fz:Fw F h H3:=((f01.trans f2).mono (T:=F) (by simp)).new f3 (fun j hj=> .inr hj)
   refine ⟨F3,d3.mono (fS _ _ _ ga3) (fun j hj e=> ?_),fz.bX (by omega) _,fun j hj=> ?_⟩
   ·simp only[ad7] at e
    rcases n3 j hj with h1 | h1
    ·have:=hd.lt j h1;omega
    ·omega
   ·rcases n3 j hj with h1 | h1
    ·exact .inl h1
    ·exact .inr (by omega)
theorem r5 {n:Nat} {m:Bs} (hm:m.length=n) (rest:Bs):bP n (m++rest,false)=(m,(rest,false)):=by
 unfold bP
 rw[if_pos ⟨rfl,by simp;omega⟩]
 simp[←hm]
theorem ME (x:UInt8) (rest:Bs):bP 1 (x::rest,false)=([x],(rest,false)):=r5 (m:=[x]) rfl rest
theorem oP {q:Request} (hr:cM q=true):1≤q.op∧q.op≤4∧0≤q.bA∧q.bA≤32∧q.aL.length≤64∧0≤q.aO∧q.aO < 4∧q.num≤1099511627776:=by
 unfold cM mC at hr
 simp only[abH,decide_eq_true_eq] at hr
 obtain ⟨⟨⟨h1,h2⟩,h3⟩,h4⟩:=hr
 split at h4
 ·simp only[abH,decide_eq_true_eq] at h4;omega
 ·split at h4
  ·simp only[abH,decide_eq_true_eq] at h4;omega
  ·split at h4
   ·simp only[abH,decide_eq_true_eq] at h4;omega
   ·cases h4
theorem Rw (q:Request) (hw:q.wf) (hr:cM q=true):wW (jI q,false)=(q,([],false)):=by
 obtain ⟨w1,w2,w3,w4,w5,w6,w7,w8,w9⟩:=hw
 have hq:=oP hr
 have e1:=dY (n:=q.op) (by omega) (by omega)
 have e2:=dY (n:=q.bA) (by omega) (by omega)
 have e3:=dY (n:=q.aO) (by omega) (by omega)
 have e4:((er (aE q.num.toNat):Nat):Int)=q.num:=by rw[gf _ (by omega)];omega
 have e5:(bt (q.aL.length:Nat)).toNat=q.aL.length:=by have:=dY (n:=(q.aL.length:Nat)) (by omega) (by omega);omega
 obtain ⟨op,id,iY,se,li,ow,ke,cl,nu⟩:=q
 simp only at *
 have t9:aW se.length (se,false)=(se,([],false)):=by have:=dX (m:=se) rfl [] false;simpa using this
 simp only[wW,jI,acu,acj,nE,dX w2,dX w3,dX w6,dX w7,dX (aF _),ph,lH,e1,e2,e3,e4,e5,t9]
theorem Jm (q:Request) (hw:q.wf) (hr:cM q=true):qg (jI q)=(q,0):=by
 unfold qg
 rw[Rw q hw hr]
 simp[hr]
theorem Rx (q:av) (hw:q.wf) (hr:bN q=true):wZ (dG q,false)=(q,([],false)):=by
 obtain ⟨w1,w2,w3,w4,w5,w6,w7⟩:=hw
 unfold bN mC at hr
 simp only[abH,decide_eq_true_eq] at hr
 have e1:=dY (n:=q.wK) (by omega) (by omega)
 have e2:=dY (n:=q.left) (by omega) (by omega)
 have e3:=dY (n:=q.aO) (by omega) (by omega)
 have e4:((er (aE q.num.toNat):Nat):Int)=q.num:=by rw[gf _ (by omega)];omega
 have e6:((er (aE q.gen.toNat):Nat):Int)=q.gen:=by rw[gf _ (by omega)];omega
 have e5:(bt (q.aL.length:Nat)).toNat=q.aL.length:=by have:=dY (n:=(q.aL.length:Nat)) (by omega) (by omega);omega
 obtain ⟨wh,id,ge,le,se,cl,nu⟩:=q
 simp only at *
 have t9:bP se.length (se,false)=(se,([],false)):=by have:=r5 (m:=se) rfl [];simpa using this
 simp only[wZ,dG,acu,acj,ME,r5 w2,r5 (aF _),lH,e1,e2,e3,e4,e5,e6,t9]
theorem Jn (q:av) (hw:q.wf) (hr:bN q=true):sR (dG q)=(q,true):=by
 unfold sR
 rw[Rx q hw hr]
 simp[hr]
theorem A9 (k:Bs) (n:Nat) (ad l:Bs) (h1:l.length≤8184) (h2:ad.length≤8192):(ei k n ad l).length=l.length+8:=by
 unfold ei
 rw[if_pos ⟨h1,h2⟩,abI,fY,gU]
theorem og (k:Bs) (n:Nat) (t:UInt8) (l:Bs) (hn:n < 18446744073709551616) (hl:l.length≤8176):jo k t (cX k n t l)=some l∧16≤(cX k n t l).length∧(cX k n t l).length≤8192:=by
 have hs:=A9 (dW k n) n [t] l (by omega) (by simp)
 have h8:(cX k n t l).take 8=aE n:=by unfold cX;rw[ab7 (by rw[aF];omega),abG (by rw[aF];omega)]
 have d8:(cX k n t l).drop 8=ei (dW k n) n [t] l:=by unfold cX;rw[aek (by rw[aF];omega),acx (by rw[aF];omega)];rfl
 refine ⟨?_,?_,?_⟩
 ·unfold jo
  rw[h8,d8,gf n hn]
  exact qm _ _ _ _ (by omega) (by simp)
 ·unfold cX;rw[abI,aF,hs];omega
 ·unfold cX;rw[abI,aF,hs];omega
theorem pD {q:Request} (hw:q.wf) (hr:cM q=true):(jI q).length≤200:=by
 have hq:=oP hr
 have h1:=hw.iD;have h2:=hw.iY;have h3:=hw.owner;have h4:=hw.kz
 simp[jI,aF];omega
theorem lJ (k:Bs) (n:Nat) (t:UInt8) (q:Request) (hn:n < 18446744073709551616) (hw:q.wf) (hr:cM q=true):gh k t (cX k n t (jI q))=(q,0):=by
 obtain ⟨h1,h2,h3⟩:=og k n t (jI q) hn (by have:=pD hw hr;omega)
 unfold gh
 rw[if_neg (by omega),if_neg (by omega),h1]
 exact Jm q hw hr
theorem xn :(⟨[],0,false,false,⟨0,gN,kH⟩⟩:Answer).enc= .st 49 [kx,ki,.s (.bool false),.s (.bool false),.st 47 [ki,.st 33 [ki,z4 28,aK 22,kx,ki,aK 22,aK 22,ki,ku],.st 45 [ki,z4 28,ku,ki,kx,ki,ku]]]:=rfl
theorem MF (b:Nat) (h:Hp) (y:V) (k:Bs) (hb:b≤h.length) (hk:k.length=16):∃a h',run fns pr b 11 [.s (.pointer none),.arr 22 (k.map aa),y] h=some (a,h')∧a= .bM [(⟨[],0,false,false,⟨0,gN,kH⟩⟩:Answer).enc,.s (.int .i64 1)]∧Fw [] h h':=by
 have dq:(k.map aa).length=16:=by simp[hk]
 refine Vm.eU (nt:=99) rfl GN (by simp) ?_
 have uX:b≤h.length+1:=by omega
 simp only[B11,dq,xn,uX,decide_true,adw,go_sem,simprocAttr]
 exact Fw.app _ _ _
theorem MG (b:Nat) (h:Hp) (id:Nat) (D:aY) (F:List Nat) (y:V) (k l:Bs) (e:Int) (N:Int) (hb:b≤h.length) (hd:mV h id D F) (hI:HI N D) (is1:D.is=1) (hy:BR h y l) (hk:k.length=16) (ho:gh k (bt D.st.mem) l=(gN,e)) (he:e≠0):
 ∃a h',run fns pr b 11 [.ptr id [0] 1,.arr 22 (k.map aa),y] h=some (a,h')∧a= .bM [(⟨[],0,false,false,⟨0,gN,kH⟩⟩:Answer).enc,.s (.int .i64 e)]∧Fw [] h h':=by
 have dq:(k.map aa).length=16:=by simp[hk]
 have fA:Fw [] h (h++[aT.cells (some 22) [.arr 22 (k.map aa)],aT.cells (some 49) [(⟨[],0,false,false,⟨0,gN,kH⟩⟩:Answer).enc]]):=Fw.app [] h _
 have hdA:=hd.app [aT.cells (some 22) [.arr 22 (k.map aa)],aT.cells (some 49) [(⟨[],0,false,false,⟨0,gN,kH⟩⟩:Answer).enc]]
 have gk0:(h++[aT.cells (some 22) [.arr 22 (k.map aa)],aT.cells (some 49) [(⟨[],0,false,false,⟨0,gN,kH⟩⟩:Answer).enc]])[h.length]? =some (aT.cells (some 22) [.arr 22 (k.map aa)]):=aS _ _
 have ga0:(h++[aT.cells (some 22) [.arr 22 (k.map aa)],aT.cells (some 49) [(⟨[],0,false,false,⟨0,gN,kH⟩⟩:Answer).enc]])[h.length+1]? =some (aT.cells (some 49) [(⟨[],0,false,false,⟨0,gN,kH⟩⟩:Answer).enc]):=by rw[aJ];rfl
 have hlA:(h++[aT.cells (some 22) [.arr 22 (k.map aa)],aT.cells (some 49) [(⟨[],0,false,false,⟨0,gN,kH⟩⟩:Answer).enc]]).length=h.length+2:=by simp
 rw[xn] at *
 refine Vm.eU (nt:=99) rfl GN (by simp) ?_
 generalize hGA:h++[aT.cells (some 22) [.arr 22 (k.map aa)],aT.cells (some 49) [V.st 49 [kx,ki,.s (.bool false),.s (.bool false),.st 47 [ki,.st 33 [ki,z4 28,aK 22,kx,ki,aK 22,aK 22,ki,ku],.st 45 [ki,z4 28,ku,ki,kx,ki,ku]]]]]=GA at *
 have his:=OJ b GA id D F hdA
 obtain ⟨v1,H1,q1,Cy⟩:=CW b GA id D F (by omega) hdA (fun _=> hI.sk)
 rw[if_pos is1] at Cy
 obtain ⟨F1,rfl,st1,f1,n1⟩:=Cy
 have gk1:=f1.cH _ _ gk0 (by simp)
 have ga1:=f1.cH _ _ ga0 (by simp)
 have sH:=f1.len
 have hwo:=AY b H1 _ D.st F1 st1
 have ag:=vG b H1 y k l D.st.mem hk ((hy.mono fA).mono f1)
 rw[ho] at ag
 have yu:gN.enc= .st 33 [ki,z4 28,aK 22,kx,ki,aK 22,aK 22,ki,ku]:=rfl
 simp only[yu] at ag
 have wT:b≤H1.length:=by omega
 have uX:b≤h.length+1:=by omega
 have hai:h.length+1 < H1.length:=by omega
 simp only[B11,dq,hGA,his,is1,q1,hwo,gk1,ga1,ag,wT,hai,he,uX,decide_true,adw,go_sem,simprocAttr]
 exact ((fA.trans f1).bX (by omega) _).trans (Fw.app _ _ _)
def gI (n:UInt8):Bs:=[n,0,0,0,0,0,0,0,0,0,0,0,0,0,0,0]
theorem Ba {s:bF} {v:ae} (hr:aN v=true) (h1:(s.p (al v.iD)).role=1) (h2:(ec (s.p (al v.iD)).vs v.iD).isSome=true∨(s.p (al v.iD)).vs.length < 4):cY s (bS v)=0:=by
 have xZ:=A6 hr
 unfold cY
 rw[if_neg (by rw[xZ];simp),if_pos (show (bS v).kind=1 from rfl)]
 unfold oL
 have hkv:(bS v).ax=v:=rfl
 rw[hkv,if_neg (by omega),if_neg (by omega),if_neg]
 rintro ⟨a,b⟩
 rcases h2 with h2 | h2
 ·rw[a] at h2;cases h2
 ·omega
theorem Et {s:bF} {v:ae} (hk:mQ s) (hr:aN v=true) (hc:cY s (bS v)=0) (AK:mQ (bE s (bS v)).2) (h2:(ec (s.p (al v.iD)).vs v.iD).isSome=true∨(s.p (al v.iD)).vs.length < 4):ec ((bE s (bS v)).2.p (al v.iD)).vs v.iD=some v:=by
 have hn:=eD v.iD
 have pT:((bE s (bS v)).2.p (al v.iD)).vs=il (s.p (al v.iD)).vs v:=by
   unfold bE
   rw[if_neg (by omega),if_pos (show (bS v).kind=1 from rfl)]
   have hkv:(bS v).ax=v:=rfl
   rw[hkv]
   simp only[tf]
   refine te (hk.p _ hn).Eh hr fun h=> ?_
   rcases h2 with h2 | h2
   ·rw[h] at h2;cases h2
   ·exact h2
 have hrs:=(AK.p _ hn).Eh
 refine IU hrs ?_
 rw[pT]
 simp[il]
theorem Bb {s:bF} {v:ae} (h1:(s.p (al v.iD)).role=1):((bE s (bS v)).2.p (al v.iD)).role=1:=by
 unfold bE
 split
 ·exact h1
 ·rw[if_pos (show (bS v).kind=1 from rfl)]
  have hkv:(bS v).ax=v:=rfl
  rw[hkv]
  simp only[tf];exact h1
theorem Bc (s:bF) (r:aC):(bE s r).2.mem=s.mem∧(bE s r).2.bL=s.bL:=by
 unfold bE
 split
 ·exact ⟨rfl,rfl⟩
 ·split
  ·exact ⟨rfl,rfl⟩
  ·split
   ·exact ⟨rfl,rfl⟩
   ·split <;> exact ⟨rfl,rfl⟩
theorem xo (b:Nat) (h:Hp) (id:Nat) (D:aY) (F:List Nat) (y:V) (k l:Bs) (q:Request) (g:Option ae) (v:ae) (r:av) (c:Bool) (N:Int) (hb:b≤h.length) (hF:∀j∈F,b≤j) (hd:mV h id D F) (hI:HI N D) (hN:N < 1000000000 - 20) (is1:D.is=1) (fu:D.cO < 0)
 (hy:BR h y l) (hk:k.length=16) (ho:gh k (bt D.st.mem) l=(q,0)) (hqw:q.wf) (hqr:cM q=true) (h1:(D.st.p (al q.iD)).role=1) (hg:ec (D.st.p (al q.iD)).vs q.iD=g) (hp:Cx (g.getD zeroV) q=(v,r,c)) (xZ:bN r=true) (hrw:r.wf)
 (hv:c=true→v.wf∧aN v=true∧v.iD=q.iD∧(g.isSome=true∨(D.st.p (al q.iD)).vs.length < 4)):
 ∃a h' D' F',run fns pr b 11 [.ptr id [0] 1,.arr 22 (k.map aa),y] h=some (a,h')∧a= .bM [(⟨cX q.kz q.num.toNat (bt (128+q.aO)) (dG r),q.aO,true,c,⟨D.st.mem,q,r⟩⟩:Answer).enc,.s (.int .i64 0)]∧
  mV h' id D' F'∧Fw F h h'∧(∀j∈F',j∈F∨h.length≤j)∧HI (N+6) D'∧D'.is=1∧D'.cO=D.cO∧(D'.st.p (al q.iD)).role=1∧D'.st.mem=D.st.mem∧ec (D'.st.p (al q.iD)).vs q.iD=(if c=true then some v else g)∧D'.r.count=D.r.count+(if c=true then 1 else 0)∧(c=false→D'.steps=D.steps):=by
 have hqb:=oP hqr
 have hps:tC D.st q=(v,r,c):=by
   unfold tC
   rw[if_neg (by rw[hqr];simp),if_neg (by omega),if_neg (by omega),hg,hp,if_neg]
   rintro ⟨a1,a2,a3⟩
   rcases (hv a1).2.2.2 with h | h
   ·rw[a2] at h;cases h
   ·omega
 have ai:c=true→v.wf∧cY D.st (bS v)=0:=fun hc=> by
   obtain ⟨a1,a2,a3,a4⟩:=hv hc
   refine ⟨a1,Ba a2 (by rw[a3];exact h1) ?_⟩
   rw[a3,hg];exact a4
 obtain ⟨a,h',q1,rfl,F',d',f',n'⟩:=Rv b h id D F y k l q v r c N hb hF hd hI hN is1 fu hy hk ho hqw hqr hps xZ hrw ⟨by omega,by omega⟩ ai
 refine ⟨_,h',_,F',q1,rfl,d',f',n',?_⟩
 cases c with
 | false=>
   simp only[abP,if_false]
   exact ⟨hI.wk (by omega),is1,trivial,h1,trivial,hg,by omega,fun _=> trivial⟩
 | true=>
   obtain ⟨a1,a2,a3,a4⟩:=hv rfl
   obtain ⟨_,hc0⟩:=ai rfl
   simp only[if_true]
   obtain ⟨u1,u2,u3,_,_⟩:=C1 hI (by omega) (rZ a1) is1 hc0 fu
   obtain ⟨hJ,kp⟩:=hI.do (by omega) (rZ a1) is1 hc0
   rcases kp with ⟨_,_,z,_⟩ | ⟨z1,_,z3,_⟩
   ·omega
   ·have hsk:=hJ.sk
    rw[z3] at hsk
    have ga:=Et hI.sk a2 hc0 hsk (by rw[a3,hg];exact a4)
    have ra:=Bb (s:=D.st) (v:=v) (by rw[a3];exact h1)
    rw[a3] at ga ra
    refine ⟨hJ,u2,u3,by rw[z3];exact ra,by rw[z3];exact (Bc _ _).1,by rw[z3];exact ga,by omega,fun h=> by cases h⟩
def qK :Request:=⟨1,[1,0,0,0],bp,[115],2,bp,gI 5,0,0⟩
def rK :av:=⟨0,[1,0,0,0],1,2,[],0,0⟩
def vK :ae:=⟨[1,0,0,0],1,bp,[115],2,0,bp,false,false⟩
theorem C3 :qK.wf:=⟨by decide,rfl,rfl,by decide,by decide,rfl,rfl,by decide,by decide⟩
theorem Jo :rK.wf:=⟨by decide,rfl,by decide,by decide,by decide,by decide,by decide⟩
theorem XX :vK.wf:=⟨rfl,by decide,rfl,by decide,by decide,by decide,rfl,trivial,trivial⟩
theorem Bd (b:Nat) (h:Hp):run fns pr b 12 [] h=some (.s (.bool true),h):=by
 refine Vm.aQ (nt:=113) rfl TP (by simp) ?_
 have hd1:(gI 1).map aa=[.s (.int .u8 1),.s (.int .u8 0),.s (.int .u8 0),.s (.int .u8 0),.s (.int .u8 0),.s (.int .u8 0),.s (.int .u8 0),.s (.int .u8 0),.s (.int .u8 0),.s (.int .u8 0),.s (.int .u8 0),.s (.int .u8 0),.s (.int .u8 0),.s (.int .u8 0),.s (.int .u8 0),.s (.int .u8 0)]:=rfl
 obtain ⟨K,hK⟩:∃K,aT.cells (some 22) [V.arr 22 ((gI 1).map aa)]=K:=⟨_,rfl⟩
 have f0:Fw [] h (h++[K]):=Fw.app [] h _
 obtain ⟨v1,H1,e1,id,F1,rfl,d1,f1,n1⟩:=CV h.length (h++[K]) 0 1 (gI 1) (by simp) rfl (by decide) (by decide) (by decide) (by decide)
 have xc:=HI.new (gI 1) (a:=0) (b:=1) (by decide) (by decide) (by decide) (by decide)
 have ow0:=C2 (gI 1)
 have st0:(aY.new 0 1 (gI 1)).is=1∧(aY.new 0 1 (gI 1)).cO= -1∧(aY.new 0 1 (gI 1)).r.count=0∧(aY.new 0 1 (gI 1)).st.mem=0:=⟨rfl,rfl,rfl,rfl⟩
 have Jp:∀j,((aY.new 0 1 (gI 1)).st.p j).vs=[]:=fun _=> rfl
 generalize aY.new 0 1 (gI 1)=D0 at *
 have l1:=f1.len
 have gk1:H1[h.length]? =some K:=f1.cH _ _ (aS _ _) (by simp)
 have gk2:=fun X=> q10z gk1 X
 have Eg:h.length∉F1:=fun hj=> by have:=n1 _ hj;simp at this;omega
 have l0:(h++[K]).length=h.length+1:=by simp
 obtain ⟨B,hB⟩:∃B,cX (gI 1) 1 0 (jI qK)=B:=⟨_,rfl⟩
 have hrl:=pD C3 (by rfl)
 have rq:=fun X=> mN h.length (H1++X) false qK C3 (by decide)
 have cl:=fun X=> qj h.length (H1++X) (.aq false none ((jI qK).map aa)) (gI 1) (jI qK) 1 0 rfl (by decide) (ck _ _ _)
 unfold mO at cl
 simp only[if_pos (show (jI qK).length≤8176 by omega),hB] at cl
 have ag:gh (gI 1) (bt D0.st.mem) B=(qK,0):=by rw[st0.2.2.2,←hB];exact lJ (gI 1) 1 0 qK (by decide) C3 (by rfl)
 obtain ⟨QB,hQB⟩:∃QB,aT.cells (some 33) [qK.enc]=QB:=⟨_,rfl⟩
 have f2:Fw [] H1 (H1++[.dead,QB]):=Fw.app _ _ _
 have d2:=d1.mono f2 (by simp)
 have hF1:∀j∈F1,h.length≤j:=fun j hj=> by have:=n1 j hj;omega
 obtain ⟨a3,H3,D1,F2,q3,rfl,d3,f3,n3,hI3,is3,fu3,ro3,mm3,gg3,cc3,ss3⟩:=xo h.length (H1++[.dead,QB]) id D0 F1 (.aq false none (B.map aa)) (gI 1) B qK none vK rK true 0 (by simp;omega) hF1 d2 xc (by omega) st0.1 (by omega) (ck _ _ _) rfl ag C3 (by rfl)
   (ow0 _ (eD _)) (by rw[Jp];exact tc _) (by rfl) (by rfl) Jo (fun _=>⟨XX,by rfl,rfl,.inr (by rw[Jp];simp)⟩)
 have gk3:H3[h.length]? =some K:=f3.cH _ _ (gk2 _) Eg
 have l3:=f3.len
 simp only[abI,ab3,aci] at l3 n3
 obtain ⟨C,hC⟩:∃C,cX (gI 5) 0 (bt 128) (dG rK)=C:=⟨_,rfl⟩
 have aau:=tD Jo (by rfl)
 obtain ⟨uc1,uc2,uc3⟩:=og (gI 5) 0 (bt 128) (dG rK) (by decide) (by omega)
 rw[hC] at uc1 uc2 uc3
 have un:=fun X=> yA h.length (H3++X) (.aq false none (C.map aa)) (gI 5) C (bt 128) rfl (ck _ _ _)
 unfold kJ at un
 simp only[if_neg (show ¬C.length < 16 by omega),if_neg (show ¬8192 < C.length by omega),uc1,fK] at un
 have tr:=fun X=> AU h.length (H3++X) false (dG rK)
 simp only[Jn rK Jo (by rfl)] at tr
 have hae:(⟨cX qK.kz qK.num.toNat (bt (128+qK.aO)) (dG rK),qK.aO,true,true,⟨D0.st.mem,qK,rK⟩⟩:Answer).enc= .st 49 [.aq false none (C.map aa),.s (.int .i64 0),.s (.bool true),.s (.bool true),(⟨D0.st.mem,qK,rK⟩:mh).enc]:=by rw[←hC];rfl
 rw[hae] at q3
 obtain ⟨AB,hAB⟩:∃AB,aT.cells (some 49) [V.st 49 [.aq false none (C.map aa),.s (.int .i64 0),.s (.bool true),.s (.bool true),(⟨D0.st.mem,qK,rK⟩:mh).enc]]=AB:=⟨_,rfl⟩
 have f4:Fw [] H3 (H3++[AB,.cells (some 45) [rK.enc]]):=Fw.app _ _ _
 have d4:=d3.mono f4 (by simp)
 obtain ⟨a5,H5,q5,rfl,f5⟩:=MG h.length _ id D1 F2 (.aq true none []) (gI 1) [] 12 _ (by simp;omega) d4 hI3 is3 (oN _ _) rfl (by rw[mm3,st0.2.2.2];rfl) (by decide)
 have l5:=f5.len
 simp only[abI,ab3,aci] at l5
 have gk5:H5[h.length]? =some K:=f5.cH _ _ (q10z gk3 _) (by simp)
 have ga5:H5[H3.length]? =some AB:=f5.cH _ _ (aS _ _) (by simp)
 have gr5:H5[H3.length+1]? =some (.cells (some 45) [rK.enc]):=f5.cH _ _ (by rw[aJ];rfl) (by simp)
 obtain ⟨ZB,hZB⟩:∃ZB,aT.cells (some 49) [(⟨[],0,false,false,⟨0,gN,kH⟩⟩:Answer).enc]=ZB:=⟨_,rfl⟩
 obtain ⟨a7,H7,q7,rfl,f7⟩:=MF h.length (H5++[ZB]) (.aq false none (B.map aa)) (gI 1) (by simp;omega) rfl
 have l7:=f7.len
 simp only[abI,ab3,aci] at l7
 have ga7:H7[H3.length]? =some AB:=f7.cH _ _ (q10z ga5 _) (by simp)
 have gr7:H7[H3.length+1]? =some (.cells (some 45) [rK.enc]):=f7.cH _ _ (q10z gr5 _) (by simp)
 have f57:Fw [] H5 H7:=(Fw.app [] H5 [ZB]).trans f7
 have d7:=((d4.mono f5 (by simp)).mono f57 (by simp)).app [ZB]
 have rg:=qW h.length (H7++[ZB]) id D1 F2 d7
 have hde:D1.r.enc= .st 63 [.s (.int .u64 D1.r.bY),.s (.int .u64 1),.s (.int .u64 D1.r.base),.arr 22 (D1.r.head.map aa),.s (.int .i64 D1.r.aM)]:=by
   have:D1.r.count=1:=by rw[cc3,st0.2.2.1];rfl
   rw[←this];rfl
 have ft:(H7++[ZB]).take h.length=h:=Fw.take (((((f0.trans f1).trans f2).new f3 (fun j hj=> .inl (hF1 j hj))).trans f4).trans (f5.trans f57) |>.trans (Fw.app [] H7 [ZB]))
 have qh:qK.enc= .st 33 [.s (.int .i64 1),.arr 28 [.s (.int .u8 1),.s (.int .u8 0),.s (.int .u8 0),.s (.int .u8 0)],aK 22,.aq false none [.s (.int .u8 115)],.s (.int .i64 2),aK 22,.arr 22 [.s (.int .u8 5),.s (.int .u8 0),.s (.int .u8 0),.s (.int .u8 0),.s (.int .u8 0),.s (.int .u8 0),.s (.int .u8 0),.s (.int .u8 0),.s (.int .u8 0),.s (.int .u8 0),.s (.int .u8 0),.s (.int .u8 0),.s (.int .u8 0),.s (.int .u8 0),.s (.int .u8 0),.s (.int .u8 0)],.s (.int .i64 0),.s (.int .u64 0)]:=rfl
 have mT:rK.enc= .st 45 [.s (.int .i64 0),.arr 28 [.s (.int .u8 1),.s (.int .u8 0),.s (.int .u8 0),.s (.int .u8 0)],.s (.int .u64 1),.s (.int .i64 2),.aq false none [],.s (.int .i64 0),.s (.int .u64 0)]:=rfl
 have hqf:qK.aH false=qK.enc:=rfl
 have hd5:(gI 5).map aa=[.s (.int .u8 5),.s (.int .u8 0),.s (.int .u8 0),.s (.int .u8 0),.s (.int .u8 0),.s (.int .u8 0),.s (.int .u8 0),.s (.int .u8 0),.s (.int .u8 0),.s (.int .u8 0),.s (.int .u8 0),.s (.int .u8 0),.s (.int .u8 0),.s (.int .u8 0),.s (.int .u8 0),.s (.int .u8 0)]:=rfl
 have wT:aa 0= .s (.int .u8 0):=rfl
 have XY:aa (bt 128)= .s (.int .u8 128):=rfl
 have Eu:h.length≤H1.length+1:=by omega
 have Jq:h.length≤H3.length:=by omega
 have C4:h.length≤H3.length+1:=by omega
 have aav:h.length≤H5.length:=by omega
 have aaw:h.length≤H7.length:=by omega
 have gax:=fun X=> q10z ga7 X
 have grx:=fun X=> q10z gr7 X
 have gk3x:=fun X=> q10z gk3 X
 have gk5x:=fun X=> q10z gk5 X
 rw[hd1] at hK e1 q3 q5 q7
 simp only[hd1,wT,show ((1:Nat):Int)=1 from rfl] at cl
 simp only[hqf] at rq
 simp only[hd5,XY] at un
 subst hK hQB hAB hZB
 simp only[qh] at rq q3
 simp only[mT] at tr q5 gr5 gr7 grx
 simp only[xn] at q5 q7 rg ft
 rw[hde] at rg
 simp only[B12,e1,gk1,gk2,rq,cl,Eu,q3,Jq,C4,gk3,gk3x,un,tr,q5,aav,gk5,gk5x,q7,aaw,gax,grx,rg,ft,decide_true,adw,go_sem,simprocAttr]
def yS :Bs:=[1,0,0,0]
def qE (n:Int):Request:=⟨1,yS,gI 7,[115],n,bp,gI 5,0,0⟩
def rE (n:Int):av:=⟨0,yS,1,n,[],0,0⟩
def vT (n i:Int):ae:=⟨yS,1,gI 7,[115],n,i,bp,false,false⟩
def gT :ae:=⟨yS,1,bp,[],0,0,bp,true,true⟩
def qT (p:Bs):Request:=⟨2,yS,p,[],0,bp,gI 5,0,1⟩
def rT (w l:Int) (s:Bs):av:=⟨w,yS,1,l,s,0,1⟩
theorem mZ {n i:Int} (h1:0≤i) (h2:i < n) (h3:n≤8):aN (vT n i)=true:=by
 show (decide ((1:Int)≤1)&& decide ((1:Int)≤1099511627776)&&(!false && decide (1≤n)&& decide (n≤32)&& decide (0≤i)&& decide (i < n)&& decide (1≤64)))=true
 simp;omega
theorem Jr :aN gT=true:=rfl
theorem Js {n i:Int} (h1:0≤i) (h2:i < n) (h3:n≤8):(vT n i).wf:=⟨rfl,by simp[vT],rfl,by simp[vT],by simp[vT];omega,by simp[vT];omega,rfl,trivial,trivial⟩
theorem XZ :gT.wf:=⟨rfl,by decide,rfl,by decide,by decide,by decide,rfl,trivial,trivial⟩
theorem X1 {n:Int} (h1:1≤n) (h2:n≤8):(qE n).wf:=⟨by simp[qE],rfl,rfl,by simp[qE],by simp[qE];omega,rfl,rfl,by simp[qE],by simp[qE]⟩
theorem Jt {n:Int} (h1:1≤n) (h2:n≤8):cM (qE n)=true:=by
 show (mC 0 0 &&(decide (1≤n)&& decide (n≤32)&& decide (1≤64)))=true
 simp[mC];omega
theorem C5 {p:Bs} (hp:p.length=16):(qT p).wf:=⟨by simp[qT],rfl,hp,by simp[qT],by simp[qT],rfl,rfl,by simp[qT],by simp[qT]⟩
theorem tE (p:Bs):cM (qT p)=true:=by simp[cM,mC,qT]
theorem Ju {w l:Int} {s:Bs} (h1:0≤w∧w≤255) (h2:0≤l∧l≤32) (h3:s.length≤64):(rT w l s).wf∧bN (rT w l s)=true:=by
 refine ⟨⟨by simp[rT];omega,rfl,by simp[rT],by simp[rT];omega,by simp[rT];omega,by simp[rT],by simp[rT]⟩,?_⟩
 show (mC 0 1 && decide (0≤w)&& decide (w≤255)&& decide ((1:Int)≤1099511627776)&& decide (0≤l)&& decide (l≤32)&& decide (s.length≤64))=true
 simp[mC];omega
theorem OO {n:Int} (h1:1≤n) (h2:n≤8):(rE n).wf∧bN (rE n)=true:=by
 refine ⟨⟨by simp[rE],rfl,by simp[rE],by simp[rE];omega,by simp[rE],by simp[rE],by simp[rE]⟩,?_⟩
 show (mC 0 0 && decide ((0:Int)≤0)&& decide ((0:Int)≤255)&& decide ((1:Int)≤1099511627776)&& decide (0≤n)&& decide (n≤32)&& decide (0≤64))=true
 simp[mC];omega
theorem Jv (n:Int):Cx zeroV (qE n)=(vT n 0,rE n,true):=by
 simp[Cx,qE,pe,zeroV,vT,rE]
theorem Ev {n:Int} (h1:1≤n) (h2:n≤8):Cx (vT n 0) (qT (gI 7))=(vT n 0,rT 0 n [115],false):=by
 have hr:=mZ (n:=n) (i:=0) (by omega) (by omega) h2
 have hl:mD (vT n 0)=n:=by unfold mD;rw[if_neg (by rw[hr];simp[vT])];simp[vT]
 have hm:eR (vT n 0) (qT (gI 7))=0:=by simp[eR,vT,qT]
 unfold Cx pf
 rw[hm,hl]
 simp[qT,vT,rT]
theorem Ew {n i:Int} (h0:0≤i) (h1:i < n) (h2:n≤8):Cx (vT n i) (qT (gI 8))=if i+1=n then (gT,rT 23 0 [],true) else (vT n (i+1),rT 23 (n - (i+1)) [],true):=by
 have hm:eR (vT n i) (qT (gI 8))=0:=by simp[eR,vT,qT]
 have hp:¬(qT (gI 8)).iY=(vT n i).iY:=by simp[qT,vT,gI]
 unfold Cx pf
 rw[hm,if_neg (by simp[qT]),if_neg (by simp),if_pos (by rfl),if_neg hp]
 have hu:(vT n i).used+1=i+1∧(vT n i).bA=n:=⟨rfl,rfl⟩
 rw[hu.1,hu.2]
 by_cases c:i+1=n
 ·rw[if_pos c,if_pos c];rfl
 ·rw[if_neg c,if_neg c]
  have hr:=mZ (n:=n) (i:=i+1) (by omega) (by omega) h2
  have hv:mE (vT n i)=vT n (i+1):=rfl
  have hl:mD (vT n (i+1))=n - (i+1):=by unfold mD;rw[if_neg (by rw[hr];simp[vT])];simp[vT]
  rw[hv,hl];rfl
theorem Jw :Cx gT (qT (gI 8))=(gT,rT 24 0 [],false):=by rfl
def Be (right:Bool) (n:Int) (i:Nat):ae:=if right=true then vT n 0 else if (i:Int)< n then vT n i else gT
def C6 (right:Bool) (n:Int) (i:Nat):av×Bool:=if right=true then (rT 0 n [115],false) else if (i:Int)< n then (rT 23 (n - (i+1)) [],true) else (rT 24 0 [],false)
def pOf (right:Bool):Bs:=if right=true then gI 7 else gI 8
theorem Ry (right:Bool) {n:Int} (i:Nat) (h1:1≤n) (h2:n≤8):Cx (Be right n i) (qT (pOf right))=(Be right n (i+1),(C6 right n i).1,(C6 right n i).2):=by
 unfold Be C6 pOf
 cases right with
 | true=> simp only[if_true];exact Ev h1 h2
 | false=>
   simp only[abP,if_false]
   by_cases c:(i:Int)< n
   ·rw[if_pos c,if_pos c,Ew (by omega) c h2]
    by_cases c2:(i:Int)+1=n
    ·rw[if_pos c2,if_neg (by omega)]
     simp only[show n - (((i:Nat):Int)+1)=0 by omega]
    ·rw[if_neg c2,if_pos (by omega)]
     simp
   ·rw[if_neg c,if_neg c,if_neg (by omega)];exact Jw
theorem Rz (right:Bool) {n:Int} (i:Nat) (h1:1≤n) (h2:n≤8):(Be right n i).wf∧aN (Be right n i)=true∧(Be right n i).iD=yS:=by
 unfold Be
 split
 ·exact ⟨Js (by omega) (by omega) h2,mZ (by omega) (by omega) h2,rfl⟩
 ·split
  ·exact ⟨Js (by omega) (by omega) h2,mZ (by omega) (by omega) h2,rfl⟩
  ·exact ⟨XZ,Jr,rfl⟩
theorem RA (right:Bool) {n:Int} (i:Nat) (h1:1≤n) (h2:n≤8):(C6 right n i).1.wf∧bN (C6 right n i).1=true:=by
 unfold C6
 split
 ·exact Ju (by omega) (by omega) (by simp)
 ·split
  ·exact Ju (by omega) (by omega) (by simp)
  ·exact Ju (by omega) (by omega) (by simp)
theorem Jx {cf:CF} {base:Nat} {v:V} {a b:C} {e:Env} {h:Hp} {K:bV} (M:Env→Hp→Prop) (h1:∀e H,M e H→K .normal e H) (h2:∀K':bV,(∀e H,M e H→K' .normal e H)→wpC cf base v a b e h K'):wpC cf base v a b e h K:=h2 K h1
theorem wI (b:Nat) (h:Hp) (bA times:Int) (right:Bool) (DX: -9223372036854775808≤bA) (sH:bA≤9223372036854775807) (AQ: -9223372036854775808≤times) (ht1:times≤9223372036854775807):
 run fns pr b 4 [.s (.int .i64 bA),.s (.int .i64 times),.s (.bool right)] h=some (.s (.bool true),h):=by
 refine Vm.aQ (nt:=175) rfl ZW (by simp) ?_
 have hwl:=fun h0=> vf h.length h0 bA 1 8 (by omega) (by omega) (by omega) DX sH
 have Ag:=fun h0=> vf h.length h0 times 1 12 (by omega) (by omega) (by omega) AQ ht1
 obtain ⟨n,hn,Gs,hn8⟩:∃n:Int,within bA 1 8=n∧1≤n∧n≤8:=⟨_,rfl,va (by omega),vd (by omega)⟩
 obtain ⟨T,hT,hT1⟩:∃T:Nat,within times 1 12=(T:Int)∧T≤12:=by
   have h1:=va (n:=times) (lo:=1) (hi:=12) (by omega)
   have h2:=vd (n:=times) (lo:=1) (hi:=12) (by omega)
   exact ⟨(within times 1 12).toNat,by omega,by omega⟩
 rw[hn] at hwl
 rw[hT] at Ag
 have hd1:(gI 1).map aa=[.s (.int .u8 1),.s (.int .u8 0),.s (.int .u8 0),.s (.int .u8 0),.s (.int .u8 0),.s (.int .u8 0),.s (.int .u8 0),.s (.int .u8 0),.s (.int .u8 0),.s (.int .u8 0),.s (.int .u8 0),.s (.int .u8 0),.s (.int .u8 0),.s (.int .u8 0),.s (.int .u8 0),.s (.int .u8 0)]:=rfl
 obtain ⟨K,hK⟩:∃K,aT.cells (some 22) [V.arr 22 ((gI 1).map aa)]=K:=⟨_,rfl⟩
 have f0:Fw [] h (h++[K]):=Fw.app [] h _
 obtain ⟨v1,H1,e1,id,F1,rfl,d1,f1,n1⟩:=CV h.length (h++[K]) 0 1 (gI 1) (by simp) rfl (by decide) (by decide) (by decide) (by decide)
 have xc:=HI.new (gI 1) (a:=0) (b:=1) (by decide) (by decide) (by decide) (by decide)
 have ow0:=C2 (gI 1)
 have st0:(aY.new 0 1 (gI 1)).is=1∧(aY.new 0 1 (gI 1)).cO= -1∧(aY.new 0 1 (gI 1)).st.mem=0:=⟨rfl,rfl,rfl⟩
 have Jp:∀j,((aY.new 0 1 (gI 1)).st.p j).vs=[]:=fun _=> rfl
 generalize aY.new 0 1 (gI 1)=D0 at *
 have l1:=f1.len
 have l0:(h++[K]).length=h.length+1:=by simp
 have gk1:H1[h.length]? =some K:=f1.cH _ _ (aS _ _) (by simp)
 have gk2:=fun X=> q10z gk1 X
 have Eg:h.length∉F1:=fun hj=> by have:=n1 _ hj;omega
 have hF1:∀j∈F1,h.length≤j:=fun j hj=> by have:=n1 j hj;omega
 obtain ⟨B,hB⟩:∃B,cX (gI 1) 1 0 (jI (qE n))=B:=⟨_,rfl⟩
 have qw:=X1 Gs hn8
 have qr:=Jt Gs hn8
 have hrl:=pD qw qr
 have rq:=fun X=> mN h.length (H1++X) false (qE n) qw (by simp[qE])
 have cl:=fun X=> qj h.length (H1++X) (.aq false none ((jI (qE n)).map aa)) (gI 1) (jI (qE n)) 1 0 rfl (by decide) (ck _ _ _)
 unfold mO at cl
 simp only[if_pos (show (jI (qE n)).length≤8176 by omega),hB] at cl
 have ag:gh (gI 1) (bt D0.st.mem) B=(qE n,0):=by rw[st0.2.2,←hB];exact lJ (gI 1) 1 0 _ (by decide) qw qr
 obtain ⟨QB,hQB⟩:∃QB,aT.cells (some 33) [(qE n).enc]=QB:=⟨_,rfl⟩
 have f2:Fw [] H1 (H1++[.dead,QB]):=Fw.app _ _ _
 have d2:=d1.mono f2 (by simp)
 obtain ⟨a3,H3,D1,F2,q3,rfl,d3,f3,n3,hI3,is3,fu3,ro3,mm3,gg3,_,_⟩:=xo h.length (H1++[.dead,QB]) id D0 F1 (.aq false none (B.map aa)) (gI 1) B (qE n) none (vT n 0) (rE n) true 0 (by simp;omega) hF1 d2 xc (by omega) st0.1 (by omega) (ck _ _ _) rfl ag qw qr
   (ow0 _ (eD _)) (by rw[Jp];exact tc _) (Jv n) (OO Gs hn8).2 (OO Gs hn8).1 (fun _=>⟨Js (by omega) (by omega) hn8,mZ (by omega) (by omega) hn8,rfl,.inr (by rw[Jp];simp)⟩)
 simp only[if_true] at gg3
 have gk3:H3[h.length]? =some K:=f3.cH _ _ (gk2 _) Eg
 have l3:=f3.len
 simp only[abI,ab3,aci] at l3 n3
 have hqf:∀q:Request,q.aH false=q.enc:=fun _=> rfl
 have qh:(qE n).enc= .st 33 [.s (.int .i64 1),.arr 28 [.s (.int .u8 1),.s (.int .u8 0),.s (.int .u8 0),.s (.int .u8 0)],.arr 22 [.s (.int .u8 7),.s (.int .u8 0),.s (.int .u8 0),.s (.int .u8 0),.s (.int .u8 0),.s (.int .u8 0),.s (.int .u8 0),.s (.int .u8 0),.s (.int .u8 0),.s (.int .u8 0),.s (.int .u8 0),.s (.int .u8 0),.s (.int .u8 0),.s (.int .u8 0),.s (.int .u8 0),.s (.int .u8 0)],.aq false none [.s (.int .u8 115)],.s (.int .i64 n),aK 22,.arr 22 [.s (.int .u8 5),.s (.int .u8 0),.s (.int .u8 0),.s (.int .u8 0),.s (.int .u8 0),.s (.int .u8 0),.s (.int .u8 0),.s (.int .u8 0),.s (.int .u8 0),.s (.int .u8 0),.s (.int .u8 0),.s (.int .u8 0),.s (.int .u8 0),.s (.int .u8 0),.s (.int .u8 0),.s (.int .u8 0)],.s (.int .i64 0),.s (.int .u64 0)]:=rfl
 have hq7:(qT (gI 7)).enc= .st 33 [.s (.int .i64 2),.arr 28 [.s (.int .u8 1),.s (.int .u8 0),.s (.int .u8 0),.s (.int .u8 0)],.arr 22 [.s (.int .u8 7),.s (.int .u8 0),.s (.int .u8 0),.s (.int .u8 0),.s (.int .u8 0),.s (.int .u8 0),.s (.int .u8 0),.s (.int .u8 0),.s (.int .u8 0),.s (.int .u8 0),.s (.int .u8 0),.s (.int .u8 0),.s (.int .u8 0),.s (.int .u8 0),.s (.int .u8 0),.s (.int .u8 0)],kx,ki,aK 22,.arr 22 [.s (.int .u8 5),.s (.int .u8 0),.s (.int .u8 0),.s (.int .u8 0),.s (.int .u8 0),.s (.int .u8 0),.s (.int .u8 0),.s (.int .u8 0),.s (.int .u8 0),.s (.int .u8 0),.s (.int .u8 0),.s (.int .u8 0),.s (.int .u8 0),.s (.int .u8 0),.s (.int .u8 0),.s (.int .u8 0)],ki,.s (.int .u64 1)]:=rfl
 have hq8:(qT (gI 8)).enc= .st 33 [.s (.int .i64 2),.arr 28 [.s (.int .u8 1),.s (.int .u8 0),.s (.int .u8 0),.s (.int .u8 0)],.arr 22 [.s (.int .u8 8),.s (.int .u8 0),.s (.int .u8 0),.s (.int .u8 0),.s (.int .u8 0),.s (.int .u8 0),.s (.int .u8 0),.s (.int .u8 0),.s (.int .u8 0),.s (.int .u8 0),.s (.int .u8 0),.s (.int .u8 0),.s (.int .u8 0),.s (.int .u8 0),.s (.int .u8 0),.s (.int .u8 0)],kx,ki,aK 22,.arr 22 [.s (.int .u8 5),.s (.int .u8 0),.s (.int .u8 0),.s (.int .u8 0),.s (.int .u8 0),.s (.int .u8 0),.s (.int .u8 0),.s (.int .u8 0),.s (.int .u8 0),.s (.int .u8 0),.s (.int .u8 0),.s (.int .u8 0),.s (.int .u8 0),.s (.int .u8 0),.s (.int .u8 0),.s (.int .u8 0)],ki,.s (.int .u64 1)]:=rfl
 have wT:aa 0= .s (.int .u8 0):=rfl
 have Eu:h.length≤H1.length+1:=by omega
 have Jq:h.length≤H3.length:=by omega
 have C4:h.length≤H3.length+1:=by omega
 have gk3x:=fun X=> q10z gk3 X
 obtain ⟨p,hp⟩:∃p,pOf right=p:=⟨_,rfl⟩
 have nU:p.length=16:=by rw[←hp];unfold pOf;split <;> rfl
 have rq2:=fun X=> mN h.length (H3++X) false (qT p) (C5 nU) (by simp[qT])
 have aau:=pD (C5 nU) (tE p)
 have cl2:=fun X=> qj h.length (H3++X) (.aq false none ((jI (qT p)).map aa)) (gI 1) (jI (qT p)) 2 0 rfl (by decide) (ck _ _ _)
 obtain ⟨B2,hB2⟩:∃B2,cX (gI 1) 2 0 (jI (qT p))=B2:=⟨_,rfl⟩
 unfold mO at cl2
 simp only[if_pos (show (jI (qT p)).length≤8176 by omega),hB2] at cl2
 have aax:gh (gI 1) 0 B2=(qT p,0):=by rw[←hB2];exact lJ (gI 1) 2 0 _ (by decide) (C5 nU) (tE p)
 obtain ⟨AB,hAB⟩:∃AB,(⟨cX (qE n).kz (qE n).num.toNat (bt (128+(qE n).aO)) (dG (rE n)),(qE n).aO,true,true,⟨D0.st.mem,qE n,rE n⟩⟩:Answer).enc=AB:=⟨_,rfl⟩
 rw[hAB] at q3
 have hat:AB.ty=some 49:=by rw[←hAB];rfl
 have has:AB.aw=true:=by rw[←hAB];rfl
 simp only[hqf] at rq rq2
 simp only[hd1,wT,show ((1:Nat):Int)=1 from rfl,show ((2:Nat):Int)=2 from rfl] at cl cl2
 rw[hd1] at hK e1 q3
 subst hK hQB
 simp only[qh] at rq q3
 have hkn:=fun H=> Bd h.length H
 simp only[B4,TK,TJ,e1,hwl,gk1,gk2,rq,cl,Eu,q3,hat,has,Jq,C4,gk3,gk3x,decide_true,adw,go_sem,simprocAttr]
 refine Jx (fun e H=> e 1= .s (.int .i64 times)∧e 2= .s (.bool right)∧e 7= .ptr h.length [0] 1∧e 8= .ptr id [0] 1∧e 10= .s (.int .i64 n)∧e 16= .ptr (H3.length+1) [0] 1∧H=H3++[.cells (some 49) [AB],.cells (some 33) [(qT p).enc]]) ?_ ?_
 ·rintro e H ⟨x1,x2,x7,x8,x10,x16,rfl⟩
  have qty:(qT p).enc.ty=some 33:=rfl
  have f4:Fw [] H3 (H3++[aT.cells (some 49) [AB],aT.cells (some 33) [(qT p).enc]]):=Fw.app _ _ _
  have gq4:(H3++[aT.cells (some 49) [AB],aT.cells (some 33) [(qT p).enc]])[H3.length+1]? =some (.cells (some 33) [(qT p).enc]):=by rw[aJ];rfl
  have fw3:Fw [] h H3:=((f0.trans f1).trans f2).new f3 (fun j hj=> .inl (hF1 j hj))
  have w4:Lw h (H3++[aT.cells (some 49) [AB],aT.cells (some 33) [(qT p).enc]]) id D1 F2 (fun j=> j=h.length):=by
    refine ⟨d3.mono f4 (by simp),fw3.trans f4,fun j hj=> ?_,fun j hj=> ?_⟩
    ·rcases n3 j hj with h1 | h1
     ·exact hF1 j h1
     ·omega
    ·subst hj
     refine ⟨fun hj=> ?_,by simp;omega⟩
     rcases n3 _ hj with h1 | h1
     ·exact Eg h1
     ·omega
  have gk4:=gk3x [aT.cells (some 49) [AB],aT.cells (some 33) [(qT p).enc]]
  have aay:=rq2 [aT.cells (some 49) [AB],aT.cells (some 33) [(qT p).enc]]
  have aaz:=cl2 [aT.cells (some 49) [AB],aT.cells (some 33) [(qT p).enc]]
  generalize H3++[aT.cells (some 49) [AB],aT.cells (some 33) [(qT p).enc]]=H4 at *
  simp only[x1,x2,x7,x8,x10,x16,gk4,gq4,qty,aay,aaz,or_true,go_sem,simprocAttr]
  refine bo (fun m e H=>∃(i:Nat) (D:aY) (F:List Nat),m=T - i∧i≤T∧e 17= .s (.int .i64 (i:Nat))∧e 1= .s (.int .i64 times)∧e 2= .s (.bool right)∧e 7= .ptr h.length [0] 1∧e 8= .ptr id [0] 1∧e 10= .s (.int .i64 n)∧e 12= .aq false none (B2.map aa)∧
      Lw h H id D F (fun j=> j=h.length)∧H[h.length]? =some (aT.cells (some 22) [V.arr 22 [.s (.int .u8 1),.s (.int .u8 0),.s (.int .u8 0),.s (.int .u8 0),.s (.int .u8 0),.s (.int .u8 0),.s (.int .u8 0),.s (.int .u8 0),.s (.int .u8 0),.s (.int .u8 0),.s (.int .u8 0),.s (.int .u8 0),.s (.int .u8 0),.s (.int .u8 0),.s (.int .u8 0),.s (.int .u8 0)]])∧HI (6 *(i+1:Nat)) D∧D.is=1∧D.cO < 0∧(D.st.p (al yS)).role=1∧D.st.mem=0∧ec (D.st.p (al yS)).vs yS=some (Be right n i))
    (fun e H=> Fw [] h H) T _ _ ⟨0,D1,F2,rfl,by omega,rfl,x1,x2,x7,x8,x10,rfl,w4,gk4,hI3.wk (by omega),is3,by omega,ro3,by rw[mm3,st0.2.2],by rw[show (Be right n 0)=vT n 0 by unfold Be;split;rfl;rw[if_pos (by omega)];rfl];exact gg3⟩ ?_ ?_
  ·rintro m e H ⟨i,D,F,rfl,hi,e17,e1',e2',e7,e8,e10,e12,w,gk,hI,is1,fu,ro,mm,gg⟩
   by_cases ci:i < T
   ·have ci':(i:Int)<(T:Int):=by omega
    have w1:IntKind.i64.wrap ((i:Int)+1)=((i+1:Nat):Int):=q18z (by omega)
    obtain ⟨hvw,hvr,hvi⟩:=Rz right (i+1) Gs hn8
    obtain ⟨hrw,xZ⟩:=RA right i Gs hn8
    have ba:=yM h.length H id D F w.d
    have Gx:=Ry right i Gs hn8
    rw[hp] at Gx
    obtain ⟨a6,H6,D6,F6,q6,rfl,d6,f6,n6,hI6,is6,fu6,ro6,mm6,gg6,_,ss6⟩:=xo h.length H id D F (.aq false none (B2.map aa)) (gI 1) B2 (qT p) (some (Be right n i)) (Be right n (i+1)) (C6 right n i).1 (C6 right n i).2 _ w.fw.len w.fn w.d hI (by omega) is1 fu (ck _ _ _) rfl (by rw[mm];exact aax) (C5 nU) (tE p) ro gg Gx xZ hrw
      (fun _=>⟨hvw,hvr,hvi,.inl rfl⟩)
    obtain ⟨w6,k6⟩:=w.op d6 f6 n6
    have gk6:=k6 _ _ rfl gk
    have RB:=w6.fw.len
    have Jy:h.length≤H6.length+1:=by omega
    have gg7:ec (D6.st.p (al yS)).vs yS=some (Be right n (i+1)):=by
      have e:(qT p).iD=yS:=rfl
      rw[e] at gg6
      rw[gg6]
      unfold C6
      cases right with
      | true=> simp only[if_true,abP,if_false];rfl
      | false=>
        simp only[abP,if_false]
        by_cases c:(i:Int)< n
        ·simp only[if_pos c,if_true]
        ·simp only[if_neg c,abP,if_false]
         unfold Be
         simp only[abP,if_false,if_neg c,if_neg (show ¬((i+1:Nat):Int)< n by omega)]
    simp only[hd1] at q6
    have hae:∀(r:av) (c:Bool),(⟨cX (qT p).kz (qT p).num.toNat (bt (128+(qT p).aO)) (dG r),(qT p).aO,true,c,⟨D.st.mem,qT p,r⟩⟩:Answer).enc= .st 49 [.aq false none ((cX (qT p).kz (qT p).num.toNat (bt (128+(qT p).aO)) (dG r)).map aa),.s (.int .i64 0),.s (.bool true),.s (.bool c),.st 47 [.s (.int .i64 D.st.mem),(qT p).enc,r.enc]]:=fun _ _=> rfl
    rw[hae] at q6
    have mT:∀w l s,(rT w l s).enc= .st 45 [.s (.int .i64 w),.arr 28 (yS.map aa),.s (.int .u64 1),.s (.int .i64 l),.aq false none (s.map aa),.s (.int .i64 0),.s (.int .u64 1)]:=fun _ _ _=> rfl
    have hsx:=fun X=> yM h.length (H6++X) id D6 F6 (w6.d.app X)
    have fin:∀X Y,∃m,m < T - i∧∃(i':Nat) (D:aY) (F:List Nat),m=T - i'∧i'≤T∧Value.int .i64 ((i+1:Nat):Int)=Value.int .i64 (i':Nat)∧Lw h (H6++[X,Y]) id D F (fun j=> j=h.length)∧(H6++[X,Y])[h.length]? =some (aT.cells (some 22) [V.arr 22 [.s (.int .u8 1),.s (.int .u8 0),.s (.int .u8 0),.s (.int .u8 0),.s (.int .u8 0),.s (.int .u8 0),.s (.int .u8 0),.s (.int .u8 0),.s (.int .u8 0),.s (.int .u8 0),.s (.int .u8 0),.s (.int .u8 0),.s (.int .u8 0),.s (.int .u8 0),.s (.int .u8 0),.s (.int .u8 0)]])∧HI (6 *(i'+1:Nat)) D∧D.is=1∧D.cO < 0∧(D.st.p (al yS)).role=1∧D.st.mem=0∧ec (D.st.p (al yS)).vs yS=some (Be right n i'):=fun X Y=>
      ⟨_,by omega,i+1,D6,F6,rfl,by omega,rfl,w6.ext (Fw.app _ _ _) (fun j hj=> .inl hj),q10z gk6 _,hI6.wk (by omega),is6,by omega,ro6,by omega,gg7⟩
    cases right with
    | true=>
      have hr:C6 true n i=(rT 0 n [115],false):=rfl
      rw[hr] at q6 ss6
      have hs6:=ss6 rfl
      simp only[mT] at q6
      rw[hs6] at hsx
      have hbs:=fun cf base H=> yi cf base H _ none [115] (Ey H false none _)
      simp only[abR,ab1] at hbs
      have aaA:(⟨#[115]⟩:ByteArray)=⟨[115].toArray⟩:=rfl
      simp only[e17,e1',e2',e7,e8,e10,e12,Ag,ci',ba,gk,q6,RB,Jy,hsx,w1,hbs,aaA,go_sem,simprocAttr]
      exact fin _ _
    | false=>
      by_cases c:(i:Int)< n
      ·have hr:C6 false n i=(rT 23 (n - (i+1)) [],true):=by
         unfold C6;simp only[abP,if_false,if_pos c]
       rw[hr] at q6
       simp only[mT,ab1] at q6
       have u1:IntKind.i64.wrap (n - (i:Int))=n - i:=wrap_i64 (by omega) (by omega)
       have u2:IntKind.i64.wrap (n - (i:Int) - 1)=n - (i+1):=by rw[wrap_i64 (by omega) (by omega)];omega
       have u3:¬n≤(i:Int):=by omega
       simp only[e17,e1',e2',e7,e8,e10,e12,Ag,ci',ba,gk,q6,RB,Jy,hsx,w1,u1,u2,u3,c,go_sem,simprocAttr]
       exact fin _ _
      ·have hr:C6 false n i=(rT 24 0 [],false):=by
         unfold C6;simp only[abP,if_false,if_neg c]
       rw[hr] at q6
       simp only[mT,ab1] at q6
       have u3:n≤(i:Int):=by omega
       simp only[e17,e1',e2',e7,e8,e10,e12,Ag,ci',ba,gk,q6,RB,Jy,hsx,w1,u3,c,go_sem,simprocAttr]
       exact fin _ _
   ·have ci':¬(i:Int)<(T:Int):=by omega
    simp only[e17,e1',Ag,ci',go_sem,simprocAttr]
    exact w.fw
  ·intro e H fw
   have ft:=fw.take
   have hk:=hkn H
   simp only[hk,ft,go_sem,simprocAttr]
 ·intro K' hK'
  unfold pOf at hp
  cases right with
  | true=>
    simp only[if_true] at hp
    subst hp
    simp only[C4,go_sem,simprocAttr]
    refine hK' _ _ ?_
    simp only[hq7,go_sem,simprocAttr]
  | false=>
    simp only[abP,if_false] at hp
    subst hp
    simp only[go_sem,simprocAttr,abO,abI,Vm.aJ,Vm.bx,Vm.aZ,Vm.aU,Vm.bc,Vm.aX,abJ,ab2]
    refine hK' _ _ ?_
    simp only[hq8,go_sem,simprocAttr]
end Go.Proofs.YtggjbepemdhohaaGreat
