/- Texts for DeskShards, part 4. Conditions: none. -/
import Derived.Test.YtggjbepemdhohaaGreatCTc
set_option linter.unusedSimpArgs false
set_option linter.unusedVariables false
set_option linter.unusedSectionVars false
namespace Go.Proofs.YtggjbepemdhohaaGreat
open Go Go.Vm Go.Proofs Go.Cl
theorem MF {l:List ae} {id:Bs} {v:ae} (h:eO l id=some v):v.iD=id∧v∈l:=by
 unfold eO at h
 split at h
 ·rename_i hc
  rw[h] at hc
  exact ⟨by simpa using hc,ab8 h⟩
 ·cases h
theorem Bq {L:List ae} (hr:gf L) {j:Nat} {w:ae} {id:Bs} (h:L[j]? =some w) (hw:w.iD=id):eO L id=some w:=by
 have:=pos_eq hr h hw
 unfold eO
 rw[this,h]
 simp[hw]
theorem Jf {l:List ae} (hr:gf l) {v:ae} (hv:v∈l):eO l v.iD=some v:=by
 obtain ⟨j,hj⟩:=List.getElem?_of_mem hv
 exact Bq hr hj rfl
theorem tC {l:List ae} {v:ae} (hr:gf l) (hv:aQ v=true) (hc:eO l v.iD=none→l.length < 4):(pI l v).2=ir l v:=by
 refine y7 hr ?_
 unfold pI
 rw[if_neg (by simp[hv])]
 by_cases c:(l[pos l v.iD]?).map ae.iD=some v.iD
 ·rw[if_pos c]
 ·rw[if_neg c,if_neg ?_]
  have:eO l v.iD=none:=by unfold eO;rw[if_neg c]
  have:=hc this
  omega
theorem oW {l:List ae} (v w:ae):w∈ir l v↔w=v∨w∈l∧w.iD≠v.iD:=by
 simp only[ir,acp,afe,aeq,decide_eq_true_eq]
 constructor
 ·rintro ((⟨h1,h2⟩ | h) | ⟨h1,h2⟩)
  ·exact .inr ⟨h1,fun e=> by rw[e,ju] at h2;omega⟩
  ·exact .inl h
  ·exact .inr ⟨h1,fun e=> by rw[e,ju] at h2;omega⟩
 ·rintro (h | ⟨h1,h2⟩)
  ·exact .inl (.inr h)
  ·by_cases h3:cQ w.iD v.iD < 0
   ·exact .inl (.inl ⟨h1,h3⟩)
   ·refine .inr ⟨h1,?_⟩
    have:cQ w.iD v.iD≠0:=fun e=> h2 (mR _ _ e)
    omega
theorem Br {l:List ae} (hr:gf l):(l.map ae.iD).Nodup:=by
 rw[List.nodup_iff_pairwise_ne,List.pairwise_map]
 exact hr.imp fun {a b} h e=> by rw[e,ju] at h;omega
theorem Jg {l m:List Bs}:l.Nodup→(∀x∈l,x∈m)→l.length≤m.length:=by
 induction l generalizing m with
 | nil=> intro _ _;exact aeu _
 | cons a l ih=>
   intro hn hs
   obtain ⟨h1,h2⟩:=List.nodup_cons.1 hn
   have ha:=hs a (by simp)
   have:=ih (m:=m.erase a) h2 fun x hx=> by
     have da:x≠a:=fun e=> h1 (e ▸ hx)
     exact (List.mem_erase_of_ne da).2 (hs x (by simp[hx]))
   rw[List.length_erase_of_mem ha] at this
   have:=List.length_pos_of_mem ha
   simp only[acj];omega
theorem Bt {l:List ae} (hr:gf l) (v:ae) (hc:eO l v.iD=none→l.length < 4) (h4:l.length≤4):(ir l v).length≤4:=by
 have hn:=Br (tu hr v)
 by_cases hg:eO l v.iD=none
 ·have h1:=hc hg
  have:=Jg (m:=v.iD::l.map ae.iD) hn fun x hx=> by
    obtain ⟨w,hw,rfl⟩:=acW.1 hx
    rcases (oW v w).1 hw with rfl | ⟨h,_⟩
    ·simp
    ·simp only[acC,acW];exact .inr ⟨w,h,rfl⟩
  simp at this;omega
 ·obtain ⟨w,hw⟩:=Option.ne_none_iff_exists'.1 hg
  obtain ⟨pz,CS⟩:=MF hw
  have:=Jg (m:=l.map ae.iD) hn fun x hx=> by
    obtain ⟨u,hu,rfl⟩:=acW.1 hx
    rcases (oW v u).1 hu with rfl | ⟨h,_⟩
    ·rw[←pz];exact acW.2 ⟨w,CS,rfl⟩
    ·exact acW.2 ⟨u,h,rfl⟩
  simp at this;omega
theorem pM (s:bD) (n:Nat) (q:pJ):(s.qc n q).p n=q:=by simp[bD.qc]
theorem Jh (s:bD) (n j:Nat) (q:pJ) (h:j≠n):(s.qc n q).p j=s.p j:=by simp[bD.qc,h]
theorem mS.qc {s:bD} (hk:mS s) {n:Nat} {q:pJ} (hq:n < 16→POk s n q):mS (s.qc n q):=
 ⟨hk.m1,hk.m2,hk.m3,hk.m4,fun i hi=> by
   by_cases h:i=n
   ·subst h
    rw[pM]
    obtain ⟨a1,a2,a3,a4,a5,a6,a7,a8,a9⟩:=hq hi
    exact ⟨a1,a2,a3,a4,a5,a6,a7,a8,a9⟩
   ·rw[Jh _ _ _ _ h]
    obtain ⟨a1,a2,a3,a4,a5,a6,a7,a8,a9⟩:=hk.p i hi
    exact ⟨a1,a2,a3,a4,a5,a6,a7,a8,a9⟩⟩
theorem xy {s:bD} {r:aB} (h:cD s r=0):bj r=true:=by
 unfold cD at h
 split at h
 ·cases h
 ·simpa using ‹¬bj r=false›
theorem O0 {s:bD} (hk:mS s) {v:ae} (h:oU s v=0):eO (s.p (al v.iD)).vs v.iD=none→(s.p (al v.iD)).vs.length < 4:=by
 intro hn
 unfold oU at h
 split at h
 ·cases h
 ·split at h
  ·cases h
  ·rw[hn] at h
   simp at h
   exact h
theorem tD {s:bD} (hk:mS s) {r:aB} (hw:r.wf) (hv:∀v∈r.aj,v.wf):mS (bp s r).2:=by
 unfold bp
 by_cases c0:cD s r=0
 case neg=> rw[if_pos c0];exact hk
 rw[if_neg (by simp[c0])]
 have hr:=xy c0
 have c1:=c0
 unfold cD at c1
 rw[if_neg (by simp[hr])] at c1
 by_cases k1:r.kind=1
 ·rw[if_pos k1]
  rw[if_pos k1] at c1
  have j5:aQ r.ax=true:=by unfold bj at hr;rw[if_pos k1] at hr;simp at hr;simp[hr]
  refine hk.qc fun hi=> ?_
  have ok:=hk.p _ hi
  have mj:=O0 hk c1
  have XZ:(s.p (al r.ax.iD)).role≠0:=by
    intro e;unfold oU at c1;rw[if_pos e] at c1;cases c1
  have hpt:=tC ok.EF j5 mj
  obtain ⟨a1,a2,a3,a4,a5,a6,a7,a8,a9⟩:=ok
  refine ⟨a1,a2,a3,a4,a5,fun h=> absurd h XZ,?_,?_,?_⟩
  ·show gf (pI _ _).2
   rw[hpt];exact tu a7 _
  ·show (pI _ _).2.length≤4
   rw[hpt];exact Bt a7 _ mj a8
  ·show ∀v∈(pI _ _).2,_
   rw[hpt]
   intro v hv
   rcases (oW r.ax v).1 hv with rfl | ⟨h,_⟩
   ·exact ⟨j5,hw.ax,rfl⟩
   ·exact a9 v h
 ·rw[if_neg k1]
  rw[if_neg k1] at c1
  obtain ⟨g1,g2,g3,g4,g5⟩:=nG hr k1
  by_cases k2:r.kind=2
  ·rw[if_pos k2]
   rw[if_pos k2] at c1
   refine hk.qc fun hi=> ?_
   have ok:=hk.p _ hi
   have hto:0≤r.dS:=by unfold bj at hr;rw[if_neg k1,if_pos k2] at hr;simp at hr;omega
   obtain ⟨a1,a2,a3,a4,a5,a6,a7,a8,a9⟩:=ok
   unfold za at c1
   split at c1
   ·cases c1
   ·split at c1
    ·cases c1
    ·refine ⟨by simp,g3,g4,fun _=> by simp only;omega,fun h=> absurd rfl h,(fun h=> by cases h),a7,a8,a9⟩
  ·rw[if_neg k2]
   rw[if_neg k2] at c1
   by_cases k3:r.kind=3
   ·rw[if_pos k3]
    rw[if_pos k3] at c1
    refine hk.qc fun hi=> ?_
    have zd:rising r.aj=true:=by
      unfold bj at hr
      rw[k3] at hr
      simp at hr
      exact q28z hr.2
    unfold rising at zd
    simp only[abY,decide_eq_true_eq,ach] at zd
    unfold xw at c1
    split at c1
    ·cases c1
    ·rename_i X1
     simp only[aeC,decide_eq_true_eq,not_exists,not_and,Decidable.not_not] at X1
     refine ⟨by simp,g3,g4,(fun h=> by cases h),fun _=> rfl,(fun h=> by cases h),zd.2,zd.1.1,fun v hm=>⟨zd.1.2 v hm,hv v hm,?_⟩⟩
     have:=X1 v hm
     omega
   ·rw[if_neg k3]
    refine hk.qc fun hi=> ?_
    exact ⟨by simp,g3,g4,(fun h=> by cases h),fun _=> rfl,fun _=> rfl,List.Pairwise.nil,by simp,by simp⟩
set_option maxRecDepth 100000
def qz (s:bD) (n:Nat) (q:pJ):Bool:=
 if q.role < 0∨2 < q.role∨q.aH < 1∨1099511627776 < q.aH then false
 else if q.role=2∧(q.to < 0∨s.bF≤q.to∨q.to=s.mem)∨q.role≠2∧q.to≠0 then false
 else if q.role=0∧0 < q.vs.length then false
 else !(q.vs.any fun v=> decide ((al v.iD:Int)≠(n:Nat)))
theorem EI (b:Nat) (h:Hp) (n:Nat) (v:ae) (id:Nat) (hl:v.iD.length≤1000000) (hg:h[id]? =some (.cells none [.s (.int .i64 (n:Nat))])):
 run fns pr b 150 [v.enc,.ptr id [0] 1] h=some (.s (.bool (decide ((al v.iD:Int)≠(n:Nat)))),h):=by
 refine Vm.aR (nt:=9) rfl Rc (by simp) ?_
 obtain ⟨a1,a2,a3,a4,a5,a6,a7,a8,a9⟩:=v
 simp only at hl ⊢
 have pv:=fun b h0=> gX b h0 a1 hl
 have cL:=fun X=> q10z hg X
 generalize al a1=S at *
 simp only[Ra,ae.enc,pv,cL,ab2,go_sem,simprocAttr]
 all_goals simp[bne,ab1]
theorem Bu (b:Nat) (h:Hp) (m n:Nat) (s:bD) (F:List Nat) (q:pJ) (hs:ji h m s F) (hn:n < 16) (hl:q.vs.length≤1000) (hv:∀v∈q.vs,v.wf):
 run fns pr b 143 [.ptr m [0] 1,.s (.int .i64 (n:Nat)),.s (.int .i64 q.role),.s (.int .u64 q.aH),.s (.int .i64 q.to),.aq false (some 37) (q.vs.map ae.enc)] h=some (.s (.bool (qz s n q)),h):=by
 obtain ⟨r,ts,own,hp⟩:=hs
 obtain ⟨role,aH,to,vs⟩:=q
 simp only at hl hv ⊢
 refine Vm.aR (nt:=74) rfl QZ (by simp) ?_
 have hr:=fun b h0=> nE b h0 n
 have q1:(0:Int)≤(n:Int):=by omega
 have q2:(n:Int)< 16:=by omega
 have hc:=fun b H (hg:H[h.length]? =_)=> pK b H (.aq false (some 37) (vs.map ae.enc)) vs 150 [.ptr h.length [0] 1] (fun v=> decide ((al v.iD:Int)≠(n:Nat))) (.inl ⟨_,rfl⟩) (by omega)
   (fun b v hm=> EI b H n v h.length (by have:=(hv v hm).iD;omega) hg)
 have GU:=fun b=> hc b (h++[aT.cells none [.s (.int .i64 (n:Nat))]]) (aO _ _)
 have cL:=fun X=>(hp.app X).o
 have kK:∀cf base H,aD cf base H .len [.aq false (some 37) (vs.map ae.enc)]=some (.s (.int .i64 (vs.length:Nat)),H):=fun cf base H=> by rw[qt];simp
 unfold qz
 simp only
 by_cases c1:role < 0
 ·rw[if_pos (.inl c1)]
  simp only[pg,hr,q1,q2,c1,ab2,go_sem,simprocAttr]
  all_goals rfl
 by_cases c2:2 < role
 ·rw[if_pos (.inr (.inl c2))]
  simp only[pg,hr,q1,q2,c1,c2,ab2,go_sem,simprocAttr]
  all_goals rfl
 by_cases c3:aH < 1
 ·rw[if_pos (.inr (.inr (.inl c3)))]
  simp only[pg,hr,q1,q2,c1,c2,c3,ab2,go_sem,simprocAttr]
  all_goals rfl
 by_cases c4:1099511627776 < aH
 ·rw[if_pos (.inr (.inr (.inr c4)))]
  simp only[pg,hr,q1,q2,c1,c2,c3,c4,ab2,go_sem,simprocAttr]
  all_goals rfl
 rw[if_neg (by omega)]
 generalize (vs.any fun v=> decide ((al v.iD:Int)≠(n:Nat)))=an at *
 by_cases k2:role=2
 ·subst k2
  have k0:¬(2:Int)=0:=by decide
  by_cases t1:to < 0
  ·rw[if_pos (.inl ⟨rfl,.inl t1⟩)]
   simp only[pg,hr,q1,q2,c3,c4,t1,ab2,go_sem,simprocAttr]
   all_goals rfl
  by_cases t2:s.bF≤to
  ·rw[if_pos (.inl ⟨rfl,.inr (.inl t2)⟩)]
   simp only[pg,hr,q1,q2,c3,c4,t1,t2,cL,ab2,go_sem,simprocAttr]
   all_goals rfl
  by_cases t3:to=s.mem
  ·rw[if_pos (.inl ⟨rfl,.inr (.inr t3)⟩)]
   have t1':¬s.mem < 0:=by rw[←t3];exact t1
   have t2':¬s.bF≤s.mem:=by rw[←t3];exact t2
   simp only[pg,hr,q1,q2,c3,c4,t1,t2,t1',t2',t3,cL,ab2,go_sem,simprocAttr]
   all_goals rfl
  rw[if_neg (by omega),if_neg (by omega)]
  simp only[pg,hr,q1,q2,c3,c4,t1,t2,t3,cL,GU,ab2,go_sem,simprocAttr]
  all_goals rfl
 ·by_cases t0:to=0
  ·rw[if_neg (by omega)]
   subst t0
   by_cases k0:role=0
   ·subst k0
    by_cases l0:0 < vs.length
    ·have l0':(0:Int)<((vs.length:Nat):Int):=by omega
     rw[if_pos ⟨rfl,l0⟩]
     simp only[pg,hr,q1,q2,c3,c4,kK,l0',ab2,go_sem,simprocAttr]
     all_goals rfl
    ·have l0':¬(0:Int)<((vs.length:Nat):Int):=by omega
     rw[if_neg (by omega)]
     simp only[pg,hr,q1,q2,c3,c4,kK,l0',GU,ab2,go_sem,simprocAttr]
     all_goals rfl
   ·rw[if_neg (by omega)]
    simp only[pg,hr,q1,q2,c1,c2,c3,c4,k2,k0,GU,ab2,go_sem,simprocAttr]
    all_goals rfl
  ·rw[if_pos (.inr ⟨k2,t0⟩)]
   simp only[pg,hr,q1,q2,c1,c2,c3,c4,k2,t0,ab2,go_sem,simprocAttr]
   all_goals rfl
def tE (s:bD) (n:Nat) (q:pJ):Int×bD:=if qz s n q=true∧rising q.vs=true then (0,s.qc n q) else (1,s)
theorem RB (b:Nat) (h:Hp) (m n:Nat) (s:bD) (F:List Nat) (q:pJ) (hF:∀j∈F,b≤j) (hs:ji h m s F) (hn:n < 16) (hl:q.vs.length≤1000) (hv:∀v∈q.vs,v.wf):
 ∃v h',run fns pr b 114 [.ptr m [0] 1,.s (.int .i64 (n:Nat)),.s (.int .i64 q.role),.s (.int .u64 q.aH),.s (.int .i64 q.to),.aq false (some 37) (q.vs.map ae.enc)] h=some (v,h')∧v= .s (.int .i64 (tE s n q).1)∧∃F',ji h' m (tE s n q).2 F'∧Fw F h h'∧∀j∈F',j∈F∨h.length≤j:=by
 have qj:=hs
 have hbh:b≤h.length:=by have:=hF m hs.mem;have:=hs.lt m hs.mem;omega
 have hri:=fun b X=> Bu b (h++X) m n s F q (hs.app X) hn hl hv
 obtain ⟨r,ts,own,hp⟩:=hs
 refine Vm.eV (nt:=40) rfl PY (by simp) ?_
 have hnw:=sn b h
 have fA:Fw [] h (h++[aT.cells (some 138) [.st 138 [.aq true (some 37) []]]]):=Fw.app [] h _
 have hT:TR (h++[aT.cells (some 138) [.st 138 [.aq true (some 37) []]]]) h.length h.length []:=⟨_,aO _ _,.inl ⟨rfl,rfl,rfl⟩⟩
 unfold tE
 cases c1:qz s n q with
 | false=>
   rw[if_neg (by simp)]
   simp only[HR,hnw,hri,c1,go_sem,simprocAttr]
   exact ⟨F,qj.mono fA (by simp),fA.mono (by simp),fun j hj=> .inl hj⟩
 | true=>
   obtain ⟨H2,k',oe,hT2,f2,mg⟩:=y6 b _ h.length h.length [] q.vs (.aq false (some 37) (q.vs.map ae.enc)) hbh hT (.inl ⟨_,rfl⟩) hl
   have f02:Fw [] h H2:=fA.new f2 (fun j hj=> by simp at hj;subst hj;exact .inl (ab0 _))
   cases c2:rising q.vs with
   | false=>
     rw[if_neg (by simp)]
     rw[c2,if_neg (by simp)] at oe
     simp only[HR,hnw,hri,c1,oe,go_sem,simprocAttr]
     exact ⟨F,qj.mono f02 (by simp),f02.mono (by simp),fun j hj=> .inl hj⟩
   | true=>
     rw[if_pos ⟨rfl,rfl⟩]
     rw[c2,if_pos rfl] at oe hT2
     have hpA:=hp.mono f02 (by simp)
     have fg:=fun cf base=> hpA.sr.cZ (cf:=cf) (base:=base) (k:= .i64) (i:=n) (by rw[bX];exact hn)
     have hep:lh (.ref r [] (some 96) 0 16 16) n= .ptr r [n] 16:=by simp[lh]
     simp only[hep] at fg
     have hPn:(gK s.p ts 16)[n]? =some (.st 96 [.s (.int .i64 (s.p n).role),.s (.int .u64 (s.p n).aH),.s (.int .i64 (s.p n).to),.ptr (ts n).1 [0] 1]):=dv _ _ _ _ hn
     have hPl:=bX s.p ts 16
     have hgo:=hpA.o
     have AA:=hpA.row
     have pL:b≤r:=hF _ hp.fr
     have cJ:=q6z AA
     simp only[HR,hnw,hri,c1,oe,hgo,fg,AA,hPn,hPl,pL,cJ,hn,go_sem,simprocAttr]
     have r5:=q6z hp.row
     have Bb:h.length≤k':=by rcases mg with h1 | h1 | h1 <;> first | omega | (rw[abZ] at h1;omega)
     have fs:Fw [r] H2 (H2.set r (.cells (some 96) ((gK s.p ts 16).set n (eg q h.length)))):=Fw.set (by simp) AA
     exact hp.XY (q:=q) (t':=h.length) (k':=k') hn (q9z AA) (hT2.mono fs (by simp;omega) (by simp;omega)) ((f02.mono (by simp)).trans (fs.mono (by simp))) (.inr (ab0 _)) (.inr (.inr Bb))
theorem ji.congr {h:Hp} {m:Nat} {s s':bD} {F:List Nat} (hs:ji h m s F) (h1:s'.mem=s.mem) (h2:s'.bF=s.bF) (h3:∀i,i < 16→s'.p i=s.p i):ji h m s' F:=by
 obtain ⟨r,ts,own,o,row,tab,om,orr,ot,fm,fr,ft,fl⟩:=hs
 refine ⟨r,ts,own,by rw[h1,h2];exact o,?_,fun i hi=> by rw[h3 i hi];exact tab i hi,om,orr,ot,fm,fr,ft,fl⟩
 rw[row,tv (p:=s'.p) (p':=s.p) (ts:=ts) (ts':=ts) fun i hi=>⟨h3 i hi,rfl⟩]
theorem POk.right {s t:bD} {n:Nat} {q:pJ} (hk:POk s n q) (h1:t.mem=s.mem) (h2:t.bF=s.bF):qz t n q=true∧rising q.vs=true:=by
 obtain ⟨a1,a2,a3,a4,a5,a6,a7,a8,a9⟩:=hk
 constructor
 ·unfold qz
  rw[h1,h2,if_neg (by omega),if_neg,if_neg]
  ·simp only[aed,List.any_eq_false,decide_eq_true_eq,Decidable.not_not]
   intro v hv
   rw[(a9 v hv).2.2]
  ·rintro ⟨c1,c2⟩
   rw[a6 c1] at c2
   simp at c2
  ·rintro (⟨c1,c2⟩ | ⟨c1,c2⟩)
   ·have:=a4 c1;omega
   ·exact c2 (a5 c1)
 ·unfold rising
  simp only[abY,decide_eq_true_eq,ach]
  exact ⟨⟨a8,fun v hv=>(a9 v hv).1⟩,a7⟩
def j6 (s t:bD) (n:Nat):bD:= {s with p:=fun j=> if j < n then s.p j else t.p j}
theorem Ji (b:Nat) (h:Hp) (m:Nat) (s:bD) (F:List Nat) (hb:b≤h.length) (hs:ji h m s F) (hk:mS s):
 ∃v h',run fns pr b 71 [.ptr m [0] 1] h=some (v,h')∧∃F',v= .ptr h.length [0] 1∧ji h' h.length s F'∧Fw [] h h'∧∀j∈F',h.length≤j:=by
 refine Vm.eV (nt:=39) rfl V0 (by simp) ?_
 obtain ⟨v1,H1,e1,F1,rfl,s1,f1,n1⟩:=De b h s.mem s.bF hb hk.m1 hk.m2 hk.m3 hk.m4
 have ze:=hs.mono f1 (by simp)
 have qj:=hs
 obtain ⟨r,ts,own,hp⟩:=hs
 have GY:=hp.mono f1 (by simp)
 have hg:=hp.o
 have cV:=GY.o
 have kK:∀cf base H,aD cf base H .len [.ref r [] (some 96) 0 16 16]=some (.s (.int .i64 (16:Nat)),H):=fun cf base H=> by rw[SR.bH hp.sr,bX]
 have s1:ji H1 h.length (j6 s (bD.new s.mem s.bF) 0) F1:=s1.congr rfl rfl fun i hi=> by simp[j6]
 simp only[B71,ON,OM,hg,e1,cV,kK,go_sem,↓reduceIte,Nat.reduceEqDiff,Nat.reduceBEq,Nat.reduceAdd,Nat.reduceSub,Nat.reduceLT,Nat.reduceLeDiff,Int.reduceLT,Int.reduceLE,Int.reduceEq,Int.reduceToNat]
 refine bw (fun q e H=>∃(i:Nat) (F':List Nat),q=16 - i∧i≤16∧e 20= .s (.int .i64 (i:Nat))∧e 19= .s (.int .i64 (16:Nat))∧e 18= .ref r [] (some 96) 0 16 16∧e 3= .ptr h.length [0] 1∧ji H h.length (j6 s (bD.new s.mem s.bF) i) F'∧Fw [] h H∧∀j∈F',h.length≤j)
   (fun e H=>∃(F':List Nat),e 3= .ptr h.length [0] 1∧ji H h.length s F'∧Fw [] h H∧∀j∈F',h.length≤j) 16 _ _ ⟨0,F1,rfl,by omega,rfl,rfl,rfl,rfl,s1,f1,n1⟩ ?_ ?_
 ·rintro q e H ⟨i,F',rfl,hi,e20,e19,e18,e3,hm,fw,hn⟩
  by_cases c:i < 16
  ·have c':(i:Int)<((16:Nat):Int):=by omega
   have jn:IntKind.i64.wrap ((i:Int)+1)=((i+1:Nat):Int):=q18z (by omega)
   have ok:=hk.p i c
   have hpH:=hp.mono fw (by simp)
   have fg:=fun cf base=> hpH.sr.cZ (cf:=cf) (base:=base) (k:= .i64) (i:=i) (by rw[bX];exact c)
   have iQ:=fun cf base=> hpH.sr.iA (cf:=cf) (base:=base) (dv _ _ _ _ c) rfl
   have hbH:b≤H.length:=acE hb fw.len
   have fP:Fw [] H (H++[aT.cells (some 96) [eg (s.p i) (ts i).1]]):=Fw.app [] H _
   have GX:=fun b=> Dd b (H++[aT.cells (some 96) [eg (s.p i) (ts i).1]]) (ts i).1 (ts i).2 (s.p i).vs ((hpH.mono fP (by simp)).tab i c) (by have:=ok.len;omega) (fun v hv=> q14z (ok.vs v hv).1)
   obtain ⟨v2,H2,e2,rfl,F2,q8,f2,hn2⟩:=RB b _ h.length i _ F' (s.p i) (fun j hj=> acE hb (hn j hj)) (hm.mono fP (by simp)) c (by have:=ok.len;omega) (fun v hv=>(ok.vs v hv).2.1)
   have aZ:tE (j6 s (bD.new s.mem s.bF) i) i (s.p i)=(0,(j6 s (bD.new s.mem s.bF) i).qc i (s.p i)):=by
     unfold tE;rw[if_pos (ok.right (t:=j6 s (bD.new s.mem s.bF) i) rfl rfl)]
   rw[aZ] at e2 q8
   have hor:∀x,(decide (b≤H.length) || x)=true:=fun x=> by rw[decide_eq_true hbH];rfl
   have hgp:(H++[aT.cells (some 96) [eg (s.p i) (ts i).1]])[H.length]? =some (aT.cells (some 96) [eg (s.p i) (ts i).1]):=aO _ _
   have f02:Fw [] h H2:=(fw.trans fP).new f2 (fun j hj=> .inl (hn j hj))
   have hm3:ji H2 h.length (j6 s (bD.new s.mem s.bF) (i+1)) F2:=q8.congr rfl rfl fun j hj=> by
     simp only[j6,bD.qc]
     by_cases yu:j=i
     ·subst yu;simp
     ·simp only[yu,if_false]
      by_cases h1:j < i
      ·simp[h1,show j < i+1 by omega]
      ·simp[h1,show ¬j < i+1 by omega]
   have hn3:∀j∈F2,h.length≤j:=fun j hj=>(hn2 j hj).elim (hn j) fun h1=> by have:=fw.len;have:=fP.len;omega
   simp only[e20,e19,e18,e3,c',jn,fg,iQ,hor,mT,mU,go_sem,↓reduceIte,Nat.reduceEqDiff,Nat.reduceBEq,Nat.reduceAdd,Nat.reduceSub,Nat.reduceLT,Nat.reduceLeDiff,Int.reduceLT,Int.reduceLE,Int.reduceEq,Int.reduceToNat]
   simp only[eg] at GX e2 hgp
   simp only[eg,GX,e2,hgp,jn,e20,e19,e18,e3,go_sem,↓reduceIte,Nat.reduceEqDiff,Nat.reduceBEq,Nat.reduceAdd,Nat.reduceSub,Nat.reduceLT,Nat.reduceLeDiff,Int.reduceLT,Int.reduceLE,Int.reduceEq,Int.reduceToNat]
   exact ⟨16 - (i+1),by omega,i+1,F2,rfl,by omega,rfl,hm3,f02,hn3⟩
  ·have c':¬(i:Int)<((16:Nat):Int):=by omega
   obtain rfl:i=16:=by omega
   have q8:ji H h.length s F':=hm.congr rfl rfl fun j hj=> by simp[j6,hj]
   simp only[e20,e19,e18,e3,c',go_sem,↓reduceIte,Nat.reduceEqDiff,Nat.reduceBEq,Nat.reduceAdd,Nat.reduceSub,Nat.reduceLT,Nat.reduceLeDiff,Int.reduceLT,Int.reduceLE,Int.reduceEq,Int.reduceToNat]
   exact ⟨F',q8,fw,hn⟩
 ·rintro e H ⟨F',e3,hm,fw,hn⟩
  simp only[e3,go_sem,↓reduceIte,Nat.reduceEqDiff,Nat.reduceBEq,Nat.reduceAdd,Nat.reduceSub,Nat.reduceLT,Nat.reduceLeDiff,Int.reduceLT,Int.reduceLE,Int.reduceEq,Int.reduceToNat]
  exact ⟨F',hm,fw,hn⟩
set_option maxRecDepth 100000
def jQ :ag:=⟨0,0,0,bd,0⟩
def bx (r:ag):Bool:=decide (r.bZ≤1099511627776)&& decide (r.count≤1099511627776)&& decide (r.base≤r.count)&& decide (r.count - r.base≤8)&&(decide (r.aN=0) || decide (r.aN=1))&&(decide (0 < r.count) || decide (r.head=bd))
def xz (a r:ag):ag×Bool:=if bx a=true∧bx r=true then (r,true) else (jQ,false)
def eG (r:ag) (hd:Bs):ag×Bool:=xz r ⟨r.bZ,r.count+1,r.base,hd,r.aN⟩
def eX (r:ag):ag×Bool:=xz r ⟨r.bZ+1,r.count,r.base,r.head,r.aN⟩
def iK (r:ag) (hd:Bs):ag×Bool:=if r.count≤r.base then (jQ,false) else xz r ⟨r.bZ,r.count,r.count,hd,1 - r.aN⟩
def bI (r:ag):Int:=if bx r=true then r.count - r.base else 0
theorem ag.eh (r:ag):r.enc.ty=some 63:=rfl
theorem ag.ei (r:ag):r.enc.aw=true:=rfl
theorem ag.tF (n:Nat) (h:Hp) (r:ag):bE n h r.enc=some r.enc:=by simp only[ag.enc,go_sem]
theorem tG (b:Nat) (h:Hp) (r:ag) (hw:r.wf):run fns pr b 62 [r.enc] h=some (.s (.bool (bx r)),h):=by
 refine Vm.aR (nt:=47) rfl VI (by simp) ?_
 obtain ⟨bZ,count,base,head,aN⟩:=r
 obtain ⟨w1,w2,w3,w4,w5⟩:=hw
 simp only at w1 w2 w3 w4 w5
 unfold bx
 simp only
 by_cases c1:bZ≤1099511627776
 case neg=>
   simp only[Ec,ag.enc,c1,ab2,go_sem,simprocAttr]
 by_cases c2:count≤1099511627776
 case neg=>
   simp only[Ec,ag.enc,c1,c2,ab2,go_sem,simprocAttr]
 by_cases c3:base≤count
 case neg=>
   simp only[Ec,ag.enc,c1,c2,c3,ab2,go_sem,simprocAttr]
 have pz:IntKind.u64.wrap (count - base)=count - base:=wrap_u64 (by omega) (by omega)
 by_cases c4:count - base≤8
 case neg=>
   simp only[Ec,ag.enc,c1,c2,c3,pz,c4,ab2,go_sem,simprocAttr]
 by_cases c5:aN=0
 ·by_cases c6:0 < count
  ·simp only[Ec,ag.enc,c1,c2,c3,pz,c4,c5,c6,ab2,go_sem,simprocAttr]
  ·by_cases c7:head=bd
   ·simp only[Ec,ag.enc,c1,c2,c3,pz,c4,c5,c6,c7,cx,bP,ab2,go_sem,simprocAttr]
   ·simp only[Ec,ag.enc,c1,c2,c3,pz,c4,c5,c6,c7,cx,bP,ab2,go_sem,simprocAttr]
 ·by_cases c8:aN=1
  ·by_cases c6:0 < count
   ·simp only[Ec,ag.enc,c1,c2,c3,pz,c4,c5,c8,c6,ab2,go_sem,simprocAttr]
   ·by_cases c7:head=bd
    ·simp only[Ec,ag.enc,c1,c2,c3,pz,c4,c5,c8,c6,c7,cx,bP,ab2,go_sem,simprocAttr]
    ·simp only[Ec,ag.enc,c1,c2,c3,pz,c4,c5,c8,c6,c7,cx,bP,ab2,go_sem,simprocAttr]
  ·simp only[Ec,ag.enc,c1,c2,c3,pz,c4,c5,c8,ab2,go_sem,simprocAttr]
theorem O1 (b:Nat) (h:Hp) (a r:ag) (ha:a.wf) (hr:bx a=true→r.wf):run fns pr b 53 [a.enc,r.enc] h=some (.bM [(xz a r).1.enc,.s (.bool (xz a r).2)],h):=by
 refine Vm.aR (nt:=16) rfl Vr (by simp) ?_
 have h1:=fun h0=> tG h.length h0 a ha
 have h2:=fun h0 hr=> tG h.length h0 r hr
 unfold xz
 have hz:V.st 63 [.s (.int .u64 0),.s (.int .u64 0),.s (.int .u64 0),aK 22,.s (.int .i64 0)]=jQ.enc:=rfl
 cases c1:bx a with
 | false=>
   rw[if_neg (by simp)]
   simp only[B53,ag.eh,ag.ei,h1,c1,go_sem,simprocAttr]
   all_goals rfl
 | true=>
   have h2:=fun h0=> h2 h0 (hr c1)
   cases c2:bx r with
   | false=>
     rw[if_neg (by simp)]
     simp only[B53,ag.eh,ag.ei,h1,h2,c1,c2,go_sem,simprocAttr]
     all_goals rfl
   | true=>
     rw[if_pos ⟨rfl,rfl⟩]
     simp only[B53,ag.eh,ag.ei,ag.tF,h1,h2,c1,c2,go_sem,simprocAttr]
theorem q11z {r:ag} (h:bx r=true):r.bZ≤1099511627776∧r.count≤1099511627776∧r.base≤r.count∧r.count - r.base≤8∧(r.aN=0∨r.aN=1)∧(0 < r.count∨r.head=bd):=by
 unfold bx at h
 simp only[abY,acM,decide_eq_true_eq] at h
 obtain ⟨⟨⟨⟨⟨h1,h2⟩,h3⟩,h4⟩,h5⟩,h6⟩:=h
 exact ⟨h1,h2,h3,h4,h5,h6⟩
theorem Jj {a r r':ag} (h:bx a=false):xz a r=xz a r':=by
 unfold xz;rw[h];simp
theorem MG (b:Nat) (h:Hp) (r:ag) (hd:Bs) (hw:r.wf) (hl:hd.length=16):run fns pr b 22 [r.enc,.arr 22 (hd.map aa)] h=some (.bM [(eG r hd).1.enc,.s (.bool (eG r hd).2)],h):=by
 refine Vm.aR (nt:=19) rfl Up (by simp) ?_
 have hs:∀c,(bx r=true→c=r.count+1)→∀h0,run fns pr h.length 53 [r.enc,ag.enc ⟨r.bZ,c,r.base,hd,r.aN⟩] h0=some (.bM [(eG r hd).1.enc,.s (.bool (eG r hd).2)],h0):=by
   intro c hc h0
   have h1:=O1 h.length h0 r ⟨r.bZ,c,r.base,hd,r.aN⟩ hw (fun q=> by
     have:=q11z q
     have hc:=hc q
     obtain ⟨w1,w2,w3,w4,w5⟩:=hw
     exact ⟨w1,by simp only;omega,w3,hl,w5⟩)
   rw[h1]
   cases q:bx r with
   | true=> rw[hc q];rfl
   | false=> unfold eG;rw[Jj (r:=⟨r.bZ,c,r.base,hd,r.aN⟩) (r':=⟨r.bZ,r.count+1,r.base,hd,r.aN⟩) q]
 have jn:bx r=true→IntKind.u64.wrap (r.count+1)=r.count+1:=fun q=> by
   have:=q11z q
   obtain ⟨w1,w2,w3,w4,w5⟩:=hw
   exact wrap_u64 (by omega) (by omega)
 have hs:=hs _ jn
 have f1:=fun n H=> ag.tF n H (eG r hd).1
 have f2:=ag.eh (eG r hd).1
 have f3:=ag.ei (eG r hd).1
 generalize eG r hd=x at *
 obtain ⟨bZ,count,base,head,aN⟩:=r
 simp only[ag.enc] at hs ⊢
 generalize hx:V.st 63 [.s (.int .u64 x.1.bZ),.s (.int .u64 x.1.count),.s (.int .u64 x.1.base),.arr 22 (x.1.head.map aa),.s (.int .i64 x.1.aN)]=X at *
 simp only[ag.enc,hx] at f1 f2 f3
 simp only[B22,hs,f1,f2,f3,go_sem,simprocAttr]
theorem MH (b:Nat) (h:Hp) (r:ag) (hd:Bs) (hw:r.wf) (hl:hd.length=16):run fns pr b 66 [r.enc,.arr 22 (hd.map aa)] h=some (.bM [(iK r hd).1.enc,.s (.bool (iK r hd).2)],h):=by
 refine Vm.aR (nt:=28) rfl VQ (by simp) ?_
 unfold iK
 by_cases c0:r.count≤r.base
 ·rw[if_pos c0]
  obtain ⟨bZ,count,base,head,aN⟩:=r
  simp only at c0
  simp only[B66,ag.enc,c0,jQ,cx,go_sem,simprocAttr]
  all_goals rfl
 rw[if_neg c0]
 have hs:∀c,(bx r=true→c=1 - r.aN)→∀h0,run fns pr h.length 53 [r.enc,ag.enc ⟨r.bZ,r.count,r.count,hd,c⟩] h0=some (.bM [(xz r ⟨r.bZ,r.count,r.count,hd,1 - r.aN⟩).1.enc,.s (.bool (xz r ⟨r.bZ,r.count,r.count,hd,1 - r.aN⟩).2)],h0):=by
   intro c hc h0
   have h1:=O1 h.length h0 r ⟨r.bZ,r.count,r.count,hd,c⟩ hw (fun q=> by
     have:=q11z q
     have hc:=hc q
     obtain ⟨w1,w2,w3,w4,w5⟩:=hw
     exact ⟨w1,w2,w2,hl,by simp only;omega⟩)
   rw[h1]
   cases q:bx r with
   | true=> rw[hc q]
   | false=> rw[Jj (r:=⟨r.bZ,r.count,r.count,hd,c⟩) (r':=⟨r.bZ,r.count,r.count,hd,1 - r.aN⟩) q]
 have jn:bx r=true→IntKind.i64.wrap (1 - r.aN)=1 - r.aN:=fun q=> by
   have:=q11z q
   exact wrap_i64 (by omega) (by omega)
 have hs:=hs _ jn
 generalize xz r ⟨r.bZ,r.count,r.count,hd,1 - r.aN⟩=x at *
 have f1:=fun n H=> ag.tF n H x.1
 have f2:=ag.eh x.1
 have f3:=ag.ei x.1
 obtain ⟨bZ,count,base,head,aN⟩:=r
 simp only[ag.enc] at hs c0 ⊢
 generalize hx:V.st 63 [.s (.int .u64 x.1.bZ),.s (.int .u64 x.1.count),.s (.int .u64 x.1.base),.arr 22 (x.1.head.map aa),.s (.int .i64 x.1.aN)]=X at *
 simp only[ag.enc,hx] at f1 f2 f3
 simp only[B66,c0,hs,f1,f2,f3,go_sem,simprocAttr]
theorem Dg (b:Nat) (h:Hp) (r:ag) (hw:r.wf):run fns pr b 28 [r.enc] h=some (.s (.int .i64 (bI r)),h):=by
 refine Vm.aR (nt:=12) rfl UB (by simp) ?_
 have h1:=fun h0=> tG h.length h0 r hw
 unfold bI
 cases c1:bx r with
 | false=>
   rw[if_neg (by simp)]
   simp only[B28,ag.eh,ag.ei,h1,c1,ab2,go_sem,simprocAttr]
 | true=>
   have:=q11z c1
   obtain ⟨w1,w2,w3,w4,w5⟩:=hw
   have q1:IntKind.u64.wrap (r.count - r.base)=r.count - r.base:=wrap_u64 (by omega) (by omega)
   have q2:IntKind.i64.wrap (r.count - r.base)=r.count - r.base:=wrap_i64 (by omega) (by omega)
   rw[if_pos rfl]
   obtain ⟨bZ,count,base,head,aN⟩:=r
   simp only[ag.enc] at *
   simp only[B28,h1,c1,q1,q2,ab2,go_sem,simprocAttr]
def bU (r:ag):Int:=if 8≤bI r then -1 else 2+bI r
theorem pN (r:ag) (hw:r.wf):0≤bI r∧bI r≤8:=by
 unfold bI
 split
 ·have:=q11z (by assumption);omega
 ·omega
theorem Jk (b:Nat) (h:Hp) (r:ag) (hw:r.wf):run fns pr b 25 [r.enc] h=some (.s (.int .i64 (bU r)),h):=by
 refine Vm.aR (nt:=10) rfl Uv (by simp) ?_
 have h1:=fun h0=> Dg h.length h0 r hw
 have hl:=pN r hw
 unfold bU
 by_cases c:8≤bI r
 ·rw[if_pos c]
  simp only[B25,ag.eh,ag.ei,h1,c,ab2,go_sem,simprocAttr]
 ·rw[if_neg c]
  have hw:IntKind.i64.wrap (2+bI r)=2+bI r:=wrap_i64 (by omega) (by omega)
  simp only[B25,ag.eh,ag.ei,h1,c,hw,ab2,go_sem,simprocAttr]
theorem MI (b:Nat) (h:Hp) (r:ag) (hp:r.aN=0∨r.aN=1):run fns pr b 65 [r.enc] h=some (.s (.int .i64 (1 - r.aN)),h):=by
 refine Vm.aR (nt:=6) rfl VO (by simp) ?_
 have hw:IntKind.i64.wrap (1 - r.aN)=1 - r.aN:=wrap_i64 (by omega) (by omega)
 simp only[B65,ag.enc,hw,ab2,go_sem,simprocAttr]
set_option maxRecDepth 100000
theorem fC (l:Bs):(V.arr 22 (l.map aa)).ty=some 22:=rfl
theorem EJ (b:Nat) (h:Hp) (x:V) (l:Bs) (hx:BR h x l) (hl:l.length≤1000000):run fns pr b 67 [x] h=some (.arr 22 ((cP l).map aa),h):=by
 refine Vm.aR (nt:=5) rfl VS (by simp) ?_
 have hs:=fun b X=> xc b (h++X) x l (BR.rd (hx.mono (Fw.app [] h X))) hl
 have mA:((cP l).map aa).length=16:=by rw[acf,bG]
 simp only[B67,hs,mA,fC,ab2,go_sem,simprocAttr]
def vj :Bs:=[105,109,97,103,101]
def j7 (k:Bs) (r:ag) (l:Bs):Bs×Int:=if 8184 < l.length then ([],3) else (ek k r.count.toNat vj l,0)
theorem Jl (b:Nat) (h:Hp) (x:V) (k l:Bs) (r:ag) (hk:k.length=16) (hw:r.wf) (hx:BR h x l):run fns pr b 63 [.arr 22 (k.map aa),r.enc,x] h=some (.bM [.aq false none ((j7 k r l).1.map aa),.s (.int .i64 (j7 k r l).2)],h):=by
 refine Vm.aR (nt:=18) rfl VK (by simp) ?_
 have dt:(k.map aa).length=16:=by simp[hk]
 have ly:=fun cf base H=> hx.bH (cf:=cf) (base:=base) (h:=H)
 have him:∀f H,Rd H (.aq f none (vj.map aa)) vj:=fun f H=> BR.rd (cm H f vj)
 have hse:=fun b f X=> xg b (h++X) (.aq f none (vj.map aa)) x k vj l r.count.toNat hk (by have:=hw.count;omega) (him f _) (hx.mono (Fw.app [] h X)) (by decide)
 have hc:((r.count.toNat:Nat):Int)=r.count:=by have:=hw.count;omega
 rw[hc] at hse
 unfold j7
 by_cases c:8184 < l.length
 ·have c':(8184:Int)<((l.length:Nat):Int):=by omega
  rw[if_pos c]
  simp only[B63,ag.enc,dt,ly,c',ab2,go_sem,simprocAttr]
  all_goals rfl
 ·have c':¬(8184:Int)<((l.length:Nat):Int):=by omega
  rw[if_neg c]
  obtain ⟨bZ,count,base,head,aN⟩:=r
  simp only at hse hc ⊢
  have hiw:vj.map aa=[.s (.int .u8 105),.s (.int .u8 109),.s (.int .u8 97),.s (.int .u8 103),.s (.int .u8 101)]:=rfl
  rw[hiw] at hse
  simp only[B63,ag.enc,dt,ly,c',hse,fC,go_sem,simprocAttr]
  all_goals rfl
def lL (k:Bs) (n:Nat) (prev:Bs) (r:aB):Bs×Int:=if bj r=true then (ek k n prev (mN r),0) else ([],1)
theorem Jm (b:Nat) (h:Hp) (k prev:Bs) (n:Nat) (r:aB) (hk:k.length=16) (hp:prev.length=16) (hn:n < 18446744073709551616) (hw:r.wf) (hwv:∀v∈r.aj,v.wf):run fns pr b 21 [.arr 22 (k.map aa),.s (.int .u64 n),.arr 22 (prev.map aa),r.enc] h=some (.bM [.aq false none ((lL k n prev r).1.map aa),.s (.int .i64 (lL k n prev r).2)],h):=by
 refine Vm.aR (nt:=25) rfl Un (by simp) ?_
 have dt:(k.map aa).length=16:=by simp[hk]
 have qd:(prev.map aa).length=16:=by simp[hp]
 have dQ:r.enc.ty=some 40:=rfl
 have nA:r.enc.aw=true:=rfl
 generalize hGd:h++[aT.cells (some 22) [V.arr 22 (k.map aa)],aT.cells (some 22) [V.arr 22 (prev.map aa)],aT.cells (some 40) [r.enc]]=G
 have g1:G[h.length+1]? =some (aT.cells (some 22) [V.arr 22 (prev.map aa)]):=by rw[←hGd];exact aJ _ _ 1
 have hrd:=Rd.mk' (h:=G) (x:= .ref (h.length+1) [0] none 0 prev.length 1) (l:=prev) (Bm g1) rfl
 rw[hp] at hrd
 have hse:=fun b f=> xg b G (.ref (h.length+1) [0] none 0 16 1) (.aq f none ((mN r).map aa)) k prev (mN r) n hk hn hrd (cm _ _ _) (by omega)
 have g0:G[h.length]? =some (aT.cells (some 22) [V.arr 22 (k.map aa)]):=by rw[←hGd];exact aJ _ _ 0
 have g2:G[h.length+2]? =some (aT.cells (some 40) [r.enc]):=by rw[←hGd];exact aJ _ _ 2
 have EK:=fun b=> Es b G r hw hwv
 have dU:G.take h.length=h:=by rw[←hGd,ab2]
 unfold lL
 cases hr:bj r with
 | false=>
   rw[hr] at EK
   rw[if_neg (by simp)] at EK ⊢
   simp only[B21,dt,qd,dQ,nA,hGd,EK,g0,g1,g2,dU,go_sem,simprocAttr]
   all_goals rfl
 | true=>
   rw[hr] at EK
   rw[if_pos rfl] at EK ⊢
   simp only[B21,dt,qd,dQ,nA,hGd,EK,g0,g1,g2,dU,hse,fC,go_sem,simprocAttr]
   all_goals rfl
def eT (prev b:Bs):Bs:=cY prev (cP b)
theorem Jn (b:Nat) (h:Hp) (x:V) (prev l:Bs) (hp:prev.length=16) (hx:BR h x l) (hl:l.length≤1000000):run fns pr b 23 [.arr 22 (prev.map aa),x] h=some (.arr 22 ((eT prev l).map aa),h):=by
 refine Vm.aR (nt:=9) rfl Ur (by simp) ?_
 have qd:(prev.map aa).length=16:=by simp[hp]
 have hs:=fun b X=> xc b (h++X) x l (BR.rd (hx.mono (Fw.app [] h X))) hl
 have ht:=fun b h0=> IJ b h0 prev (cP l) hp (bG l)
 have mA:((cY prev (cP l)).map aa).length=16:=by simp[cY,bG]
 unfold eT
 simp only[B23,qd,hs,ht,mA,fC,ab2,go_sem,simprocAttr]
 all_goals rfl
theorem MJ (b:Nat) (h:Hp) (k:Bs) (m:Int) (hk:k.length=16):run fns pr b 16 [.arr 22 (k.map aa),.s (.int .i64 m)] h=some (.arr 22 ((cY k [bt m]).map aa),h):=by
 refine Vm.aR (nt:=10) rfl Ud (by simp) ?_
 have dt:(k.map aa).length=16:=by simp[hk]
 have hrd:∀A B,Rd (h++[A,B,aT.cells none [aa (bt m)]]) (.ref (h.length+2) [] none 0 1 1) [bt m]:=fun A B=> BR.rd (ck (aJ _ _ 2) rfl)
 have yr:=fun b A B=> mI b (h++[A,B,aT.cells none [aa (bt m)]]) (.ref (h.length+2) [] none 0 1 1) k [bt m] hk (hrd A B) (by simp)
 have mA:((cY k [bt m]).map aa).length=16:=by simp[cY,bG]
 simp only[B16,dt,j4,mA,fC,ab2,yr,go_sem,simprocAttr]
end Go.Proofs.YtggjbepemdhohaaGreat
namespace Go.Cl
structure Dk where
 now:List (Option Bs)
 bJ:List (Option Bs)
 ej:Nat
 at_:Nat
 last:Bs
def Dk.new :Dk:=⟨List.replicate 10 none,List.replicate 10 none,0,0,[]⟩
def Dk.jR (n:Int) (l:Bs):Bool:=decide (0≤n)&& decide (n < 10)&& decide (l.length≤8192)
def Dk.put (D:Dk) (n:Nat) (l:Bs):Dk:= {D with now:=D.now.set n (some l),ej:=D.ej+1,at_:=n,last:=l}
def Dk.get (D:Dk) (n:Int):Option Bs:=if 0≤n∧n < 10 then D.now.getD n.toNat none else none
def Dk.sync (D:Dk):Dk:= {D with bJ:=D.now,ej:=0}
def Dk.gL (D:Dk) (t:Int):List (Option Bs):=if 0 < D.ej∧0 < t then D.bJ.set D.at_ (some (D.last.take t.toNat)) else D.bJ
def Dk.iX (D:Dk) (t:Int):Dk:= {D with now:=D.gL t,bJ:=D.gL t,ej:=0}
def Dk.copy (D:Dk):Dk:=⟨D.now,D.now,0,0,[]⟩
def flip (l:Bs) (k:Nat):Bs:=l.set k (l.getD k 0 ^^^ 1)
def Dk.turns (D:Dk) (n k:Int):Bool:=decide (0≤n)&& decide (n < 10)&& decide (0≤k)&& decide (k <((D.now.getD n.toNat none).getD []).length)
def Dk.RD (D:Dk) (n k:Nat):Dk:= {D with now:=D.now.set n (some (flip ((D.now.getD n none).getD []) k)),bJ:=D.bJ.set n (some (flip ((D.now.getD n none).getD []) k))}
structure Dk.OK (D:Dk):Prop where
 now:D.now.length=10
 bJ:D.bJ.length=10
 at_:D.at_ < 10
 ns:∀n,((D.now.getD n none).getD []).length≤8192
 ls:∀n,((D.bJ.getD n none).getD []).length≤8192
 last:D.last.length≤8192
theorem zf (n k:Nat):(List.replicate n (none:Option Bs)).getD k none=none:=by
 rw[ade,aer];split <;> rfl
theorem Dk.xA :Dk.new.OK:=⟨by simp[Dk.new],by simp[Dk.new],by simp[Dk.new],fun n=> by simp only[Dk.new,zf];simp,fun n=> by simp only[Dk.new,zf];simp,by simp[Dk.new]⟩
theorem tI {α:Type} (l:List α) (i j:Nat) (x d:α):(l.set i x).getD j d=if i=j∧i < l.length then x else l.getD j d:=by
 simp only[ade,acK]
 by_cases h:i=j
 ·subst h
  by_cases h2:i < l.length <;> simp[h2]
 ·simp[h]
theorem kQ {l:List (Option Bs)} (h:∀n,((l.getD n none).getD []).length≤8192) (i:Nat) {x:Bs} (hx:x.length≤8192):∀n,(((l.set i (some x)).getD n none).getD []).length≤8192:=by
 intro n
 rw[tI]
 split
 ·exact hx
 ·exact h n
theorem Dk.Jo {D:Dk} (h:D.OK) {n:Nat} {l:Bs} (hn:n < 10) (hl:l.length≤8192):(D.put n l).OK:=
 ⟨by simp[Dk.put,h.now],h.bJ,hn,kQ h.ns n hl,h.ls,hl⟩
theorem Dk.xB {D:Dk} (h:D.OK):D.sync.OK:=⟨h.now,h.now,h.at_,h.ns,h.ns,h.last⟩
theorem Dk.sq {D:Dk} (h:D.OK) (t:Int):(D.gL t).length=10∧∀n,(((D.gL t).getD n none).getD []).length≤8192:=by
 unfold Dk.gL
 split
 ·exact ⟨by simp[h.bJ],kQ h.ls _ (by have:=h.last;simp;omega)⟩
 ·exact ⟨h.bJ,h.ls⟩
theorem Dk.Jp {D:Dk} (h:D.OK) (t:Int):(D.iX t).OK:=⟨(D.sq h t).1,(D.sq h t).1,h.at_,(D.sq h t).2,(D.sq h t).2,h.last⟩
theorem Dk.pC {D:Dk} (h:D.OK) (n k:Nat):(D.RD n k).OK:=
 ⟨by simp[Dk.RD,h.now],by simp[Dk.RD,h.bJ],h.at_,kQ h.ns n (by simp[flip];exact h.ns n),kQ h.ls n (by simp[flip];exact h.ns n),h.last⟩
end Go.Cl
namespace Go.Proofs.YtggjbepemdhohaaGreat.Dsk
open Go Go.Vm Go.Proofs Go.Cl Go.Proofs.YtggjbepemdhohaaGreat
noncomputable abbrev R (b:Nat):CF:=run fns pr b
theorem EL (b:Nat) (vs:List V) (h:Hp):R b 89 vs h=dF vs h:=gR b h vs
theorem MK {b:Nat} {h:Hp} {x:V} {l:Bs} (hb:BR h x l) (hl:l.length≤140737488355328):run fns pr b 89 [x] h=some (cv h l,h++ct l):=by
 rw[gR];exact td hb hl
theorem Jq (b:Nat) (h:Hp) (n:Int):R b 104 [.s (.int .i64 n)] h=some (.s (.bool (decide (0≤n)&& decide (n < 10))),h):=by
 refine Vm.aR (nt:=9) rfl PE (by simp) ?_
 by_cases h0:0≤n
 ·simp only[LP,go_sem,simprocAttr,h0]
 ·simp only[LP,go_sem,simprocAttr,h0]
def SlR (h:Hp) (v:V) (s:Option Bs):Prop:=∃x,v= .st 99 [.s (.bool s.isSome),x]∧BR h x (s.getD [])
def vk (h:Hp) (vs:List V) (ss:List (Option Bs)):Prop:=vs.length=ss.length∧∀(i:Nat) v s,vs[i]? =some v→ss[i]? =some s→SlR h v s
theorem SlR.mono {S:List Nat} {h h':Hp} {v:V} {s:Option Bs} (hs:SlR h v s) (f:Fw S h h'):SlR h' v s:=by
 obtain ⟨x,h1,h2⟩:=hs;exact ⟨x,h1,h2.mono f⟩
theorem vk.mono {S:List Nat} {h h':Hp} {v:List V} {s:List (Option Bs)} (hs:vk h v s) (f:Fw S h h'):vk h' v s:=
 ⟨hs.1,fun i v s h1 h2=>(hs.2 i v s h1 h2).mono f⟩
theorem vk.set {h:Hp} {vs:List V} {ss:List (Option Bs)} {v:V} {s:Option Bs} (hs:vk h vs ss) (hv:SlR h v s) (i:Nat):vk h (vs.set i v) (ss.set i s):=by
 refine ⟨by simp[hs.1],fun j w t h1 h2=> ?_⟩
 rw[acK] at h1 h2
 split at h1
 ·rename_i he;subst he
  rw[if_pos rfl] at h2
  split at h1
  ·cases h1;rw[if_pos (by rw[←hs.1];assumption)] at h2;cases h2;exact hv
  ·cases h1
 ·rename_i he
  rw[if_neg he] at h2
  exact hs.2 j w t h1 h2
theorem vk.get {h:Hp} {vs:List V} {ss:List (Option Bs)} (hs:vk h vs ss) {i:Nat} (hi:i < ss.length):∃x,vs[i]? =some (.st 99 [.s (.bool (ss.getD i none).isSome),x])∧BR h x ((ss.getD i none).getD []):=by
 have h1:vs[i]? =some (vs[i]'(by rw[hs.1];exact hi)):=abV (by rw[hs.1];exact hi)
 have h2:ss[i]? =some ss[i]:=abV hi
 obtain ⟨x,h3,h4⟩:=hs.2 i _ _ h1 h2
 rw[ade,h2]
 exact ⟨x,by rw[h1,h3];rfl,h4⟩
def DR (h:Hp) (id:Nat) (D:Dk):Prop:=∃nv lv x,h[id]? =some (.cells (some 102) [.st 102 [.arr 101 nv,.arr 101 lv,.s (.int .i64 D.ej),.s (.int .i64 D.at_),x]])∧
 vk h nv D.now∧vk h lv D.bJ∧BR h x D.last∧D.OK
theorem DR.mono {S:List Nat} {h h':Hp} {id:Nat} {D:Dk} (hd:DR h id D) (f:Fw S h h') (hi:id∉S):DR h' id D:=by
 obtain ⟨nv,lv,x,h1,h2,h3,h4,h5⟩:=hd
 exact ⟨nv,lv,x,f.cw _ _ h1 hi,h2.mono f,h3.mono f,h4.mono f,h5⟩
theorem DR.lt {h:Hp} {id:Nat} {D:Dk} (hd:DR h id D):id < h.length:=by
 obtain ⟨nv,lv,x,h1,_⟩:=hd;exact q6z h1
theorem DR.ok {h:Hp} {id:Nat} {D:Dk} (hd:DR h id D):D.OK:=by
 obtain ⟨nv,lv,x,_,_,_,_,h⟩:=hd;exact h
def Z60 :V:= .st 99 [.s (.bool false),.aq false none []]
def Z61 :V:= .st 99 [.s (.bool false),.aq true none []]
theorem xA (b:Nat) (h:Hp):∃v h',R b 17 [] h=some (v,h')∧v= .ptr h.length [0] 1∧DR h' h.length Dk.new∧Fw [] h h':=by
 refine Vm.eV (nt:=3) rfl Uf (by simp) ?_
 simp only[B17,go_sem,simprocAttr]
 refine ⟨⟨List.replicate 10 Z61,List.replicate 10 Z61,_,aO _ _,?_,?_,oX _ _,Dk.xA⟩,Fw.app _ _ _⟩
 all_goals
   refine ⟨by simp[Dk.new],fun i v s h1 h2=> ?_⟩
   simp only[Dk.new,aer] at h1 h2
   split at h1
   ·rename_i hi
    rw[if_pos hi] at h2
    cases h1;cases h2
    exact ⟨_,rfl,oX _ _⟩
   ·cases h1
theorem Dh (b:Nat) (h:Hp) (y:V) (l:Bs) (hb:b≤h.length) (hy:BR h y l) (hl:l.length≤140737488355328):∃v h',R b 105 [y] h=some (v,h')∧SlR h' v (some l)∧Fw [] h h'∧
 (l≠[]→∃k,h.length≤k∧v= .st 99 [.s (.bool true),.ref k [] none 0 l.length l.length]∧h'[k]? =some (.cells none (l.map aa))):=by
 refine Vm.eV (nt:=6) rfl PH (by simp) ?_
 obtain ⟨x,t,hc,hx,fY⟩:=Jr (h:=h++[.cells (some 99) [Z60]]) (hy.mono (Fw.app [] _ _)) hl
 have bk:=EL b [y] (h++[.cells (some 99) [Z60]])
 rw[hc] at bk
 unfold Z60 at bk
 simp only[PF,go_sem,simprocAttr,bk,ab5,hx.ty,hx.aw,hb]
 refine ⟨⟨x,rfl,?_⟩,Fw.app _ _ _,fun da=> ?_⟩
 ·rcases fY with ⟨rfl,rfl,rfl⟩ | ⟨rfl,rfl⟩
  ·exact oX _ _
  ·refine ck ?_ rfl
   rw[abZ,aJ];rfl
 ·rcases fY with ⟨rfl,rfl,rfl⟩ | ⟨rfl,rfl⟩
  ·exact absurd rfl da
  ·refine ⟨_,?_,rfl,?_⟩
   ·simp
   ·rw[abZ,aJ];rfl
theorem DR.fw {h:Hp} {id:Nat} {D:Dk} (hd:DR h id D) (es:List V):Fw [id] h (h.set id (.cells (some 102) es)):=by
 obtain ⟨nv,lv,x,hg,_⟩:=hd
 exact Fw.set (by simp) hg
theorem RE (b:Nat) (h:Hp) (id:Nat) (D:Dk) (n:Int) (y:V) (l:Bs) (hb:b≤id) (hd:DR h id D) (hy:BR h y l) (hl:l.length≤140737488355328) (hp:D.ej < 4611686018427387904):
 ∃v h',R b 56 [.ptr id [0] 1,.s (.int .i64 n),y] h=some (v,h')∧v= .s (.bool (Dk.jR n l))∧DR h' id (if Dk.jR n l=true then D.put n.toNat l else D)∧Fw [id] h h':=by
 have hr:=Jq b h n
 have hly:=fun h0=> hy.bH (cf:=run fns pr b) (base:=b) (h:=h0)
 refine Vm.eV (nt:=38) rfl Vx (by simp) ?_
 by_cases ht:Dk.jR n l=true
 ·have ht':=ht
  simp only[Dk.jR,abY,decide_eq_true_eq] at ht'
  obtain ⟨⟨h0,h1⟩,h2⟩:=ht'
  obtain ⟨m,rfl⟩:∃m:Nat,n=m:=⟨n.toNat,by omega⟩
  have hle:¬(8192:Int)< l.length:=by omega
  obtain ⟨v1,k1,e1,ze,f1,_⟩:=Dh b h y l (by have:=hd.lt;omega) hy hl
  have GZ:=hd.mono f1 (by simp)
  have lp:=GZ.fw
  obtain ⟨nv,lv,x,hg,r1,r2,r3,r4⟩:=hd
  have cV:=f1.cw _ _ hg (by simp)
  obtain ⟨x0,hx0,_⟩:=r1.get (i:=m) (by rw[r4.now];omega)
  have nZ:(m:Int)< nv.length:=by rw[r1.1,r4.now];omega
  obtain ⟨xs,rfl,nW⟩:=ze
  have hw:=q18z hp
  have aaE:=q6z cV
  have RG:=r3.ty
  have mH:=fun es=> MK (b:=b) (h:=k1.set id (.cells (some 102) es)) (x:=y) ((hy.mono f1).mono (lp es)) hl
  simp only[B56,go_sem,simprocAttr,hr,hly,h0,h1,hle,e1,hg,AJ,cV,nZ,hx0,hb,hw,aaE,mH,OZ,yY,RG]
  have F:=fun es=> f1.mono (T:=[id]) (by simp) |>.trans ((lp es).trans (Fw.app [id] _ (ct l)))
  have F1:=fun es=>((lp es).trans (Fw.app [id] _ (ct l)))
  refine ⟨by rw[ht],?_,F _⟩
  rw[if_pos ht]
  refine ⟨_,_,_,q10z (q9z cV) _,((r1.mono (F _)).set ⟨xs,rfl,nW.mono (F1 _)⟩ m),r2.mono (F _),?_,Dk.Jo r4 (by omega) h2⟩
  exact RH (by rw[adw,adw]) l
 ·have ht':=ht
  simp only[adN] at ht'
  simp only[ht',aca,if_false]
  by_cases h0:0≤n
  ·by_cases h1:n < 10
   ·have hle:(8192:Int)< l.length:=by simp[Dk.jR,h0,h1] at ht';omega
    simp only[B56,go_sem,simprocAttr,hr,hly,h0,h1,hle]
    exact ⟨hd,Fw.refl _ _⟩
   ·simp only[B56,go_sem,simprocAttr,hr,hly,h0,h1]
    exact ⟨hd,Fw.refl _ _⟩
  ·simp only[B56,go_sem,simprocAttr,hr,hly,h0]
   exact ⟨hd,Fw.refl _ _⟩
theorem sv (b:Nat) (h:Hp) (id:Nat) (D:Dk) (hb:b≤id) (hd:DR h id D):∃v h',R b 57 [.ptr id [0] 1] h=some (v,h')∧v= .bM []∧DR h' id D.sync∧Fw [id] h h':=by
 refine Vm.eV (nt:=12) rfl Vz (by simp) ?_
 have lp:=hd.fw
 obtain ⟨nv,lv,x,hg,r1,r2,r3,r4⟩:=hd
 have cJ:=q6z hg
 simp only[B57,go_sem,simprocAttr,hg,hb,cJ]
 exact ⟨⟨_,_,_,q9z hg,r1.mono (lp _),r1.mono (lp _),r3.mono (lp _),Dk.xB r4⟩,lp _⟩
theorem Js (b:Nat) (h:Hp) (id:Nat) (D:Dk) (t:Int) (hb:b≤id) (hd:DR h id D):∃v h',R b 106 [.ptr id [0] 1,.s (.int .i64 t)] h=some (v,h')∧v= .bM []∧DR h' id (D.iX t)∧Fw [id] h h':=by
 refine Vm.eV (nt:=43) rfl PJ (by simp) ?_
 have lp:=hd.fw
 have hd0:=hd
 obtain ⟨nv,lv,x,hg,r1,r2,r3,r4⟩:=hd
 have cJ:=q6z hg
 have RG:=r3.ty
 let es:List V:=[.st 102 [.arr 101 lv,.arr 101 lv,.s (.int .i64 D.ej),.s (.int .i64 D.at_),x]]
 let h1:=h.set id (.cells (some 102) es)
 have d1:DR h1 id {D with now:=D.bJ}:=⟨_,_,_,q9z hg,r2.mono (lp _),r2.mono (lp _),r3.mono (lp _),⟨r4.bJ,r4.bJ,r4.at_,r4.ls,r4.ls,r4.last⟩⟩
 by_cases hp:0 < D.ej
 ·by_cases ht:0 < t
  ·obtain ⟨m,rfl⟩:∃m:Nat,t=m:=⟨t.toNat,by omega⟩
   have nF:(0:Int)< D.ej:=by omega
   have ML:min (m:Int) (D.last.length:Int)=((min m D.last.length:Nat):Int):=by omega
   have pL:BR h1 x D.last:=r3.mono (lp es)
   have va:=fun h0=> pL.bH (cf:=run fns pr b) (base:=b) (h:=h0)
   obtain ⟨y,hy,hyb⟩:=pL.hi (k:= .i64) (r:=min m D.last.length) (ae5 _ _)
   have mr:=r4.last
   obtain ⟨v2,h2,e2,⟨xs,rfl,nW⟩,f2,_⟩:=Dh b h1 y _ (by have:=hd0.lt;simp[h1];omega) hyb (by simp;omega)
   have d2:=d1.mono f2 (by simp)
   have X2:=d2.fw
   have oO:=f2.cw _ _ (q9z hg) (by simp)
   have aaF:=q6z oO
   have hat:=r4.at_
   obtain ⟨x0,hx0,_⟩:=r2.get (i:=D.at_) (by rw[r4.bJ];omega)
   have nZ:(D.at_:Int)< lv.length:=by rw[r2.1,r4.bJ];omega
   have yq:(0:Int)≤D.at_:=by omega
   simp only[h1,es] at hy e2 oO
   simp only[HQ,go_sem,simprocAttr,hg,hb,cJ,nF,ht,RG,va,ML,hy,e2,AJ,oO,hx0,nZ,aaF,yq]
   have G:=fun es'=>((lp es).trans (f2.mono (T:=[id]) (by simp))).trans (X2 es')
   have d3:=(⟨_,_,_,q9z oO,((r2.mono (G _)).set ⟨xs,rfl,nW.mono (X2 _)⟩ D.at_),r2.mono (G _),r3.mono (G _),
     ⟨by simp[r4.bJ],r4.bJ,r4.at_,kQ r4.ls _ (by simp;omega),r4.ls,r4.last⟩⟩:DR (h2.set id (.cells (some 102) [.st 102 [.arr 101 (lv.set D.at_ (.st 99 [.s (.bool true),xs])),.arr 101 lv,.s (.int .i64 D.ej),.s (.int .i64 D.at_),x]])) id ⟨D.bJ.set D.at_ (some (D.last.take (min m D.last.length))),D.bJ,D.ej,D.at_,D.last⟩)
   obtain ⟨v4,h4,e4,rfl,d4,f4⟩:=sv b _ id _ hb d3
   simp only[go_sem,simprocAttr,e4]
   refine ⟨?_,(G _).trans f4⟩
   have:D.iX m=Dk.sync ⟨D.bJ.set D.at_ (some (D.last.take (min m D.last.length))),D.bJ,D.ej,D.at_,D.last⟩:=by
     have:D.last.take (min m D.last.length)=D.last.take m:=by rw[←List.take_eq_take_min]
     simp only[Dk.iX,Dk.gL,Dk.sync,hp,ht,and_self,if_true,acu,this]
   rw[this];exact d4
  ·obtain ⟨v2,h2,e2,rfl,d2,f2⟩:=sv b h1 id _ hb d1
   have nF:(0:Int)< D.ej:=by omega
   simp only[h1,es] at e2
   simp only[HQ,go_sem,simprocAttr,hg,hb,cJ,nF,ht,e2]
   refine ⟨?_,(lp es).trans f2⟩
   have:D.iX t=Dk.sync {D with now:=D.bJ}:=by simp[Dk.iX,Dk.gL,Dk.sync,ht]
   rw[this];exact d2
 ·obtain ⟨v2,h2,e2,rfl,d2,f2⟩:=sv b h1 id _ hb d1
  have nF:¬(0:Int)< D.ej:=by omega
  simp only[h1,es] at e2
  simp only[HQ,go_sem,simprocAttr,hg,hb,cJ,nF,e2]
  refine ⟨?_,(lp es).trans f2⟩
  have:D.iX t=Dk.sync {D with now:=D.bJ}:=by simp[Dk.iX,Dk.gL,Dk.sync,hp]
  rw[this];exact d2
end Go.Proofs.YtggjbepemdhohaaGreat.Dsk
namespace Go.Proofs.YtggjbepemdhohaaGreat
open Go Go.Vm Go.Proofs Go.Cl
set_option maxRecDepth 100000
def mW (q:pJ):Bs:=[bt q.role]++aF q.aH.toNat++[bt q.to,bt q.vs.length]++q.vs.flatMap bh
def gh (s:bD) (n:Nat):Bs:=(List.range n).flatMap fun i=> mW (s.p i)
def kR (s:bD):Bs:=[bt s.mem,bt s.bF]++gh s 16
theorem rm (s:bD) (n:Nat):gh s (n+1)=gh s n++mW (s.p n):=by simp[gh,adM]
theorem q31z {v:ae} (hw:v.wf) (hr:aQ v=true):(bh v).length≤112:=by
 have h1:=q14z hr
 obtain ⟨w1,w2,w3,w4,w5,w6,w7,w8,w9⟩:=hw
 simp[bh];omega
theorem q30z {l:List ae} (h:∀v∈l,aQ v=true∧v.wf):(l.flatMap bh).length≤112 * l.length:=by
 induction l with
 | nil=> simp
 | cons v l ih=>
   have h1:=ih fun w hw=> h w (by simp[hw])
   have h2:=q31z (h v (by simp)).2 (h v (by simp)).1
   simp only[aec,abZ,acj];omega
theorem EM {s:bD} {i:Nat} {q:pJ} (h:POk s i q):(mW q).length≤459:=by
 have:=q30z (l:=q.vs) fun v hv=>⟨(h.vs v hv).1,(h.vs v hv).2.1⟩
 have:=h.len
 simp only[mW,abZ,acj,acz,aG];omega
theorem q32z {s:bD} (hk:mS s):∀n,n≤16→(gh s n).length≤459 * n
 | 0,_=> by simp[gh]
 | n+1,hn=> by
   have h1:=q32z hk n (by omega)
   have h2:=EM (hk.p n (by omega))
   rw[rm,abZ];omega
theorem Jt (b:Nat) (h:Hp) (m:Nat) (s:bD) (F:List Nat) (hs:ji h m s F) (hk:mS s):run fns pr b 64 [.ptr m [0] 1] h=some (.aq false none ((kR s).map aa),h):=by
 refine Vm.aR (nt:=72) rfl VM (by simp) ?_
 have aaG:=fun b=> Bp b h m s F hs
 have N0:iV h (h++[.cells none [aa (bt s.mem),aa (bt s.bF)]]) (.ref h.length [] none 0 2 2) ([bt s.mem,bt s.bF]++gh s 0):=⟨h.length,.inr ⟨rfl,aO _ _⟩,ab0 _,Fw.app _ _ _⟩
 simp only[B64,OI,OH,OG,aaG,j4,go_sem,simprocAttr]
 refine bw (fun q e H=>∃(i:Nat) (v:V),q=16 - i∧i≤16∧e 27= .s (.int .i64 (i:Nat))∧e 0= .ptr m [0] 1∧e 5=v∧iV h H v ([bt s.mem,bt s.bF]++gh s i))
   (fun e H=>∃v,e 5=v∧iV h H v ([bt s.mem,bt s.bF]++gh s 16)) 16 _ _ ⟨0,_,rfl,by omega,rfl,rfl,rfl,N0⟩ ?_ ?_
 ·rintro q e H ⟨i,v,rfl,hi,e27,e0,e5,N⟩
  by_cases cd:i < 16
  ·have cj:(i:Int)< 16:=by omega
   have w3:IntKind.i64.wrap ((i:Int)+1)=((i+1:Nat):Int):=q18z (by omega)
   have ok:=hk.p i cd
   have qd:=q32z hk i (by omega)
   have yv:=q30z (l:=(s.p i).vs) fun v hv=>⟨(ok.vs v hv).1,(ok.vs v hv).2.1⟩
   have ho4:=ok.len
   have hsH:ji H m s F:=hs.mono N.fw (by simp)
   have r1:=fun b=> Df b H m i s F hsH cd
   have r2:=fun b=> tw b H m i s F hsH hk cd
   obtain ⟨ep,hep⟩:∃n:Nat,(s.p i).aH=n:=⟨(s.p i).aH.toNat,by have:=ok.e1;omega⟩
   have aaH:ep < 18446744073709551616:=by have:=ok.e2;omega
   have hle:=N.fw.len
   obtain ⟨v1,H1,a1,N1⟩:=(N.mono (Fw.app [] H [.cells none [aa (bt (s.p i).role)]])).app (y:= .ref H.length [] none 0 1 1) (m:=[bt (s.p i).role]) (BR.src (ck (by simp) rfl)) (by simp;omega)
   have va:h.length≤H1.length:=N1.fw.len
   have n1:=de h.length H1 ep aaH va
   obtain ⟨v2,H2,a2,N2⟩:=(N1.mono (Fw.app [] H1 [.cells none ((aF ep).map aa)])).app (y:= .ref H1.length [] none 0 8 8) (m:=aF ep) (BR.src (ck (by simp) (aG _))) (by simp;omega)
   obtain ⟨v3,H3,a3,N3⟩:=(N2.mono (Fw.app [] H2 [.cells none [aa (bt (s.p i).to),aa (bt (s.p i).vs.length)]])).app (y:= .ref H2.length [] none 0 2 2) (m:=[bt (s.p i).to,bt (s.p i).vs.length]) (BR.src (ck (by simp) rfl)) (by simp;omega)
   have kK:∀cf base H,aD cf base H .len [.aq false (some 37) ((s.p i).vs.map ae.enc)]=some (.s (.int .i64 ((s.p i).vs.length:Nat)),H):=fun cf base H=> by rw[qt];simp
   rw[hep] at r1
   simp only[e27,e0,e5,cj,r1,r2,j4,a1,n1,a2,a3,kK,go_sem,simprocAttr]
   generalize yO:[bt s.mem,bt s.bF]++gh s i++[bt (s.p i).role]++aF ep++[bt (s.p i).to,bt (s.p i).vs.length]=base0 at N3
   have hb0l:base0.length≤8000:=by rw[←yO];simp;omega
   have aaI:base0++(s.p i).vs.flatMap bh=[bt s.mem,bt s.bF]++gh s (i+1):=by
     rw[←yO,rm,mW,hep]
     simp
   have qb:=ok.vs
   generalize (s.p i).vs=aj at *
   refine bw (fun q e H=>∃(j:Nat) (v:V),q=aj.length - j∧j≤aj.length∧e 57= .s (.int .i64 (j:Nat))∧e 56= .s (.int .i64 (aj.length:Nat))∧e 55= .aq false (some 37) (aj.map ae.enc)∧e 27= .s (.int .i64 (i:Nat))∧e 0= .ptr m [0] 1∧e 5=v∧iV h H v (base0++(aj.take j).flatMap bh))
     (fun e H=>∃v,e 27= .s (.int .i64 (i:Nat))∧e 0= .ptr m [0] 1∧e 5=v∧iV h H v (base0++aj.flatMap bh)) aj.length _ _ ⟨0,v3,rfl,by omega,rfl,rfl,rfl,e27,e0,rfl,by simpa using N3⟩ ?_ ?_
   ·rintro q e H ⟨j,v,rfl,hj,e57,e56,e55,e27,e0,e5,N⟩
    by_cases cv:j < aj.length
    ·have cj:(j:Int)<((aj.length:Nat):Int):=by omega
     have hjv:aj[j]? =some aj[j]:=abV cv
     have jK:SR H (.aq false (some 37) (aj.map ae.enc)) (some 37) (aj.map ae.enc):= .inl ⟨false,rfl⟩
     have i1:=fun cf base=> jK.cZ (cf:=cf) (base:=base) (k:= .i64) (i:=j) (by simpa using cv)
     have i2:=fun cf base=> jK.iA (cf:=cf) (base:=base) (i:=j) (v:=aj[j].enc) (by rw[ab9,hjv];rfl) rfl
     have hle:=N.fw.len
     obtain ⟨m1,m2,_⟩:=qb _ (adj cv)
     have au:=q31z m2 m1
     have hp:=fun h0=> IP h.length h0 false aj[j] m2
     rw[←ae.kL,m1,if_pos rfl] at hp
     have hfj:=q30z (l:=aj.take j) fun v hv=>⟨(qb v (acd hv)).1,(qb v (acd hv)).2.1⟩
     obtain ⟨v5,H5,a5,N5⟩:=(N.mono (Fw.app [] H [.cells (some 37) [aj[j].enc]])).app (y:= .aq false none ((bh aj[j]).map aa)) (m:=bh aj[j]) rfl (by rw[acg] at hfj;simp only[abZ];omega)
     have re:base0++(aj.take j).flatMap bh++bh aj[j]=base0++(aj.take (j+1)).flatMap bh:=by
       rw[acv cv,adV];simp
     rw[re] at N5
     have w3:IntKind.i64.wrap ((j:Int)+1)=((j+1:Nat):Int):=q17z (by omega)
     simp only[e57,e56,e55,e27,e0,e5,cj,i1,i2,hle,bq,bu,hp,a5,w3,go_sem,simprocAttr]
     exact ⟨aj.length - (j+1),by omega,j+1,v5,rfl,by omega,rfl,rfl,N5⟩
    ·have cj:¬(j:Int)<((aj.length:Nat):Int):=by omega
     obtain rfl:j=aj.length:=by omega
     rw[abX (ab0 _)] at N
     simp only[e57,e56,e55,e27,e0,e5,cj,go_sem,simprocAttr]
     exact ⟨v,rfl,N⟩
   ·rintro e H ⟨v,e27,e0,e5,N⟩
    rw[aaI] at N
    simp only[e27,e0,e5,w3,go_sem,simprocAttr]
    exact ⟨16 - (i+1),by omega,i+1,v,rfl,by omega,rfl,rfl,N⟩
  ·have cj:¬(i:Int)< 16:=by omega
   obtain rfl:i=16:=by omega
   simp only[e27,e0,e5,cj,go_sem,simprocAttr]
   exact ⟨v,rfl,N⟩
 ·rintro e H ⟨v,e5,N⟩
  have df:=N.pe (n:=h.length) (by simp)
  have dU:=N.fw.take
  simp only[e5,df,dU,kR,go_sem,simprocAttr]
structure aY where
 mem:Int
 bF:Int
 key:Bs
 is:Int
 st:bD
 dk:Dk
 r:ag
 steps:Int
 cU:Int
 gL:Int
def aY.down (D:aY) (t:Int):aY:= {D with is:=2,cU:= -1,dk:=D.dk.iX t}
def aY.step (D:aY):Bool×aY:=if D.cU=0 then (false,D.down D.gL) else (true, {D with cU:=if 0 < D.cU then D.cU - 1 else D.cU,steps:=D.steps+1})
def aY.put (D:aY) (n:Int) (l:Bs):aY:= {D with dk:=if Dk.jR n l=true then D.dk.put n.toNat l else D.dk}
def aY.lay (D:aY) (n:Int) (l:Bs):Bool×aY:=
 if D.step.1=false then (false,D.step.2) else if (D.step.2.put n l).step.1=false then (false,(D.step.2.put n l).step.2)
 else (true, {(D.step.2.put n l).step.2 with dk:=(D.step.2.put n l).step.2.dk.sync})
def iT (D:aY) (sp:V) (did:Nat):List V:=[.st 65 [.s (.int .i64 D.mem),.s (.int .i64 D.bF),.arr 22 (D.key.map aa),.s (.int .i64 D.is),sp,.ptr did [0] 1,D.r.enc,.s (.int .i64 D.steps),.s (.int .i64 D.cU),.s (.int .i64 D.gL)]]
structure vQ (h:Hp) (id:Nat) (D:aY) (F:List Nat) (did:Nat) (sp:V) (sid:Nat) (Fs:List Nat):Prop where
 o:h[id]? =some (.cells (some 65) (iT D sp did))
 d:Dsk.DR h did D.dk
 s:D.is=1→sp= .ptr sid [0] 1∧ji h sid D.st Fs
 ty:sp.ty=none
 so:sp.aw=true
 f:F=id::did::Fs
 n1:id≠did
 n2:id∉Fs
 n3:did∉Fs
 fl:∀j∈F,j < h.length
 kl:D.key.length=16
def my (h:Hp) (id:Nat) (D:aY) (F:List Nat):Prop:=∃did sp sid Fs,vQ h id D F did sp sid Fs
theorem vQ.mono {S F Fs:List Nat} {h h':Hp} {id did sid:Nat} {D:aY} {sp:V} (hd:vQ h id D F did sp sid Fs) (f:Fw S h h') (hS:∀j∈F,j∉S):vQ h' id D F did sp sid Fs:=by
 obtain ⟨o,d,s,ty,so,rfl,n1,n2,n3,fl,kl⟩:=hd
 exact ⟨f.cw _ _ o (hS _ (by simp)),d.mono f (hS _ (by simp)),fun hi=>⟨(s hi).1,(s hi).2.mono f fun j hj=> hS _ (by simp[hj])⟩,ty,so,rfl,n1,n2,n3,fun j hj=> f.lt (fl j hj),kl⟩
theorem my.mono {S F:List Nat} {h h':Hp} {id:Nat} {D:aY} (hd:my h id D F) (f:Fw S h h') (hS:∀j∈F,j∉S):my h' id D F:=by
 obtain ⟨did,sp,sid,Fs,hd⟩:=hd
 exact ⟨did,sp,sid,Fs,hd.mono f hS⟩
theorem my.lt {F:List Nat} {h:Hp} {id:Nat} {D:aY} (hd:my h id D F):∀j∈F,j < h.length:=by
 obtain ⟨did,sp,sid,Fs,hd⟩:=hd
 exact hd.fl
theorem my.mem {F:List Nat} {h:Hp} {id:Nat} {D:aY} (hd:my h id D F):id∈F:=by
 obtain ⟨did,sp,sid,Fs,hd⟩:=hd
 rw[hd.f];simp
theorem my.app {F:List Nat} {h:Hp} {id:Nat} {D:aY} (hd:my h id D F) (X:Hp):my (h++X) id D F:=hd.mono (Fw.app [] h X) (by simp)
theorem vQ.MM {F Fs:List Nat} {h:Hp} {id did sid:Nat} {D D':aY} {sp:V} (hd:vQ h id D F did sp sid Fs) (h1:D'.dk=D.dk) (h2:D'.is=1→D.is=1∧D'.st=D.st) (h3:D'.key.length=16):
 vQ (h.set id (.cells (some 65) (iT D' sp did))) id D' F did sp sid Fs∧Fw F h (h.set id (.cells (some 65) (iT D' sp did))):=by
 have f:Fw [id] h (h.set id (.cells (some 65) (iT D' sp did))):=Fw.set (by simp) hd.o
 obtain ⟨o,d,s,ty,so,rfl,n1,n2,n3,fl,kl⟩:=hd
 refine ⟨⟨q9z o,by rw[h1];exact d.mono f (by simp[adG n1]),fun hi=> ?_,ty,so,rfl,n1,n2,n3,fun j hj=> f.lt (fl j hj),h3⟩,f.mono (by simp)⟩
 obtain ⟨a,b⟩:=h2 hi
 obtain ⟨c,e⟩:=s a
 exact ⟨c,by rw[b];exact e.mono f (fun j hj=> by simp;rintro rfl;exact n2 hj)⟩
theorem vQ.RI {F Fs:List Nat} {h h':Hp} {id did sid:Nat} {D:aY} {sp:V} {K:Dk} (hd:vQ h id D F did sp sid Fs) (hk:Dsk.DR h' did K) (f:Fw [did] h h'):
 vQ h' id {D with dk:=K} F did sp sid Fs∧Fw F h h':=by
 obtain ⟨o,d,s,ty,so,rfl,n1,n2,n3,fl,kl⟩:=hd
 exact ⟨⟨f.cw _ _ o (by simp[n1]),hk,fun hi=>⟨(s hi).1,(s hi).2.mono f (fun j hj=> by simp;rintro rfl;exact n3 hj)⟩,ty,so,rfl,n1,n2,n3,fun j hj=> f.lt (fl j hj),kl⟩,f.mono (by simp)⟩
theorem MN (b:Nat) (h:Hp) (id:Nat) (D:aY) (F:List Nat) (t:Int) (hF:∀j∈F,b≤j) (hd:my h id D F):
 ∃v h',run fns pr b 58 [.ptr id [0] 1,.s (.int .i64 t)] h=some (v,h')∧v= .bM []∧my h' id (D.down t) F∧Fw F h h':=by
 obtain ⟨did,sp,sid,Fs,hd⟩:=hd
 refine Vm.eV (nt:=16) rfl VB (by simp) ?_
 obtain ⟨h1,f1⟩:=hd.MM (D':= {D with is:=2,cU:= -1}) rfl (fun h=> by cases h) hd.kl
 have pL:b≤id:=hF _ (by rw[hd.f];simp)
 have vl:b≤did:=hF _ (by rw[hd.f];simp)
 obtain ⟨v2,H2,hc,rfl,d2,f2⟩:=Dsk.Js b _ did D.dk t vl h1.d
 obtain ⟨h3,f3⟩:=h1.RI d2 f2
 have hg:=hd.o
 have jL:∀B,(h.set id B)[id]? =some B:=fun B=> q9z hg
 have cJ:=q6z hg
 have dQ:=hd.ty
 have nA:=hd.so
 simp only[iT,Dsk.R] at hg hc
 simp only[B58,hg,jL,pL,cJ,ac4,dQ,nA,hc,go_sem,simprocAttr]
 exact ⟨⟨did,sp,sid,Fs,h3⟩,f1.trans f3⟩
theorem sw (b:Nat) (h:Hp) (id:Nat) (D:aY) (F:List Nat) (hF:∀j∈F,b≤j) (hd:my h id D F) (hs:0≤D.steps∧D.steps < 4611686018427387904) (hfu:D.cU≤9223372036854775807):
 ∃v h',run fns pr b 26 [.ptr id [0] 1] h=some (v,h')∧v= .s (.bool D.step.1)∧my h' id D.step.2 F∧Fw F h h':=by
 have hdn:=MN b h id D F D.gL hF hd
 obtain ⟨did,sp,sid,Fs,hd⟩:=hd
 refine Vm.eV (nt:=33) rfl Ux (by simp) ?_
 have hg:=hd.o
 have jL:∀B,(h.set id B)[id]? =some B:=fun B=> q9z hg
 have cJ:=q6z hg
 have dQ:=hd.ty
 have nA:=hd.so
 have pL:b≤id:=hF _ (by rw[hd.f];simp)
 have w1:IntKind.i64.wrap (D.steps+1)=D.steps+1:=wrap_i64 (by omega) (by omega)
 simp only[iT] at hg
 unfold aY.step
 by_cases c0:D.cU=0
 ·rw[if_pos c0]
  obtain ⟨v2,H2,e2,rfl,d2,f2⟩:=hdn
  simp only[B26,hg,jL,pL,cJ,ac4,dQ,nA,c0,e2,go_sem,simprocAttr]
  exact ⟨d2,f2⟩
 ·rw[if_neg c0]
  obtain ⟨h1,f1⟩:=hd.MM (D':= {D with cU:=if 0 < D.cU then D.cU - 1 else D.cU,steps:=D.steps+1}) rfl (fun h=>⟨h,rfl⟩) hd.kl
  by_cases c1:0 < D.cU
  ·have w2:IntKind.i64.wrap (D.cU - 1)=D.cU - 1:=wrap_i64 (by omega) (by omega)
   simp only[c1,if_true,iT] at h1 f1 ⊢
   simp only[B26,hg,jL,pL,cJ,ac4,dQ,nA,c0,c1,w1,w2,go_sem,simprocAttr]
   exact ⟨⟨did,sp,sid,Fs,h1⟩,f1⟩
  ·simp only[c1,if_false,iT] at h1 f1 ⊢
   simp only[B26,hg,jL,pL,cJ,ac4,dQ,nA,c0,c1,w1,go_sem,simprocAttr]
   exact ⟨⟨did,sp,sid,Fs,h1⟩,f1⟩
theorem O2 (b:Nat) (h:Hp) (id:Nat) (D:aY) (F:List Nat) (hd:my h id D F):run fns pr b 33 [.ptr id [0] 1] h=some (.s (.int .i64 D.is),h):=by
 obtain ⟨did,sp,sid,Fs,hd⟩:=hd
 have hg:=hd.o
 simp only[iT] at hg
 refine Vm.aR (nt:=7) rfl UL (by simp) ?_
 simp only[B33,hg,go_sem,simprocAttr]
theorem rn (b:Nat) (h:Hp) (id:Nat) (D:aY) (F:List Nat) (hd:my h id D F):run fns pr b 38 [.ptr id [0] 1] h=some (D.r.enc,h):=by
 obtain ⟨did,sp,sid,Fs,hd⟩:=hd
 have hg:=fun X=> q10z hd.o X
 simp only[iT] at hg
 refine Vm.aR (nt:=7) rfl UW (by simp) ?_
 simp only[B38,hg,ag.eh,ag.ei,ag.tF,ab2,go_sem,simprocAttr]
def j8 (D:aY):Int:=if D.is=2 then 29 else if D.is=3 then 28 else 0
theorem Ju (b:Nat) (h:Hp) (id:Nat) (D:aY) (F:List Nat) (hd:my h id D F):run fns pr b 19 [.ptr id [0] 1] h=some (.s (.int .i64 (j8 D)),h):=by
 obtain ⟨did,sp,sid,Fs,hd⟩:=hd
 have hg:=hd.o
 simp only[iT] at hg
 refine Vm.aR (nt:=11) rfl Uj (by simp) ?_
 unfold j8
 by_cases c2:D.is=2
 ·simp only[B19,hg,c2,go_sem,simprocAttr]
  all_goals rfl
 ·by_cases c3:D.is=3
  ·simp only[B19,hg,c2,c3,go_sem,simprocAttr]
   all_goals rfl
  ·simp only[B19,hg,c2,c3,go_sem,simprocAttr]
   all_goals rfl
def aY.Di (D:aY) (n t:Int):aY:= {D with cU:=max n (-1),gL:=t}
def aY.stop (D:aY):aY:=if D.is=1 then D.down 0 else D
structure oY (p:Nat) (N:Int) (D:aY):Prop where
 ej:D.dk.ej≤p
 s0:0≤D.steps
 s1:D.steps≤N
 f1:D.cU≤9223372036854775807
 gr:bx D.r=true
 gw:D.r.wf
 so:D.is=1→mS D.st
 is:D.is=1∨D.is=2∨D.is=3
theorem oY.wk {p p':Nat} {N N':Int} {D:aY} (hk:oY p N D) (h1:p≤p') (h2:N≤N'):oY p' N' D:=
 ⟨acE hk.ej h1,hk.s0,Int.le_trans hk.s1 h2,hk.f1,hk.gr,hk.gw,hk.so,hk.is⟩
theorem oY.down {p:Nat} {N:Int} {D:aY} (hk:oY p N D) (t:Int):oY 0 N (D.down t):=
 ⟨ab0 _,hk.s0,hk.s1,by simp[aY.down],hk.gr,hk.gw,fun h=> by simp[aY.down] at h,.inr (.inl rfl)⟩
theorem oY.step {p:Nat} {N:Int} {D:aY} (hk:oY p N D):oY p (N+1) D.step.2:=by
 unfold aY.step
 by_cases c:D.cU=0
 ·rw[if_pos c]
  exact (hk.down D.gL).wk (by omega) (by omega)
 ·rw[if_neg c]
  obtain ⟨h1,h2,h3,h4,h5,h6,h7,h8⟩:=hk
  exact ⟨h1,by simp only;omega,by simp only;omega,by simp only;split <;> omega,h5,h6,h7,h8⟩
theorem oY.put {p:Nat} {N:Int} {D:aY} (hk:oY p N D) (n:Int) (l:Bs):oY (p+1) N (D.put n l):=by
 obtain ⟨h1,h2,h3,h4,h5,h6,h7,h8⟩:=hk
 refine ⟨?_,h2,h3,h4,h5,h6,h7,h8⟩
 unfold aY.put
 simp only
 split
 ·simp only[Dk.put];omega
 ·omega
theorem oY.sync {p:Nat} {N:Int} {D:aY} (hk:oY p N D):oY 0 N {D with dk:=D.dk.sync}:=by
 obtain ⟨h1,h2,h3,h4,h5,h6,h7,h8⟩:=hk
 exact ⟨ab0 _,h2,h3,h4,h5,h6,h7,h8⟩
theorem oY.X3 {p:Nat} {N:Int} {D:aY} (hk:oY p N D) (hf:D.step.1=false):oY 0 N D.step.2:=by
 unfold aY.step at hf ⊢
 by_cases c:D.cU=0
 ·rw[if_pos c]
  exact hk.down D.gL
 ·rw[if_neg c] at hf;cases hf
theorem oY.lay {N:Int} {D:aY} (hk:oY 0 N D) (n:Int) (l:Bs):oY 0 (N+2) (D.lay n l).2:=by
 unfold aY.lay
 have k1:=hk.step
 cases c1:D.step.1 with
 | false=>
   rw[if_pos rfl]
   exact k1.wk (by omega) (by omega)
 | true=>
   rw[if_neg (by simp)]
   have k2:=k1.put n l
   have k3:=k2.step
   cases c3:(D.step.2.put n l).step.1 with
   | false=>
     rw[if_pos rfl]
     exact (k2.X3 c3).wk (by omega) (by omega)
   | true=>
     rw[if_neg (by simp)]
     have:=k3.sync
     rwa [show N+1+1=N+2 by omega] at this
def aY.same (D E:aY):Prop:=E.mem=D.mem∧E.bF=D.bF∧E.key=D.key∧E.st=D.st∧E.r=D.r
theorem aY.jj (D:aY):D.same D.step.2∧(D.step.1=true→D.step.2.is=D.is):=by
 unfold aY.step aY.same
 by_cases c:D.cU=0
 ·simp[c,aY.down]
 ·simp[c]
theorem aY.pO (D:aY) (n:Int) (l:Bs):D.same (D.lay n l).2∧((D.lay n l).1=true→(D.lay n l).2.is=D.is):=by
 unfold aY.lay
 obtain ⟨⟨a1,a2,a3,a4,a5⟩,a6⟩:=aY.jj D
 cases c1:D.step.1 with
 | false=>
   rw[if_pos rfl]
   exact ⟨⟨a1,a2,a3,a4,a5⟩,fun h=> by cases h⟩
 | true=>
   rw[if_neg (by simp)]
   obtain ⟨⟨b1,b2,b3,b4,b5⟩,b6⟩:=aY.jj (D.step.2.put n l)
   have hs:D.same (D.step.2.put n l).step.2:=⟨b1.trans a1,b2.trans a2,b3.trans a3,b4.trans a4,b5.trans a5⟩
   cases c3:(D.step.2.put n l).step.1 with
   | false=>
     rw[if_pos rfl]
     exact ⟨hs,fun h=> by cases h⟩
   | true=>
     rw[if_neg (by simp)]
     exact ⟨hs,fun _=>(b6 c3).trans (a6 c1)⟩
theorem MO (b:Nat) (h:Hp) (id:Nat) (D:aY) (F:List Nat) (did:Nat) (sp:V) (sid:Nat) (Fs:List Nat) (n:Int) (y:V) (l:Bs) (hF:∀j∈F,b≤j) (hd:vQ h id D F did sp sid Fs) (hy:BR h y l) (hl:l.length≤140737488355328) (hp:D.dk.ej < 4611686018427387904):
 ∃h',run fns pr b 56 [.ptr did [0] 1,.s (.int .i64 n),y] h=some (.s (.bool (Dk.jR n l)),h')∧vQ h' id (D.put n l) F did sp sid Fs∧Fw F h h':=by
 have vl:b≤did:=hF _ (by rw[hd.f];simp)
 obtain ⟨v,h',e,rfl,d,f⟩:=Dsk.RE b h did D.dk n y l vl hd.d hy hl hp
 obtain ⟨h3,f3⟩:=hd.RI d f
 exact ⟨h',e,h3,f3⟩
theorem Jv (b:Nat) (h:Hp) (id:Nat) (D:aY) (F:List Nat) (did:Nat) (sp:V) (sid:Nat) (Fs:List Nat) (hF:∀j∈F,b≤j) (hd:vQ h id D F did sp sid Fs):
 ∃h',run fns pr b 57 [.ptr did [0] 1] h=some (.bM [],h')∧vQ h' id {D with dk:=D.dk.sync} F did sp sid Fs∧Fw F h h':=by
 have vl:b≤did:=hF _ (by rw[hd.f];simp)
 obtain ⟨v,h',e,rfl,d,f⟩:=Dsk.sv b h did D.dk vl hd.d
 obtain ⟨h3,f3⟩:=hd.RI d f
 exact ⟨h',e,h3,f3⟩
theorem Jw (b:Nat) (h:Hp) (id:Nat) (D:aY) (F:List Nat) (n:Int) (y:V) (l:Bs) (hF:∀j∈F,b≤j) (hd:my h id D F) (N:Int) (hN:N < 1000000000) (hk:oY 0 N D) (hy:BR h y l) (hl:l.length≤140737488355328):
 ∃v h',run fns pr b 24 [.ptr id [0] 1,.s (.int .i64 n),y] h=some (v,h')∧v= .s (.bool (D.lay n l).1)∧my h' id (D.lay n l).2 F∧Fw F h h':=by
 refine Vm.eV (nt:=25) rfl Ut (by simp) ?_
 have k1:=hk.step
 obtain ⟨v1,H1,e1,rfl,d1,f1⟩:=sw b h id D F hF hd ⟨hk.s0,by have:=hk.s1;omega⟩ hk.f1
 unfold aY.lay
 cases c1:D.step.1 with
 | false=>
   rw[c1] at e1
   rw[if_pos rfl]
   simp only[B24,e1,go_sem,simprocAttr]
   exact ⟨d1,f1⟩
 | true=>
   rw[c1] at e1
   rw[if_neg (by simp)]
   generalize D.step.2=D1 at *
   obtain ⟨did,sp,sid,Fs,p1⟩:=d1
   have cV:=p1.o
   simp only[iT] at cV
   obtain ⟨H2,e2,p2,f2⟩:=MO b H1 id D1 F did sp sid Fs n y l hF p1 (hy.mono f1) hl (by have:=k1.ej;omega)
   obtain ⟨v3,H3,e3,rfl,d3,f3⟩:=sw b H2 id (D1.put n l) F hF ⟨did,sp,sid,Fs,p2⟩ ⟨k1.s0,by have:=k1.s1;show D1.steps < _;omega⟩ k1.f1
   cases c3:(D1.put n l).step.1 with
   | false=>
     rw[c3] at e3
     rw[if_pos rfl]
     simp only[B24,e1,cV,e2,e3,go_sem,simprocAttr]
     exact ⟨d3,f1.trans (f2.trans f3)⟩
   | true=>
     rw[c3] at e3
     rw[if_neg (by simp)]
     generalize (D1.put n l).step.2=D3 at *
     obtain ⟨did3,sp3,sid3,Fs3,p3⟩:=d3
     have y0:=p3.o
     simp only[iT] at y0
     obtain ⟨H4,e4,p4,f4⟩:=Jv b H3 id D3 F did3 sp3 sid3 Fs3 hF p3
     simp only[B24,e1,cV,e2,e3,y0,e4,go_sem,simprocAttr]
     exact ⟨⟨_,_,_,_,p4⟩,f1.trans (f2.trans (f3.trans f4))⟩
def aY.mB (D:aY):Bs:=(j7 D.key D.r (kR D.st)).1
def aY.fold (D:aY):Bool×aY:=
 if (D.lay (1 - D.r.aN) D.mB).1=false then (false,(D.lay (1 - D.r.aN) D.mB).2)
 else if (D.lay (1 - D.r.aN) D.mB).2.step.1=false then (false,(D.lay (1 - D.r.aN) D.mB).2.step.2)
 else (true, {(D.lay (1 - D.r.aN) D.mB).2.step.2 with r:=(iK (D.lay (1 - D.r.aN) D.mB).2.step.2.r (cP D.mB)).1})
theorem tJ (k:Bs) (r:ag) (l:Bs):(j7 k r l).1.length≤8192:=by
 unfold j7
 split
 ·simp
 ·rw[qp _ _ _ _ (by omega) (by decide)];omega
theorem MP (b:Nat) (h:Hp) (id:Nat) (D:aY) (F:List Nat) (hF:∀j∈F,b≤j) (hd:my h id D F) (N:Int) (hN:N < 1000000000 - 10) (hk:oY 0 N D) (hi:D.is=1):
 ∃v h',run fns pr b 29 [.ptr id [0] 1] h=some (v,h')∧v= .s (.bool D.fold.1)∧my h' id D.fold.2 F∧Fw F h h':=by
 have hd0:=hd
 obtain ⟨did,sp,sid,Fs,hd⟩:=hd
 obtain ⟨vR,aZ⟩:=hd.s hi
 have pw:=fun b=> Jt b h sid D.st Fs aZ (hk.so hi)
 have hjs:=fun b=> Jl b h (.aq false none ((kR D.st).map aa)) D.key (kR D.st) D.r hd.kl hk.gw (cm _ _ _)
 have hpt:D.r.aN=0∨D.r.aN=1:=(q11z hk.gr).2.2.2.2.1
 have mj:=fun b H=> MI b H D.r hpt
 have hil:=tJ D.key D.r (kR D.st)
 obtain ⟨v1,H1,e1,rfl,d1,f1⟩:=Jw b h id D F (1 - D.r.aN) (.aq false none (D.mB.map aa)) D.mB hF hd0 N (by omega) hk (cm _ _ _) (by unfold aY.mB;omega)
 have k1:=hk.lay (1 - D.r.aN) D.mB
 obtain ⟨v2,H2,e2,rfl,d2,f2⟩:=sw b H1 id _ F hF d1 ⟨k1.s0,by have:=k1.s1;omega⟩ k1.f1
 have k2:=k1.step
 have s1:=(aY.pO D (1 - D.r.aN) D.mB).1
 have s2:=(aY.jj (D.lay (1 - D.r.aN) D.mB).2).1
 have hg:=hd.o
 have dt:(D.key.map aa).length=16:=by simp[hd.kl]
 refine Vm.eV (nt:=49) rfl UD (by simp) ?_
 unfold aY.fold
 have him:(j7 D.key D.r (kR D.st)).1=D.mB:=rfl
 rw[him] at hjs
 simp only[iT,vR] at hg
 generalize (D.lay (1 - D.r.aN) D.mB)=L at *
 cases c1:L.1 with
 | false=>
   rw[c1] at e1
   rw[if_pos rfl]
   simp only[B29,hg,pw,hjs,mj,e1,fC,ag.eh,ag.ei,go_sem,simprocAttr]
   exact ⟨d1,f1⟩
 | true=>
   rw[c1] at e1
   rw[if_neg (by simp)]
   cases c2:L.2.step.1 with
   | false=>
     rw[c2] at e2
     rw[if_pos rfl]
     simp only[B29,hg,pw,hjs,mj,e1,fC,ag.eh,ag.ei,e2,go_sem,simprocAttr]
     exact ⟨d2,f1.trans f2⟩
   | true=>
     rw[c2] at e2
     rw[if_neg (by simp)]
     generalize L.2.step.2=D3 at *
     obtain ⟨did3,sp3,sid3,Fs3,p3⟩:=d2
     have y0:=p3.o
     have jL:∀B,(H2.set id B)[id]? =some B:=fun B=> q9z y0
     have cJ:=q6z y0
     have pL:b≤id:=hF _ (by rw[hd.f];simp)
     have dQ:=p3.ty
     have nA:=p3.so
     have hfi:=fun b=> EJ b H2 (.aq false none (D.mB.map aa)) D.mB (cm _ _ _) (by unfold aY.mB;omega)
     have hfo:=fun b=> MH b H2 D3.r (cP D.mB) k2.gw (bG _)
     obtain ⟨h4,f4⟩:=p3.MM (D':= {D3 with r:=(iK D3.r (cP D.mB)).1}) rfl (fun h=>⟨h,rfl⟩) p3.kl
     simp only[iT] at y0 h4 f4
     simp only[B29,hg,pw,hjs,mj,e1,fC,ag.eh,ag.ei,e2,y0,jL,pL,cJ,dQ,nA,hfi,hfo,go_sem,simprocAttr]
     exact ⟨⟨_,_,_,_,h4⟩,f1.trans (f2.trans f4)⟩
def aY.frame (D:aY) (r:aB):Bs:=(lL D.key (D.r.count.toNat+1) D.r.head r).1
def aY.next (D:aY) (r:aB):ag×Bool:=eG D.r (eT D.r.head (D.frame r))
def aY.zg (D:aY) (r:aB):aY:= {(D.lay (bU D.r) (D.frame r)).2.step.2 with r:=(D.next r).1,st:=(bp (D.lay (bU D.r) (D.frame r)).2.step.2.st r).2}
def aY.do (D:aY) (r:aB):Int×aY:=
 if j8 D≠0 then (j8 D,D)
 else if cD D.st r≠0 then (cD D.st r,D)
 else if (D.next r).2=false then (31,D)
 else if (D.lay (bU D.r) (D.frame r)).1=false then (29,(D.lay (bU D.r) (D.frame r)).2)
 else if (D.lay (bU D.r) (D.frame r)).2.step.1=false then (29,(D.lay (bU D.r) (D.frame r)).2.step.2)
 else if bI (D.zg r).r=8 then (if (D.zg r).fold.1=false then 29 else 0,(D.zg r).fold.2)
 else (0,D.zg r)
theorem zh {r:aB} (hr:bj r=true) (hw:r.wf) (hv:∀v∈r.aj,v.wf):(mN r).length≤1000:=by
 have h4:=qy hr
 have qb:r.kind=3→∀v∈r.aj,aQ v=true∧v.wf:=fun k3 v hm=> by
   have:rising r.aj=true:=by
     unfold bj at hr
     rw[k3] at hr
     simp at hr
     exact q28z hr.2
   unfold rising at this
   simp only[abY,decide_eq_true_eq,ach] at this
   exact ⟨this.1.2 v hm,hv v hm⟩
 have C0:r.kind=1→(bh r.ax).length≤112:=fun k1=> q31z hw.ax (by unfold bj at hr;rw[if_pos k1] at hr;simp at hr;simp[hr])
 unfold mN
 split
 ·have:=C0 (by assumption)
  simp only[acj];omega
 ·split
  ·simp only[acj,aG];omega
  ·split
   ·have:=q30z (qb (by assumption))
    simp only[acj,abZ,aG];omega
   ·simp only[acj,aG];omega
theorem vU (D:aY) {r:aB} (hw:r.wf) (hv:∀v∈r.aj,v.wf) (hh:D.r.head.length=16):(D.frame r).length≤8192:=by
 unfold aY.frame lL
 split
 ·have:=zh (by assumption) hw hv
  rw[qp _ _ _ _ (by omega) (by omega)];omega
 ·simp
theorem vQ.tE {F Fs Fs':List Nat} {h h':Hp} {id did sid:Nat} {D:aY} {sp:V} {S:bD} (hd:vQ h id D F did sp sid Fs) (hi:D.is=1) (hs:ji h' sid S Fs') (f:Fw Fs h h') (hn:∀j∈Fs',j∈Fs∨h.length≤j):
 vQ h' id {D with st:=S} (id::did::Fs') did sp sid Fs'∧Fw F h h'∧∀j∈id::did::Fs',j∈F∨h.length≤j:=by
 obtain ⟨o,d,s,ty,so,rfl,n1,n2,n3,fl,kl⟩:=hd
 have l1:=fl id (by simp)
 have l2:=fl did (by simp)
 refine ⟨⟨f.cw _ _ o n2,d.mono f n3,fun _=>⟨(s hi).1,hs⟩,ty,so,rfl,n1,fun hm=> ?_,fun hm=> ?_,fun j hj=> ?_,kl⟩,f.mono (fun j hj=> by simp[hj]),fun j hj=> ?_⟩
 ·rcases hn _ hm with h1 | h1
  ·exact n2 h1
  ·omega
 ·rcases hn _ hm with h1 | h1
  ·exact n3 h1
  ·omega
 ·simp only[acC] at hj
  rcases hj with rfl | rfl | hj
  ·exact f.lt l1
  ·exact f.lt l2
  ·exact hs.lt _ hj
 ·simp only[acC] at hj ⊢
  rcases hj with rfl | rfl | hj
  ·exact .inl (.inl rfl)
  ·exact .inl (.inr (.inl rfl))
  ·rcases hn _ hj with h1 | h1
   ·exact .inl (.inr (.inr h1))
   ·exact .inr h1
theorem q26z {r:ag} {hd:Bs} (hw:r.wf) (hl:hd.length=16) (h:(eG r hd).2=true):(eG r hd).1=⟨r.bZ,r.count+1,r.base,hd,r.aN⟩∧bx r=true∧bx (eG r hd).1=true∧(eG r hd).1.wf:=by
 unfold eG xz at h ⊢
 split at h
 ·rename_i c
  rw[if_pos c]
  have:=q11z c.1
  obtain ⟨w1,w2,w3,w4,w5⟩:=hw
  exact ⟨rfl,c.1,c.2,⟨w1,by simp only;omega,w3,hl,w5⟩⟩
 ·cases h
theorem O3 (b:Nat) (h:Hp) (id:Nat) (D:aY) (F:List Nat) (r:aB) (hF:∀j∈F,b≤j) (hd:my h id D F) (N:Int) (hN:N < 1000000000 - 20) (hk:oY 0 N D) (hw:r.wf) (hv:∀v∈r.aj,v.wf):
 ∃v h',run fns pr b 8 [.ptr id [0] 1,r.enc] h=some (v,h')∧v= .s (.int .i64 (D.do r).1)∧∃F',my h' id (D.do r).2 F'∧Fw F h h'∧∀j∈F',j∈F∨h.length≤j:=by
 have hd0:=hd
 have mV:=fun b X=> Ju b (h++X) id D F (hd.app X)
 have dQ:r.enc.ty=some 40:=rfl
 have nA:r.enc.aw=true:=rfl
 refine Vm.eV (nt:=97) rfl aap (by simp) ?_
 unfold aY.do
 by_cases c0:j8 D=0
 case neg=>
   rw[if_pos c0]
   simp only[B8,mV,c0,dQ,nA,go_sem,simprocAttr]
   exact ⟨F,hd0.app _,Fw.app _ _ _,fun j hj=> .inl hj⟩
 rw[if_neg (by simp[c0])]
 have hi:D.is=1:=by
   unfold j8 at c0
   have:=hk.is
   split at c0
   ·cases c0
   ·split at c0
    ·cases c0
    ·omega
 obtain ⟨did,sp,sid,Fs,hd⟩:=hd
 have hid:=hd.fl id (by rw[hd.f];simp)
 have hbh:b≤h.length:=by have:=hF id (by rw[hd.f];simp);omega
 have hFl:=hd.fl
 have fA:Fw [] h (h++[aT.cells (some 40) [r.enc]]):=Fw.app [] h _
 have dA:=hd.mono fA (by simp)
 have gA:(h++[aT.cells (some 40) [r.enc]])[h.length]? =some (aT.cells (some 40) [r.enc]):=aO _ _
 have lA:(h++[aT.cells (some 40) [r.enc]]).length=h.length+1:=by simp
 have mV:=fun b=> mV b [aT.cells (some 40) [r.enc]]
 generalize hHA:h++[aT.cells (some 40) [r.enc]]=HA at *
 have hgA:=dA.o
 obtain ⟨vR,aZ⟩:=dA.s hi
 subst vR
 have AF:=fun b=> zb b HA sid D.st Fs r aZ (hk.so hi) hw hv
 simp only[iT] at hgA
 by_cases c1:cD D.st r=0
 case neg=>
   rw[if_pos c1]
   simp only[B8,hHA,mV,c0,dQ,nA,hgA,gA,AF,c1,go_sem,simprocAttr]
   exact ⟨F,⟨_,_,_,_,dA⟩,fA.mono (by simp),fun j hj=> .inl hj⟩
 rw[if_neg (by simp[c1])]
 have hhl:=hk.gw.head
 have mH:=q11z hk.gr
 have hcw:=hk.gw.count
 have hfr:=fun b=> Jm b HA D.key D.r.head (D.r.count.toNat+1) r hd.kl hhl (by omega) hw hv
 have pz:IntKind.u64.wrap (D.r.count+1)=((D.r.count.toNat+1:Nat):Int):=by rw[wrap_u64 (by omega) (by omega)];omega
 have oe:=vU D hw hv hhl
 have aaJ:(lL D.key (D.r.count.toNat+1) D.r.head r).1=D.frame r:=rfl
 rw[aaJ] at hfr
 have hhd:=fun b H=> Jn b H (.aq false none ((D.frame r).map aa)) D.r.head (D.frame r) hhl (cm _ _ _) (by omega)
 have X4:(eT D.r.head (D.frame r)).length=16:=by simp[eT,cY,bG]
 have re:=fun b H=> MG b H D.r (eT D.r.head (D.frame r)) hk.gw X4
 have X5:eG D.r (eT D.r.head (D.frame r))=D.next r:=rfl
 have X6:=q26z (hd:=eT D.r.head (D.frame r)) hk.gw X4
 rw[X5] at X6
 simp only[X5] at re
 have X7:∀q:ag,q.enc=V.st 63 [.s (.int .u64 q.bZ),.s (.int .u64 q.count),.s (.int .u64 q.base),.arr 22 (q.head.map aa),.s (.int .i64 q.aN)]:=fun q=> rfl
 have hDr:=X7 D.r
 have abC:(D.key.map aa).length=16:=by simp[hd.kl]
 have hor:∀x,(decide (b≤HA.length) || x)=true:=fun x=> by rw[decide_eq_true (by omega)];rfl
 by_cases c2:(D.next r).2=true
 case neg=>
   have c2':(D.next r).2=false:=by simpa using c2
   rw[if_pos c2']
   rw[c2'] at re
   rw[hDr] at hgA re
   have hgAX:=fun X=> q10z hgA X
   simp only[B8,hHA,mV,c0,dQ,nA,hgA,gA,AF,c1,hfr,pz,hhd,re,fC,ag.eh,ag.ei,hor,hgAX,go_sem,simprocAttr]
   exact ⟨F,⟨_,_,_,_,dA.mono (Fw.app [] HA _) (by simp)⟩,(fA.trans (Fw.app [] HA _)).mono (by simp),fun j hj=> .inl hj⟩
 rw[if_neg (by simp[c2])]
 obtain ⟨hn1,hn2,hn3,hn4⟩:=X6 c2
 rw[c2] at re
 have fB:Fw [] HA (HA++[aT.cells (some 63) [(D.next r).1.enc]]):=Fw.app [] HA _
 have dB:my _ id D F:=⟨_,_,_,_,dA.mono fB (by simp)⟩
 have gB0:=fB.cw _ _ gA (by simp)
 have gB1:(HA++[aT.cells (some 63) [(D.next r).1.enc]])[HA.length]? =some (aT.cells (some 63) [(D.next r).1.enc]):=aO _ _
 have hgB:=(dA.mono fB (by simp)).o
 simp only[iT] at hgB
 have qd:=fun b H=> Jk b H D.r hk.gw
 obtain ⟨v1,H1,e1,rfl,d1,f1⟩:=Jw b _ id D F (bU D.r) (.aq false none ((D.frame r).map aa)) (D.frame r) hF dB N (by omega) hk (cm _ _ _) (by omega)
 have k1:=hk.lay (bU D.r) (D.frame r)
 obtain ⟨v2,H2,e2,rfl,d2,f2⟩:=sw b H1 id _ F hF d1 ⟨k1.s0,by have:=k1.s1;omega⟩ k1.f1
 have k2:=k1.step
 have s1:=aY.pO D (bU D.r) (D.frame r)
 have s2:=aY.jj (D.lay (bU D.r) (D.frame r)).2
 have fAB:=fA.trans fB
 have fh2:Fw F h H2:=(fAB.mono (by simp)).trans (f1.trans f2)
 have X8:D.zg r= {(D.lay (bU D.r) (D.frame r)).2.step.2 with r:=(D.next r).1,st:=(bp (D.lay (bU D.r) (D.frame r)).2.step.2.st r).2}:=rfl
 rw[X8]
 rw[hDr] at hgA hgB re qd
 have hgAX:=fun X=> q10z hgA X
 have hnF:∀j,h.length≤j→j∉F:=fun j hj hm=> by have:=hFl j hm;omega
 have g10:=f1.cw _ _ gB0 (hnF _ (ab0 _))
 have g11:=f1.cw _ _ gB1 (hnF _ (by omega))
 have g20:=f2.cw _ _ g10 (hnF _ (ab0 _))
 have g21:=f2.cw _ _ g11 (hnF _ (by omega))
 generalize (D.lay (bU D.r) (D.frame r))=L at *
 generalize hHB:HA++[aT.cells (some 63) [(D.next r).1.enc]]=HB at *
 have abD:=fun n H=> ag.tF n H (D.next r).1
 generalize (D.next r).1=nx at *
 cases c3:L.1 with
 | false=>
   rw[c3] at e1
   rw[if_pos rfl]
   simp only[B8,hHA,mV,c0,dQ,nA,hgA,gA,AF,c1,hfr,pz,hhd,re,fC,ag.eh,ag.ei,hor,hHB,hgB,qd,e1,hgAX,go_sem,simprocAttr]
   exact ⟨F,d1,(fAB.mono (by simp)).trans f1,fun j hj=> .inl hj⟩
 | true=>
   rw[c3] at e1
   rw[if_neg (by simp)]
   cases c4:L.2.step.1 with
   | false=>
     rw[c4] at e2
     rw[if_pos rfl]
     simp only[B8,hHA,mV,c0,dQ,nA,hgA,gA,AF,c1,hfr,pz,hhd,re,fC,ag.eh,ag.ei,hor,hHB,hgB,qd,e1,hgAX,e2,go_sem,simprocAttr]
     exact ⟨F,d2,fh2,fun j hj=> .inl hj⟩
   | true=>
     rw[c4] at e2
     rw[if_neg (by simp)]
     have i3:L.2.step.2.is=1:=by rw[s2.2 c4,s1.2 c3,hi]
     generalize L.2.step.2=D3 at *
     obtain ⟨did3,sp3,sid3,Fs3,p3⟩:=d2
     obtain ⟨aaK,Rz⟩:=p3.s i3
     subst aaK
     have y0:=p3.o
     have jL:∀B,(H2.set id B)[id]? =some B:=fun B=> q9z y0
     have cJ:=q6z y0
     have pL:b≤id:=hF _ (by rw[hd.f];simp)
     obtain ⟨p4,f4⟩:=p3.MM (D':= {D3 with r:=nx}) rfl (fun h=>⟨h,rfl⟩) p3.kl
     have k3:oY 0 (N+3) {D3 with r:=nx}:=by
       obtain ⟨z1,z2,z3,z4,z5,z6,z7,z8⟩:=k2
       exact ⟨z1,z2,by simp only;omega,z4,hn3,hn4,z7,z8⟩
     have g31:=f4.cw _ _ g20 (hnF _ (ab0 _))
     obtain ⟨abE,aaL⟩:=p4.s i3
     have hFs3:∀j∈Fs3,b≤j:=fun j hj=> hF _ (by rw[p3.f];simp[hj])
     obtain ⟨v5,H5,e5,rfl,Fs5,aaM,f5,hn5⟩:=Je b _ sid3 D3.st Fs3 r hFs3 aaL (k2.so i3) hw hv
     obtain ⟨p5,f5',X9⟩:=p4.tE i3 aaM f5 hn5
     have k5:oY 0 (N+3) {D3 with r:=nx,st:=(bp D3.st r).2}:=by
       obtain ⟨z1,z2,z3,z4,z5,z6,z7,z8⟩:=k3
       exact ⟨z1,z2,z3,z4,z5,z6,fun h=> tD (z7 h) hw hv,z8⟩
     have hF5:∀j∈id::did3::Fs5,b≤j:=fun j hj=> by
       rcases X9 j hj with h1 | h1
       ·exact hF j h1
       ·rw[adw] at h1;omega
     have CU:=fh2.len
     have hn5h:∀j∈id::did3::Fs5,j∈F∨h.length≤j:=fun j hj=> by
       rcases X9 j hj with h1 | h1
       ·exact .inl h1
       ·rw[adw] at h1;exact .inr (by omega)
     have fh5:=fh2.trans (f4.trans f5')
     have hhe:=fun b=> Dg b H5 nx hn4
     have hg5:=p5.o
     simp only[iT] at y0 hg5 e5
     simp only[iT] at g31
     by_cases c8:bI nx=8
     ·rw[if_pos c8]
      obtain ⟨v6,H6,e6,rfl,d6,f6⟩:=MP b H5 id _ _ hF5 ⟨_,_,_,_,p5⟩ (N+3) (by omega) k5 i3
      generalize ({D3 with r:=nx,st:=(bp D3.st r).2}:aY).fold=Z at *
      have fin:∃F',my H6 id Z.2 F'∧Fw F h H6∧∀j∈F',j∈F∨h.length≤j:=⟨_,d6,fh5.new f6 (fun j hj=>(hn5h j hj).symm),hn5h⟩
      cases c9:Z.1 with
      | false=>
        rw[c9] at e6
        simp only[B8,hHA,mV,c0,dQ,nA,hgA,gA,AF,c1,hfr,pz,hhd,re,fC,ag.eh,ag.ei,hor,hHB,hgB,qd,e1,hgAX,e2,y0,jL,pL,cJ,g20,g21,g31,e5,hg5,hhe,c8,e6,go_sem,simprocAttr]
        exact fin
      | true=>
        rw[c9] at e6
        simp only[B8,hHA,mV,c0,dQ,nA,hgA,gA,AF,c1,hfr,pz,hhd,re,fC,ag.eh,ag.ei,hor,hHB,hgB,qd,e1,hgAX,e2,y0,jL,pL,cJ,g20,g21,g31,e5,hg5,hhe,c8,e6,go_sem,simprocAttr]
        exact fin
     ·rw[if_neg c8]
      simp only[B8,hHA,mV,c0,dQ,nA,hgA,gA,AF,c1,hfr,pz,hhd,re,fC,ag.eh,ag.ei,hor,hHB,hgB,qd,e1,hgAX,e2,y0,jL,pL,cJ,g20,g21,g31,e5,hg5,hhe,c8,go_sem,simprocAttr]
      exact ⟨_,⟨_,_,_,_,p5⟩,fh5,hn5h⟩
theorem ea {n:Nat} {m:Bs} (hm:m.length=n) (rest:Bs) (bad:Bool):aV n (m++rest,bad)=(m,(rest,bad)):=by
 subst hm
 unfold aV
 rw[if_pos (by simp)]
 simp
theorem nH (x:UInt8) (rest:Bs) (bad:Bool):aV 1 (x::rest,bad)=([x],(rest,bad)):=ea (m:=[x]) rfl rest bad
theorem lM (x:UInt8):bg [x]=x.toNat:=rfl
theorem eb {n:Int} (h0:0≤n) (h1:n < 256):(((bt n).toNat:Nat):Int)=n:=by
 obtain ⟨m,rfl⟩:∃m:Nat,n=m:=⟨n.toNat,by omega⟩
 have:∀m:Nat,m < 256→(bt (m:Int)).toNat=m:=by decide+kernel
 rw[this m (by omega)]
theorem Ya (x:Nat):(UInt8.ofNat (x % 256)).toNat=x % 256:=by simp
theorem gj (n:Nat) (hn:n < 18446744073709551616):eA (aF n)=n:=by
 have s:∀j,n / 256 ^ j=256 *(n / 256 ^(j+1))+n / 256 ^ j % 256:=fun j=> by
   rw[aex,←Nat.div_div_eq_div_mul];omega
 have e8:n / 256 ^ 8=0:=aeA (by omega)
 have e0:n / 256 ^ 0=n:=by simp
 simp only[eA,aF,adM,List.range_zero,acD,adh,ab7,acn,acL,List.foldl_cons,List.foldl_nil,Ya,Nat.reduceSub]
 have s0:=s 0
 have s1:=s 1
 have s2:=s 2
 have s3:=s 3
 have s4:=s 4
 have s5:=s 5
 have s6:=s 6
 have s7:=s 7
 clear s hn
 simp only[Nat.reduceAdd] at s0 s1 s2 s3 s4 s5 s6 s7
 rw[e8] at s7
 generalize n / 256 ^ 0=d0 at *
 generalize n / 256 ^ 1=d1 at *
 generalize n / 256 ^ 2=d2 at *
 generalize n / 256 ^ 3=d3 at *
 generalize n / 256 ^ 4=d4 at *
 generalize n / 256 ^ 5=d5 at *
 generalize n / 256 ^ 6=d6 at *
 generalize n / 256 ^ 7=d7 at *
 omega
theorem Jx (v:ae) (hr:aQ v=true):IU (vH v).toNat=false∧(!decide ((vH v).toNat=0))=v.gone∧decide ((vH v).toNat=3)=v.qX:=by
 unfold aQ at hr
 unfold vH IU
 cases hg:v.gone <;> cases hw:v.qX <;> simp_all <;> decide
theorem tK (v:ae) (hw:v.wf) (hr:aQ v=true) (rest:Bs) (bad:Bool):mP (bh v++rest,bad)=(v,(rest,bad)):=by
 obtain ⟨f1,f2,f3⟩:=Jx v hr
 have hr0:=hr
 unfold aQ at hr
 obtain ⟨w1,w2,w3,w4,w5,w6,w7,w8,w9⟩:=hw
 have EN:0≤v.bT∧v.bT < 256∧0≤v.used∧v.used < 256∧0≤v.gen∧v.gen < 18446744073709551616∧v.aL.length < 256:=by
   cases hg:v.gone <;> simp_all <;> omega
 obtain ⟨l1,l2,l3,l4,l5,l6,l7⟩:=EN
 have e1:(((bt v.bT).toNat:Nat):Int)=v.bT:=eb l1 l2
 have e2:(((bt v.used).toNat:Nat):Int)=v.used:=eb l3 l4
 have e3:(bt (v.aL.length:Int)).toNat=v.aL.length:=by have:=eb (n:=(v.aL.length:Int)) (by omega) (by omega);omega
 have e4:((eA (aF v.gen.toNat):Nat):Int)=v.gen:=by rw[gj _ (by omega)];omega
 have q1:=ea (n:=4) (m:=v.iD) (by simpa using w1)
 have q3:=ea (n:=16) (m:=v.jm) (by simpa using w3)
 have q7:=ea (n:=16) (m:=v.owner) (by simpa using w7)
 unfold mP bh
 simp only[ab5,acL,acD,q1,ea (aG _),nH,lM,f1,Bool.or_false,q3,q7,pB,e3,ea (m:=v.aL) rfl,e1,e2,e4,f2,f3]
 rw[hr0]
 simp
theorem O4 (l:List ae) (hw:∀v∈l,v.wf) (hr:∀v∈l,aQ v=true) (rest:Bs) (bad:Bool):∀n,n≤l.length→vsS n (l.flatMap bh++rest,bad)=(l.take n,((l.drop n).flatMap bh++rest,bad))
 | 0,_=> rfl
 | n+1,hn=> by
   have ih:=O4 l hw hr rest bad n (by omega)
   have hd:l.drop n=l[n]::l.drop (n+1):=ac1 (by omega)
   have hm:l[n]∈l:=adj _
   simp only[vsS]
   rw[ih,hd,aec,ab5,tK _ (hw _ hm) (hr _ hm),acv (by omega)]
theorem RJ (r:aB) (hw:r.wf) (hwv:∀v∈r.aj,v.wf) (hr:bj r=true):vh (mN r,false)=(r,([],false)):=by
 have hr0:=hr
 obtain ⟨kind,aC,dS,aH,ax,aj⟩:=r
 obtain ⟨w1,w2,w3,w4,w5,w6⟩:=hw
 simp only at w1 w2 w3 w4 w5 w6 hwv
 rcases q29z hr with hk | hk | hk | hk
 all_goals simp only at hk;subst hk
 all_goals simp only[bj,lE,Int.reduceEq,if_true,if_false,abY,decide_eq_true_eq] at hr
 ·obtain ⟨⟨⟨⟨h1,h2⟩,h3⟩,h4⟩,h5⟩:=hr
  obtain rfl:aj=[]:=adX h5
  subst h2 h3 h4
  have hv:=tK ax w5 h1 [] false
  rw[acr] at hv
  simp only[vh,mN,nH,lM,if_true,hv,show (bt 1).toNat=1 from rfl]
 ·obtain ⟨⟨⟨⟨⟨⟨⟨h1,h2⟩,h3⟩,h4⟩,h5⟩,h6⟩,h7⟩,h8⟩:=hr
  obtain rfl:aj=[]:=adX h8
  subst h5
  have e1:(((bt aC).toNat:Nat):Int)=aC:=eb h3 (by omega)
  have e2:(((bt dS).toNat:Nat):Int)=dS:=eb h6 (by omega)
  have e3:((eA (aF aH.toNat):Nat):Int)=aH:=by rw[gj _ (by omega)];omega
  have hn:=ea (aG aH.toNat) [] false
  rw[acr] at hn
  simp only[vh,mN,nH,lM,if_true,show (bt 2).toNat=2 from rfl,hn,e1,e2,e3,show ((2:Int)=1)=False from by simp,show ((2:Nat)=1)=False from by simp,if_false]
 ·obtain ⟨⟨⟨⟨⟨⟨h1,h2⟩,h3⟩,h4⟩,h5⟩,h6⟩,h8⟩:=hr
  subst h5 h6
  have j5:∀v∈aj,aQ v=true:=fun v hv=> by
    unfold dn at h8
    rw[abY,ach] at h8
    obtain ⟨i,hi,rfl⟩:=List.getElem_of_mem hv
    have:=h8.2 i (ac3.2 hi)
    unfold iR at this
    rw[abY,List.getD,abV hi] at this
    exact this.1
  have hl4:aj.length≤4:=by
    unfold dn at h8
    rw[abY,decide_eq_true_eq] at h8
    exact h8.1
  have e1:(((bt aC).toNat:Nat):Int)=aC:=eb h3 (by omega)
  have e2:(bt (aj.length:Int)).toNat=aj.length:=by have:=eb (n:=(aj.length:Int)) (by omega) (by omega);omega
  have e3:((eA (aF aH.toNat):Nat):Int)=aH:=by rw[gj _ (by omega)];omega
  have hm:min aj.length 5=aj.length:=by omega
  have hv:=O4 aj hwv j5 [] false aj.length (ab0 _)
  rw[acr,adp,ae6] at hv
  simp only[vh,mN,nH,lM,if_true,show (bt 3).toNat=3 from rfl,ea (aG aH.toNat),e1,e2,e3,hm,hv,show ((3:Int)=1)=False from by simp,show ((3:Nat)=1)=False from by simp,show ((3:Int)=2)=False from by simp,show ((3:Nat)=2)=False from by simp,if_false,ae2,acr]
 ·obtain ⟨⟨⟨⟨⟨⟨h1,h2⟩,h3⟩,h4⟩,h5⟩,h6⟩,h8⟩:=hr
  obtain rfl:aj=[]:=adX h8
  subst h5 h6
  have e1:(((bt aC).toNat:Nat):Int)=aC:=eb h3 (by omega)
  have e3:((eA (aF aH.toNat):Nat):Int)=aH:=by rw[gj _ (by omega)];omega
  have hn:=ea (aG aH.toNat) [] false
  rw[acr] at hn
  simp only[vh,mN,nH,lM,if_true,show (bt 4).toNat=4 from rfl,hn,e1,e3,show ((4:Int)=1)=False from by simp,show ((4:Nat)=1)=False from by simp,show ((4:Int)=2)=False from by simp,show ((4:Nat)=2)=False from by simp,show ((4:Int)=3)=False from by simp,show ((4:Nat)=3)=False from by simp,if_false]
theorem Jy (r:aB) (hw:r.wf) (hwv:∀v∈r.aj,v.wf) (hr:bj r=true):Bi (mN r)=(r,0):=by
 unfold Bi
 rw[RJ r hw hwv hr]
 simp[hr]
def Dj (k:Bs) (n:Nat) (prev l:Bs):aB×Int:=match mK k n prev l with
 | none=>(C2,30)
 | some t=> Bi t
def tL (k:Bs) (K:Dk) (r:ag):Bs×Bs×Int:=
 if r.base=0 then ([],bd,0) else match K.get r.aN with
  | none=>([],bd,30)
  | some l=> match mK k r.base.toNat vj l with
    | some t=>(t,cP l,0)
    | none=>([],cP l,30)
def jS (k:Bs) (K:Dk) (base:Nat) (h:Bs):Nat→Option (List aB×Bs)
 | 0=> some ([],h)
 | n+1=> match jS k K base h n with
   | none=> none
   | some (l,h1)=> if (K.get (2+(n:Nat))).isSome=false∨(Dj k (base+n+1) h1 ((K.get (2+(n:Nat))).getD [])).2≠0 then none
     else some (l++[(Dj k (base+n+1) h1 ((K.get (2+(n:Nat))).getD [])).1],eT h1 ((K.get (2+(n:Nat))).getD []))
def zi (k:Bs) (K:Dk) (r:ag):Bs×List aB×Int:=
 if bx r=false then ([],[],1) else if (tL k K r).2.2≠0 then ([],[],(tL k K r).2.2)
 else match jS k K r.base.toNat (tL k K r).2.1 (bI r).toNat with
   | none=>([],[],30)
   | some (l,h)=> if h=r.head then ((tL k K r).1,l,0) else ([],[],30)
def abp (x:Bs×List aB×Int):V:= .bM [.aq false none (x.1.map aa),.aq false (some 40) (x.2.1.map aB.enc),.s (.int .i64 x.2.2)]
theorem IK (cf:CF) (base:Nat) (h:Hp) (f:Bool) (l:Bs) (k:IntKind) (n:Nat) (hn:n≤l.length):aD cf base h (.j2 none false true false) [.aq f none (l.map aa),.s (.int k (n:Nat))]=some (.aq (f && n==l.length) none ((l.take n).map aa),h):=by
 rw[SR.aaN (cf:=cf) (base:=base) (h:=h) (x:= .aq f none (l.map aa)) (g:=none) (vs:=l.map aa) (.inl ⟨f,rfl⟩) (k:=k) (r:=n) (by simpa using hn)]
 simp only[nU,acf,acA,aeQ,aeb]
def sx :Nat→Bs→Option (List ae×Bs)
 | 0,l=> some ([],l)
 | n+1,l=> match sx n l with
   | none=> none
   | some (vs,m)=> if (mQ m).2.2≠0 then none else some (vs++[(mQ m).1],m.drop (mQ m).2.1.toNat)
def aac (x:Option (List ae×Bs)):V:=match x with
 | none=> .bM [.aq false (some 37) [],.aq false none [],.s (.bool false)]
 | some (vs,m)=> .bM [.aq false (some 37) (vs.map ae.enc),.aq false none (m.map aa),.s (.bool true)]
def Jz (l:Bs):Option (pJ×Bs):=if l.length < 11 then none else match sx (l.getD 10 0).toNat (l.drop 11) with
 | none=> none
 | some (vs,m)=> some (⟨((l.getD 0 0).toNat:Nat),(eA ((l.drop 1).take 8):Nat),((l.getD 9 0).toNat:Nat),vs⟩,m)
def Dl (s0:bD) (l:Bs):Nat→Option (bD×Bs)
 | 0=> some (s0,l)
 | n+1=> match Dl s0 l n with
   | none=> none
   | some (s,m)=> match Jz m with
     | none=> none
     | some (q,rest)=> if (tE s n q).1≠0 then none else some ((tE s n q).2,rest)
def JA (a b:Int) (l:Bs):Option bD:=if l.length < 2 then none else (Dl (bD.new a b) (l.drop 2) 16).map (·.1)
def abq (h:Hp) (v:V) (h':Hp):Option bD→Prop
 | none=> v= .bM [.s (.pointer none),.s (.bool false)]∧Fw [] h h'
 | some s=> mS s∧∃F,v= .bM [.ptr h.length [0] 1,.s (.bool true)]∧ji h' h.length s F∧Fw [] h h'∧∀j∈F,h.length≤j
def ofI (a b:Int) (l:Bs):Option bD:=match JA a b l with
 | none=> none
 | some s=> if kR s=l then some s else none
def ofR (h:Hp) (v:V) (h':Hp):Option bD→Prop
 | none=> v= .bM [.s (.pointer none),.s (.int .i64 12)]∧Fw [] h h'
 | some s=> mS s∧∃F,v= .bM [.ptr h.length [0] 1,.s (.int .i64 0)]∧ji h' h.length s F∧Fw [] h h'∧∀j∈F,h.length≤j
theorem JB :zeroV.wf:=by
 refine ⟨?_,?_,?_,?_,?_,?_,?_,?_,?_⟩<;> first | trivial | decide
def tM :bD→List aB→Option bD
 | s,[]=> some s
 | s,r::l=> if (bp s r).1≠0 then none else tM (bp s r).2 l
def aY.begin (D:aY):Option bD:=if 0 < D.r.base then ofI D.mem D.bF (zi D.key D.dk D.r).1 else some (bD.new D.mem D.bF)
def aY.load (D:aY):Option bD:=if (zi D.key D.dk D.r).2.2≠0 then none else match D.begin with
 | none=> none
 | some s=> tM s (zi D.key D.dk D.r).2.1
def abr (h:Hp) (v:V) (h':Hp):Option bD→Prop
 | none=> v= .bM [.s (.pointer none),.s (.bool false)]∧Fw [] h h'
 | some s=> mS s∧∃sid F,v= .bM [.ptr sid [0] 1,.s (.bool true)]∧ji h' sid s F∧Fw [] h h'∧∀j∈F,h.length≤j
structure DM (D:aY):Prop where
 m1:1≤D.bF
 m2:D.bF≤8
 m3:0≤D.mem
 m4:D.mem < D.bF
theorem vQ.XK {F Fs Fs':List Nat} {h:Hp} {id did sid sid':Nat} {D D':aY} {sp sp':V} (hd:vQ h id D F did sp sid Fs) (h1:D'.dk=D.dk) (h2:D'.is=1→sp'= .ptr sid' [0] 1∧ji h sid' D'.st Fs') (h3:D'.key.length=16)
 (ty:sp'.ty=none) (so:sp'.aw=true) (n2:id∉Fs') (n3:did∉Fs') (fl:∀j∈Fs',j < h.length):
 vQ (h.set id (.cells (some 65) (iT D' sp' did))) id D' (id::did::Fs') did sp' sid' Fs'∧Fw F h (h.set id (.cells (some 65) (iT D' sp' did))):=by
 have f:Fw [id] h (h.set id (.cells (some 65) (iT D' sp' did))):=Fw.set (by simp) hd.o
 obtain ⟨o,d,s,_,_,rfl,n1,_,_,fl0,kl⟩:=hd
 refine ⟨⟨q9z o,by rw[h1];exact d.mono f (by simp[adG n1]),fun hi=> ?_,ty,so,rfl,n1,n2,n3,fun j hj=> ?_,h3⟩,f.mono (by simp)⟩
 ·obtain ⟨c,e⟩:=h2 hi
  exact ⟨c,e.mono f (fun j hj=> by simp;rintro rfl;exact n2 hj)⟩
 ·simp only[acC] at hj
  rcases hj with rfl | rfl | hj
  ·exact f.lt (fl0 _ (by simp))
  ·exact f.lt (fl0 _ (by simp))
  ·exact f.lt (fl j hj)
def aY.new (a b:Int) (k:Bs):aY:=⟨a,b,cY k [bt a],1,bD.new a b,Dk.new,jQ,0, -1,0⟩
theorem JC :jQ.wf:=⟨by simp[jQ],by simp[jQ],by simp[jQ],rfl,by simp[jQ]⟩
theorem oY.new {a b:Int} (k:Bs) (h1:1≤b) (h2:b≤8) (h3:0≤a) (h4:a < b):oY 0 0 (aY.new a b k):=
 ⟨ab0 _,by simp[aY.new],by simp[aY.new],by simp[aY.new],by rfl,JC,fun _=> mS.new h1 h2 h3 h4,.inl rfl⟩
theorem xC (b:Nat) (h:Hp) (x z:Int) (k:Bs) (hb:b≤h.length) (hk:k.length=16) (h1:1≤z) (h2:z≤8) (h3:0≤x) (h4:x < z):
 ∃v h',run fns pr b 5 [.s (.int .i64 x),.s (.int .i64 z),.arr 22 (k.map aa)] h=some (v,h')∧∃id F,v= .bM [.ptr id [0] 1,.s (.int .i64 0)]∧my h' id (aY.new x z k) F∧Fw [] h h'∧∀j∈F,h.length≤j:=by
 refine Vm.eV (nt:=23) rfl aaj (by simp) ?_
 have dt:(k.map aa).length=16:=by simp[hk]
 have fA:Fw [] h (h++[aT.cells (some 22) [.arr 22 (k.map aa)]]):=Fw.app [] h _
 have gA:(h++[aT.cells (some 22) [.arr 22 (k.map aa)]])[h.length]? =some (aT.cells (some 22) [.arr 22 (k.map aa)]):=aO _ _
 have lA:=fA.len
 generalize hHA:h++[aT.cells (some 22) [.arr 22 (k.map aa)]]=HA at *
 obtain ⟨v1,H1,e1,F1,rfl,s1,f1,n1⟩:=De b HA x z (acE hb lA) h1 h2 h3 h4
 have g1:=f1.cw _ _ gA (by simp)
 have yr:=fun b=> MJ b H1 k x hk
 obtain ⟨v2,H2,e2,rfl,d2,f2⟩:=Dsk.xA b H1
 simp only[Dsk.R] at e2
 have s2:=s1.mono f2 (by simp)
 have va:=f1.len
 have CU:=f2.len
 simp only[B5,hHA,dt,e1,g1,yr,fC,e2,go_sem,simprocAttr]
 have f3:Fw [] H2 (H2++[aT.cells (some 65) (iT (aY.new x z k) (.ptr HA.length [0] 1) H1.length)]):=Fw.app [] H2 _
 have xv:=d2.lt
 have hF1:=s1.lt
 refine ⟨H2.length,H2.length::H1.length::F1,rfl,⟨H1.length,.ptr HA.length [0] 1,HA.length,F1,?_,d2.mono f3 (by simp),fun _=>⟨rfl,s2.mono f3 (by simp)⟩,rfl,rfl,rfl,by omega,fun hm=> ?_,fun hm=> ?_,fun j hj=> ?_,?_⟩,fA.trans (f1.trans (f2.trans f3)),fun j hj=> ?_⟩
 ·exact aO _ _
 ·have:=hF1 _ hm;omega
 ·have:=hF1 _ hm;omega
 ·simp only[acC] at hj
  rcases hj with rfl | rfl | hj
  ·simp
  ·simp;omega
  ·have:=hF1 _ hj;simp;omega
 ·simp[aY.new,cY,bG]
 ·simp only[acC] at hj
  rcases hj with rfl | rfl | hj
  ·omega
  ·omega
  ·have:=n1 _ hj;omega
def aY.tN (D:aY):aY:= {D with r:=(eX D.r).1}
def aY.up (D:aY) (s:bD):aY:= {D.tN with is:=1,st:=s}
def aY.start (D:aY):Int×aY:=
 if D.is=1 then (14,D) else if D.is=3 then (28,D) else if (eX D.r).2=false then (31,D)
 else match D.tN.load with
   | none=>(28, {D.tN with is:=3})
   | some s=> if bI (eX D.r).1=8 then (if (D.up s).fold.1=false then 29 else 0,(D.up s).fold.2) else (0,D.up s)
theorem q25z {r:ag} (hw:r.wf) (h:(eX r).2=true):(eX r).1=⟨r.bZ+1,r.count,r.base,r.head,r.aN⟩∧bx (eX r).1=true∧(eX r).1.wf:=by
 unfold eX xz at h ⊢
 split at h
 ·rename_i c
  rw[if_pos c]
  have:=q11z c.1
  obtain ⟨w1,w2,w3,w4,w5⟩:=hw
  exact ⟨rfl,c.2,⟨by simp only;omega,w2,w3,w4,w5⟩⟩
 ·cases h
theorem Dm (b:Nat) (h:Hp) (id:Nat) (D:aY) (F:List Nat) (hb:b≤h.length) (hd:my h id D F) (hk:D.is=1→mS D.st):
 ∃v h',run fns pr b 34 [.ptr id [0] 1] h=some (v,h')∧(if D.is=1 then ∃F',v= .ptr h.length [0] 1∧ji h' h.length D.st F'∧Fw [] h h'∧∀j∈F',h.length≤j else v= .s (.pointer none)∧h'=h):=by
 obtain ⟨did,sp,sid,Fs,hd⟩:=hd
 have hg:=hd.o
 refine Vm.eV (nt:=13) rfl UN (by simp) ?_
 by_cases i1:D.is=1
 ·obtain ⟨rfl,hs⟩:=hd.s i1
  obtain ⟨v2,H2,e2,F2,rfl,s2,f2,n2⟩:=Ji b h sid D.st Fs hb hs (hk i1)
  simp only[iT] at hg
  simp only[i1,if_true]
  simp only[B34,hg,i1,e2,go_sem,simprocAttr]
  exact ⟨F2,s2,f2,n2⟩
 ·simp only[iT] at hg
  simp only[i1,if_false]
  simp only[B34,hg,i1,go_sem,simprocAttr]
theorem MQ (a s:UInt8):s ^^^(s ^^^ a)=a:=by
 apply afd.1
 simp[UInt8.toNat_xor,←Nat.xor_assoc]
theorem vV :∀(s l:Bs),l.length≤s.length→iC s (iC s l)=l
 | s,[],_=> by simp[iC]
 | [],a::l,h=> by simp at h
 | b::s,a::l,h=> by
   have:=vV s l (by simpa using h)
   simp only[iC,List.zipWith_cons_cons] at this ⊢
   rw[this,MQ]
theorem MR (k:Bs) (n:Nat) (l:Bs):lu k n (lu k n l)=l:=by
 have h:(iC (iq k n l.length) l).length=l.length:=gd k n l
 unfold lu
 rw[h]
 exact vV _ _ (by rw[iB];exact ab0 _)
theorem qA (k:Bs) (n:Nat) (ad l:Bs) (h1:l.length≤8184) (h2:ad.length≤8192):mK k n ad (ek k n ad l)=some l:=by
 have hl:=qp k n ad l h1 h2
 have hh:=gd k n l
 have hc:8≤(ek k n ad l).length∧(ek k n ad l).length≤8192∧ad.length≤8192:=⟨by omega,by omega,h2⟩
 unfold mK
 rw[if_pos hc,hl,aeP]
 have hs:ek k n ad l=lu k n l++iW k n ad l:=by unfold ek;rw[if_pos ⟨h1,h2⟩]
 rw[hs]
 have e1:(lu k n l++iW k n ad l).take l.length=lu k n l:=by rw[←hh];exact ab2
 have e2:(lu k n l++iW k n ad l).drop l.length=iW k n ad l:=by rw[←hh];exact aek
 simp only[e1,e2,MR,if_true]
theorem Bv (k:Bs) (n:Nat) (prev:Bs) (r:aB) (hp:prev.length=16) (hw:r.wf) (hr:bj r=true):Dj k n prev (lL k n prev r).1=(r,0):=by
 have hl:=zh hr hw hw.aj.2
 unfold Dj lL
 rw[if_pos hr]
 simp only
 rw[qA k n prev (mN r) (by omega) (by omega)]
 exact Jy r hw hw.aj.2 hr
def HD (mem bF:Int) (key:Bs) (K:Dk) (r:ag) (S:bD):Prop:=
 ∃im h0 L S0,tL key K r=(im,h0,0)∧jS key K r.base.toNat h0 (bI r).toNat=some (L,r.head)∧(if 0 < r.base then ofI mem bF im else some (bD.new mem bF))=some S0∧tM S0 L=some S
theorem HD.load {D:aY} {S:bD} (hg:bx D.r=true) (h:HD D.mem D.bF D.key D.dk D.r S):D.load=some S:=by
 obtain ⟨im,h0,L,S0,h1,h2,h3,h4⟩:=h
 have hj:zi D.key D.dk D.r=(im,L,0):=by
   unfold zi
   rw[if_neg (by simp[hg]),h1]
   simp only[ne_eq,not_true_eq_false,if_false,h2,if_true]
 unfold aY.load aY.begin
 rw[hj]
 simp only[ne_eq,not_true_eq_false,if_false]
 rw[h3]
 exact h4
def tO (K K':Dk) (r:ag):Prop:=(0 < r.base→K'.get r.aN=K.get r.aN)∧∀i:Nat,(i:Int)< bI r→K'.get (2+(i:Int))=K.get (2+(i:Int))
theorem rp {k:Bs} {K K':Dk} {base:Nat} {h:Bs}:∀(n:Nat),(∀i:Nat,i < n→K'.get (2+(i:Int))=K.get (2+(i:Int)))→jS k K' base h n=jS k K base h n
 | 0,_=> rfl
 | n+1,hs=> by
   rw[jS,jS,rp n (fun i hi=> hs i (by omega)),hs n (by omega)]
theorem HD.same {mem bF:Int} {key:Bs} {K K':Dk} {r:ag} {S:bD} (h:HD mem bF key K r S) (hb:0≤r.base) (hs:tO K K' r):HD mem bF key K' r S:=by
 obtain ⟨im,h0,L,S0,h1,h2,h3,h4⟩:=h
 refine ⟨im,h0,L,S0,?_,?_,h3,h4⟩
 ·rw[←h1]
  unfold tL
  by_cases c:r.base=0
  ·rw[if_pos c,if_pos c]
  ·rw[if_neg c,if_neg c,hs.1 (by omega)]
 ·rw[←h2]
  exact rp _ fun i hi=> hs.2 i (by omega)
theorem q19z {r:ag} (h:bx r=true):bI r=r.count - r.base:=by unfold bI;rw[if_pos h]
theorem HD.bZ {mem bF:Int} {key:Bs} {K:Dk} {r:ag} {S:bD} (h:HD mem bF key K r S) (hw:r.wf) (hb:(eX r).2=true) (hr:bx r=true):HD mem bF key K (eX r).1 S:=by
 obtain ⟨e1,e2,_⟩:=q25z hw hb
 obtain ⟨im,h0,L,S0,h1,h2,h3,h4⟩:=h
 have hh:bI (eX r).1=bI r:=by rw[q19z e2,q19z hr,e1]
 refine ⟨im,h0,L,S0,?_,?_,?_,h4⟩
 ·rw[e1];exact h1
 ·rw[hh,e1];exact h2
 ·rw[e1];exact h3
theorem tP {S0 S:bD} {r:aB}:∀(L:List aB),tM S0 L=some S→(bp S r).1=0→tM S0 (L++[r])=some (bp S r).2
 | [],h,h0=> by
   cases h
   simp[tM,h0]
 | x::L,h,h0=> by
   simp only[tM,acL] at h ⊢
   split at h
   ·cases h
   ·rename_i c
    rw[if_neg c]
    revert h
    generalize (bp S0 x).2=S1
    intro h
    exact tP L h h0
theorem RK {s:bD} (hk:mS s) {r:aB} (h:cD s r=0):(bp s r).1=0:=by
 have hr:=xy h
 unfold bp
 rw[if_neg (by simp[h])]
 by_cases k1:r.kind=1
 ·rw[if_pos k1]
  unfold cD at h
  rw[if_neg (by simp[hr]),if_pos k1] at h
  have j5:aQ r.ax=true:=by unfold bj at hr;rw[if_pos k1] at hr;simp at hr;simp[hr]
  have mj:=O0 hk h
  simp only
  unfold pI
  rw[if_neg (by simp[j5])]
  by_cases c:((s.p (al r.ax.iD)).vs[pos (s.p (al r.ax.iD)).vs r.ax.iD]?).map ae.iD=some r.ax.iD
  ·rw[if_pos c]
  ·rw[if_neg c,if_neg]
   have:eO (s.p (al r.ax.iD)).vs r.ax.iD=none:=by unfold eO;rw[if_neg c]
   have:=mj this
   omega
 ·rw[if_neg k1]
  split
  ·rfl
  ·split <;> rfl
theorem HD.next {mem bF:Int} {key:Bs} {K:Dk} {r:ag} {S:bD} {x:aB} {l:Bs} (h:HD mem bF key K r S) (hw:r.wf) (hx:x.wf) (hk:mS S) (hc:cD S x=0)
 (hl:l=(lL key (r.count.toNat+1) r.head x).1) (hn:(eG r (eT r.head l)).2=true) (hg:K.get (2+bI r)=some l):HD mem bF key K (eG r (eT r.head l)).1 (bp S x).2:=by
 have hhl:(eT r.head l).length=16:=by simp[eT,cY,bG]
 obtain ⟨e1,e2,e3,_⟩:=q26z hw hhl hn
 have hr:=xy hc
 obtain ⟨im,h0,L,S0,h1,h2,h3,h4⟩:=h
 have EN:=q11z e2
 have hh:(bI (eG r (eT r.head l)).1).toNat=(bI r).toNat+1:=by rw[q19z e3,q19z e2,e1];simp only;omega
 have hd2:(2+((bI r).toNat:Nat):Int)=2+bI r:=by rw[q19z e2];omega
 have hcn:r.base.toNat+(bI r).toNat+1=r.count.toNat+1:=by rw[q19z e2];have:=hw.base;omega
 refine ⟨im,h0,L++[x],S0,?_,?_,?_,tP L h4 (RK hk hc)⟩
 ·rw[e1];exact h1
 ·rw[hh,jS,e1]
  simp only[h2,hd2,hg,hcn,acx,ac8]
  rw[hl,Bv key _ r.head x hw.head hx hr]
  simp
 ·rw[e1];exact h3
theorem Bw (v:ae) (hw:v.wf) (hr:aQ v=true) (rest:Bs):mQ (bh v++rest)=(v,((bh v).length:Int),0):=by
 have h:=tK v hw hr rest false
 unfold mQ
 rw[h]
 simp only[aca,if_false]
 rw[abZ,aeP]
theorem vW (l:List ae) (h:∀v∈l,aQ v=true∧v.wf) (rest:Bs):∀n,n≤l.length→sx n (l.flatMap bh++rest)=some (l.take n,(l.drop n).flatMap bh++rest)
 | 0,_=> rfl
 | n+1,hn=> by
   have ih:=vW l h rest n (by omega)
   have hd:l.drop n=l[n]::l.drop (n+1):=ac1 (by omega)
   obtain ⟨h1,h2⟩:=h _ (adj (show n < l.length by omega))
   rw[sx,ih,hd,aec,ab5]
   have ht:=Bw l[n] h2 h1 ((l.drop (n+1)).flatMap bh++rest)
   simp only[ht,acu,aek,ne_eq,not_true_eq_false,if_false,acv (show n < l.length by omega)]
theorem MS {s:bD} {i:Nat} {q:pJ} (h:POk s i q) (rest:Bs) (hs:s.bF≤8∧0≤s.mem):Jz (mW q++rest)=some (q,rest):=by
 obtain ⟨role,aH,to,vs⟩:=q
 obtain ⟨a1,a2,a3,a4,a5,a6,a7,a8,a9⟩:=h
 simp only at a1 a2 a3 a4 a5 a6 a7 a8 a9
 have r1:(((bt role).toNat:Nat):Int)=role:=eb (by omega) (by omega)
 have r2:(((bt to).toNat:Nat):Int)=to:=eb (by rcases a1 with h | h | h <;> first | (have:=a5 (by omega);omega) | (have:=a4 h;omega)) (by rcases a1 with h | h | h <;> first | (have:=a5 (by omega);omega) | (have:=a4 h;omega))
 have r3:(bt (vs.length:Int)).toNat=vs.length:=by have:=eb (n:=(vs.length:Int)) (by omega) (by omega);omega
 have r4:((eA (aF aH.toNat):Nat):Int)=aH:=by rw[gj _ (by omega)];omega
 have hv:=vW vs (fun v hv=>⟨(a9 v hv).1,(a9 v hv).2.1⟩) rest vs.length (ab0 _)
 rw[adp,ae6,ae2,acD] at hv
 obtain ⟨n,hn⟩:∃n,aF aH.toNat=n:=⟨_,rfl⟩
 have nZ:n.length=8:=by rw[←hn];exact aG _
 rw[hn] at r4
 match n,nZ with
 | [n0,n1,n2,n3,n4,n5,n6,n7],_=>
   unfold Jz mW
   simp only[hn,acL,acD,ab5]
   rw[if_neg (by simp)]
   simp only[List.getD_cons_zero,List.getD_cons_succ,aeJ,acA,r3,hv,adu,ad0,r1,r2]
   rw[r4]
def mX (s:bD) (n:Nat):Bs:=(List.range (16 - n)).flatMap fun i=> mW (s.p (n+i))
theorem zj (s:bD):mX s 0=gh s 16:=by simp[mX,gh]
theorem zk (s:bD) (n:Nat) (h:n < 16):mX s n=mW (s.p n)++mX s (n+1):=by
 unfold mX
 rw[show 16 - n=(16 - (n+1))+1 by omega,List.range_succ_eq_map,aec,List.flatMap_map]
 have hf:(fun i=> mW (s.p (n+(i+1))))=fun i=> mW (s.p (n+1+i)):=funext fun i=> by rw[show n+(i+1)=n+1+i by omega]
 simp only[ad7,Nat.succ_eq_add_one]
 rw[hf]
theorem EO (s t:bD) (n:Nat):(j6 s t n).qc n (s.p n)=j6 s t (n+1):=by
 simp only[j6,bD.qc,bD.mk.injEq,true_and]
 funext j
 by_cases h:j=n
 ·subst h;simp
 ·simp only[h,if_false]
  by_cases h1:j < n
  ·simp[h1,show j < n+1 by omega]
  ·simp[h1,show ¬j < n+1 by omega]
theorem Dn {s:bD} (hk:mS s):∀n,n≤16→Dl (j6 s (bD.new s.mem s.bF) 0) (mX s 0) n=some (j6 s (bD.new s.mem s.bF) n,mX s n)
 | 0,_=> rfl
 | n+1,hn=> by
   have ih:=Dn hk n (by omega)
   have ok:=hk.p n (by omega)
   have hp:=MS ok (mX s (n+1)) ⟨hk.m2,hk.m3⟩
   have aZ:tE (j6 s (bD.new s.mem s.bF) n) n (s.p n)=(0,j6 s (bD.new s.mem s.bF) (n+1)):=by
     unfold tE;rw[if_pos (ok.right (t:=j6 s (bD.new s.mem s.bF) n) rfl rfl),EO]
   rw[Dl,ih,zk s n (by omega)]
   simp only[hp,aZ,ne_eq,not_true_eq_false,if_false]
def beyond (s:bD):Prop:=∀j,16≤j→s.p j=(bD.new s.mem s.bF).p j
theorem Yb {s:bD} (hk:mS s) (hb:beyond s):ofI s.mem s.bF (kR s)=some s:=by
 have h1:=Dn hk 16 (ab0 _)
 have h0:j6 s (bD.new s.mem s.bF) 0=bD.new s.mem s.bF:=by simp[j6,bD.new]
 have h16:j6 s (bD.new s.mem s.bF) 16=s:=by
   obtain ⟨m,ms,p⟩:=s
   simp only[j6,bD.mk.injEq,true_and]
   funext j
   by_cases h:j < 16
   ·simp[h]
   ·simp only[h,if_false]
    exact (hb j (by omega)).symm
 rw[h0,h16,zj] at h1
 have hr:JA s.mem s.bF (kR s)=some s:=by
   unfold JA
   rw[if_neg (by simp[kR])]
   have:(kR s).drop 2=gh s 16:=by simp[kR]
   rw[this,h1]
   rfl
 unfold ofI
 rw[hr]
 simp
theorem lN {s:bD} (hb:beyond s) {n:Nat} (hn:n < 16) (q:pJ):beyond (s.qc n q):=fun j hj=> by
 rw[Jh _ _ _ _ (by omega)]
 exact hb j hj
theorem xD {s:bD} (hb:beyond s) {r:aB}:beyond (bp s r).2:=by
 unfold bp
 by_cases c0:cD s r=0
 case neg=> rw[if_pos c0];exact hb
 rw[if_neg (by simp[c0])]
 have hr:=xy c0
 by_cases k1:r.kind=1
 ·rw[if_pos k1];exact lN hb (eF _) _
 ·rw[if_neg k1]
  have:=nG hr k1
  split
  ·exact lN hb (by omega) _
  ·split
   ·exact lN hb (by omega) _
   ·exact lN hb (by omega) _
theorem JD {s:bD} (hk:mS s):(kR s).length≤8184:=by
 have:=q32z hk 16 (ab0 _)
 simp only[kR,abZ,acj,acz];omega
theorem HD.fold {key:Bs} {K:Dk} {r:ag} {S:bD} {l:Bs} (hw:r.wf) (hr:bx r=true) (hc:r.base < r.count) (hk:mS S) (hb:beyond S)
 (hl:l=(j7 key r (kR S)).1) (hg:K.get (1 - r.aN)=some l):HD S.mem S.bF key K (iK r (cP l)).1 S∧(iK r (cP l)).2=true∧(iK r (cP l)).1=⟨r.bZ,r.count,r.count,cP l,1 - r.aN⟩:=by
 have EN:=q11z hr
 have him:=JD hk
 have CU:l=ek key r.count.toNat vj (kR S):=by rw[hl];unfold j7;rw[if_neg (by omega)]
 have mY:bx ⟨r.bZ,r.count,r.count,cP l,1 - r.aN⟩=true:=by
   unfold bx
   simp only[abY,acM,decide_eq_true_eq]
   have:=hw.base
   exact ⟨⟨⟨⟨⟨by omega,by omega⟩,by omega⟩,by omega⟩,by omega⟩,.inl (by omega)⟩
 have hf:iK r (cP l)=(⟨r.bZ,r.count,r.count,cP l,1 - r.aN⟩,true):=by
   unfold iK xz
   rw[if_neg (by omega),if_pos ⟨hr,mY⟩]
 rw[hf]
 refine ⟨⟨kR S,cP l,[],S,?_,?_,?_,rfl⟩,rfl,rfl⟩
 ·unfold tL
  simp only
  have:=hw.base
  rw[if_neg (by omega),hg,CU]
  simp only[qA key r.count.toNat vj (kR S) him (by decide)]
 ·have hh:bI ⟨r.bZ,r.count,r.count,cP l,1 - r.aN⟩=0:=by rw[q19z mY];simp
  rw[hh];rfl
 ·have:=hw.base
  rw[if_pos (by simp only;omega)]
  exact Yb hk hb
theorem mZ {D:aY} (h:D.step.1=false):D.step.2=D.down D.gL:=by
 unfold aY.step at h ⊢
 by_cases c:D.cU=0
 ·rw[if_pos c]
 ·rw[if_neg c] at h;cases h
theorem xE {D:aY} (h:D.step.1=true):D.step.2= {D with cU:=if 0 < D.cU then D.cU - 1 else D.cU,steps:=D.steps+1}:=by
 unfold aY.step at h ⊢
 by_cases c:D.cU=0
 ·rw[if_pos c] at h;cases h
 ·rw[if_neg c]
theorem xF {K:Dk} (hp:K.ej=0) (t:Int):K.iX t= {K with now:=K.bJ,bJ:=K.bJ,ej:=0}:=by
 unfold Dk.iX Dk.gL
 rw[if_neg (by omega)]
theorem get_eq {K K':Dk} (h:K'.now=K.now) (i:Int):K'.get i=K.get i:=by unfold Dk.get;rw[h]
theorem Dp {K K':Dk} {n:Nat} {x:Option Bs} (h:K'.now=K.now.set n x) (i:Int) (hi:i≠n):K'.get i=K.get i:=by
 unfold Dk.get
 split
 ·rw[h,tI,if_neg (by omega)]
 ·rfl
theorem JE {K K':Dk} {n:Nat} {x:Bs} (h:K'.now=K.now.set n (some x)) (hk:K.now.length=10) (hn:n < 10):K'.get (n:Int)=some x:=by
 unfold Dk.get
 rw[if_pos (by omega),h,tI,if_pos (by omega)]
structure LD (K K':Dk) (n:Int):Prop where
 nl:K'.now=K'.bJ
 p0:K'.ej=0
 ne:∀i:Int,i≠n→K'.get i=K.get i
 ok:K'.OK
theorem JF {D:aY} (hp:D.dk.ej=0) (nZ:D.dk.now=D.dk.bJ) (hk:D.dk.OK) (n:Int) (l:Bs):
 LD D.dk (D.lay n l).2.dk n∧((D.lay n l).1=true→Dk.jR n l=true→(D.lay n l).2.dk.get n=some l):=by
 have hc0:LD D.dk (D.dk.iX D.gL) n:=by
   rw[xF hp]
   exact ⟨rfl,rfl,fun i _=> get_eq nZ.symm i,⟨hk.bJ,hk.bJ,hk.at_,hk.ls,hk.ls,hk.last⟩⟩
 unfold aY.lay
 cases c1:D.step.1 with
 | false=>
   rw[if_pos rfl,mZ c1]
   exact ⟨hc0,fun h=> by cases h⟩
 | true=>
   rw[if_neg (by simp),xE c1]
   generalize hD1:({D with cU:=if 0 < D.cU then D.cU - 1 else D.cU,steps:=D.steps+1}:aY)=D1
   have hdk:D1.dk=D.dk:=by rw[←hD1]
   have htn:D1.gL=D.gL:=by rw[←hD1]
   by_cases ct:Dk.jR n l=true
   ·have ct':=ct
    simp only[Dk.jR,abY,decide_eq_true_eq] at ct'
    obtain ⟨⟨t1,t2⟩,t3⟩:=ct'
    obtain ⟨m,rfl⟩:∃m:Nat,n=m:=⟨n.toNat,by omega⟩
    have fV:(D1.put m l).dk=D.dk.put m l:=by unfold aY.put;simp only[ct,if_true,hdk,acu]
    have iJ:=Dk.Jo hk (n:=m) (l:=l) (by omega) t3
    cases c3:(D1.put m l).step.1 with
    | false=>
      rw[if_pos rfl,mZ c3]
      refine ⟨?_,fun h=> by cases h⟩
      have e:((D1.put m l).down (D1.put m l).gL).dk=(D.dk.put m l).iX (D1.put m l).gL:=by simp only[aY.down,fV]
      rw[e]
      refine ⟨rfl,rfl,fun i hi=> ?_,Dk.Jp iJ _⟩
      by_cases ctn:0 <(D.dk.put m l).ej∧0 <(D1.put m l).gL
      ·exact Dp (K:=D.dk) (n:=m) (x:=some (l.take (D1.put m l).gL.toNat)) (by simp only[Dk.iX,Dk.gL,ctn,and_self,if_true];simp only[Dk.put,nZ]) i hi
      ·exact get_eq (by simp only[Dk.iX,Dk.gL,ctn,if_false];simp only[Dk.put,nZ]) i
    | true=>
      rw[if_neg (by simp),xE c3]
      have e:(D1.put m l).dk.sync=(D.dk.put m l).sync:=by rw[fV]
      simp only[e]
      refine ⟨⟨rfl,rfl,fun i hi=> Dp (K:=D.dk) (n:=m) (x:=some l) (by simp only[Dk.sync,Dk.put]) i hi,Dk.xB iJ⟩,fun _ _=> JE (K:=D.dk) (by simp only[Dk.sync,Dk.put]) hk.now (by omega)⟩
   ·have fV:(D1.put n l).dk=D.dk:=by unfold aY.put;simp only[ct,aca,if_false,hdk]
    cases c3:(D1.put n l).step.1 with
    | false=>
      rw[if_pos rfl,mZ c3]
      refine ⟨?_,fun h=> by cases h⟩
      have e:((D1.put n l).down (D1.put n l).gL).dk=D.dk.iX (D1.put n l).gL:=by simp only[aY.down,fV]
      rw[e,xF hp]
      exact ⟨rfl,rfl,fun i _=> get_eq nZ.symm i,⟨hk.bJ,hk.bJ,hk.at_,hk.ls,hk.ls,hk.last⟩⟩
    | true=>
      rw[if_neg (by simp),xE c3]
      have e:(D1.put n l).dk.sync=D.dk.sync:=by rw[fV]
      simp only[e]
      exact ⟨⟨rfl,rfl,fun i _=> get_eq rfl i,Dk.xB hk⟩,fun _ h=> absurd h ct⟩
theorem Dq {D:aY} (hp:D.dk.ej=0) (nZ:D.dk.now=D.dk.bJ) (hk:D.dk.OK):D.step.2.dk.now=D.step.2.dk.bJ∧D.step.2.dk.ej=0∧(∀i,D.step.2.dk.get i=D.dk.get i)∧D.step.2.dk.OK:=by
 cases c1:D.step.1 with
 | false=>
   rw[mZ c1]
   simp only[aY.down,xF hp]
   exact ⟨trivial,trivial,fun i=> get_eq nZ.symm i,⟨hk.bJ,hk.bJ,hk.at_,hk.ls,hk.ls,hk.last⟩⟩
 | true=>
   rw[xE c1]
   exact ⟨nZ,hp,fun i=> rfl,hk⟩
structure HI0 (N:Int) (D:aY):Prop where
 ok:oY 0 N D
 dm:DM D
 dko:D.dk.OK
 nl:D.dk.now=D.dk.bJ
 sm:D.st.mem=D.mem∧D.st.bF=D.bF
 sk:mS D.st
 bey:beyond D.st
 hd:HD D.mem D.bF D.key D.dk D.r D.st
 is:D.is=1∨D.is=2
 cn:D.r.count≤N∧D.r.bZ≤N
structure HI (N:Int) (D:aY):Prop extends HI0 N D where
 hl:D.is=1→bI D.r < 8
theorem HI.new {a b:Int} (k:Bs) (h1:1≤b) (h2:b≤8) (h3:0≤a) (h4:a < b):HI 0 (aY.new a b k):=by
 refine ⟨⟨oY.new k h1 h2 h3 h4,⟨h1,h2,h3,h4⟩,Dk.xA,rfl,⟨rfl,rfl⟩,mS.new h1 h2 h3 h4,fun j _=> rfl,⟨[],bd,[],bD.new a b,rfl,rfl,?_,rfl⟩,.inl rfl,show jQ.count≤0∧jQ.bZ≤0 by decide⟩,fun _=> show bI jQ < 8 by decide⟩
 rw[if_neg (show ¬0 <(aY.new a b k).r.base from (by decide:¬0 < jQ.base))];rfl
theorem Dr {r:ag} {hd:Bs} (hw:r.wf) (hr:bx r=true) (hl:bI r < 8) (hc:r.count < 1099511627776):(eG r hd).2=true:=by
 have:=q11z hr
 rw[q19z hr] at hl
 have mY:bx ⟨r.bZ,r.count+1,r.base,hd,r.aN⟩=true:=by
   unfold bx
   simp only[abY,acM,decide_eq_true_eq]
   have:=hw.base
   exact ⟨⟨⟨⟨⟨by omega,by omega⟩,by omega⟩,by omega⟩,by omega⟩,.inl (by omega)⟩
 unfold eG xz
 rw[if_pos ⟨hr,mY⟩]
theorem Bx {r:ag} (hl:bI r < 8):bU r=2+bI r:=by unfold bU;rw[if_neg (by omega)]
theorem HI0.mk' {N M:Int} {D E:aY} (h:HI0 N D) (hs:D.same E) (hl:(E.dk.now=E.dk.bJ∧E.dk.OK∧tO D.dk E.dk D.r)) (iJ:oY 0 M E) (hN:N≤M) (hi:E.is=D.is∨E.is=2):HI0 M E:=by
 obtain ⟨m1,m2,m3,m4,m5⟩:=hs
 obtain ⟨l1,l2,l3⟩:=hl
 refine ⟨iJ,⟨by rw[m2];exact h.dm.m1,by rw[m2];exact h.dm.m2,by rw[m1];exact h.dm.m3,by rw[m1,m2];exact h.dm.m4⟩,l2,l1,by rw[m1,m2,m4];exact h.sm,by rw[m4];exact h.sk,by rw[m4];exact h.bey,?_,?_,?_⟩
 ·rw[m1,m2,m3,m4,m5]
  exact h.hd.same h.ok.gw.base.1 l3
 ·rcases hi with hi | hi
  ·rw[hi];exact h.is
  ·exact .inr hi
 ·rw[m5];have:=h.cn;omega
theorem O5 {D:aY} {n:Int} {l:Bs} (h:(D.lay n l).1=false):(D.lay n l).2.is=2:=by
 unfold aY.lay at h ⊢
 cases c1:D.step.1 with
 | false=>
   rw[if_pos rfl,mZ c1];rfl
 | true=>
   rw[c1,if_neg (by simp)] at h
   rw[if_neg (by simp)]
   cases c3:(D.step.2.put n l).step.1 with
   | false=> rw[if_pos rfl,mZ c3];rfl
   | true=> rw[c3,if_neg (by simp)] at h;cases h
theorem aY.same.trans {A B C:aY} (h:A.same B) (k:B.same C):A.same C:=by
 obtain ⟨a1,a2,a3,a4,a5⟩:=h
 obtain ⟨b1,b2,b3,b4,b5⟩:=k
 exact ⟨b1.trans a1,b2.trans a2,b3.trans a3,b4.trans a4,b5.trans a5⟩
theorem vX {K K':Dk} {r:ag} {n:Int} (hl:LD K K' n) (h1:n≠r.aN) (h2:n < 2∨2+bI r≤n):tO K K' r:=
 ⟨fun _=> hl.ne _ (fun e=> h1 e.symm),fun i hi=> hl.ne _ (fun e=> by omega)⟩
theorem ru {A B C:Dk} {r:ag} (h:tO A B r) (hg:∀i,C.get i=B.get i):tO A C r:=
 ⟨fun hb=>(hg _).trans (h.1 hb),fun i hi=>(hg _).trans (h.2 i hi)⟩
theorem HI0.fold {N:Int} {D:aY} (h:HI0 N D) (hi:D.is=1) (h8:bI D.r=8):
 HI (N+3) D.fold.2∧D.fold.2.st=D.st∧D.fold.2.r.count=D.r.count∧D.fold.2.r.bZ=D.r.bZ∧(D.fold.1=true→D.fold.2.is=1)∧(D.fold.1=false→D.fold.2.is=2):=by
 have EN:=q11z h.ok.gr
 have hp0:D.dk.ej=0:=Nat.le_zero.1 h.ok.ej
 obtain ⟨hL,hG⟩:=JF hp0 h.nl h.dko (1 - D.r.aN) D.mB
 have ok1:=h.ok.lay (1 - D.r.aN) D.mB
 obtain ⟨s1,i1⟩:=aY.pO D (1 - D.r.aN) D.mB
 have sk1:tO D.dk (D.lay (1 - D.r.aN) D.mB).2.dk D.r:=vX hL (by omega) (.inl (by omega))
 have hil:D.mB.length≤8192:=tJ _ _ _
 have dU:Dk.jR (1 - D.r.aN) D.mB=true:=by
   simp only[Dk.jR,abY,decide_eq_true_eq];omega
 have hf:=O5 (D:=D) (n:=1 - D.r.aN) (l:=D.mB)
 unfold aY.fold
 generalize (D.lay (1 - D.r.aN) D.mB)=L at *
 cases c1:L.1 with
 | false=>
   rw[if_pos rfl]
   obtain ⟨m1,m2,m3,m4,m5⟩:=s1
   have qa:=hf c1
   have h0:=h.mk' ⟨m1,m2,m3,m4,m5⟩ ⟨hL.nl,hL.ok,sk1⟩ (ok1.wk (p':=0) (N':=N+3) (by omega) (by omega)) (by omega) (.inr qa)
   exact ⟨⟨h0,fun h1=> by rw[show (false,L.2).2=L.2 from rfl,qa] at h1;cases h1⟩,m4,by rw[m5],by rw[m5],(fun h=> by cases h),fun _=> qa⟩
 | true=>
   rw[if_neg (by simp)]
   obtain ⟨t1,t2,t3,t4⟩:=Dq hL.p0 hL.nl hL.ok
   have ok2:=ok1.step
   obtain ⟨s2,i2⟩:=aY.jj L.2
   have sk2:=ru sk1 t3
   have s12:=s1.trans s2
   cases c2:L.2.step.1 with
   | false=>
     rw[if_pos rfl]
     have qa:L.2.step.2.is=2:=by rw[mZ c2];rfl
     obtain ⟨m1,m2,m3,m4,m5⟩:=s12
     have h0:=h.mk' ⟨m1,m2,m3,m4,m5⟩ ⟨t1,t4,sk2⟩ (ok2.wk (p':=0) (N':=N+3) (by omega) (by omega)) (by omega) (.inr qa)
     exact ⟨⟨h0,fun h1=> by rw[show (false,L.2.step.2).2=L.2.step.2 from rfl,qa] at h1;cases h1⟩,m4,by rw[m5],by rw[m5],(fun h=> by cases h),fun _=> qa⟩
   | true=>
     rw[if_neg (by simp)]
     have is2:L.2.step.2.is=1:=by rw[i2 c2,i1 c1,hi]
     have uZ:=(t3 (1 - D.r.aN)).trans (hG c1 dU)
     generalize L.2.step.2=E at *
     obtain ⟨m1,m2,m3,m4,m5⟩:=s12
     have hcb:D.r.base < D.r.count:=by rw[q19z h.ok.gr] at h8;omega
     obtain ⟨f1,f2,f3⟩:=HD.fold (key:=D.key) (K:=E.dk) h.ok.gw h.ok.gr hcb h.sk h.bey rfl uZ
     have him:(j7 D.key D.r (kR D.st)).1=D.mB:=rfl
     rw[him] at f1 f2 f3
     simp only[m5]
     have oO:bx (iK D.r (cP D.mB)).1=true:=by
       have:=f2
       unfold iK xz at this ⊢
       rw[if_neg (by omega)] at this ⊢
       split at this
       ·rename_i c;rw[if_pos c];exact c.2
       ·cases this
     have CS:(iK D.r (cP D.mB)).1.wf:=by
       rw[f3]
       obtain ⟨w1,w2,w3,w4,w5⟩:=h.ok.gw
       exact ⟨w1,w2,w2,bG _,by simp only;omega⟩
     have hh0:bI (iK D.r (cP D.mB)).1=0:=by rw[q19z oO,f3];simp
     refine ⟨⟨⟨⟨ok2.ej,ok2.s0,by have:=ok2.s1;simp only;omega,ok2.f1,oO,CS,fun _=> by simp only[m4];exact h.sk,.inl is2⟩,⟨by simp only[m2];exact h.dm.m1,by simp only[m2];exact h.dm.m2,by simp only[m1];exact h.dm.m3,by simp only[m1,m2];exact h.dm.m4⟩,t4,t1,by simp only[m1,m2,m4];exact h.sm,by simp only[m4];exact h.sk,by simp only[m4];exact h.bey,?_,.inl is2,?_⟩,fun _=> by simp only;omega⟩,m4,by simp only[f3],by simp only[f3],fun _=> is2,(fun h=> by cases h)⟩
     ·simp only[m1,m2,m3,m4]
      have:=h.sm
      rw[this.1,this.2] at f1
      exact f1
     ·simp only[f3];have:=h.cn;omega
theorem HI.wk {N M:Int} {D:aY} (h:HI N D) (hm:N≤M):HI M D:=
 ⟨⟨h.ok.wk (ab0 _) hm,h.dm,h.dko,h.nl,h.sm,h.sk,h.bey,h.hd,h.is,by have:=h.cn;omega⟩,h.hl⟩
def Kept (D E:aY) (e:Int) (r:aB):Prop:=
 (E.r=D.r∧E.st=D.st∧e=29∧E.is=2)∨(E.r.count=D.r.count+1∧E.r.bZ=D.r.bZ∧E.st=(bp D.st r).2∧(e=0∧E.is=1∨e=29∧E.is=2))
theorem HI.do {N:Int} {D:aY} (h:HI N D) (hN:N < 1000000000) {r:aB} (hw:r.wf) (hi:D.is=1) (hc:cD D.st r=0):HI (N+6) (D.do r).2∧Kept D (D.do r).2 (D.do r).1 r:=by
 have hrd:j8 D=0:=by unfold j8;rw[if_neg (by omega),if_neg (by omega)]
 have EN:=q11z h.ok.gr
 have hp0:D.dk.ej=0:=Nat.le_zero.1 h.ok.ej
 have hh:=h.hl hi
 have hh0:=pN D.r h.ok.gw
 have qd:=Bx hh
 have hcn:=h.cn
 have re:(D.next r).2=true:=Dr h.ok.gw h.ok.gr hh (by omega)
 have hhl:(eT D.r.head (D.frame r)).length=16:=by simp[eT,cY,bG]
 obtain ⟨n1,n2,n3,n4⟩:=q26z (hd:=eT D.r.head (D.frame r)) h.ok.gw hhl re
 obtain ⟨hL,hG⟩:=JF hp0 h.nl h.dko (bU D.r) (D.frame r)
 have ok1:=h.ok.lay (bU D.r) (D.frame r)
 obtain ⟨s1,i1⟩:=aY.pO D (bU D.r) (D.frame r)
 have sk1:tO D.dk (D.lay (bU D.r) (D.frame r)).2.dk D.r:=vX hL (by omega) (.inr (by omega))
 have oe:=vU D hw hw.aj.2 h.ok.gw.head
 have dU:Dk.jR (bU D.r) (D.frame r)=true:=by
   simp only[Dk.jR,abY,decide_eq_true_eq];omega
 have hf:=O5 (D:=D) (n:=bU D.r) (l:=D.frame r)
 have hpd:D.zg r= {(D.lay (bU D.r) (D.frame r)).2.step.2 with r:=(D.next r).1,st:=(bp (D.lay (bU D.r) (D.frame r)).2.step.2.st r).2}:=rfl
 unfold aY.do
 rw[if_neg (by omega),if_neg (by omega),if_neg (by simp[re]),hpd]
 generalize (D.lay (bU D.r) (D.frame r))=L at *
 cases c1:L.1 with
 | false=>
   rw[if_pos rfl]
   obtain ⟨m1,m2,m3,m4,m5⟩:=s1
   have qa:=hf c1
   have h0:=h.toHI0.mk' ⟨m1,m2,m3,m4,m5⟩ ⟨hL.nl,hL.ok,sk1⟩ (ok1.wk (p':=0) (N':=N+6) (by omega) (by omega)) (by omega) (.inr qa)
   exact ⟨⟨h0,fun h1=> by rw[show ((29:Int),L.2).2=L.2 from rfl,qa] at h1;cases h1⟩,.inl ⟨m5,m4,rfl,qa⟩⟩
 | true=>
   rw[if_neg (by simp)]
   obtain ⟨t1,t2,t3,t4⟩:=Dq hL.p0 hL.nl hL.ok
   have ok2:=ok1.step
   obtain ⟨s2,i2⟩:=aY.jj L.2
   have sk2:=ru sk1 t3
   have s12:=s1.trans s2
   cases c2:L.2.step.1 with
   | false=>
     rw[if_pos rfl]
     have qa:L.2.step.2.is=2:=by rw[mZ c2];rfl
     obtain ⟨m1,m2,m3,m4,m5⟩:=s12
     have h0:=h.toHI0.mk' ⟨m1,m2,m3,m4,m5⟩ ⟨t1,t4,sk2⟩ (ok2.wk (p':=0) (N':=N+6) (by omega) (by omega)) (by omega) (.inr qa)
     exact ⟨⟨h0,fun h1=> by rw[show ((29:Int),L.2.step.2).2=L.2.step.2 from rfl,qa] at h1;cases h1⟩,.inl ⟨m5,m4,rfl,qa⟩⟩
   | true=>
     rw[if_neg (by simp)]
     have is2:L.2.step.2.is=1:=by rw[i2 c2,i1 c1,hi]
     have uZ:=(t3 (bU D.r)).trans (hG c1 dU)
     rw[qd] at uZ
     generalize L.2.step.2=E at *
     obtain ⟨m1,m2,m3,m4,m5⟩:=s12
     have f1:=HD.next (x:=r) (l:=D.frame r) (h.hd.same h.ok.gw.base.1 sk2) h.ok.gw hw h.sk hc rfl re uZ
     have da:eG D.r (eT D.r.head (D.frame r))=D.next r:=rfl
     rw[da] at n1 n3 n4 f1
     have hA:HI0 (N+3) {E with r:=(D.next r).1,st:=(bp E.st r).2}:=by
       refine ⟨⟨ok2.ej,ok2.s0,by have:=ok2.s1;simp only;omega,ok2.f1,n3,n4,fun _=> by simp only[m4];exact tD h.sk hw hw.aj.2,.inl is2⟩,⟨by simp only[m2];exact h.dm.m1,by simp only[m2];exact h.dm.m2,by simp only[m1];exact h.dm.m3,by simp only[m1,m2];exact h.dm.m4⟩,t4,t1,?_,by simp only[m4];exact tD h.sk hw hw.aj.2,by simp only[m4];exact xD h.bey,?_,.inl is2,?_⟩
       ·simp only[m1,m2,m4]
        have:=h.sm
        rw[←this.1,←this.2]
        unfold bp
        split
        ·exact ⟨rfl,rfl⟩
        ·split
         ·exact ⟨rfl,rfl⟩
         ·split
          ·exact ⟨rfl,rfl⟩
          ·split <;> exact ⟨rfl,rfl⟩
       ·simp only[m1,m2,m3,m4]
        exact f1
       ·simp only[n1];omega
     have cn:(D.next r).1.count=D.r.count+1:=by rw[n1]
     have bn:(D.next r).1.bZ=D.r.bZ:=by rw[n1]
     by_cases c8:bI (D.next r).1=8
     ·rw[if_pos c8]
      obtain ⟨g1,g2,g3,g4,g5,g6⟩:=hA.fold is2 c8
      generalize ({E with r:=(D.next r).1,st:=(bp E.st r).2}:aY).fold=Z at *
      refine ⟨g1.wk (by omega),.inr ⟨g3.trans cn,g4.trans bn,by rw[g2,m4],?_⟩⟩
      cases c9:Z.1 with
      | false=> exact .inr ⟨rfl,g6 c9⟩
      | true=> exact .inl ⟨rfl,g5 c9⟩
     ·rw[if_neg c8]
      have hn8:=pN (D.next r).1 n4
      exact ⟨HI.wk ⟨hA,fun _=> by simp only;omega⟩ (by omega),.inr ⟨cn,bn,by simp only[m4],.inl ⟨rfl,is2⟩⟩⟩
theorem MT {r:ag} (hr:bx r=true) (hb:r.bZ < 1099511627776):(eX r).2=true:=by
 have mY:bx ⟨r.bZ+1,r.count,r.base,r.head,r.aN⟩=true:=by
   have:=q11z hr
   unfold bx at hr ⊢
   simp only[abY,acM,decide_eq_true_eq] at hr ⊢
   obtain ⟨⟨⟨⟨⟨h1,h2⟩,h3⟩,h4⟩,h5⟩,h6⟩:=hr
   exact ⟨⟨⟨⟨⟨by omega,h2⟩,h3⟩,h4⟩,h5⟩,h6⟩
 unfold eX xz
 rw[if_pos ⟨hr,mY⟩]
theorem HI.start {N:Int} {D:aY} (h:HI N D) (hN:N < 1000000000) (hi:D.is=2):HI (N+4) D.start.2∧D.start.2.st=D.st∧D.start.2.r.count=D.r.count∧D.start.2.r.bZ=D.r.bZ+1∧
 (D.start.1=0∧D.start.2.is=1∨D.start.1=29∧D.start.2.is=2)∧(bI D.r < 8→D.start=(0, {D.up D.st with r:=⟨D.r.bZ+1,D.r.count,D.r.base,D.r.head,D.r.aN⟩})):=by
 have hcn:=h.cn
 have hb:=MT h.ok.gr (by omega)
 obtain ⟨b1,b2,b3⟩:=q25z h.ok.gw hb
 have hd2:=h.hd.bZ h.ok.gw hb h.ok.gr
 have ID:D.tN.load=some D.st:=HD.load (D:=D.tN) b2 hd2
 have hhe:bI (eX D.r).1=bI D.r:=by rw[q19z b2,q19z h.ok.gr,b1]
 have hup:D.up D.st= {D.up D.st with r:=⟨D.r.bZ+1,D.r.count,D.r.base,D.r.head,D.r.aN⟩}:=by
   rw[←b1];rfl
 have hU:HI0 (N+1) (D.up D.st):=
   ⟨⟨h.ok.ej,h.ok.s0,by have:=h.ok.s1;show D.steps≤_;omega,h.ok.f1,b2,b3,fun _=> h.sk,.inl rfl⟩,⟨h.dm.m1,h.dm.m2,h.dm.m3,h.dm.m4⟩,h.dko,h.nl,h.sm,h.sk,h.bey,hd2,.inl rfl,by show (eX D.r).1.count≤_∧(eX D.r).1.bZ≤_;rw[b1];simp only;omega⟩
 have fW:(D.up D.st).r.count=D.r.count:=by show (eX D.r).1.count=_;rw[b1]
 have hrb:(D.up D.st).r.bZ=D.r.bZ+1:=by show (eX D.r).1.bZ=_;rw[b1]
 have aZ:(D.up D.st).st=D.st:=rfl
 have hui:(D.up D.st).is=1:=rfl
 have hur:(D.up D.st).r=(eX D.r).1:=rfl
 unfold aY.start
 rw[if_neg (by omega),if_neg (by omega),if_neg (by simp[hb]),ID]
 simp only
 rw[←hup]
 generalize D.up D.st=U at *
 by_cases c8:bI (eX D.r).1=8
 ·rw[if_pos c8]
  obtain ⟨g1,g2,g3,g4,g5,g6⟩:=hU.fold hui (by rw[hur];exact c8)
  generalize U.fold=Z at *
  refine ⟨?_,g2.trans aZ,g3.trans fW,g4.trans hrb,?_,fun hc=> by omega⟩
  ·exact g1.wk (by omega)
  ·cases c9:Z.1 with
   | false=> exact .inr ⟨rfl,g6 c9⟩
   | true=> exact .inl ⟨rfl,g5 c9⟩
 ·rw[if_neg c8]
  have h8:=pN (eX D.r).1 b3
  exact ⟨HI.wk ⟨hU,fun _=> by rw[hur];omega⟩ (by omega),aZ,fW,hrb,.inl ⟨rfl,hui⟩,fun _=> rfl⟩
theorem kS {D:aY} (h:D.cU < 0):D.step=(true, {D with steps:=D.steps+1}):=by
 unfold aY.step
 rw[if_neg (by omega),if_neg (by omega)]
theorem tQ {D:aY} (h:D.cU < 0) (n:Int) (l:Bs):D.lay n l=(true, {D with steps:=D.steps+1+1,dk:=(D.put n l).dk.sync}):=by
 have e:({D with steps:=D.steps+1}:aY).put n l= {D.put n l with steps:=D.steps+1}:=rfl
 have h2:({D.put n l with steps:=D.steps+1}:aY).cU < 0:=h
 unfold aY.lay
 rw[kS h]
 simp only[e,kS h2]
 simp only[aes,if_false]
 rfl
theorem EP {D:aY} (h:D.cU < 0):D.fold=(true, {D with steps:=D.steps+1+1+1,dk:=(D.put (1 - D.r.aN) D.mB).dk.sync,r:=(iK D.r (cP D.mB)).1}):=by
 have h2:({D with steps:=D.steps+1+1,dk:=(D.put (1 - D.r.aN) D.mB).dk.sync}:aY).cU < 0:=h
 unfold aY.fold
 rw[tQ h]
 simp only[kS h2,aes,if_false]
theorem xG {N:Int} {D:aY} (h:HI N D) (hN:N < 1000000000) {r:aB} (hw:r.wf) (hi:D.is=1) (hc:cD D.st r=0) (hf:D.cU < 0):
 (D.do r).1=0∧(D.do r).2.is=1∧(D.do r).2.cU=D.cU∧(D.do r).2.steps=D.steps+(if bI D.r=7 then 6 else 3)∧bI (D.do r).2.r=(if bI D.r=7 then 0 else bI D.r+1):=by
 have hrd:j8 D=0:=by unfold j8;rw[if_neg (by omega),if_neg (by omega)]
 have hh:=h.hl hi
 have hcn:=h.cn
 have re:(D.next r).2=true:=Dr h.ok.gw h.ok.gr hh (by omega)
 have hhl:(eT D.r.head (D.frame r)).length=16:=by simp[eT,cY,bG]
 obtain ⟨n1,n2,n3,n4⟩:=q26z (hd:=eT D.r.head (D.frame r)) h.ok.gw hhl re
 have da:eG D.r (eT D.r.head (D.frame r))=D.next r:=rfl
 rw[da] at n1 n3 n4
 have h2:({D with steps:=D.steps+1+1,dk:=(D.put (bU D.r) (D.frame r)).dk.sync}:aY).cU < 0:=hf
 have hp:D.zg r= {D with steps:=D.steps+1+1+1,dk:=(D.put (bU D.r) (D.frame r)).dk.sync,r:=(D.next r).1,st:=(bp D.st r).2}:=by
   unfold aY.zg
   rw[tQ hf]
   simp only[kS h2]
 have O6:bI (D.next r).1=bI D.r+1:=by rw[q19z n3,q19z h.ok.gr,n1];simp only;omega
 unfold aY.do
 rw[if_neg (by omega),if_neg (by omega),if_neg (by simp[re]),tQ hf]
 simp only[kS h2,aes,if_false,hp]
 by_cases c7:bI D.r=7
 ·rw[if_pos (by omega),if_pos c7,if_pos c7]
  have h3:({D with steps:=D.steps+1+1+1,dk:=(D.put (bU D.r) (D.frame r)).dk.sync,r:=(D.next r).1,st:=(bp D.st r).2}:aY).cU < 0:=hf
  rw[EP h3]
  simp only[aes,if_false]
  refine ⟨trivial,hi,trivial,by omega,?_⟩
  have hcb:¬(D.next r).1.count≤(D.next r).1.base:=by rw[q19z n3] at O6;omega
  have EN:=q11z n3
  generalize hb:(cP (aY.mB {D with steps:=D.steps+1+1+1,dk:=(D.put (bU D.r) (D.frame r)).dk.sync,r:=(D.next r).1,st:=(bp D.st r).2}))=sm
  have mY:bx ⟨(D.next r).1.bZ,(D.next r).1.count,(D.next r).1.count,sm,1 - (D.next r).1.aN⟩=true:=by
    unfold bx
    simp only[abY,acM,decide_eq_true_eq]
    have:=n4.base
    exact ⟨⟨⟨⟨⟨by omega,by omega⟩,by omega⟩,by omega⟩,by omega⟩,.inl (by omega)⟩
  have:(iK (D.next r).1 sm).1=⟨(D.next r).1.bZ,(D.next r).1.count,(D.next r).1.count,sm,1 - (D.next r).1.aN⟩:=by
    unfold iK xz
    rw[if_neg hcb,if_pos ⟨n3,mY⟩]
  rw[this,q19z mY]
  simp only;omega
 ·rw[if_neg (by omega),if_neg c7,if_neg c7]
  exact ⟨rfl,hi,rfl,by simp only;omega,O6⟩
def RL (s:bD):Prop:=∀j,j < 16→(s.p j).role=1
theorem MU (k:Bs):RL (aY.new 0 1 k).st:=fun j _=> by simp[aY.new,bD.new,Int.emod_one]
def bR (v:ae):aB:=⟨1,0,0,0,v,[]⟩
theorem By {v:ae} (h:aQ v=true):bj (bR v)=true:=by
 unfold bj bR
 simp[h]
theorem sA {v:ae} (h:v.wf):(bR v).wf:=⟨by simp[bR],by simp[bR],by simp[bR],by simp[bR],h,by simp[bR]⟩
theorem HI.cU {N:Int} {D:aY} (h:HI N D) (n t:Int) (hn:n≤9223372036854775807):HI N (D.Di n t):=by
 obtain ⟨⟨⟨a1,a2,a3,a4,a5,a6,a7,a8⟩,b,c,d,e,f,g,i,j,k⟩,l⟩:=h
 exact ⟨⟨⟨a1,a2,a3,by simp only[aY.Di];omega,a5,a6,a7,a8⟩,⟨b.m1,b.m2,b.m3,b.m4⟩,c,d,e,f,g,i,j,k⟩,l⟩
theorem HI.down {N:Int} {D:aY} (h:HI N D) (t:Int):HI N (D.down t):=by
 have hp0:D.dk.ej=0:=Nat.le_zero.1 h.ok.ej
 have hd:(D.down t).dk= {D.dk with now:=D.dk.bJ,bJ:=D.dk.bJ,ej:=0}:=by simp only[aY.down,xF hp0]
 have hk:=h.dko
 refine ⟨h.toHI0.mk' ⟨rfl,rfl,rfl,rfl,rfl⟩ ⟨by rw[hd],by rw[hd];exact ⟨hk.bJ,hk.bJ,hk.at_,hk.ls,hk.ls,hk.last⟩,⟨fun _=> by rw[hd];exact get_eq h.nl.symm _,fun i _=> by rw[hd];exact get_eq h.nl.symm _⟩⟩ (h.ok.down t) (Int.le_refl _) (.inr rfl),fun hi=> by cases hi⟩
theorem HI.stop {N:Int} {D:aY} (h:HI N D):HI N D.stop:=by
 unfold aY.stop
 split
 ·exact h.down 0
 ·exact h
structure Lw (h H:Hp) (id:Nat) (D:aY) (F:List Nat) (P:Nat→Prop):Prop where
 d:my H id D F
 fw:Fw [] h H
 fn:∀j∈F,h.length≤j
 pn:∀j,P j→j∉F∧j < H.length
theorem Lw.op {h H H':Hp} {id:Nat} {D D':aY} {F F':List Nat} {P:Nat→Prop} (l:Lw h H id D F P) (hd:my H' id D' F') (f:Fw F H H') (hn:∀j∈F',j∈F∨H.length≤j):
 Lw h H' id D' F' P∧∀j b,P j→H[j]? =some b→H'[j]? =some b:=by
 refine ⟨⟨hd,l.fw.new f (fun j hj=> .inl (l.fn j hj)),fun j hj=> ?_,fun j hj=> ?_⟩,fun j b hj hb=> f.cw _ _ hb (l.pn j hj).1⟩
 ·rcases hn j hj with h1 | h1
  ·exact l.fn j h1
  ·have:=l.fw.len;omega
 ·obtain ⟨p1,p2⟩:=l.pn j hj
  refine ⟨fun hm=> ?_,f.lt p2⟩
  rcases hn j hm with h1 | h1
  ·exact p1 h1
  ·omega
theorem Lw.ext {h H H':Hp} {id:Nat} {D:aY} {F:List Nat} {P Q:Nat→Prop} (l:Lw h H id D F P) (f:Fw [] H H') (hq:∀j,Q j→P j∨(H.length≤j∧j < H'.length)):Lw h H' id D F Q:=by
 refine ⟨l.d.mono f (by simp),l.fw.trans f,l.fn,fun j hj=> ?_⟩
 rcases hq j hj with h1 | h1
 ·obtain ⟨p1,p2⟩:=l.pn j h1
  exact ⟨p1,f.lt p2⟩
 ·exact ⟨fun hm=> by have:=l.d.lt j hm;omega,h1.2⟩
def noP (w:Int) (q:Request):ae×av×Bool:=(zeroV,⟨w,q.iD,0,0,[],q.aM,q.num⟩,false)
def lP (s:bD) (q:Request):ae×av×Bool:=
 if dg q=false then (zeroV,⟨12,oj,0,0,[],0,0⟩,false)
 else if (s.p (al q.iD)).role=0 then noP 26 q
 else if (s.p (al q.iD)).role=2 then noP 27 q
 else if (doG ((eO (s.p (al q.iD)).vs q.iD).getD zeroV) q).2.2=true∧eO (s.p (al q.iD)).vs q.iD=none∧4≤(s.p (al q.iD)).vs.length then noP 13 q
 else doG ((eO (s.p (al q.iD)).vs q.iD).getD zeroV) q
theorem JG (b:Nat) (h:Hp) (m:Nat) (s:bD) (F:List Nat) (q:Request) (hs:ji h m s F) (hk:mS s) (hw:q.wf):run fns pr b 37 [.ptr m [0] 1,q.enc] h=some (ez (lP s q),h):=by
 refine Vm.aR (nt:=86) rfl UT (by simp) ?_
 have hq:=fun H=> gW h.length H false q
 have hn:=eF q.iD
 have hid:q.iD.length≤1000000:=by have:=hw.iD;omega
 have pv:=fun H=> gX h.length H q.iD hid
 have mj:=fun X=> Df h.length (h++X) m (al q.iD) s F (hs.app X) hn
 have u5:=fun X=> MD h.length (h++X) m s F q.iD (hs.app X) hk hid
 have qb:=fun X=> tw h.length (h++X) m (al q.iD) s F (hs.app X) hk hn
 have nB:q.enc= .st 33 [.s (.int .i64 q.op),.arr 28 (q.iD.map aa),.arr 22 (q.jm.map aa),.aq false none (q.aL.map aa),.s (.int .i64 q.bT),.arr 22 (q.owner.map aa),.arr 22 (q.jJ.map aa),.s (.int .i64 q.aM),.s (.int .u64 q.num)]:=rfl
 have hqf:q.aI false=q.enc:=rfl
 have yQ:zeroV.enc= .st 37 [z4 28,ku,aK 22,kx,ki,ki,aK 22,.s (.bool false),.s (.bool false)]:=rfl
 have dU:∀X,(h++X).take h.length=h:=fun X=> by simp
 rw[hqf,nB] at hq
 unfold lP
 cases cq:dg q with
 | false=>
   rw[cq] at hq
   rw[if_pos rfl]
   have e1:(⟨12,oj,0,0,[],0,0⟩:av).enc= .st 45 [.s (.int .i64 12),z4 28,ku,ki,kx,ki,ku]:=rfl
   simp only[B37,nB,hq,ez,yQ,e1,go_sem,simprocAttr]
 | true=>
   rw[cq] at hq
   rw[if_neg (show ¬true=false by simp)]
   by_cases r0:(s.p (al q.iD)).role=0
   ·rw[if_pos r0]
    simp only[B37,nB,hq,pv,mj,r0,ez,noP,yQ,av.enc,go_sem,simprocAttr]
   rw[if_neg r0]
   by_cases r2:(s.p (al q.iD)).role=2
   ·rw[if_pos r2]
    simp only[B37,nB,hq,pv,mj,r2,ez,noP,yQ,av.enc,go_sem,simprocAttr]
   rw[if_neg r2]
   have uZ:∀v,eO (s.p (al q.iD)).vs q.iD=some v→v∈(s.p (al q.iD)).vs∧v.iD=q.iD:=fun v hv=> by
     unfold eO at hv
     split at hv
     ·rename_i hc;rw[hv] at hc;exact ⟨ab8 hv,by simpa using hc⟩
     ·cases hv
   generalize hgg:eO (s.p (al q.iD)).vs q.iD=g at *
   have hv0:0≤(g.getD zeroV).gen∧(g.getD zeroV=zeroV∨aQ (g.getD zeroV)=true∧(g.getD zeroV).iD=q.iD):=by
     cases g with
     | none=> exact ⟨by simp[zeroV],.inl rfl⟩
     | some v=> have:=(hk.p _ hn).vs v (uZ v rfl).1;exact ⟨this.2.1.gen.1,.inr ⟨this.1,(uZ v rfl).2⟩⟩
   have hdo:=fun H=> Mn h.length H false false (g.getD zeroV) q hv0.1 cq hv0.2
   have hvf:(g.getD zeroV).aI false=(g.getD zeroV).enc:=rfl
   rw[hqf,hvf,nB] at hdo
   have hvt:∀v:ae,v.enc.ty=some 37:=fun _=> rfl
   have hvz:∀v:ae,v.enc.aw=true:=fun _=> rfl
   have hrt:∀v:av,v.enc.ty=some 45:=fun _=> rfl
   have hrz:∀v:av,v.enc.aw=true:=fun _=> rfl
   generalize doG (g.getD zeroV) q=o at *
   obtain ⟨ov,orr,oc⟩:=o
   simp only[ez] at hdo ⊢
   have hl4:∀cf base H,aD cf base H .len [.aq false (some 37) ((s.p (al q.iD)).vs.map ae.enc)]=some (.s (.int .i64 ((s.p (al q.iD)).vs.length:Nat)),H):=fun cf base H=> by rw[qt];simp
   have fv:∀n H (v:ae),bE n H v.enc=some v.enc:=fun n H v=> kT n H v.enc (by simp[ae.enc,V.plain,V.plain.all,cH])
   have fr:∀n H (v:av),bE n H v.enc=some v.enc:=fun n H v=> kT n H v.enc (by simp[av.enc,V.plain,V.plain.all,cH])
   have gv:∀v:ae,V.ground v.enc=true:=fun v=> jd _ (by simp[ae.enc,V.plain,V.plain.all,cH])
   have gr:∀v:av,V.ground v.enc=true:=fun v=> jd _ (by simp[av.enc,V.plain,V.plain.all,cH])
   have jL:g=none↔g.isSome=false:=by cases g <;> simp
   generalize g.isSome=gs at *
   generalize g.getD zeroV=v0 at *
   cases oc with
   | false=>
     rw[if_neg (by simp)]
     simp only[B37,nB,hq,pv,mj,r0,r2,u5,hdo,hvt,hvz,hrt,hrz,fv,fr,gv,gr,dU,go_sem,simprocAttr]
   | true=>
     cases gs with
     | true=>
       rw[if_neg (by rw[jL];simp)]
       simp only[B37,nB,hq,pv,mj,r0,r2,u5,hdo,hvt,hvz,hrt,hrz,fv,fr,gv,gr,dU,go_sem,simprocAttr]
     | false=>
       by_cases l4:4≤(s.p (al q.iD)).vs.length
       ·have l4':(4:Int)≤((s.p (al q.iD)).vs.length:Nat):=by omega
        rw[if_pos ⟨rfl,jL.2 rfl,l4⟩]
        simp only[B37,nB,hq,pv,mj,r0,r2,u5,hdo,qb,hl4,l4',hvt,hvz,hrt,hrz,fv,fr,gv,gr,dU,noP,yQ,av.enc,go_sem,simprocAttr]
       ·have l4':¬(4:Int)≤((s.p (al q.iD)).vs.length:Nat):=by omega
        rw[if_neg (fun h=> l4 h.2.2)]
        simp only[B37,nB,hq,pv,mj,r0,r2,u5,hdo,qb,hl4,l4',hvt,hvz,hrt,hrz,fv,fr,gv,gr,dU,go_sem,simprocAttr]
def gk (k:Bs) (t:UInt8) (l:Bs):Request×Int:=
 if l.length < 16 then (gO,12) else if 8192 < l.length then (gO,3) else
  match jt k t l with
  | none=>(gO,30)
  | some x=> qv x
theorem RM (n:Nat) (H:Hp) (q:Request):bE n H q.enc=some q.enc:=kT n H q.enc (by simp[Request.enc,V.plain,V.plain.all,cH])
theorem RN (q:Request):V.ground q.enc=true:=jd _ (by simp[Request.enc,V.plain,V.plain.all,cH])
theorem RO (q:Request):q.enc.ty=some 33:=rfl
theorem RP (q:Request):q.enc.aw=true:=rfl
theorem Bz (q:av):q.enc.ty=some 45:=rfl
theorem BA (q:av):q.enc.aw=true:=rfl
theorem vY (b:Nat) (h:Hp) (y:V) (k l:Bs) (m:Int) (hk:k.length=16) (hy:BR h y l):run fns pr b 36 [.arr 22 (k.map aa),.s (.int .i64 m),y] h=some (.bM [(gk k (bt m) l).1.enc,.s (.int .i64 (gk k (bt m) l).2)],h):=by
 refine Vm.aR (nt:=26) rfl UR (by simp) ?_
 have dt:(k.map aa).length=16:=by simp[hk]
 have ho:=fun X=> I4 h.length (h++X) y k l (bt m) hk (hy.mono (Fw.app [] h X))
 have ht:=fun H x=> xn h.length H false x
 have yQ:gO.enc= .st 33 [ki,z4 28,aK 22,kx,ki,aK 22,aK 22,ki,ku]:=rfl
 have dU:∀X,(h++X).take h.length=h:=fun X=> by simp
 unfold gk
 unfold kO at ho
 by_cases c0:l.length < 16
 ·rw[if_pos c0]
  simp only[if_pos c0] at ho
  simp only[B36,dt,j4,ho,yQ,dU,go_sem,simprocAttr]
 rw[if_neg c0]
 simp only[if_neg c0] at ho
 by_cases c1:8192 < l.length
 ·rw[if_pos c1]
  simp only[if_pos c1] at ho
  simp only[B36,dt,j4,ho,yQ,dU,go_sem,simprocAttr]
 rw[if_neg c1]
 simp only[if_neg c1] at ho
 cases hu:jt k (bt m) l with
 | none=>
   rw[hu] at ho
   simp only[fM] at ho
   simp only[B36,dt,j4,ho,yQ,dU,go_sem,simprocAttr]
 | some x=>
   rw[hu] at ho
   simp only[fM] at ho
   simp only
   simp only[B36,dt,j4,ho,dU,ht,RO,RP,RM,RN,go_sem,simprocAttr]
theorem tR {r:av} (hw:r.wf) (hr:bQ r=true):(dr r).length≤100:=by
 have Ax:r.aL.length≤64:=by
   unfold bQ at hr
   simp only[abY,decide_eq_true_eq] at hr
   exact hr.2
 have:=hw.iD
 simp[dr];omega
theorem JH (b:Nat) (h:Hp) (q:Request) (r:av) (hq:q.wf) (hw:r.wf) (hr:bQ r=true) (hcb:0≤q.aM∧q.aM≤1000):run fns pr b 39 [q.enc,r.enc] h=some (.bM [.aq false none ((cI q.jJ q.num.toNat (bt (128+q.aM)) (dr r)).map aa),.s (.int .i64 0)],h):=by
 refine Vm.aR (nt:=28) rfl UY (by simp) ?_
 have hrp:=fun H=> IV h.length H false r hw
 rw[hr] at hrp
 simp only[if_true] at hrp
 have mV:r.aI false=r.enc:=rfl
 rw[mV] at hrp
 have dt:=hq.jJ
 have hl:=tR hw hr
 obtain ⟨n,hn⟩:∃n:Nat,q.num=n:=⟨q.num.toNat,by have:=hq.num;omega⟩
 have hnt:q.num.toNat=n:=by omega
 have mH:=fun H=> Ez h.length H (.aq false none ((dr r).map aa)) q.jJ (dr r) n (bt (128+q.aM)) dt (by have:=hq.num;omega) (cm _ _ _)
 unfold oT at mH
 simp only[if_pos (show (dr r).length≤8176 by omega)] at mH
 have nB:q.enc= .st 33 [.s (.int .i64 q.op),.arr 28 (q.iD.map aa),.arr 22 (q.jm.map aa),.aq false none (q.aL.map aa),.s (.int .i64 q.bT),.arr 22 (q.owner.map aa),.arr 22 (q.jJ.map aa),.s (.int .i64 q.aM),.s (.int .u64 (n:Int))]:=by rw[←hn];rfl
 have hbt:IntKind.i64.wrap (128+q.aM)=128+q.aM:=wrap_i64 (by omega) (by omega)
 rw[hnt]
 simp only[B39,nB,Bz,BA,hrp,j4,hbt,mH,go_sem,simprocAttr]
theorem BB (b:Nat) (h:Hp) (id:Nat) (D:aY) (F:List Nat) (y:V) (k l:Bs) (q:Request) (v:ae) (r:av) (c:Bool) (N:Int) (hb:b≤h.length) (hF:∀j∈F,b≤j) (hd:my h id D F) (hI:HI N D) (hN:N < 1000000000 - 20) (is1:D.is=1) (fu:D.cU < 0)
 (hy:BR h y l) (hk:k.length=16) (ho:gk k (bt D.st.mem) l=(q,0)) (hqw:q.wf) (hqr:dg q=true) (hp:lP D.st q=(v,r,c)) (AE:bQ r=true) (hrw:r.wf) (hcb:0≤q.aM∧q.aM≤1000) (hv:c=true→v.wf∧cD D.st (bR v)=0):
 ∃a h',run fns pr b 11 [.ptr id [0] 1,.arr 22 (k.map aa),y] h=some (a,h')∧a= .bM [(⟨cI q.jJ q.num.toNat (bt (128+q.aM)) (dr r),q.aM,true,c,⟨D.st.mem,q,r⟩⟩:Answer).enc,.s (.int .i64 0)]∧
  ∃F',my h' id (if c=true then (D.do (bR v)).2 else D) F'∧Fw F h h'∧∀j∈F',j∈F∨h.length≤j:=by
 have dt:(k.map aa).length=16:=by simp[hk]
 have fA:Fw [] h (h++[aT.cells (some 22) [.arr 22 (k.map aa)],aT.cells (some 49) [(V.st 49 [kx,ki,.s (.bool false),.s (.bool false),.st 47 [ki,.st 33 [ki,z4 28,aK 22,kx,ki,aK 22,aK 22,ki,ku],.st 45 [ki,z4 28,ku,ki,kx,ki,ku]]])]]):=Fw.app [] h _
 have hdA:=hd.app [aT.cells (some 22) [.arr 22 (k.map aa)],aT.cells (some 49) [(V.st 49 [kx,ki,.s (.bool false),.s (.bool false),.st 47 [ki,.st 33 [ki,z4 28,aK 22,kx,ki,aK 22,aK 22,ki,ku],.st 45 [ki,z4 28,ku,ki,kx,ki,ku]]])]]
 have gk0:(h++[aT.cells (some 22) [.arr 22 (k.map aa)],aT.cells (some 49) [(V.st 49 [kx,ki,.s (.bool false),.s (.bool false),.st 47 [ki,.st 33 [ki,z4 28,aK 22,kx,ki,aK 22,aK 22,ki,ku],.st 45 [ki,z4 28,ku,ki,kx,ki,ku]]])]])[h.length]? =some (aT.cells (some 22) [.arr 22 (k.map aa)]):=aO _ _
 have ga0:(h++[aT.cells (some 22) [.arr 22 (k.map aa)],aT.cells (some 49) [(V.st 49 [kx,ki,.s (.bool false),.s (.bool false),.st 47 [ki,.st 33 [ki,z4 28,aK 22,kx,ki,aK 22,aK 22,ki,ku],.st 45 [ki,z4 28,ku,ki,kx,ki,ku]]])]])[h.length+1]? =some (aT.cells (some 49) [(V.st 49 [kx,ki,.s (.bool false),.s (.bool false),.st 47 [ki,.st 33 [ki,z4 28,aK 22,kx,ki,aK 22,aK 22,ki,ku],.st 45 [ki,z4 28,ku,ki,kx,ki,ku]]])]):=by rw[aJ];rfl
 have hlA:(h++[aT.cells (some 22) [.arr 22 (k.map aa)],aT.cells (some 49) [(V.st 49 [kx,ki,.s (.bool false),.s (.bool false),.st 47 [ki,.st 33 [ki,z4 28,aK 22,kx,ki,aK 22,aK 22,ki,ku],.st 45 [ki,z4 28,ku,ki,kx,ki,ku]]])]]).length=h.length+2:=by simp
 refine Vm.eV (nt:=99) rfl Hd (by simp) ?_
 generalize hGA:h++[aT.cells (some 22) [.arr 22 (k.map aa)],aT.cells (some 49) [(V.st 49 [kx,ki,.s (.bool false),.s (.bool false),.st 47 [ki,.st 33 [ki,z4 28,aK 22,kx,ki,aK 22,aK 22,ki,ku],.st 45 [ki,z4 28,ku,ki,kx,ki,ku]]])]]=GA at *
 have his:=O2 b GA id D F hdA
 obtain ⟨v1,H1,q1,C0⟩:=Dm b GA id D F (by omega) hdA (fun _=> hI.sk)
 rw[if_pos is1] at C0
 obtain ⟨F1,rfl,st1,f1,n1⟩:=C0
 have gk1:=f1.cw _ _ gk0 (by simp)
 have ga1:=f1.cw _ _ ga0 (by simp)
 have va:=f1.len
 have hwo:=Bp b H1 _ D.st F1 st1
 have ah:=vY b H1 y k l D.st.mem hk ((hy.mono fA).mono f1)
 rw[ho] at ah
 have qd:=fun X=> JG b (H1++X) _ D.st F1 q (st1.app X) hI.sk hqw
 rw[hp] at qd
 simp only[ez] at qd
 have Ax:=fun H=> JH b H q r hqw hrw AE hcb
 have nB:q.enc= .st 33 [.s (.int .i64 q.op),.arr 28 (q.iD.map aa),.arr 22 (q.jm.map aa),.aq false none (q.aL.map aa),.s (.int .i64 q.bT),.arr 22 (q.owner.map aa),.arr 22 (q.jJ.map aa),.s (.int .i64 q.aM),.s (.int .u64 q.num)]:=rfl
 simp only[nB] at ah qd Ax
 have yO:b≤H1.length:=by omega
 have hbk:∀n,b≤H1.length+n:=fun n=> by omega
 have hai:h.length+1 < H1.length:=by omega
 have f01:Fw [] h H1:=fA.trans f1
 have GZ:=hdA.mono f1 (by simp)
 have fS:∀(H:Hp) (es es':List V),H[h.length+1]? =some (.cells (some 49) es)→Fw [h.length+1] H (H.set (h.length+1) (.cells (some 49) es')):=fun H es es' hg=> Fw.set (by simp) hg
 have hnF:∀j∈F,j∉ [h.length+1]:=fun j hj e=> by simp at e;have:=hd.lt j hj;omega
 cases c with
 | false=>
   rw[if_neg (by simp)]
   simp only[B11,dt,hGA,his,is1,q1,hwo,gk1,ga1,ah,qd,Ax,nB,Bz,BA,bq,bu,yO,hbk,hai,decide_true,adJ,Answer.enc,j3.enc,show b≤h.length+1 from by omega,go_sem,simprocAttr]
   exact ⟨F,((GZ.mono (fS _ _ _ ga1) hnF).app _),(((f01.bY (by omega) _).trans (Fw.app [] _ _)).mono (by simp)),fun j hj=> .inl hj⟩
 | true=>
   obtain ⟨hvw,ai⟩:=hv rfl
   rw[if_pos rfl]
   have aaO:=xG hI (by omega) (sA hvw) is1 ai fu
   obtain ⟨BQ,hBQ⟩:∃BQ,aT.cells (some 33) [V.st 33 [.s (.int .i64 q.op),.arr 28 (q.iD.map aa),.arr 22 (q.jm.map aa),.aq false none (q.aL.map aa),.s (.int .i64 q.bT),.arr 22 (q.owner.map aa),.arr 22 (q.jJ.map aa),.s (.int .i64 q.aM),.s (.int .u64 q.num)]]=BQ:=⟨_,rfl⟩
   obtain ⟨BD,hBD⟩:∃BD,aT.cells (some 47) [V.st 47 [.s (.int .i64 D.st.mem),V.st 33 [.s (.int .i64 q.op),.arr 28 (q.iD.map aa),.arr 22 (q.jm.map aa),.aq false none (q.aL.map aa),.s (.int .i64 q.bT),.arr 22 (q.owner.map aa),.arr 22 (q.jJ.map aa),.s (.int .i64 q.aM),.s (.int .u64 q.num)],r.enc]]=BD:=⟨_,rfl⟩
   have f2:Fw [] H1 (H1++[BQ,.cells (some 37) [v.enc],.cells (some 45) [r.enc],BD]):=Fw.app _ _ _
   have hd2:=GZ.mono f2 (by simp)
   have hrg:=rn b _ id D F hd2
   obtain ⟨v3,H3,q3,rfl,F3,d3,f3,n3⟩:=O3 b _ id D F (bR v) hF hd2 N hN hI.ok (sA hvw) (by simp[bR])
   rw[aaO.1] at q3
   have xx:(bR v).enc= .st 40 [.s (.int .i64 1),ki,ki,ku,v.enc,.aq false (some 37) []]:=rfl
   rw[xx] at q3
   have re:∀i,H1.length≤i→i∉F:=fun i hi hj=> by have:=hd.lt _ hj;omega
   have g1:=f3.cw H1.length _ (aO _ _) (re _ (ab0 _))
   have g3:=f3.cw (H1.length+2) _ (by rw[aJ];rfl) (re _ (by omega))
   have g4:=f3.cw (H1.length+3) _ (by rw[aJ];rfl) (re _ (by omega))
   have ga3:=f3.cw (h.length+1) _ (f2.cw _ _ ga1 (by simp)) (fun hj=> by have:=hd.lt _ hj;omega)
   have xv:=f3.len
   simp only[abZ,acj,acz] at xv n3
   have aaP:h.length+1 < H3.length:=by omega
   have hde:D.r.enc= .st 63 [.s (.int .u64 D.r.bZ),.s (.int .u64 D.r.count),.s (.int .u64 D.r.base),.arr 22 (D.r.head.map aa),.s (.int .i64 D.r.aN)]:=rfl
   subst hBQ hBD
   simp only[B11,dt,hGA,his,is1,q1,hwo,gk1,ga1,ah,qd,Ax,nB,Bz,BA,bq,bu,yO,hbk,hai,hrg,hde,q3,g1,g3,g4,ga3,aaP,decide_true,adJ,Answer.enc,j3.enc,show b≤h.length+1 from by omega,go_sem,simprocAttr]
   have fz:Fw F h H3:=((f01.trans f2).mono (T:=F) (by simp)).new f3 (fun j hj=> .inr hj)
   refine ⟨F3,d3.mono (fS _ _ _ ga3) (fun j hj e=> ?_),fz.bY (by omega) _,fun j hj=> ?_⟩
   ·simp only[aeq] at e
    rcases n3 j hj with h1 | h1
    ·have:=hd.lt j h1;omega
    ·omega
   ·rcases n3 j hj with h1 | h1
    ·exact .inl h1
    ·exact .inr (by omega)
theorem sB {n:Nat} {m:Bs} (hm:m.length=n) (rest:Bs):bN n (m++rest,false)=(m,(rest,false)):=by
 unfold bN
 rw[if_pos ⟨rfl,by simp;omega⟩]
 simp[←hm]
theorem MV (x:UInt8) (rest:Bs):bN 1 (x::rest,false)=([x],(rest,false)):=sB (m:=[x]) rfl rest
theorem oZ {q:Request} (hr:dg q=true):1≤q.op∧q.op≤4∧0≤q.bT∧q.bT≤32∧q.aL.length≤64∧0≤q.aM∧q.aM < 4∧q.num≤1099511627776:=by
 unfold dg rV at hr
 simp only[abY,decide_eq_true_eq] at hr
 obtain ⟨⟨⟨h1,h2⟩,h3⟩,h4⟩:=hr
 split at h4
 ·simp only[abY,decide_eq_true_eq] at h4;omega
 ·split at h4
  ·simp only[abY,decide_eq_true_eq] at h4;omega
  ·split at h4
   ·simp only[abY,decide_eq_true_eq] at h4;omega
   ·cases h4
theorem RQ (q:Request) (hw:q.wf) (hr:dg q=true):xl (lG q,false)=(q,([],false)):=by
 obtain ⟨w1,w2,w3,w4,w5,w6,w7,w8,w9⟩:=hw
 have hq:=oZ hr
 have e1:=eb (n:=q.op) (by omega) (by omega)
 have e2:=eb (n:=q.bT) (by omega) (by omega)
 have e3:=eb (n:=q.aM) (by omega) (by omega)
 have e4:((eA (aF q.num.toNat):Nat):Int)=q.num:=by rw[gj _ (by omega)];omega
 have e5:(bt (q.aL.length:Nat)).toNat=q.aL.length:=by have:=eb (n:=(q.aL.length:Nat)) (by omega) (by omega);omega
 obtain ⟨op,id,jm,se,li,ow,ke,cl,nu⟩:=q
 simp only at *
 have t9:aV se.length (se,false)=(se,([],false)):=by have:=ea (m:=se) rfl [] false;simpa using this
 simp only[xl,lG,acL,acD,nH,ea w2,ea w3,ea w6,ea w7,ea (aG _),pB,lM,e1,e2,e3,e4,e5,t9]
theorem JI (q:Request) (hw:q.wf) (hr:dg q=true):qv (lG q)=(q,0):=by
 unfold qv
 rw[RQ q hw hr]
 simp[hr]
theorem RR (q:av) (hw:q.wf) (hr:bQ q=true):xq (dr q,false)=(q,([],false)):=by
 obtain ⟨w1,w2,w3,w4,w5,w6,w7⟩:=hw
 unfold bQ rV at hr
 simp only[abY,decide_eq_true_eq] at hr
 have e1:=eb (n:=q.wY) (by omega) (by omega)
 have e2:=eb (n:=q.left) (by omega) (by omega)
 have e3:=eb (n:=q.aM) (by omega) (by omega)
 have e4:((eA (aF q.num.toNat):Nat):Int)=q.num:=by rw[gj _ (by omega)];omega
 have e6:((eA (aF q.gen.toNat):Nat):Int)=q.gen:=by rw[gj _ (by omega)];omega
 have e5:(bt (q.aL.length:Nat)).toNat=q.aL.length:=by have:=eb (n:=(q.aL.length:Nat)) (by omega) (by omega);omega
 obtain ⟨wh,id,ge,le,se,cl,nu⟩:=q
 simp only at *
 have t9:bN se.length (se,false)=(se,([],false)):=by have:=sB (m:=se) rfl [];simpa using this
 simp only[xq,dr,acL,acD,MV,sB w2,sB (aG _),lM,e1,e2,e3,e4,e5,e6,t9]
theorem JJ (q:av) (hw:q.wf) (hr:bQ q=true):tl (dr q)=(q,true):=by
 unfold tl
 rw[RR q hw hr]
 simp[hr]
theorem BC (k:Bs) (n:Nat) (ad l:Bs) (h1:l.length≤8184) (h2:ad.length≤8192):(ek k n ad l).length=l.length+8:=by
 unfold ek
 rw[if_pos ⟨h1,h2⟩,abZ,gd,gV]
theorem ou (k:Bs) (n:Nat) (t:UInt8) (l:Bs) (hn:n < 18446744073709551616) (hl:l.length≤8176):jt k t (cI k n t l)=some l∧16≤(cI k n t l).length∧(cI k n t l).length≤8192:=by
 have hs:=BC (dZ k n) n [t] l (by omega) (by simp)
 have h8:(cI k n t l).take 8=aF n:=by unfold cI;rw[acq (by rw[aG];omega),abX (by rw[aG];omega)]
 have d8:(cI k n t l).drop 8=ek (dZ k n) n [t] l:=by unfold cI;rw[aeD (by rw[aG];omega),acO (by rw[aG];omega)];rfl
 refine ⟨?_,?_,?_⟩
 ·unfold jt
  rw[h8,d8,gj n hn]
  exact qA _ _ _ _ (by omega) (by simp)
 ·unfold cI;rw[abZ,aG,hs];omega
 ·unfold cI;rw[abZ,aG,hs];omega
theorem tS {q:Request} (hw:q.wf) (hr:dg q=true):(lG q).length≤200:=by
 have hq:=oZ hr
 have h1:=hw.iD;have h2:=hw.jm;have h3:=hw.owner;have h4:=hw.jJ
 simp[lG,aG];omega
theorem lQ (k:Bs) (n:Nat) (t:UInt8) (q:Request) (hn:n < 18446744073709551616) (hw:q.wf) (hr:dg q=true):gk k t (cI k n t (lG q))=(q,0):=by
 obtain ⟨h1,h2,h3⟩:=ou k n t (lG q) hn (by have:=tS hw hr;omega)
 unfold gk
 rw[if_neg (by omega),if_neg (by omega),h1]
 exact JI q hw hr
theorem xH :(⟨[],0,false,false,⟨0,gO,kM⟩⟩:Answer).enc= .st 49 [kx,ki,.s (.bool false),.s (.bool false),.st 47 [ki,.st 33 [ki,z4 28,aK 22,kx,ki,aK 22,aK 22,ki,ku],.st 45 [ki,z4 28,ku,ki,kx,ki,ku]]]:=rfl
theorem MW (b:Nat) (h:Hp) (y:V) (k:Bs) (hb:b≤h.length) (hk:k.length=16):∃a h',run fns pr b 11 [.s (.pointer none),.arr 22 (k.map aa),y] h=some (a,h')∧a= .bM [(⟨[],0,false,false,⟨0,gO,kM⟩⟩:Answer).enc,.s (.int .i64 1)]∧Fw [] h h':=by
 have dt:(k.map aa).length=16:=by simp[hk]
 refine Vm.eV (nt:=99) rfl Hd (by simp) ?_
 have vl:b≤h.length+1:=by omega
 simp only[B11,dt,xH,vl,decide_true,adJ,go_sem,simprocAttr]
 exact Fw.app _ _ _
theorem MX (b:Nat) (h:Hp) (id:Nat) (D:aY) (F:List Nat) (y:V) (k l:Bs) (e:Int) (N:Int) (hb:b≤h.length) (hd:my h id D F) (hI:HI N D) (is1:D.is=1) (hy:BR h y l) (hk:k.length=16) (ho:gk k (bt D.st.mem) l=(gO,e)) (he:e≠0):
 ∃a h',run fns pr b 11 [.ptr id [0] 1,.arr 22 (k.map aa),y] h=some (a,h')∧a= .bM [(⟨[],0,false,false,⟨0,gO,kM⟩⟩:Answer).enc,.s (.int .i64 e)]∧Fw [] h h':=by
 have dt:(k.map aa).length=16:=by simp[hk]
 have fA:Fw [] h (h++[aT.cells (some 22) [.arr 22 (k.map aa)],aT.cells (some 49) [(⟨[],0,false,false,⟨0,gO,kM⟩⟩:Answer).enc]]):=Fw.app [] h _
 have hdA:=hd.app [aT.cells (some 22) [.arr 22 (k.map aa)],aT.cells (some 49) [(⟨[],0,false,false,⟨0,gO,kM⟩⟩:Answer).enc]]
 have gk0:(h++[aT.cells (some 22) [.arr 22 (k.map aa)],aT.cells (some 49) [(⟨[],0,false,false,⟨0,gO,kM⟩⟩:Answer).enc]])[h.length]? =some (aT.cells (some 22) [.arr 22 (k.map aa)]):=aO _ _
 have ga0:(h++[aT.cells (some 22) [.arr 22 (k.map aa)],aT.cells (some 49) [(⟨[],0,false,false,⟨0,gO,kM⟩⟩:Answer).enc]])[h.length+1]? =some (aT.cells (some 49) [(⟨[],0,false,false,⟨0,gO,kM⟩⟩:Answer).enc]):=by rw[aJ];rfl
 have hlA:(h++[aT.cells (some 22) [.arr 22 (k.map aa)],aT.cells (some 49) [(⟨[],0,false,false,⟨0,gO,kM⟩⟩:Answer).enc]]).length=h.length+2:=by simp
 rw[xH] at *
 refine Vm.eV (nt:=99) rfl Hd (by simp) ?_
 generalize hGA:h++[aT.cells (some 22) [.arr 22 (k.map aa)],aT.cells (some 49) [V.st 49 [kx,ki,.s (.bool false),.s (.bool false),.st 47 [ki,.st 33 [ki,z4 28,aK 22,kx,ki,aK 22,aK 22,ki,ku],.st 45 [ki,z4 28,ku,ki,kx,ki,ku]]]]]=GA at *
 have his:=O2 b GA id D F hdA
 obtain ⟨v1,H1,q1,C0⟩:=Dm b GA id D F (by omega) hdA (fun _=> hI.sk)
 rw[if_pos is1] at C0
 obtain ⟨F1,rfl,st1,f1,n1⟩:=C0
 have gk1:=f1.cw _ _ gk0 (by simp)
 have ga1:=f1.cw _ _ ga0 (by simp)
 have va:=f1.len
 have hwo:=Bp b H1 _ D.st F1 st1
 have ah:=vY b H1 y k l D.st.mem hk ((hy.mono fA).mono f1)
 rw[ho] at ah
 have yQ:gO.enc= .st 33 [ki,z4 28,aK 22,kx,ki,aK 22,aK 22,ki,ku]:=rfl
 simp only[yQ] at ah
 have yO:b≤H1.length:=by omega
 have vl:b≤h.length+1:=by omega
 have hai:h.length+1 < H1.length:=by omega
 simp only[B11,dt,hGA,his,is1,q1,hwo,gk1,ga1,ah,yO,hai,he,vl,decide_true,adJ,go_sem,simprocAttr]
 exact ((fA.trans f1).bY (by omega) _).trans (Fw.app _ _ _)
def je (n:UInt8):Bs:=[n,0,0,0,0,0,0,0,0,0,0,0,0,0,0,0]
theorem BE {s:bD} {v:ae} (hr:aQ v=true) (h1:(s.p (al v.iD)).role=1) (h2:(eO (s.p (al v.iD)).vs v.iD).isSome=true∨(s.p (al v.iD)).vs.length < 4):cD s (bR v)=0:=by
 have AE:=By hr
 unfold cD
 rw[if_neg (by rw[AE];simp),if_pos (show (bR v).kind=1 from rfl)]
 unfold oU
 have hkv:(bR v).ax=v:=rfl
 rw[hkv,if_neg (by omega),if_neg (by omega),if_neg]
 rintro ⟨a,b⟩
 rcases h2 with h2 | h2
 ·rw[a] at h2;cases h2
 ·omega
theorem ER {s:bD} {v:ae} (hk:mS s) (hr:aQ v=true) (hc:cD s (bR v)=0) (Bb:mS (bp s (bR v)).2) (h2:(eO (s.p (al v.iD)).vs v.iD).isSome=true∨(s.p (al v.iD)).vs.length < 4):eO ((bp s (bR v)).2.p (al v.iD)).vs v.iD=some v:=by
 have hn:=eF v.iD
 have qb:((bp s (bR v)).2.p (al v.iD)).vs=ir (s.p (al v.iD)).vs v:=by
   unfold bp
   rw[if_neg (by omega),if_pos (show (bR v).kind=1 from rfl)]
   have hkv:(bR v).ax=v:=rfl
   rw[hkv]
   simp only[pM]
   refine tC (hk.p _ hn).EF hr fun h=> ?_
   rcases h2 with h2 | h2
   ·rw[h] at h2;cases h2
   ·exact h2
 have hrs:=(Bb.p _ hn).EF
 refine Jf hrs ?_
 rw[qb]
 simp[ir]
theorem BF {s:bD} {v:ae} (h1:(s.p (al v.iD)).role=1):((bp s (bR v)).2.p (al v.iD)).role=1:=by
 unfold bp
 split
 ·exact h1
 ·rw[if_pos (show (bR v).kind=1 from rfl)]
  have hkv:(bR v).ax=v:=rfl
  rw[hkv]
  simp only[pM];exact h1
theorem tT (s:bD) (r:aB):(bp s r).2.mem=s.mem∧(bp s r).2.bF=s.bF:=by
 unfold bp
 split
 ·exact ⟨rfl,rfl⟩
 ·split
  ·exact ⟨rfl,rfl⟩
  ·split
   ·exact ⟨rfl,rfl⟩
   ·split <;> exact ⟨rfl,rfl⟩
theorem Ds (b:Nat) (h:Hp) (id:Nat) (D:aY) (F:List Nat) (y:V) (k l:Bs) (q:Request) (g:Option ae) (v:ae) (r:av) (c:Bool) (N:Int) (hb:b≤h.length) (hF:∀j∈F,b≤j) (hd:my h id D F) (hI:HI N D) (hN:N < 1000000000 - 20) (is1:D.is=1) (fu:D.cU < 0)
 (hy:BR h y l) (hk:k.length=16) (ho:gk k (bt D.st.mem) l=(q,0)) (hqw:q.wf) (hqr:dg q=true) (h1:(D.st.p (al q.iD)).role=1) (hg:eO (D.st.p (al q.iD)).vs q.iD=g) (hp:doG (g.getD zeroV) q=(v,r,c)) (AE:bQ r=true) (hrw:r.wf)
 (hv:c=true→v.wf∧aQ v=true∧v.iD=q.iD∧(g.isSome=true∨(D.st.p (al q.iD)).vs.length < 4)):
 ∃a h' D' F',run fns pr b 11 [.ptr id [0] 1,.arr 22 (k.map aa),y] h=some (a,h')∧a= .bM [(⟨cI q.jJ q.num.toNat (bt (128+q.aM)) (dr r),q.aM,true,c,⟨D.st.mem,q,r⟩⟩:Answer).enc,.s (.int .i64 0)]∧
  my h' id D' F'∧Fw F h h'∧(∀j∈F',j∈F∨h.length≤j)∧HI (N+6) D'∧D'.is=1∧D'.cU=D.cU∧(D'.st.p (al q.iD)).role=1∧D'.st.mem=D.st.mem∧eO (D'.st.p (al q.iD)).vs q.iD=(if c=true then some v else g)∧D'.r.count=D.r.count+(if c=true then 1 else 0)∧(c=false→D'.steps=D.steps):=by
 have hqb:=oZ hqr
 have hps:lP D.st q=(v,r,c):=by
   unfold lP
   rw[if_neg (by rw[hqr];simp),if_neg (by omega),if_neg (by omega),hg,hp,if_neg]
   rintro ⟨a1,a2,a3⟩
   rcases (hv a1).2.2.2 with h | h
   ·rw[a2] at h;cases h
   ·omega
 have ai:c=true→v.wf∧cD D.st (bR v)=0:=fun hc=> by
   obtain ⟨a1,a2,a3,a4⟩:=hv hc
   refine ⟨a1,BE a2 (by rw[a3];exact h1) ?_⟩
   rw[a3,hg];exact a4
 obtain ⟨a,h',q1,rfl,F',d',f',n'⟩:=BB b h id D F y k l q v r c N hb hF hd hI hN is1 fu hy hk ho hqw hqr hps AE hrw ⟨by omega,by omega⟩ ai
 refine ⟨_,h',_,F',q1,rfl,d',f',n',?_⟩
 cases c with
 | false=>
   simp only[aca,if_false]
   exact ⟨hI.wk (by omega),is1,trivial,h1,trivial,hg,by omega,fun _=> trivial⟩
 | true=>
   obtain ⟨a1,a2,a3,a4⟩:=hv rfl
   obtain ⟨_,hc0⟩:=ai rfl
   simp only[if_true]
   obtain ⟨u1,u2,u3,_,_⟩:=xG hI (by omega) (sA a1) is1 hc0 fu
   obtain ⟨hJ,kp⟩:=hI.do (by omega) (sA a1) is1 hc0
   rcases kp with ⟨_,_,z,_⟩ | ⟨z1,_,z3,_⟩
   ·omega
   ·have hsk:=hJ.sk
    rw[z3] at hsk
    have ga:=ER hI.sk a2 hc0 hsk (by rw[a3,hg];exact a4)
    have ra:=BF (s:=D.st) (v:=v) (by rw[a3];exact h1)
    rw[a3] at ga ra
    refine ⟨hJ,u2,u3,by rw[z3];exact ra,by rw[z3];exact (tT _ _).1,by rw[z3];exact ga,by omega,fun h=> by cases h⟩
def qK :Request:=⟨1,[1,0,0,0],bd,[115],2,bd,je 5,0,0⟩
def rK :av:=⟨0,[1,0,0,0],1,2,[],0,0⟩
def vK :ae:=⟨[1,0,0,0],1,bd,[115],2,0,bd,false,false⟩
theorem Dt :qK.wf:=⟨by decide,rfl,rfl,by decide,by decide,rfl,rfl,by decide,by decide⟩
theorem JK :rK.wf:=⟨by decide,rfl,by decide,by decide,by decide,by decide,by decide⟩
theorem Yc :vK.wf:=⟨rfl,by decide,rfl,by decide,by decide,by decide,rfl,trivial,trivial⟩
theorem BG (b:Nat) (h:Hp):run fns pr b 12 [] h=some (.s (.bool true),h):=by
 refine Vm.aR (nt:=113) rfl T6 (by simp) ?_
 have GZ:(je 1).map aa=[.s (.int .u8 1),.s (.int .u8 0),.s (.int .u8 0),.s (.int .u8 0),.s (.int .u8 0),.s (.int .u8 0),.s (.int .u8 0),.s (.int .u8 0),.s (.int .u8 0),.s (.int .u8 0),.s (.int .u8 0),.s (.int .u8 0),.s (.int .u8 0),.s (.int .u8 0),.s (.int .u8 0),.s (.int .u8 0)]:=rfl
 obtain ⟨K,hK⟩:∃K,aT.cells (some 22) [V.arr 22 ((je 1).map aa)]=K:=⟨_,rfl⟩
 have f0:Fw [] h (h++[K]):=Fw.app [] h _
 obtain ⟨v1,H1,e1,id,F1,rfl,d1,f1,n1⟩:=xC h.length (h++[K]) 0 1 (je 1) (by simp) rfl (by decide) (by decide) (by decide) (by decide)
 have y9:=HI.new (je 1) (a:=0) (b:=1) (by decide) (by decide) (by decide) (by decide)
 have ow0:=MU (je 1)
 have st0:(aY.new 0 1 (je 1)).is=1∧(aY.new 0 1 (je 1)).cU= -1∧(aY.new 0 1 (je 1)).r.count=0∧(aY.new 0 1 (je 1)).st.mem=0:=⟨rfl,rfl,rfl,rfl⟩
 have Yd:∀j,((aY.new 0 1 (je 1)).st.p j).vs=[]:=fun _=> rfl
 generalize aY.new 0 1 (je 1)=D0 at *
 have l1:=f1.len
 have gk1:H1[h.length]? =some K:=f1.cw _ _ (aO _ _) (by simp)
 have gk2:=fun X=> q10z gk1 X
 have hnk:h.length∉F1:=fun hj=> by have:=n1 _ hj;simp at this;omega
 have l0:(h++[K]).length=h.length+1:=by simp
 obtain ⟨B,hB⟩:∃B,cI (je 1) 1 0 (lG qK)=B:=⟨_,rfl⟩
 have hrl:=tS Dt (by rfl)
 have rq:=fun X=> rj h.length (H1++X) false qK Dt (by decide)
 have cl:=fun X=> vO h.length (H1++X) (.aq false none ((lG qK).map aa)) (je 1) (lG qK) 1 0 rfl (by decide) (cm _ _ _)
 unfold oT at cl
 simp only[if_pos (show (lG qK).length≤8176 by omega),hB] at cl
 have ah:gk (je 1) (bt D0.st.mem) B=(qK,0):=by rw[st0.2.2.2,←hB];exact lQ (je 1) 1 0 qK (by decide) Dt (by rfl)
 obtain ⟨QB,hQB⟩:∃QB,aT.cells (some 33) [qK.enc]=QB:=⟨_,rfl⟩
 have f2:Fw [] H1 (H1++[.dead,QB]):=Fw.app _ _ _
 have d2:=d1.mono f2 (by simp)
 have hF1:∀j∈F1,h.length≤j:=fun j hj=> by have:=n1 j hj;omega
 obtain ⟨a3,H3,D1,F2,q3,rfl,d3,f3,n3,hI3,is3,fu3,ro3,mm3,gg3,cc3,ss3⟩:=Ds h.length (H1++[.dead,QB]) id D0 F1 (.aq false none (B.map aa)) (je 1) B qK none vK rK true 0 (by simp;omega) hF1 d2 y9 (by omega) st0.1 (by omega) (cm _ _ _) rfl ah Dt (by rfl)
   (ow0 _ (eF _)) (by rw[Yd];exact tx _) (by rfl) (by rfl) JK (fun _=>⟨Yc,by rfl,rfl,.inr (by rw[Yd];simp)⟩)
 have gk3:H3[h.length]? =some K:=f3.cw _ _ (gk2 _) hnk
 have l3:=f3.len
 simp only[abZ,acj,acz] at l3 n3
 obtain ⟨C,hC⟩:∃C,cI (je 5) 0 (bt 128) (dr rK)=C:=⟨_,rfl⟩
 have abF:=tR JK (by rfl)
 obtain ⟨uc1,uc2,uc3⟩:=ou (je 5) 0 (bt 128) (dr rK) (by decide) (by omega)
 rw[hC] at uc1 uc2 uc3
 have un:=fun X=> yW h.length (H3++X) (.aq false none (C.map aa)) (je 5) C (bt 128) rfl (cm _ _ _)
 unfold kO at un
 simp only[if_neg (show ¬C.length < 16 by omega),if_neg (show ¬8192 < C.length by omega),uc1,fM] at un
 have tr:=fun X=> Bk h.length (H3++X) false (dr rK)
 simp only[JJ rK JK (by rfl)] at tr
 have hae:(⟨cI qK.jJ qK.num.toNat (bt (128+qK.aM)) (dr rK),qK.aM,true,true,⟨D0.st.mem,qK,rK⟩⟩:Answer).enc= .st 49 [.aq false none (C.map aa),.s (.int .i64 0),.s (.bool true),.s (.bool true),(⟨D0.st.mem,qK,rK⟩:j3).enc]:=by rw[←hC];rfl
 rw[hae] at q3
 obtain ⟨AB,hAB⟩:∃AB,aT.cells (some 49) [V.st 49 [.aq false none (C.map aa),.s (.int .i64 0),.s (.bool true),.s (.bool true),(⟨D0.st.mem,qK,rK⟩:j3).enc]]=AB:=⟨_,rfl⟩
 have f4:Fw [] H3 (H3++[AB,.cells (some 45) [rK.enc]]):=Fw.app _ _ _
 have d4:=d3.mono f4 (by simp)
 obtain ⟨a5,H5,q5,rfl,f5⟩:=MX h.length _ id D1 F2 (.aq true none []) (je 1) [] 12 _ (by simp;omega) d4 hI3 is3 (oX _ _) rfl (by rw[mm3,st0.2.2.2];rfl) (by decide)
 have l5:=f5.len
 simp only[abZ,acj,acz] at l5
 have gk5:H5[h.length]? =some K:=f5.cw _ _ (q10z gk3 _) (by simp)
 have ga5:H5[H3.length]? =some AB:=f5.cw _ _ (aO _ _) (by simp)
 have gr5:H5[H3.length+1]? =some (.cells (some 45) [rK.enc]):=f5.cw _ _ (by rw[aJ];rfl) (by simp)
 obtain ⟨ZB,hZB⟩:∃ZB,aT.cells (some 49) [(⟨[],0,false,false,⟨0,gO,kM⟩⟩:Answer).enc]=ZB:=⟨_,rfl⟩
 obtain ⟨a7,H7,q7,rfl,f7⟩:=MW h.length (H5++[ZB]) (.aq false none (B.map aa)) (je 1) (by simp;omega) rfl
 have l7:=f7.len
 simp only[abZ,acj,acz] at l7
 have ga7:H7[H3.length]? =some AB:=f7.cw _ _ (q10z ga5 _) (by simp)
 have gr7:H7[H3.length+1]? =some (.cells (some 45) [rK.enc]):=f7.cw _ _ (q10z gr5 _) (by simp)
 have f57:Fw [] H5 H7:=(Fw.app [] H5 [ZB]).trans f7
 have d7:=((d4.mono f5 (by simp)).mono f57 (by simp)).app [ZB]
 have rg:=rn h.length (H7++[ZB]) id D1 F2 d7
 have hde:D1.r.enc= .st 63 [.s (.int .u64 D1.r.bZ),.s (.int .u64 1),.s (.int .u64 D1.r.base),.arr 22 (D1.r.head.map aa),.s (.int .i64 D1.r.aN)]:=by
   have:D1.r.count=1:=by rw[cc3,st0.2.2.1];rfl
   rw[←this];rfl
 have ft:(H7++[ZB]).take h.length=h:=Fw.take (((((f0.trans f1).trans f2).new f3 (fun j hj=> .inl (hF1 j hj))).trans f4).trans (f5.trans f57) |>.trans (Fw.app [] H7 [ZB]))
 have nB:qK.enc= .st 33 [.s (.int .i64 1),.arr 28 [.s (.int .u8 1),.s (.int .u8 0),.s (.int .u8 0),.s (.int .u8 0)],aK 22,.aq false none [.s (.int .u8 115)],.s (.int .i64 2),aK 22,.arr 22 [.s (.int .u8 5),.s (.int .u8 0),.s (.int .u8 0),.s (.int .u8 0),.s (.int .u8 0),.s (.int .u8 0),.s (.int .u8 0),.s (.int .u8 0),.s (.int .u8 0),.s (.int .u8 0),.s (.int .u8 0),.s (.int .u8 0),.s (.int .u8 0),.s (.int .u8 0),.s (.int .u8 0),.s (.int .u8 0)],.s (.int .i64 0),.s (.int .u64 0)]:=rfl
 have mV:rK.enc= .st 45 [.s (.int .i64 0),.arr 28 [.s (.int .u8 1),.s (.int .u8 0),.s (.int .u8 0),.s (.int .u8 0)],.s (.int .u64 1),.s (.int .i64 2),.aq false none [],.s (.int .i64 0),.s (.int .u64 0)]:=rfl
 have hqf:qK.aI false=qK.enc:=rfl
 have hd5:(je 5).map aa=[.s (.int .u8 5),.s (.int .u8 0),.s (.int .u8 0),.s (.int .u8 0),.s (.int .u8 0),.s (.int .u8 0),.s (.int .u8 0),.s (.int .u8 0),.s (.int .u8 0),.s (.int .u8 0),.s (.int .u8 0),.s (.int .u8 0),.s (.int .u8 0),.s (.int .u8 0),.s (.int .u8 0),.s (.int .u8 0)]:=rfl
 have yO:aa 0= .s (.int .u8 0):=rfl
 have Ye:aa (bt 128)= .s (.int .u8 128):=rfl
 have ES:h.length≤H1.length+1:=by omega
 have RS:h.length≤H3.length:=by omega
 have Yf:h.length≤H3.length+1:=by omega
 have aaQ:h.length≤H5.length:=by omega
 have aaR:h.length≤H7.length:=by omega
 have gax:=fun X=> q10z ga7 X
 have grx:=fun X=> q10z gr7 X
 have gk3x:=fun X=> q10z gk3 X
 have gk5x:=fun X=> q10z gk5 X
 rw[GZ] at hK e1 q3 q5 q7
 simp only[GZ,yO,show ((1:Nat):Int)=1 from rfl] at cl
 simp only[hqf] at rq
 simp only[hd5,Ye] at un
 subst hK hQB hAB hZB
 simp only[nB] at rq q3
 simp only[mV] at tr q5 gr5 gr7 grx
 simp only[xH] at q5 q7 rg ft
 rw[hde] at rg
 simp only[B12,e1,gk1,gk2,rq,cl,ES,q3,RS,Yf,gk3,gk3x,un,tr,q5,aaQ,gk5,gk5x,q7,aaR,gax,grx,rg,ft,decide_true,adJ,go_sem,simprocAttr]
def idT :Bs:=[1,0,0,0]
def qE (n:Int):Request:=⟨1,idT,je 7,[115],n,bd,je 5,0,0⟩
def rE (n:Int):av:=⟨0,idT,1,n,[],0,0⟩
def vT (n i:Int):ae:=⟨idT,1,je 7,[115],n,i,bd,false,false⟩
def gT :ae:=⟨idT,1,bd,[],0,0,bd,true,true⟩
def qT (p:Bs):Request:=⟨2,idT,p,[],0,bd,je 5,0,1⟩
def rT (w l:Int) (s:Bs):av:=⟨w,idT,1,l,s,0,1⟩
def vAt (right:Bool) (n:Int) (i:Nat):ae:=if right=true then vT n 0 else if (i:Int)< n then vT n i else gT
def rAt (right:Bool) (n:Int) (i:Nat):av×Bool:=if right=true then (rT 0 n [115],false) else if (i:Int)< n then (rT 23 (n - (i+1)) [],true) else (rT 24 0 [],false)
def pOf (right:Bool):Bs:=if right=true then je 7 else je 8
theorem JL {cf:CF} {base:Nat} {v:V} {a b:C} {e:Env} {h:Hp} {K:bV} (M:Env→Hp→Prop) (h1:∀e H,M e H→K .normal e H) (h2:∀K':bV,(∀e H,M e H→K' .normal e H)→wpC cf base v a b e h K'):wpC cf base v a b e h K:=h2 K h1
end Go.Proofs.YtggjbepemdhohaaGreat
