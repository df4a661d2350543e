/- An abstract machine for loaded programs, part 3: what it computes is what Go computes. Conditions: none. -/
import Derived.Test.YthplailfedobeaaGreatCVb
import Derived.Laws.Sem
import Derived.SizedLaws
import Derived.IntWalk
import Derived.Lib.Bytealg
set_option linter.unusedSimpArgs false
set_option linter.unusedVariables false
set_option linter.unusedSectionVars false
namespace Go.Vm
variable {P : Program} {obj : Nat → Bool} {L : cG}
def yj (P:Program):List ResultVar→Option (List Rs)
 | []=> some []
 | .tmp t::rs=>(yj P rs).map (.t t:: ·)
 | .cell a t::rs=> if oY P t=true then (yj P rs).map (.cell a (aE P t):: ·) else none
def bH (P:Program) (obj:Nat→Bool) (fn:Func) (pure:Bool):Option Fn:=
 match fn.body with
 | some code=> match gW P obj code,yj P fn.results.toList with
   | some k,some rs=> if (fn.name== "runtime.NumGoroutine")=false then some ⟨fn.ntmps,k,rs,pure⟩ else none
   | _,_=> none
 | none=> none
theorem zZ {fn:Func} {F:Fn} {pure:Bool} (h:bH P obj fn pure=some F):∃code,fn.body=some code∧gW P obj code=some F.body∧yj P fn.results.toList=some F.res∧(fn.name== "runtime.NumGoroutine")=false∧F.nt=fn.ntmps:=by
 unfold bH at h
 split at h
 case h_2=> cases h
 rename_i code hb
 split at h
 case h_2=> cases h
 rename_i k rs hk hr
 split at h
 case isFalse=> cases h
 rename_i hn
 cases h
 exact ⟨code,hb,hk,hr,hn,rfl⟩
def wW (tmps:Array Value):ResultVar→Sem Value
 | .tmp t=> pure (tmps.getD t undef)
 | .cell x t=> do loadVar t (←asAddr (tmps.getD x undef))
theorem Cm (fn:Func) (tmps:Array Value):results fn tmps=(do let vs ←fn.results.mapM (wW tmps);pure (if h:vs.size=1 then vs[0] else .tuple vs)):=by
 unfold results
 congr 2
theorem yk (hL:(ak P).OK) {c:Ctx} {h:Hp} {w:World} {fr:Fr} {a:Act} (hf:RF (ak P) c fr a) (hs:bp (ak P) c h w):
 ∀ {rvs:List ResultVar} {rs:List Rs},yj P rvs=some rs→∀ {vs:List V},kZ fr h rs=some vs→
   ∃us:List Value,(rvs.mapM (wW a.tmps)).run P w= .ok us w∧gu (ak P) c vs us
 | [],rs,hc,vs,hv=> by
   simp only[yj,Option.some.injEq] at hc
   subst hc
   simp only[kZ,Option.some.injEq] at hv
   subst hv
   exact ⟨[],rfl,trivial⟩
 | .tmp t::rvs,rs,hc,vs,hv=> by
   simp only[yj] at hc
   obtain ⟨rs',EL,rfl⟩:=ach.1 hc
   simp only[kZ,Nn] at hv
   split at hv
   case h_2=> cases hv
   rename_i v vs' hv1 hv2
   cases hv
   cases hv1
   obtain ⟨us,h1,h2⟩:=yk hL hf hs EL hv2
   have hx:RV (ak P) c (fr.getD t (.bP [])) (a.tmps.getD t undef):=q23z (P:=P) (t:=0) hf (o:= .tmp t) (x:= .t t) rfl
   refine ⟨a.tmps.getD t undef::us,?_,hx,h2⟩
   rw[adW]
   simp only[wW,Sem.run_bind,Sem.run_pure,Result.andThen_ok,h1]
 | .cell x t::rvs,rs,hc,vs,hv=> by
   simp only[yj] at hc
   split at hc
   case isFalse=> cases hc
   rename_i j1
   obtain ⟨rs',EL,rfl⟩:=ach.1 hc
   simp only[kZ,Nn] at hv
   split at hv
   case h_2=> cases hv
   rename_i v vs' hv1 hv2
   cases hv
   obtain ⟨⟨v0,h0⟩,ai,he⟩:=ach.1 hv1
   simp only at he
   subst he
   obtain ⟨us,h1,h2⟩:=yk hL hf hs EL hv2
   have hx:RV (ak P) c (fr.getD x (.bP [])) (a.tmps.getD x undef):=q23z (P:=P) (t:=0) hf (o:= .tmp x) (x:= .t x) rfl
   have hh0:h0=h:=Zy ai
   subst hh0
   obtain ⟨u,c',w',hr,iB,dv,hle,aR⟩:=PD (P:=P) hL hs (cM j1) hx ai
   have Kq:∃u,(wW a.tmps (.cell x t)).run P w= .ok u w∧RV (ak P) c v0 u:=by
     simp only[sj] at ai
     split at ai
     ·rename_i id path aB AE
      split at ai
      case h_2=> cases ai
      rename_i y hn
      split at ai
      case isFalse=> cases ai
      rename_i DB
      simp only[Option.some.injEq,Prod.mk.injEq] at ai
      obtain ⟨rfl,_⟩:=ai
      obtain ⟨l,o,us,ty,fz,hl,ht,ho,hg,dt,hle,hr⟩:=hs.node hL hn
      have Fz:=jO (AE ▸ hx) hl ht ho
      obtain ⟨u,bo,hv⟩:=gK (P:=P) hL (ty:=t) (by rw[DB];exact cM j1) hg hr
      refine ⟨u,?_,hv⟩
      simp only[wW]
      rw[Fz]
      simpa[asAddr] using bo
     ·rename_i y AE
      split at ai
      case isFalse=> cases ai
      rename_i DB
      simp only[Option.some.injEq,Prod.mk.injEq] at ai
      obtain ⟨rfl,_⟩:=ai
      obtain ⟨b,off,cs,ty,fz,Fz,hz,hr⟩:=gL.1 (AE ▸ hx)
      obtain ⟨u,bo,hv⟩:=gK (P:=P) hL (ty:=t) (by rw[DB];exact cM j1) (hs.z _ _ hz) hr
      refine ⟨u,?_,hv⟩
      simp only[wW]
      rw[Fz]
      simpa[asAddr] using bo
     ·cases ai
   obtain ⟨u,hu,iB⟩:=Kq
   refine ⟨u::us,?_,iB,h2⟩
   rw[adW,Sem.run_bind,hu]
   simp only[Result.andThen_ok,Sem.run_bind,h1,Sem.run_pure]
theorem mZ (hL:(ak P).OK) {c:Ctx} {h:Hp} {w:World} {fr:Fr} {a:Act} (hf:RF (ak P) c fr a) (hs:bp (ak P) c h w) {fn:Func} {rs:List Rs} (hc:yj P fn.results.toList=some rs) {vs:List V} (hv:kZ fr h rs=some vs):
 ∃u,(results fn a.tmps).run P w= .ok u w∧RV (ak P) c (pw vs) u:=by
 obtain ⟨us,h1,h2⟩:=yk hL hf hs hc hv
 rw[Cm,afp]
 simp only[Sem.run_bind,map_eq_pure_bind,h1,Result.andThen_ok,Sem.run_pure]
 refine ⟨_,rfl,?_⟩
 match vs,us,h2 with
 | [v],[u],h2=> exact h2.1
 | [],[],h2=> exact cI.2 ⟨[],rfl,trivial⟩
 | v::v'::vs,u::u'::us,h2=> exact cI.2 ⟨u::u'::us,rfl,h2⟩
 | [_],_::_::_,h2=> exact h2.2.elim
 | _::_::_,[_],h2=> exact h2.2.elim
def rz (P:Program) (fns:Nat→Option Fn):Prop:=∀f F,fns f=some F→∃fn obj,P.funcs[f]? =some fn∧bH P obj fn F.pure=some F
theorem vy {c:Ctx} (n:Nat):gu L c (List.replicate n (.bP [])) (List.replicate n undef):=by
 induction n with
 | zero=> trivial
 | succ n ih=> exact ⟨cI.2 ⟨[],rfl,trivial⟩,ih⟩
theorem TP {c:Ctx} {F:Fn} {args:List V} {us:List Value} (h:gu L c args us):RF L c (mL F args) {tmps:=us.toArray++Array.replicate (F.nt - us.toArray.size) undef,defers:=[]}:=by
 simp only[RF,mL,afi,Array.toList_replicate,aeK,gu.length h]
 exact pD h (vy _)
theorem Aa (hL:(ak P).OK) {fn:Func} {f:Nat} {F:Fn} (hfn:P.funcs[f]? =some fn) (hF:bH P obj fn F.pure=some F) {cf:Nat→Nat→List V→Hp→Option (V×Hp)} (gh:∀base,cJ P (ak P) (cf base)) (hkp:∀base,KpF base (cf base))
 {base:Nat} {args:List V} {h:Hp} {v:V} {h':Hp} (hr:lN cf base F args h=some (v,h')) {c:Ctx} {w:World} {us:List Value} (ha:gu (ak P) c args us) (hs:bp (ak P) c h w):fD P (ak P) c w f us v h':=by
 obtain ⟨code,hb,PN,NC,_,hnt⟩:=zZ hF
 refine calls_of_wp hfn hb ?_
 rw[←hnt]
 have hrf:=TP (F:=F) ha
 unfold lN at hr
 split at hr
 ·-- pure
  split at hr
  ·cases hr
  ·rename_i e fr1 h1 cC hx
   split at hr
   case h_2=> cases hr
   rename_i vs p9
   split at hr
   case h_2=> cases hr
   rename_i v' dt
   cases hr
   refine o8 hL (gh h.length) PN hrf hs hx ?_
   intro a1 c1 w1 p1 p2 p3 p4 p5
   have hn:h.length≤c1.n:=by rw[←hs.n];exact p3.n
   have TO:DU h.length h1:=(yg (hkp h.length) F.body hx h.length (acm _) (acm _) hs.low).1
   obtain ⟨u,hu1,Ay⟩:=mZ hL p1 p2 NC p9
   obtain ⟨us1,hu3,hu4⟩:=Ay
   obtain ⟨f1,f2,f3,f4⟩:=TN hL p2 hn _ _ dt
   have hR:∃u' c',Ending.returned u= .returned u'∧RV (ak P) c' v u'∧bp (ak P) c' (h1.take h.length) w1∧c.le c'∧St w w1:=by
     refine ⟨u,c1.cut h.length w1,rfl,⟨us1,f4 _ hu3,f3 _ _ hu4⟩,p2.cut hn TO,?_,p4⟩
     have:=Ctx.TM (w:=w1) p3
     rw[hs.n] at this
     exact this
   cases e with
   | normal=> exact ⟨p5,u,hu1,hR⟩
   | ret=> exact ⟨p5,u,hu1,hR⟩
   | exit id=> exact (cC id rfl).elim
  ·cases hr
 ·split at hr
  ·cases hr
  ·rename_i e fr1 h1 cC hx
   split at hr
   case h_2=> cases hr
   rename_i vs p9
   cases hr
   refine o8 hL (gh base) PN hrf hs hx ?_
   intro a1 c1 w1 p1 p2 p3 p4 p5
   obtain ⟨u,hu1,Ay⟩:=mZ hL p1 p2 NC p9
   cases e with
   | normal=> exact ⟨p5,u,hu1,u,c1,rfl,Ay,p2,p3,p4⟩
   | ret=> exact ⟨p5,u,hu1,u,c1,rfl,Ay,p2,p3,p4⟩
   | exit id=> exact (cC id rfl).elim
  ·cases hr
theorem wX (hL:(ak P).OK) {fns:Nat→Option Fn} {pr:Nat→List V→Hp→Option (V×Hp)} (hf:rz P fns) (hp:cJ P (ak P) pr) (hkp:KpP pr):∀(d base:Nat),cJ P (ak P) (den fns pr d base)
 | 0,base=> fun f vs h v h' hr=> by simp[den] at hr
 | d+1,base=> fun f vs h v h' hr=> by
   simp only[den] at hr
   split at hr
   ·rename_i F hF
    obtain ⟨fn,_,hfn,hc⟩:=hf f F hF
    obtain ⟨code,hb,_,_,ZK,_⟩:=zZ hc
    refine ⟨⟨fn,hfn,by rw[hb];rfl,ZK⟩,fun c w us ha hs=> ?_⟩
    exact Aa hL hfn hc (fun base=> wX hL hf hp hkp d base) (fun base=> KY hkp d base) hr ha hs
   ·exact hp f vs h v h' hr
end Go.Vm
namespace Go.Vm
variable {P : Program}
def iz (P:Program):Nat→TypeId→Bool
 | 0,_=> false
 | n+1,t=> oY P t && match P.underlying t with
   | some .bool=> true
   | some (.int _)=> true
   | some .string=> true
   | some (.slice e)=> oY P e && decide (0 < P.cellsOf e)&& iz P n e
   | some (.struct fs)=> decide ((ak P).fields (P.underlyingId t)=some (fs.toList.map fun f=> aE P f.type))&&(P.cellsOf t==(fs.toList.map fun f=> P.cellsOf f.type).sum)&&
       (List.range fs.size).all (fun i=> match fs[i]? with | some f=> f.offset==((fs.toList.take i).map fun f=> P.cellsOf f.type).sum | none=> false)&& fs.toList.all fun f=> oY P f.type && iz P n f.type
   | some (.array k e)=> decide ((ak P).arr (P.underlyingId t)=some (k,aE P e))&&(P.cellsOf t==k * P.cellsOf e)&& oY P e && iz P n e
   | _=> false
def bZ (P:Program):Nat→TypeId→V→Prop
 | 0,_,_=> False
 | n+1,t,v=> match P.underlying t with
   | some .bool=>∃b,v= .s (.bool b)
   | some (.int k)=>∃m,v= .s (.int k m)∧k.min≤m∧m≤k.max
   | some .string=>∃s,v= .s (.string s)∧s.size≤140737488351232
   | some (.slice e)=>∃es,v= .al false (aE P e) es∧es.length * P.bytesOf e≤140737488351232∧es.length≤9223372036854775807∧∀x∈es,bZ P n e x
   | some (.struct fs)=>∃vs,v= .st (P.underlyingId t) vs∧vs.length=fs.size∧∀(i:Nat) (f:Field) (x:V),fs[i]? =some f→vs[i]? =some x→bZ P n f.type x
   | some (.array k e)=>∃es,v= .arr (P.underlyingId t) es∧es.length=k∧∀x∈es,bZ P n e x
   | _=> False
def fR (w:World):Ctx:= {z:=fun b=>(w.heap[b]?).map kept,loc:=fun _=> none,n:=0}
theorem KZ (L:cG) (w:World):bp L (fR w) [] w where
 z b o hb:=by
   obtain ⟨x,hx,rfl⟩:=ach.1 hb
   rw[hx,wI]
 n:=rfl
 loc id l hl:=by cases hl
 live id k hk:=by simp at hk
 inj i j li lj hi:=by cases hi
theorem Cn {w:World} {b:Nat} {us:Array Value} {ty:TypeId} {fz:Nat×Nat} (h:w.heap[b]? =some (.cells us ty fz)):(fR w).z b=some (.cells us ty fz):=by simp[fR,h,kept]
theorem Ab {t:TypeId} (h:oY P t=true):P.cellsOf t=(ak P).aD (aE P t):=by
 simp only[oY,acn,beq_iff_eq] at h
 exact h.2
theorem rW (w:World) (a:Addr):∀(n s:Nat) (cs:List Value),((List.range' s n).mapM fun i=> w.cell? (a.add i))=some cs→0 < n→
 (s=0→a.spot=none)∧∃us ty fz,w.heap[a.block]? =some (.cells us ty fz)∧cs=og us (a.off+s) n∧a.off+s+n≤us.size
 | 0,s,cs,h,hn=> by omega
 | n+1,s,cs,h,hn=> by
   rw[aew,adW] at h
   obtain ⟨x,hx,h⟩:=acr.1 h
   obtain ⟨xs,jm,h⟩:=acr.1 h
   simp only[aeG,Option.some.injEq] at h
   subst h
   have xP:(a.add s).block=a.block:=by unfold Addr.add;split <;> rfl
   have jb:(a.add s).off=a.off+s:=by unfold Addr.add;split <;> simp_all
   have ZL:(s=0→a.spot=none)∧∃us ty fz,w.heap[a.block]? =some (.cells us ty fz)∧us[a.off+s]? =some x:=by
     unfold World.cell? at hx
     rw[xP,jb] at hx
     cases hg:w.heap[a.block]? with
     | none=> rw[hg] at hx;cases hx
     | some ob=>
       rw[hg] at hx
       cases ob with
       | cells us ty fz=>
         simp only at hx
         by_cases vU:(a.add s).spot.isSome=true
         ·rw[if_pos vU] at hx;cases hx
         ·rw[if_neg vU] at hx
          exact ⟨fun h0=> by subst h0;simpa[Addr.add] using vU,us,ty,fz,rfl,hx⟩
       | _=> simp at hx
   obtain ⟨h1,us,ty,fz,h2,h3⟩:=ZL
   have bR:a.off+s < us.size:=(ady.1 h3).1
   have h4:og us (a.off+s) (n+1)=x::og us (a.off+(s+1)) n:=by
     have h3':us.toList[a.off+s]? =some x:=by rw[ad2];exact h3
     have Be:a.off+s < us.toList.length:=(acj.1 h3').1
     simp only[og]
     rw[adh Be,adV]
     have:us.toList[a.off+s]=x:=by simpa[aci Be] using h3'
     rw[this];rfl
   by_cases Ej:n=0
   ·subst Ej
    simp only[List.range'_zero,List.mapM_nil,aeG,Option.some.injEq] at jm
    subst jm
    exact ⟨h1,us,ty,fz,h2,by rw[h4];simp[og],by omega⟩
   ·obtain ⟨_,us',ty',fz',h5,h6,h7⟩:=rW w a n (s+1) xs jm (by omega)
    rw[h2] at h5;cases h5
    exact ⟨h1,us,ty,fz,h2,by rw[h4,h6],by omega⟩
theorem uY {w:World} {a:Addr} {n:Nat} {cs:List Value} (h:w.cells? 0 a n=some cs) (hn:0 < n):
 a.spot=none∧∃us ty fz,w.heap[a.block]? =some (.cells us ty fz)∧cs=og us a.off n∧a.off+n≤us.size:=by
 simp only[World.cells?,ae1,if_true] at h
 rw[adK] at h
 obtain ⟨h1,h2⟩:=rW w a n 0 cs h hn
 exact ⟨h1 rfl,h2⟩
theorem kX {H:Type} {e:TypeId} {b:Nat}:∀ {ds:List (DataW H)},(∀x∈DataW.weightsAll P e ds,x≤b)→∀d∈ds,∀x∈d.weights P e,x≤b
 | [],_,d,hd=> by cases hd
 | d'::ds,h,d,hd=> by
   simp only[DataW.weightsAll] at h
   rcases acQ.1 hd with rfl | hd
   ·exact fun x hx=> h x (aeo _ hx)
   ·exact kX (fun x hx=> h x (aeH _ hx)) d hd
theorem FP (us:Array Value) (o a b:Nat):og us o (a+b)=og us o a++og us (o+a) b:=by
 simp only[og]
 rw[List.take_add,adn]
theorem ru {L:cG} {c:Ctx} {α:Type} {e:Option Nat} {k:Nat} {us:Array Value} {Q:V→Prop} (f:Nat→Option α) (R:α→Prop) {o:Nat}
 (nR:∀i d,f i=some d→R d→∃v,RC L c v (og us (o+i * k) k)∧v.ty=e∧v.aA=true∧Q v):
 ∀(n s:Nat) (ds:List α),((List.range' s n).mapM f)=some ds→(∀d∈ds,R d)→∃es:List V,es.length=n∧cB L c es (og us (o+s * k) (n * k))∧∀x∈es,x.ty=e∧x.aA=true∧Q x
 | 0,s,ds,h,hR=>⟨[],rfl,by simp[cB,og],fun x hx=>(by cases hx)⟩
 | n+1,s,ds,h,hR=> by
   rw[aew,adW] at h
   obtain ⟨x,hx,h⟩:=acr.1 h
   obtain ⟨xs,jm,h⟩:=acr.1 h
   simp only[aeG,Option.some.injEq] at h
   subst h
   obtain ⟨v,h1,h2,h3,h4⟩:=nR s x hx (hR x adt)
   obtain ⟨es,h5,h6,h7⟩:=ru f R nR n (s+1) xs jm (fun d hd=> hR d (adB _ hd))
   refine ⟨v::es,by simp[h5],?_,fun y hy=> ?_⟩
   ·simp only[cB]
    refine ⟨_,_,?_,h1,h6⟩
    rw[adG n 1,ae3,aen (n * k) k,FP,aek]
    congr 2
    rw[adG s 1,ae3]
   ·rcases acQ.1 hy with rfl | hy
    ·exact ⟨h2,h3,h4⟩
    ·exact h7 y hy
end Go.Vm
namespace Go.Vm
variable {P : Program}
theorem FQ (a:Addr) (n:Nat):(a.add n).block=a.block:=by unfold Addr.add;split <;> rfl
theorem ND (a:Addr) (n:Nat):(a.add n).off=a.off+n:=by unfold Addr.add;split <;> simp_all
def WOK {H:Type} (P:Program) (t:TypeId) (d:DataW H):Prop:=∀x∈d.weights P t,x≤140737488351232
theorem rX {H:Type} {enc:TypeId×Value→H} {w:World} {fuel n:Nat}
 (ih:∀ {t:TypeId} {cs:List Value} {d:DataW H} {ps:List MemPlace},iz P n t=true→DataW.trod enc P w 0 (fun _=> true) true fuel t cs=some (d,ps)→WOK P t d→∃v,RC (ak P) (fR w) v cs∧v.ty=aE P t∧v.aA=true∧bZ P n t v) {cs:List Value}:
 ∀(fs pre:List Field) (xs:List (DataW H×List MemPlace)),(∀f∈fs,oY P f.type=true∧iz P n f.type=true)→(∀i f,fs[i]? =some f→f.offset=(((pre++fs).take (pre.length+i)).map fun f=> P.cellsOf f.type).sum)→
  (fs.mapM fun f=> DataW.trod enc P w 0 (fun _=> true) true fuel f.type ((cs.drop f.offset).take (P.cellsOf f.type)))=some xs→(∀x∈DataW.weightsEach P (fs.map (·.type)) (xs.map (·.1)),x≤140737488351232)→
  cs.length=((pre++fs).map fun f=> P.cellsOf f.type).sum→
  ∃vs:List V,vs.length=fs.length∧cB (ak P) (fR w) vs (cs.drop (pre.map fun f=> P.cellsOf f.type).sum)∧vs.map V.ty=fs.map (fun f=> aE P f.type)∧(∀v∈vs,v.aA=true)∧∀(i:Nat) (f:Field) (x:V),fs[i]? =some f→vs[i]? =some x→bZ P n f.type x
 | [],pre,xs,h1,h2,h3,h4,h5=> by
   refine ⟨[],rfl,?_,rfl,fun v hv=>(by cases hv),fun i f x hf=> by simp at hf⟩
   simp only[acL] at h5
   simp only[cB]
   rw[←h5,aeR]
 | f::fs,pre,xs,h1,h2,h3,h4,h5=> by
   rw[adW] at h3
   obtain ⟨x,hx,h3⟩:=acr.1 h3
   obtain ⟨xs',jm,h3⟩:=acr.1 h3
   simp only[aeG,Option.some.injEq] at h3
   subst h3
   simp only[acx,DataW.weightsEach] at h4
   obtain ⟨v,a1,a2,a3,a4⟩:=ih (h1 f adt).2 hx (fun y hy=> h4 y (aeo _ hy))
   obtain ⟨vs,b1,b2,b3,b4,b5⟩:=rX ih fs (pre++[f]) xs' (fun g hg=> h1 g (adB _ hg)) (fun i g hg=> by
     have:=h2 (i+1) g (by simpa using hg)
     rw[this]
     congr 2
     rw[acs,List.singleton_append,aco,afM]
     congr 1;omega) jm (fun y hy=> h4 y (aeH _ hy)) (by rw[h5];simp)
   have jb:f.offset=(pre.map fun f=> P.cellsOf f.type).sum:=by
     have:=h2 0 f rfl
     rw[this];simp
   refine ⟨v::vs,by simp[b1],?_,by simp[a2,b3],fun y hy=> ?_,fun i g y hg hy=> ?_⟩
   ·simp only[cB]
    refine ⟨_,_,?_,a1,b2⟩
    rw[jb]
    simp only[adm,acx,acF,List.sum_append,afv,List.sum_nil,aeC]
    rw[←List.drop_drop,afN]
   ·rcases acQ.1 hy with rfl | hy
    ·exact a3
    ·exact b4 y hy
   ·cases i with
    | zero=>
      simp only[acM,Option.some.injEq] at hg hy
      subst hg hy
      exact a4
    | succ i=> exact b5 i g y (by simpa using hg) (by simpa using hy)
section
variable {H : Type} {enc : TypeId × Value → H} {w : World} {fuel : Nat} {t : TypeId} {cs : List Value} {d : DataW H} {ps : List MemPlace}
theorem K0 (hu:P.underlying t=some .bool) (h:DataW.trod enc P w 0 (fun _=> true) true (fuel+1) t cs=some (d,ps)):∃b,cs=[.bool b]:=by
 simp only[DataW.trod,hu] at h
 split at h <;> first | (rename_i b _;exact ⟨_,rfl⟩) | simp_all
theorem NF {k:IntKind} (hu:P.underlying t=some (.int k)) (h:DataW.trod enc P w 0 (fun _=> true) true (fuel+1) t cs=some (d,ps)):∃m,cs=[.int k m]∧k.min≤m∧m≤k.max:=by
 simp only[DataW.trod,hu] at h
 split at h <;> first | (simp_all [Lit.wf];done)
theorem NG (hu:P.underlying t=some .string) (h:DataW.trod enc P w 0 (fun _=> true) true (fuel+1) t cs=some (d,ps)):∃s,cs=[.string s]∧d= .lit (.string s.data.toList):=by
 simp only[DataW.trod,hu] at h
 split at h <;> first | (simp_all;done)
theorem Co {fs:Array Field} (hu:P.underlying t=some (.struct fs)) (h:DataW.trod enc P w 0 (fun _=> true) true (fuel+1) t cs=some (d,ps)):cs.length=P.cellsOf t∧
 ∃xs,(fs.toList.mapM fun f=> DataW.trod enc P w 0 (fun _=> true) true fuel f.type ((cs.drop f.offset).take (P.cellsOf f.type)))=some xs∧d= .agg (xs.map (·.1)):=by
 simp only[DataW.trod,hu] at h
 split at h
 ·rename_i hlen
  obtain ⟨xs,jm,he⟩:=ach.1 h
  simp only[Prod.mk.injEq] at he
  exact ⟨hlen,xs,jm,he.1.symm⟩
 ·cases h
theorem NH {k:Nat} {e:TypeId} (hu:P.underlying t=some (.array k e)) (h:DataW.trod enc P w 0 (fun _=> true) true (fuel+1) t cs=some (d,ps)):cs.length=P.cellsOf t∧
 ∃xs,((List.range k).mapM fun i=> DataW.trod enc P w 0 (fun _=> true) true fuel e ((cs.drop (i * P.cellsOf e)).take (P.cellsOf e)))=some xs∧d= .agg (xs.map (·.1)):=by
 simp only[DataW.trod,hu] at h
 split at h
 ·rename_i hlen
  obtain ⟨xs,jm,he⟩:=ach.1 h
  simp only[Prod.mk.injEq] at he
  exact ⟨hlen,xs,jm,he.1.symm⟩
 ·cases h
theorem FR {e:TypeId} (hu:P.underlying t=some (.slice e)) (h:DataW.trod enc P w 0 (fun _=> true) true (fuel+1) t cs=some (d,ps)):(cs=[.slice none 0 0])∨
 ∃a len cap elems rest,cs=[.slice (some a) len cap]∧len≤cap∧cap≤maxLen∧((List.range len).mapM fun i=>(w.cells? 0 (a.add (i * P.cellsOf e)) (P.cellsOf e)).bind (DataW.trod enc P w 0 (fun _=> true) true fuel e))=some elems∧d= .slice (elems.map (·.1)) rest:=by
 simp only[DataW.trod,hu] at h
 split at h <;> first | (simp_all;done) | skip
 rename_i heq
 cases heq
 right
 split at h
 ·rename_i a len cap aZ
  obtain ⟨elems,cm,h⟩:=acr.1 h
  obtain ⟨rest,abS,he⟩:=ach.1 h
  simp only[Prod.mk.injEq] at he
  exact ⟨a,len,cap,elems,_,rfl,aZ.2.1,aZ.2.2,cm,he.1.symm⟩
 ·cases h
theorem Ac {α β:Type} {f:α→Option β}:∀ {l:List α} {ys:List β},l.mapM f=some ys→ys.length=l.length
 | [],ys,h=> by simp only[List.mapM_nil,aeG,Option.some.injEq] at h;subst h;rfl
 | a::l,ys,h=> by
   rw[adW] at h
   obtain ⟨x,hx,h⟩:=acr.1 h
   obtain ⟨xs,jm,h⟩:=acr.1 h
   simp only[aeG,Option.some.injEq] at h
   subst h
   simp[Ac jm]
theorem sK (hL:(ak P).OK):∀(n fuel:Nat) {t:TypeId} {cs:List Value} {d:DataW H} {ps:List MemPlace},iz P n t=true→DataW.trod enc P w 0 (fun _=> true) true fuel t cs=some (d,ps)→WOK P t d→
 ∃v,RC (ak P) (fR w) v cs∧v.ty=aE P t∧v.aA=true∧bZ P n t v
 | 0,fuel,t,cs,d,ps,hr,h,hw=> by simp[iz] at hr
 | n+1,0,t,cs,d,ps,hr,h,hw=> by simp[DataW.trod] at h
 | n+1,fuel+1,t,cs,d,ps,hr,h,hw=> by
   simp only[iz,acn] at hr
   obtain ⟨j1,hr⟩:=hr
   have ih:=fun {t:TypeId} {cs:List Value} {d:DataW H} {ps:List MemPlace}=> sK hL n fuel (t:=t) (cs:=cs) (d:=d) (ps:=ps)
   split at hr
   ·rename_i hu
    obtain ⟨b,rfl⟩:=K0 hu h
    exact ⟨.s (.bool b),by simp[RC,Value.oneCell'],by simp[V.ty,aE,hu],rfl,by simp only[bZ,hu];exact ⟨b,rfl⟩⟩
   ·rename_i k hu
    obtain ⟨m,rfl,h1,h2⟩:=NF hu h
    exact ⟨.s (.int k m),by simp[RC,Value.oneCell'],by simp[V.ty,aE,hu],rfl,by simp only[bZ,hu];exact ⟨m,rfl,h1,h2⟩⟩
   ·rename_i hu
    obtain ⟨s,rfl,rfl⟩:=NG hu h
    refine ⟨.s (.string s),by simp[RC,Value.oneCell'],by simp[V.ty,aE,hu],rfl,?_⟩
    simp only[bZ,hu]
    exact ⟨s,rfl,by have:=hw s.data.toList.length (by simp[DataW.weights]);simpa using this⟩
   ·rename_i e hu
    simp only[acn,decide_eq_true_eq] at hr
    obtain ⟨⟨hte,ij⟩,ng⟩:=hr
    have hk:=Ab hte
    rcases FR hu h with rfl | ⟨a,len,cap,elems,rest,rfl,hlc,hcm,cm,rfl⟩
    ·refine ⟨.al false (aE P e) [],?_,by simp[V.ty,aE,hu],rfl,?_⟩
     ·simp only[RC]
      exact ⟨none,0,rfl,acm _,fun _=> rfl,fun x hx=>(by cases hx),Or.inl trivial⟩
     ·simp only[bZ,hu]
      exact ⟨[],rfl,by simp,by simp,fun x hx=>(by cases hx)⟩
    ·have mI:(elems.length+rest.length)* P.bytesOf e≤140737488351232∧∀x∈elems,WOK P e x.1:=by
       simp only[WOK,DataW.weights,hu,acy] at hw
       refine ⟨hw _ adt,fun x hx y hy=> ?_⟩
       exact kX (fun z hz=> hw z (adB _ (aeo _ hz))) x.1 (List.mem_map_of_mem hx) y hy
     by_cases hlen:len=0
     ·subst hlen
      refine ⟨.al false (aE P e) [],?_,by simp[V.ty,aE,hu],rfl,?_⟩
      ·simp only[RC]
       exact ⟨some a,cap,rfl,ae1 _,(fun hf=> by cases hf),fun x hx=>(by cases hx),Or.inl trivial⟩
      ·simp only[bZ,hu]
       exact ⟨[],rfl,by simp,by simp,fun x hx=>(by cases hx)⟩
     ·-- the block
      have h0:∃us ty fz,a.spot=none∧w.heap[a.block]? =some (.cells us ty fz):=by
        obtain ⟨m,rfl⟩:∃m,len=m+1:=⟨len - 1,by omega⟩
        rw[adK,aew,adW] at cm
        obtain ⟨x,hx,_⟩:=acr.1 cm
        obtain ⟨cs',hc,_⟩:=acr.1 hx
        obtain ⟨h1,us,ty,fz,h2,_⟩:=uY hc ij
        simp only[adS,Addr.add,if_true] at h1 h2
        exact ⟨us,ty,fz,h1,h2⟩
      obtain ⟨us,ty,fz,vU,xP⟩:=h0
      rw[adK] at cm
      obtain ⟨es,h1,h2,h3⟩:=ru (L:=ak P) (c:=fR w) (e:=aE P e) (k:=P.cellsOf e) (us:=us) (Q:=bZ P n e) (o:=a.off) _ (fun x:DataW H×List MemPlace=> WOK P e x.1) (fun i x hx hR=> by
        obtain ⟨cs',hc,hx⟩:=acr.1 hx
        obtain ⟨_,us',ty',fz',hg,zj,_⟩:=uY hc ij
        rw[FQ,xP] at hg
        cases hg
        rw[ND] at zj
        rw[←zj]
        exact ih ng hx hR) len 0 elems cm mI.2
      have hlenE:elems.length=len:=by
        have:=Ac cm
        simpa using this
      refine ⟨.al false (aE P e) es,?_,by simp[V.ty,aE,hu],rfl,?_⟩
      ·simp only[RC]
       refine ⟨some a,cap,by rw[h1],by rw[h1];exact hlc,(fun hf=> by cases hf),fun x hx=>⟨(h3 x hx).1,(h3 x hx).2.1⟩,Or.inr ⟨a.block,a.off,us,ty,fz,?_,Cn xP,?_⟩⟩
       ·cases a;simp only at vU;subst vU;rfl
       ·rw[adS,aeC] at h2
        rw[h1,←hk];exact h2
      ·simp only[bZ,hu]
       refine ⟨es,rfl,?_,?_,fun x hx=>(h3 x hx).2.2⟩
       ·refine acN ?_ mI.1
        exact acE _ (by omega)
       ·have:maxLen=9223372036854775807:=rfl
        omega
   ·rename_i fs hu
    simp only[acn,decide_eq_true_eq,beq_iff_eq,acJ] at hr
    obtain ⟨⟨⟨m6,cU⟩,ZM⟩,hfs⟩:=hr
    obtain ⟨hlen,xs,jm,rfl⟩:=Co hu h
    have Ax:∀x∈DataW.weightsEach P (fs.toList.map (·.type)) (xs.map (·.1)),x≤140737488351232:=by
      simp only[WOK,DataW.weights,hu] at hw
      exact hw
    obtain ⟨vs,a1,a2,a3,a4,a5⟩:=rX ih fs.toList [] xs (fun f hf=>⟨(hfs f hf).1,(hfs f hf).2⟩) (fun i f hf=> by
      have hi:i < fs.size:=by have:=(acj.1 hf).1;simpa using this
      have:=ZM i (ado.2 hi)
      rw[←Array.getElem?_toList,hf] at this
      simpa using this) jm Ax (by rw[hlen,cU];rfl)
    have cD:aE P t=some (P.underlyingId t):=by simp[aE,hu]
    refine ⟨.st (P.underlyingId t) vs,?_,by simp[V.ty,cD],rfl,?_⟩
    ·simp only[RC]
     exact ⟨by simpa using a2,by rw[m6,a3],a4⟩
    ·simp only[bZ,hu]
     exact ⟨vs,rfl,by simpa using a1,fun i f x hf hx=> a5 i f x (by rw[ad2];exact hf) hx⟩
   ·rename_i k e hu
    simp only[acn,decide_eq_true_eq,beq_iff_eq] at hr
    obtain ⟨⟨⟨har,cU⟩,hte⟩,ng⟩:=hr
    have hk:=Ab hte
    obtain ⟨hlen,xs,jm,rfl⟩:=NH hu h
    have Ax:∀x∈xs,WOK P e x.1:=fun x hx y hy=> by
      simp only[WOK,DataW.weights,hu] at hw
      exact kX hw x.1 (List.mem_map_of_mem hx) y hy
    rw[adK] at jm
    obtain ⟨es,h1,h2,h3⟩:=ru (L:=ak P) (c:=fR w) (e:=aE P e) (k:=P.cellsOf e) (us:=cs.toArray) (Q:=bZ P n e) (o:=0) _ (fun x:DataW H×List MemPlace=> WOK P e x.1) (fun i x hx hR=> by
      have:=ih ng hx hR
      simpa[og] using this) k 0 xs jm Ax
    have cD:aE P t=some (P.underlyingId t):=by simp[aE,hu]
    refine ⟨.arr (P.underlyingId t) es,?_,by simp[V.ty,cD],rfl,?_⟩
    ·simp only[RC]
     refine ⟨?_,aE P e,by rw[h1];exact har,fun x hx=>⟨(h3 x hx).1,(h3 x hx).2.1⟩⟩
     have e1:og cs.toArray (0+0 * P.cellsOf e) (k * P.cellsOf e)=cs:=by
       simp only[og,adS,acU,ac2]
       rw[←cU,←hlen];exact adN
     rw[←e1];exact h2
    ·simp only[bZ,hu]
     exact ⟨es,rfl,h1,fun x hx=>(h3 x hx).2.2⟩
   ·cases hr
end
end Go.Vm
namespace Go.Vm
open Go.RowKit Go.ChangeShapes
variable {P : Program}
def o3 (P:Program) (n:Nat):List TypeId→List V→Prop
 | [],[]=> True
 | t::ts,x::xs=> bZ P n t x∧o3 P n ts xs
 | _,_=> False
theorem TQ {w:World} {n:Nat} {t:TypeId} {u:Value} {base:Nat} {v:V} (hr:iz P n t=true) (iM:Value.okWide P w .any base t u) (h:RC (ak P) (fR w) v u.cells.toList) (hv:v.ty=aE P t):RV (ak P) (fR w) v u:=by
 cases n with
 | zero=> simp[iz] at hr
 | succ n=>
   simp only[iz,acn] at hr
   obtain ⟨_,hr⟩:=hr
   unfold Value.okWide at iM
   have leaf:aE P t=none→u.cells= #[u]→RV (ak P) (fR w) v u:=fun h1 h2=> by
     rw[h2] at h
     exact (eD (hv.trans h1)).2 h
   split at hr
   ·rename_i hu
    simp only[hu,Cell.okWide,Cell.ok] at iM
    refine leaf (by simp[aE,hu]) ?_
    cases u <;> first | rfl | exact iM.elim
   ·rename_i hu
    simp only[hu,Cell.okWide,Cell.ok] at iM
    refine leaf (by simp[aE,hu]) ?_
    cases u <;> first | rfl | exact iM.elim
   ·rename_i hu
    simp only[hu,Cell.okWide,Cell.ok] at iM
    refine leaf (by simp[aE,hu]) ?_
    cases u <;> first | rfl | exact iM.elim
   ·rename_i hu
    simp only[hu,Cell.okWide,Cell.ok] at iM
    refine leaf (by simp[aE,hu]) ?_
    cases u <;> first | rfl | exact iM.elim
   ·rename_i hu
    simp only[hu] at iM
    obtain ⟨cs,rfl,_⟩:=iM
    exact (fN (hv.trans (by simp[aE,hu]:aE P t=some (P.underlyingId t)))).2 ⟨cs.toList,by simp,by simpa[Value.cells] using h⟩
   ·rename_i hu
    simp only[hu] at iM
    obtain ⟨cs,rfl,_⟩:=iM
    exact (fN (hv.trans (by simp[aE,hu]:aE P t=some (P.underlyingId t)))).2 ⟨cs.toList,by simp,by simpa[Value.cells] using h⟩
   ·cases hr
theorem wY {H:Type} {enc:TypeId×Value→H} (hL:(ak P).OK) {w:World} {n base:Nat}:∀ {ts:List TypeId} {us:List Value} {ds:List (DataW H)} {ps:List MemPlace},(∀t∈ts,iz P n t=true)→DataW.TrodAll enc P w 0 (fun _=> true) true ts us ds ps→
 (∀(j:Nat) t v,ts[j]? =some t→us[j]? =some v→Value.okWide P w .any base t v)→(∀x∈DataW.weightsEach P ts ds,x≤140737488351232)→∃xs,gu (ak P) (fR w) xs us∧o3 P n ts xs
 | [],[],[],ps,_,_,_,_=>⟨[],trivial,trivial⟩
 | t::ts,u::us,d::ds,ps,hr,ht,hv,hw=> by
   obtain ⟨p,q,⟨fuel,h1⟩,h2,_⟩:=ht
   simp only[DataW.weightsEach] at hw
   obtain ⟨v,a1,a2,a3,a4⟩:=sK hL n fuel (hr t adt) h1 (fun x hx=> hw x (aeo _ hx))
   obtain ⟨xs,b1,b2⟩:=wY hL (fun t ht=> hr t (adB _ ht)) h2 (fun j t v h1 h2=> hv (j+1) t v (by simpa using h1) (by simpa using h2)) (fun x hx=> hw x (aeH _ hx))
   exact ⟨v::xs,⟨TQ (hr t adt) (hv 0 t u rfl rfl) a1 a2,b1⟩,a4,b2⟩
 | [],_::_,_,ps,_,ht,_,_=> by cases ht
 | [],[],_::_,ps,_,ht,_,_=> by cases ht
 | _::_,[],_,ps,_,ht,_,_=> by cases ht
 | _::_,_::_,[],ps,_,ht,_,_=> by cases ht
theorem wZ {H:Type} {enc:TypeId×Value→H} (hl:laidOutB P=true) {W W':World} (hb:Below W.heap.size W W'):∀ {ts:List TypeId} {us:List Value} {ds:List (DataW H)} {ps:List MemPlace},(∀t∈ts,P.readableRec t=true∧t < P.types.size)→
 DataW.TrodAll enc P W 0 (fun _=> true) true ts us ds ps→(∀p∈ps,p.block < W.heap.size)→DataW.TrodAll enc P W' 0 (fun b=> decide (b < W.heap.size)) true ts us ds ps
 | [],[],[],ps,_,h,_=> h
 | t::ts,u::us,d::ds,ps,hr,ht,hp=> by
   obtain ⟨p,q,h1,h2,rfl⟩:=ht
   exact ⟨p,q,Below.trod hl (hr t adt).1 (hr t adt).2 h1 hb (fun x hx=> hp x (aeo _ hx)),
     wZ hl hb (fun t ht=> hr t (adB _ ht)) h2 (fun x hx=> hp x (aeH _ hx)),rfl⟩
 | [],_::_,_,ps,_,ht,_=> by cases ht
 | [],[],_::_,ps,_,ht,_=> by cases ht
 | _::_,[],_,ps,_,ht,_=> by cases ht
 | _::_,_::_,[],ps,_,ht,_=> by cases ht
theorem kG {H:Type} {enc:TypeId×Value→H} {w:World} {b:Nat} {sp:Nat→Bool} {hd:Bool}:∀ {ts:List TypeId} {us:List Value} {ds:List (DataW H)} {ps:List MemPlace},DataW.TrodAll enc P w b sp hd ts us ds ps→ds.length=ts.length
 | [],[],[],ps,_=> rfl
 | t::ts,u::us,d::ds,ps,ht=> by
   obtain ⟨p,q,h1,h2,rfl⟩:=ht
   simp[kG h2]
 | [],_::_,_,ps,ht=> by cases ht
 | [],[],_::_,ps,ht=> by cases ht
 | _::_,[],_,ps,ht=> by cases ht
 | _::_,_::_,[],ps,ht=> by cases ht
theorem HF {H:Type} {enc:TypeId×Value→H} (hL:(ak P).OK) (hl:laidOutB P=true) {f:Func} {fid:FuncId} {s:ChangeSpec} {apart fresh handsOn:Bool} {n:Nat} {cf:Nat→List V→Hp→Option (V×Hp)} (gh:cJ P (ak P) cf)
 (nR:f.params.toList.all (fun t=> iz P n t &&(P.readableRec t && decide (t < P.types.size)))=true) {tb:TypeId} (NC:f.resultTypes= #[tb]) (htb:P.underlying tb=some .bool)
 (PO:s.vars=[]) (hvt:s.plain.varTypes P=[]) (K3:∀ds:List (DataW H),ds.length=f.params.toList.length→s.fn H ds= {results:=[.lit (.bool true)],args:=ds})
 (abB:∀xs,o3 P n f.params.toList xs→cf fid xs []=some (.s (.bool true),[]))
 {W:World} {base:Nat} {args:Array Value} {ds gs:List (DataW H)} {before:List MemPlace} (abC:∀(j:Nat) t v,f.params[j]? =some t→args[j]? =some v→Value.okWide P W .any base t v)
 (hW:DataW.Whole enc P f.params.toList s.vars apart W args.toList ds gs before) (Ax:(DataW.weightsEach P (f.params.toList++s.plain.varTypes P) (ds++gs)).all (· ≤reachBytes)=true):
 Calls P fid args W fun e W'=>∃v,e= .returned v∧s.post enc P f apart fresh handsOn false W args v W':=by
 have hW0:=hW
 obtain ⟨p,q,hA,hV,rfl,dt,hnd⟩:=hW
 rw[PO] at hV
 have je:gs=[]∧q=[]:=by
   cases gs with
   | nil=> exact ⟨rfl,hV⟩
   | cons g gs=> cases hV
 obtain ⟨rfl,rfl⟩:=je
 simp only[acJ,acn,decide_eq_true_eq] at nR Ax
 rw[hvt,acL,acL] at Ax
 obtain ⟨xs,h1,h2⟩:=wY hL (fun t ht=>(nR t ht).1) hA (fun j t v hj hv=> abC j t v (by rw[←Array.getElem?_toList];exact hj) (by rw[←Array.getElem?_toList];exact hv)) (fun x hx=> Ax x hx)
 have jj:=(gh _ _ _ _ _ (abB xs h2)).2 (fR W) W args.toList h1 (KZ _ W)
 unfold fD at jj
 rw[Array.toArray_toList] at jj
 refine Calls.mono jj fun e W' he=> ?_
 obtain ⟨u,c',rfl,hv,dv,hle,aR⟩:=he
 obtain ⟨rfl,_⟩:=bF.1 hv
 have hb:Below W.heap.size W W':=⟨aR.os,aR.tape,aR.output,aR.size,fun k hk=> by
   have hz:(fR W).z k=some (kept W.heap[k]):=by simp[fR,acP hk]
   have:=dv.z k _ (hle.z k _ hz)
   rw[this,wI];exact (acP hk).symm⟩
 refine ⟨_,rfl,ds,[],p++[],[],p,[],hW0,?_,?_,?_,Below.frame hb _,fun hf=> by cases hf⟩
 ·rw[acL,K3 ds (kG hA),NC]
  refine ⟨[],[],⟨1,?_⟩,rfl,rfl⟩
  simp[DataW.trod,htb,Value.cells]
 ·rw[acL,K3 ds (kG hA)]
  exact wZ hl hb (fun t ht=>(nR t ht).2) hA (fun x hx=> hW0.lt x (by simpa using hx))
 ·rw[acL,K3 ds (kG hA),PO]
  rfl
end Go.Vm
namespace Go.Vm
abbrev CF :=Nat→List V→Hp→Option (V×Hp)
def Ap (c:CF) (G:Nat→CF):Prop:=∀f vs h r,c f vs h=some r→∃n,∀d,n≤d→G d f vs h=some r
section
variable {c : CF} {G : Nat → CF} (ha : Ap c G) {base : Nat}
include ha
theorem TS {h:Hp} {o:O} {vs:List V} {r:V×Hp} (hr:aC c base h o vs=some r):∃n,∀d,n≤d→aC (G d) base h o vs=some r:=by
 cases o with
 | call f=> exact ha f vs h r hr
 | mA f=>
   simp only[aC] at hr ⊢
   cases hc:c f vs h with
   | none=> rw[hc] at hr;cases hr
   | some q=>
     obtain ⟨n,hn⟩:=ha f vs h q hc
     exact ⟨n,fun d hd=> by rw[hn d hd,←hc];exact hr⟩
 | mW=>
   rcases vs with _ | ⟨x,xs⟩
   ·simp[aC] at hr
   ·cases x <;> simp only[aC] at hr ⊢ <;> first | exact ha _ _ _ _ hr | cases hr
 | _=> exact ⟨0,fun d _=> by
    rcases vs with _ | ⟨x,_ | ⟨y,_ | ⟨z,_ | ⟨u,vs⟩⟩⟩⟩<;> exact hr⟩
theorem uZ {fr:Fr} {h:Hp} {g:Vm.G} {r:V×Hp} (hr:stepG c base fr h g=some r):∃n,∀d,n≤d→stepG (G d) base fr h g=some r:=by
 unfold stepG at hr ⊢
 cases hw:want fr g with
 | none=> rw[hw] at hr;cases hr
 | some b=>
   rw[hw] at hr
   cases b with
   | true=> exact TS ha hr
   | false=> exact ⟨0,fun d _=> hr⟩
theorem D6 :∀ {gs:List Vm.G} {fr:Fr} {h:Hp} {r:Fr×Hp},lf c base gs fr h=some r→∃n,∀d,n≤d→lf (G d) base gs fr h=some r
 | [],fr,h,r,hr=>⟨0,fun d _=> hr⟩
 | g::gs,fr,h,r,hr=> by
   simp only[lf] at hr
   split at hr
   case h_2=> cases hr
   rename_i v h' aR
   obtain ⟨n,hn⟩:=uZ ha aR
   obtain ⟨m,hm⟩:=D6 hr
   exact ⟨max n m,fun d hd=> by simp only[lf];rw[hn d (by omega)];exact hm d (by omega)⟩
theorem yl :∀ {gs:List GD} {fr:Fr} {h:Hp} {hs:List Hp} {xs:List Seen} {r:Fr×Hp×List Hp×List Seen},nF c base gs fr h hs xs=some r→∃n,∀d,n≤d→nF (G d) base gs fr h hs xs=some r
 | [],fr,h,hs,xs,r,hr=>⟨0,fun d _=> hr⟩
 | g::gs,fr,h,hs,xs,r,hr=> by
   simp only[nF] at hr
   split at hr
   case h_2=> cases hr
   rename_i v h' aR
   obtain ⟨n,hn⟩:=uZ ha aR
   split at hr
   ·rename_i he
    obtain ⟨m,hm⟩:=yl hr
    exact ⟨max n m,fun d hd=> by simp only[nF];rw[hn d (by omega)];simp only[he,if_true];exact hm d (by omega)⟩
   ·rename_i he
    obtain ⟨m,hm⟩:=yl hr
    exact ⟨max n m,fun d hd=> by simp only[nF];rw[hn d (by omega)];simp only[he];exact hm d (by omega)⟩
theorem xa {fr:Fr} {g:Vm.G} {v:V}:∀ {hs:List Hp},pv c base fr g v hs→∃n,∀d,n≤d→pv (G d) base fr g v hs
 | [],_=>⟨0,fun d _=> trivial⟩
 | h::hs,⟨h1,h2⟩=> by
   obtain ⟨n,hn⟩:=uZ ha h1
   obtain ⟨m,hm⟩:=xa h2
   exact ⟨max n m,fun d hd=>⟨hn d (by omega),hm d (by omega)⟩⟩
theorem u0 {hs:List Hp}:∀ {xs:List Seen},oj c base hs xs→∃n,∀d,n≤d→oj (G d) base hs xs
 | [],_=>⟨0,fun d _=> trivial⟩
 | x::xs,⟨h1,h2⟩=> by
   obtain ⟨n,hn⟩:=xa ha h1
   obtain ⟨m,hm⟩:=u0 h2
   exact ⟨max n m,fun d hd=>⟨hn d (by omega),hm d (by omega)⟩⟩
theorem NI {gs:List GD} {fr:Fr} {h:Hp} {r:Fr×Hp} (hr:bL c base gs fr h=some r):∃n,∀d,n≤d→bL (G d) base gs fr h=some r:=by
 unfold bL at hr ⊢
 split at hr
 case h_2=> cases hr
 rename_i fr' h' hs xs hd
 split at hr
 case isFalse=> cases hr
 rename_i hs
 obtain ⟨n,hn⟩:=yl ha hd
 obtain ⟨m,hm⟩:=u0 ha hs.2
 exact ⟨max n m,fun d hd=> by rw[hn d (by omega)];simp only;rw[if_pos ⟨hs.1,hm d (by omega)⟩];exact hr⟩
theorem D8 :∀ {k:C} {fr:Fr} {h:Hp} {r:Ex×Fr×Hp},exec c base k fr h=some r→∃n,∀d,n≤d→exec (G d) base k fr h=some r:=by
 intro k
 induction k with
 | af gs=>
   intro fr h r hr
   simp only[exec] at hr ⊢
   obtain ⟨q,hq,rfl⟩:=ach.1 hr
   obtain ⟨n,hn⟩:=D6 ha hq
   exact ⟨n,fun d hd=> by rw[hn d hd];rfl⟩
 | bL gs=>
   intro fr h r hr
   simp only[exec] at hr ⊢
   obtain ⟨q,hq,rfl⟩:=ach.1 hr
   obtain ⟨n,hn⟩:=NI ha hq
   exact ⟨n,fun d hd=> by rw[hn d hd];rfl⟩
 | seq a b iha ihb=>
   intro fr h r hr
   simp only[exec] at hr ⊢
   split at hr
   ·rename_i fr1 h1 hx
    obtain ⟨n,hn⟩:=iha hx
    obtain ⟨m,hm⟩:=ihb hr
    exact ⟨max n m,fun d hd=> by rw[hn d (by omega)];exact hm d (by omega)⟩
   ·rename_i cC
    obtain ⟨n,hn⟩:=iha hr
    refine ⟨n,fun d hd=> ?_⟩
    rw[hn d hd]
    obtain ⟨e,f1,h1⟩:=r
    cases e with
    | normal=> exact absurd hr (cC f1 h1)
    | exit id=> rfl
    | ret=> rfl
 | cond x a b iha ihb=>
   intro fr h r hr
   simp only[exec] at hr ⊢
   split at hr
   ·exact iha hr
   ·exact ihb hr
   ·cases hr
 | block id a iha=>
   intro fr h r hr
   simp only[exec] at hr ⊢
   split at hr
   ·rename_i id' fr1 h1 hx
    obtain ⟨n,hn⟩:=iha hx
    exact ⟨n,fun d hd=> by rw[hn d hd];exact hr⟩
   ·rename_i cC
    obtain ⟨n,hn⟩:=iha hr
    refine ⟨n,fun d hd=> ?_⟩
    rw[hn d hd]
    obtain ⟨e,f1,h1⟩:=r
    cases e with
    | exit id=> exact absurd hr (cC id f1 h1)
    | normal=> rfl
    | ret=> rfl
 | loop a iha=>
   intro fr h r hr
   simp only[exec] at hr ⊢
   obtain ⟨k,hk⟩:=il.1 hr
   have key:∀(k:Nat) (fr:Fr) (h:Hp),iter (exec c base a) k fr h=some r→∃n,∀d,n≤d→iter (exec (G d) base a) k fr h=some r:=by
     intro k
     induction k with
     | zero=> intro fr h hk;simp[iter] at hk
     | succ k ih=>
       intro fr h hk
       simp only[iter] at hk ⊢
       split at hk
       ·rename_i fr1 h1 hx
        obtain ⟨n,hn⟩:=iha hx
        obtain ⟨m,hm⟩:=ih _ _ hk
        exact ⟨max n m,fun d hd=> by rw[hn d (by omega)];exact hm d (by omega)⟩
       ·rename_i cC
        obtain ⟨n,hn⟩:=iha hk
        refine ⟨n,fun d hd=> ?_⟩
        rw[hn d hd]
        obtain ⟨e,f1,h1⟩:=r
        cases e with
        | normal=> exact absurd hk (cC f1 h1)
        | exit id=> rfl
        | ret=> rfl
   obtain ⟨n,hn⟩:=key k fr h hk
   exact ⟨n,fun d hd=> il.2 ⟨k,hn d hd⟩⟩
 | skip=> intro fr h r hr;exact ⟨0,fun d _=> hr⟩
 | exit id=> intro fr h r hr;exact ⟨0,fun d _=> hr⟩
 | ret=> intro fr h r hr;exact ⟨0,fun d _=> hr⟩
end
theorem u6 {c:Nat→CF} {G:Nat→Nat→CF} (ha:∀base,Ap (c base) (fun d=> G d base)) {base:Nat} {F:Fn} {args:List V} {h:Hp} {r:V×Hp} (hr:lN c base F args h=some r):
 ∃n,∀d,n≤d→lN (G d) base F args h=some r:=by
 unfold lN at hr ⊢
 by_cases hp:F.pure=true
 ·simp only[hp,if_true] at hr ⊢
  cases hx:exec (c h.length) h.length F.body (mL F args) h with
  | none=> rw[hx] at hr;cases hr
  | some q=>
    rw[hx] at hr
    obtain ⟨n,hn⟩:=D8 (ha _) hx
    exact ⟨n,fun d hd=> by rw[hn d hd];exact hr⟩
 ·simp only[hp] at hr ⊢
  cases hx:exec (c base) base F.body (mL F args) h with
  | none=> rw[hx] at hr;cases hr
  | some q=>
    rw[hx] at hr
    obtain ⟨n,hn⟩:=D8 (ha _) hx
    exact ⟨n,fun d hd=> by rw[hn d hd];exact hr⟩
section
variable (fns : Nat → Option Fn) (pr : CF)
theorem K4 :∀(d base:Nat) (f:Nat) (vs:List V) (h:Hp) (r:V×Hp),den fns pr d base f vs h=some r→den fns pr (d+1) base f vs h=some r
 | 0,base,f,vs,h,r,hr=> by simp[den] at hr
 | d+1,base,f,vs,h,r,hr=> by
   rw[den] at hr ⊢
   split at hr
   ·rename_i F hF
    obtain ⟨n,hn⟩:=u6 (c:=fun base=> den fns pr d base) (G:=fun _ base=> den fns pr (d+1) base) (fun base f vs h r hr=>⟨0,fun _ _=> K4 d base f vs h r hr⟩) hr
    exact hn n (acm _)
   ·exact hr
theorem Cp {d e base f:Nat} {vs:List V} {h:Hp} {r:V×Hp} (hr:den fns pr d base f vs h=some r) (hde:d≤e):den fns pr e base f vs h=some r:=by
 induction hde with
 | refl=> exact hr
 | step _ ih=> exact K4 fns pr _ _ _ _ _ _ ih
open Classical in
noncomputable def run (base:Nat):CF:=fun f vs h=> if hx:∃d r,den fns pr d base f vs h=some r then some hx.choose_spec.choose else none
theorem qA {base f:Nat} {vs:List V} {h:Hp} {r:V×Hp}:run fns pr base f vs h=some r↔∃d,den fns pr d base f vs h=some r:=by
 unfold run
 constructor
 ·intro hr
  split at hr
  ·rename_i hx
   simp only[Option.some.injEq] at hr
   rw[←hr]
   exact ⟨_,hx.choose_spec.choose_spec⟩
  ·cases hr
 ·rintro ⟨d,hd⟩
  have hx:∃d r,den fns pr d base f vs h=some r:=⟨d,r,hd⟩
  rw[dif_pos hx]
  have h1:=hx.choose_spec.choose_spec
  have h2:=Cp fns pr h1 (Nat.le_max_left _ d)
  have h3:=Cp fns pr hd (Nat.le_max_right hx.choose d)
  rw[h2] at h3
  exact h3
theorem run_eq {f:Nat} {F:Fn} (hF:fns f=some F) (base:Nat) (vs:List V) (h:Hp):run fns pr base f vs h=lN (run fns pr) base F vs h:=by
 apply Option.ext
 intro r
 rw[qA]
 constructor
 ·rintro ⟨d,hd⟩
  cases d with
  | zero=> simp[den] at hd
  | succ d=>
    simp only[den,hF] at hd
    obtain ⟨n,hn⟩:=u6 (c:=fun base=> den fns pr d base) (G:=fun _ base=> run fns pr base) (fun base f vs h r hr=>⟨0,fun _ _=>(qA fns pr).2 ⟨d,hr⟩⟩) hd
    exact hn n (acm _)
 ·intro hr
  obtain ⟨n,hn⟩:=u6 (c:=run fns pr) (G:=fun d base=> den fns pr d base) (fun base f vs h r hr=> by
    obtain ⟨d,hd⟩:=(qA fns pr).1 hr
    exact ⟨d,fun e he=> Cp fns pr hd he⟩) hr
  exact ⟨n+1,by simp only[den,hF];exact hn n (acm _)⟩
theorem pa {f:Nat} (hF:fns f=none) (base:Nat) (vs:List V) (h:Hp):run fns pr base f vs h=pr f vs h:=by
 apply Option.ext
 intro r
 rw[qA]
 constructor
 ·rintro ⟨d,hd⟩
  cases d with
  | zero=> simp[den] at hd
  | succ d=> simpa[den,hF] using hd
 ·intro hr;exact ⟨1,by simpa[den,hF] using hr⟩
end
theorem vA {P:Program} (hL:(ak P).OK) {fns:Nat→Option Fn} {pr:CF} (hf:rz P fns) (hp:cJ P (ak P) pr) (hkp:KpP pr) (base:Nat):cJ P (ak P) (run fns pr base):=by
 intro f vs h v h' hr
 obtain ⟨d,hd⟩:=(qA fns pr).1 hr
 exact wX hL hf hp hkp d base f vs h v h' hd
end Go.Vm
namespace Go.Vm
abbrev Env :=Nat→V
def Env.up (e:Env) (t:Nat) (v:V):Env:=fun n=> if n=t then v else e n
def Env.put (e:Env):Option Nat→V→Env
 | some t,v=> e.up t v
 | none,_=> e
def X.on (e:Env):X→V
 | .t n=> e n
 | .c v=> v
def view (fr:Fr):Env:=fun t=> fr.getD t (.bP [])
def e0 (args:List V):Env:=fun t=> args.getD t (.bP [])
def u7 (v:V) (b:Bool):Option Bool:=
 match v with
 | .s (.bool b')=> some (b'==b)
 | .bP []=> some false
 | _=> none
def rY (e:Env):Option (Nat×Bool)→Option Bool
 | none=> some true
 | some (t,b)=> u7 (e t) b
noncomputable def fb (cf:CF) (base:Nat) (e:Env) (h:Hp) (g:G):Option (V×Hp):=
 match rY e g.guard with
 | some true=> aC cf base h g.op (g.xs.map (X.on e))
 | some false=> some (.bP [],h)
 | none=> none
noncomputable def Ad (cf:CF) (base:Nat):List G→Env→Hp→Option (Env×Hp)
 | [],e,h=> some (e,h)
 | g::gs,e,h=> match fb cf base e h g with
   | some (v,h')=> Ad cf base gs (e.put g.dst v) h'
   | none=> none
structure dZ where
 d:GD
 e:Env
 h:Hp
 v:V
def AH (cf:CF) (base:Nat) (x:dZ) (h:Hp):Prop:=h=x.h∨fb cf base x.e h x.d.g=some (x.v,h)
def FT (cf:CF) (base:Nat) (x:dZ):List Hp→Prop
 | []=> True
 | h::hs=> AH cf base x h∧FT cf base x hs
def nT (cf:CF) (base:Nat) (hs:List Hp):List dZ→Prop
 | []=> True
 | x::xs=> FT cf base x ((hs.drop x.d.lo).take (x.d.hi+1 - x.d.lo))∧nT cf base hs xs
noncomputable def jk (cf:CF) (base:Nat):List GD→Env→Hp→List Hp→List dZ→Option (Env×Hp×List Hp×List dZ)
 | [],e,h,hs,xs=> some (e,h,hs++[h],xs)
 | d::ds,e,h,hs,xs=> match fb cf base e h d.g with
   | some (v,h')=> if d.g.op.cq then jk cf base ds (e.put d.g.dst v) h' (hs++[h]) xs else jk cf base ds (e.put d.g.dst v) h hs (xs++[⟨d,e,h,v⟩])
   | none=> none
open Classical in
noncomputable def K5 (cf:CF) (base:Nat) (ds:List GD) (e:Env) (h:Hp):Option (Env×Hp):=
 match jk cf base ds e h [] [] with
 | some (e',h',hs,xs)=> if nT cf base hs xs then some (e',h') else none
 | none=> none
abbrev Ae :=Option (Ex×Env×Hp)
def gY (f:Env→Hp→Ae):Nat→Env→Hp→Ae
 | 0,_,_=> none
 | n+1,e,h=> match f e h with
   | some (.normal,e',h')=> gY f n e' h'
   | r=> r
theorem xb {f:Env→Hp→Ae}:∀ {n m:Nat} {e:Env} {h:Hp} {r r':Ex×Env×Hp},gY f n e h=some r→gY f m e h=some r'→r=r'
 | 0,_,_,_,_,_,h1,_=> by simp[gY] at h1
 | _+1,0,_,_,_,_,_,h2=> by simp[gY] at h2
 | n+1,m+1,e,h,r,r',h1,h2=> by
   simp only[gY] at h1 h2
   split at h1
   ·rename_i fr1 h1' he
    rw[he] at h2
    exact xb h1 h2
   ·rename_i cC
    cases hf:f e h with
    | none=> rw[hf] at h1;cases h1
    | some q=>
      rw[hf] at h1 h2
      obtain ⟨x,a,b⟩:=q
      cases x with
      | normal=> exact absurd hf (cC a b)
      | exit id=> simp only[Option.some.injEq] at h1 h2;rw[←h1,←h2]
      | ret=> simp only[Option.some.injEq] at h1 h2;rw[←h1,←h2]
open Classical in
noncomputable def Af (f:Env→Hp→Ae) (e:Env) (h:Hp):Ae:=
 if hx:∃r n,gY f n e h=some r then some hx.choose else none
theorem pH {f:Env→Hp→Ae} {e:Env} {h:Hp} {r:Ex×Env×Hp}:Af f e h=some r↔∃n,gY f n e h=some r:=by
 unfold Af
 constructor
 ·intro hr
  split at hr
  ·rename_i hx
   simp only[Option.some.injEq] at hr
   rw[←hr]
   exact hx.choose_spec
  ·cases hr
 ·rintro ⟨n,hn⟩
  have hx:∃r n,gY f n e h=some r:=⟨r,n,hn⟩
  rw[dif_pos hx]
  obtain ⟨m,hm⟩:=hx.choose_spec
  rw[xb hm hn]
theorem K6 (f:Env→Hp→Ae) (e:Env) (h:Hp):Af f e h=match f e h with
 | some (.normal,e',h')=> Af f e' h'
 | r=> r:=by
 apply Option.ext
 intro r
 rw[pH]
 split
 ·rename_i fr' h' he
  rw[pH]
  constructor
  ·rintro ⟨n,hn⟩
   cases n with
   | zero=> simp[gY] at hn
   | succ n=> simp only[gY,he] at hn;exact ⟨n,hn⟩
  ·rintro ⟨n,hn⟩
   exact ⟨n+1,by simp only[gY,he];exact hn⟩
 ·rename_i cC
  constructor
  ·rintro ⟨n,hn⟩
   cases n with
   | zero=> simp[gY] at hn
   | succ n=> simp only[gY] at hn;exact hn
  ·intro hr
   refine ⟨1,?_⟩
   simp only[gY]
   exact hr
noncomputable def dn (cf:CF) (base:Nat):C→Env→Hp→Ae
 | .skip,e,h=> some (.normal,e,h)
 | .af gs,e,h=>(Ad cf base gs e h).map fun r=>(.normal,r.1,r.2)
 | .bL ds,e,h=>(K5 cf base ds e h).map fun r=>(.normal,r.1,r.2)
 | .seq a b,e,h=> match dn cf base a e h with
   | some (.normal,e',h')=> dn cf base b e' h'
   | r=> r
 | .cond c a b,e,h=> match c.on e with
   | .s (.bool true)=> dn cf base a e h
   | .s (.bool false)=> dn cf base b e h
   | _=> none
 | .block id a,e,h=> match dn cf base a e h with
   | some (.exit id',e',h')=> if id'=id then some (.normal,e',h') else some (.exit id',e',h')
   | r=> r
 | .loop a,e,h=> Af (dn cf base a) e h
 | .exit id,e,h=> some (.exit id,e,h)
 | .ret,e,h=> some (.ret,e,h)
def G.fits (n:Nat) (g:G):Bool:=(match g.dst with | some t=> decide (t < n) | none=> true)&&(match g.guard with | some (t,_)=> decide (t < n) | none=> true)
def C.fits (n:Nat):C→Bool
 | .af gs=> gs.all (G.fits n)
 | .bL ds=> ds.all fun d=> d.g.fits n
 | .seq a b=> a.fits n && b.fits n
 | .cond _ a b=> a.fits n && b.fits n
 | .block _ a=> a.fits n
 | .loop a=> a.fits n
 | _=> true
theorem K7 {fr:Fr} {t:Nat} {v:V} (ht:t < fr.length):view (fr.set t v)=(view fr).up t v:=by
 funext n
 simp only[view,Env.up,adk]
 by_cases h:n=t
 ·subst h;simp[ht]
 ·rw[acp (adY h),if_neg h]
theorem evX (fr:Fr):X.ev fr=X.on (view fr):=by funext x;cases x <;> rfl
theorem xc {n:Nat} {fr:Fr} {g:G} {v:V} (hl:fr.length=n) (hg:g.fits n=true):(ik fr g.dst v).length=n∧view (ik fr g.dst v)=(view fr).put g.dst v:=by
 simp only[G.fits,acn] at hg
 cases hd:g.dst with
 | none=> exact ⟨hl,rfl⟩
 | some t=>
   rw[hd] at hg
   simp only[decide_eq_true_eq] at hg
   exact ⟨by simpa[ik] using hl,by simp only[ik,Env.put];exact K7 (by rw[hl];exact hg.1)⟩
theorem lX {cf:CF} {base n:Nat} {fr:Fr} {h:Hp} {g:G} (hl:fr.length=n) (hg:g.fits n=true):stepG cf base fr h g=fb cf base (view fr) h g:=by
 simp only[G.fits,acn] at hg
 unfold stepG fb want rY
 rw[evX]
 cases hd:g.guard with
 | none=> rfl
 | some p=>
   obtain ⟨t,b⟩:=p
   rw[hd] at hg
   simp only[decide_eq_true_eq] at hg
   have:fr.getD t .top=view fr t:=by
     simp only[view,adk]
     have ht:t < fr.length:=by rw[hl];exact hg.2
     rw[aci ht];rfl
   simp only[u7]
   rw[this]
   rfl
theorem Ag {cf:CF} {base n:Nat}:∀ {gs:List G} {fr:Fr} {h:Hp} {e':Env} {h':Hp},fr.length=n→gs.all (G.fits n)=true→Ad cf base gs (view fr) h=some (e',h')→
 ∃fr',lf cf base gs fr h=some (fr',h')∧fr'.length=n∧view fr'=e'
 | [],fr,h,e',h',hl,_,hr=> by
   simp only[Ad,Option.some.injEq,Prod.mk.injEq] at hr
   obtain ⟨rfl,rfl⟩:=hr
   exact ⟨fr,rfl,hl,rfl⟩
 | g::gs,fr,h,e',h',hl,hg,hr=> by
   simp only[afS,acn] at hg
   simp only[Ad] at hr
   split at hr
   case h_2=> cases hr
   rename_i v h1 aR
   obtain ⟨p1,p2⟩:=xc (v:=v) hl hg.1
   rw[←p2] at hr
   obtain ⟨fr',q1,q2,q3⟩:=Ag p1 hg.2 hr
   exact ⟨fr',by simp only[lf];rw[lX hl hg.1,aR];exact q1,q2,q3⟩
def rv (cf:CF) (base n:Nat):List Seen→List dZ→Prop
 | [],[]=> True
 | x::xs,y::ys=>(x.d=y.d∧x.v=y.v∧x.fr.length=n∧view x.fr=y.e∧y.d.g.fits n=true∧fb cf base y.e y.h y.d.g=some (y.v,y.h))∧rv cf base n xs ys
 | _,_=> False
theorem o0 {cf:CF} {base n:Nat} {x:Seen} {y:dZ}:∀ {xs:List Seen} {ys:List dZ},rv cf base n xs ys→(x.d=y.d∧x.v=y.v∧x.fr.length=n∧view x.fr=y.e∧y.d.g.fits n=true∧fb cf base y.e y.h y.d.g=some (y.v,y.h))→rv cf base n (xs++[x]) (ys++[y])
 | [],[],_,h=>⟨h,trivial⟩
 | _::_,_::_,h1,h=>⟨h1.1,o0 h1.2 h⟩
 | [],_::_,h1,_=> h1.elim
 | _::_,[],h1,_=> h1.elim
theorem rZ {cf:CF} {base n:Nat} {x:Seen} {y:dZ} (h:x.d=y.d∧x.v=y.v∧x.fr.length=n∧view x.fr=y.e∧y.d.g.fits n=true∧fb cf base y.e y.h y.d.g=some (y.v,y.h)):∀ {hs:List Hp},FT cf base y hs→pv cf base x.fr x.d.g x.v hs
 | [],_=> trivial
 | k::ks,⟨h1,h2⟩=> by
   refine ⟨?_,rZ h h2⟩
   obtain ⟨a1,a2,a3,a4,a5,a6⟩:=h
   rw[a1,a2,lX a3 a5,a4]
   rcases h1 with rfl | h1
   ·exact a6
   ·exact h1
theorem qB {cf:CF} {base n:Nat} {hs:List Hp}:∀ {xs:List Seen} {ys:List dZ},rv cf base n xs ys→nT cf base hs ys→oj cf base hs xs
 | [],[],_,_=> trivial
 | x::xs,y::ys,h,⟨h1,h2⟩=>⟨by have:=h.1.1;rw[←this] at h1;exact rZ h.1 h1,qB h.2 h2⟩
 | [],_::_,h,_=> h.elim
 | _::_,[],h,_=> h.elim
theorem ry {cf:CF} {base n:Nat}:∀ {ds:List GD} {fr:Fr} {h:Hp} {hs:List Hp} {xs:List Seen} {ys:List dZ} {e':Env} {h':Hp} {dv:List Hp} {ys':List dZ},fr.length=n→(ds.all fun d=> d.g.fits n)=true→rv cf base n xs ys→
 jk cf base ds (view fr) h hs ys=some (e',h',dv,ys')→∃fr' xs',nF cf base ds fr h hs xs=some (fr',h',dv,xs')∧fr'.length=n∧view fr'=e'∧rv cf base n xs' ys'
 | [],fr,h,hs,xs,ys,e',h',dv,ys',hl,_,hx,hr=> by
   simp only[jk,Option.some.injEq,Prod.mk.injEq] at hr
   obtain ⟨rfl,rfl,rfl,rfl⟩:=hr
   exact ⟨fr,xs,rfl,hl,rfl,hx⟩
 | d::ds,fr,h,hs,xs,ys,e',h',dv,ys',hl,hg,hx,hr=> by
   simp only[afS,acn] at hg
   simp only[jk] at hr
   split at hr
   case h_2=> cases hr
   rename_i v h1 aR
   obtain ⟨p1,p2⟩:=xc (v:=v) hl hg.1
   rw[←p2] at hr
   split at hr
   ·rename_i he
    obtain ⟨fr',xs',q1,q2,q3,q4⟩:=ry p1 hg.2 hx hr
    exact ⟨fr',xs',by simp only[nF];rw[lX hl hg.1,aR];simp only[he,if_true];exact q1,q2,q3,q4⟩
   ·rename_i he
    have hq:h1=h:=by
      have ir:=aR
      rw[←lX hl hg.1] at ir
      exact rU (by simpa using he) ir
    subst hq
    obtain ⟨fr',xs',q1,q2,q3,q4⟩:=ry p1 hg.2 (o0 (x:=⟨d,fr,v⟩) (y:=⟨d,view fr,h1,v⟩) hx ⟨rfl,rfl,hl,rfl,hg.1,aR⟩) hr
    exact ⟨fr',xs',by simp only[nF];rw[lX hl hg.1,aR];simp only[he];exact q1,q2,q3,q4⟩
theorem xd {cf:CF} {base n:Nat}:∀ {c:C} {fr:Fr} {h:Hp} {ex:Ex} {e':Env} {h':Hp},fr.length=n→c.fits n=true→dn cf base c (view fr) h=some (ex,e',h')→
 ∃fr',exec cf base c fr h=some (ex,fr',h')∧fr'.length=n∧view fr'=e':=by
 intro c
 induction c with
 | skip=>
   intro fr h ex e' h' hl hc hr
   simp only[dn,Option.some.injEq,Prod.mk.injEq] at hr
   obtain ⟨rfl,rfl,rfl⟩:=hr
   exact ⟨fr,rfl,hl,rfl⟩
 | exit id=>
   intro fr h ex e' h' hl hc hr
   simp only[dn,Option.some.injEq,Prod.mk.injEq] at hr
   obtain ⟨rfl,rfl,rfl⟩:=hr
   exact ⟨fr,rfl,hl,rfl⟩
 | ret=>
   intro fr h ex e' h' hl hc hr
   simp only[dn,Option.some.injEq,Prod.mk.injEq] at hr
   obtain ⟨rfl,rfl,rfl⟩:=hr
   exact ⟨fr,rfl,hl,rfl⟩
 | af gs=>
   intro fr h ex e' h' hl hc hr
   simp only[dn] at hr
   obtain ⟨⟨a,b⟩,hq,he⟩:=ach.1 hr
   simp only[Prod.mk.injEq] at he
   obtain ⟨rfl,rfl,rfl⟩:=he
   obtain ⟨fr',q1,q2,q3⟩:=Ag hl hc hq
   exact ⟨fr',by simp only[exec,q1];rfl,q2,q3⟩
 | bL ds=>
   intro fr h ex e' h' hl hc hr
   simp only[dn] at hr
   obtain ⟨⟨a,b⟩,hq,he⟩:=ach.1 hr
   simp only[Prod.mk.injEq] at he
   obtain ⟨rfl,rfl,rfl⟩:=he
   unfold K5 at hq
   split at hq
   case h_2=> cases hq
   rename_i e1 h1 hs xs hd
   split at hq
   case isFalse=> cases hq
   rename_i iM
   cases hq
   obtain ⟨fr',xs',q1,q2,q3,q4⟩:=ry hl hc (xs:=[]) (ys:=[]) trivial hd
   have Hk:inB fr.length ds:=fun d hd t ht=> by
     have:=acJ.1 hc d hd
     simp only[G.fits,ht,acn,decide_eq_true_eq] at this
     rw[hl];exact this.1
   exact ⟨fr',by simp only[exec,Vm.bL,q1];rw[if_pos ⟨Hk,qB q4 iM⟩];rfl,q2,q3⟩
 | seq a b iha ihb=>
   intro fr h ex e' h' hl hc hr
   simp only[C.fits,acn] at hc
   simp only[dn] at hr
   split at hr
   ·rename_i e1 h1 hx
    obtain ⟨f1,q1,q2,q3⟩:=iha hl hc.1 hx
    rw[←q3] at hr
    obtain ⟨f2,q4,q5,q6⟩:=ihb q2 hc.2 hr
    exact ⟨f2,by simp only[exec,q1];exact q4,q5,q6⟩
   ·rename_i cC
    obtain ⟨f1,q1,q2,q3⟩:=iha hl hc.1 hr
    refine ⟨f1,?_,q2,q3⟩
    simp only[exec,q1]
    cases ex with
    | normal=> exact absurd hr (cC e' h')
    | exit id=> rfl
    | ret=> rfl
 | cond x a b iha ihb=>
   intro fr h ex e' h' hl hc hr
   simp only[C.fits,acn] at hc
   simp only[dn] at hr
   simp only[exec,evX]
   split at hr
   ·rename_i he;rw[he];exact iha hl hc.1 hr
   ·rename_i he;rw[he];exact ihb hl hc.2 hr
   ·cases hr
 | block id a iha=>
   intro fr h ex e' h' hl hc hr
   simp only[C.fits] at hc
   simp only[dn] at hr
   split at hr
   ·rename_i id' e1 h1 hx
    obtain ⟨f1,q1,q2,q3⟩:=iha hl hc hx
    split at hr
    ·rename_i hid
     simp only[Option.some.injEq,Prod.mk.injEq] at hr
     obtain ⟨rfl,rfl,rfl⟩:=hr
     exact ⟨f1,by simp only[exec,q1,hid,if_true],q2,q3⟩
    ·rename_i hid
     simp only[Option.some.injEq,Prod.mk.injEq] at hr
     obtain ⟨rfl,rfl,rfl⟩:=hr
     exact ⟨f1,by simp only[exec,q1,hid,if_false],q2,q3⟩
   ·rename_i cC
    obtain ⟨f1,q1,q2,q3⟩:=iha hl hc hr
    refine ⟨f1,?_,q2,q3⟩
    simp only[exec,q1]
    cases ex with
    | exit id=> exact absurd hr (cC id e' h')
    | normal=> rfl
    | ret=> rfl
 | loop a iha=>
   intro fr h ex e' h' hl hc hr
   simp only[C.fits] at hc
   simp only[dn] at hr
   obtain ⟨k,hk⟩:=pH.1 hr
   have key:∀(k:Nat) (fr:Fr) (h:Hp),fr.length=n→gY (dn cf base a) k (view fr) h=some (ex,e',h')→∃fr',iter (exec cf base a) k fr h=some (ex,fr',h')∧fr'.length=n∧view fr'=e':=by
     intro k
     induction k with
     | zero=> intro fr h hl hk;simp[gY] at hk
     | succ k ih=>
       intro fr h hl hk
       simp only[gY] at hk
       split at hk
       ·rename_i e1 h1 hx
        obtain ⟨f1,q1,q2,q3⟩:=iha hl hc hx
        rw[←q3] at hk
        obtain ⟨f2,q4,q5,q6⟩:=ih f1 h1 q2 hk
        exact ⟨f2,by simp only[iter,q1];exact q4,q5,q6⟩
       ·rename_i cC
        obtain ⟨f1,q1,q2,q3⟩:=iha hl hc hk
        refine ⟨f1,?_,q2,q3⟩
        simp only[iter,q1]
        cases ex with
        | normal=> exact absurd hk (cC e' h')
        | exit id=> rfl
        | ret=> rfl
   obtain ⟨fr',q1,q2,q3⟩:=key k fr h hl hk
   exact ⟨fr',by simp only[exec];exact il.2 ⟨k,q1⟩,q2,q3⟩
abbrev bS :=Ex→Env→Hp→Prop
section
variable (cf : CF) (base : Nat)
def wp (c:C) (e:Env) (h:Hp) (Q:bS):Prop:=∃ex e' h',dn cf base c e h=some (ex,e',h')∧Q ex e' h'
def wpG (gs:List G) (e:Env) (h:Hp) (Q:bS):Prop:=∃e' h',Ad cf base gs e h=some (e',h')∧Q .normal e' h'
def wpS (r:Option (V×Hp)) (d:Option Nat) (gs:List G) (e:Env) (Q:bS):Prop:=
 match r with
 | some (v,h')=> wpG cf base gs (e.put d v) h' Q
 | none=> False
def Hy (r:Option Bool) (g:G) (gs:List G) (e:Env) (h:Hp) (Q:bS):Prop:=
 match r with
 | some true=> wpS cf base (aC cf base h g.op (g.xs.map (X.on e))) g.dst gs e Q
 | some false=> wpG cf base gs (e.put g.dst (.bP [])) h Q
 | none=> False
def Ah (ds:List GD) (e:Env) (h:Hp) (hs:List Hp) (xs:List dZ) (Q:bS):Prop:=∃e' h' dv xs',jk cf base ds e h hs xs=some (e',h',dv,xs')∧nT cf base dv xs'∧Q .normal e' h'
def wpT (r:Option (V×Hp)) (d:GD) (ds:List GD) (e:Env) (h:Hp) (hs:List Hp) (xs:List dZ) (Q:bS):Prop:=
 match r with
 | some (v,h')=> if d.g.op.cq=true then Ah cf base ds (e.put d.g.dst v) h' (hs++[h]) xs Q else Ah cf base ds (e.put d.g.dst v) h hs (xs++[⟨d,e,h,v⟩]) Q
 | none=> False
def wpC (v:V) (a b:C) (e:Env) (h:Hp) (Q:bS):Prop:=
 match v with
 | .s (.bool true)=> wp cf base a e h Q
 | .s (.bool false)=> wp cf base b e h Q
 | _=> False
def Cq (b:C) (Q:bS):bS
 | .normal,e,h=> wp cf base b e h Q
 | ex,e,h=> Q ex e h
def ic (id:Nat) (Q:bS):bS
 | .exit i,e,h=> if i=id then Q .normal e h else Q (.exit i) e h
 | ex,e,h=> Q ex e h
def D9 (a:C) (Q:bS):bS
 | .normal,e,h=> wp cf base (.loop a) e h Q
 | ex,e,h=> Q ex e h
theorem Hz {α β γ:Type} {a:α} {b:β} {c:γ} {Q:α→β→γ→Prop}:(∃x y z,some (a,b,c)=some (x,y,z)∧Q x y z)↔Q a b c:=by
 constructor
 ·rintro ⟨x,y,z,h,hq⟩;cases h;exact hq
 ·intro h;exact ⟨a,b,c,rfl,h⟩
theorem ex2 {α β:Type} {a:α} {b:β} {Q:α→β→Prop}:(∃x y,some (a,b)=some (x,y)∧Q x y)↔Q a b:=by
 constructor
 ·rintro ⟨x,y,h,hq⟩;cases h;exact hq
 ·intro h;exact ⟨a,b,rfl,h⟩
theorem wp_skip (e:Env) (h:Hp) (Q:bS):wp cf base .skip e h Q=Q .normal e h:=by simp only[wp,dn,Hz]
theorem wp_ret (e:Env) (h:Hp) (Q:bS):wp cf base .ret e h Q=Q .ret e h:=by simp only[wp,dn,Hz]
theorem wp_exit (id:Nat) (e:Env) (h:Hp) (Q:bS):wp cf base (.exit id) e h Q=Q (.exit id) e h:=by simp only[wp,dn,Hz]
theorem TT (gs:List G) (e:Env) (h:Hp) (Q:bS):wp cf base (.af gs) e h Q=wpG cf base gs e h Q:=by
 simp only[wp,wpG,dn,eq_iff_iff]
 constructor
 ·rintro ⟨ex,e',h',hx,hq⟩
  obtain ⟨⟨a,b⟩,h1,h2⟩:=ach.1 hx
  cases h2;exact ⟨_,_,h1,hq⟩
 ·rintro ⟨e',h',hx,hq⟩
  exact ⟨_,_,_,by rw[hx];rfl,hq⟩
theorem NJ (ds:List GD) (e:Env) (h:Hp) (Q:bS):wp cf base (.bL ds) e h Q=Ah cf base ds e h [] [] Q:=by
 simp only[wp,Ah,dn,eq_iff_iff,K5]
 constructor
 ·rintro ⟨ex,e',h',hx,hq⟩
  obtain ⟨⟨a,b⟩,h1,h2⟩:=ach.1 hx
  cases h2
  split at h1
  case h_2=> cases h1
  rename_i hd
  split at h1
  case isFalse=> cases h1
  rename_i iM
  cases h1
  exact ⟨_,_,_,_,hd,iM,hq⟩
 ·rintro ⟨e',h',hs,xs,hx,iM,hq⟩
  exact ⟨_,_,_,by rw[hx];simp only[iM,if_true];rfl,hq⟩
theorem NK (e:Env) (h:Hp) (Q:bS):wpG cf base [] e h Q=Q .normal e h:=by simp only[wpG,Ad,ex2]
theorem K8 (g:G) (gs:List G) (e:Env) (h:Hp) (Q:bS):wpG cf base (g::gs) e h Q=Hy cf base (rY e g.guard) g gs e h Q:=by
 simp only[wpG,Ad,fb,eq_iff_iff]
 cases hw:rY e g.guard with
 | none=> simp[Hy]
 | some b=>
   cases b with
   | false=> simp only[Hy];exact Iff.rfl
   | true=>
     simp only[Hy]
     cases ho:aC cf base h g.op (g.xs.map (X.on e)) with
     | none=> simp[wpS]
     | some r=> obtain ⟨v,h'⟩:=r;simp only[wpS];exact Iff.rfl
theorem NL (e:Env) (h:Hp) (hs:List Hp) (xs:List dZ) (Q:bS):Ah cf base [] e h hs xs Q=(nT cf base (hs++[h]) xs∧Q .normal e h):=by
 simp only[Ah,jk,eq_iff_iff]
 constructor
 ·rintro ⟨a,b,c,d,h1,h2,h3⟩;cases h1;exact ⟨h2,h3⟩
 ·rintro ⟨h2,h3⟩;exact ⟨_,_,_,_,rfl,h2,h3⟩
theorem FU (d:GD) (ds:List GD) (e:Env) (h:Hp) (hs:List Hp) (xs:List dZ) (Q:bS):Ah cf base (d::ds) e h hs xs Q=wpT cf base (fb cf base e h d.g) d ds e h hs xs Q:=by
 simp only[Ah,jk,eq_iff_iff]
 cases ho:fb cf base e h d.g with
 | none=> simp[wpT]
 | some r=>
   obtain ⟨v,h'⟩:=r
   simp only[wpT]
   cases d.g.op.cq <;> simp[Ah]
theorem wp_seq (a b:C) (e:Env) (h:Hp) (Q:bS):wp cf base (.seq a b) e h Q=wp cf base a e h (Cq cf base b Q):=by
 simp only[wp,dn,eq_iff_iff]
 cases hx:dn cf base a e h with
 | none=> simp
 | some r=>
   obtain ⟨ex,e1,h1⟩:=r
   cases ex with
   | normal=> simp only[Cq,wp,Hz]
   | exit id=> simp only[Cq,Hz]
   | ret=> simp only[Cq,Hz]
theorem wp_block (id:Nat) (a:C) (e:Env) (h:Hp) (Q:bS):wp cf base (.block id a) e h Q=wp cf base a e h (ic id Q):=by
 simp only[wp,dn,eq_iff_iff]
 cases hx:dn cf base a e h with
 | none=> simp
 | some r=>
   obtain ⟨ex,e1,h1⟩:=r
   cases ex with
   | normal=> simp only[ic,Hz]
   | exit i=> by_cases hi:i=id <;> simp only[ic,hi,if_true,if_false,Hz]
   | ret=> simp only[ic,Hz]
theorem wp_cond (x:X) (a b:C) (e:Env) (h:Hp) (Q:bS):wp cf base (.cond x a b) e h Q=wpC cf base (x.on e) a b e h Q:=by
 simp only[wp,dn,eq_iff_iff,wpC]
 split <;> simp[wp]
theorem wp_loop (a:C) (e:Env) (h:Hp) (Q:bS):wp cf base (.loop a) e h Q=wp cf base a e h (D9 cf base a Q):=by
 simp only[wp,dn,eq_iff_iff]
 rw[K6]
 cases hx:dn cf base a e h with
 | none=> simp
 | some r=>
   obtain ⟨ex,e1,h1⟩:=r
   cases ex with
   | normal=> simp only[D9,wp,dn,Hz]
   | exit i=> simp only[D9,Hz]
   | ret=> simp only[D9,Hz]
theorem wp_mono {c:C} {e:Env} {h:Hp} {Q Q':bS} (hw:wp cf base c e h Q) (hq:∀ex e' h',Q ex e' h'→Q' ex e' h'):wp cf base c e h Q':=by
 obtain ⟨ex,e',h',h1,h2⟩:=hw
 exact ⟨ex,e',h',h1,hq _ _ _ h2⟩
theorem K9 (v:V) (h':Hp) (d:Option Nat) (gs:List G) (e:Env) (Q:bS):wpS cf base (some (v,h')) d gs e Q=wpG cf base gs (e.put d v) h' Q:=rfl
theorem La (g:G) (gs:List G) (e:Env) (h:Hp) (Q:bS):Hy cf base (some true) g gs e h Q=wpS cf base (aC cf base h g.op (g.xs.map (X.on e))) g.dst gs e Q:=rfl
theorem FV (g:G) (gs:List G) (e:Env) (h:Hp) (Q:bS):Hy cf base (some false) g gs e h Q=wpG cf base gs (e.put g.dst (.bP [])) h Q:=rfl
theorem Lb (p:Bool) (a b:C) (e:Env) (h:Hp) (Q:bS):wpC cf base (.s (.bool p)) a b e h Q=if p=true then wp cf base a e h Q else wp cf base b e h Q:=by cases p <;> rfl
theorem Lc (a b:C) (e:Env) (h:Hp) (Q:bS):wpC cf base (.s (.bool true)) a b e h Q=wp cf base a e h Q:=rfl
theorem FW (a b:C) (e:Env) (h:Hp) (Q:bS):wpC cf base (.s (.bool false)) a b e h Q=wp cf base b e h Q:=rfl
theorem Ai (b:C) (Q:bS) (e:Env) (h:Hp):Cq cf base b Q .normal e h=wp cf base b e h Q:=rfl
theorem Ld (b:C) (Q:bS) (e:Env) (h:Hp):Cq cf base b Q .ret e h=Q .ret e h:=rfl
theorem FX (b:C) (Q:bS) (i:Nat) (e:Env) (h:Hp):Cq cf base b Q (.exit i) e h=Q (.exit i) e h:=rfl
theorem vz (id:Nat) (Q:bS) (e:Env) (h:Hp):ic id Q .normal e h=Q .normal e h:=rfl
theorem Cr (id:Nat) (Q:bS) (e:Env) (h:Hp):ic id Q .ret e h=Q .ret e h:=rfl
theorem r0 (id:Nat) (Q:bS) (i:Nat) (e:Env) (h:Hp):ic id Q (.exit i) e h=if i=id then Q .normal e h else Q (.exit i) e h:=rfl
theorem FY (d:GD) (e:Env) (h:Hp) (v:V):AH cf base ⟨d,e,h,v⟩ h=True:=by simp[AH]
end
theorem gN {cf:CF} {base:Nat} {hs:List Hp}:∀ {xs ys:List dZ},nT cf base hs (xs++ys)↔nT cf base hs xs∧nT cf base hs ys
 | [],ys=> by simp[nT]
 | x::xs,ys=> by simp only[ade,nT,gN,and_assoc]
theorem eR {cf:CF} {base:Nat}:∀ {ds:List GD} {e:Env} {h:Hp} {hs:List Hp} {xs:List dZ} {r:Env×Hp×List Hp×List dZ},
 jk cf base ds e h hs xs=some r↔∃zs,r.2.2.2=xs++zs∧jk cf base ds e h hs []=some (r.1,r.2.1,r.2.2.1,zs)
 | [],e,h,hs,xs,r=> by
   obtain ⟨a,b,c,d⟩:=r
   simp only[jk,Option.some.injEq,Prod.mk.injEq]
   constructor
   ·rintro ⟨rfl,rfl,rfl,rfl⟩;exact ⟨[],by simp,rfl,rfl,rfl,rfl⟩
   ·rintro ⟨zs,rfl,rfl,rfl,rfl,rfl⟩;simp
 | d::ds,e,h,hs,xs,r=> by
   simp only[jk]
   cases fb cf base e h d.g with
   | none=> simp
   | some q=>
     obtain ⟨v,h'⟩:=q
     simp only
     split
     ·exact eR
     ·rw[@eR cf base ds (e.put d.g.dst v) h hs (xs++[dZ.mk d e h v]) r]
      constructor
      ·rintro ⟨zs,h1,h2⟩
       exact ⟨dZ.mk d e h v::zs,by rw[h1];simp,eR.2 ⟨zs,by simp,h2⟩⟩
      ·rintro ⟨zs,h1,h2⟩
       obtain ⟨ys,h3,h4⟩:=eR.1 h2
       simp only[ac1] at h3
       exact ⟨ys,by rw[h1,h3];simp,h4⟩
theorem u9 {cf:CF} {base:Nat}:∀ {ds:List GD} {e:Env} {h:Hp} {hs:List Hp} {xs:List dZ} {r:Env×Hp×List Hp×List dZ},
 jk cf base ds e h hs xs=some r→∃ks,r.2.2.1=hs++h::ks
 | [],e,h,hs,xs,r,hr=> by
   simp only[jk,Option.some.injEq] at hr
   subst hr;exact ⟨[],rfl⟩
 | d::ds,e,h,hs,xs,r,hr=> by
   simp only[jk] at hr
   split at hr
   case h_2=> cases hr
   rename_i v h' aR
   split at hr
   ·obtain ⟨ks,hk⟩:=u9 hr
    exact ⟨h'::ks,by rw[hk];simp⟩
   ·exact u9 hr
def GD.calm (d:GD) (n:Nat):Bool:=d.g.op.indep || (d.lo==n && d.hi==n)
theorem Aj {cf:CF} {base:Nat} {g:G} (hi:g.op.indep=true) {e:Env} {h h':Hp} {v:V} (hr:fb cf base e h g=some (v,h')) (h2:Hp):fb cf base e h2 g=some (v,h2):=by
 unfold fb at hr ⊢
 split at hr
 ·exact rp hi hr h2
 ·cases hr;rfl
 ·cases hr
section
variable (cf : CF) (base : Nat)
def wpL (r:Option (V×Hp)) (d:GD) (ds:List GD) (e:Env) (h:Hp) (hs:List Hp) (xs:List dZ) (Q:bS):Prop:=
 match r with
 | some (v,h')=> if d.g.op.cq=true then Ah cf base ds (e.put d.g.dst v) h' (hs++[h]) xs Q else if d.calm hs.length=true then Ah cf base ds (e.put d.g.dst v) h hs xs Q else Ah cf base ds (e.put d.g.dst v) h hs (xs++[⟨d,e,h,v⟩]) Q
 | none=> False
theorem Ak {cf:CF} {base:Nat} {x:dZ}:∀ {hs:List Hp},(∀h∈hs,AH cf base x h)→FT cf base x hs
 | [],_=> trivial
 | h::hs,k=>⟨k h (by simp),Ak fun y hy=> k y (by simp[hy])⟩
theorem Le (d:GD) (ds:List GD) (e:Env) (h:Hp) (hs:List Hp) (xs:List dZ) (Q:bS):Ah cf base (d::ds) e h hs xs Q=wpL cf base (fb cf base e h d.g) d ds e h hs xs Q:=by
 rw[FU]
 cases aR:fb cf base e h d.g with
 | none=> rfl
 | some q=>
   obtain ⟨v,h'⟩:=q
   simp only[wpT,wpL]
   by_cases he:d.g.op.cq=true
   ·simp only[he,if_true]
   ·simp only[he]
    by_cases hc:d.calm hs.length=true
    ·simp only[hc,if_true,eq_iff_iff]
     have iM:∀ks,FT cf base ⟨d,e,h,v⟩ (((hs++h::ks).drop d.lo).take (d.hi+1 - d.lo)):=by
       intro ks
       simp only[GD.calm,adg,acn,beq_iff_eq] at hc
       rcases hc with hc | ⟨h1,h2⟩
       ·exact Ak fun k _=> .inr (Aj hc aR k)
       ·rw[h1,h2]
        simp only[aeP,Nat.add_sub_cancel_left]
        exact ⟨.inl rfl,trivial⟩
     simp only[Ah]
     constructor
     ·rintro ⟨e',k',dv,xs',h1,h2,h3⟩
      obtain ⟨zs,h4,h5⟩:=eR.1 h1
      simp only at h4 h5
      subst h4
      refine ⟨e',k',dv,xs++zs,eR.2 ⟨zs,rfl,h5⟩,?_,h3⟩
      rw[gN] at h2 ⊢
      exact ⟨(gN.1 h2.1).1,h2.2⟩
     ·rintro ⟨e',k',dv,xs',h1,h2,h3⟩
      obtain ⟨zs,h4,h5⟩:=eR.1 h1
      simp only at h4 h5
      subst h4
      refine ⟨e',k',dv,xs++[⟨d,e,h,v⟩]++zs,eR.2 ⟨zs,rfl,h5⟩,?_,h3⟩
      rw[gN] at h2 ⊢
      refine ⟨gN.2 ⟨h2.1,?_,trivial⟩,h2.2⟩
      obtain ⟨ks,hk⟩:=u9 h1
      simp only at hk
      rw[hk];exact iM ks
    ·simp only[hc,acz,if_false]
theorem Lf (v:V) (h':Hp) (d:GD) (ds:List GD) (e:Env) (h:Hp) (hs:List Hp) (xs:List dZ) (Q:bS):wpL cf base (some (v,h')) d ds e h hs xs Q=if d.g.op.cq=true then Ah cf base ds (e.put d.g.dst v) h' (hs++[h]) xs Q else if d.calm hs.length=true then Ah cf base ds (e.put d.g.dst v) h hs xs Q else Ah cf base ds (e.put d.g.dst v) h hs (xs++[⟨d,e,h,v⟩]) Q:=rfl
end
def NM (e:Env) (h:Hp):Rs→Option V
 | .t n=> some (e n)
 | .cell n g=>(sj h g (e n)).map (·.1)
def eE (e:Env) (h:Hp):List Rs→Option (List V)
 | []=> some []
 | r::rs=> match NM e h r,eE e h rs with | some v,some vs=> some (v::vs) | _,_=> none
theorem va {fr:Fr} {h:Hp}:∀ {rs:List Rs},kZ fr h rs=eE (view fr) h rs
 | []=> rfl
 | r::rs=> by
   have:Nn fr h r=NM (view fr) h r:=by cases r <;> rfl
   simp only[kZ,eE,this,va]
   rfl
def NN (r:Option V) (n:Nat) (h:Hp) (q:V×Hp):Prop:=
 match r with
 | some v=> q=(v,h.take n)
 | none=> False
def FZ (r:Option (List V)) (n:Nat) (h:Hp) (q:V×Hp):Prop:=
 match r with
 | some vs=> NN (bA n h (pw vs)) n h q
 | none=> False
def Cs (r:Option (List V)) (h:Hp) (q:V×Hp):Prop:=
 match r with
 | some vs=> q=(pw vs,h)
 | none=> False
def Ga (r:Option (List V)) (h:Hp) (Q:V→Hp→Prop):Prop:=
 match r with
 | some vs=> Q (pw vs) h
 | none=> False
def NO (res:List Rs) (n:Nat) (q:V×Hp):bS
 | .exit _,_,_=> False
 | _,e,h=> FZ (eE e h res) n h q
def Lg (res:List Rs) (q:V×Hp):bS
 | .exit _,_,_=> False
 | _,e,h=> Cs (eE e h res) h q
theorem Ea (F:Fn) (args:List V):view (mL F args)=e0 args:=by
 funext t
 simp only[view,mL,e0,adk,List.getElem?_append]
 split
 ·rfl
 ·rename_i ht
  rw[acW (aeS ht),aet]
  split <;> rfl
theorem Eb {F:Fn} {args:List V} (h:args.length≤F.nt):(mL F args).length=F.nt:=by simp[mL];omega
theorem ZN {cf:Nat→CF} {base nt:Nat} {B:C} {res:List Rs} {args:List V} {h:Hp} {q:V×Hp} (hn:args.length≤nt) (hf:B.fits nt=true) (hw:wp (cf h.length) h.length B (e0 args) h (NO res h.length q)):
 lN cf base ⟨nt,B,res,true⟩ args h=some q:=by
 obtain ⟨ex,e',h',hx,hq⟩:=hw
 rw[←Ea ⟨nt,B,res,true⟩] at hx
 obtain ⟨fr',h1,h2,h3⟩:=xd (Eb hn) hf hx
 unfold lN
 simp only[if_true,h1]
 have key:FZ (eE e' h' res) h.length h' q→(match kZ fr' h' res with
  | some vs=> match bA h.length h' (pw vs) with
    | some v=> some (v,h'.take h.length)
    | none=> none
  | none=> none)=some q:=by
   intro hq
   rw[va,h3]
   unfold FZ NN at hq
   split at hq
   ·rename_i vs p9
    split at hq
    ·rw[hq]
    ·cases hq
   ·cases hq
 cases ex with
 | exit i=> exact hq.elim
 | normal=> exact key hq
 | ret=> exact key hq
theorem ZO {cf:Nat→CF} {base nt:Nat} {B:C} {res:List Rs} {args:List V} {h:Hp} {q:V×Hp} (hn:args.length≤nt) (hf:B.fits nt=true) (hw:wp (cf base) base B (e0 args) h (Lg res q)):
 lN cf base ⟨nt,B,res,false⟩ args h=some q:=by
 obtain ⟨ex,e',h',hx,hq⟩:=hw
 rw[←Ea ⟨nt,B,res,false⟩] at hx
 obtain ⟨fr',h1,h2,h3⟩:=xd (Eb hn) hf hx
 unfold lN
 simp only[h1,acz,if_false]
 have key:Cs (eE e' h' res) h' q→(match kZ fr' h' res with
  | some vs=> some (pw vs,h')
  | none=> none)=some q:=by
   intro hq
   rw[va,h3]
   unfold Cs at hq
   split at hq
   ·rw[hq]
   ·cases hq
 cases ex with
 | exit i=> exact hq.elim
 | normal=> exact key hq
 | ret=> exact key hq
section
variable {fns : Nat → Option Fn} {pr : CF} {f base nt : Nat} {B : C} {res : List Rs} {args : List V} {h : Hp} {q : V × Hp}
theorem aQ (hF:fns f=some ⟨nt,B,res,true⟩) (hf:B.fits nt=true) (hn:args.length≤nt) (hw:wp (run fns pr h.length) h.length B (e0 args) h (NO res h.length q)):run fns pr base f args h=some q:=by
 rw[run_eq fns pr hF];exact ZN hn hf hw
theorem runN (hF:fns f=some ⟨nt,B,res,false⟩) (hf:B.fits nt=true) (hn:args.length≤nt) (hw:wp (run fns pr base) base B (e0 args) h (Lg res q)):run fns pr base f args h=some q:=by
 rw[run_eq fns pr hF];exact ZO hn hf hw
def TU (res:List Rs) (Q:V→Hp→Prop):bS
 | .exit _,_,_=> False
 | _,e,h=> Ga (eE e h res) h Q
theorem ef (hF:fns f=some ⟨nt,B,res,false⟩) (hf:B.fits nt=true) (hn:args.length≤nt) {Q:V→Hp→Prop} (hw:wp (run fns pr base) base B (e0 args) h (TU res Q)):∃v h',run fns pr base f args h=some (v,h')∧Q v h':=by
 obtain ⟨ex,e',h',hx,hq⟩:=hw
 have key:∀(ex:Ex),ex= .normal∨ex= .ret→dn (run fns pr base) base B (e0 args) h=some (ex,e',h')→Ga (eE e' h' res) h' Q→∃v h',run fns pr base f args h=some (v,h')∧Q v h':=by
   intro ex he hx hq
   unfold Ga at hq
   split at hq
   ·rename_i vs p9
    refine ⟨pw vs,h',runN hF hf hn ⟨ex,e',h',hx,?_⟩,hq⟩
    rcases he with rfl | rfl <;> simp only[Lg,p9,Cs]
   ·exact hq.elim
 cases ex with
 | exit i=> exact hq.elim
 | normal=> exact key _ (.inl rfl) hx hq
 | ret=> exact key _ (.inr rfl) hx hq
end
end Go.Vm
namespace Go.Vm
theorem abD (e:Env) (n:Nat):X.on e (.t n)=e n:=rfl
theorem abE (e:Env) (v:V):X.on e (.c v)=v:=rfl
theorem ZP (e:Env) (t:Nat) (v:V) (n:Nat):Env.up e t v n=if n=t then v else e n:=rfl
theorem Lh (e:Env) (t:Nat) (v:V):Env.put e (some t) v=e.up t v:=rfl
theorem Li (e:Env) (v:V):Env.put e none v=e:=rfl
theorem ZQ (args:List V) (n:Nat):e0 args n=args.getD n (.bP []):=rfl
theorem Ct (e:Env):rY e none=some true:=rfl
theorem Cu (e:Env) (t:Nat) (b:Bool):rY e (some (t,b))=u7 (e t) b:=rfl
theorem Cv (c b:Bool):u7 (.s (.bool c)) b=some (c==b):=rfl
theorem Gb (b:Bool):u7 (.bP []) b=some false:=rfl
def NP (a b:Option (List Int)) (neg:Bool) (h:Hp):Option (V×Hp):=
 match a,b with
 | some a,some b=> j6 (.bool (if neg then !(a==b) else a==b)) h
 | _,_=> none
theorem vM (a b:List Int) (neg:Bool) (h:Hp):NP (some a) (some b) neg h=some (.s (.bool (if neg=true then !decide (a=b) else decide (a=b))),h):=by
 simp only[NP,j6,acD]
def faR (v:Option V) (t i id:Nat) (p:List Nat) (aB:Nat) (h:Hp):Option (V×Hp):=
 match v with
 | some (.st t' fs)=> if t'=t∧i < fs.length then some (.ptr id (p++[i]) aB,h) else none
 | _=> none
theorem Lj (t t' i id:Nat) (p:List Nat) (aB:Nat) (h:Hp) (fs:List V):faR (some (.st t' fs)) t i id p aB h=if t'=t∧i < fs.length then some (.ptr id (p++[i]) aB,h) else none:=rfl
def ZR (v:Option V) (t:Nat) (i:Int) (id:Nat) (p:List Nat) (aB:Nat) (h:Hp):Option (V×Hp):=
 match v with
 | some (.arr t' es)=> if t'=t∧0≤i∧i < es.length then some (.ptr id (p++[i.toNat]) aB,h) else none
 | _=> none
theorem Gc (t t':Nat) (i:Int) (id:Nat) (p:List Nat) (aB:Nat) (h:Hp) (es:List V):ZR (some (.arr t' es)) t i id p aB h=if t'=t∧0≤i∧i < es.length then some (.ptr id (p++[i.toNat]) aB,h) else none:=rfl
def ZS (r:Option (List V)) (g:Option Nat) (i:Int) (id:Nat) (p:List Nat) (g':Option Nat) (off len aB:Nat) (h:Hp):Option (V×Hp):=
 match r with
 | some es=> if g'=g∧0≤i∧i < len∧off+i.toNat < es.length then some (.ptr id (p++[off+i.toNat]) aB,h) else none
 | none=> none
theorem Gd (es:List V) (g:Option Nat) (i:Int) (id:Nat) (p:List Nat) (g':Option Nat) (off len aB:Nat) (h:Hp):ZS (some es) g i id p g' off len aB h=if g'=g∧0≤i∧i < len∧off+i.toNat < es.length then some (.ptr id (p++[off+i.toNat]) aB,h) else none:=rfl
def ldR (v:Option V) (g:Option Nat) (h:Hp):Option (V×Hp):=
 match v with
 | some v=> if v.ty=g then some (v,h) else none
 | none=> none
theorem Lk (v:V) (g:Option Nat) (h:Hp):ldR (some v) g h=if v.ty=g then some (v,h) else none:=rfl
def ZT (v:Option V) (h':Option Hp) (g:Option Nat) (base id:Nat) (y:V):Option (V×Hp):=
 match v with
 | some v=> if v.ty=g∧y.ty=g∧y.aA=true∧bQ base id y=true then h'.map fun h'=>(.bP [],h') else none
 | none=> none
theorem Ge (v:V) (h':Hp) (g:Option Nat) (base id:Nat) (y:V):ZT (some v) (some h') g base id y=if v.ty=g∧y.ty=g∧y.aA=true∧bQ base id y=true then some (.bP [],h') else none:=rfl
def NQ (es:Option (List V)) (g:Option Nat) (h:Hp):Option (V×Hp):=
 match es with
 | some es=> if es.isEmpty then some (.al true g [],h) else some (.ref h.length [] g 0 es.length es.length,h++[.cells g es])
 | none=> none
theorem vK (e:V) (es:List V) (g:Option Nat) (h:Hp):NQ (some (e::es)) g h=some (.ref h.length [] g 0 (e::es).length (e::es).length,h++[.cells g (e::es)]):=rfl
def Gf (b:Option bc) (g:Option Nat) (id n:Nat) (h:Hp):Option (V×Hp):=
 match b with
 | some (.cells g' es)=> if es.length=n∧g=g' then some (.al false g' es,h.set id .dead) else none
 | some (.lit g' es)=> if es.length=n∧g=g' then some (.al true g' es,h.set id .dead) else none
 | _=> none
theorem Cw (g:Option Nat) (es:List V) (id n:Nat) (h:Hp):Gf (some (.cells g es)) g id n h=if es.length=n then some (.al false g es,h.set id .dead) else none:=by simp[Gf]
theorem Ll (g:Option Nat) (es:List V) (id n:Nat) (h:Hp):Gf (some (.lit g es)) g id n h=if es.length=n then some (.al true g es,h.set id .dead) else none:=by simp[Gf]
def ZU (es:Option (List V)) (g:Option Nat) (h:Hp):Option (V×Hp):=
 match es with
 | some []=> none
 | some (e::es)=> some (.ref h.length [] g 0 (e::es).length (e::es).length,h++[.lit g (e::es)])
 | none=> none
theorem Gg (e:V) (es:List V) (g:Option Nat) (h:Hp):ZU (some (e::es)) g h=some (.ref h.length [] g 0 (e::es).length (e::es).length,h++[.lit g (e::es)]):=rfl
def ZV (b:Option bc) (id:Nat) (h:Hp):Option (V×Hp):=
 match b with
 | some (.gI s pos)=>
   if pos < s.size then some (.bP [.s (.bool true),.s (.int .i64 pos),.s (.int .i32 (Utf8.decode s pos).1)],h.set id (.gI s (pos+(Utf8.decode s pos).2)))
   else some (.bP [.s (.bool false)],h)
 | _=> none
theorem Gh (s:ByteArray) (pos id:Nat) (h:Hp):ZV (some (.gI s pos)) id h=if pos < s.size then some (.bP [.s (.bool true),.s (.int .i64 pos),.s (.int .i32 (Utf8.decode s pos).1)],h.set id (.gI s (pos+(Utf8.decode s pos).2))) else some (.bP [.s (.bool false)],h):=rfl
def Lm (b:Option bc) (i:Nat) (p:List Nat) (aB:Nat):Option V:=
 match b with
 | some (.cells _ es)=> if es.length=aB then (es[i]?).bind (nodeAt p) else none
 | _=> none
theorem NR (h:Hp) (id i:Nat) (p:List Nat) (aB:Nat):node h id (i::p) aB=Lm h[id]? i p aB:=by
 unfold node rowOf Lm
 cases h[id]? with
 | none=> rfl
 | some b=>
   cases b with
   | cells g es=>
     by_cases ht:es.length=aB
     ·simp only[ht,if_true];cases es[i]? <;> rfl
     ·simp only[ht,if_false]
   | gI=> rfl
   | map=> rfl
   | lit=> rfl
   | dead=> rfl
theorem Cx (g:Option Nat) (es:List V) (i:Nat) (p:List Nat) (aB:Nat):Lm (some (.cells g es)) i p aB=if es.length=aB then (es[i]?).bind (nodeAt p) else none:=rfl
theorem Cy (v:V):nodeAt [] v=some v:=by cases v <;> rfl
theorem Gi (i:Nat) (p:List Nat) (t:Nat) (fs:List V):nodeAt (i::p) (.st t fs)=(fs[i]?).bind (nodeAt p):=by
 simp only[nodeAt];cases fs[i]? <;> rfl
theorem Cz (i:Nat) (p:List Nat) (t:Nat) (fs:List V):nodeAt (i::p) (.arr t fs)=(fs[i]?).bind (nodeAt p):=by
 simp only[nodeAt];cases fs[i]? <;> rfl
theorem Gj (y v:V):putAt y [] v=some y:=by cases v <;> rfl
theorem Ln (y:V) (i:Nat) (p:List Nat) (t:Nat) (fs:List V):putAt y (i::p) (.st t fs)=(fs[i]?).bind fun v=>(putAt y p v).map fun v'=> .st t (fs.set i v'):=by
 simp only[putAt];cases fs[i]? <;> rfl
theorem Gk (y:V) (i:Nat) (p:List Nat) (t:Nat) (fs:List V):putAt y (i::p) (.arr t fs)=(fs[i]?).bind fun v=>(putAt y p v).map fun v'=> .arr t (fs.set i v'):=by
 simp only[putAt];cases fs[i]? <;> rfl
def CA (b:Option bc) (h:Hp) (id i:Nat) (p:List Nat) (aB:Nat) (y:V):Option Hp:=
 match b with
 | some (.cells g es)=> if es.length=aB then (es[i]?).bind fun v=>(putAt y p v).map fun v'=> h.set id (.cells g (es.set i v')) else none
 | _=> none
theorem Lo (h:Hp) (id i:Nat) (p:List Nat) (aB:Nat) (y:V):store h id (i::p) aB y=CA h[id]? h id i p aB y:=by
 unfold store rowOf CA
 cases h[id]? with
 | none=> rfl
 | some b=>
   cases b with
   | cells g es=>
     by_cases ht:es.length=aB
     ·simp only[ht,if_true];cases es[i]? <;> rfl
     ·simp only[ht,if_false]
   | gI=> rfl
   | map=> rfl
   | lit=> rfl
   | dead=> rfl
theorem Al (g:Option Nat) (es:List V) (h:Hp) (id i:Nat) (p:List Nat) (aB:Nat) (y:V):CA (some (.cells g es)) h id i p aB y=if es.length=aB then (es[i]?).bind fun v=>(putAt y p v).map fun v'=> h.set id (.cells g (es.set i v')) else none:=rfl
def ZW (b:Option bc) (aB:Nat):Option (Option Nat×List V):=
 match b with
 | some (.cells g es)=> if es.length=aB then some (g,es) else none
 | _=> none
theorem Lp (h:Hp) (id aB:Nat):rowOf h id aB=ZW h[id]? aB:=rfl
theorem Gl (g:Option Nat) (es:List V) (aB:Nat):ZW (some (.cells g es)) aB=if es.length=aB then some (g,es) else none:=rfl
theorem Gm (h:Hp) (id aB:Nat):rowAt h id [] aB=(rowOf h id aB).map (·.2):=rfl
def TV :Option V→Option (List V)
 | some (.arr _ es)=> some es
 | _=> none
theorem tm (h:Hp) (id i:Nat) (p:List Nat) (aB:Nat):rowAt h id (i::p) aB=TV (node h id (i::p) aB):=by
 simp only[rowAt,TV];rfl
theorem vL (t:Nat) (es:List V):TV (some (.arr t es))=some es:=rfl
def Yd (k:IntKind) (a b:Int):Int:=k.wrap (BitVec.ofInt k.bits a &&& BitVec.ofInt k.bits b).toNat
def orI (k:IntKind) (a b:Int):Int:=k.wrap (BitVec.ofInt k.bits a ||| BitVec.ofInt k.bits b).toNat
def Mr (k:IntKind) (a b:Int):Int:=k.wrap (BitVec.ofInt k.bits a ^^^ BitVec.ofInt k.bits b).toNat
def xf (k:IntKind) (a b:Int):Int:=k.wrap (a * 2 ^(min b.toNat k.bits))
def qE (k:IntKind) (a b:Int):Int:=a.fdiv (2 ^(min b.toNat k.bits))
section
variable (cf : CF) (base : Nat) (h : Hp)
theorem CB (e:Env) (d:Option Nat) (o:O) (xs:List X):fb cf base e h ⟨d,o,xs,none⟩=aC cf base h o (xs.map (X.on e)):=rfl
theorem abF (x:V):aC cf base h .mv [x]=some (x,h):=rfl
theorem TW (c:Bool) (a b:V):aC cf base h .pick [.s (.bool c),a,b]=some (if c=true then a else b,h):=rfl
theorem TX (f:Nat) (xs:List V):aC cf base h (.call f) xs=cf f xs h:=rfl
theorem NS (f:Nat) (cap xs:List V):aC cf base h .mW (.fn f cap::xs)=cf f (xs++cap) h:=rfl
theorem ZX (f:Nat) (xs:List V):aC cf base h (.mkf f) xs=some (.fn f xs,h):=rfl
theorem ZY :aC cf base h .nop []=some (.bP [],h):=rfl
theorem ZZ (g:Option Nat) (x:V) (h1:x.ty=g) (h2:x.aA=true):aC cf base h (.fzp g) [x]=some (.eb x,h):=by simp[aC,rM,h1,h2]
theorem nX (f:Nat) (xs:List V):aC cf base h (.mA f) xs=uB (cf f xs h) h:=rfl
theorem ia (v:V) (h:Hp):uB (some (v,h)) h=some (v,h):=by simp[uB]
def Z0 (es:Option (List V)) (g:Option Nat) (h:Hp):Option (V×Hp):=
 match es with
 | some es=> some (.al true g es,h)
 | none=> none
theorem Gn (es:List V) (g:Option Nat) (h:Hp):Z0 (some es) g h=some (.al true g es,h):=rfl
theorem Z1 (g:Option Nat) (zero:List V) (places:List Nat) (xs:List V):aC cf base h (.CP g zero places) xs=if places.length=xs.length then Z0 (bK zero (places.zip xs)) g h else none:=by
 simp only[aC,uC]
 split
 ·cases bK zero (places.zip xs)<;> rfl
 ·rfl
theorem Z2 (b:Bool):aC cf base h (.un .not) [.s (.bool b)]=some (.s (.bool !b),h):=rfl
theorem kH (op:BinOp) (k:IntKind) (a b:Int) (hs:op≠ .shl∧op≠ .shr):aC cf base h (.bin .num op) [.s (.int k a),.s (.int k b)]=(jK op k a b).bind (j6 · h):=by
 cases op <;> simp_all [aC,lK,vp]
theorem Z3 (k:IntKind) (a b:Int):aC cf base h (.bin .num .add) [.s (.int k a),.s (.int k b)]=some (.s (.int k (k.wrap (a+b))),h):=by rw[kH _ _ _ _ _ _ _ (by simp)];rfl
theorem Z4 (k:IntKind) (a b:Int):aC cf base h (.bin .num .sub) [.s (.int k a),.s (.int k b)]=some (.s (.int k (k.wrap (a - b))),h):=by rw[kH _ _ _ _ _ _ _ (by simp)];rfl
theorem Z5 (k:IntKind) (a b:Int):aC cf base h (.bin .num .mul) [.s (.int k a),.s (.int k b)]=some (.s (.int k (k.wrap (a * b))),h):=by rw[kH _ _ _ _ _ _ _ (by simp)];rfl
theorem yK (k:IntKind) (a b:Int) (hb:b≠0):aC cf base h (.bin .num .quo) [.s (.int k a),.s (.int k b)]=some (.s (.int k (k.wrap (a.tdiv b))),h):=by rw[kH _ _ _ _ _ _ _ (by simp)];simp[jK,hb,j6]
theorem iJ (k:IntKind) (a b:Int) (hb:b≠0):aC cf base h (.bin .num .rem) [.s (.int k a),.s (.int k b)]=some (.s (.int k (a.tmod b)),h):=by rw[kH _ _ _ _ _ _ _ (by simp)];simp[jK,hb,j6]
theorem Z6 (k:IntKind) (a b:Int):aC cf base h (.bin .num .and) [.s (.int k a),.s (.int k b)]=some (.s (.int k (Yd k a b)),h):=by rw[kH _ _ _ _ _ _ _ (by simp)];rfl
theorem abG (k:IntKind) (a b:Int):aC cf base h (.bin .num .or) [.s (.int k a),.s (.int k b)]=some (.s (.int k (orI k a b)),h):=by rw[kH _ _ _ _ _ _ _ (by simp)];rfl
theorem Z8 (k:IntKind) (a b:Int):aC cf base h (.bin .num .xor) [.s (.int k a),.s (.int k b)]=some (.s (.int k (Mr k a b)),h):=by rw[kH _ _ _ _ _ _ _ (by simp)];rfl
theorem Z9 (k:IntKind) (a b:Int):aC cf base h (.bin .num .eql) [.s (.int k a),.s (.int k b)]=some (.s (.bool (decide (a=b))),h):=by rw[kH _ _ _ _ _ _ _ (by simp)];simp[jK,j6];rfl
theorem aaa (k:IntKind) (a b:Int):aC cf base h (.bin .num .neq) [.s (.int k a),.s (.int k b)]=some (.s (.bool (!decide (a=b))),h):=by rw[kH _ _ _ _ _ _ _ (by simp)];simp[jK,j6];rfl
theorem aab (k:IntKind) (a b:Int):aC cf base h (.bin .num .lss) [.s (.int k a),.s (.int k b)]=some (.s (.bool (decide (a < b))),h):=by rw[kH _ _ _ _ _ _ _ (by simp)];rfl
theorem aac (k:IntKind) (a b:Int):aC cf base h (.bin .num .leq) [.s (.int k a),.s (.int k b)]=some (.s (.bool (decide (a≤b))),h):=by rw[kH _ _ _ _ _ _ _ (by simp)];rfl
theorem aad (k:IntKind) (a b:Int):aC cf base h (.bin .num .gtr) [.s (.int k a),.s (.int k b)]=some (.s (.bool (decide (b < a))),h):=by rw[kH _ _ _ _ _ _ _ (by simp)];rfl
theorem aae (k:IntKind) (a b:Int):aC cf base h (.bin .num .geq) [.s (.int k a),.s (.int k b)]=some (.s (.bool (decide (b≤a))),h):=by rw[kH _ _ _ _ _ _ _ (by simp)];rfl
theorem vE (k k':IntKind) (a b:Int) (hb:0≤b):aC cf base h (.bin .num .shl) [.s (.int k a),.s (.int k' b)]=some (.s (.int k (xf k a b)),h):=by
 have:¬b < 0:=by omega
 simp[aC,lK,vp,nD,this,j6,xf]
theorem pR (k k':IntKind) (a b:Int) (hb:0≤b):aC cf base h (.bin .num .shr) [.s (.int k a),.s (.int k' b)]=some (.s (.int k (qE k a b)),h):=by
 have:¬b < 0:=by omega
 simp[aC,lK,vp,nD,this,j6,qE]
theorem TY (a b:ByteArray) (hl:a.size+b.size≤9223372036854775807):aC cf base h (.bin .num .add) [.s (.string a),.s (.string b)]=some (.s (.string (a++b)),h):=by simp[aC,lK,vp,ra,hl,j6]
theorem Lq (a b:ByteArray):aC cf base h (.bin .num .eql) [.s (.string a),.s (.string b)]=some (.s (.bool (decide (a=b))),h):=by
 have:(a.toList==b.toList)=decide (a=b):=by
   rw[afK]
   simp only[beq_iff_eq,decide_eq_true_eq]
   constructor
   ·intro hh
    apply ByteArray.ext
    apply aef
    rw[ByteArray.toList_eq,ByteArray.toList_eq] at hh
    exact hh
   ·rintro rfl;rfl
 simp[aC,lK,vp,ra,j6,this]
theorem TZ (a b:ByteArray):aC cf base h (.bin .num .neq) [.s (.string a),.s (.string b)]=some (.s (.bool (!decide (a=b))),h):=by
 have:=Lq cf base h a b
 simp only[aC,lK,vp,ra,j6,ad6,Option.some.injEq,Prod.mk.injEq,V.s.injEq,Value.bool.injEq,and_true] at this ⊢
 rw[this]
theorem T0 (a b:Bool):aC cf base h (.bin .tru .eql) [.s (.bool a),.s (.bool b)]=some (.s (.bool (a==b)),h):=rfl
theorem T1 (a b:Bool):aC cf base h (.bin .tru .neq) [.s (.bool a),.s (.bool b)]=some (.s (.bool !(a==b)),h):=rfl
theorem Lr :aC cf base h (.bin .ptr .eql) [.s (.pointer none),.s (.pointer none)]=some (.s (.bool true),h):=rfl
theorem Ls (id:Nat) (p:List Nat) (t:Nat):aC cf base h (.bin .ptr .eql) [.ptr id p t,.s (.pointer none)]=some (.s (.bool false),h):=rfl
theorem Lt :aC cf base h (.bin .ptr .neq) [.s (.pointer none),.s (.pointer none)]=some (.s (.bool false),h):=rfl
theorem Lu (id:Nat) (p:List Nat) (t:Nat):aC cf base h (.bin .ptr .neq) [.ptr id p t,.s (.pointer none)]=some (.s (.bool true),h):=rfl
theorem aaf (id:Nat) (p:List Nat) (t:Nat):aC cf base h .aU [.ptr id p t]=some (.ptr id p t,h):=rfl
theorem T3 (v:V):aC cf base h .aU [.eb v]=some (.eb v,h):=rfl
theorem T4 (f:Nat) (c:List V):aC cf base h .aU [.fn f c]=some (.fn f c,h):=rfl
theorem aag (t i:Nat) (fs:List V):aC cf base h (.fld t i) [.st t fs]=(fs[i]?).map fun v=>(v,h):=by simp[aC,uo]
theorem T5 (g:Option Nat):aC cf base h (.gT g [] []) []=some (.al true g [],h):=rfl
theorem bU (x:V) (n:Nat) (hn:fj x=some n):aC cf base h .len [x]=some (.s (.int .i64 n),h):=by simp[aC,uv,hn,j6]
theorem nb (full:Bool) (g:Option Nat) (es:List V):aC cf base h .len [.al full g es]=some (.s (.int .i64 es.length),h):=rfl
theorem T6 (id:Nat) (p:List Nat) (g:Option Nat) (off len aB:Nat):aC cf base h .len [.ref id p g off len aB]=some (.s (.int .i64 len),h):=rfl
theorem T7 (s:ByteArray):aC cf base h .Fv [.s (.string s)]=some (.s (.int .i64 s.size),h):=rfl
theorem aah (k k':IntKind) (n:Int):aC cf base h (.gO k) [.s (.int k' n)]=some (.s (.int k (k.wrap n)),h):=rfl
theorem aai (t:Nat) (x:V):aC cf base h (.mki t) [x]=some (.iface t x,h):=rfl
theorem aaj (i:Nat) (vs:List V):aC cf base h (.ext i) [.bP vs]=(vs[i]?).map fun v=>(v,h):=rfl
theorem Pm (k k':IntKind) (a b:Int):aC cf base h .min [.s (.int k a),.s (.int k' b)]=some (.s (.int k (min a b)),h):=by
 simp only[aC,uA,j6]
 have:(if b < a then b else a)=min a b:=by split <;> omega
 simp[this]
theorem aak (k k':IntKind) (a b:Int):aC cf base h .max [.s (.int k a),.s (.int k' b)]=some (.s (.int k (max a b)),h):=by
 simp only[aC,uA,j6]
 have:(if b > a then b else a)=max a b:=by split <;> omega
 simp[this]
theorem T8 (s:ByteArray):aC cf base h (.s2b true) [.s (.string s)]=some (.al false none (dW s),h):=rfl
theorem aal (s:ByteArray):aC cf base h .rng [.s (.string s)]=some (.ptr h.length [] 0,h++[.gI s 0]):=rfl
theorem Pk (t:Nat) (k:IntKind) (neg:Bool) (xs ys:List V):aC cf base h (.ve t k neg) [.arr t xs,.arr t ys]=NP (ints k xs) (ints k ys) neg h:=by
 simp only[aC,uh,and_self,if_true,NP];rfl
theorem qO (t i id:Nat) (p:List Nat) (aB:Nat):aC cf base h (.fa t i) [.ptr id p aB]=faR (node h id p aB) t i id p aB h:=rfl
theorem aam (t i:Nat) (fs:List V):aC cf base h (.fa t i) [.eb (.st t fs)]=(fs[i]?).map fun v=>(.eb v,h):=by simp[aC,Fx]
theorem aan (t:Nat) (k:IntKind) (i:Int) (id:Nat) (p:List Nat) (aB:Nat):aC cf base h (.fg t) [.ptr id p aB,.s (.int k i)]=ZR (node h id p aB) t i id p aB h:=rfl
theorem T9 (t:Nat) (k:IntKind) (i:Int) (es:List V):aC cf base h (.fg t) [.eb (.arr t es),.s (.int k i)]=if 0≤i∧i < es.length then (es[i.toNat]?).map fun v=>(.eb v,h) else none:=by simp[aC,wx,numOf]
theorem ck (g:Option Nat) (k:IntKind) (i:Int) (id:Nat) (p:List Nat) (g':Option Nat) (off len aB:Nat):aC cf base h (.de g) [.ref id p g' off len aB,.s (.int k i)]=ZS (rowAt h id p aB) g i id p g' off len aB h:=rfl
theorem Lv (g:Option Nat) (k:IntKind) (i:Int) (full:Bool) (es:List V):aC cf base h (.de g) [.al full g es,.s (.int k i)]=if 0≤i then (es[i.toNat]?).map fun v=>(.eb v,h) else none:=by simp[aC,wy,numOf]
theorem aao (t:Nat) (k:IntKind) (i:Int) (es:List V):aC cf base h (.idx t) [.arr t es,.s (.int k i)]=if 0≤i then (es[i.toNat]?).map fun v=>(v,h) else none:=by simp[aC,rE,numOf]
theorem Ua (k:IntKind) (i:Int) (s:ByteArray):aC cf base h .Fu [.s (.string s),.s (.int k i)]=if 0≤i then (s.data.toList[i.toNat]?).map fun b=>(aa b,h) else none:=by
 simp only[aC,pt,numOf]
 have:s[i.toNat]? =s.data.toList[i.toNat]? :=by
   rw[ad2];rfl
 rw[this]
 cases s.data.toList[i.toNat]? <;> rfl
theorem fL (g:Option Nat) (id:Nat) (p:List Nat) (aB:Nat):aC cf base h (.ld g) [.ptr id p aB]=ldR (node h id p aB) g h:=rfl
theorem aap (v:V) (g:Option Nat):aC cf base h (.ld g) [.eb v]=ldR (some v) g h:=rfl
theorem aaq (g:Option Nat) (id:Nat) (p:List Nat) (aB:Nat) (y:V):aC cf base h (.aY g) [.ptr id p aB,y]=ZT (node h id p aB) (store h id p aB y) g base id y:=rfl
theorem aar (g:Option Nat) (x:V):aC cf base h (.box g) [x]=if x.ty=g∧x.aA=true then some (.ptr h.length [0] 1,h++[.cells g [x]]) else none:=rfl
theorem aas (g:Option Nat) (x:V):aC cf base h (.eS g x) []=if x.ty=g∧x.aA=true then some (.ptr h.length [0] 1,h++[.cells g [x]]) else none:=rfl
theorem Ub (t:Nat) (zero:List V) (places:List Nat) (xs:List V):aC cf base h (.dN t zero places) xs=if places.length=xs.length then (bK zero (places.zip xs)).map fun fs=>(.st t fs,h) else none:=by cases xs <;> rfl
theorem Uc (t:Nat) (zero:List V) (places:List Nat) (xs:List V):aC cf base h (.jD t zero places) xs=if places.length=xs.length then (bK zero (places.zip xs)).map fun fs=>(.arr t fs,h) else none:=by cases xs <;> rfl
theorem aat (g:Option Nat) (zero:List V) (places:List Nat) (xs:List V):aC cf base h (.gT g zero places) xs=if places.length=xs.length then NQ (bK zero (places.zip xs)) g h else none:=by cases xs <;> rfl
theorem aau (g:Option Nat) (id n:Nat):aC cf base h .oy [.ref id [] g 0 n n]=Gf h[id]? g id n h:=by
 simp only[aC,wz,Ka,rowOf,Gf]
 cases h[id]? with
 | none=> rfl
 | some b=>
   cases b with
   | cells g' es=> by_cases c:es.length=n <;> simp[c,eq_comm]
   | lit g' es=> by_cases c:es.length=n <;> simp[c]
   | map=> rfl
   | gI=> rfl
   | dead=> rfl
theorem aav (g:Option Nat) (zero:List V) (places:List Nat) (xs:List V):aC cf base h (.bsx g zero places) xs=if places.length=xs.length then ZU (bK zero (places.zip xs)) g h else none:=by
 simp only[aC,uu]
 split
 ·cases bK zero (places.zip xs) with
  | none=> rfl
  | some es=> cases es <;> rfl
 ·rfl
theorem aaw (g:Option Nat) (zero:V) (k k':IntKind) (n:Int):aC cf base h (.mks g zero) [.s (.int k n),.s (.int k' n)]=if 0≤n∧n≤16777216 then (if n=0 then some (.al true g [],h) else some (.ref h.length [] g 0 n.toNat n.toNat,h++[.cells g (List.replicate n.toNat zero)])) else none:=by
 simp[aC,wB,numOf]
theorem aax (t t':Nat) (ok:Bool) (zero y:V):aC cf base h (.tas t ok zero) [.iface t' y]=if t'=t then some (if ok=true then .bP [y,.s (.bool true)] else y,h) else if ok=true then some (.bP [zero,.s (.bool false)],h) else none:=rfl
theorem aay (id:Nat):aC cf base h .nxt [.ptr id [] 0]=ZV h[id]? id h:=rfl
theorem Ec (g:Option Nat) (bytes:Nat) (x y:V):aC cf base h (.app g bytes) [x,y]=(source h y).bind fun r=> df base g bytes h x r.1 r.2:=rfl
end
theorem abH (x:Value):(V.s x).ty=none:=(rfl)
theorem Ud (a:Nat) (b:List Nat) (c:Nat):(V.ptr a b c).ty=none:=(rfl)
theorem Ue (a:Nat) (b:List Nat) (g:Option Nat) (c d e:Nat):(V.ref a b g c d e).ty=none:=(rfl)
theorem Uf (f:Bool) (g:Option Nat) (es:List V):(V.al f g es).ty=none:=(rfl)
theorem NT (v:V):(V.eb v).ty=none:=(rfl)
theorem Lx (t:Nat) (v:V):(V.iface t v).ty=none:=(rfl)
theorem aaz (t:Nat) (v:List V):(V.fn t v).ty=none:=(rfl)
theorem aaA (t:Nat) (fs:List V):(V.st t fs).ty=some t:=(rfl)
theorem qK (t:Nat) (fs:List V):(V.arr t fs).ty=some t:=(rfl)
theorem NU (x:Value):(V.s x).aA=true:=(rfl)
theorem Gp (a:Nat) (b:List Nat) (c:Nat):(V.ptr a b c).aA=true:=(rfl)
theorem Gq (a:Nat) (b:List Nat) (g:Option Nat) (c d e:Nat):(V.ref a b g c d e).aA=true:=(rfl)
theorem Gs (f:Bool) (g:Option Nat) (es:List V):(V.al f g es).aA=true:=(rfl)
theorem CC (v:V):(V.eb v).aA=true:=(rfl)
theorem Am (t:Nat) (v:V):(V.iface t v).aA=true:=(rfl)
theorem Ly (t:Nat) (v:List V):(V.fn t v).aA=true:=(rfl)
theorem LA (t:Nat) (fs:List V):(V.st t fs).aA=true:=(rfl)
theorem Gt (t:Nat) (fs:List V):(V.arr t fs).aA=true:=(rfl)
theorem LB (h:Hp) (g:Option Nat) (id:Nat) (p:List Nat) (aB:Nat):sj h g (.ptr id p aB)=ldR (node h id p aB) g h:=rfl
theorem Gu (h:Hp) (g:Option Nat) (v:V):sj h g (.eb v)=ldR (some v) g h:=rfl
theorem wrap_u8 {n:Int} (h0:0≤n) (h1:n < 256):IntKind.u8.wrap n=n:=IntWalk.u8_in n (by omega)
theorem wrap_u32 {n:Int} (h0:0≤n) (h1:n < 4294967296):IntKind.u32.wrap n=n:=IntWalk.u32_in n (by omega)
theorem wrap_u64 {n:Int} (h0:0≤n) (h1:n < 18446744073709551616):IntKind.u64.wrap n=n:=IntWalk.u64_in n (by omega)
theorem wrap_i64 {n:Int} (h0: -9223372036854775808≤n) (h1:n < 9223372036854775808):IntKind.i64.wrap n=n:=IntWalk.i64_in n (by omega)
theorem Ug :(O.mv).cq=false:=rfl
theorem LC :(O.mv).indep=true:=rfl
theorem LF :(O.pick).cq=false:=rfl
theorem CD :(O.pick).indep=true:=rfl
theorem NV (c:Cl) (o:BinOp):(O.bin c o).cq=false:=rfl
theorem Gv (c:Cl) (o:BinOp):(O.bin c o).indep=true:=rfl
theorem C0 (g:Option Nat) (n:Nat) (z:V):(O.apz g n z).cq=true:=rfl
theorem NW :O.cap.cq=false:=rfl
theorem Gw :O.cap.indep=true:=rfl
theorem NX (t:Nat) (g:Option Nat) (n:Nat):(O.s2a t g n).cq=true:=rfl
theorem NY (t:Nat) (k:List LK) (n:Bool):(O.eqs t k n).cq=false:=rfl
theorem Gx (t:Nat) (k:List LK) (n:Bool):(O.eqs t k n).indep=true:=rfl
theorem NZ (t:Nat) (k:IntKind) (n:Bool):(O.ve t k n).cq=false:=rfl
theorem Gy (t:Nat) (k:IntKind) (n:Bool):(O.ve t k n).indep=true:=rfl
theorem Uh (o:UnOp):(O.un o).cq=false:=rfl
theorem LG (o:UnOp):(O.un o).indep=true:=rfl
theorem N8 :(O.aU).cq=false:=rfl
theorem Gz :(O.aU).indep=true:=rfl
theorem Ui (t i:Nat):(O.fa t i).cq=false:=rfl
theorem LH (t i:Nat):(O.fa t i).indep=false:=rfl
theorem N9 (t i:Nat):(O.fld t i).cq=false:=rfl
theorem GA (t i:Nat):(O.fld t i).indep=true:=rfl
theorem Oa (t:Nat):(O.fg t).cq=false:=rfl
theorem GB (t:Nat):(O.fg t).indep=false:=rfl
theorem Ob (g:Option Nat):(O.de g).cq=false:=rfl
theorem GC (g:Option Nat):(O.de g).indep=false:=rfl
theorem Oc (t:Nat):(O.idx t).cq=false:=rfl
theorem GF (t:Nat):(O.idx t).indep=true:=rfl
theorem LI :(O.Fu).cq=false:=rfl
theorem CE :(O.Fu).indep=true:=rfl
theorem Uj (g:Option Nat):(O.ld g).cq=false:=rfl
theorem LJ (g:Option Nat):(O.ld g).indep=false:=rfl
theorem Od (g:Option Nat):(O.aY g).cq=true:=rfl
theorem Oe (g:Option Nat):(O.box g).cq=true:=rfl
theorem Of (g:Option Nat) (z:V):(O.eS g z).cq=true:=rfl
theorem LL (t:Nat) (z:List V) (p:List Nat):(O.dN t z p).cq=false:=rfl
theorem CG (t:Nat) (z:List V) (p:List Nat):(O.dN t z p).indep=true:=rfl
theorem LM (t:Nat) (z:List V) (p:List Nat):(O.jD t z p).cq=false:=rfl
theorem CH (t:Nat) (z:List V) (p:List Nat):(O.jD t z p).indep=true:=rfl
theorem Og :(O.oy).cq=true:=rfl
theorem Oh (g:Option Nat) (n:Nat):(O.apx g n).cq=true:=rfl
theorem Oi (g:Option Nat) (z:List V) (p:List Nat):(O.bsx g z p).cq=true:=rfl
theorem Oj (g:Option Nat) (z:V):(O.mks g z).cq=true:=rfl
theorem Ok (g:Option Nat) (a b c:Bool):(O.j2 g a b c).cq=false:=rfl
theorem GG (g:Option Nat) (a b c:Bool):(O.j2 g a b c).indep=false:=rfl
theorem Ol (t:Nat) (g:Option Nat) (a b:Bool):(O.nU t g a b).cq=false:=rfl
theorem GH (t:Nat) (g:Option Nat) (a b:Bool):(O.nU t g a b).indep=false:=rfl
theorem Om (a b:Bool):(O.sls a b).cq=false:=rfl
theorem GI (a b:Bool):(O.sls a b).indep=true:=rfl
theorem On :(O.len).cq=false:=rfl
theorem GJ :(O.len).indep=true:=rfl
theorem LN :(O.Fv).cq=false:=rfl
theorem CI :(O.Fv).indep=true:=rfl
theorem Oo (g:Option Nat) (n:Nat):(O.app g n).cq=true:=rfl
theorem Oq (g:Option Nat):(O.cpy g).cq=true:=rfl
theorem Ot (g:Option Nat) (z:V):(O.clr g z).cq=true:=rfl
theorem Ou (k:IntKind):(O.gO k).cq=false:=rfl
theorem GK (k:IntKind):(O.gO k).indep=true:=rfl
theorem Ov :(O.yp).cq=false:=rfl
theorem Ow {b:Bool}:(O.r2s b).cq=false:=rfl
theorem GL {b:Bool}:(O.r2s b).indep=false:=rfl
theorem GM :(O.yp).indep=false:=rfl
theorem Ox (t:Nat):(O.mki t).cq=false:=rfl
theorem GN (t:Nat):(O.mki t).indep=true:=rfl
theorem Oy (t:Nat) (o:Bool) (z:V):(O.tas t o z).cq=false:=rfl
theorem GO (t:Nat) (o:Bool) (z:V):(O.tas t o z).indep=true:=rfl
theorem Oz (i:Nat):(O.ext i).cq=false:=rfl
theorem GP (i:Nat):(O.ext i).indep=true:=rfl
theorem OA :(O.min).cq=false:=rfl
theorem GQ :(O.min).indep=true:=rfl
theorem OB :(O.max).cq=false:=rfl
theorem GS :(O.max).indep=true:=rfl
theorem OC :(O.rng).cq=true:=rfl
theorem OD :(O.nxt).cq=true:=rfl
theorem LO (f:Nat):(O.call f).cq=true:=rfl
theorem GU :(O.mW).cq=true:=rfl
theorem OE (f:Nat):(O.mkf f).cq=false:=rfl
theorem GV (f:Nat):(O.mkf f).indep=true:=rfl
theorem LP (g:Option Nat) (p:List Nat):(O.gT g [] p).cq=false:=rfl
theorem CJ (g:Option Nat) (p:List Nat):(O.gT g [] p).indep=false:=rfl
theorem OF (g:Option Nat) (z:V) (zs:List V) (p:List Nat):(O.gT g (z::zs) p).cq=true:=rfl
theorem OG :(O.nop).cq=false:=rfl
theorem GW :(O.nop).indep=true:=rfl
theorem OH (g:Option Nat):(O.fzp g).cq=false:=rfl
theorem GX (g:Option Nat):(O.fzp g).indep=true:=rfl
theorem jx (f:Nat):(O.mA f).cq=false:=rfl
theorem fV (f:Nat):(O.mA f).indep=false:=rfl
theorem OI (g:Option Nat) (z:List V) (p:List Nat):(O.CP g z p).cq=false:=rfl
theorem GY (g:Option Nat) (z:List V) (p:List Nat):(O.CP g z p).indep=true:=rfl
theorem OJ {cf:CF} {base:Nat} {e:Env} {h:Hp} (d:Option Nat) (o:Vm.O) (xs:List X) (t:Nat) (b:Bool) (hw:u7 (e t) b=some true):fb cf base e h ⟨d,o,xs,some (t,b)⟩=aC cf base h o (xs.map (X.on e)):=by
 unfold fb rY;simp only[hw]
theorem OL {cf:CF} {base:Nat} {e:Env} {h:Hp} (d:Option Nat) (o:Vm.O) (xs:List X) (t:Nat) (b:Bool) (hw:u7 (e t) b=some false):fb cf base e h ⟨d,o,xs,some (t,b)⟩=some (.bP [],h):=by
 unfold fb rY;simp only[hw]
theorem OM (l:Bool):(O.s2b l).cq= !l:=rfl
theorem GZ (l:Bool):(O.s2b l).indep=l:=rfl
def An (I:Nat→Env→Hp→Prop) (n:Nat) (Q:bS):bS
 | .normal,e,h=>∃m,m < n∧I m e h
 | ex,e,h=> Q ex e h
theorem ym (I:Nat→Env→Hp→Prop) (n:Nat) (Q:bS) (e:Env) (h:Hp):An I n Q .normal e h=∃m,m < n∧I m e h:=rfl
theorem G3 (I:Nat→Env→Hp→Prop) (n:Nat) (Q:bS) (e:Env) (h:Hp):An I n Q .ret e h=Q .ret e h:=rfl
theorem CK (I:Nat→Env→Hp→Prop) (n:Nat) (Q:bS) (i:Nat) (e:Env) (h:Hp):An I n Q (.exit i) e h=Q (.exit i) e h:=rfl
theorem LQ {cf:CF} {base:Nat} {a:C} {Q:bS} (I:Nat→Env→Hp→Prop) (step:∀n e h,I n e h→wp cf base a e h (An I n Q)):∀(n:Nat) (e:Env) (h:Hp),I n e h→wp cf base (.loop a) e h Q:=by
 intro n
 induction n using Nat.strongRecOn with
 | ind n ih=>
   intro e h hi
   rw[wp_loop]
   refine wp_mono _ _ (step n e h hi) fun ex e' h' hq=> ?_
   cases ex with
   | normal=> obtain ⟨m,hm,xS⟩:=hq;exact ih m hm e' h' xS
   | exit i=> exact hq
   | ret=> exact hq
def LS (M:Env→Hp→Prop) (K:bS):bS
 | .normal,e,h=> M e h
 | ex,e,h=> K ex e h
theorem Ao (M:Env→Hp→Prop) (K:bS) (e:Env) (h:Hp):LS M K .normal e h=M e h:=rfl
theorem LU (M:Env→Hp→Prop) (K:bS) (e:Env) (h:Hp):LS M K .ret e h=K .ret e h:=rfl
theorem G4 (M:Env→Hp→Prop) (K:bS) (i:Nat) (e:Env) (h:Hp):LS M K (.exit i) e h=K (.exit i) e h:=rfl
theorem CL {i:Nat} {M:Env→Hp→Prop} {K:bS} (h2:∀e' h',M e' h'→K .normal e' h') {ex:Ex} {e:Env} {h:Hp} (hq:ic i (LS M K) ex e h):ic i K ex e h:=by
 cases ex with
 | normal=> exact h2 _ _ hq
 | exit j=>
   rw[r0] at hq ⊢
   split
   ·rename_i hj;rw[if_pos hj] at hq;exact h2 _ _ hq
   ·rename_i hj;rw[if_neg hj] at hq;exact hq
 | ret=> exact hq
theorem aV {cf:CF} {base:Nat} {a:C} {i:Nat} {K:bS} (I:Nat→Env→Hp→Prop) (M:Env→Hp→Prop) (n:Nat) (e:Env) (h:Hp) (init:I n e h)
 (step:∀n e h,I n e h→wp cf base a e h (An I n (ic i (LS M K)))) (rest:∀e h,M e h→K .normal e h):wp cf base (.loop a) e h (ic i K):=
 wp_mono _ _ (LQ I step n e h init) fun _ _ _ hq=> CL rest hq
theorem LV (res:List Rs) (n:Nat) (q:V×Hp) (e:Env) (h:Hp):NO res n q .ret e h=FZ (eE e h res) n h q:=rfl
theorem Aq (res:List Rs) (n:Nat) (q:V×Hp) (e:Env) (h:Hp):NO res n q .normal e h=FZ (eE e h res) n h q:=rfl
theorem LW (res:List Rs) (q:V×Hp) (e:Env) (h:Hp):Lg res q .ret e h=Cs (eE e h res) h q:=rfl
theorem Ar (res:List Rs) (q:V×Hp) (e:Env) (h:Hp):Lg res q .normal e h=Cs (eE e h res) h q:=rfl
theorem LX (res:List Rs) (Q:V→Hp→Prop) (e:Env) (h:Hp):TU res Q .ret e h=Ga (eE e h res) h Q:=rfl
theorem As (res:List Rs) (Q:V→Hp→Prop) (e:Env) (h:Hp):TU res Q .normal e h=Ga (eE e h res) h Q:=rfl
theorem G5 (vs:List V) (h:Hp) (Q:V→Hp→Prop):Ga (some vs) h Q=Q (pw vs) h:=rfl
theorem G6 (vs:List V) (n:Nat) (h:Hp) (q:V×Hp):FZ (some vs) n h q=NN (bA n h (pw vs)) n h q:=rfl
theorem G7 (v:V) (n:Nat) (h:Hp) (q:V×Hp):NN (some v) n h q=(q=(v,h.take n)):=rfl
theorem G8 (vs:List V) (h:Hp) (q:V×Hp):Cs (some vs) h q=(q=(pw vs,h)):=rfl
theorem G9 (e:Env) (h:Hp):eE e h []=some []:=rfl
theorem ON (e:Env) (h:Hp) (n:Nat) (rs:List Rs):eE e h (.t n::rs)=(eE e h rs).map (e n:: ·):=by
 simp only[eE,NM];cases eE e h rs <;> rfl
theorem CM (e:Env) (h:Hp) (n:Nat) (g:Option Nat) (rs:List Rs):eE e h (.cell n g::rs)=(sj h g (e n)).bind fun r=>(eE e h rs).map (r.1:: ·):=by
 simp only[eE,NM];cases sj h g (e n)<;> cases eE e h rs <;> rfl
theorem LY :pw []= .bP []:=rfl
theorem LZ (v:V):pw [v]=v:=rfl
theorem L1 (v w:V) (vs:List V):pw (v::w::vs)= .bP (v::w::vs):=rfl
def V.plain :V→Bool
 | .s _=> true
 | .al f _ es=> !f && all es
 | .st _ fs=> all fs
 | .arr _ es=> all es
 | .bP vs=> all vs
 | .iface _ v=> v.plain
 | _=> false
where all:List V→Bool
  | []=> true
  | v::vs=> v.plain && all vs
theorem lH (n:Nat) (h:Hp):∀(v:V),v.plain=true→bA n h v=some v:=by
 intro v
 induction v using V.rec (motive_2:=fun vs=> V.plain.all vs=true→bA.all n h vs=some vs) with
 | s x=> intro _;simp[bA,V.low]
 | al f g es ih=>
   intro hp
   simp only[V.plain,acn,aeq] at hp
   simp only[bA,ih hp.2,hp.1];rfl
 | st t fs ih=> intro hp;simp only[V.plain] at hp;simp only[bA,ih hp];rfl
 | arr t es ih=> intro hp;simp only[V.plain] at hp;simp only[bA,ih hp];rfl
 | bP vs ih=> intro hp;simp only[V.plain] at hp;simp only[bA,ih hp];rfl
 | iface t v ih=> intro hp;simp only[V.plain] at hp;simp only[bA,ih hp];rfl
 | nil=> rfl
 | cons v vs h1 h2=>
   rename_i hp
   simp only[V.plain.all,acn] at hp
   simp only[bA.all,h1 hp.1,h2 hp.2]
 | _=> intro hp;simp[V.plain] at hp
theorem gC :∀(v:V),v.plain=true→v.ground=true:=by
 intro v
 induction v using V.rec (motive_2:=fun vs=> V.plain.all vs=true→V.ground.all vs=true) with
 | s x=> intro _;rfl
 | al f g es ih=> intro hp;simp only[V.plain,acn] at hp;exact ih hp.2
 | st t fs ih=> intro hp;exact ih hp
 | arr t es ih=> intro hp;exact ih hp
 | bP vs ih=> intro hp;exact ih hp
 | iface t v ih=> intro hp;exact ih hp
 | nil=> rfl
 | cons v vs h1 h2=>
   rename_i hp
   simp only[V.plain.all,acn] at hp
   simp only[V.ground.all,h1 hp.1,h2 hp.2,afx]
 | _=> intro hp;simp[V.plain] at hp
theorem OO (x:Value):(V.s x).plain=true:=(rfl)
theorem Ha (g:Option Nat) (es:List V):(V.al false g es).plain=V.plain.all es:=(rfl)
theorem L2 (t:Nat) (fs:List V):(V.st t fs).plain=V.plain.all fs:=(rfl)
theorem Hb (t:Nat) (fs:List V):(V.arr t fs).plain=V.plain.all fs:=(rfl)
theorem Hc (fs:List V):(V.bP fs).plain=V.plain.all fs:=(rfl)
theorem At (t:Nat) (v:V):(V.iface t v).plain=v.plain:=(rfl)
theorem Hd :V.plain.all []=true:=(rfl)
theorem tE (v:V) (vs:List V):V.plain.all (v::vs)=(v.plain && V.plain.all vs):=(rfl)
theorem cu {vs:List V}:V.plain.all vs=true↔∀v∈vs,v.plain=true:=by
 induction vs with
 | nil=> simp[V.plain.all]
 | cons v vs ih=> simp[V.plain.all,ih]
theorem He {α:Type} (f:α→V) (hf:∀x,(f x).plain=true) (l:List α):V.plain.all (l.map f)=true:=by
 rw[cu];intro v hv;obtain ⟨x,_,rfl⟩:=ac6.1 hv;exact hf x
theorem xe (n:Nat):∀(v:V),v.plain=true→v.low n=true:=by
 intro v
 induction v using V.rec (motive_2:=fun vs=> V.plain.all vs=true→V.low.all n vs=true) with
 | s x=> intro _;rfl
 | al f g es ih=> intro hp;simp only[V.plain,acn] at hp;exact ih hp.2
 | st t fs ih=> intro hp;exact ih hp
 | arr t es ih=> intro hp;exact ih hp
 | bP vs ih=> intro hp;exact ih hp
 | iface t v ih=> intro hp;exact ih hp
 | nil=> rfl
 | cons v vs h1 h2=>
   rename_i hp
   simp only[V.plain.all,acn] at hp
   simp only[V.low.all,h1 hp.1,h2 hp.2,afx]
 | _=> intro hp;simp[V.plain] at hp
theorem OP (n:Nat) (h:Hp) (id:Nat) (g:Option Nat) (off len aB:Nat) (es:List V) (hid:n≤id) (hg:h[id]? =some (.cells g es)) (ht:es.length=aB) (hl:off+len≤aB) (hp:V.plain.all es=true):
 bA n h (.ref id [] g off len aB)=some (.al false g ((es.drop off).take len)):=by
 have h1:¬id < n:=by omega
 have h2:V.low.all n ((es.drop off).take len)=true:=by
   rw[cu] at hp
   have:∀ {vs:List V},(∀v∈vs,v.plain=true)→V.low.all n vs=true:=by
     intro vs
     induction vs with
     | nil=> intro _;rfl
     | cons v vs ih=> intro hv;simp only[V.low.all,xe n v (hv v (by simp)),ih (fun x hx=> hv x (by simp[hx])),afx]
   exact this fun v hv=> hp v (acY (acA hv))
 simp[bA,h1,rowOf,hg,ht,hl,h2]
theorem yn (n:Nat) (h:Hp) (id:Nat) (g:Option Nat) (len:Nat) (es:List V) (hid:n≤id) (hg:h[id]? =some (.cells g es)) (ht:es.length=len) (hp:V.plain.all es=true):
 bA n h (.ref id [] g 0 len len)=some (.al false g es):=by
 rw[OP n h id g 0 len len es hid hg ht (by omega) hp]
 simp[←ht]
theorem xI (n:Nat) (h:Hp) (f:Bool) (g:Option Nat) (es:List V) (hp:V.plain.all es=true):bA n h (.al f g es)=some (.al false g es):=by
 have:=lH n h (.al false g es) (by simpa[V.plain] using hp)
 simpa[bA] using this
theorem aaB (n:Nat) (h:Hp) (x:Value):bA n h (.s x)=some (.s x):=by simp[bA,V.low]
theorem OQ (n:Nat) (h:Hp) (vs:List V):bA n h (.bP vs)=(bA.all n h vs).map V.bP:=by simp only[bA]
theorem Uk (n:Nat) (h:Hp) (t:Nat) (vs:List V):bA n h (.st t vs)=(bA.all n h vs).map (V.st t):=by simp only[bA]
theorem OR (n:Nat) (h:Hp) (t:Nat) (vs:List V):bA n h (.arr t vs)=(bA.all n h vs).map (V.arr t):=by simp only[bA]
theorem Hf (n:Nat) (h:Hp) (t:Nat) (v:V):bA n h (.iface t v)=(bA n h v).map (V.iface t):=by simp only[bA]
theorem th (n:Nat) (h:Hp):bA.all n h []=some []:=by simp only[bA.all]
theorem qG (n:Nat) (h:Hp) (v:V) (vs:List V):bA.all n h (v::vs)=(bA n h v).bind fun v'=>(bA.all n h vs).map (v':: ·):=by
 simp only[bA.all];cases bA n h v <;> cases bA.all n h vs <;> rfl
theorem CN (b:UInt8):(aa b).plain=true:=(rfl)
theorem bO (l:List UInt8):V.plain.all (l.map aa)=true:=He _ CN l
theorem j7 (l:List UInt8):bytesOf (l.map aa)=some l:=by
 induction l with
 | nil=> rfl
 | cons b l ih=>
   simp only[acx,aa,bytesOf]
   rw[ih]
   simp
theorem oL (cf:CF) (base:Nat) (h:Hp) (x:V) (g:Option Nat) (l:List UInt8) (hx:elems h x=some (g,l.map aa)):aC cf base h .yp [x]=some (.s (.string ⟨l.toArray⟩),h):=by
 simp[aC,wE,hx,j7,j6]
theorem wq (h:Hp) (f:Bool) (g:Option Nat) (es:List V):elems h (.al f g es)=some (g,es):=rfl
theorem Hg (h:Hp) (id:Nat) (g:Option Nat) (off len aB:Nat) (es:List V) (hg:h[id]? =some (.cells g es)) (ht:es.length=aB):elems h (.ref id [] g off len aB)=some (g,(es.drop off).take len):=by
 simp[elems,rowAt,rowOf,hg,ht]
theorem aM (h t:Hp) (k:Nat):(h++t)[h.length+k]? =t[k]? :=by
 rw[acB (by omega)];simp
theorem aH (h t:Hp):(h++t)[h.length]? =t[0]? :=by
 rw[acB (by omega)];simp
theorem q10z {h:Hp} {id:Nat} {b:bc} (hg:h[id]? =some b) (t:Hp):(h++t)[id]? =some b:=by
 have:=(acj.1 hg).1
 rw[ac0 this];exact hg
theorem bN (h t:Hp) (k:Nat) (b:bc):(h++t).set (h.length+k) b=h++t.set k b:=by
 rw[ac9 _ _ (by omega)];simp
theorem pV (h t:Hp) (b:bc):(h++t).set h.length b=h++t.set 0 b:=by
 rw[ac9 _ _ (by omega)];simp
theorem n9 {h:Hp} {id:Nat} (hid:id < h.length) (t:Hp) (b:bc):(h++t).set id b=h.set id b++t:=by
 rw[aeM _ _ hid]
theorem L3 (h t:Hp):(h++t).take h.length=h:=by simp
theorem q6z {h:Hp} {id:Nat} {b:bc} (hg:h[id]? =some b):id < h.length:=(acj.1 hg).1
end Go.Vm
namespace Go.Vm
def SR (h:Hp) (x:V) (g:Option Nat) (vs:List V):Prop:=
 (∃f,x= .al f g vs)∨∃id off aB es,x= .ref id [] g off vs.length aB∧h[id]? =some (.cells g es)∧es.length=aB∧off+vs.length≤aB∧(es.drop off).take vs.length=vs
def BR (h:Hp) (x:V) (l:List UInt8):Prop:=
 (∃f,x= .al f none (l.map aa))∨∃(id off:Nat) (bl:List UInt8),x= .ref id [] none off l.length bl.length∧h[id]? =some (.cells none (bl.map aa))∧off+l.length≤bl.length∧(bl.drop off).take l.length=l
theorem BR.sr {h:Hp} {x:V} {l:List UInt8} (hb:BR h x l):SR h x none (l.map aa):=by
 rcases hb with ⟨f,rfl⟩ | ⟨id,off,bl,rfl,h1,h2,h3⟩
 ·exact .inl ⟨f,rfl⟩
 ·exact .inr ⟨id,off,bl.length,bl.map aa,by simp,h1,by simp,by simpa using h2,by rw[acy,←List.map_drop,←List.map_take,h3]⟩
structure Fw (S:List Nat) (h h':Hp):Prop where
 len:h.length≤h'.length
 db:∀(j:Nat) (b:bc),h[j]? =some b→j∉S→h'[j]? =some b
 byt:∀(j:Nat) (l:List UInt8),h[j]? =some (.cells none (l.map aa))→h'[j]? =some (.cells none (l.map aa))
theorem Fw.refl (S:List Nat) (h:Hp):Fw S h h:=⟨acm _,fun _ _ h _=> h,fun _ _ h=> h⟩
theorem Fw.trans {S:List Nat} {a b c:Hp} (h:Fw S a b) (k:Fw S b c):Fw S a c:=
 ⟨acN h.len k.len,fun j x hj hs=> k.db j x (h.db j x hj hs) hs,fun j es hj=> k.byt j es (h.byt j es hj)⟩
theorem Fw.mono {S T:List Nat} {a b:Hp} (h:Fw S a b) (hs:∀j∈S,j∈T):Fw T a b:=
 ⟨h.len,fun j x hj ht=> h.db j x hj (fun hj'=> ht (hs j hj')),h.byt⟩
theorem Fw.new {S T:List Nat} {a b c:Hp} (h:Fw S a b) (k:Fw T b c) (ht:∀j∈T,a.length≤j∨j∈S):Fw S a c:=
 ⟨acN h.len k.len,fun j x hj hs=> k.db j x (h.db j x hj hs) (fun hj'=> by
   rcases ht j hj' with h1 | h1
   ·have:=q6z hj;omega
   ·exact hs h1),fun j es hj=> k.byt j es (h.byt j es hj)⟩
theorem Fw.app (S:List Nat) (h t:Hp):Fw S h (h++t):=
 ⟨by simp,fun j b hj _=> q10z hj t,fun j es hj=> q10z hj t⟩
theorem Fw.set {S:List Nat} {h:Hp} {id g:Nat} {es es':List V} (hid:id∈S) (hg:h[id]? =some (.cells (some g) es)):Fw S h (h.set id (.cells (some g) es')):=
 ⟨by simp,fun j b hj hs=> by
   have cC:id≠j:=fun e=> by subst e;exact hs hid
   rw[acp cC];exact hj,fun j es2 hj=> by
   have:id≠j:=fun e=> by subst e;rw[hg] at hj;cases hj
   rw[acp this];exact hj⟩
theorem Fw.cP {S:List Nat} {a b:Hp} (f:Fw S a b) {c:Nat} (hc:a.length≤c) (k:bc):Fw S a (b.set c k):=
 ⟨by simpa using f.len,fun j x hj hs=> by
   have:=q6z hj
   rw[acp (by omega)];exact f.db j x hj hs,fun j es hj=> by
   have:=q6z hj
   rw[acp (by omega)];exact f.byt j es hj⟩
theorem Fw.MH {S:List Nat} {h:Hp} {id:Nat} {es:List V} {k:bc} (hid:id∈S) (hg:h[id]? =some (.cells none es)) (hn:∀l:List UInt8,es≠l.map aa):Fw S h (h.set id k):=
 ⟨by simp,fun j b hj hs=> by
   have cC:id≠j:=fun e=> by subst e;exact hs hid
   rw[acp cC];exact hj,fun j l hj=> by
   have:id≠j:=fun e=> by subst e;rw[hg] at hj;simp only[Option.some.injEq,bc.cells.injEq,true_and] at hj;exact hn l hj
   rw[acp this];exact hj⟩
theorem Fw.lt {S:List Nat} {h h':Hp} (f:Fw S h h') {j:Nat} (hj:j < h.length):j < h'.length:=ael hj f.len
theorem Fw.take {h h':Hp} (f:Fw [] h h'):h'.take h.length=h:=by
 apply adl
 intro j
 rw[adL]
 split
 ·rename_i hj
  rw[aci hj]
  exact f.db j _ (aci hj) (by simp)
 ·rename_i hj
  rw[acW (aeS hj)]
theorem Fw.step {S:List Nat} {a b c:Hp} {i:Nat} (h:Fw S a b) (k:Fw [i] b c) (hi:a.length≤i):Fw S a c:=h.new k (by simp;exact .inl hi)
theorem q9z {h:Hp} {id:Nat} {b b':bc} (hg:h[id]? =some b'):(h.set id b)[id]? =some b:=by
 rw[adU (q6z hg)]
theorem BR.mono {S:List Nat} {h h':Hp} {x:V} {l:List UInt8} (hb:BR h x l) (f:Fw S h h'):BR h' x l:=by
 rcases hb with h1 | ⟨id,off,bl,h1,h2,h3,h4⟩
 ·exact .inl h1
 ·exact .inr ⟨id,off,bl,h1,f.byt _ _ h2,h3,h4⟩
theorem SR.len {h:Hp} {x:V} {g:Option Nat} {vs:List V} (hb:SR h x g vs):fj x=some vs.length:=by
 rcases hb with ⟨f,rfl⟩ | ⟨id,off,aB,es,rfl,_⟩<;> rfl
theorem SR.elems {h:Hp} {x:V} {g:Option Nat} {vs:List V} (hb:SR h x g vs):elems h x=some (g,vs):=by
 rcases hb with ⟨f,rfl⟩ | ⟨id,off,aB,es,rfl,h2,h3,h4,h5⟩
 ·rfl
 ·rw[Hg h id g off _ aB es h2 h3,h5]
theorem SR.ty {h:Hp} {x:V} {g:Option Nat} {vs:List V} (hb:SR h x g vs):x.ty=none:=by
 rcases hb with ⟨f,rfl⟩ | ⟨id,off,aB,es,rfl,_⟩<;> rfl
theorem SR.aA {h:Hp} {x:V} {g:Option Nat} {vs:List V} (hb:SR h x g vs):x.aA=true:=by
 rcases hb with ⟨f,rfl⟩ | ⟨id,off,aB,es,rfl,_⟩<;> rfl
theorem SR.src {h:Hp} {x:V} {g:Option Nat} {vs:List V} (hb:SR h x g vs):source h x=some (g,vs):=by
 have:=hb.elems
 rcases hb with ⟨f,rfl⟩ | ⟨id,off,aB,es,rfl,_⟩<;> exact this
theorem BR.len {h:Hp} {x:V} {l:List UInt8} (hb:BR h x l):fj x=some l.length:=by
 have:=SR.len hb.sr;rwa [acy] at this
theorem BR.elems {h:Hp} {x:V} {l:List UInt8} (hb:BR h x l):elems h x=some (none,l.map aa):=hb.sr.elems
theorem BR.ty {h:Hp} {x:V} {l:List UInt8} (hb:BR h x l):x.ty=none:=hb.sr.ty
theorem BR.aA {h:Hp} {x:V} {l:List UInt8} (hb:BR h x l):x.aA=true:=hb.sr.aA
theorem BR.src {h:Hp} {x:V} {l:List UInt8} (hb:BR h x l):source h x=some (none,l.map aa):=hb.sr.src
theorem BR.bU {cf:CF} {base:Nat} {h0 h:Hp} {x:V} {l:List UInt8} (hb:BR h0 x l):aC cf base h .len [x]=some (.s (.int .i64 l.length),h):=Vm.bU cf base h x _ hb.len
theorem BR.oL {cf:CF} {base:Nat} {h:Hp} {x:V} {l:List UInt8} (hb:BR h x l):aC cf base h .yp [x]=some (.s (.string ⟨l.toArray⟩),h):=Vm.oL cf base h x _ l hb.elems
theorem dp (h:Hp) (f:Bool) (l:List UInt8):BR h (.al f none (l.map aa)) l:= .inl ⟨f,rfl⟩
theorem pg (h:Hp) (f:Bool):BR h (.al f none []) []:= .inl ⟨f,rfl⟩
theorem ma {h:Hp} {id n:Nat} {g:Option Nat} {vs:List V} (hg:h[id]? =some (.cells g vs)) (hn:vs.length=n):SR h (.ref id [] g 0 n n) g vs:=
 .inr ⟨id,0,n,vs,by rw[hn],hg,hn,by omega,by simp⟩
theorem di {h:Hp} {id n:Nat} {l:List UInt8} (hg:h[id]? =some (.cells none (l.map aa))) (hn:l.length=n):BR h (.ref id [] none 0 n n) l:=
 .inr ⟨id,0,l,by rw[hn],hg,by omega,by simp⟩
theorem SR.cut {h:Hp} {x:V} {g:Option Nat} {vs:List V} (hb:SR h x g vs) {l r:Nat} (h1:l≤r) (h2:r≤vs.length):∃y,dH h g x l r=some y∧SR h y g ((vs.drop l).take (r - l)):=by
 rcases hb with ⟨f,rfl⟩ | ⟨id,off,aB,es,rfl,k2,k3,k4,k5⟩
 ·exact ⟨_,by simp[dH,h1,h2];rfl,.inl ⟨_,rfl⟩⟩
 ·have cE:rowAt h id [] aB=some es:=by simp[rowAt,rowOf,k2,k3]
  by_cases hl:l=0∨l < r
  ·refine ⟨.ref id [] g (off+l) (r - l) aB,by simp[dH,h1,h2,cE,hl],.inr ⟨id,off+l,aB,es,?_,k2,k3,?_,?_⟩⟩
   ·have:((vs.drop l).take (r - l)).length=r - l:=by simp;omega
    rw[this]
   ·have:((vs.drop l).take (r - l)).length=r - l:=by simp;omega
    rw[this];omega
   ·have:((vs.drop l).take (r - l)).length=r - l:=by simp;omega
    rw[this]
    conv=> rhs;rw[←k5]
    rw[adM,adn,ads]
    congr 1
    omega
  ·refine ⟨.al false g [],by simp[dH,h1,h2,cE,hl],.inl ⟨false,?_⟩⟩
   have:r - l=0:=by omega
   rw[this];simp
theorem SR.bU {cf:CF} {base:Nat} {h0 h:Hp} {x:V} {g:Option Nat} {vs:List V} (hb:SR h0 x g vs):aC cf base h .len [x]=some (.s (.int .i64 vs.length),h):=Vm.bU cf base h x _ hb.len
theorem SR.hi {h:Hp} {x:V} {g:Option Nat} {vs:List V} (hb:SR h x g vs) {k:IntKind} {r:Nat} (hr:r≤vs.length):∃y,(∀cf base,aC cf base h (.j2 g false true false) [x,.s (.int k r)]=some (y,h))∧SR h y g (vs.take r):=by
 obtain ⟨y,h1,h2⟩:=hb.cut (ae1 r) hr
 refine ⟨y,fun cf base=> ?_,by simpa using h2⟩
 have h3:=hb.len
 simp only[aC,gV,h3,aO,cX]
 simp[h1]
theorem SR.lo {h:Hp} {x:V} {g:Option Nat} {vs:List V} (hb:SR h x g vs) {k:IntKind} {l:Nat} (hr:l≤vs.length):∃y,(∀cf base,aC cf base h (.j2 g true false false) [x,.s (.int k l)]=some (y,h))∧SR h y g (vs.drop l):=by
 obtain ⟨y,h1,h2⟩:=hb.cut hr (acm _)
 refine ⟨y,fun cf base=> ?_,by rw[ack (by simp)] at h2;exact h2⟩
 have h3:=hb.len
 simp only[aC,gV,h3,aO,cX]
 simp[h1]
theorem SR.both {h:Hp} {x:V} {g:Option Nat} {vs:List V} (hb:SR h x g vs) {k k':IntKind} {l r:Nat} (hl:l≤r) (hr:r≤vs.length):∃y,(∀cf base,aC cf base h (.j2 g true true false) [x,.s (.int k l),.s (.int k' r)]=some (y,h))∧SR h y g ((vs.drop l).take (r - l)):=by
 obtain ⟨y,h1,h2⟩:=hb.cut hl hr
 refine ⟨y,fun cf base=> ?_,h2⟩
 have h3:=hb.len
 simp only[aC,gV,h3,aO,cX]
 simp[h1]
theorem BR.cut {h:Hp} {x:V} {l:List UInt8} (hb:BR h x l) {a r:Nat} (h1:a≤r) (h2:r≤l.length):∃y,dH h none x a r=some y∧BR h y ((l.drop a).take (r - a)):=by
 have hlen:((l.drop a).take (r - a)).length=r - a:=by simp;omega
 rcases hb with ⟨f,rfl⟩ | ⟨id,off,bl,rfl,k2,k3,k4⟩
 ·exact ⟨_,by simp[dH,h1,h2];rfl,.inl ⟨_,by rw[aeX,List.map_drop]⟩⟩
 ·have cE:rowAt h id [] bl.length=some (bl.map aa):=by simp[rowAt,rowOf,k2]
  by_cases hl:a=0∨a < r
  ·refine ⟨.ref id [] none (off+a) (r - a) bl.length,by simp[dH,h1,h2,cE,hl],.inr ⟨id,off+a,bl,by rw[hlen],k2,by omega,?_⟩⟩
   rw[hlen]
   conv=> rhs;rw[←k4]
   rw[adM,adn,ads]
   congr 1
   omega
  ·refine ⟨.al false none [],by simp[dH,h1,h2,cE,hl],.inl ⟨false,?_⟩⟩
   have:r - a=0:=by omega
   rw[this];simp
theorem BR.hi {h:Hp} {x:V} {l:List UInt8} (hb:BR h x l) {k:IntKind} {r:Nat} (hr:r≤l.length):∃y,(∀cf base,aC cf base h (.j2 none false true false) [x,.s (.int k r)]=some (y,h))∧BR h y (l.take r):=by
 obtain ⟨y,h1,h2⟩:=hb.cut (ae1 r) hr
 refine ⟨y,fun cf base=> ?_,by simpa using h2⟩
 have h3:=hb.len
 simp only[aC,gV,h3,aO,cX]
 simp[h1]
theorem BR.lo {h:Hp} {x:V} {l:List UInt8} (hb:BR h x l) {k:IntKind} {r:Nat} (hr:r≤l.length):∃y,(∀cf base,aC cf base h (.j2 none true false false) [x,.s (.int k r)]=some (y,h))∧BR h y (l.drop r):=by
 obtain ⟨y,h1,h2⟩:=hb.cut hr (acm _)
 refine ⟨y,fun cf base=> ?_,by rw[ack (by simp)] at h2;exact h2⟩
 have h3:=hb.len
 simp only[aC,gV,h3,aO,cX]
 simp[h1]
theorem BR.both {h:Hp} {x:V} {l:List UInt8} (hb:BR h x l) {k k':IntKind} {a r:Nat} (ha:a≤r) (hr:r≤l.length):∃y,(∀cf base,aC cf base h (.j2 none true true false) [x,.s (.int k a),.s (.int k' r)]=some (y,h))∧BR h y ((l.drop a).take (r - a)):=by
 obtain ⟨y,h1,h2⟩:=hb.cut ha hr
 refine ⟨y,fun cf base=> ?_,h2⟩
 have h3:=hb.len
 simp only[aC,gV,h3,aO,cX]
 simp[h1]
def dO :List V→Hp→Option (V×Hp)
 | [x],h=> match elems h x with
   | some (none,es)=> if es=[] then some (.al true none [],h) else if es.length≤140737488355328 then some (.ref h.length [] none 0 es.length es.length,h++[.cells none es]) else none
   | _=> none
 | _,_=> none
theorem qH {h:Hp} {x:V} {l:List UInt8} (he:elems h x=some (none,l.map aa)) (hl:l.length≤140737488355328):∃v t,dO [x] h=some (v,h++t)∧BR (h++t) v l∧(v= .al true none []∧t=[]∧l=[]∨v= .ref h.length [] none 0 l.length l.length∧t=[.cells none (l.map aa)]):=by
 cases l with
 | nil=> exact ⟨.al true none [],[],by simp[dO,he],pg _ _,.inl ⟨rfl,rfl,rfl⟩⟩
 | cons b l=>
   refine ⟨.ref h.length [] none 0 (b::l).length (b::l).length,[.cells none ((b::l).map aa)],?_,di (by simp) rfl,.inr ⟨rfl,rfl⟩⟩
   simp only[dO,he]
   rw[if_neg (by simp),if_pos (by simpa using hl)]
   simp
theorem Jw {h:Hp} {x:V} {l:List UInt8} (hb:BR h x l) (hl:l.length≤140737488355328):∃v t,dO [x] h=some (v,h++t)∧BR (h++t) v l∧(v= .al true none []∧t=[]∧l=[]∨v= .ref h.length [] none 0 l.length l.length∧t=[.cells none (l.map aa)]):=qH hb.elems hl
def cv (h:Hp) (l:List UInt8):V:=if l=[] then .al true none [] else .ref h.length [] none 0 l.length l.length
def ct (l:List UInt8):Hp:=if l=[] then [] else [.cells none (l.map aa)]
theorem qJ {h:Hp} {x:V} {l:List UInt8} (he:elems h x=some (none,l.map aa)) (hl:l.length≤140737488355328):dO [x] h=some (cv h l,h++ct l):=by
 obtain ⟨v,t,h1,_,h3⟩:=qH he hl
 rw[h1]
 rcases h3 with ⟨rfl,rfl,rfl⟩ | ⟨rfl,rfl⟩
 ·rfl
 ·by_cases he:l=[]
  ·exfalso;subst he;simp[dO,he] at h1
  ·simp[cv,ct,he]
theorem yQ {h:Hp} {x:V} {l:List UInt8} (hb:BR h x l) (hl:l.length≤140737488355328):dO [x] h=some (cv h l,h++ct l):=qJ hb.elems hl
theorem Sb {h h1:Hp} (hn:h1.length=h.length) (l:List UInt8):BR (h1++ct l) (cv h l) l:=by
 unfold cv ct
 split
 ·rename_i he;subst he;exact pg _ _
 ·rw[←hn];exact di (by rw[aH];rfl) rfl
theorem Pn (h:Hp) (l:List UInt8):(cv h l).ty=none:=by unfold cv;split <;> rfl
theorem yR (h:Hp) (l:List UInt8):(cv h l).aA=true:=by unfold cv;split <;> rfl
theorem Sc (n:Nat) (h:Hp) (l:List UInt8) (hn:n≤h.length):bA n (h++ct l) (cv h l)=some (.al false none (l.map aa)):=by
 unfold cv ct
 split
 ·rename_i he;subst he;rfl
 ·exact yn n _ _ none _ _ hn (by rw[aH];rfl) (by simp) (bO l)
theorem ML (n:Nat) (h0 h1:Hp) (l:List UInt8) (hn:n≤h1.length) (hl:h1.length=h0.length):bA n (h1++ct l) (cv h0 l)=some (.al false none (l.map aa)):=by
 unfold cv ct
 split
 ·rename_i he;subst he;rfl
 ·rw[←hl];exact yn n _ _ none _ _ hn (by rw[aH];rfl) (by simp) (bO l)
section
variable {cf : CF} {base : Nat} {h : Hp} {g : Option Nat} {bytes : Nat} {y : V} {ys : List V}
theorem g9 {x:V} {n:Nat} {gy:Option Nat} (hy:source h y=some (gy,[])) (hl:fj x=some n):aC cf base h (.app g bytes) [x,y]=some (x,h):=by
 simp[Ec,hy,df,hl]
theorem ig (hy:source h y=some (g,ys)) (cC:ys≠[]) (hb:ys.length * bytes≤140737488355328):aC cf base h (.app g bytes) [.al true g [],y]=some (.ref h.length [] g 0 ys.length ys.length,h++[.cells g ys]):=by
 simp[Ec,hy,df,cC,hb]
theorem tl {id off len:Nat} {es:List V} (hg:h[id]? =some (.cells g es)) (hy:source h y=some (g,ys)) (cC:ys≠[]) (hm:∀y∈ys,bQ base id y=true) (hr:off+len+ys.length≤es.length):
 aC cf base h (.app g bytes) [.ref id [] g off len es.length,y]=some (.ref id [] g off (len+ys.length) es.length,h.set id (.cells g (es.take (off+len)++ys++es.drop (off+len+ys.length)))):=by
 have h1:rowOf h id es.length=some (g,es):=by simp[rowOf,hg]
 have h2:ys.all (bQ base id)=true:=by simpa[acJ] using hm
 simp only[Ec,hy,ad6,df,cC,if_false,if_true,h1,h2,true_and,and_self,hr]
theorem fM {id:Nat} {es:List V} (hg:h[id]? =some (.cells g es)) (hy:source h y=some (g,ys)) (cC:ys≠[]) (hm:∀y∈ys,bQ base id y=true) (hb:(es.length+ys.length)* bytes≤140737488355328):
 aC cf base h (.app g bytes) [.ref id [] g 0 es.length es.length,y]=some (.ref id [] g 0 (es.length+ys.length) (es.length+ys.length),h.set id (.cells g (es++ys))):=by
 have h1:rowOf h id es.length=some (g,es):=by simp[rowOf,hg]
 have h2:ys.all (bQ base id)=true:=by simpa[acJ] using hm
 have h3:¬(0+es.length+ys.length≤es.length):=by
   have:ys.length≠0:=by simpa using cC
   omega
 simp only[Ec,hy,ad6,df,cC,if_false,if_true,h1,h2,true_and,and_self,h3,hb]
end
def LR (h:Hp) (g:Option Nat) (k:Nat) (x:V) (vs:List V):Prop:=
 (x= .al true g []∧vs=[])∨∃es:List V,x= .ref k [] g 0 vs.length es.length∧h[k]? =some (.cells g es)∧es.take vs.length=vs∧vs.length≤es.length
theorem LR.sr {h:Hp} {g:Option Nat} {k:Nat} {x:V} {vs:List V} (hl:LR h g k x vs):SR h x g vs:=by
 rcases hl with ⟨rfl,rfl⟩ | ⟨es,rfl,h1,h2,h3⟩
 ·exact .inl ⟨true,rfl⟩
 ·exact .inr ⟨k,0,es.length,es,rfl,h1,rfl,by omega,by simpa using h2⟩
theorem LR.at' {h h':Hp} {g:Option Nat} {k:Nat} {x:V} {vs:List V} (hl:LR h g k x vs) (hk:∀b,h[k]? =some b→h'[k]? =some b):LR h' g k x vs:=by
 rcases hl with h1 | ⟨es,h0,h1,h2⟩
 ·exact .inl h1
 ·exact .inr ⟨es,h0,hk _ h1,h2⟩
theorem LR.push {h:Hp} {g:Option Nat} {k:Nat} {x:V} {vs:List V} (hl:LR h g k x vs) {base bytes:Nat} {y:V} {z:V} (hy:source h y=some (g,[z])) (hm:bQ base k z=true) (hb:(vs.length+1)* bytes≤140737488355328):
 (∀cf,aC cf base h (.app g bytes) [x,y]=some (.ref h.length [] g 0 1 1,h++[.cells g [z]]))∧vs=[]∧x= .al true g []∨
 ∃es es',h[k]? =some (.cells g es)∧(∀cf,aC cf base h (.app g bytes) [x,y]=some (.ref k [] g 0 (vs.length+1) es'.length,h.set k (.cells g es')))∧es'.take (vs.length+1)=vs++[z]∧vs.length+1≤es'.length∧(∃fs,es'=vs++z::fs):=by
 rcases hl with ⟨rfl,rfl⟩ | ⟨es,rfl,h1,h2,h3⟩
 ·exact .inl ⟨fun cf=> by rw[ig hy (by simp) (by simpa using hb)];rfl,rfl,rfl⟩
 ·refine .inr ⟨es,?_⟩
  by_cases hr:vs.length+1≤es.length
  ·refine ⟨es.take vs.length++[z]++es.drop (vs.length+1),h1,fun cf=> ?_,?_,?_,?_⟩
   ·rw[tl h1 hy (by simp) (by simpa using hm) (by simpa using hr)]
    simp only[aco,acI,adb,acR,ada,acU]
    rw[show min vs.length es.length+1+(es.length - (vs.length+1))=es.length by omega]
   ·rw[h2];exact afj (l₁:=vs++[z]) (by simp)
   ·simp;omega
   ·exact ⟨es.drop (vs.length+1),by rw[h2];simp⟩
  ·have he:vs.length=es.length:=by omega
   have hv:es=vs:=by rw[←h2,ack (by omega)]
   subst hv
   refine ⟨es++[z],h1,fun cf=> ?_,ack (by rw[aco];exact acm _),by rw[aco];exact acm _,⟨[],rfl⟩⟩
   rw[fM h1 hy (by simp) (by simpa using hm) (by simpa using hb)]
   simp
theorem bh {l t:Hp} {n k:Nat} (hl:l.length=n):(l++t)[n+k]? =t[k]? :=by subst hl;exact aM l t k
theorem aX {l t:Hp} {n:Nat} (hl:l.length=n):(l++t)[n]? =t[0]? :=by subst hl;exact aH l t
theorem bw {l t:Hp} {n k:Nat} {b:bc} (hl:l.length=n):(l++t).set (n+k) b=l++t.set k b:=by subst hl;exact bN l t k b
theorem bb {l t:Hp} {n:Nat} {b:bc} (hl:l.length=n):(l++t).set n b=l++t.set 0 b:=by subst hl;exact pV l t b
theorem Ed (a:UInt8):BitVec.ofInt 8 (a.toNat:Int)=a.toBitVec:=by
 apply afI
 simp only[BitVec.toNat_ofInt]
 have:=a.toNat_lt
 simp[UInt8.toNat_toBitVec]
 omega
theorem u8_xor (a b:UInt8):Mr .u8 (a.toNat:Int) (b.toNat:Int)=((a ^^^ b).toNat:Int):=by
 show IntKind.u8.wrap ((BitVec.ofInt 8 (a.toNat:Int)^^^ BitVec.ofInt 8 (b.toNat:Int)).toNat:Int)=_
 rw[Ed,Ed]
 have h1:(a.toBitVec ^^^ b.toBitVec).toNat=(a ^^^ b).toNat:=by
   rw[←UInt8.toBitVec_xor,UInt8.toNat_toBitVec]
 rw[h1]
 have:=(a ^^^ b).toNat_lt
 exact wrap_u8 (by omega) (by omega)
end Go.Vm
namespace Go.Vm
theorem yo {α:Type} (f:α→V) (p:α→Prop):∀(es:List V),(∀x∈es,∃a,x=f a∧p a)→∃l:List α,es=l.map f∧∀a∈l,p a
 | [],_=>⟨[],rfl,fun a h=>(by cases h)⟩
 | x::es,h=> by
   obtain ⟨a,rfl,ha⟩:=h x (by simp)
   obtain ⟨l,rfl,hl⟩:=yo f p es (fun y hy=> h y (by simp[hy]))
   exact ⟨a::l,rfl,fun b hb=> by
     rcases acQ.1 hb with rfl | hb
     ·exact ha
     ·exact hl b hb⟩
theorem Au {es:List V} (h:∀x∈es,∃m,x= .s (.int .u8 m)∧IntKind.u8.min≤m∧m≤IntKind.u8.max):∃l:List UInt8,es=l.map aa:=by
 obtain ⟨l,h1,_⟩:=yo aa (fun _=> True) es (fun x hx=> by
   obtain ⟨m,rfl,h1,h2⟩:=h x hx
   have a:IntKind.u8.min=0:=rfl
   have b:IntKind.u8.max=255:=rfl
   rw[a] at h1;rw[b] at h2
   refine ⟨UInt8.ofNat m.toNat,?_,trivial⟩
   simp only[aa,aeV]
   congr 2
   omega)
 exact ⟨l,h1⟩
variable {P : Program} {n : Nat} {t e : TypeId} {v : V}
theorem of_int {k:IntKind} (h:bZ P (n+1) t v) (hu:P.underlying t=some (.int k)):∃m,v= .s (.int k m)∧k.min≤m∧m≤k.max:=by
 rw[bZ,hu] at h;exact h
theorem ez (h:bZ P (n+1) t v) (hu:P.underlying t=some (.int .i64)):∃m,v= .s (.int .i64 m)∧ -9223372036854775808≤m∧m≤9223372036854775807:=of_int h hu
theorem o5 (h:bZ P (n+1) t v) (hu:P.underlying t=some (.int .u64)):∃m,v= .s (.int .u64 m)∧0≤m∧m≤18446744073709551615:=of_int h hu
theorem of_bool (h:bZ P (n+1) t v) (hu:P.underlying t=some .bool):∃b,v= .s (.bool b):=by
 rw[bZ,hu] at h;exact h
theorem of_slice {α:Type} {f:α→V} {p:α→Prop} {g:Option Nat} (h:bZ P (n+1) t v) (hu:P.underlying t=some (.slice e)) (hg:aE P e=g) (he:∀x,bZ P n e x→∃a,x=f a∧p a):
 ∃l:List α,v= .al false g (l.map f)∧l.length * P.bytesOf e≤140737488351232∧∀a∈l,p a:=by
 rw[bZ,hu] at h
 obtain ⟨es,rfl,h1,h2,h3⟩:=h
 obtain ⟨l,rfl,hl⟩:=yo f p es (fun x hx=> he x (h3 x hx))
 exact ⟨l,by rw[hg],by simpa using h1,hl⟩
theorem yB (h:bZ P (n+2) t v) (hu:P.underlying t=some (.slice e)) (he:P.underlying e=some (.int .u8)) (hb:P.bytesOf e=1):∃l:List UInt8,v= .al false none (l.map aa)∧l.length≤140737488351232:=by
 rw[bZ,hu] at h
 obtain ⟨es,rfl,h1,h2,h3⟩:=h
 obtain ⟨l,rfl⟩:=Au (fun x hx=> of_int (h3 x hx) he)
 refine ⟨l,by simp[aE,he],?_⟩
 rw[hb] at h1;simpa using h1
theorem sq {k:Nat} (h:bZ P (n+2) t v) (hu:P.underlying t=some (.array k e)) (he:P.underlying e=some (.int .u8)):∃l:List UInt8,v= .arr (P.underlyingId t) (l.map aa)∧l.length=k:=by
 rw[bZ,hu] at h
 obtain ⟨es,rfl,h1,h3⟩:=h
 obtain ⟨l,rfl⟩:=Au (fun x hx=> of_int (h3 x hx) he)
 exact ⟨l,rfl,by simpa using h1⟩
theorem of_struct {fs:Array Field} (h:bZ P (n+1) t v) (hu:P.underlying t=some (.struct fs)):∃vs,v= .st (P.underlyingId t) vs∧vs.length=fs.size∧∀(i:Nat) (f:Field) (x:V),fs[i]? =some f→vs[i]? =some x→bZ P n f.type x:=by
 rw[bZ,hu] at h;exact h
theorem L8 {xs:List V} (h:o3 P n [] xs):xs=[]:=by
 cases xs with
 | nil=> rfl
 | cons x xs=> exact h.elim
theorem HC {t:TypeId} {ts:List TypeId} {xs:List V} (h:o3 P n (t::ts) xs):∃x ys,xs=x::ys∧bZ P n t x∧o3 P n ts ys:=by
 cases xs with
 | nil=> exact h.elim
 | cons x xs=> exact ⟨x,xs,rfl,h.1,h.2⟩
attribute [go_sem] wp_seq TT NJ wp_skip wp_ret wp_exit wp_block wp_cond NK K8 NL Le K9 La FV Lf GD.calm Ug LC LF CD NV Gv NZ Gy NY Gx NX C0 NW Gw Uh LG N8 Gz Ui LH N9 GA Oa GB Ob GC Oc GF LI CE Uj LJ Od Oe Of LL CG LM CH Og Oj Ok GG Ol GH Om GI On GJ LN CI Oo Oq Ot Ou GK Ov GM Ow GL Ox GN Oy GO Oz GP OA GQ OB GS OC OD LO GU OE GV OG GW OH GX jx fV OI GY OJ OL ZY ZZ nX ia Z1 Gn LP CJ OF OM GZ Lc FW Ai Ld FX Ao LU G4 ym G3 CK vz Cr r0 CB Ct Cu Cv Gb abD abE ZP Lh Li ZQ abF TW TX NS ZX Z2 Z3 Z4 Z5 Z6 abG Z8 Z9 aaa aab aac aad aae TY Lq TZ T0 T1 Lr Ls Lt Lu qO aam aan T9 ck Lv aao Ua fL aap aaq aar aas Ub Uc aat aau aaw aax aal aay vM Pk Lj Gc Gd Lk Ge vK Cw Ll Gg aav Oh Oi Gh NR Cx Cy Gi Cz Gj Ln Gk Lo Al Lp Gl Gm tm vL bK aaf T3 T4 aag nb T6 T7 aah aai aaj Pm aak T8 T5 nT FT FY LV Aq LW Ar LX As G5 G6 G7 G8 G9 ON CM LY LZ L1 aaB OQ Uk OR Hf th qG xI lH OO Ha L2 Hb Hc At Hd tE bO LB Gu abH Ud Ue Uf NT Lx aaz aaA qK NU Gp Gq Gs CC Am Ly LA Gt L3 aH pV bQ
attribute [go_sem] List.map_cons List.map_nil List.getD_cons_zero List.getD_cons_succ List.getD_nil List.zip_cons_cons List.zip_nil_left List.zip_nil_right List.set_cons_zero List.set_cons_succ Bool.false_eq_true Bool.true_eq_false if_true if_false ite_true ite_false Option.map_some Option.bind_some List.getElem?_cons_zero List.getElem?_cons_succ Bool.not_true Bool.not_false beq_self_eq_true Bool.true_beq Bool.false_beq decide_true decide_false List.drop_zero List.drop_succ_cons List.take_succ_cons List.take_zero List.nil_append List.cons_append and_true true_and Bool.and_self Int.toNat_natCast List.getElem?_append_left List.set_append_left List.getElem?_set_self List.getElem?_set_ne ne_eq not_false_eq_true List.length_map List.getElem?_map Nat.zero_add List.length_set List.set_set Option.isSome_some Option.isSome_none Option.getD_some Option.getD_none or_true true_or or_self or_false false_or and_self List.length_cons List.length_nil List.take_length Bool.or_true Bool.true_or Bool.or_false Bool.false_or Bool.and_true Bool.true_and Bool.and_false Bool.false_and Prod.mk.injEq Option.some.injEq
end Go.Vm
namespace Go.Vm
def abI (r:Option (V×Hp)) (h:Hp):Option (V×Hp):=
 match r with
 | some (v,h')=> match bA h.length h' v with
   | some v'=> some (v',h'.take h.length)
   | none=> none
 | none=> none
def abJ (vs:List V) (h:Hp):Option (V×Hp):=abI (dO vs h) h
end Go.Vm
namespace Go.Vm
variable {cf : CF} {base : Nat}
theorem q5z {p:Bool} {a b:C} {e:Env} {h:Hp} {Q:bS} (h1:p=true→wp cf base a e h Q) (h2:p=false→wp cf base b e h Q):wpC cf base (.s (.bool p)) a b e h Q:=by
 rw[Lb];split
 ·exact h1 (by assumption)
 ·exact h2 (by simpa using (by assumption:¬p=true))
theorem q3z {p:Bool} {g:G} {gs:List G} {e:Env} {h:Hp} {Q:bS} (h1:p=true→Hy cf base (some true) g gs e h Q) (h2:p=false→Hy cf base (some false) g gs e h Q):Hy cf base (some (p==true)) g gs e h Q:=by
 cases p
 ·exact h2 rfl
 ·exact h1 rfl
theorem q4z {p:Bool} {g:G} {gs:List G} {e:Env} {h:Hp} {Q:bS} (h1:p=true→Hy cf base (some false) g gs e h Q) (h2:p=false→Hy cf base (some true) g gs e h Q):Hy cf base (some (p==false)) g gs e h Q:=by
 cases p
 ·exact h2 rfl
 ·exact h1 rfl
theorem q2z {p:Bool} (h:(!p)=true):p=false:=by cases p <;> simp_all
theorem q1z {p:Bool} (h:(!p)=false):p=true:=by cases p <;> simp_all
def OS (n:Nat) (r:Option (Option Nat×List V)) (g:Option Nat) (off len aB:Nat):Option V:=
 match r with
 | some (g',es)=> if g'=g∧off+len≤aB∧V.low.all n ((es.drop off).take len)=true then some (.al false g ((es.drop off).take len)) else none
 | none=> none
theorem Av (n:Nat) (h:Hp) (id:Nat) (g:Option Nat) (off len aB:Nat):bA n h (.ref id [] g off len aB)=if id < n then some (.ref id [] g off len aB) else OS n (rowOf h id aB) g off len aB:=by
 simp only[bA];split <;> rfl
theorem vd (n:Nat) {vs:List V} (hp:V.plain.all vs=true):V.low.all n vs=true:=by
 rw[cu] at hp
 induction vs with
 | nil=> rfl
 | cons v vs ih=> simp only[V.low.all,xe n v (hp v (by simp)),ih (fun x hx=> hp x (by simp[hx])),afx]
theorem tv (n:Nat) (l:List UInt8):OS n (some (none,l.map aa)) none 0 l.length l.length=some (.al false none (l.map aa)):=by
 have h1:(l.map aa).take l.length=l.map aa:=ack (by simp)
 have h2:V.low.all n (l.map aa)=true:=vd n (bO l)
 simp[OS,h1,h2]
theorem Aw (n k:Nat):(n+k < n)=False:=by simp
theorem OT (n:Nat):(n < n)=False:=by simp
theorem Fi {cf:CF} {base:Nat} {h:Hp} {f:Bool} {l:List UInt8} (cC:l≠[]) (hl:l.length≤140737488355328):aC cf base h (.app none 1) [.al true none [],.al f none (l.map aa)]=some (.ref h.length [] none 0 l.length l.length,h++[.cells none (l.map aa)]):=by
 have:=ig (cf:=cf) (base:=base) (h:=h) (g:=none) (bytes:=1) (y:= .al f none (l.map aa)) (ys:=l.map aa) rfl (by simpa using cC) (by simpa using hl)
 simpa using this
theorem L4 {cf:CF} {base:Nat} {h:Hp} {f:Bool} {g:Option Nat} {n:Nat}:aC cf base h (.app g n) [.al true g [],.al f g []]=some (.al true g [],h):=g9 (n:=0) rfl rfl
theorem lL (g:Option Nat) (h:Hp):NQ (some []) g h=some (.al true g [],h):=by simp[NQ]
theorem L5 (b:UInt8):(aa b).ty=none:=rfl
theorem L6 (b:UInt8):(aa b).aA=true:=rfl
attribute [go_sem] lL L5 L6 Av tv Aw OT L4
def bt (n:Int):UInt8:=UInt8.ofNat (n % 256).toNat
theorem lz (n:Int):V.s (.int .u8 (IntKind.u8.wrap n))=aa (bt n):=by
 have h1:IntKind.u8.wrap n=n % 256:=by simp[IntKind.wrap,IntKind.bits,IntKind.signed]
 have h2:((bt n).toNat:Int)=n % 256:=by
   have h0:=afH n (show (256:Int)≠0 by decide)
   have h3:=afk n (show (0:Int)< 256 by decide)
   simp only[bt,aeV]
   omega
 rw[h1,←h2];rfl
def fC (g:Option Nat) (by_:Nat):List V→Hp→Option (V×Hp)
 | [x,.s (.int .i64 i),.ref idy [] gy 0 1 1],h=> match rowOf h idy 1 with
   | some (gy',[e])=>
     if gy=g∧gy'=g∧e.ground=true then
      match x with
      | .al true gx []=> if gx=g∧i=0 then some (.ref h.length [] g 0 1 1,h++[.cells g [e]]) else none
      | .ref id [] gx 0 n m=> match rowOf h id m with
        | some (gx',es)=> if gx=g∧gx'=g∧n=m∧id≠idy∧0≤i∧i≤n∧(n+1)* by_≤140737488355328 then some (.ref id [] g 0 (n+1) (n+1),h.set id (.cells g (es.take i.toNat++[e]++es.drop i.toNat))) else none
        | none=> none
      | _=> none
     else none
   | _=> none
 | _,_=> none
theorem BQ {g:Option Nat} {k:Nat} {vs:List V} {h:Hp} {v:V} {h':Hp} (hr:fC g k vs h=some (v,h')) (base:Nat):Kp base h h':=by
 unfold fC at hr
 split at hr
 case h_2=> cases hr
 split at hr
 case h_2=> cases hr
 rename_i hry
 split at hr
 case isFalse=> cases hr
 rename_i hc
 split at hr
 ·split at hr
  ·cases hr;exact Kp.append _ _ _
  ·cases hr
 ·split at hr
  case h_2=> cases hr
  rename_i hrx
  split at hr
  case isFalse=> cases hr
  cases hr
  obtain ⟨h1,h2⟩:=q16z hrx
  intro b hb sI hl
  refine ⟨fun id hid k hk=> ?_,by simp⟩
  rw[ac7] at hk
  split at hk
  ·rename_i he
   subst he
   split at hk
   ·cases hk
    have AB:=hl _ hid _ h1
    simp only[bc.low] at AB ⊢
    rw[eY] at AB ⊢
    intro e he
    rcases acG.1 he with he | he
    ·rcases acG.1 he with he | he
     ·exact AB e (acA he)
     ·simp at he;subst he;exact pF b _ hc.2.2
    ·exact AB e (acY he)
   ·cases hk
  ·exact hl _ hid _ hk
 ·cases hr
def yF :List V→Hp→Option (V×Hp)
 | [x,y],h=> match elems h x,elems h y with
   | some (_,a),some (_,b)=> match bytesOf a,bytesOf b with
     | some l,some m=> some (.s (.int .i64 (Lib.compareBytes l m)),h)
     | _,_=> none
   | _,_=> none
 | _,_=> none
theorem Fp {vs:List V} {h:Hp} {v:V} {h':Hp} (hr:yF vs h=some (v,h')):h'=h:=by
 unfold yF at hr
 split at hr
 ·split at hr
  ·split at hr
   ·cases hr;rfl
   ·cases hr
  ·cases hr
 ·cases hr
def Ul (n:Option V) (t id:Nat) (path:List Nat) (g:Option Nat) (aB:Nat) (h:Hp):Option (V×Hp):=
 match n with
 | some (.arr t' es)=> if t'=t then some (.ref id path g 0 es.length aB,h) else none
 | _=> none
theorem Um {cf:CF} {base:Nat} {h:Hp} (t:Nat) (g:Option Nat) (id:Nat) (p:List Nat) (aB:Nat):aC cf base h (.nU t g false false) [.ptr id p aB]=Ul (node h id p aB) t id p g aB h:=by
 simp only[aC,rB,aO,Ul]
 cases node h id p aB with
 | none=> rfl
 | some v=> cases v <;> simp[cX]
theorem Hh (t':Nat) (es:List V) (t id:Nat) (path:List Nat) (g:Option Nat) (aB:Nat) (h:Hp):Ul (some (.arr t' es)) t id path g aB h=if t'=t then some (.ref id path g 0 es.length aB,h) else none:=rfl
theorem L7 {cf:CF} {base:Nat} {h:Hp} (t:Nat) (g:Option Nat) (es:List V):aC cf base h (.nU t g false false) [.eb (.arr t es)]=some (.al true g es,h):=by
 simp[aC,rB,aO,cX]
def elR (r:Option (List V)) (g:Option Nat) (off len:Nat):Option (Option Nat×List V):=r.map fun es=>(g,(es.drop off).take len)
theorem dP (es:List V) (g:Option Nat) (off len:Nat):elR (some es) g off len=some (g,(es.drop off).take len):=rfl
theorem cK (h:Hp) (id:Nat) (path:List Nat) (g:Option Nat) (off len aB:Nat):elems h (.ref id path g off len aB)=elR (rowAt h id path aB) g off len:=rfl
theorem CO (h:Hp) (f:Bool) (g:Option Nat) (es:List V):elems h (.al f g es)=some (g,es):=rfl
theorem p8 {α β:Type} (f:α→β) (l:List α):(l.map f).take l.length=l.map f:=ack (by simp)
def Je (a b:Option (Option Nat×List V)) (h:Hp):Option (V×Hp):=
 match a,b with
 | some (_,a),some (_,b)=> match bytesOf a,bytesOf b with
   | some l,some m=> some (.s (.int .i64 (Lib.compareBytes l m)),h)
   | _,_=> none
 | _,_=> none
theorem I9 (x y:V) (h:Hp):yF [x,y] h=Je (elems h x) (elems h y) h:=by simp only[yF,Je]
theorem tu (g g':Option Nat) (l m:List UInt8) (h:Hp):Je (some (g,l.map aa)) (some (g',m.map aa)) h=some (.s (.int .i64 (Lib.compareBytes l m)),h):=by
 simp only[Je,j7]
def Un (a:Option (Option Nat×List V)) (h:Hp):Option (V×Hp):=a.bind fun r=>(bytesOf r.2).bind fun l=> j6 (.string ⟨l.toArray⟩) h
theorem RR {cf:CF} {base:Nat} {h:Hp} (x:V):aC cf base h .yp [x]=Un (elems h x) h:=rfl
theorem tn (g:Option Nat) (l:List UInt8) (h:Hp):Un (some (g,l.map aa)) h=some (.s (.string ⟨l.toArray⟩),h):=by
 simp[Un,j7,j6]
attribute [go_sem] Um Hh L7 dP cK CO p8 tu tn
theorem toList_mk (l:List UInt8):(ByteArray.mk l.toArray).toList=l:=by
 rw[ByteArray.toList_eq]
def iW (x:V) (i:Nat):V:=
 match x with
 | .ref id _ _ off _ aB=> .ptr id [off+i] aB
 | .al _ _ es=> .eb (es.getD i .top)
 | _=> .top
theorem SR.get {h:Hp} {x:V} {g:Option Nat} {vs:List V} (hb:SR h x g vs) {i:Nat} {v:V} (hi:vs[i]? =some v):(∃f,x= .al f g vs)∨∃id off aB es,x= .ref id [] g off vs.length aB∧h[id]? =some (.cells g es)∧es.length=aB∧off+vs.length≤aB∧es[off+i]? =some v:=by
 rcases hb with h1 | ⟨id,off,aB,es,rfl,h2,h3,h4,h5⟩
 ·exact .inl h1
 ·refine .inr ⟨id,off,aB,es,rfl,h2,h3,h4,?_⟩
  have hl:=(acj.1 hi).1
  rw[←h5,adL,if_pos hl,ad5] at hi
  exact hi
theorem SR.ck {cf:CF} {base:Nat} {h:Hp} {x:V} {g:Option Nat} {vs:List V} (hb:SR h x g vs) {k:IntKind} {i:Nat} (hi:i < vs.length):aC cf base h (.de g) [x,.s (.int k i)]=some (iW x i,h):=by
 have hv:=aci hi
 have h0:(0:Int)≤i:=by omega
 rcases hb.get hv with ⟨f,rfl⟩ | ⟨id,off,aB,es,rfl,h1,h2,h3,h4⟩
 ·rw[Lv,if_pos h0,acC,hv]
  simp[iW,List.getD,hv]
 ·have h5:(i:Int)< vs.length:=by omega
  simp only[go_sem,h1,h2,if_true,h0,h5,iW,acC,acO,true_and,and_true,and_self]
  have:off+i < es.length:=by omega
  simp[this]
  all_goals omega
theorem SR.fL {cf:CF} {base:Nat} {h:Hp} {x:V} {g:Option Nat} {vs:List V} (hb:SR h x g vs) {i:Nat} {v:V} (hi:vs[i]? =some v) (hv:v.ty=g):aC cf base h (.ld g) [iW x i]=some (v,h):=by
 rcases hb.get hi with ⟨f,rfl⟩ | ⟨id,off,aB,es,rfl,h1,h2,h3,h4⟩
 ·simp only[iW,List.getD,hi,acX,go_sem,hv,if_true]
 ·simp only[iW,go_sem,h1,h2,if_true,h4,hv]
theorem SR.app {h:Hp} {x:V} {g:Option Nat} {vs:List V} (hb:SR h x g vs) (t:Hp):SR (h++t) x g vs:=by
 rcases hb with h1 | ⟨id,off,aB,es,h1,h2,h3⟩
 ·exact .inl h1
 ·exact .inr ⟨id,off,aB,es,h1,q10z h2 t,h3⟩
theorem yU {g:Option Nat} {by_:Nat} {h:Hp} {k n i idy:Nat} {es:List V} {e:V} (hk:h[k]? =some (.cells g es)) (hn:es.length=n) (hy:h[idy]? =some (.cells g [e])) (cC:k≠idy) (hi:i≤n) (hb:(n+1)* by_≤140737488355328) (he:e.ground=true):
 fC g by_ [.ref k [] g 0 n n,.s (.int .i64 i),.ref idy [] g 0 1 1] h=some (.ref k [] g 0 (n+1) (n+1),h.set k (.cells g (es.take i++[e]++es.drop i))):=by
 have h1:rowOf h idy 1=some (g,[e]):=by simp[rowOf,hy]
 have h2:rowOf h k n=some (g,es):=by simp[rowOf,hk,hn]
 have h3:(0:Int)≤i:=by omega
 have h4:(i:Int)≤n:=by omega
 simp only[fC,h1,h2,he,and_self,if_true,ne_eq,cC,not_false_eq_true,true_and,h3,h4,hb,acC]
theorem yT {g:Option Nat} {by_:Nat} {h:Hp} {idy:Nat} {e:V} (hy:h[idy]? =some (.cells g [e])) (he:e.ground=true):
 fC g by_ [.al true g [],.s (.int .i64 0),.ref idy [] g 0 1 1] h=some (.ref h.length [] g 0 1 1,h++[.cells g [e]]):=by
 have h1:rowOf h idy 1=some (g,[e]):=by simp[rowOf,hy]
 simp only[fC,h1,he,and_self,if_true]
theorem SR.fw {h H:Hp} {x:V} {g:Option Nat} {vs:List V} (hb:SR h x g vs) (f:Fw [] h H):SR H x g vs:=by
 rcases hb with h1 | ⟨id,off,aB,es,h1,h2,h3⟩
 ·exact .inl h1
 ·exact .inr ⟨id,off,aB,es,h1,f.db _ _ h2 (by simp),h3⟩
theorem LR.ty {h:Hp} {g:Option Nat} {k:Nat} {x:V} {vs:List V} (hl:LR h g k x vs):x.ty=none∧x.aA=true:=by
 rcases hl with ⟨rfl,_⟩ | ⟨es,rfl,_⟩<;> exact ⟨rfl,rfl⟩
theorem LR.Em {h H T:Hp} {g:Option Nat} {k:Nat} {x:V} {vs:List V} {idy bytes:Nat} {z:V} (hl:LR H g k x vs) (hk:h.length≤k) (f:Fw [] h H) (hy:(H++T)[idy]? =some (.cells g [z])) (hz:z.ground=true) (hb:(vs.length+1)* bytes≤140737488355328):
 ∃x' H' k',(∀cf base,aC cf base (H++T) (.app g bytes) [x,.ref idy [] g 0 1 1]=some (x',H'))∧LR H' g k' x' (vs++[z])∧Fw [] h H'∧h.length≤k':=by
 have hlT:LR (H++T) g k x vs:=hl.at' fun b hb=> q10z hb T
 have hs:source (H++T) (.ref idy [] g 0 1 1)=some (g,[z]):=(ma hy rfl).src
 have hm:∀base,bQ base k z=true:=fun base=> by simp[bQ,hz]
 have fT:Fw [] h (H++T):=f.trans (Fw.app _ _ _)
 rcases hl with ⟨rfl,rfl⟩ | ⟨es,rfl,h1,h2,h3⟩
 ·refine ⟨_,_,(H++T).length,fun cf base=> by rw[ig hs (by simp) (by simpa using hb)];rfl,.inr ⟨[z],rfl,aH _ _,rfl,acm _⟩,fT.trans (Fw.app _ _ _),fT.len⟩
 ·have hkT:=q10z h1 T
  by_cases hr:vs.length+1≤es.length
  ·refine ⟨.ref k [] g 0 (vs.length+1) es.length,(H++T).set k (.cells g (es.take vs.length++[z]++es.drop (vs.length+1))),k,fun cf base=> ?_,.inr ⟨es.take vs.length++[z]++es.drop (vs.length+1),?_,q9z hkT,?_,?_⟩,fT.cP hk _,hk⟩
   ·rw[tl hkT hs (by simp) (by simpa using hm base) (by simpa using hr)]
    simp
   ·have:(es.take vs.length++[z]++es.drop (vs.length+1)).length=es.length:=by simp;omega
    rw[this,aco];rfl
   ·rw[aco,h2];exact afj (l₁:=vs++[z]) (by simp)
   ·simp;omega
  ·have he:vs.length=es.length:=by omega
   have hv:es=vs:=by rw[←h2,ack (by omega)]
   subst hv
   refine ⟨.ref k [] g 0 (es.length+1) (es.length+1),(H++T).set k (.cells g (es++[z])),k,fun cf base=> ?_,.inr ⟨es++[z],by simp,q9z hkT,ack (by simp),by simp⟩,fT.cP hk _,hk⟩
   rw[fM hkT hs (by simp) (by simpa using hm base) (by simpa using hb)]
   rfl
theorem LR.oy {H:Hp} {g:Option Nat} {k n:Nat} {x:V} {vs:List V} (hl:LR H g k x vs) (hk:n≤k) (hp:V.plain.all vs=true):bA n H x=some (.al false g vs):=by
 rcases hl with ⟨rfl,rfl⟩ | ⟨es,rfl,h1,h2,h3⟩
 ·rfl
 ·have h4:rowOf H k es.length=some (g,es):=by simp[rowOf,h1]
  have h5:¬k < n:=by omega
  simp only[Av,h5,if_false,h4,OS,ac2,h2,acU,h3,vd n hp,and_self,if_true]
def tY (x:V) (i f:Nat):V:=
 match x with
 | .ref id _ _ off _ aB=> .ptr id [off+i,f] aB
 | .al _ _ es=> match es.getD i .top with
   | .st _ fs=> .eb (fs.getD f .top)
   | _=> .top
 | _=> .top
theorem SR.qO {cf:CF} {base:Nat} {h:Hp} {x:V} {g:Option Nat} {vs:List V} (hb:SR h x g vs) {i t f:Nat} {fs:List V} (hi:vs[i]? =some (.st t fs)) (hf:f < fs.length):aC cf base h (.fa t f) [iW x i]=some (tY x i f,h):=by
 have hv:=aci hf
 rcases hb.get hi with ⟨f',rfl⟩ | ⟨id,off,aB,es,rfl,h1,h2,h3,h4⟩
 ·simp only[iW,tY,List.getD,hi,acX,go_sem,hv,acO]
 ·simp only[iW,tY,go_sem,h1,h2,if_true,h4,hf]
  try simp[hf]
theorem SR.vP {cf:CF} {base:Nat} {h:Hp} {x:V} {g g':Option Nat} {vs:List V} (hb:SR h x g vs) {i t f:Nat} {fs:List V} {w:V} (hi:vs[i]? =some (.st t fs)) (hf:fs[f]? =some w) (hw:w.ty=g'):aC cf base h (.ld g') [tY x i f]=some (w,h):=by
 rcases hb.get hi with ⟨f',rfl⟩ | ⟨id,off,aB,es,rfl,h1,h2,h3,h4⟩
 ·simp only[tY,List.getD,hi,hf,acX,go_sem,hw,if_true]
 ·simp only[tY,go_sem,h1,h2,if_true,h4,hf,hw]
def slP (x:V) (i f:Nat) (g:Option Nat) (n:Nat):V:=
 match x with
 | .ref id _ _ off _ aB=> .ref id [off+i,f] g 0 n aB
 | .al _ _ es=> match es.getD i .top with
   | .st _ fs=> match fs.getD f .top with
     | .arr _ es=> .al true g es
     | _=> .top
   | _=> .top
 | _=> .top
theorem SR.yN {cf:CF} {base:Nat} {h:Hp} {x:V} {g g':Option Nat} {vs:List V} (hb:SR h x g vs) {i t f t':Nat} {fs es':List V} (hi:vs[i]? =some (.st t fs)) (hf:fs[f]? =some (.arr t' es')):aC cf base h (.nU t' g' false false) [tY x i f]=some (slP x i f g' es'.length,h):=by
 rcases hb.get hi with ⟨f',rfl⟩ | ⟨id,off,aB,es,rfl,h1,h2,h3,h4⟩
 ·simp only[tY,slP,List.getD,hi,hf,acX,L7]
 ·simp only[tY,slP,go_sem,h1,h2,if_true,h4,hf]
theorem lC {h:Hp} {x:V} {g g':Option Nat} {vs:List V} (hb:SR h x g vs) {i t f t':Nat} {fs es':List V} (hi:vs[i]? =some (.st t fs)) (hf:fs[f]? =some (.arr t' es')):elems h (slP x i f g' es'.length)=some (g',es'):=by
 rcases hb.get hi with ⟨f',rfl⟩ | ⟨id,off,aB,es,rfl,h1,h2,h3,h4⟩
 ·simp only[slP,List.getD,hi,hf,acX,go_sem]
 ·simp only[slP,go_sem,h1,h2,if_true,h4,hf,ac2,adN]
def XR (h:Hp) (g:Option Nat) (k:Nat) (x:V) (vs:List V):Prop:=(x= .al true g []∧vs=[])∨(x= .ref k [] g 0 vs.length vs.length∧h[k]? =some (.cells g vs))
theorem XR.ty {h:Hp} {g:Option Nat} {k:Nat} {x:V} {vs:List V} (hl:XR h g k x vs):x.ty=none∧x.aA=true:=by
 rcases hl with ⟨rfl,_⟩ | ⟨rfl,_⟩<;> exact ⟨rfl,rfl⟩
theorem XR.Em {h H T:Hp} {g:Option Nat} {k:Nat} {x:V} {vs:List V} {idy bytes:Nat} {z:V} (hl:XR H g k x vs) (hk:h.length≤k) (f:Fw [] h H) (hy:(H++T)[idy]? =some (.cells g [z])) (hz:z.ground=true) (hb:(vs.length+1)* bytes≤140737488355328):
 ∃x' H' k',(∀cf base,aC cf base (H++T) (.app g bytes) [x,.ref idy [] g 0 1 1]=some (x',H'))∧XR H' g k' x' (vs++[z])∧Fw [] h H'∧(k'=k∨H.length+T.length≤k')∧(∀j b,j≠k→(H++T)[j]? =some b→H'[j]? =some b):=by
 have hs:source (H++T) (.ref idy [] g 0 1 1)=some (g,[z]):=(ma hy rfl).src
 have hm:∀base,bQ base k z=true:=fun base=> by simp[bQ,hz]
 have fT:Fw [] h (H++T):=f.trans (Fw.app _ _ _)
 rcases hl with ⟨rfl,rfl⟩ | ⟨rfl,h1⟩
 ·exact ⟨_,_,(H++T).length,fun cf base=> by rw[ig hs (by simp) (by simpa using hb)];rfl,.inr ⟨rfl,aH _ _⟩,fT.trans (Fw.app _ _ _),.inr (by simp),fun j b _ hj=> q10z hj _⟩
 ·have hkT:=q10z h1 T
  refine ⟨.ref k [] g 0 (vs.length+1) (vs.length+1),(H++T).set k (.cells g (vs++[z])),k,fun cf base=> ?_,.inr ⟨by simp,q9z hkT⟩,fT.cP hk _,.inl rfl,fun j b hj hb'=> by rw[acp (adY hj)];exact hb'⟩
  ·rw[fM hkT hs (by simp) (by simpa using hm base) (by simpa using hb)]
   rfl
theorem Ba {cf:CF} {base:Nat} {h:Hp} {g:Option Nat} {id n r:Nat} {es:List V} {k:IntKind} (hg:h[id]? =some (.cells g es)) (hn:es.length=n) (hr:r≤n):aC cf base h (.j2 g false true false) [.ref id [] g 0 n n,.s (.int k r)]=some (.ref id [] g 0 r n,h):=by
 simp[aC,gV,fj,aO,cX,dH,Vm.rowAt,rowOf,hg,hn,hr]
end Go.Vm
namespace Go.Vm
def bY :List UInt8:=[0,0,0,0,0,0,0,0,0,0,0,0,0,0,0,0]
def C4 :List UInt8:=[0,0,0,0]
abbrev bC (t:Nat):V:= .arr t (bY.map aa)
abbrev z4 (t:Nat):V:= .arr t (C4.map aa)
abbrev ga (d:Nat) (o:O) (xs:List X):G:=⟨some d,o,xs,none⟩
abbrev gm (d s:Nat):G:=⟨some d,.mv,[.t s],none⟩
abbrev gn (o:O) (xs:List X):G:=⟨none,o,xs,none⟩
abbrev gw (t:Nat) (b:Bool) (d:Nat) (o:O) (xs:List X):G:=⟨some d,o,xs,some (t,b)⟩
abbrev gl (l h:Nat) (g:G):GD:=⟨g,l,h⟩
abbrev kc (n:Int):X:= .c (.s (.int .i64 n))
abbrev kb (b:Bool):X:= .c (.s (.bool b))
abbrev ki :V:= .s (.int .i64 0)
abbrev ku :V:= .s (.int .u64 0)
abbrev kx :V:= .al false none []
theorem Fw.xj {h H:Hp} (hl:h.length≤H.length) (ho:∀(j:Nat) (b:bc),h[j]? =some b→H[j]? =some b):Fw [] h H:=
 ⟨hl,fun j b hj _=> ho j b hj,fun j l hj=> ho j _ hj⟩
theorem Fw.trans' {h H H':Hp} {n k:Nat} (f:Fw [] h H) (hl:H.length≤H'.length) (ho:∀(j:Nat) (b:bc),j≠k→H[j]? =some b→H'[j]? =some b) (hk:h.length+n≤k):Fw [] h H':=
 Fw.xj (acN f.len hl) fun j b hj=> by
   have:=q6z hj
   exact ho j b (by omega) (f.db j b hj (by simp))
theorem XR.set {h:Hp} {g:Option Nat} {k j:Nat} {x:V} {vs:List V} (hl:XR h g k x vs) (hj:j≠k) (b:bc):XR (h.set j b) g k x vs:=by
 rcases hl with h1 | ⟨h1,h2⟩
 ·exact .inl h1
 ·exact .inr ⟨h1,by rw[acp hj];exact h2⟩
theorem XR.BR {h:Hp} {k:Nat} {x:V} {l:List UInt8} (hl:XR h none k x (l.map aa)):BR h x l:=by
 rcases hl with ⟨rfl,h0⟩ | ⟨rfl,h0⟩
 ·have:l=[]:=by simpa using h0
  subst this;exact pg _ _
 ·exact di h0 (by simp)
theorem XR.SR {h:Hp} {g:Option Nat} {k:Nat} {x:V} {vs:List V} (hl:XR h g k x vs):SR h x g vs:=by
 rcases hl with ⟨rfl,rfl⟩ | ⟨rfl,h1⟩
 ·exact .inl ⟨_,rfl⟩
 ·exact .inr ⟨k,0,vs.length,vs,rfl,h1,rfl,by simp,by simp⟩
theorem XR.mono {h H:Hp} {g:Option Nat} {k:Nat} {x:V} {vs:List V} (hl:XR h g k x vs) (hk:∀b,h[k]? =some b→H[k]? =some b):XR H g k x vs:=by
 rcases hl with h1 | ⟨h1,h2⟩
 ·exact .inl h1
 ·exact .inr ⟨h1,hk _ h2⟩
theorem XR.nil (h:Hp) (g:Option Nat) (k:Nat):XR h g k (.al true g []) []:= .inl ⟨rfl,rfl⟩
theorem XR.oy {H:Hp} {g:Option Nat} {k n:Nat} {x:V} {vs:List V} (hl:XR H g k x vs) (hk:n≤k) (hp:V.plain.all vs=true):bA n H x=some (.al false g vs):=by
 rcases hl with ⟨rfl,rfl⟩ | ⟨rfl,h1⟩
 ·exact xI n H true g [] rfl
 ·exact yn n H k g _ vs hk h1 rfl hp
theorem XR.Mt {n:Nat} {H:Hp} {g:Option Nat} {k:Nat} {x y:V} {vs ys:List V} {bytes:Nat} (xr:XR H g k x vs) (hk:n≤k) (hm:n≤H.length) (hs:source H y=some (g,ys)) (hz:∀z∈ys,z.ground=true) (hb:(vs.length+ys.length)* bytes≤140737488355328):
 ∃x' H' k',(∀cf base,aC cf base H (.app g bytes) [x,y]=some (x',H'))∧XR H' g k' x' (vs++ys)∧n≤k'∧n≤H'.length∧(k'=k∨H.length≤k')∧H.length≤H'.length∧(∀j b,j≠k→H[j]? =some b→H'[j]? =some b):=by
 by_cases cC:ys=[]
 ·subst cC
  refine ⟨x,H,k,fun cf base=> g9 hs xr.SR.len,by simpa using xr,hk,hm,.inl rfl,acm _,fun _ _ _ h=> h⟩
 ·have hma:∀base,∀z∈ys,bQ base k z=true:=fun base z h=> by simp[bQ,hz z h]
  rcases xr with ⟨rfl,rfl⟩ | ⟨rfl,h1⟩
  ·exact ⟨_,H++[.cells g ys],H.length,fun cf base=> ig hs cC (by simpa using hb),.inr ⟨rfl,aH _ _⟩,hm,by simp;omega,.inr (acm _),by simp,fun j b _ hj=> q10z hj _⟩
  ·refine ⟨_,H.set k (.cells g (vs++ys)),k,fun cf base=> fM h1 hs cC (hma base) hb,.inr ⟨by simp,q9z h1⟩,hk,by simpa using hm,.inl rfl,by simp,fun j b hj hb'=> by rw[acp (adY hj)];exact hb'⟩
theorem XR.tC {n:Nat} {H:Hp} {g:Option Nat} {k m:Nat} {x:V} {vs ys:List V} {bytes:Nat} (xr:XR H g k x vs) (hk:n≤k) (hm:n≤H.length) (hl:ys.length=m) (hz:∀z∈ys,z.ground=true) (hb:(vs.length+ys.length)* bytes≤140737488355328) (bR:∀b,H[k]? =some b→k < H.length:=fun _ h=> q6z h):
 ∃x' H' k',(∀cf base,aC cf base (H++[.cells g ys]) (.app g bytes) [x,.ref H.length [] g 0 m m]=some (x',H'))∧XR H' g k' x' (vs++ys)∧n≤k'∧n≤H'.length∧(k'=k∨H.length≤k')∧H.length≤H'.length∧(∀j b,j≠k→H[j]? =some b→H'[j]? =some b):=by
 have hs:source (H++[.cells g ys]) (.ref H.length [] g 0 m m)=some (g,ys):=(ma (aH _ _) hl).src
 obtain ⟨x',H',k',h1,h2,h3,h4,h5,h6,h7⟩:=(xr.mono (H:=H++[.cells g ys]) fun b hb=> q10z hb _).Mt hk (by simp;omega) hs hz hb
 refine ⟨x',H',k',h1,h2,h3,h4,?_,by simp at h6;omega,fun j b hj hb=> h7 j b hj (q10z hb _)⟩
 rcases h5 with h5 | h5
 ·exact .inl h5
 ·exact .inr (by simp at h5;omega)
end Go.Vm
namespace Go.Vm
def pj (x:V) (g:Option Nat) (l r:Nat):V:=
 match x with
 | .al full _ es=> .al (full && r==es.length) g ((es.drop l).take (r - l))
 | .ref id path _ off _ aB=> if l=0∨l < r then .ref id path g (off+l) (r - l) aB else .al false g []
 | x=> x
theorem SR.pj {h:Hp} {x:V} {g:Option Nat} {vs:List V} (hb:SR h x g vs) {l r:Nat} (h1:l≤r) (h2:r≤vs.length):dH h g x l r=some (pj x g l r)∧SR h (Vm.pj x g l r) g ((vs.drop l).take (r - l)):=by
 obtain ⟨y,e,hy⟩:=hb.cut h1 h2
 suffices hh:dH h g x l r=some (Vm.pj x g l r) by
   rw[e] at hh;cases hh;exact ⟨e,hy⟩
 rcases hb with ⟨f,rfl⟩ | ⟨id,off,aB,es,rfl,k2,k3,k4,k5⟩
 ·simp[dH,Vm.pj,h1,h2]
 ·have cE:rowAt h id [] aB=some es:=by simp[rowAt,rowOf,k2,k3]
  by_cases hl:l=0∨l < r
  ·simp[dH,Vm.pj,h1,h2,cE,hl]
  ·simp[dH,Vm.pj,h1,h2,cE,hl]
theorem SR.aa7 {cf:CF} {base:Nat} {h:Hp} {x:V} {g:Option Nat} {vs:List V} (hb:SR h x g vs) {k:IntKind} {r:Nat} (hr:r≤vs.length):aC cf base h (.j2 g false true false) [x,.s (.int k r)]=some (Vm.pj x g 0 r,h):=by
 have h3:=hb.len
 simp only[aC,gV,h3,aO,cX]
 simp[(hb.pj (ae1 r) hr).1]
theorem SR.RS {cf:CF} {base:Nat} {h:Hp} {x:V} {g:Option Nat} {vs:List V} (hb:SR h x g vs) {k:IntKind} {l:Nat} (hr:l≤vs.length):aC cf base h (.j2 g true false false) [x,.s (.int k l)]=some (Vm.pj x g l vs.length,h):=by
 have h3:=hb.len
 simp only[aC,gV,h3,aO,cX]
 simp[(hb.pj hr (acm _)).1]
theorem SR.loR {h:Hp} {x:V} {g:Option Nat} {vs:List V} (hb:SR h x g vs) {l:Nat} (hr:l≤vs.length):SR h (Vm.pj x g l vs.length) g (vs.drop l):=by
 have:=(hb.pj hr (acm _)).2
 rwa [ack (by simp)] at this
end Go.Vm
