/- An abstract machine for loaded programs, part 3: what it computes is what Go computes. Conditions: none. -/
import Derived.Test.YtannfageakbpmaaGreatCVb
import Derived.Laws.Sem
import Derived.SizedLaws
import Derived.IntWalk
import Derived.Lib.Bytealg
set_option linter.unusedSimpArgs false
set_option linter.unusedVariables false
set_option linter.unusedSectionVars false
namespace Go.Vm
variable {P : Program} {obj : Nat → Bool} {L : cq}
def wB (P:Program):List ResultVar→Option (List Rs)
 | []=> some []
 | .tmp t::rs=>(wB P rs).map (.t t:: ·)
 | .cell a t::rs=> if nQ P t=true then (wB P rs).map (.cell a (aC P t):: ·) else none
def bH (P:Program) (obj:Nat→Bool) (fn:Func) (pure:Bool):Option Fn:=
 match fn.body with
 | some code=> match gd P obj code,wB P fn.results.toList with
   | some k,some rs=> if (fn.name== "runtime.NumGoroutine")=false then some ⟨fn.ntmps,k,rs,pure⟩ else none
   | _,_=> none
 | none=> none
theorem yz {fn:Func} {F:Fn} {pure:Bool} (h:bH P obj fn pure=some F):∃code,fn.body=some code∧gd P obj code=some F.body∧wB P fn.results.toList=some F.res∧(fn.name== "runtime.NumGoroutine")=false∧F.nt=fn.ntmps:=by
 unfold bH at h
 split at h
 case h_2=> cases h
 rename_i code hb
 split at h
 case h_2=> cases h
 rename_i k rs hk hr
 split at h
 case isFalse=> cases h
 rename_i hn
 cases h
 exact ⟨code,hb,hk,hr,hn,rfl⟩
def vi (tmps:Array Value):ResultVar→Sem Value
 | .tmp t=> pure (tmps.getD t undef)
 | .cell x t=> do loadVar t (←asAddr (tmps.getD x undef))
theorem AV (fn:Func) (tmps:Array Value):results fn tmps=(do let vs ←fn.results.mapM (vi tmps);pure (if h:vs.size=1 then vs[0] else .tuple vs)):=by
 unfold results
 congr 2
theorem wC (hL:(ak P).OK) {c:Ctx} {h:Hp} {w:World} {fr:Fr} {a:Act} (hf:RF (ak P) c fr a) (hs:bc (ak P) c h w):
 ∀ {rvs:List ResultVar} {rs:List Rs},wB P rvs=some rs→∀ {vs:List V},jV fr h rs=some vs→
   ∃us:List Value,(rvs.mapM (vi a.tmps)).run P w= .ok us w∧fC (ak P) c vs us
 | [],rs,hc,vs,hv=> by
   simp only[wB,Option.some.injEq] at hc
   subst hc
   simp only[jV,Option.some.injEq] at hv
   subst hv
   exact ⟨[],rfl,trivial⟩
 | .tmp t::rvs,rs,hc,vs,hv=> by
   simp only[wB] at hc
   obtain ⟨rs',Da,rfl⟩:=Option.map_eq_some_iff.1 hc
   simp only[jV,Lm] at hv
   split at hv
   case h_2=> cases hv
   rename_i v vs' hv1 hv2
   cases hv
   cases hv1
   obtain ⟨us,h1,h2⟩:=wC hL hf hs Da hv2
   have hx:RV (ak P) c (fr.getD t (.bI [])) (a.tmps.getD t undef):=q23z (P:=P) (t:=0) hf (o:= .tmp t) (x:= .t t) rfl
   refine ⟨a.tmps.getD t undef::us,?_,hx,h2⟩
   rw[List.mapM_cons]
   simp only[vi,Sem.run_bind,Sem.run_pure,Result.andThen_ok,h1]
 | .cell x t::rvs,rs,hc,vs,hv=> by
   simp only[wB] at hc
   split at hc
   case isFalse=> cases hc
   rename_i je
   obtain ⟨rs',Da,rfl⟩:=Option.map_eq_some_iff.1 hc
   simp only[jV,Lm] at hv
   split at hv
   case h_2=> cases hv
   rename_i v vs' hv1 hv2
   cases hv
   obtain ⟨⟨v0,h0⟩,ah,he⟩:=Option.map_eq_some_iff.1 hv1
   simp only at he
   subst he
   obtain ⟨us,h1,h2⟩:=wC hL hf hs Da hv2
   have hx:RV (ak P) c (fr.getD x (.bI [])) (a.tmps.getD x undef):=q23z (P:=P) (t:=0) hf (o:= .tmp x) (x:= .t x) rfl
   have hh0:h0=h:=Ws ah
   subst hh0
   obtain ⟨u,c',w',hr,jC,dh,hle,aR⟩:=No (P:=P) hL hs (cB je) hx ah
   have IA:∃u,(vi a.tmps (.cell x t)).run P w= .ok u w∧RV (ak P) c v0 u:=by
     simp only[re] at ah
     split at ah
     ·rename_i id path aw Au
      split at ah
      case h_2=> cases ah
      rename_i y hn
      split at ah
      case isFalse=> cases ah
      rename_i Cc
      simp only[Option.some.injEq,Prod.mk.injEq] at ah
      obtain ⟨rfl,_⟩:=ah
      obtain ⟨l,o,us,ty,fz,hl,ht,ho,hg,df,hle,hr⟩:=hs.node hL hn
      have DS:=iV (Au ▸ hx) hl ht ho
      obtain ⟨u,bb,hv⟩:=fQ (P:=P) hL (ty:=t) (by rw[Cc];exact cB je) hg hr
      refine ⟨u,?_,hv⟩
      simp only[vi]
      rw[DS]
      simpa[asAddr] using bb
     ·rename_i y Au
      split at ah
      case isFalse=> cases ah
      rename_i Cc
      simp only[Option.some.injEq,Prod.mk.injEq] at ah
      obtain ⟨rfl,_⟩:=ah
      obtain ⟨b,off,cs,ty,fz,DS,hz,hr⟩:=fR.1 (Au ▸ hx)
      obtain ⟨u,bb,hv⟩:=fQ (P:=P) hL (ty:=t) (by rw[Cc];exact cB je) (hs.z _ _ hz) hr
      refine ⟨u,?_,hv⟩
      simp only[vi]
      rw[DS]
      simpa[asAddr] using bb
     ·cases ah
   obtain ⟨u,hu,jC⟩:=IA
   refine ⟨u::us,?_,jC,h2⟩
   rw[List.mapM_cons,Sem.run_bind,hu]
   simp only[Result.andThen_ok,Sem.run_bind,h1,Sem.run_pure]
theorem lZ (hL:(ak P).OK) {c:Ctx} {h:Hp} {w:World} {fr:Fr} {a:Act} (hf:RF (ak P) c fr a) (hs:bc (ak P) c h w) {fn:Func} {rs:List Rs} (hc:wB P fn.results.toList=some rs) {vs:List V} (hv:jV fr h rs=some vs):
 ∃u,(results fn a.tmps).run P w= .ok u w∧RV (ak P) c (oB vs) u:=by
 obtain ⟨us,h1,h2⟩:=wC hL hf hs hc hv
 rw[AV,Array.mapM_eq_mapM_toList]
 simp only[Sem.run_bind,map_eq_pure_bind,h1,Result.andThen_ok,Sem.run_pure]
 refine ⟨_,rfl,?_⟩
 match vs,us,h2 with
 | [v],[u],h2=> exact h2.1
 | [],[],h2=> exact cx.2 ⟨[],rfl,trivial⟩
 | v::v'::vs,u::u'::us,h2=> exact cx.2 ⟨u::u'::us,rfl,h2⟩
 | [_],_::_::_,h2=> exact h2.2.elim
 | _::_::_,[_],h2=> exact h2.2.elim
def rL (P:Program) (fns:Nat→Option Fn):Prop:=∀f F,fns f=some F→∃fn obj,P.funcs[f]? =some fn∧bH P obj fn F.pure=some F
theorem tR {c:Ctx} (n:Nat):fC L c (List.replicate n (.bI [])) (List.replicate n undef):=by
 induction n with
 | zero=> trivial
 | succ n ih=> exact ⟨cx.2 ⟨[],rfl,trivial⟩,ih⟩
theorem Q0 {c:Ctx} {F:Fn} {args:List V} {us:List Value} (h:fC L c args us):RF L c (lL F args) {tmps:=us.toArray++Array.replicate (F.nt - us.toArray.size) undef,defers:=[]}:=by
 simp only[RF,lL,Array.toList_append,Array.toList_replicate,List.size_toArray,fC.length h]
 exact oF h (tR _)
theorem yA (hL:(ak P).OK) {fn:Func} {f:Nat} {F:Fn} (hfn:P.funcs[f]? =some fn) (hF:bH P obj fn F.pure=some F) {cf:Nat→Nat→List V→Hp→Option (V×Hp)} (fj:∀base,cy P (ak P) (cf base)) (hkp:∀base,KpF base (cf base))
 {base:Nat} {args:List V} {h:Hp} {v:V} {h':Hp} (hr:ke cf base F args h=some (v,h')) {c:Ctx} {w:World} {us:List Value} (ha:fC (ak P) c args us) (hs:bc (ak P) c h w):eQ P (ak P) c w f us v h':=by
 obtain ⟨code,hb,Ny,LC,_,hnt⟩:=yz hF
 refine calls_of_wp hfn hb ?_
 rw[←hnt]
 have hrf:=Q0 (F:=F) ha
 unfold ke at hr
 split at hr
 ·-- pure
  split at hr
  ·cases hr
  ·rename_i e fr1 h1 cD hx
   split at hr
   case h_2=> cases hr
   rename_i vs sa
   split at hr
   case h_2=> cases hr
   rename_i v' df
   cases hr
   refine nY hL (fj h.length) Ny hrf hs hx ?_
   intro a1 c1 w1 p1 p2 p3 p4 p5
   have hn:h.length≤c1.n:=by rw[←hs.n];exact p3.n
   have QZ:Cu h.length h1:=(wx (hkp h.length) F.body hx h.length (Nat.le_refl _) (Nat.le_refl _) hs.low).1
   obtain ⟨u,hu1,yW⟩:=lZ hL p1 p2 LC sa
   obtain ⟨us1,hu3,hu4⟩:=yW
   obtain ⟨f1,f2,f3,f4⟩:=QY hL p2 hn _ _ df
   have hR:∃u' c',Ending.returned u= .returned u'∧RV (ak P) c' v u'∧bc (ak P) c' (h1.take h.length) w1∧c.le c'∧St w w1:=by
     refine ⟨u,c1.cut h.length w1,rfl,⟨us1,f4 _ hu3,f3 _ _ hu4⟩,p2.cut hn QZ,?_,p4⟩
     have:=Ctx.QX (w:=w1) p3
     rw[hs.n] at this
     exact this
   cases e with
   | normal=> exact ⟨p5,u,hu1,hR⟩
   | ret=> exact ⟨p5,u,hu1,hR⟩
   | exit id=> exact (cD id rfl).elim
  ·cases hr
 ·split at hr
  ·cases hr
  ·rename_i e fr1 h1 cD hx
   split at hr
   case h_2=> cases hr
   rename_i vs sa
   cases hr
   refine nY hL (fj base) Ny hrf hs hx ?_
   intro a1 c1 w1 p1 p2 p3 p4 p5
   obtain ⟨u,hu1,yW⟩:=lZ hL p1 p2 LC sa
   cases e with
   | normal=> exact ⟨p5,u,hu1,u,c1,rfl,yW,p2,p3,p4⟩
   | ret=> exact ⟨p5,u,hu1,u,c1,rfl,yW,p2,p3,p4⟩
   | exit id=> exact (cD id rfl).elim
  ·cases hr
theorem vj (hL:(ak P).OK) {fns:Nat→Option Fn} {pr:Nat→List V→Hp→Option (V×Hp)} (hf:rL P fns) (hp:cy P (ak P) pr) (hkp:KpP pr):∀(d base:Nat),cy P (ak P) (den fns pr d base)
 | 0,base=> fun f vs h v h' hr=> by simp[den] at hr
 | d+1,base=> fun f vs h v h' hr=> by
   simp only[den] at hr
   split at hr
   ·rename_i F hF
    obtain ⟨fn,_,hfn,hc⟩:=hf f F hF
    obtain ⟨code,hb,_,_,WE,_⟩:=yz hc
    refine ⟨⟨fn,hfn,by rw[hb];rfl,WE⟩,fun c w us ha hs=> ?_⟩
    exact yA hL hfn hc (fun base=> vj hL hf hp hkp d base) (fun base=> I8 hkp d base) hr ha hs
   ·exact hp f vs h v h' hr
end Go.Vm
namespace Go.Vm
variable {P : Program}
def gF (P:Program):Nat→TypeId→Bool
 | 0,_=> false
 | n+1,t=> nQ P t && match P.underlying t with
   | some .bool=> true
   | some (.int _)=> true
   | some .string=> true
   | some (.slice e)=> nQ P e && decide (0 < P.cellsOf e)&& gF P n e
   | some (.struct fs)=> decide ((ak P).fields (P.underlyingId t)=some (fs.toList.map fun f=> aC P f.type))&&(P.cellsOf t==(fs.toList.map fun f=> P.cellsOf f.type).sum)&&
       (List.range fs.size).all (fun i=> match fs[i]? with | some f=> f.offset==((fs.toList.take i).map fun f=> P.cellsOf f.type).sum | none=> false)&& fs.toList.all fun f=> nQ P f.type && gF P n f.type
   | some (.array k e)=> decide ((ak P).arr (P.underlyingId t)=some (k,aC P e))&&(P.cellsOf t==k * P.cellsOf e)&& nQ P e && gF P n e
   | _=> false
def bR (P:Program):Nat→TypeId→V→Prop
 | 0,_,_=> False
 | n+1,t,v=> match P.underlying t with
   | some .bool=>∃b,v= .s (.bool b)
   | some (.int k)=>∃m,v= .s (.int k m)∧k.min≤m∧m≤k.max
   | some .string=>∃s,v= .s (.string s)∧s.size≤140737488351232
   | some (.slice e)=>∃es,v= .al false (aC P e) es∧es.length * P.bytesOf e≤140737488351232∧es.length≤9223372036854775807∧∀x∈es,bR P n e x
   | some (.struct fs)=>∃vs,v= .st (P.underlyingId t) vs∧vs.length=fs.size∧∀(i:Nat) (f:Field) (x:V),fs[i]? =some f→vs[i]? =some x→bR P n f.type x
   | some (.array k e)=>∃es,v= .arr (P.underlyingId t) es∧es.length=k∧∀x∈es,bR P n e x
   | _=> False
def eY (w:World):Ctx:= {z:=fun b=>(w.heap[b]?).map kept,loc:=fun _=> none,n:=0}
theorem I9 (L:cq) (w:World):bc L (eY w) [] w where
 z b o hb:=by
   obtain ⟨x,hx,rfl⟩:=Option.map_eq_some_iff.1 hb
   rw[hx,uV]
 n:=rfl
 loc id l hl:=by cases hl
 live id k hk:=by simp at hk
 inj i j li lj hi:=by cases hi
theorem AW {w:World} {b:Nat} {us:Array Value} {ty:TypeId} {fz:Nat×Nat} (h:w.heap[b]? =some (.cells us ty fz)):(eY w).z b=some (.cells us ty fz):=by simp[eY,h,kept]
theorem yB {t:TypeId} (h:nQ P t=true):P.cellsOf t=(ak P).az (aC P t):=by
 simp only[nQ,Bool.and_eq_true,beq_iff_eq] at h
 exact h.2
theorem qS (w:World) (a:Addr):∀(n s:Nat) (cs:List Value),((List.range' s n).mapM fun i=> w.cell? (a.add i))=some cs→0 < n→
 (s=0→a.spot=none)∧∃us ty fz,w.heap[a.block]? =some (.cells us ty fz)∧cs=nb us (a.off+s) n∧a.off+s+n≤us.size
 | 0,s,cs,h,hn=> by omega
 | n+1,s,cs,h,hn=> by
   rw[List.range'_succ,List.mapM_cons] at h
   obtain ⟨x,hx,h⟩:=Option.bind_eq_some_iff.1 h
   obtain ⟨xs,nw,h⟩:=Option.bind_eq_some_iff.1 h
   simp only[Option.pure_def,Option.some.injEq] at h
   subst h
   have vU:(a.add s).block=a.block:=by unfold Addr.add;split <;> rfl
   have ic:(a.add s).off=a.off+s:=by unfold Addr.add;split <;> simp_all
   have WG:(s=0→a.spot=none)∧∃us ty fz,w.heap[a.block]? =some (.cells us ty fz)∧us[a.off+s]? =some x:=by
     unfold World.cell? at hx
     rw[vU,ic] at hx
     cases hg:w.heap[a.block]? with
     | none=> rw[hg] at hx;cases hx
     | some ob=>
       rw[hg] at hx
       cases ob with
       | cells us ty fz=>
         simp only at hx
         by_cases uB:(a.add s).spot.isSome=true
         ·rw[if_pos uB] at hx;cases hx
         ·rw[if_neg uB] at hx
          exact ⟨fun h0=> by subst h0;simpa[Addr.add] using uB,us,ty,fz,rfl,hx⟩
       | _=> simp at hx
   obtain ⟨h1,us,ty,fz,h2,h3⟩:=WG
   have bW:a.off+s < us.size:=(Array.getElem?_eq_some_iff.1 h3).1
   have h4:nb us (a.off+s) (n+1)=x::nb us (a.off+(s+1)) n:=by
     have h3':us.toList[a.off+s]? =some x:=by rw[Array.getElem?_toList];exact h3
     have Hk:a.off+s < us.toList.length:=(List.getElem?_eq_some_iff.1 h3').1
     simp only[nb]
     rw[List.drop_eq_getElem_cons Hk,List.take_succ_cons]
     have:us.toList[a.off+s]=x:=by simpa[List.getElem?_eq_getElem Hk] using h3'
     rw[this];rfl
   by_cases CP:n=0
   ·subst CP
    simp only[List.range'_zero,List.mapM_nil,Option.pure_def,Option.some.injEq] at nw
    subst nw
    exact ⟨h1,us,ty,fz,h2,by rw[h4];simp[nb],by omega⟩
   ·obtain ⟨_,us',ty',fz',h5,h6,h7⟩:=qS w a n (s+1) xs nw (by omega)
    rw[h2] at h5;cases h5
    exact ⟨h1,us,ty,fz,h2,by rw[h4,h6],by omega⟩
theorem tq {w:World} {a:Addr} {n:Nat} {cs:List Value} (h:w.cells? 0 a n=some cs) (hn:0 < n):
 a.spot=none∧∃us ty fz,w.heap[a.block]? =some (.cells us ty fz)∧cs=nb us a.off n∧a.off+n≤us.size:=by
 simp only[World.cells?,Nat.zero_le,if_true] at h
 rw[List.range_eq_range'] at h
 obtain ⟨h1,h2⟩:=qS w a n 0 cs h hn
 exact ⟨h1 rfl,h2⟩
theorem jT {H:Type} {e:TypeId} {b:Nat}:∀ {ds:List (DataW H)},(∀x∈DataW.weightsAll P e ds,x≤b)→∀d∈ds,∀x∈d.weights P e,x≤b
 | [],_,d,hd=> by cases hd
 | d'::ds,h,d,hd=> by
   simp only[DataW.weightsAll] at h
   rcases List.mem_cons.1 hd with rfl | hd
   ·exact fun x hx=> h x (List.mem_append_left _ hx)
   ·exact jT (fun x hx=> h x (List.mem_append_right _ hx)) d hd
theorem Ef (us:Array Value) (o a b:Nat):nb us o (a+b)=nb us o a++nb us (o+a) b:=by
 simp only[nb]
 rw[List.take_add,List.drop_drop]
theorem qm {L:cq} {c:Ctx} {α:Type} {e:Option Nat} {k:Nat} {us:Array Value} {Q:V→Prop} (f:Nat→Option α) (R:α→Prop) {o:Nat}
 (mU:∀i d,f i=some d→R d→∃v,RC L c v (nb us (o+i * k) k)∧v.ty=e∧v.ax=true∧Q v):
 ∀(n s:Nat) (ds:List α),((List.range' s n).mapM f)=some ds→(∀d∈ds,R d)→∃es:List V,es.length=n∧bV L c es (nb us (o+s * k) (n * k))∧∀x∈es,x.ty=e∧x.ax=true∧Q x
 | 0,s,ds,h,hR=>⟨[],rfl,by simp[bV,nb],fun x hx=>(by cases hx)⟩
 | n+1,s,ds,h,hR=> by
   rw[List.range'_succ,List.mapM_cons] at h
   obtain ⟨x,hx,h⟩:=Option.bind_eq_some_iff.1 h
   obtain ⟨xs,nw,h⟩:=Option.bind_eq_some_iff.1 h
   simp only[Option.pure_def,Option.some.injEq] at h
   subst h
   obtain ⟨v,h1,h2,h3,h4⟩:=mU s x hx (hR x List.mem_cons_self)
   obtain ⟨es,h5,h6,h7⟩:=qm f R mU n (s+1) xs nw (fun d hd=> hR d (List.mem_cons_of_mem _ hd))
   refine ⟨v::es,by simp[h5],?_,fun y hy=> ?_⟩
   ·simp only[bV]
    refine ⟨_,_,?_,h1,h6⟩
    rw[Nat.add_mul n 1,Nat.one_mul,Nat.add_comm (n * k) k,Ef,Nat.add_assoc]
    congr 2
    rw[Nat.add_mul s 1,Nat.one_mul]
   ·rcases List.mem_cons.1 hy with rfl | hy
    ·exact ⟨h2,h3,h4⟩
    ·exact h7 y hy
end Go.Vm
namespace Go.Vm
variable {P : Program}
theorem Eg (a:Addr) (n:Nat):(a.add n).block=a.block:=by unfold Addr.add;split <;> rfl
theorem LF (a:Addr) (n:Nat):(a.add n).off=a.off+n:=by unfold Addr.add;split <;> simp_all
def WOK {H:Type} (P:Program) (t:TypeId) (d:DataW H):Prop:=∀x∈d.weights P t,x≤140737488351232
theorem qT {H:Type} {enc:TypeId×Value→H} {w:World} {fuel n:Nat}
 (ih:∀ {t:TypeId} {cs:List Value} {d:DataW H} {ps:List MemPlace},gF P n t=true→DataW.trod enc P w 0 (fun _=> true) true fuel t cs=some (d,ps)→WOK P t d→∃v,RC (ak P) (eY w) v cs∧v.ty=aC P t∧v.ax=true∧bR P n t v) {cs:List Value}:
 ∀(fs pre:List Field) (xs:List (DataW H×List MemPlace)),(∀f∈fs,nQ P f.type=true∧gF P n f.type=true)→(∀i f,fs[i]? =some f→f.offset=(((pre++fs).take (pre.length+i)).map fun f=> P.cellsOf f.type).sum)→
  (fs.mapM fun f=> DataW.trod enc P w 0 (fun _=> true) true fuel f.type ((cs.drop f.offset).take (P.cellsOf f.type)))=some xs→(∀x∈DataW.weightsEach P (fs.map (·.type)) (xs.map (·.1)),x≤140737488351232)→
  cs.length=((pre++fs).map fun f=> P.cellsOf f.type).sum→
  ∃vs:List V,vs.length=fs.length∧bV (ak P) (eY w) vs (cs.drop (pre.map fun f=> P.cellsOf f.type).sum)∧vs.map V.ty=fs.map (fun f=> aC P f.type)∧(∀v∈vs,v.ax=true)∧∀(i:Nat) (f:Field) (x:V),fs[i]? =some f→vs[i]? =some x→bR P n f.type x
 | [],pre,xs,h1,h2,h3,h4,h5=> by
   refine ⟨[],rfl,?_,rfl,fun v hv=>(by cases hv),fun i f x hf=> by simp at hf⟩
   simp only[List.append_nil] at h5
   simp only[bV]
   rw[←h5,List.drop_length]
 | f::fs,pre,xs,h1,h2,h3,h4,h5=> by
   rw[List.mapM_cons] at h3
   obtain ⟨x,hx,h3⟩:=Option.bind_eq_some_iff.1 h3
   obtain ⟨xs',nw,h3⟩:=Option.bind_eq_some_iff.1 h3
   simp only[Option.pure_def,Option.some.injEq] at h3
   subst h3
   simp only[List.map_cons,DataW.weightsEach] at h4
   obtain ⟨v,a1,a2,a3,a4⟩:=ih (h1 f List.mem_cons_self).2 hx (fun y hy=> h4 y (List.mem_append_left _ hy))
   obtain ⟨vs,b1,b2,b3,b4,b5⟩:=qT ih fs (pre++[f]) xs' (fun g hg=> h1 g (List.mem_cons_of_mem _ hg)) (fun i g hg=> by
     have:=h2 (i+1) g (by simpa using hg)
     rw[this]
     congr 2
     rw[List.append_assoc,List.singleton_append,List.length_append,List.length_singleton]
     congr 1;omega) nw (fun y hy=> h4 y (List.mem_append_right _ hy)) (by rw[h5];simp)
   have ic:f.offset=(pre.map fun f=> P.cellsOf f.type).sum:=by
     have:=h2 0 f rfl
     rw[this];simp
   refine ⟨v::vs,by simp[b1],?_,by simp[a2,b3],fun y hy=> ?_,fun i g y hg hy=> ?_⟩
   ·simp only[bV]
    refine ⟨_,_,?_,a1,b2⟩
    rw[ic]
    simp only[List.map_append,List.map_cons,List.map_nil,List.sum_append,List.sum_cons,List.sum_nil,Nat.add_zero]
    rw[←List.drop_drop,List.take_append_drop]
   ·rcases List.mem_cons.1 hy with rfl | hy
    ·exact a3
    ·exact b4 y hy
   ·cases i with
    | zero=>
      simp only[List.getElem?_cons_zero,Option.some.injEq] at hg hy
      subst hg hy
      exact a4
    | succ i=> exact b5 i g y (by simpa using hg) (by simpa using hy)
section
variable {H : Type} {enc : TypeId × Value → H} {w : World} {fuel : Nat} {t : TypeId} {cs : List Value} {d : DataW H} {ps : List MemPlace}
theorem Ja (hu:P.underlying t=some .bool) (h:DataW.trod enc P w 0 (fun _=> true) true (fuel+1) t cs=some (d,ps)):∃b,cs=[.bool b]:=by
 simp only[DataW.trod,hu] at h
 split at h <;> first | (rename_i b _;exact ⟨_,rfl⟩) | simp_all
theorem LG {k:IntKind} (hu:P.underlying t=some (.int k)) (h:DataW.trod enc P w 0 (fun _=> true) true (fuel+1) t cs=some (d,ps)):∃m,cs=[.int k m]∧k.min≤m∧m≤k.max:=by
 simp only[DataW.trod,hu] at h
 split at h <;> first | (simp_all [Lit.wf];done)
theorem LH (hu:P.underlying t=some .string) (h:DataW.trod enc P w 0 (fun _=> true) true (fuel+1) t cs=some (d,ps)):∃s,cs=[.string s]∧d= .lit (.string s.data.toList):=by
 simp only[DataW.trod,hu] at h
 split at h <;> first | (simp_all;done)
theorem AX {fs:Array Field} (hu:P.underlying t=some (.struct fs)) (h:DataW.trod enc P w 0 (fun _=> true) true (fuel+1) t cs=some (d,ps)):cs.length=P.cellsOf t∧
 ∃xs,(fs.toList.mapM fun f=> DataW.trod enc P w 0 (fun _=> true) true fuel f.type ((cs.drop f.offset).take (P.cellsOf f.type)))=some xs∧d= .agg (xs.map (·.1)):=by
 simp only[DataW.trod,hu] at h
 split at h
 ·rename_i hlen
  obtain ⟨xs,nw,he⟩:=Option.map_eq_some_iff.1 h
  simp only[Prod.mk.injEq] at he
  exact ⟨hlen,xs,nw,he.1.symm⟩
 ·cases h
theorem LI {k:Nat} {e:TypeId} (hu:P.underlying t=some (.array k e)) (h:DataW.trod enc P w 0 (fun _=> true) true (fuel+1) t cs=some (d,ps)):cs.length=P.cellsOf t∧
 ∃xs,((List.range k).mapM fun i=> DataW.trod enc P w 0 (fun _=> true) true fuel e ((cs.drop (i * P.cellsOf e)).take (P.cellsOf e)))=some xs∧d= .agg (xs.map (·.1)):=by
 simp only[DataW.trod,hu] at h
 split at h
 ·rename_i hlen
  obtain ⟨xs,nw,he⟩:=Option.map_eq_some_iff.1 h
  simp only[Prod.mk.injEq] at he
  exact ⟨hlen,xs,nw,he.1.symm⟩
 ·cases h
theorem Eh {e:TypeId} (hu:P.underlying t=some (.slice e)) (h:DataW.trod enc P w 0 (fun _=> true) true (fuel+1) t cs=some (d,ps)):(cs=[.slice none 0 0])∨
 ∃a len cap elems rest,cs=[.slice (some a) len cap]∧len≤cap∧cap≤maxLen∧((List.range len).mapM fun i=>(w.cells? 0 (a.add (i * P.cellsOf e)) (P.cellsOf e)).bind (DataW.trod enc P w 0 (fun _=> true) true fuel e))=some elems∧d= .slice (elems.map (·.1)) rest:=by
 simp only[DataW.trod,hu] at h
 split at h <;> first | (simp_all;done) | skip
 rename_i heq
 cases heq
 right
 split at h
 ·rename_i a len cap aT
  obtain ⟨elems,bP,h⟩:=Option.bind_eq_some_iff.1 h
  obtain ⟨rest,YV,he⟩:=Option.map_eq_some_iff.1 h
  simp only[Prod.mk.injEq] at he
  exact ⟨a,len,cap,elems,_,rfl,aT.2.1,aT.2.2,bP,he.1.symm⟩
 ·cases h
theorem yC {α β:Type} {f:α→Option β}:∀ {l:List α} {ys:List β},l.mapM f=some ys→ys.length=l.length
 | [],ys,h=> by simp only[List.mapM_nil,Option.pure_def,Option.some.injEq] at h;subst h;rfl
 | a::l,ys,h=> by
   rw[List.mapM_cons] at h
   obtain ⟨x,hx,h⟩:=Option.bind_eq_some_iff.1 h
   obtain ⟨xs,nw,h⟩:=Option.bind_eq_some_iff.1 h
   simp only[Option.pure_def,Option.some.injEq] at h
   subst h
   simp[yC nw]
theorem ry (hL:(ak P).OK):∀(n fuel:Nat) {t:TypeId} {cs:List Value} {d:DataW H} {ps:List MemPlace},gF P n t=true→DataW.trod enc P w 0 (fun _=> true) true fuel t cs=some (d,ps)→WOK P t d→
 ∃v,RC (ak P) (eY w) v cs∧v.ty=aC P t∧v.ax=true∧bR P n t v
 | 0,fuel,t,cs,d,ps,hr,h,hw=> by simp[gF] at hr
 | n+1,0,t,cs,d,ps,hr,h,hw=> by simp[DataW.trod] at h
 | n+1,fuel+1,t,cs,d,ps,hr,h,hw=> by
   simp only[gF,Bool.and_eq_true] at hr
   obtain ⟨je,hr⟩:=hr
   have ih:=fun {t:TypeId} {cs:List Value} {d:DataW H} {ps:List MemPlace}=> ry hL n fuel (t:=t) (cs:=cs) (d:=d) (ps:=ps)
   split at hr
   ·rename_i hu
    obtain ⟨b,rfl⟩:=Ja hu h
    exact ⟨.s (.bool b),by simp[RC,Value.oneCell'],by simp[V.ty,aC,hu],rfl,by simp only[bR,hu];exact ⟨b,rfl⟩⟩
   ·rename_i k hu
    obtain ⟨m,rfl,h1,h2⟩:=LG hu h
    exact ⟨.s (.int k m),by simp[RC,Value.oneCell'],by simp[V.ty,aC,hu],rfl,by simp only[bR,hu];exact ⟨m,rfl,h1,h2⟩⟩
   ·rename_i hu
    obtain ⟨s,rfl,rfl⟩:=LH hu h
    refine ⟨.s (.string s),by simp[RC,Value.oneCell'],by simp[V.ty,aC,hu],rfl,?_⟩
    simp only[bR,hu]
    exact ⟨s,rfl,by have:=hw s.data.toList.length (by simp[DataW.weights]);simpa using this⟩
   ·rename_i e hu
    simp only[Bool.and_eq_true,decide_eq_true_eq] at hr
    obtain ⟨⟨hte,gq⟩,nz⟩:=hr
    have hk:=yB hte
    rcases Eh hu h with rfl | ⟨a,len,cap,elems,rest,rfl,hlc,hcm,bP,rfl⟩
    ·refine ⟨.al false (aC P e) [],?_,by simp[V.ty,aC,hu],rfl,?_⟩
     ·simp only[RC]
      exact ⟨none,0,rfl,Nat.le_refl _,fun _=> rfl,fun x hx=>(by cases hx),Or.inl trivial⟩
     ·simp only[bR,hu]
      exact ⟨[],rfl,by simp,by simp,fun x hx=>(by cases hx)⟩
    ·have lH:(elems.length+rest.length)* P.bytesOf e≤140737488351232∧∀x∈elems,WOK P e x.1:=by
       simp only[WOK,DataW.weights,hu,List.length_map] at hw
       refine ⟨hw _ List.mem_cons_self,fun x hx y hy=> ?_⟩
       exact jT (fun z hz=> hw z (List.mem_cons_of_mem _ (List.mem_append_left _ hz))) x.1 (List.mem_map_of_mem hx) y hy
     by_cases hlen:len=0
     ·subst hlen
      refine ⟨.al false (aC P e) [],?_,by simp[V.ty,aC,hu],rfl,?_⟩
      ·simp only[RC]
       exact ⟨some a,cap,rfl,Nat.zero_le _,(fun hf=> by cases hf),fun x hx=>(by cases hx),Or.inl trivial⟩
      ·simp only[bR,hu]
       exact ⟨[],rfl,by simp,by simp,fun x hx=>(by cases hx)⟩
     ·-- the block
      have h0:∃us ty fz,a.spot=none∧w.heap[a.block]? =some (.cells us ty fz):=by
        obtain ⟨m,rfl⟩:∃m,len=m+1:=⟨len - 1,by omega⟩
        rw[List.range_eq_range',List.range'_succ,List.mapM_cons] at bP
        obtain ⟨x,hx,_⟩:=Option.bind_eq_some_iff.1 bP
        obtain ⟨cs',hc,_⟩:=Option.bind_eq_some_iff.1 hx
        obtain ⟨h1,us,ty,fz,h2,_⟩:=tq hc gq
        simp only[Nat.zero_mul,Addr.add,if_true] at h1 h2
        exact ⟨us,ty,fz,h1,h2⟩
      obtain ⟨us,ty,fz,uB,vU⟩:=h0
      rw[List.range_eq_range'] at bP
      obtain ⟨es,h1,h2,h3⟩:=qm (L:=ak P) (c:=eY w) (e:=aC P e) (k:=P.cellsOf e) (us:=us) (Q:=bR P n e) (o:=a.off) _ (fun x:DataW H×List MemPlace=> WOK P e x.1) (fun i x hx hR=> by
        obtain ⟨cs',hc,hx⟩:=Option.bind_eq_some_iff.1 hx
        obtain ⟨_,us',ty',fz',hg,xL,_⟩:=tq hc gq
        rw[Eg,vU] at hg
        cases hg
        rw[LF] at xL
        rw[←xL]
        exact ih nz hx hR) len 0 elems bP lH.2
      have hlenE:elems.length=len:=by
        have:=yC bP
        simpa using this
      refine ⟨.al false (aC P e) es,?_,by simp[V.ty,aC,hu],rfl,?_⟩
      ·simp only[RC]
       refine ⟨some a,cap,by rw[h1],by rw[h1];exact hlc,(fun hf=> by cases hf),fun x hx=>⟨(h3 x hx).1,(h3 x hx).2.1⟩,Or.inr ⟨a.block,a.off,us,ty,fz,?_,AW vU,?_⟩⟩
       ·cases a;simp only at uB;subst uB;rfl
       ·rw[Nat.zero_mul,Nat.add_zero] at h2
        rw[h1,←hk];exact h2
      ·simp only[bR,hu]
       refine ⟨es,rfl,?_,?_,fun x hx=>(h3 x hx).2.2⟩
       ·refine Nat.le_trans ?_ lH.1
        exact Nat.mul_le_mul_right _ (by omega)
       ·have:maxLen=9223372036854775807:=rfl
        omega
   ·rename_i fs hu
    simp only[Bool.and_eq_true,decide_eq_true_eq,beq_iff_eq,List.all_eq_true] at hr
    obtain ⟨⟨⟨ma,cI⟩,WH⟩,hfs⟩:=hr
    obtain ⟨hlen,xs,nw,rfl⟩:=AX hu h
    have CJ:∀x∈DataW.weightsEach P (fs.toList.map (·.type)) (xs.map (·.1)),x≤140737488351232:=by
      simp only[WOK,DataW.weights,hu] at hw
      exact hw
    obtain ⟨vs,a1,a2,a3,a4,a5⟩:=qT ih fs.toList [] xs (fun f hf=>⟨(hfs f hf).1,(hfs f hf).2⟩) (fun i f hf=> by
      have hi:i < fs.size:=by have:=(List.getElem?_eq_some_iff.1 hf).1;simpa using this
      have:=WH i (List.mem_range.2 hi)
      rw[←Array.getElem?_toList,hf] at this
      simpa using this) nw CJ (by rw[hlen,cI];rfl)
    have bZ:aC P t=some (P.underlyingId t):=by simp[aC,hu]
    refine ⟨.st (P.underlyingId t) vs,?_,by simp[V.ty,bZ],rfl,?_⟩
    ·simp only[RC]
     exact ⟨by simpa using a2,by rw[ma,a3],a4⟩
    ·simp only[bR,hu]
     exact ⟨vs,rfl,by simpa using a1,fun i f x hf hx=> a5 i f x (by rw[Array.getElem?_toList];exact hf) hx⟩
   ·rename_i k e hu
    simp only[Bool.and_eq_true,decide_eq_true_eq,beq_iff_eq] at hr
    obtain ⟨⟨⟨har,cI⟩,hte⟩,nz⟩:=hr
    have hk:=yB hte
    obtain ⟨hlen,xs,nw,rfl⟩:=LI hu h
    have CJ:∀x∈xs,WOK P e x.1:=fun x hx y hy=> by
      simp only[WOK,DataW.weights,hu] at hw
      exact jT hw x.1 (List.mem_map_of_mem hx) y hy
    rw[List.range_eq_range'] at nw
    obtain ⟨es,h1,h2,h3⟩:=qm (L:=ak P) (c:=eY w) (e:=aC P e) (k:=P.cellsOf e) (us:=cs.toArray) (Q:=bR P n e) (o:=0) _ (fun x:DataW H×List MemPlace=> WOK P e x.1) (fun i x hx hR=> by
      have:=ih nz hx hR
      simpa[nb] using this) k 0 xs nw CJ
    have bZ:aC P t=some (P.underlyingId t):=by simp[aC,hu]
    refine ⟨.arr (P.underlyingId t) es,?_,by simp[V.ty,bZ],rfl,?_⟩
    ·simp only[RC]
     refine ⟨?_,aC P e,by rw[h1];exact har,fun x hx=>⟨(h3 x hx).1,(h3 x hx).2.1⟩⟩
     have e1:nb cs.toArray (0+0 * P.cellsOf e) (k * P.cellsOf e)=cs:=by
       simp only[nb,Nat.zero_mul,Nat.zero_add,List.drop_zero]
       rw[←cI,←hlen];exact List.take_length
     rw[←e1];exact h2
    ·simp only[bR,hu]
     exact ⟨es,rfl,h1,fun x hx=>(h3 x hx).2.2⟩
   ·cases hr
end
end Go.Vm
namespace Go.Vm
open Go.RowKit Go.ChangeShapes
variable {P : Program}
def nT (P:Program) (n:Nat):List TypeId→List V→Prop
 | [],[]=> True
 | t::ts,x::xs=> bR P n t x∧nT P n ts xs
 | _,_=> False
theorem Q1 {w:World} {n:Nat} {t:TypeId} {u:Value} {base:Nat} {v:V} (hr:gF P n t=true) (gP:Value.okWide P w .any base t u) (h:RC (ak P) (eY w) v u.cells.toList) (hv:v.ty=aC P t):RV (ak P) (eY w) v u:=by
 cases n with
 | zero=> simp[gF] at hr
 | succ n=>
   simp only[gF,Bool.and_eq_true] at hr
   obtain ⟨_,hr⟩:=hr
   unfold Value.okWide at gP
   have leaf:aC P t=none→u.cells= #[u]→RV (ak P) (eY w) v u:=fun h1 h2=> by
     rw[h2] at h
     exact (ea (hv.trans h1)).2 h
   split at hr
   ·rename_i hu
    simp only[hu,Cell.okWide,Cell.ok] at gP
    refine leaf (by simp[aC,hu]) ?_
    cases u <;> first | rfl | exact gP.elim
   ·rename_i hu
    simp only[hu,Cell.okWide,Cell.ok] at gP
    refine leaf (by simp[aC,hu]) ?_
    cases u <;> first | rfl | exact gP.elim
   ·rename_i hu
    simp only[hu,Cell.okWide,Cell.ok] at gP
    refine leaf (by simp[aC,hu]) ?_
    cases u <;> first | rfl | exact gP.elim
   ·rename_i hu
    simp only[hu,Cell.okWide,Cell.ok] at gP
    refine leaf (by simp[aC,hu]) ?_
    cases u <;> first | rfl | exact gP.elim
   ·rename_i hu
    simp only[hu] at gP
    obtain ⟨cs,rfl,_⟩:=gP
    exact (eV (hv.trans (by simp[aC,hu]:aC P t=some (P.underlyingId t)))).2 ⟨cs.toList,by simp,by simpa[Value.cells] using h⟩
   ·rename_i hu
    simp only[hu] at gP
    obtain ⟨cs,rfl,_⟩:=gP
    exact (eV (hv.trans (by simp[aC,hu]:aC P t=some (P.underlyingId t)))).2 ⟨cs.toList,by simp,by simpa[Value.cells] using h⟩
   ·cases hr
theorem vk {H:Type} {enc:TypeId×Value→H} (hL:(ak P).OK) {w:World} {n base:Nat}:∀ {ts:List TypeId} {us:List Value} {ds:List (DataW H)} {ps:List MemPlace},(∀t∈ts,gF P n t=true)→DataW.TrodAll enc P w 0 (fun _=> true) true ts us ds ps→
 (∀(j:Nat) t v,ts[j]? =some t→us[j]? =some v→Value.okWide P w .any base t v)→(∀x∈DataW.weightsEach P ts ds,x≤140737488351232)→∃xs,fC (ak P) (eY w) xs us∧nT P n ts xs
 | [],[],[],ps,_,_,_,_=>⟨[],trivial,trivial⟩
 | t::ts,u::us,d::ds,ps,hr,ht,hv,hw=> by
   obtain ⟨p,q,⟨fuel,h1⟩,h2,_⟩:=ht
   simp only[DataW.weightsEach] at hw
   obtain ⟨v,a1,a2,a3,a4⟩:=ry hL n fuel (hr t List.mem_cons_self) h1 (fun x hx=> hw x (List.mem_append_left _ hx))
   obtain ⟨xs,b1,b2⟩:=vk hL (fun t ht=> hr t (List.mem_cons_of_mem _ ht)) h2 (fun j t v h1 h2=> hv (j+1) t v (by simpa using h1) (by simpa using h2)) (fun x hx=> hw x (List.mem_append_right _ hx))
   exact ⟨v::xs,⟨Q1 (hr t List.mem_cons_self) (hv 0 t u rfl rfl) a1 a2,b1⟩,a4,b2⟩
 | [],_::_,_,ps,_,ht,_,_=> by cases ht
 | [],[],_::_,ps,_,ht,_,_=> by cases ht
 | _::_,[],_,ps,_,ht,_,_=> by cases ht
 | _::_,_::_,[],ps,_,ht,_,_=> by cases ht
theorem vl {H:Type} {enc:TypeId×Value→H} (hl:laidOutB P=true) {W W':World} (hb:Below W.heap.size W W'):∀ {ts:List TypeId} {us:List Value} {ds:List (DataW H)} {ps:List MemPlace},(∀t∈ts,P.readableRec t=true∧t < P.types.size)→
 DataW.TrodAll enc P W 0 (fun _=> true) true ts us ds ps→(∀p∈ps,p.block < W.heap.size)→DataW.TrodAll enc P W' 0 (fun b=> decide (b < W.heap.size)) true ts us ds ps
 | [],[],[],ps,_,h,_=> h
 | t::ts,u::us,d::ds,ps,hr,ht,hp=> by
   obtain ⟨p,q,h1,h2,rfl⟩:=ht
   exact ⟨p,q,Below.trod hl (hr t List.mem_cons_self).1 (hr t List.mem_cons_self).2 h1 hb (fun x hx=> hp x (List.mem_append_left _ hx)),
     vl hl hb (fun t ht=> hr t (List.mem_cons_of_mem _ ht)) h2 (fun x hx=> hp x (List.mem_append_right _ hx)),rfl⟩
 | [],_::_,_,ps,_,ht,_=> by cases ht
 | [],[],_::_,ps,_,ht,_=> by cases ht
 | _::_,[],_,ps,_,ht,_=> by cases ht
 | _::_,_::_,[],ps,_,ht,_=> by cases ht
theorem jz {H:Type} {enc:TypeId×Value→H} {w:World} {b:Nat} {sp:Nat→Bool} {hd:Bool}:∀ {ts:List TypeId} {us:List Value} {ds:List (DataW H)} {ps:List MemPlace},DataW.TrodAll enc P w b sp hd ts us ds ps→ds.length=ts.length
 | [],[],[],ps,_=> rfl
 | t::ts,u::us,d::ds,ps,ht=> by
   obtain ⟨p,q,h1,h2,rfl⟩:=ht
   simp[jz h2]
 | [],_::_,_,ps,ht=> by cases ht
 | [],[],_::_,ps,ht=> by cases ht
 | _::_,[],_,ps,ht=> by cases ht
 | _::_,_::_,[],ps,ht=> by cases ht
theorem FP {H:Type} {enc:TypeId×Value→H} (hL:(ak P).OK) (hl:laidOutB P=true) {f:Func} {fid:FuncId} {s:ChangeSpec} {apart fresh handsOn:Bool} {n:Nat} {cf:Nat→List V→Hp→Option (V×Hp)} (fj:cy P (ak P) cf)
 (mU:f.params.toList.all (fun t=> gF P n t &&(P.readableRec t && decide (t < P.types.size)))=true) {tb:TypeId} (LC:f.resultTypes= #[tb]) (htb:P.underlying tb=some .bool)
 (Nz:s.vars=[]) (hvt:s.plain.varTypes P=[]) (Jb:∀ds:List (DataW H),ds.length=f.params.toList.length→s.fn H ds= {results:=[.lit (.bool true)],args:=ds})
 (YE:∀xs,nT P n f.params.toList xs→cf fid xs []=some (.s (.bool true),[]))
 {W:World} {base:Nat} {args:Array Value} {ds gs:List (DataW H)} {before:List MemPlace} (YF:∀(j:Nat) t v,f.params[j]? =some t→args[j]? =some v→Value.okWide P W .any base t v)
 (hW:DataW.Whole enc P f.params.toList s.vars apart W args.toList ds gs before) (CJ:(DataW.weightsEach P (f.params.toList++s.plain.varTypes P) (ds++gs)).all (· ≤reachBytes)=true):
 Calls P fid args W fun e W'=>∃v,e= .returned v∧s.post enc P f apart fresh handsOn false W args v W':=by
 have hW0:=hW
 obtain ⟨p,q,hA,hV,rfl,df,hnd⟩:=hW
 rw[Nz] at hV
 have ij:gs=[]∧q=[]:=by
   cases gs with
   | nil=> exact ⟨rfl,hV⟩
   | cons g gs=> cases hV
 obtain ⟨rfl,rfl⟩:=ij
 simp only[List.all_eq_true,Bool.and_eq_true,decide_eq_true_eq] at mU CJ
 rw[hvt,List.append_nil,List.append_nil] at CJ
 obtain ⟨xs,h1,h2⟩:=vk hL (fun t ht=>(mU t ht).1) hA (fun j t v hj hv=> YF j t v (by rw[←Array.getElem?_toList];exact hj) (by rw[←Array.getElem?_toList];exact hv)) (fun x hx=> CJ x hx)
 have iu:=(fj _ _ _ _ _ (YE xs h2)).2 (eY W) W args.toList h1 (I9 _ W)
 unfold eQ at iu
 rw[Array.toArray_toList] at iu
 refine Calls.mono iu fun e W' he=> ?_
 obtain ⟨u,c',rfl,hv,dh,hle,aR⟩:=he
 obtain ⟨rfl,_⟩:=bx.1 hv
 have hb:Below W.heap.size W W':=⟨aR.os,aR.tape,aR.output,aR.size,fun k hk=> by
   have hz:(eY W).z k=some (kept W.heap[k]):=by simp[eY,Array.getElem?_eq_getElem hk]
   have:=dh.z k _ (hle.z k _ hz)
   rw[this,uV];exact (Array.getElem?_eq_getElem hk).symm⟩
 refine ⟨_,rfl,ds,[],p++[],[],p,[],hW0,?_,?_,?_,Below.frame hb _,fun hf=> by cases hf⟩
 ·rw[List.append_nil,Jb ds (jz hA),LC]
  refine ⟨[],[],⟨1,?_⟩,rfl,rfl⟩
  simp[DataW.trod,htb,Value.cells]
 ·rw[List.append_nil,Jb ds (jz hA)]
  exact vl hl hb (fun t ht=>(mU t ht).2) hA (fun x hx=> hW0.lt x (by simpa using hx))
 ·rw[List.append_nil,Jb ds (jz hA),Nz]
  rfl
end Go.Vm
namespace Go.Vm
abbrev CF :=Nat→List V→Hp→Option (V×Hp)
def Ap (c:CF) (G:Nat→CF):Prop:=∀f vs h r,c f vs h=some r→∃n,∀d,n≤d→G d f vs h=some r
section
variable {c : CF} {G : Nat → CF} (ha : Ap c G) {base : Nat}
include ha
theorem Q2 {h:Hp} {o:O} {vs:List V} {r:V×Hp} (hr:aB c base h o vs=some r):∃n,∀d,n≤d→aB (G d) base h o vs=some r:=by
 cases o with
 | call f=> exact ha f vs h r hr
 | ie f=>
   simp only[aB] at hr ⊢
   cases hc:c f vs h with
   | none=> rw[hc] at hr;cases hr
   | some q=>
     obtain ⟨n,hn⟩:=ha f vs h q hc
     exact ⟨n,fun d hd=> by rw[hn d hd,←hc];exact hr⟩
 | lX=>
   rcases vs with _ | ⟨x,xs⟩
   ·simp[aB] at hr
   ·cases x <;> simp only[aB] at hr ⊢ <;> first | exact ha _ _ _ _ hr | cases hr
 | _=> exact ⟨0,fun d _=> by
    rcases vs with _ | ⟨x,_ | ⟨y,_ | ⟨z,_ | ⟨u,vs⟩⟩⟩⟩<;> exact hr⟩
theorem tu {fr:Fr} {h:Hp} {g:Vm.G} {r:V×Hp} (hr:stepG c base fr h g=some r):∃n,∀d,n≤d→stepG (G d) base fr h g=some r:=by
 unfold stepG at hr ⊢
 cases hw:want fr g with
 | none=> rw[hw] at hr;cases hr
 | some b=>
   rw[hw] at hr
   cases b with
   | true=> exact Q2 ha hr
   | false=> exact ⟨0,fun d _=> hr⟩
theorem CA :∀ {gs:List Vm.G} {fr:Fr} {h:Hp} {r:Fr×Hp},jW c base gs fr h=some r→∃n,∀d,n≤d→jW (G d) base gs fr h=some r
 | [],fr,h,r,hr=>⟨0,fun d _=> hr⟩
 | g::gs,fr,h,r,hr=> by
   simp only[jW] at hr
   split at hr
   case h_2=> cases hr
   rename_i v h' aR
   obtain ⟨n,hn⟩:=tu ha aR
   obtain ⟨m,hm⟩:=CA hr
   exact ⟨max n m,fun d hd=> by simp only[jW];rw[hn d (by omega)];exact hm d (by omega)⟩
theorem wD :∀ {gs:List GD} {fr:Fr} {h:Hp} {hs:List Hp} {xs:List Seen} {r:Fr×Hp×List Hp×List Seen},mH c base gs fr h hs xs=some r→∃n,∀d,n≤d→mH (G d) base gs fr h hs xs=some r
 | [],fr,h,hs,xs,r,hr=>⟨0,fun d _=> hr⟩
 | g::gs,fr,h,hs,xs,r,hr=> by
   simp only[mH] at hr
   split at hr
   case h_2=> cases hr
   rename_i v h' aR
   obtain ⟨n,hn⟩:=tu ha aR
   split at hr
   ·rename_i he
    obtain ⟨m,hm⟩:=wD hr
    exact ⟨max n m,fun d hd=> by simp only[mH];rw[hn d (by omega)];simp only[he,if_true];exact hm d (by omega)⟩
   ·rename_i he
    obtain ⟨m,hm⟩:=wD hr
    exact ⟨max n m,fun d hd=> by simp only[mH];rw[hn d (by omega)];simp only[he];exact hm d (by omega)⟩
theorem vm {fr:Fr} {g:Vm.G} {v:V}:∀ {hs:List Hp},oA c base fr g v hs→∃n,∀d,n≤d→oA (G d) base fr g v hs
 | [],_=>⟨0,fun d _=> trivial⟩
 | h::hs,⟨h1,h2⟩=> by
   obtain ⟨n,hn⟩:=tu ha h1
   obtain ⟨m,hm⟩:=vm h2
   exact ⟨max n m,fun d hd=>⟨hn d (by omega),hm d (by omega)⟩⟩
theorem tv {hs:List Hp}:∀ {xs:List Seen},ng c base hs xs→∃n,∀d,n≤d→ng (G d) base hs xs
 | [],_=>⟨0,fun d _=> trivial⟩
 | x::xs,⟨h1,h2⟩=> by
   obtain ⟨n,hn⟩:=vm ha h1
   obtain ⟨m,hm⟩:=tv h2
   exact ⟨max n m,fun d hd=>⟨hn d (by omega),hm d (by omega)⟩⟩
theorem LJ {gs:List GD} {fr:Fr} {h:Hp} {r:Fr×Hp} (hr:bL c base gs fr h=some r):∃n,∀d,n≤d→bL (G d) base gs fr h=some r:=by
 unfold bL at hr ⊢
 split at hr
 case h_2=> cases hr
 rename_i fr' h' hs xs hd
 split at hr
 case isFalse=> cases hr
 rename_i hs
 obtain ⟨n,hn⟩:=wD ha hd
 obtain ⟨m,hm⟩:=tv ha hs.2
 exact ⟨max n m,fun d hd=> by rw[hn d (by omega)];simp only;rw[if_pos ⟨hs.1,hm d (by omega)⟩];exact hr⟩
theorem CB :∀ {k:C} {fr:Fr} {h:Hp} {r:Ex×Fr×Hp},exec c base k fr h=some r→∃n,∀d,n≤d→exec (G d) base k fr h=some r:=by
 intro k
 induction k with
 | af gs=>
   intro fr h r hr
   simp only[exec] at hr ⊢
   obtain ⟨q,hq,rfl⟩:=Option.map_eq_some_iff.1 hr
   obtain ⟨n,hn⟩:=CA ha hq
   exact ⟨n,fun d hd=> by rw[hn d hd];rfl⟩
 | bL gs=>
   intro fr h r hr
   simp only[exec] at hr ⊢
   obtain ⟨q,hq,rfl⟩:=Option.map_eq_some_iff.1 hr
   obtain ⟨n,hn⟩:=LJ ha hq
   exact ⟨n,fun d hd=> by rw[hn d hd];rfl⟩
 | seq a b iha ihb=>
   intro fr h r hr
   simp only[exec] at hr ⊢
   split at hr
   ·rename_i fr1 h1 hx
    obtain ⟨n,hn⟩:=iha hx
    obtain ⟨m,hm⟩:=ihb hr
    exact ⟨max n m,fun d hd=> by rw[hn d (by omega)];exact hm d (by omega)⟩
   ·rename_i cD
    obtain ⟨n,hn⟩:=iha hr
    refine ⟨n,fun d hd=> ?_⟩
    rw[hn d hd]
    obtain ⟨e,f1,h1⟩:=r
    cases e with
    | normal=> exact absurd hr (cD f1 h1)
    | exit id=> rfl
    | ret=> rfl
 | cond x a b iha ihb=>
   intro fr h r hr
   simp only[exec] at hr ⊢
   split at hr
   ·exact iha hr
   ·exact ihb hr
   ·cases hr
 | block id a iha=>
   intro fr h r hr
   simp only[exec] at hr ⊢
   split at hr
   ·rename_i id' fr1 h1 hx
    obtain ⟨n,hn⟩:=iha hx
    exact ⟨n,fun d hd=> by rw[hn d hd];exact hr⟩
   ·rename_i cD
    obtain ⟨n,hn⟩:=iha hr
    refine ⟨n,fun d hd=> ?_⟩
    rw[hn d hd]
    obtain ⟨e,f1,h1⟩:=r
    cases e with
    | exit id=> exact absurd hr (cD id f1 h1)
    | normal=> rfl
    | ret=> rfl
 | loop a iha=>
   intro fr h r hr
   simp only[exec] at hr ⊢
   obtain ⟨k,hk⟩:=gv.1 hr
   have key:∀(k:Nat) (fr:Fr) (h:Hp),iter (exec c base a) k fr h=some r→∃n,∀d,n≤d→iter (exec (G d) base a) k fr h=some r:=by
     intro k
     induction k with
     | zero=> intro fr h hk;simp[iter] at hk
     | succ k ih=>
       intro fr h hk
       simp only[iter] at hk ⊢
       split at hk
       ·rename_i fr1 h1 hx
        obtain ⟨n,hn⟩:=iha hx
        obtain ⟨m,hm⟩:=ih _ _ hk
        exact ⟨max n m,fun d hd=> by rw[hn d (by omega)];exact hm d (by omega)⟩
       ·rename_i cD
        obtain ⟨n,hn⟩:=iha hk
        refine ⟨n,fun d hd=> ?_⟩
        rw[hn d hd]
        obtain ⟨e,f1,h1⟩:=r
        cases e with
        | normal=> exact absurd hk (cD f1 h1)
        | exit id=> rfl
        | ret=> rfl
   obtain ⟨n,hn⟩:=key k fr h hk
   exact ⟨n,fun d hd=> gv.2 ⟨k,hn d hd⟩⟩
 | skip=> intro fr h r hr;exact ⟨0,fun d _=> hr⟩
 | exit id=> intro fr h r hr;exact ⟨0,fun d _=> hr⟩
 | ret=> intro fr h r hr;exact ⟨0,fun d _=> hr⟩
end
theorem tx {c:Nat→CF} {G:Nat→Nat→CF} (ha:∀base,Ap (c base) (fun d=> G d base)) {base:Nat} {F:Fn} {args:List V} {h:Hp} {r:V×Hp} (hr:ke c base F args h=some r):
 ∃n,∀d,n≤d→ke (G d) base F args h=some r:=by
 unfold ke at hr ⊢
 by_cases hp:F.pure=true
 ·simp only[hp,if_true] at hr ⊢
  cases hx:exec (c h.length) h.length F.body (lL F args) h with
  | none=> rw[hx] at hr;cases hr
  | some q=>
    rw[hx] at hr
    obtain ⟨n,hn⟩:=CB (ha _) hx
    exact ⟨n,fun d hd=> by rw[hn d hd];exact hr⟩
 ·simp only[hp] at hr ⊢
  cases hx:exec (c base) base F.body (lL F args) h with
  | none=> rw[hx] at hr;cases hr
  | some q=>
    rw[hx] at hr
    obtain ⟨n,hn⟩:=CB (ha _) hx
    exact ⟨n,fun d hd=> by rw[hn d hd];exact hr⟩
section
variable (fns : Nat → Option Fn) (pr : CF)
theorem Jc :∀(d base:Nat) (f:Nat) (vs:List V) (h:Hp) (r:V×Hp),den fns pr d base f vs h=some r→den fns pr (d+1) base f vs h=some r
 | 0,base,f,vs,h,r,hr=> by simp[den] at hr
 | d+1,base,f,vs,h,r,hr=> by
   rw[den] at hr ⊢
   split at hr
   ·rename_i F hF
    obtain ⟨n,hn⟩:=tx (c:=fun base=> den fns pr d base) (G:=fun _ base=> den fns pr (d+1) base) (fun base f vs h r hr=>⟨0,fun _ _=> Jc d base f vs h r hr⟩) hr
    exact hn n (Nat.le_refl _)
   ·exact hr
theorem AY {d e base f:Nat} {vs:List V} {h:Hp} {r:V×Hp} (hr:den fns pr d base f vs h=some r) (hde:d≤e):den fns pr e base f vs h=some r:=by
 induction hde with
 | refl=> exact hr
 | step _ ih=> exact Jc fns pr _ _ _ _ _ _ ih
open Classical in
noncomputable def run (base:Nat):CF:=fun f vs h=> if hx:∃d r,den fns pr d base f vs h=some r then some hx.choose_spec.choose else none
theorem pD {base f:Nat} {vs:List V} {h:Hp} {r:V×Hp}:run fns pr base f vs h=some r↔∃d,den fns pr d base f vs h=some r:=by
 unfold run
 constructor
 ·intro hr
  split at hr
  ·rename_i hx
   simp only[Option.some.injEq] at hr
   rw[←hr]
   exact ⟨_,hx.choose_spec.choose_spec⟩
  ·cases hr
 ·rintro ⟨d,hd⟩
  have hx:∃d r,den fns pr d base f vs h=some r:=⟨d,r,hd⟩
  rw[dif_pos hx]
  have h1:=hx.choose_spec.choose_spec
  have h2:=AY fns pr h1 (Nat.le_max_left _ d)
  have h3:=AY fns pr hd (Nat.le_max_right hx.choose d)
  rw[h2] at h3
  exact h3
theorem run_eq {f:Nat} {F:Fn} (hF:fns f=some F) (base:Nat) (vs:List V) (h:Hp):run fns pr base f vs h=ke (run fns pr) base F vs h:=by
 apply Option.ext
 intro r
 rw[pD]
 constructor
 ·rintro ⟨d,hd⟩
  cases d with
  | zero=> simp[den] at hd
  | succ d=>
    simp only[den,hF] at hd
    obtain ⟨n,hn⟩:=tx (c:=fun base=> den fns pr d base) (G:=fun _ base=> run fns pr base) (fun base f vs h r hr=>⟨0,fun _ _=>(pD fns pr).2 ⟨d,hr⟩⟩) hd
    exact hn n (Nat.le_refl _)
 ·intro hr
  obtain ⟨n,hn⟩:=tx (c:=run fns pr) (G:=fun d base=> den fns pr d base) (fun base f vs h r hr=> by
    obtain ⟨d,hd⟩:=(pD fns pr).1 hr
    exact ⟨d,fun e he=> AY fns pr hd he⟩) hr
  exact ⟨n+1,by simp only[den,hF];exact hn n (Nat.le_refl _)⟩
theorem nZ {f:Nat} (hF:fns f=none) (base:Nat) (vs:List V) (h:Hp):run fns pr base f vs h=pr f vs h:=by
 apply Option.ext
 intro r
 rw[pD]
 constructor
 ·rintro ⟨d,hd⟩
  cases d with
  | zero=> simp[den] at hd
  | succ d=> simpa[den,hF] using hd
 ·intro hr;exact ⟨1,by simpa[den,hF] using hr⟩
end
theorem tT {P:Program} (hL:(ak P).OK) {fns:Nat→Option Fn} {pr:CF} (hf:rL P fns) (hp:cy P (ak P) pr) (hkp:KpP pr) (base:Nat):cy P (ak P) (run fns pr base):=by
 intro f vs h v h' hr
 obtain ⟨d,hd⟩:=(pD fns pr).1 hr
 exact vj hL hf hp hkp d base f vs h v h' hd
end Go.Vm
namespace Go.Vm
abbrev Env :=Nat→V
def Env.up (e:Env) (t:Nat) (v:V):Env:=fun n=> if n=t then v else e n
def Env.put (e:Env):Option Nat→V→Env
 | some t,v=> e.up t v
 | none,_=> e
def X.on (e:Env):X→V
 | .t n=> e n
 | .c v=> v
def view (fr:Fr):Env:=fun t=> fr.getD t (.bI [])
def e0 (args:List V):Env:=fun t=> args.getD t (.bI [])
def tz (v:V) (b:Bool):Option Bool:=
 match v with
 | .s (.bool b')=> some (b'==b)
 | .bI []=> some false
 | _=> none
def qU (e:Env):Option (Nat×Bool)→Option Bool
 | none=> some true
 | some (t,b)=> tz (e t) b
noncomputable def eH (cf:CF) (base:Nat) (e:Env) (h:Hp) (g:G):Option (V×Hp):=
 match qU e g.guard with
 | some true=> aB cf base h g.op (g.xs.map (X.on e))
 | some false=> some (.bI [],h)
 | none=> none
noncomputable def yD (cf:CF) (base:Nat):List G→Env→Hp→Option (Env×Hp)
 | [],e,h=> some (e,h)
 | g::gs,e,h=> match eH cf base e h g with
   | some (v,h')=> yD cf base gs (e.put g.dst v) h'
   | none=> none
structure dP where
 d:GD
 e:Env
 h:Hp
 v:V
def y9 (cf:CF) (base:Nat) (x:dP) (h:Hp):Prop:=h=x.h∨eH cf base x.e h x.d.g=some (x.v,h)
def Ei (cf:CF) (base:Nat) (x:dP):List Hp→Prop
 | []=> True
 | h::hs=> y9 cf base x h∧Ei cf base x hs
def mW (cf:CF) (base:Nat) (hs:List Hp):List dP→Prop
 | []=> True
 | x::xs=> Ei cf base x ((hs.drop x.d.lo).take (x.d.hi+1 - x.d.lo))∧mW cf base hs xs
noncomputable def iw (cf:CF) (base:Nat):List GD→Env→Hp→List Hp→List dP→Option (Env×Hp×List Hp×List dP)
 | [],e,h,hs,xs=> some (e,h,hs++[h],xs)
 | d::ds,e,h,hs,xs=> match eH cf base e h d.g with
   | some (v,h')=> if d.g.op.bQ then iw cf base ds (e.put d.g.dst v) h' (hs++[h]) xs else iw cf base ds (e.put d.g.dst v) h hs (xs++[⟨d,e,h,v⟩])
   | none=> none
open Classical in
noncomputable def Jd (cf:CF) (base:Nat) (ds:List GD) (e:Env) (h:Hp):Option (Env×Hp):=
 match iw cf base ds e h [] [] with
 | some (e',h',hs,xs)=> if mW cf base hs xs then some (e',h') else none
 | none=> none
abbrev yE :=Option (Ex×Env×Hp)
def gf (f:Env→Hp→yE):Nat→Env→Hp→yE
 | 0,_,_=> none
 | n+1,e,h=> match f e h with
   | some (.normal,e',h')=> gf f n e' h'
   | r=> r
theorem vn {f:Env→Hp→yE}:∀ {n m:Nat} {e:Env} {h:Hp} {r r':Ex×Env×Hp},gf f n e h=some r→gf f m e h=some r'→r=r'
 | 0,_,_,_,_,_,h1,_=> by simp[gf] at h1
 | _+1,0,_,_,_,_,_,h2=> by simp[gf] at h2
 | n+1,m+1,e,h,r,r',h1,h2=> by
   simp only[gf] at h1 h2
   split at h1
   ·rename_i fr1 h1' he
    rw[he] at h2
    exact vn h1 h2
   ·rename_i cD
    cases hf:f e h with
    | none=> rw[hf] at h1;cases h1
    | some q=>
      rw[hf] at h1 h2
      obtain ⟨x,a,b⟩:=q
      cases x with
      | normal=> exact absurd hf (cD a b)
      | exit id=> simp only[Option.some.injEq] at h1 h2;rw[←h1,←h2]
      | ret=> simp only[Option.some.injEq] at h1 h2;rw[←h1,←h2]
open Classical in
noncomputable def yF (f:Env→Hp→yE) (e:Env) (h:Hp):yE:=
 if hx:∃r n,gf f n e h=some r then some hx.choose else none
theorem oJ {f:Env→Hp→yE} {e:Env} {h:Hp} {r:Ex×Env×Hp}:yF f e h=some r↔∃n,gf f n e h=some r:=by
 unfold yF
 constructor
 ·intro hr
  split at hr
  ·rename_i hx
   simp only[Option.some.injEq] at hr
   rw[←hr]
   exact hx.choose_spec
  ·cases hr
 ·rintro ⟨n,hn⟩
  have hx:∃r n,gf f n e h=some r:=⟨r,n,hn⟩
  rw[dif_pos hx]
  obtain ⟨m,hm⟩:=hx.choose_spec
  rw[vn hm hn]
theorem Je (f:Env→Hp→yE) (e:Env) (h:Hp):yF f e h=match f e h with
 | some (.normal,e',h')=> yF f e' h'
 | r=> r:=by
 apply Option.ext
 intro r
 rw[oJ]
 split
 ·rename_i fr' h' he
  rw[oJ]
  constructor
  ·rintro ⟨n,hn⟩
   cases n with
   | zero=> simp[gf] at hn
   | succ n=> simp only[gf,he] at hn;exact ⟨n,hn⟩
  ·rintro ⟨n,hn⟩
   exact ⟨n+1,by simp only[gf,he];exact hn⟩
 ·rename_i cD
  constructor
  ·rintro ⟨n,hn⟩
   cases n with
   | zero=> simp[gf] at hn
   | succ n=> simp only[gf] at hn;exact hn
  ·intro hr
   refine ⟨1,?_⟩
   simp only[gf]
   exact hr
noncomputable def cW (cf:CF) (base:Nat):C→Env→Hp→yE
 | .skip,e,h=> some (.normal,e,h)
 | .af gs,e,h=>(yD cf base gs e h).map fun r=>(.normal,r.1,r.2)
 | .bL ds,e,h=>(Jd cf base ds e h).map fun r=>(.normal,r.1,r.2)
 | .seq a b,e,h=> match cW cf base a e h with
   | some (.normal,e',h')=> cW cf base b e' h'
   | r=> r
 | .cond c a b,e,h=> match c.on e with
   | .s (.bool true)=> cW cf base a e h
   | .s (.bool false)=> cW cf base b e h
   | _=> none
 | .block id a,e,h=> match cW cf base a e h with
   | some (.exit id',e',h')=> if id'=id then some (.normal,e',h') else some (.exit id',e',h')
   | r=> r
 | .loop a,e,h=> yF (cW cf base a) e h
 | .exit id,e,h=> some (.exit id,e,h)
 | .ret,e,h=> some (.ret,e,h)
def G.fits (n:Nat) (g:G):Bool:=(match g.dst with | some t=> decide (t < n) | none=> true)&&(match g.guard with | some (t,_)=> decide (t < n) | none=> true)
def C.fits (n:Nat):C→Bool
 | .af gs=> gs.all (G.fits n)
 | .bL ds=> ds.all fun d=> d.g.fits n
 | .seq a b=> a.fits n && b.fits n
 | .cond _ a b=> a.fits n && b.fits n
 | .block _ a=> a.fits n
 | .loop a=> a.fits n
 | _=> true
theorem Jf {fr:Fr} {t:Nat} {v:V} (ht:t < fr.length):view (fr.set t v)=(view fr).up t v:=by
 funext n
 simp only[view,Env.up,List.getD_eq_getElem?_getD]
 by_cases h:n=t
 ·subst h;simp[ht]
 ·rw[List.getElem?_set_ne (Ne.symm h),if_neg h]
theorem evX (fr:Fr):X.ev fr=X.on (view fr):=by funext x;cases x <;> rfl
theorem vp {n:Nat} {fr:Fr} {g:G} {v:V} (hl:fr.length=n) (hg:g.fits n=true):(gu fr g.dst v).length=n∧view (gu fr g.dst v)=(view fr).put g.dst v:=by
 simp only[G.fits,Bool.and_eq_true] at hg
 cases hd:g.dst with
 | none=> exact ⟨hl,rfl⟩
 | some t=>
   rw[hd] at hg
   simp only[decide_eq_true_eq] at hg
   exact ⟨by simpa[gu] using hl,by simp only[gu,Env.put];exact Jf (by rw[hl];exact hg.1)⟩
theorem kE {cf:CF} {base n:Nat} {fr:Fr} {h:Hp} {g:G} (hl:fr.length=n) (hg:g.fits n=true):stepG cf base fr h g=eH cf base (view fr) h g:=by
 simp only[G.fits,Bool.and_eq_true] at hg
 unfold stepG eH want qU
 rw[evX]
 cases hd:g.guard with
 | none=> rfl
 | some p=>
   obtain ⟨t,b⟩:=p
   rw[hd] at hg
   simp only[decide_eq_true_eq] at hg
   have:fr.getD t .top=view fr t:=by
     simp only[view,List.getD_eq_getElem?_getD]
     have ht:t < fr.length:=by rw[hl];exact hg.2
     rw[List.getElem?_eq_getElem ht];rfl
   simp only[tz]
   rw[this]
   rfl
theorem yG {cf:CF} {base n:Nat}:∀ {gs:List G} {fr:Fr} {h:Hp} {e':Env} {h':Hp},fr.length=n→gs.all (G.fits n)=true→yD cf base gs (view fr) h=some (e',h')→
 ∃fr',jW cf base gs fr h=some (fr',h')∧fr'.length=n∧view fr'=e'
 | [],fr,h,e',h',hl,_,hr=> by
   simp only[yD,Option.some.injEq,Prod.mk.injEq] at hr
   obtain ⟨rfl,rfl⟩:=hr
   exact ⟨fr,rfl,hl,rfl⟩
 | g::gs,fr,h,e',h',hl,hg,hr=> by
   simp only[List.all_cons,Bool.and_eq_true] at hg
   simp only[yD] at hr
   split at hr
   case h_2=> cases hr
   rename_i v h1 aR
   obtain ⟨p1,p2⟩:=vp (v:=v) hl hg.1
   rw[←p2] at hr
   obtain ⟨fr',q1,q2,q3⟩:=yG p1 hg.2 hr
   exact ⟨fr',by simp only[jW];rw[kE hl hg.1,aR];exact q1,q2,q3⟩
def qn (cf:CF) (base n:Nat):List Seen→List dP→Prop
 | [],[]=> True
 | x::xs,y::ys=>(x.d=y.d∧x.v=y.v∧x.fr.length=n∧view x.fr=y.e∧y.d.g.fits n=true∧eH cf base y.e y.h y.d.g=some (y.v,y.h))∧qn cf base n xs ys
 | _,_=> False
theorem nS {cf:CF} {base n:Nat} {x:Seen} {y:dP}:∀ {xs:List Seen} {ys:List dP},qn cf base n xs ys→(x.d=y.d∧x.v=y.v∧x.fr.length=n∧view x.fr=y.e∧y.d.g.fits n=true∧eH cf base y.e y.h y.d.g=some (y.v,y.h))→qn cf base n (xs++[x]) (ys++[y])
 | [],[],_,h=>⟨h,trivial⟩
 | _::_,_::_,h1,h=>⟨h1.1,nS h1.2 h⟩
 | [],_::_,h1,_=> h1.elim
 | _::_,[],h1,_=> h1.elim
theorem qV {cf:CF} {base n:Nat} {x:Seen} {y:dP} (h:x.d=y.d∧x.v=y.v∧x.fr.length=n∧view x.fr=y.e∧y.d.g.fits n=true∧eH cf base y.e y.h y.d.g=some (y.v,y.h)):∀ {hs:List Hp},Ei cf base y hs→oA cf base x.fr x.d.g x.v hs
 | [],_=> trivial
 | k::ks,⟨h1,h2⟩=> by
   refine ⟨?_,qV h h2⟩
   obtain ⟨a1,a2,a3,a4,a5,a6⟩:=h
   rw[a1,a2,kE a3 a5,a4]
   rcases h1 with rfl | h1
   ·exact a6
   ·exact h1
theorem pE {cf:CF} {base n:Nat} {hs:List Hp}:∀ {xs:List Seen} {ys:List dP},qn cf base n xs ys→mW cf base hs ys→ng cf base hs xs
 | [],[],_,_=> trivial
 | x::xs,y::ys,h,⟨h1,h2⟩=>⟨by have:=h.1.1;rw[←this] at h1;exact qV h.1 h1,pE h.2 h2⟩
 | [],_::_,h,_=> h.elim
 | _::_,[],h,_=> h.elim
theorem qo {cf:CF} {base n:Nat}:∀ {ds:List GD} {fr:Fr} {h:Hp} {hs:List Hp} {xs:List Seen} {ys:List dP} {e':Env} {h':Hp} {dh:List Hp} {ys':List dP},fr.length=n→(ds.all fun d=> d.g.fits n)=true→qn cf base n xs ys→
 iw cf base ds (view fr) h hs ys=some (e',h',dh,ys')→∃fr' xs',mH cf base ds fr h hs xs=some (fr',h',dh,xs')∧fr'.length=n∧view fr'=e'∧qn cf base n xs' ys'
 | [],fr,h,hs,xs,ys,e',h',dh,ys',hl,_,hx,hr=> by
   simp only[iw,Option.some.injEq,Prod.mk.injEq] at hr
   obtain ⟨rfl,rfl,rfl,rfl⟩:=hr
   exact ⟨fr,xs,rfl,hl,rfl,hx⟩
 | d::ds,fr,h,hs,xs,ys,e',h',dh,ys',hl,hg,hx,hr=> by
   simp only[List.all_cons,Bool.and_eq_true] at hg
   simp only[iw] at hr
   split at hr
   case h_2=> cases hr
   rename_i v h1 aR
   obtain ⟨p1,p2⟩:=vp (v:=v) hl hg.1
   rw[←p2] at hr
   split at hr
   ·rename_i he
    obtain ⟨fr',xs',q1,q2,q3,q4⟩:=qo p1 hg.2 hx hr
    exact ⟨fr',xs',by simp only[mH];rw[kE hl hg.1,aR];simp only[he,if_true];exact q1,q2,q3,q4⟩
   ·rename_i he
    have hq:h1=h:=by
      have gB:=aR
      rw[←kE hl hg.1] at gB
      exact qQ (by simpa using he) gB
    subst hq
    obtain ⟨fr',xs',q1,q2,q3,q4⟩:=qo p1 hg.2 (nS (x:=⟨d,fr,v⟩) (y:=⟨d,view fr,h1,v⟩) hx ⟨rfl,rfl,hl,rfl,hg.1,aR⟩) hr
    exact ⟨fr',xs',by simp only[mH];rw[kE hl hg.1,aR];simp only[he];exact q1,q2,q3,q4⟩
theorem vq {cf:CF} {base n:Nat}:∀ {c:C} {fr:Fr} {h:Hp} {ex:Ex} {e':Env} {h':Hp},fr.length=n→c.fits n=true→cW cf base c (view fr) h=some (ex,e',h')→
 ∃fr',exec cf base c fr h=some (ex,fr',h')∧fr'.length=n∧view fr'=e':=by
 intro c
 induction c with
 | skip=>
   intro fr h ex e' h' hl hc hr
   simp only[cW,Option.some.injEq,Prod.mk.injEq] at hr
   obtain ⟨rfl,rfl,rfl⟩:=hr
   exact ⟨fr,rfl,hl,rfl⟩
 | exit id=>
   intro fr h ex e' h' hl hc hr
   simp only[cW,Option.some.injEq,Prod.mk.injEq] at hr
   obtain ⟨rfl,rfl,rfl⟩:=hr
   exact ⟨fr,rfl,hl,rfl⟩
 | ret=>
   intro fr h ex e' h' hl hc hr
   simp only[cW,Option.some.injEq,Prod.mk.injEq] at hr
   obtain ⟨rfl,rfl,rfl⟩:=hr
   exact ⟨fr,rfl,hl,rfl⟩
 | af gs=>
   intro fr h ex e' h' hl hc hr
   simp only[cW] at hr
   obtain ⟨⟨a,b⟩,hq,he⟩:=Option.map_eq_some_iff.1 hr
   simp only[Prod.mk.injEq] at he
   obtain ⟨rfl,rfl,rfl⟩:=he
   obtain ⟨fr',q1,q2,q3⟩:=yG hl hc hq
   exact ⟨fr',by simp only[exec,q1];rfl,q2,q3⟩
 | bL ds=>
   intro fr h ex e' h' hl hc hr
   simp only[cW] at hr
   obtain ⟨⟨a,b⟩,hq,he⟩:=Option.map_eq_some_iff.1 hr
   simp only[Prod.mk.injEq] at he
   obtain ⟨rfl,rfl,rfl⟩:=he
   unfold Jd at hq
   split at hq
   case h_2=> cases hq
   rename_i e1 h1 hs xs hd
   split at hq
   case isFalse=> cases hq
   rename_i gP
   cases hq
   obtain ⟨fr',xs',q1,q2,q3,q4⟩:=qo hl hc (xs:=[]) (ys:=[]) trivial hd
   have FB:inB fr.length ds:=fun d hd t ht=> by
     have:=List.all_eq_true.1 hc d hd
     simp only[G.fits,ht,Bool.and_eq_true,decide_eq_true_eq] at this
     rw[hl];exact this.1
   exact ⟨fr',by simp only[exec,Vm.bL,q1];rw[if_pos ⟨FB,pE q4 gP⟩];rfl,q2,q3⟩
 | seq a b iha ihb=>
   intro fr h ex e' h' hl hc hr
   simp only[C.fits,Bool.and_eq_true] at hc
   simp only[cW] at hr
   split at hr
   ·rename_i e1 h1 hx
    obtain ⟨f1,q1,q2,q3⟩:=iha hl hc.1 hx
    rw[←q3] at hr
    obtain ⟨f2,q4,q5,q6⟩:=ihb q2 hc.2 hr
    exact ⟨f2,by simp only[exec,q1];exact q4,q5,q6⟩
   ·rename_i cD
    obtain ⟨f1,q1,q2,q3⟩:=iha hl hc.1 hr
    refine ⟨f1,?_,q2,q3⟩
    simp only[exec,q1]
    cases ex with
    | normal=> exact absurd hr (cD e' h')
    | exit id=> rfl
    | ret=> rfl
 | cond x a b iha ihb=>
   intro fr h ex e' h' hl hc hr
   simp only[C.fits,Bool.and_eq_true] at hc
   simp only[cW] at hr
   simp only[exec,evX]
   split at hr
   ·rename_i he;rw[he];exact iha hl hc.1 hr
   ·rename_i he;rw[he];exact ihb hl hc.2 hr
   ·cases hr
 | block id a iha=>
   intro fr h ex e' h' hl hc hr
   simp only[C.fits] at hc
   simp only[cW] at hr
   split at hr
   ·rename_i id' e1 h1 hx
    obtain ⟨f1,q1,q2,q3⟩:=iha hl hc hx
    split at hr
    ·rename_i hid
     simp only[Option.some.injEq,Prod.mk.injEq] at hr
     obtain ⟨rfl,rfl,rfl⟩:=hr
     exact ⟨f1,by simp only[exec,q1,hid,if_true],q2,q3⟩
    ·rename_i hid
     simp only[Option.some.injEq,Prod.mk.injEq] at hr
     obtain ⟨rfl,rfl,rfl⟩:=hr
     exact ⟨f1,by simp only[exec,q1,hid,if_false],q2,q3⟩
   ·rename_i cD
    obtain ⟨f1,q1,q2,q3⟩:=iha hl hc hr
    refine ⟨f1,?_,q2,q3⟩
    simp only[exec,q1]
    cases ex with
    | exit id=> exact absurd hr (cD id e' h')
    | normal=> rfl
    | ret=> rfl
 | loop a iha=>
   intro fr h ex e' h' hl hc hr
   simp only[C.fits] at hc
   simp only[cW] at hr
   obtain ⟨k,hk⟩:=oJ.1 hr
   have key:∀(k:Nat) (fr:Fr) (h:Hp),fr.length=n→gf (cW cf base a) k (view fr) h=some (ex,e',h')→∃fr',iter (exec cf base a) k fr h=some (ex,fr',h')∧fr'.length=n∧view fr'=e':=by
     intro k
     induction k with
     | zero=> intro fr h hl hk;simp[gf] at hk
     | succ k ih=>
       intro fr h hl hk
       simp only[gf] at hk
       split at hk
       ·rename_i e1 h1 hx
        obtain ⟨f1,q1,q2,q3⟩:=iha hl hc hx
        rw[←q3] at hk
        obtain ⟨f2,q4,q5,q6⟩:=ih f1 h1 q2 hk
        exact ⟨f2,by simp only[iter,q1];exact q4,q5,q6⟩
       ·rename_i cD
        obtain ⟨f1,q1,q2,q3⟩:=iha hl hc hk
        refine ⟨f1,?_,q2,q3⟩
        simp only[iter,q1]
        cases ex with
        | normal=> exact absurd hk (cD e' h')
        | exit id=> rfl
        | ret=> rfl
   obtain ⟨fr',q1,q2,q3⟩:=key k fr h hl hk
   exact ⟨fr',by simp only[exec];exact gv.2 ⟨k,q1⟩,q2,q3⟩
abbrev bK :=Ex→Env→Hp→Prop
section
variable (cf : CF) (base : Nat)
def wp (c:C) (e:Env) (h:Hp) (Q:bK):Prop:=∃ex e' h',cW cf base c e h=some (ex,e',h')∧Q ex e' h'
def wpG (gs:List G) (e:Env) (h:Hp) (Q:bK):Prop:=∃e' h',yD cf base gs e h=some (e',h')∧Q .normal e' h'
def wpS (r:Option (V×Hp)) (d:Option Nat) (gs:List G) (e:Env) (Q:bK):Prop:=
 match r with
 | some (v,h')=> wpG cf base gs (e.put d v) h' Q
 | none=> False
def FN (r:Option Bool) (g:G) (gs:List G) (e:Env) (h:Hp) (Q:bK):Prop:=
 match r with
 | some true=> wpS cf base (aB cf base h g.op (g.xs.map (X.on e))) g.dst gs e Q
 | some false=> wpG cf base gs (e.put g.dst (.bI [])) h Q
 | none=> False
def yH (ds:List GD) (e:Env) (h:Hp) (hs:List Hp) (xs:List dP) (Q:bK):Prop:=∃e' h' dh xs',iw cf base ds e h hs xs=some (e',h',dh,xs')∧mW cf base dh xs'∧Q .normal e' h'
def wpT (r:Option (V×Hp)) (d:GD) (ds:List GD) (e:Env) (h:Hp) (hs:List Hp) (xs:List dP) (Q:bK):Prop:=
 match r with
 | some (v,h')=> if d.g.op.bQ=true then yH cf base ds (e.put d.g.dst v) h' (hs++[h]) xs Q else yH cf base ds (e.put d.g.dst v) h hs (xs++[⟨d,e,h,v⟩]) Q
 | none=> False
def wpC (v:V) (a b:C) (e:Env) (h:Hp) (Q:bK):Prop:=
 match v with
 | .s (.bool true)=> wp cf base a e h Q
 | .s (.bool false)=> wp cf base b e h Q
 | _=> False
def AZ (b:C) (Q:bK):bK
 | .normal,e,h=> wp cf base b e h Q
 | ex,e,h=> Q ex e h
def gp (id:Nat) (Q:bK):bK
 | .exit i,e,h=> if i=id then Q .normal e h else Q (.exit i) e h
 | ex,e,h=> Q ex e h
def CC (a:C) (Q:bK):bK
 | .normal,e,h=> wp cf base (.loop a) e h Q
 | ex,e,h=> Q ex e h
theorem FO {α β γ:Type} {a:α} {b:β} {c:γ} {Q:α→β→γ→Prop}:(∃x y z,some (a,b,c)=some (x,y,z)∧Q x y z)↔Q a b c:=by
 constructor
 ·rintro ⟨x,y,z,h,hq⟩;cases h;exact hq
 ·intro h;exact ⟨a,b,c,rfl,h⟩
theorem ex2 {α β:Type} {a:α} {b:β} {Q:α→β→Prop}:(∃x y,some (a,b)=some (x,y)∧Q x y)↔Q a b:=by
 constructor
 ·rintro ⟨x,y,h,hq⟩;cases h;exact hq
 ·intro h;exact ⟨a,b,rfl,h⟩
theorem wp_skip (e:Env) (h:Hp) (Q:bK):wp cf base .skip e h Q=Q .normal e h:=by simp only[wp,cW,FO]
theorem wp_ret (e:Env) (h:Hp) (Q:bK):wp cf base .ret e h Q=Q .ret e h:=by simp only[wp,cW,FO]
theorem wp_exit (id:Nat) (e:Env) (h:Hp) (Q:bK):wp cf base (.exit id) e h Q=Q (.exit id) e h:=by simp only[wp,cW,FO]
theorem Q3 (gs:List G) (e:Env) (h:Hp) (Q:bK):wp cf base (.af gs) e h Q=wpG cf base gs e h Q:=by
 simp only[wp,wpG,cW,eq_iff_iff]
 constructor
 ·rintro ⟨ex,e',h',hx,hq⟩
  obtain ⟨⟨a,b⟩,h1,h2⟩:=Option.map_eq_some_iff.1 hx
  cases h2;exact ⟨_,_,h1,hq⟩
 ·rintro ⟨e',h',hx,hq⟩
  exact ⟨_,_,_,by rw[hx];rfl,hq⟩
theorem LL (ds:List GD) (e:Env) (h:Hp) (Q:bK):wp cf base (.bL ds) e h Q=yH cf base ds e h [] [] Q:=by
 simp only[wp,yH,cW,eq_iff_iff,Jd]
 constructor
 ·rintro ⟨ex,e',h',hx,hq⟩
  obtain ⟨⟨a,b⟩,h1,h2⟩:=Option.map_eq_some_iff.1 hx
  cases h2
  split at h1
  case h_2=> cases h1
  rename_i hd
  split at h1
  case isFalse=> cases h1
  rename_i gP
  cases h1
  exact ⟨_,_,_,_,hd,gP,hq⟩
 ·rintro ⟨e',h',hs,xs,hx,gP,hq⟩
  exact ⟨_,_,_,by rw[hx];simp only[gP,if_true];rfl,hq⟩
theorem LM (e:Env) (h:Hp) (Q:bK):wpG cf base [] e h Q=Q .normal e h:=by simp only[wpG,yD,ex2]
theorem Jg (g:G) (gs:List G) (e:Env) (h:Hp) (Q:bK):wpG cf base (g::gs) e h Q=FN cf base (qU e g.guard) g gs e h Q:=by
 simp only[wpG,yD,eH,eq_iff_iff]
 cases hw:qU e g.guard with
 | none=> simp[FN]
 | some b=>
   cases b with
   | false=> simp only[FN];exact Iff.rfl
   | true=>
     simp only[FN]
     cases ho:aB cf base h g.op (g.xs.map (X.on e)) with
     | none=> simp[wpS]
     | some r=> obtain ⟨v,h'⟩:=r;simp only[wpS];exact Iff.rfl
theorem LN (e:Env) (h:Hp) (hs:List Hp) (xs:List dP) (Q:bK):yH cf base [] e h hs xs Q=(mW cf base (hs++[h]) xs∧Q .normal e h):=by
 simp only[yH,iw,eq_iff_iff]
 constructor
 ·rintro ⟨a,b,c,d,h1,h2,h3⟩;cases h1;exact ⟨h2,h3⟩
 ·rintro ⟨h2,h3⟩;exact ⟨_,_,_,_,rfl,h2,h3⟩
theorem Ej (d:GD) (ds:List GD) (e:Env) (h:Hp) (hs:List Hp) (xs:List dP) (Q:bK):yH cf base (d::ds) e h hs xs Q=wpT cf base (eH cf base e h d.g) d ds e h hs xs Q:=by
 simp only[yH,iw,eq_iff_iff]
 cases ho:eH cf base e h d.g with
 | none=> simp[wpT]
 | some r=>
   obtain ⟨v,h'⟩:=r
   simp only[wpT]
   cases d.g.op.bQ <;> simp[yH]
theorem wp_seq (a b:C) (e:Env) (h:Hp) (Q:bK):wp cf base (.seq a b) e h Q=wp cf base a e h (AZ cf base b Q):=by
 simp only[wp,cW,eq_iff_iff]
 cases hx:cW cf base a e h with
 | none=> simp
 | some r=>
   obtain ⟨ex,e1,h1⟩:=r
   cases ex with
   | normal=> simp only[AZ,wp,FO]
   | exit id=> simp only[AZ,FO]
   | ret=> simp only[AZ,FO]
theorem wp_block (id:Nat) (a:C) (e:Env) (h:Hp) (Q:bK):wp cf base (.block id a) e h Q=wp cf base a e h (gp id Q):=by
 simp only[wp,cW,eq_iff_iff]
 cases hx:cW cf base a e h with
 | none=> simp
 | some r=>
   obtain ⟨ex,e1,h1⟩:=r
   cases ex with
   | normal=> simp only[gp,FO]
   | exit i=> by_cases hi:i=id <;> simp only[gp,hi,if_true,if_false,FO]
   | ret=> simp only[gp,FO]
theorem wp_cond (x:X) (a b:C) (e:Env) (h:Hp) (Q:bK):wp cf base (.cond x a b) e h Q=wpC cf base (x.on e) a b e h Q:=by
 simp only[wp,cW,eq_iff_iff,wpC]
 split <;> simp[wp]
theorem wp_loop (a:C) (e:Env) (h:Hp) (Q:bK):wp cf base (.loop a) e h Q=wp cf base a e h (CC cf base a Q):=by
 simp only[wp,cW,eq_iff_iff]
 rw[Je]
 cases hx:cW cf base a e h with
 | none=> simp
 | some r=>
   obtain ⟨ex,e1,h1⟩:=r
   cases ex with
   | normal=> simp only[CC,wp,cW,FO]
   | exit i=> simp only[CC,FO]
   | ret=> simp only[CC,FO]
theorem wp_mono {c:C} {e:Env} {h:Hp} {Q Q':bK} (hw:wp cf base c e h Q) (hq:∀ex e' h',Q ex e' h'→Q' ex e' h'):wp cf base c e h Q':=by
 obtain ⟨ex,e',h',h1,h2⟩:=hw
 exact ⟨ex,e',h',h1,hq _ _ _ h2⟩
theorem Jh (v:V) (h':Hp) (d:Option Nat) (gs:List G) (e:Env) (Q:bK):wpS cf base (some (v,h')) d gs e Q=wpG cf base gs (e.put d v) h' Q:=rfl
theorem Ji (g:G) (gs:List G) (e:Env) (h:Hp) (Q:bK):FN cf base (some true) g gs e h Q=wpS cf base (aB cf base h g.op (g.xs.map (X.on e))) g.dst gs e Q:=rfl
theorem Ek (g:G) (gs:List G) (e:Env) (h:Hp) (Q:bK):FN cf base (some false) g gs e h Q=wpG cf base gs (e.put g.dst (.bI [])) h Q:=rfl
theorem Jj (p:Bool) (a b:C) (e:Env) (h:Hp) (Q:bK):wpC cf base (.s (.bool p)) a b e h Q=if p=true then wp cf base a e h Q else wp cf base b e h Q:=by cases p <;> rfl
theorem Jk (a b:C) (e:Env) (h:Hp) (Q:bK):wpC cf base (.s (.bool true)) a b e h Q=wp cf base a e h Q:=rfl
theorem El (a b:C) (e:Env) (h:Hp) (Q:bK):wpC cf base (.s (.bool false)) a b e h Q=wp cf base b e h Q:=rfl
theorem yI (b:C) (Q:bK) (e:Env) (h:Hp):AZ cf base b Q .normal e h=wp cf base b e h Q:=rfl
theorem Jl (b:C) (Q:bK) (e:Env) (h:Hp):AZ cf base b Q .ret e h=Q .ret e h:=rfl
theorem Em (b:C) (Q:bK) (i:Nat) (e:Env) (h:Hp):AZ cf base b Q (.exit i) e h=Q (.exit i) e h:=rfl
theorem tS (id:Nat) (Q:bK) (e:Env) (h:Hp):gp id Q .normal e h=Q .normal e h:=rfl
theorem A0 (id:Nat) (Q:bK) (e:Env) (h:Hp):gp id Q .ret e h=Q .ret e h:=rfl
theorem qW (id:Nat) (Q:bK) (i:Nat) (e:Env) (h:Hp):gp id Q (.exit i) e h=if i=id then Q .normal e h else Q (.exit i) e h:=rfl
theorem En (d:GD) (e:Env) (h:Hp) (v:V):y9 cf base ⟨d,e,h,v⟩ h=True:=by simp[y9]
end
theorem fU {cf:CF} {base:Nat} {hs:List Hp}:∀ {xs ys:List dP},mW cf base hs (xs++ys)↔mW cf base hs xs∧mW cf base hs ys
 | [],ys=> by simp[mW]
 | x::xs,ys=> by simp only[List.cons_append,mW,fU,and_assoc]
theorem ez {cf:CF} {base:Nat}:∀ {ds:List GD} {e:Env} {h:Hp} {hs:List Hp} {xs:List dP} {r:Env×Hp×List Hp×List dP},
 iw cf base ds e h hs xs=some r↔∃zs,r.2.2.2=xs++zs∧iw cf base ds e h hs []=some (r.1,r.2.1,r.2.2.1,zs)
 | [],e,h,hs,xs,r=> by
   obtain ⟨a,b,c,d⟩:=r
   simp only[iw,Option.some.injEq,Prod.mk.injEq]
   constructor
   ·rintro ⟨rfl,rfl,rfl,rfl⟩;exact ⟨[],by simp,rfl,rfl,rfl,rfl⟩
   ·rintro ⟨zs,rfl,rfl,rfl,rfl,rfl⟩;simp
 | d::ds,e,h,hs,xs,r=> by
   simp only[iw]
   cases eH cf base e h d.g with
   | none=> simp
   | some q=>
     obtain ⟨v,h'⟩:=q
     simp only
     split
     ·exact ez
     ·rw[@ez cf base ds (e.put d.g.dst v) h hs (xs++[dP.mk d e h v]) r]
      constructor
      ·rintro ⟨zs,h1,h2⟩
       exact ⟨dP.mk d e h v::zs,by rw[h1];simp,ez.2 ⟨zs,by simp,h2⟩⟩
      ·rintro ⟨zs,h1,h2⟩
       obtain ⟨ys,h3,h4⟩:=ez.1 h2
       simp only[List.nil_append] at h3
       exact ⟨ys,by rw[h1,h3];simp,h4⟩
theorem tC {cf:CF} {base:Nat}:∀ {ds:List GD} {e:Env} {h:Hp} {hs:List Hp} {xs:List dP} {r:Env×Hp×List Hp×List dP},
 iw cf base ds e h hs xs=some r→∃ks,r.2.2.1=hs++h::ks
 | [],e,h,hs,xs,r,hr=> by
   simp only[iw,Option.some.injEq] at hr
   subst hr;exact ⟨[],rfl⟩
 | d::ds,e,h,hs,xs,r,hr=> by
   simp only[iw] at hr
   split at hr
   case h_2=> cases hr
   rename_i v h' aR
   split at hr
   ·obtain ⟨ks,hk⟩:=tC hr
    exact ⟨h'::ks,by rw[hk];simp⟩
   ·exact tC hr
def GD.calm (d:GD) (n:Nat):Bool:=d.g.op.indep || (d.lo==n && d.hi==n)
theorem yJ {cf:CF} {base:Nat} {g:G} (hi:g.op.indep=true) {e:Env} {h h':Hp} {v:V} (hr:eH cf base e h g=some (v,h')) (h2:Hp):eH cf base e h2 g=some (v,h2):=by
 unfold eH at hr ⊢
 split at hr
 ·exact qj hi hr h2
 ·cases hr;rfl
 ·cases hr
section
variable (cf : CF) (base : Nat)
def wpL (r:Option (V×Hp)) (d:GD) (ds:List GD) (e:Env) (h:Hp) (hs:List Hp) (xs:List dP) (Q:bK):Prop:=
 match r with
 | some (v,h')=> if d.g.op.bQ=true then yH cf base ds (e.put d.g.dst v) h' (hs++[h]) xs Q else if d.calm hs.length=true then yH cf base ds (e.put d.g.dst v) h hs xs Q else yH cf base ds (e.put d.g.dst v) h hs (xs++[⟨d,e,h,v⟩]) Q
 | none=> False
theorem yK {cf:CF} {base:Nat} {x:dP}:∀ {hs:List Hp},(∀h∈hs,y9 cf base x h)→Ei cf base x hs
 | [],_=> trivial
 | h::hs,k=>⟨k h (by simp),yK fun y hy=> k y (by simp[hy])⟩
theorem Jm (d:GD) (ds:List GD) (e:Env) (h:Hp) (hs:List Hp) (xs:List dP) (Q:bK):yH cf base (d::ds) e h hs xs Q=wpL cf base (eH cf base e h d.g) d ds e h hs xs Q:=by
 rw[Ej]
 cases aR:eH cf base e h d.g with
 | none=> rfl
 | some q=>
   obtain ⟨v,h'⟩:=q
   simp only[wpT,wpL]
   by_cases he:d.g.op.bQ=true
   ·simp only[he,if_true]
   ·simp only[he]
    by_cases hc:d.calm hs.length=true
    ·simp only[hc,if_true,eq_iff_iff]
     have gP:∀ks,Ei cf base ⟨d,e,h,v⟩ (((hs++h::ks).drop d.lo).take (d.hi+1 - d.lo)):=by
       intro ks
       simp only[GD.calm,Bool.or_eq_true,Bool.and_eq_true,beq_iff_eq] at hc
       rcases hc with hc | ⟨h1,h2⟩
       ·exact yK fun k _=> .inr (yJ hc aR k)
       ·rw[h1,h2]
        simp only[List.drop_left,Nat.add_sub_cancel_left]
        exact ⟨.inl rfl,trivial⟩
     simp only[yH]
     constructor
     ·rintro ⟨e',k',dh,xs',h1,h2,h3⟩
      obtain ⟨zs,h4,h5⟩:=ez.1 h1
      simp only at h4 h5
      subst h4
      refine ⟨e',k',dh,xs++zs,ez.2 ⟨zs,rfl,h5⟩,?_,h3⟩
      rw[fU] at h2 ⊢
      exact ⟨(fU.1 h2.1).1,h2.2⟩
     ·rintro ⟨e',k',dh,xs',h1,h2,h3⟩
      obtain ⟨zs,h4,h5⟩:=ez.1 h1
      simp only at h4 h5
      subst h4
      refine ⟨e',k',dh,xs++[⟨d,e,h,v⟩]++zs,ez.2 ⟨zs,rfl,h5⟩,?_,h3⟩
      rw[fU] at h2 ⊢
      refine ⟨fU.2 ⟨h2.1,?_,trivial⟩,h2.2⟩
      obtain ⟨ks,hk⟩:=tC h1
      simp only at hk
      rw[hk];exact gP ks
    ·simp only[hc,Bool.false_eq_true,if_false]
theorem Jn (v:V) (h':Hp) (d:GD) (ds:List GD) (e:Env) (h:Hp) (hs:List Hp) (xs:List dP) (Q:bK):wpL cf base (some (v,h')) d ds e h hs xs Q=if d.g.op.bQ=true then yH cf base ds (e.put d.g.dst v) h' (hs++[h]) xs Q else if d.calm hs.length=true then yH cf base ds (e.put d.g.dst v) h hs xs Q else yH cf base ds (e.put d.g.dst v) h hs (xs++[⟨d,e,h,v⟩]) Q:=rfl
end
def LO (e:Env) (h:Hp):Rs→Option V
 | .t n=> some (e n)
 | .cell n g=>(re h g (e n)).map (·.1)
def eb (e:Env) (h:Hp):List Rs→Option (List V)
 | []=> some []
 | r::rs=> match LO e h r,eb e h rs with | some v,some vs=> some (v::vs) | _,_=> none
theorem tD {fr:Fr} {h:Hp}:∀ {rs:List Rs},jV fr h rs=eb (view fr) h rs
 | []=> rfl
 | r::rs=> by
   have:Lm fr h r=LO (view fr) h r:=by cases r <;> rfl
   simp only[jV,eb,this,tD]
   rfl
def LP (r:Option V) (n:Nat) (h:Hp) (q:V×Hp):Prop:=
 match r with
 | some v=> q=(v,h.take n)
 | none=> False
def Eo (r:Option (List V)) (n:Nat) (h:Hp) (q:V×Hp):Prop:=
 match r with
 | some vs=> LP (bA n h (oB vs)) n h q
 | none=> False
def A1 (r:Option (List V)) (h:Hp) (q:V×Hp):Prop:=
 match r with
 | some vs=> q=(oB vs,h)
 | none=> False
def Ep (r:Option (List V)) (h:Hp) (Q:V→Hp→Prop):Prop:=
 match r with
 | some vs=> Q (oB vs) h
 | none=> False
def LQ (res:List Rs) (n:Nat) (q:V×Hp):bK
 | .exit _,_,_=> False
 | _,e,h=> Eo (eb e h res) n h q
def Jo (res:List Rs) (q:V×Hp):bK
 | .exit _,_,_=> False
 | _,e,h=> A1 (eb e h res) h q
theorem CD (F:Fn) (args:List V):view (lL F args)=e0 args:=by
 funext t
 simp only[view,lL,e0,List.getD_eq_getElem?_getD,List.getElem?_append]
 split
 ·rfl
 ·rename_i ht
  rw[List.getElem?_eq_none (Nat.le_of_not_lt ht),List.getElem?_replicate]
  split <;> rfl
theorem CE {F:Fn} {args:List V} (h:args.length≤F.nt):(lL F args).length=F.nt:=by simp[lL];omega
theorem WI {cf:Nat→CF} {base nt:Nat} {B:C} {res:List Rs} {args:List V} {h:Hp} {q:V×Hp} (hn:args.length≤nt) (hf:B.fits nt=true) (hw:wp (cf h.length) h.length B (e0 args) h (LQ res h.length q)):
 ke cf base ⟨nt,B,res,true⟩ args h=some q:=by
 obtain ⟨ex,e',h',hx,hq⟩:=hw
 rw[←CD ⟨nt,B,res,true⟩] at hx
 obtain ⟨fr',h1,h2,h3⟩:=vq (CE hn) hf hx
 unfold ke
 simp only[if_true,h1]
 have key:Eo (eb e' h' res) h.length h' q→(match jV fr' h' res with
  | some vs=> match bA h.length h' (oB vs) with
    | some v=> some (v,h'.take h.length)
    | none=> none
  | none=> none)=some q:=by
   intro hq
   rw[tD,h3]
   unfold Eo LP at hq
   split at hq
   ·rename_i vs sa
    split at hq
    ·rw[hq]
    ·cases hq
   ·cases hq
 cases ex with
 | exit i=> exact hq.elim
 | normal=> exact key hq
 | ret=> exact key hq
theorem WJ {cf:Nat→CF} {base nt:Nat} {B:C} {res:List Rs} {args:List V} {h:Hp} {q:V×Hp} (hn:args.length≤nt) (hf:B.fits nt=true) (hw:wp (cf base) base B (e0 args) h (Jo res q)):
 ke cf base ⟨nt,B,res,false⟩ args h=some q:=by
 obtain ⟨ex,e',h',hx,hq⟩:=hw
 rw[←CD ⟨nt,B,res,false⟩] at hx
 obtain ⟨fr',h1,h2,h3⟩:=vq (CE hn) hf hx
 unfold ke
 simp only[h1,Bool.false_eq_true,if_false]
 have key:A1 (eb e' h' res) h' q→(match jV fr' h' res with
  | some vs=> some (oB vs,h')
  | none=> none)=some q:=by
   intro hq
   rw[tD,h3]
   unfold A1 at hq
   split at hq
   ·rw[hq]
   ·cases hq
 cases ex with
 | exit i=> exact hq.elim
 | normal=> exact key hq
 | ret=> exact key hq
section
variable {fns : Nat → Option Fn} {pr : CF} {f base nt : Nat} {B : C} {res : List Rs} {args : List V} {h : Hp} {q : V × Hp}
theorem aU (hF:fns f=some ⟨nt,B,res,true⟩) (hf:B.fits nt=true) (hn:args.length≤nt) (hw:wp (run fns pr h.length) h.length B (e0 args) h (LQ res h.length q)):run fns pr base f args h=some q:=by
 rw[run_eq fns pr hF];exact WI hn hf hw
theorem runN (hF:fns f=some ⟨nt,B,res,false⟩) (hf:B.fits nt=true) (hn:args.length≤nt) (hw:wp (run fns pr base) base B (e0 args) h (Jo res q)):run fns pr base f args h=some q:=by
 rw[run_eq fns pr hF];exact WJ hn hf hw
def Q4 (res:List Rs) (Q:V→Hp→Prop):bK
 | .exit _,_,_=> False
 | _,e,h=> Ep (eb e h res) h Q
theorem dZ (hF:fns f=some ⟨nt,B,res,false⟩) (hf:B.fits nt=true) (hn:args.length≤nt) {Q:V→Hp→Prop} (hw:wp (run fns pr base) base B (e0 args) h (Q4 res Q)):∃v h',run fns pr base f args h=some (v,h')∧Q v h':=by
 obtain ⟨ex,e',h',hx,hq⟩:=hw
 have key:∀(ex:Ex),ex= .normal∨ex= .ret→cW (run fns pr base) base B (e0 args) h=some (ex,e',h')→Ep (eb e' h' res) h' Q→∃v h',run fns pr base f args h=some (v,h')∧Q v h':=by
   intro ex he hx hq
   unfold Ep at hq
   split at hq
   ·rename_i vs sa
    refine ⟨oB vs,h',runN hF hf hn ⟨ex,e',h',hx,?_⟩,hq⟩
    rcases he with rfl | rfl <;> simp only[Jo,sa,A1]
   ·exact hq.elim
 cases ex with
 | exit i=> exact hq.elim
 | normal=> exact key _ (.inl rfl) hx hq
 | ret=> exact key _ (.inr rfl) hx hq
end
end Go.Vm
namespace Go.Vm
theorem YG (e:Env) (n:Nat):X.on e (.t n)=e n:=rfl
theorem YH (e:Env) (v:V):X.on e (.c v)=v:=rfl
theorem WK (e:Env) (t:Nat) (v:V) (n:Nat):Env.up e t v n=if n=t then v else e n:=rfl
theorem Jp (e:Env) (t:Nat) (v:V):Env.put e (some t) v=e.up t v:=rfl
theorem Jq (e:Env) (v:V):Env.put e none v=e:=rfl
theorem WL (args:List V) (n:Nat):e0 args n=args.getD n (.bI []):=rfl
theorem A2 (e:Env):qU e none=some true:=rfl
theorem A3 (e:Env) (t:Nat) (b:Bool):qU e (some (t,b))=tz (e t) b:=rfl
theorem A4 (c b:Bool):tz (.s (.bool c)) b=some (c==b):=rfl
theorem Er (b:Bool):tz (.bI []) b=some false:=rfl
def LS (a b:Option (List Int)) (neg:Bool) (h:Hp):Option (V×Hp):=
 match a,b with
 | some a,some b=> js (.bool (if neg then !(a==b) else a==b)) h
 | _,_=> none
theorem uf (a b:List Int) (neg:Bool) (h:Hp):LS (some a) (some b) neg h=some (.s (.bool (if neg=true then !decide (a=b) else decide (a=b))),h):=by
 simp only[LS,js,Bool.beq_eq_decide_eq]
def faR (v:Option V) (t i id:Nat) (p:List Nat) (aw:Nat) (h:Hp):Option (V×Hp):=
 match v with
 | some (.st t' fs)=> if t'=t∧i < fs.length then some (.ptr id (p++[i]) aw,h) else none
 | _=> none
theorem Jr (t t' i id:Nat) (p:List Nat) (aw:Nat) (h:Hp) (fs:List V):faR (some (.st t' fs)) t i id p aw h=if t'=t∧i < fs.length then some (.ptr id (p++[i]) aw,h) else none:=rfl
def WM (v:Option V) (t:Nat) (i:Int) (id:Nat) (p:List Nat) (aw:Nat) (h:Hp):Option (V×Hp):=
 match v with
 | some (.arr t' es)=> if t'=t∧0≤i∧i < es.length then some (.ptr id (p++[i.toNat]) aw,h) else none
 | _=> none
theorem Es (t t':Nat) (i:Int) (id:Nat) (p:List Nat) (aw:Nat) (h:Hp) (es:List V):WM (some (.arr t' es)) t i id p aw h=if t'=t∧0≤i∧i < es.length then some (.ptr id (p++[i.toNat]) aw,h) else none:=rfl
def WN (r:Option (List V)) (g:Option Nat) (i:Int) (id:Nat) (p:List Nat) (g':Option Nat) (off len aw:Nat) (h:Hp):Option (V×Hp):=
 match r with
 | some es=> if g'=g∧0≤i∧i < len∧off+i.toNat < es.length then some (.ptr id (p++[off+i.toNat]) aw,h) else none
 | none=> none
theorem Et (es:List V) (g:Option Nat) (i:Int) (id:Nat) (p:List Nat) (g':Option Nat) (off len aw:Nat) (h:Hp):WN (some es) g i id p g' off len aw h=if g'=g∧0≤i∧i < len∧off+i.toNat < es.length then some (.ptr id (p++[off+i.toNat]) aw,h) else none:=rfl
def ldR (v:Option V) (g:Option Nat) (h:Hp):Option (V×Hp):=
 match v with
 | some v=> if v.ty=g then some (v,h) else none
 | none=> none
theorem Js (v:V) (g:Option Nat) (h:Hp):ldR (some v) g h=if v.ty=g then some (v,h) else none:=rfl
def WO (v:Option V) (h':Option Hp) (g:Option Nat) (base id:Nat) (y:V):Option (V×Hp):=
 match v with
 | some v=> if v.ty=g∧y.ty=g∧y.ax=true∧bO base id y=true then h'.map fun h'=>(.bI [],h') else none
 | none=> none
theorem Eu (v:V) (h':Hp) (g:Option Nat) (base id:Nat) (y:V):WO (some v) (some h') g base id y=if v.ty=g∧y.ty=g∧y.ax=true∧bO base id y=true then some (.bI [],h') else none:=rfl
def LU (es:Option (List V)) (g:Option Nat) (h:Hp):Option (V×Hp):=
 match es with
 | some es=> if es.isEmpty then some (.al true g [],h) else some (.ref h.length [] g 0 es.length es.length,h++[.cells g es])
 | none=> none
theorem ud (e:V) (es:List V) (g:Option Nat) (h:Hp):LU (some (e::es)) g h=some (.ref h.length [] g 0 (e::es).length (e::es).length,h++[.cells g (e::es)]):=rfl
def Ev (b:Option aV) (g:Option Nat) (id n:Nat) (h:Hp):Option (V×Hp):=
 match b with
 | some (.cells g' es)=> if es.length=n∧g=g' then some (.al false g' es,h.set id .dead) else none
 | some (.lit g' es)=> if es.length=n∧g=g' then some (.al true g' es,h.set id .dead) else none
 | _=> none
theorem A5 (g:Option Nat) (es:List V) (id n:Nat) (h:Hp):Ev (some (.cells g es)) g id n h=if es.length=n then some (.al false g es,h.set id .dead) else none:=by simp[Ev]
theorem Jt (g:Option Nat) (es:List V) (id n:Nat) (h:Hp):Ev (some (.lit g es)) g id n h=if es.length=n then some (.al true g es,h.set id .dead) else none:=by simp[Ev]
def WQ (es:Option (List V)) (g:Option Nat) (h:Hp):Option (V×Hp):=
 match es with
 | some []=> none
 | some (e::es)=> some (.ref h.length [] g 0 (e::es).length (e::es).length,h++[.lit g (e::es)])
 | none=> none
theorem Ew (e:V) (es:List V) (g:Option Nat) (h:Hp):WQ (some (e::es)) g h=some (.ref h.length [] g 0 (e::es).length (e::es).length,h++[.lit g (e::es)]):=rfl
def WR (b:Option aV) (id:Nat) (h:Hp):Option (V×Hp):=
 match b with
 | some (.fN s pos)=>
   if pos < s.size then some (.bI [.s (.bool true),.s (.int .i64 pos),.s (.int .i32 (Utf8.decode s pos).1)],h.set id (.fN s (pos+(Utf8.decode s pos).2)))
   else some (.bI [.s (.bool false)],h)
 | _=> none
theorem Ey (s:ByteArray) (pos id:Nat) (h:Hp):WR (some (.fN s pos)) id h=if pos < s.size then some (.bI [.s (.bool true),.s (.int .i64 pos),.s (.int .i32 (Utf8.decode s pos).1)],h.set id (.fN s (pos+(Utf8.decode s pos).2))) else some (.bI [.s (.bool false)],h):=rfl
def Ju (b:Option aV) (i:Nat) (p:List Nat) (aw:Nat):Option V:=
 match b with
 | some (.cells _ es)=> if es.length=aw then (es[i]?).bind (nodeAt p) else none
 | _=> none
theorem LV (h:Hp) (id i:Nat) (p:List Nat) (aw:Nat):node h id (i::p) aw=Ju h[id]? i p aw:=by
 unfold node rowOf Ju
 cases h[id]? with
 | none=> rfl
 | some b=>
   cases b with
   | cells g es=>
     by_cases ht:es.length=aw
     ·simp only[ht,if_true];cases es[i]? <;> rfl
     ·simp only[ht,if_false]
   | fN=> rfl
   | map=> rfl
   | lit=> rfl
   | dead=> rfl
theorem A6 (g:Option Nat) (es:List V) (i:Nat) (p:List Nat) (aw:Nat):Ju (some (.cells g es)) i p aw=if es.length=aw then (es[i]?).bind (nodeAt p) else none:=rfl
theorem A7 (v:V):nodeAt [] v=some v:=by cases v <;> rfl
theorem Ez (i:Nat) (p:List Nat) (t:Nat) (fs:List V):nodeAt (i::p) (.st t fs)=(fs[i]?).bind (nodeAt p):=by
 simp only[nodeAt];cases fs[i]? <;> rfl
theorem A8 (i:Nat) (p:List Nat) (t:Nat) (fs:List V):nodeAt (i::p) (.arr t fs)=(fs[i]?).bind (nodeAt p):=by
 simp only[nodeAt];cases fs[i]? <;> rfl
theorem EA (y v:V):putAt y [] v=some y:=by cases v <;> rfl
theorem Jv (y:V) (i:Nat) (p:List Nat) (t:Nat) (fs:List V):putAt y (i::p) (.st t fs)=(fs[i]?).bind fun v=>(putAt y p v).map fun v'=> .st t (fs.set i v'):=by
 simp only[putAt];cases fs[i]? <;> rfl
theorem EB (y:V) (i:Nat) (p:List Nat) (t:Nat) (fs:List V):putAt y (i::p) (.arr t fs)=(fs[i]?).bind fun v=>(putAt y p v).map fun v'=> .arr t (fs.set i v'):=by
 simp only[putAt];cases fs[i]? <;> rfl
def A9 (b:Option aV) (h:Hp) (id i:Nat) (p:List Nat) (aw:Nat) (y:V):Option Hp:=
 match b with
 | some (.cells g es)=> if es.length=aw then (es[i]?).bind fun v=>(putAt y p v).map fun v'=> h.set id (.cells g (es.set i v')) else none
 | _=> none
theorem Jw (h:Hp) (id i:Nat) (p:List Nat) (aw:Nat) (y:V):store h id (i::p) aw y=A9 h[id]? h id i p aw y:=by
 unfold store rowOf A9
 cases h[id]? with
 | none=> rfl
 | some b=>
   cases b with
   | cells g es=>
     by_cases ht:es.length=aw
     ·simp only[ht,if_true];cases es[i]? <;> rfl
     ·simp only[ht,if_false]
   | fN=> rfl
   | map=> rfl
   | lit=> rfl
   | dead=> rfl
theorem yL (g:Option Nat) (es:List V) (h:Hp) (id i:Nat) (p:List Nat) (aw:Nat) (y:V):A9 (some (.cells g es)) h id i p aw y=if es.length=aw then (es[i]?).bind fun v=>(putAt y p v).map fun v'=> h.set id (.cells g (es.set i v')) else none:=rfl
def WS (b:Option aV) (aw:Nat):Option (Option Nat×List V):=
 match b with
 | some (.cells g es)=> if es.length=aw then some (g,es) else none
 | _=> none
theorem Jx (h:Hp) (id aw:Nat):rowOf h id aw=WS h[id]? aw:=rfl
theorem EC (g:Option Nat) (es:List V) (aw:Nat):WS (some (.cells g es)) aw=if es.length=aw then some (g,es) else none:=rfl
theorem ED (h:Hp) (id aw:Nat):rowAt h id [] aw=(rowOf h id aw).map (·.2):=rfl
def Q5 :Option V→Option (List V)
 | some (.arr _ es)=> some es
 | _=> none
theorem rV (h:Hp) (id i:Nat) (p:List Nat) (aw:Nat):rowAt h id (i::p) aw=Q5 (node h id (i::p) aw):=by
 simp only[rowAt,Q5];rfl
theorem ue (t:Nat) (es:List V):Q5 (some (.arr t es))=some es:=rfl
def U9 (k:IntKind) (a b:Int):Int:=k.wrap (BitVec.ofInt k.bits a &&& BitVec.ofInt k.bits b).toNat
def orI (k:IntKind) (a b:Int):Int:=k.wrap (BitVec.ofInt k.bits a ||| BitVec.ofInt k.bits b).toNat
def Kq (k:IntKind) (a b:Int):Int:=k.wrap (BitVec.ofInt k.bits a ^^^ BitVec.ofInt k.bits b).toNat
def vt (k:IntKind) (a b:Int):Int:=k.wrap (a * 2 ^(min b.toNat k.bits))
def pG (k:IntKind) (a b:Int):Int:=a.fdiv (2 ^(min b.toNat k.bits))
section
variable (cf : CF) (base : Nat) (h : Hp)
theorem Ba (e:Env) (d:Option Nat) (o:O) (xs:List X):eH cf base e h ⟨d,o,xs,none⟩=aB cf base h o (xs.map (X.on e)):=rfl
theorem YI (x:V):aB cf base h .mv [x]=some (x,h):=rfl
theorem Q6 (c:Bool) (a b:V):aB cf base h .pick [.s (.bool c),a,b]=some (if c=true then a else b,h):=rfl
theorem Q7 (f:Nat) (xs:List V):aB cf base h (.call f) xs=cf f xs h:=rfl
theorem LW (f:Nat) (cap xs:List V):aB cf base h .lX (.fn f cap::xs)=cf f (xs++cap) h:=rfl
theorem WT (f:Nat) (xs:List V):aB cf base h (.mkf f) xs=some (.fn f xs,h):=rfl
theorem WU :aB cf base h .nop []=some (.bI [],h):=rfl
theorem WV (g:Option Nat) (x:V) (h1:x.ty=g) (h2:x.ax=true):aB cf base h (.fzp g) [x]=some (.dQ x,h):=by simp[aB,qI,h1,h2]
theorem oW (f:Nat) (xs:List V):aB cf base h (.ie f) xs=sO (cf f xs h) h:=rfl
theorem iM (v:V) (h:Hp):sO (some (v,h)) h=some (v,h):=by simp[sO]
def WW (es:Option (List V)) (g:Option Nat) (h:Hp):Option (V×Hp):=
 match es with
 | some es=> some (.al true g es,h)
 | none=> none
theorem EE (es:List V) (g:Option Nat) (h:Hp):WW (some es) g h=some (.al true g es,h):=rfl
theorem WX (g:Option Nat) (zero:List V) (places:List Nat) (xs:List V):aB cf base h (.Fx g zero places) xs=if places.length=xs.length then WW (bD zero (places.zip xs)) g h else none:=by
 simp only[aB,sP]
 split
 ·cases bD zero (places.zip xs)<;> rfl
 ·rfl
theorem WY (b:Bool):aB cf base h (.un .not) [.s (.bool b)]=some (.s (.bool !b),h):=rfl
theorem jA (op:BinOp) (k:IntKind) (a b:Int) (hs:op≠ .shl∧op≠ .shr):aB cf base h (.bin .num op) [.s (.int k a),.s (.int k b)]=(jN op k a b).bind (js · h):=by
 cases op <;> simp_all [aB,lK,vT]
theorem WZ (k:IntKind) (a b:Int):aB cf base h (.bin .num .add) [.s (.int k a),.s (.int k b)]=some (.s (.int k (k.wrap (a+b))),h):=by rw[jA _ _ _ _ _ _ _ (by simp)];rfl
theorem W0 (k:IntKind) (a b:Int):aB cf base h (.bin .num .sub) [.s (.int k a),.s (.int k b)]=some (.s (.int k (k.wrap (a - b))),h):=by rw[jA _ _ _ _ _ _ _ (by simp)];rfl
theorem W2 (k:IntKind) (a b:Int):aB cf base h (.bin .num .mul) [.s (.int k a),.s (.int k b)]=some (.s (.int k (k.wrap (a * b))),h):=by rw[jA _ _ _ _ _ _ _ (by simp)];rfl
theorem xd (k:IntKind) (a b:Int) (hb:b≠0):aB cf base h (.bin .num .quo) [.s (.int k a),.s (.int k b)]=some (.s (.int k (k.wrap (a.tdiv b))),h):=by rw[jA _ _ _ _ _ _ _ (by simp)];simp[jN,hb,js]
theorem lY (k:IntKind) (a b:Int) (hb:b≠0):aB cf base h (.bin .num .rem) [.s (.int k a),.s (.int k b)]=some (.s (.int k (a.tmod b)),h):=by rw[jA _ _ _ _ _ _ _ (by simp)];simp[jN,hb,js]
theorem W3 (k:IntKind) (a b:Int):aB cf base h (.bin .num .and) [.s (.int k a),.s (.int k b)]=some (.s (.int k (U9 k a b)),h):=by rw[jA _ _ _ _ _ _ _ (by simp)];rfl
theorem YJ (k:IntKind) (a b:Int):aB cf base h (.bin .num .or) [.s (.int k a),.s (.int k b)]=some (.s (.int k (orI k a b)),h):=by rw[jA _ _ _ _ _ _ _ (by simp)];rfl
theorem W4 (k:IntKind) (a b:Int):aB cf base h (.bin .num .xor) [.s (.int k a),.s (.int k b)]=some (.s (.int k (Kq k a b)),h):=by rw[jA _ _ _ _ _ _ _ (by simp)];rfl
theorem W5 (k:IntKind) (a b:Int):aB cf base h (.bin .num .eql) [.s (.int k a),.s (.int k b)]=some (.s (.bool (decide (a=b))),h):=by rw[jA _ _ _ _ _ _ _ (by simp)];simp[jN,js];rfl
theorem W6 (k:IntKind) (a b:Int):aB cf base h (.bin .num .neq) [.s (.int k a),.s (.int k b)]=some (.s (.bool (!decide (a=b))),h):=by rw[jA _ _ _ _ _ _ _ (by simp)];simp[jN,js];rfl
theorem W7 (k:IntKind) (a b:Int):aB cf base h (.bin .num .lss) [.s (.int k a),.s (.int k b)]=some (.s (.bool (decide (a < b))),h):=by rw[jA _ _ _ _ _ _ _ (by simp)];rfl
theorem W8 (k:IntKind) (a b:Int):aB cf base h (.bin .num .leq) [.s (.int k a),.s (.int k b)]=some (.s (.bool (decide (a≤b))),h):=by rw[jA _ _ _ _ _ _ _ (by simp)];rfl
theorem W9 (k:IntKind) (a b:Int):aB cf base h (.bin .num .gtr) [.s (.int k a),.s (.int k b)]=some (.s (.bool (decide (b < a))),h):=by rw[jA _ _ _ _ _ _ _ (by simp)];rfl
theorem Xa (k:IntKind) (a b:Int):aB cf base h (.bin .num .geq) [.s (.int k a),.s (.int k b)]=some (.s (.bool (decide (b≤a))),h):=by rw[jA _ _ _ _ _ _ _ (by simp)];rfl
theorem tW (k k':IntKind) (a b:Int) (hb:0≤b):aB cf base h (.bin .num .shl) [.s (.int k a),.s (.int k' b)]=some (.s (.int k (vt k a b)),h):=by
 have:¬b < 0:=by omega
 simp[aB,lK,vT,mF,this,js,vt]
theorem oQ (k k':IntKind) (a b:Int) (hb:0≤b):aB cf base h (.bin .num .shr) [.s (.int k a),.s (.int k' b)]=some (.s (.int k (pG k a b)),h):=by
 have:¬b < 0:=by omega
 simp[aB,lK,vT,mF,this,js,pG]
theorem Q8 (a b:ByteArray) (hl:a.size+b.size≤9223372036854775807):aB cf base h (.bin .num .add) [.s (.string a),.s (.string b)]=some (.s (.string (a++b)),h):=by simp[aB,lK,vT,p8,hl,js]
theorem Jy (a b:ByteArray):aB cf base h (.bin .num .eql) [.s (.string a),.s (.string b)]=some (.s (.bool (decide (a=b))),h):=by
 have:(a.toList==b.toList)=decide (a=b):=by
   rw[Bool.eq_iff_iff]
   simp only[beq_iff_eq,decide_eq_true_eq]
   constructor
   ·intro hh
    apply ByteArray.ext
    apply Array.ext'
    rw[ByteArray.toList_eq,ByteArray.toList_eq] at hh
    exact hh
   ·rintro rfl;rfl
 simp[aB,lK,vT,p8,js,this]
theorem Q9 (a b:ByteArray):aB cf base h (.bin .num .neq) [.s (.string a),.s (.string b)]=some (.s (.bool (!decide (a=b))),h):=by
 have:=Jy cf base h a b
 simp only[aB,lK,vT,p8,js,Option.bind_some,Option.some.injEq,Prod.mk.injEq,V.s.injEq,Value.bool.injEq,and_true] at this ⊢
 rw[this]
theorem Ra (a b:Bool):aB cf base h (.bin .tru .eql) [.s (.bool a),.s (.bool b)]=some (.s (.bool (a==b)),h):=rfl
theorem Rb (a b:Bool):aB cf base h (.bin .tru .neq) [.s (.bool a),.s (.bool b)]=some (.s (.bool !(a==b)),h):=rfl
theorem Jz :aB cf base h (.bin .ptr .eql) [.s (.pointer none),.s (.pointer none)]=some (.s (.bool true),h):=rfl
theorem JA (id:Nat) (p:List Nat) (t:Nat):aB cf base h (.bin .ptr .eql) [.ptr id p t,.s (.pointer none)]=some (.s (.bool false),h):=rfl
theorem JB :aB cf base h (.bin .ptr .neq) [.s (.pointer none),.s (.pointer none)]=some (.s (.bool false),h):=rfl
theorem JC (id:Nat) (p:List Nat) (t:Nat):aB cf base h (.bin .ptr .neq) [.ptr id p t,.s (.pointer none)]=some (.s (.bool true),h):=rfl
theorem Xb (id:Nat) (p:List Nat) (t:Nat):aB cf base h .aN [.ptr id p t]=some (.ptr id p t,h):=rfl
theorem Rc (v:V):aB cf base h .aN [.dQ v]=some (.dQ v,h):=rfl
theorem Re (f:Nat) (c:List V):aB cf base h .aN [.fn f c]=some (.fn f c,h):=rfl
theorem Xc (t i:Nat) (fs:List V):aB cf base h (.CK t i) [.st t fs]=(fs[i]?).map fun v=>(v,h):=by simp[aB,sI]
theorem Rf (g:Option Nat):aB cf base h (.ja g [] []) []=some (.al true g [],h):=rfl
theorem cE (x:V) (n:Nat) (hn:fq x=some n):aB cf base h .len [x]=some (.s (.int .i64 n),h):=by simp[aB,sL,hn,js]
theorem oe (full:Bool) (g:Option Nat) (es:List V):aB cf base h .len [.al full g es]=some (.s (.int .i64 es.length),h):=rfl
theorem Rg (id:Nat) (p:List Nat) (g:Option Nat) (off len aw:Nat):aB cf base h .len [.ref id p g off len aw]=some (.s (.int .i64 len),h):=rfl
theorem Rh (s:ByteArray):aB cf base h .DO [.s (.string s)]=some (.s (.int .i64 s.size),h):=rfl
theorem Xd (k k':IntKind) (n:Int):aB cf base h (.ig k) [.s (.int k' n)]=some (.s (.int k (k.wrap n)),h):=rfl
theorem Xe (t:Nat) (x:V):aB cf base h (.mki t) [x]=some (.iface t x,h):=rfl
theorem Xf (i:Nat) (vs:List V):aB cf base h (.ext i) [.bI vs]=(vs[i]?).map fun v=>(v,h):=rfl
theorem M7 (k k':IntKind) (a b:Int):aB cf base h .min [.s (.int k a),.s (.int k' b)]=some (.s (.int k (min a b)),h):=by
 simp only[aB,sN,js]
 have:(if b < a then b else a)=min a b:=by split <;> omega
 simp[this]
theorem Xg (k k':IntKind) (a b:Int):aB cf base h .max [.s (.int k a),.s (.int k' b)]=some (.s (.int k (max a b)),h):=by
 simp only[aB,sN,js]
 have:(if b > a then b else a)=max a b:=by split <;> omega
 simp[this]
theorem Ri (s:ByteArray):aB cf base h (.s2b true) [.s (.string s)]=some (.al false none (dM s),h):=rfl
theorem Xh (s:ByteArray):aB cf base h .rng [.s (.string s)]=some (.ptr h.length [] 0,h++[.fN s 0]):=rfl
theorem M4 (t:Nat) (k:IntKind) (neg:Bool) (xs ys:List V):aB cf base h (.zd t k neg) [.arr t xs,.arr t ys]=LS (ints k xs) (ints k ys) neg h:=by
 simp only[aB,sF,and_self,if_true,LS];rfl
theorem zR (t i id:Nat) (p:List Nat) (aw:Nat):aB cf base h (.fa t i) [.ptr id p aw]=faR (node h id p aw) t i id p aw h:=rfl
theorem Xi (t i:Nat) (fs:List V):aB cf base h (.fa t i) [.dQ (.st t fs)]=(fs[i]?).map fun v=>(.dQ v,h):=by simp[aB,DP]
theorem Xj (t:Nat) (k:IntKind) (i:Int) (id:Nat) (p:List Nat) (aw:Nat):aB cf base h (.jj t) [.ptr id p aw,.s (.int k i)]=WM (node h id p aw) t i id p aw h:=rfl
theorem Rj (t:Nat) (k:IntKind) (i:Int) (es:List V):aB cf base h (.jj t) [.dQ (.arr t es),.s (.int k i)]=if 0≤i∧i < es.length then (es[i.toNat]?).map fun v=>(.dQ v,h) else none:=by simp[aB,uK,numOf]
theorem cX (g:Option Nat) (k:IntKind) (i:Int) (id:Nat) (p:List Nat) (g':Option Nat) (off len aw:Nat):aB cf base h (.di g) [.ref id p g' off len aw,.s (.int k i)]=WN (rowAt h id p aw) g i id p g' off len aw h:=rfl
theorem JD (g:Option Nat) (k:IntKind) (i:Int) (full:Bool) (es:List V):aB cf base h (.di g) [.al full g es,.s (.int k i)]=if 0≤i then (es[i.toNat]?).map fun v=>(.dQ v,h) else none:=by simp[aB,uL,numOf]
theorem Xk (t:Nat) (k:IntKind) (i:Int) (es:List V):aB cf base h (.idx t) [.arr t es,.s (.int k i)]=if 0≤i then (es[i.toNat]?).map fun v=>(v,h) else none:=by simp[aB,qz,numOf]
theorem Rk (k:IntKind) (i:Int) (s:ByteArray):aB cf base h .DN [.s (.string s),.s (.int k i)]=if 0≤i then (s.data.toList[i.toNat]?).map fun b=>(aa b,h) else none:=by
 simp only[aB,oz,numOf]
 have:s[i.toNat]? =s.data.toList[i.toNat]? :=by
   rw[Array.getElem?_toList];rfl
 rw[this]
 cases s.data.toList[i.toNat]? <;> rfl
theorem g8 (g:Option Nat) (id:Nat) (p:List Nat) (aw:Nat):aB cf base h (.ld g) [.ptr id p aw]=ldR (node h id p aw) g h:=rfl
theorem Xl (v:V) (g:Option Nat):aB cf base h (.ld g) [.dQ v]=ldR (some v) g h:=rfl
theorem Xm (g:Option Nat) (id:Nat) (p:List Nat) (aw:Nat) (y:V):aB cf base h (.bd g) [.ptr id p aw,y]=WO (node h id p aw) (store h id p aw y) g base id y:=rfl
theorem Xn (g:Option Nat) (x:V):aB cf base h (.box g) [x]=if x.ty=g∧x.ax=true then some (.ptr h.length [0] 1,h++[.cells g [x]]) else none:=rfl
theorem Xo (g:Option Nat) (x:V):aB cf base h (.eJ g x) []=if x.ty=g∧x.ax=true then some (.ptr h.length [0] 1,h++[.cells g [x]]) else none:=rfl
theorem Rl (t:Nat) (zero:List V) (places:List Nat) (xs:List V):aB cf base h (.dF t zero places) xs=if places.length=xs.length then (bD zero (places.zip xs)).map fun fs=>(.st t fs,h) else none:=by cases xs <;> rfl
theorem Rm (t:Nat) (zero:List V) (places:List Nat) (xs:List V):aB cf base h (.jf t zero places) xs=if places.length=xs.length then (bD zero (places.zip xs)).map fun fs=>(.arr t fs,h) else none:=by cases xs <;> rfl
theorem Xp (g:Option Nat) (zero:List V) (places:List Nat) (xs:List V):aB cf base h (.ja g zero places) xs=if places.length=xs.length then LU (bD zero (places.zip xs)) g h else none:=by cases xs <;> rfl
theorem Xq (g:Option Nat) (id n:Nat):aB cf base h .qX [.ref id [] g 0 n n]=Ev h[id]? g id n h:=by
 simp only[aB,uM,Ik,rowOf,Ev]
 cases h[id]? with
 | none=> rfl
 | some b=>
   cases b with
   | cells g' es=> by_cases c:es.length=n <;> simp[c,eq_comm]
   | lit g' es=> by_cases c:es.length=n <;> simp[c]
   | map=> rfl
   | fN=> rfl
   | dead=> rfl
theorem Xr (g:Option Nat) (zero:List V) (places:List Nat) (xs:List V):aB cf base h (.bsx g zero places) xs=if places.length=xs.length then WQ (bD zero (places.zip xs)) g h else none:=by
 simp only[aB,sK]
 split
 ·cases bD zero (places.zip xs) with
  | none=> rfl
  | some es=> cases es <;> rfl
 ·rfl
theorem Xs (g:Option Nat) (zero:V) (k k':IntKind) (n:Int):aB cf base h (.mks g zero) [.s (.int k n),.s (.int k' n)]=if 0≤n∧n≤16777216 then (if n=0 then some (.al true g [],h) else some (.ref h.length [] g 0 n.toNat n.toNat,h++[.cells g (List.replicate n.toNat zero)])) else none:=by
 simp[aB,uO,numOf]
theorem Xt (t t':Nat) (ok:Bool) (zero y:V):aB cf base h (.tas t ok zero) [.iface t' y]=if t'=t then some (if ok=true then .bI [y,.s (.bool true)] else y,h) else if ok=true then some (.bI [zero,.s (.bool false)],h) else none:=rfl
theorem Xu (id:Nat):aB cf base h .nxt [.ptr id [] 0]=WR h[id]? id h:=rfl
theorem CG (g:Option Nat) (bytes:Nat) (x y:V):aB cf base h (.app g bytes) [x,y]=(source h y).bind fun r=> cT base g bytes h x r.1 r.2:=rfl
end
theorem YK (x:Value):(V.s x).ty=none:=(rfl)
theorem Rn (a:Nat) (b:List Nat) (c:Nat):(V.ptr a b c).ty=none:=(rfl)
theorem Ro (a:Nat) (b:List Nat) (g:Option Nat) (c d e:Nat):(V.ref a b g c d e).ty=none:=(rfl)
theorem Rp (f:Bool) (g:Option Nat) (es:List V):(V.al f g es).ty=none:=(rfl)
theorem LX (v:V):(V.dQ v).ty=none:=(rfl)
theorem JE (t:Nat) (v:V):(V.iface t v).ty=none:=(rfl)
theorem Xv (t:Nat) (v:List V):(V.fn t v).ty=none:=(rfl)
theorem Xw (t:Nat) (fs:List V):(V.st t fs).ty=some t:=(rfl)
theorem pM (t:Nat) (fs:List V):(V.arr t fs).ty=some t:=(rfl)
theorem LY (x:Value):(V.s x).ax=true:=(rfl)
theorem EF (a:Nat) (b:List Nat) (c:Nat):(V.ptr a b c).ax=true:=(rfl)
theorem EG (a:Nat) (b:List Nat) (g:Option Nat) (c d e:Nat):(V.ref a b g c d e).ax=true:=(rfl)
theorem EH (f:Bool) (g:Option Nat) (es:List V):(V.al f g es).ax=true:=(rfl)
theorem Bb (v:V):(V.dQ v).ax=true:=(rfl)
theorem yM (t:Nat) (v:V):(V.iface t v).ax=true:=(rfl)
theorem JF (t:Nat) (v:List V):(V.fn t v).ax=true:=(rfl)
theorem JG (t:Nat) (fs:List V):(V.st t fs).ax=true:=(rfl)
theorem EI (t:Nat) (fs:List V):(V.arr t fs).ax=true:=(rfl)
theorem JH (h:Hp) (g:Option Nat) (id:Nat) (p:List Nat) (aw:Nat):re h g (.ptr id p aw)=ldR (node h id p aw) g h:=rfl
theorem EJ (h:Hp) (g:Option Nat) (v:V):re h g (.dQ v)=ldR (some v) g h:=rfl
theorem wrap_u8 {n:Int} (h0:0≤n) (h1:n < 256):IntKind.u8.wrap n=n:=IntWalk.u8_in n (by omega)
theorem wrap_u32 {n:Int} (h0:0≤n) (h1:n < 4294967296):IntKind.u32.wrap n=n:=IntWalk.u32_in n (by omega)
theorem wrap_u64 {n:Int} (h0:0≤n) (h1:n < 18446744073709551616):IntKind.u64.wrap n=n:=IntWalk.u64_in n (by omega)
theorem wrap_i64 {n:Int} (h0: -9223372036854775808≤n) (h1:n < 9223372036854775808):IntKind.i64.wrap n=n:=IntWalk.i64_in n (by omega)
theorem Rq :(O.mv).bQ=false:=rfl
theorem JI :(O.mv).indep=true:=rfl
theorem JJ :(O.pick).bQ=false:=rfl
theorem Bc :(O.pick).indep=true:=rfl
theorem LZ (c:Cl) (o:BinOp):(O.bin c o).bQ=false:=rfl
theorem EK (c:Cl) (o:BinOp):(O.bin c o).indep=true:=rfl
theorem By (g:Option Nat) (n:Nat) (z:V):(O.apz g n z).bQ=true:=rfl
theorem L0 :O.cap.bQ=false:=rfl
theorem EL :O.cap.indep=true:=rfl
theorem L1 (t:Nat) (g:Option Nat) (n:Nat):(O.s2a t g n).bQ=true:=rfl
theorem L2 (t:Nat) (k:List LK) (n:Bool):(O.eqs t k n).bQ=false:=rfl
theorem EM (t:Nat) (k:List LK) (n:Bool):(O.eqs t k n).indep=true:=rfl
theorem L3 (t:Nat) (k:IntKind) (n:Bool):(O.zd t k n).bQ=false:=rfl
theorem EN (t:Nat) (k:IntKind) (n:Bool):(O.zd t k n).indep=true:=rfl
theorem Rr (o:UnOp):(O.un o).bQ=false:=rfl
theorem JK (o:UnOp):(O.un o).indep=true:=rfl
theorem L4 :(O.aN).bQ=false:=rfl
theorem EO :(O.aN).indep=true:=rfl
theorem Rt (t i:Nat):(O.fa t i).bQ=false:=rfl
theorem JL (t i:Nat):(O.fa t i).indep=false:=rfl
theorem L5 (t i:Nat):(O.CK t i).bQ=false:=rfl
theorem EP (t i:Nat):(O.CK t i).indep=true:=rfl
theorem L6 (t:Nat):(O.jj t).bQ=false:=rfl
theorem ER (t:Nat):(O.jj t).indep=false:=rfl
theorem L7 (g:Option Nat):(O.di g).bQ=false:=rfl
theorem ES (g:Option Nat):(O.di g).indep=false:=rfl
theorem L8 (t:Nat):(O.idx t).bQ=false:=rfl
theorem ET (t:Nat):(O.idx t).indep=true:=rfl
theorem JM :(O.DN).bQ=false:=rfl
theorem Bd :(O.DN).indep=true:=rfl
theorem Ru (g:Option Nat):(O.ld g).bQ=false:=rfl
theorem JN (g:Option Nat):(O.ld g).indep=false:=rfl
theorem L9 (g:Option Nat):(O.bd g).bQ=true:=rfl
theorem Ma (g:Option Nat):(O.box g).bQ=true:=rfl
theorem Mb (g:Option Nat) (z:V):(O.eJ g z).bQ=true:=rfl
theorem JO (t:Nat) (z:List V) (p:List Nat):(O.dF t z p).bQ=false:=rfl
theorem Be (t:Nat) (z:List V) (p:List Nat):(O.dF t z p).indep=true:=rfl
theorem JP (t:Nat) (z:List V) (p:List Nat):(O.jf t z p).bQ=false:=rfl
theorem Bf (t:Nat) (z:List V) (p:List Nat):(O.jf t z p).indep=true:=rfl
theorem Mc :(O.qX).bQ=true:=rfl
theorem Md (g:Option Nat) (n:Nat):(O.apx g n).bQ=true:=rfl
theorem Me (g:Option Nat) (z:List V) (p:List Nat):(O.bsx g z p).bQ=true:=rfl
theorem Mf (g:Option Nat) (z:V):(O.mks g z).bQ=true:=rfl
theorem Mg (g:Option Nat) (a b c:Bool):(O.jg g a b c).bQ=false:=rfl
theorem EU (g:Option Nat) (a b c:Bool):(O.jg g a b c).indep=false:=rfl
theorem Mh (t:Nat) (g:Option Nat) (a b:Bool):(O.qp t g a b).bQ=false:=rfl
theorem EV (t:Nat) (g:Option Nat) (a b:Bool):(O.qp t g a b).indep=false:=rfl
theorem Mi (a b:Bool):(O.sls a b).bQ=false:=rfl
theorem EW (a b:Bool):(O.sls a b).indep=true:=rfl
theorem Mj :(O.len).bQ=false:=rfl
theorem EX :(O.len).indep=true:=rfl
theorem JQ :(O.DO).bQ=false:=rfl
theorem Bg :(O.DO).indep=true:=rfl
theorem Mk (g:Option Nat) (n:Nat):(O.app g n).bQ=true:=rfl
theorem Ml (g:Option Nat):(O.cpy g).bQ=true:=rfl
theorem Mm (g:Option Nat) (z:V):(O.clr g z).bQ=true:=rfl
theorem Mn (k:IntKind):(O.ig k).bQ=false:=rfl
theorem EY (k:IntKind):(O.ig k).indep=true:=rfl
theorem Mo :(O.Fv).bQ=false:=rfl
theorem Mp {b:Bool}:(O.r2s b).bQ=false:=rfl
theorem EZ {b:Bool}:(O.r2s b).indep=false:=rfl
theorem E0 :(O.Fv).indep=false:=rfl
theorem Mq (t:Nat):(O.mki t).bQ=false:=rfl
theorem E1 (t:Nat):(O.mki t).indep=true:=rfl
theorem Mr (t:Nat) (o:Bool) (z:V):(O.tas t o z).bQ=false:=rfl
theorem E2 (t:Nat) (o:Bool) (z:V):(O.tas t o z).indep=true:=rfl
theorem Ms (i:Nat):(O.ext i).bQ=false:=rfl
theorem E3 (i:Nat):(O.ext i).indep=true:=rfl
theorem Mt :(O.min).bQ=false:=rfl
theorem E4 :(O.min).indep=true:=rfl
theorem Mu :(O.max).bQ=false:=rfl
theorem E5 :(O.max).indep=true:=rfl
theorem Mv :(O.rng).bQ=true:=rfl
theorem Mw :(O.nxt).bQ=true:=rfl
theorem JR (f:Nat):(O.call f).bQ=true:=rfl
theorem E6 :(O.lX).bQ=true:=rfl
theorem Mx (f:Nat):(O.mkf f).bQ=false:=rfl
theorem E7 (f:Nat):(O.mkf f).indep=true:=rfl
theorem JS (g:Option Nat) (p:List Nat):(O.ja g [] p).bQ=false:=rfl
theorem Bh (g:Option Nat) (p:List Nat):(O.ja g [] p).indep=false:=rfl
theorem My (g:Option Nat) (z:V) (zs:List V) (p:List Nat):(O.ja g (z::zs) p).bQ=true:=rfl
theorem Mz :(O.nop).bQ=false:=rfl
theorem E8 :(O.nop).indep=true:=rfl
theorem MA (g:Option Nat):(O.fzp g).bQ=false:=rfl
theorem E9 (g:Option Nat):(O.fzp g).indep=true:=rfl
theorem jZ (f:Nat):(O.ie f).bQ=false:=rfl
theorem gM (f:Nat):(O.ie f).indep=false:=rfl
theorem MB (g:Option Nat) (z:List V) (p:List Nat):(O.Fx g z p).bQ=false:=rfl
theorem Fa (g:Option Nat) (z:List V) (p:List Nat):(O.Fx g z p).indep=true:=rfl
theorem MC {cf:CF} {base:Nat} {e:Env} {h:Hp} (d:Option Nat) (o:Vm.O) (xs:List X) (t:Nat) (b:Bool) (hw:tz (e t) b=some true):eH cf base e h ⟨d,o,xs,some (t,b)⟩=aB cf base h o (xs.map (X.on e)):=by
 unfold eH qU;simp only[hw]
theorem MD {cf:CF} {base:Nat} {e:Env} {h:Hp} (d:Option Nat) (o:Vm.O) (xs:List X) (t:Nat) (b:Bool) (hw:tz (e t) b=some false):eH cf base e h ⟨d,o,xs,some (t,b)⟩=some (.bI [],h):=by
 unfold eH qU;simp only[hw]
theorem ME (l:Bool):(O.s2b l).bQ= !l:=rfl
theorem Fb (l:Bool):(O.s2b l).indep=l:=rfl
def yN (I:Nat→Env→Hp→Prop) (n:Nat) (Q:bK):bK
 | .normal,e,h=>∃m,m < n∧I m e h
 | ex,e,h=> Q ex e h
theorem wE (I:Nat→Env→Hp→Prop) (n:Nat) (Q:bK) (e:Env) (h:Hp):yN I n Q .normal e h=∃m,m < n∧I m e h:=rfl
theorem Fc (I:Nat→Env→Hp→Prop) (n:Nat) (Q:bK) (e:Env) (h:Hp):yN I n Q .ret e h=Q .ret e h:=rfl
theorem Bi (I:Nat→Env→Hp→Prop) (n:Nat) (Q:bK) (i:Nat) (e:Env) (h:Hp):yN I n Q (.exit i) e h=Q (.exit i) e h:=rfl
theorem JT {cf:CF} {base:Nat} {a:C} {Q:bK} (I:Nat→Env→Hp→Prop) (step:∀n e h,I n e h→wp cf base a e h (yN I n Q)):∀(n:Nat) (e:Env) (h:Hp),I n e h→wp cf base (.loop a) e h Q:=by
 intro n
 induction n using Nat.strongRecOn with
 | ind n ih=>
   intro e h hi
   rw[wp_loop]
   refine wp_mono _ _ (step n e h hi) fun ex e' h' hq=> ?_
   cases ex with
   | normal=> obtain ⟨m,hm,vX⟩:=hq;exact ih m hm e' h' vX
   | exit i=> exact hq
   | ret=> exact hq
def JU (M:Env→Hp→Prop) (K:bK):bK
 | .normal,e,h=> M e h
 | ex,e,h=> K ex e h
theorem yO (M:Env→Hp→Prop) (K:bK) (e:Env) (h:Hp):JU M K .normal e h=M e h:=rfl
theorem JV (M:Env→Hp→Prop) (K:bK) (e:Env) (h:Hp):JU M K .ret e h=K .ret e h:=rfl
theorem Fe (M:Env→Hp→Prop) (K:bK) (i:Nat) (e:Env) (h:Hp):JU M K (.exit i) e h=K (.exit i) e h:=rfl
theorem Bj {i:Nat} {M:Env→Hp→Prop} {K:bK} (h2:∀e' h',M e' h'→K .normal e' h') {ex:Ex} {e:Env} {h:Hp} (hq:gp i (JU M K) ex e h):gp i K ex e h:=by
 cases ex with
 | normal=> exact h2 _ _ hq
 | exit j=>
   rw[qW] at hq ⊢
   split
   ·rename_i hj;rw[if_pos hj] at hq;exact h2 _ _ hq
   ·rename_i hj;rw[if_neg hj] at hq;exact hq
 | ret=> exact hq
theorem bh {cf:CF} {base:Nat} {a:C} {i:Nat} {K:bK} (I:Nat→Env→Hp→Prop) (M:Env→Hp→Prop) (n:Nat) (e:Env) (h:Hp) (init:I n e h)
 (step:∀n e h,I n e h→wp cf base a e h (yN I n (gp i (JU M K)))) (rest:∀e h,M e h→K .normal e h):wp cf base (.loop a) e h (gp i K):=
 wp_mono _ _ (JT I step n e h init) fun _ _ _ hq=> Bj rest hq
theorem JW (res:List Rs) (n:Nat) (q:V×Hp) (e:Env) (h:Hp):LQ res n q .ret e h=Eo (eb e h res) n h q:=rfl
theorem yP (res:List Rs) (n:Nat) (q:V×Hp) (e:Env) (h:Hp):LQ res n q .normal e h=Eo (eb e h res) n h q:=rfl
theorem JX (res:List Rs) (q:V×Hp) (e:Env) (h:Hp):Jo res q .ret e h=A1 (eb e h res) h q:=rfl
theorem yQ (res:List Rs) (q:V×Hp) (e:Env) (h:Hp):Jo res q .normal e h=A1 (eb e h res) h q:=rfl
theorem JY (res:List Rs) (Q:V→Hp→Prop) (e:Env) (h:Hp):Q4 res Q .ret e h=Ep (eb e h res) h Q:=rfl
theorem yR (res:List Rs) (Q:V→Hp→Prop) (e:Env) (h:Hp):Q4 res Q .normal e h=Ep (eb e h res) h Q:=rfl
theorem Ff (vs:List V) (h:Hp) (Q:V→Hp→Prop):Ep (some vs) h Q=Q (oB vs) h:=rfl
theorem Fg (vs:List V) (n:Nat) (h:Hp) (q:V×Hp):Eo (some vs) n h q=LP (bA n h (oB vs)) n h q:=rfl
theorem Fh (v:V) (n:Nat) (h:Hp) (q:V×Hp):LP (some v) n h q=(q=(v,h.take n)):=rfl
theorem Fi (vs:List V) (h:Hp) (q:V×Hp):A1 (some vs) h q=(q=(oB vs,h)):=rfl
theorem Fj (e:Env) (h:Hp):eb e h []=some []:=rfl
theorem MF (e:Env) (h:Hp) (n:Nat) (rs:List Rs):eb e h (.t n::rs)=(eb e h rs).map (e n:: ·):=by
 simp only[eb,LO];cases eb e h rs <;> rfl
theorem Bk (e:Env) (h:Hp) (n:Nat) (g:Option Nat) (rs:List Rs):eb e h (.cell n g::rs)=(re h g (e n)).bind fun r=>(eb e h rs).map (r.1:: ·):=by
 simp only[eb,LO];cases re h g (e n)<;> cases eb e h rs <;> rfl
theorem JZ :oB []= .bI []:=rfl
theorem J0 (v:V):oB [v]=v:=rfl
theorem J1 (v w:V) (vs:List V):oB (v::w::vs)= .bI (v::w::vs):=rfl
def V.plain :V→Bool
 | .s _=> true
 | .al f _ es=> !f && all es
 | .st _ fs=> all fs
 | .arr _ es=> all es
 | .bI vs=> all vs
 | .iface _ v=> v.plain
 | _=> false
where all:List V→Bool
  | []=> true
  | v::vs=> v.plain && all vs
theorem pY (n:Nat) (h:Hp):∀(v:V),v.plain=true→bA n h v=some v:=by
 intro v
 induction v using V.rec (motive_2:=fun vs=> V.plain.all vs=true→bA.all n h vs=some vs) with
 | s x=> intro _;simp[bA,V.low]
 | al f g es ih=>
   intro hp
   simp only[V.plain,Bool.and_eq_true,Bool.not_eq_true'] at hp
   simp only[bA,ih hp.2,hp.1];rfl
 | st t fs ih=> intro hp;simp only[V.plain] at hp;simp only[bA,ih hp];rfl
 | arr t es ih=> intro hp;simp only[V.plain] at hp;simp only[bA,ih hp];rfl
 | bI vs ih=> intro hp;simp only[V.plain] at hp;simp only[bA,ih hp];rfl
 | iface t v ih=> intro hp;simp only[V.plain] at hp;simp only[bA,ih hp];rfl
 | nil=> rfl
 | cons v vs h1 h2=>
   rename_i hp
   simp only[V.plain.all,Bool.and_eq_true] at hp
   simp only[bA.all,h1 hp.1,h2 hp.2]
 | _=> intro hp;simp[V.plain] at hp
theorem kL :∀(v:V),v.plain=true→v.ground=true:=by
 intro v
 induction v using V.rec (motive_2:=fun vs=> V.plain.all vs=true→V.ground.all vs=true) with
 | s x=> intro _;rfl
 | al f g es ih=> intro hp;simp only[V.plain,Bool.and_eq_true] at hp;exact ih hp.2
 | st t fs ih=> intro hp;exact ih hp
 | arr t es ih=> intro hp;exact ih hp
 | bI vs ih=> intro hp;exact ih hp
 | iface t v ih=> intro hp;exact ih hp
 | nil=> rfl
 | cons v vs h1 h2=>
   rename_i hp
   simp only[V.plain.all,Bool.and_eq_true] at hp
   simp only[V.ground.all,h1 hp.1,h2 hp.2,Bool.and_self]
 | _=> intro hp;simp[V.plain] at hp
theorem MG (x:Value):(V.s x).plain=true:=(rfl)
theorem Fk (g:Option Nat) (es:List V):(V.al false g es).plain=V.plain.all es:=(rfl)
theorem J2 (t:Nat) (fs:List V):(V.st t fs).plain=V.plain.all fs:=(rfl)
theorem Fl (t:Nat) (fs:List V):(V.arr t fs).plain=V.plain.all fs:=(rfl)
theorem Fm (fs:List V):(V.bI fs).plain=V.plain.all fs:=(rfl)
theorem yS (t:Nat) (v:V):(V.iface t v).plain=v.plain:=(rfl)
theorem Fo :V.plain.all []=true:=(rfl)
theorem r9 (v:V) (vs:List V):V.plain.all (v::vs)=(v.plain && V.plain.all vs):=(rfl)
theorem eK {vs:List V}:V.plain.all vs=true↔∀v∈vs,v.plain=true:=by
 induction vs with
 | nil=> simp[V.plain.all]
 | cons v vs ih=> simp[V.plain.all,ih]
theorem Fp {α:Type} (f:α→V) (hf:∀x,(f x).plain=true) (l:List α):V.plain.all (l.map f)=true:=by
 rw[eK];intro v hv;obtain ⟨x,_,rfl⟩:=List.mem_map.1 hv;exact hf x
theorem vr (n:Nat):∀(v:V),v.plain=true→v.low n=true:=by
 intro v
 induction v using V.rec (motive_2:=fun vs=> V.plain.all vs=true→V.low.all n vs=true) with
 | s x=> intro _;rfl
 | al f g es ih=> intro hp;simp only[V.plain,Bool.and_eq_true] at hp;exact ih hp.2
 | st t fs ih=> intro hp;exact ih hp
 | arr t es ih=> intro hp;exact ih hp
 | bI vs ih=> intro hp;exact ih hp
 | iface t v ih=> intro hp;exact ih hp
 | nil=> rfl
 | cons v vs h1 h2=>
   rename_i hp
   simp only[V.plain.all,Bool.and_eq_true] at hp
   simp only[V.low.all,h1 hp.1,h2 hp.2,Bool.and_self]
 | _=> intro hp;simp[V.plain] at hp
theorem MH (n:Nat) (h:Hp) (id:Nat) (g:Option Nat) (off len aw:Nat) (es:List V) (hid:n≤id) (hg:h[id]? =some (.cells g es)) (ht:es.length=aw) (hl:off+len≤aw) (hp:V.plain.all es=true):
 bA n h (.ref id [] g off len aw)=some (.al false g ((es.drop off).take len)):=by
 have h1:¬id < n:=by omega
 have h2:V.low.all n ((es.drop off).take len)=true:=by
   rw[eK] at hp
   have:∀ {vs:List V},(∀v∈vs,v.plain=true)→V.low.all n vs=true:=by
     intro vs
     induction vs with
     | nil=> intro _;rfl
     | cons v vs ih=> intro hv;simp only[V.low.all,vr n v (hv v (by simp)),ih (fun x hx=> hv x (by simp[hx])),Bool.and_self]
   exact this fun v hv=> hp v (List.mem_of_mem_drop (List.mem_of_mem_take hv))
 simp[bA,h1,rowOf,hg,ht,hl,h2]
theorem wF (n:Nat) (h:Hp) (id:Nat) (g:Option Nat) (len:Nat) (es:List V) (hid:n≤id) (hg:h[id]? =some (.cells g es)) (ht:es.length=len) (hp:V.plain.all es=true):
 bA n h (.ref id [] g 0 len len)=some (.al false g es):=by
 rw[MH n h id g 0 len len es hid hg ht (by omega) hp]
 simp[←ht]
theorem CH (n:Nat) (h:Hp) (f:Bool) (g:Option Nat) (es:List V) (hp:V.plain.all es=true):bA n h (.al f g es)=some (.al false g es):=by
 have:=pY n h (.al false g es) (by simpa[V.plain] using hp)
 simpa[bA] using this
theorem Xx (n:Nat) (h:Hp) (x:Value):bA n h (.s x)=some (.s x):=by simp[bA,V.low]
theorem MI (n:Nat) (h:Hp) (vs:List V):bA n h (.bI vs)=(bA.all n h vs).map V.bI:=by simp only[bA]
theorem Rv (n:Nat) (h:Hp) (t:Nat) (vs:List V):bA n h (.st t vs)=(bA.all n h vs).map (V.st t):=by simp only[bA]
theorem MJ (n:Nat) (h:Hp) (t:Nat) (vs:List V):bA n h (.arr t vs)=(bA.all n h vs).map (V.arr t):=by simp only[bA]
theorem Fq (n:Nat) (h:Hp) (t:Nat) (v:V):bA n h (.iface t v)=(bA n h v).map (V.iface t):=by simp only[bA]
theorem rR (n:Nat) (h:Hp):bA.all n h []=some []:=by simp only[bA.all]
theorem pI (n:Nat) (h:Hp) (v:V) (vs:List V):bA.all n h (v::vs)=(bA n h v).bind fun v'=>(bA.all n h vs).map (v':: ·):=by
 simp only[bA.all];cases bA n h v <;> cases bA.all n h vs <;> rfl
theorem Bl (b:UInt8):(aa b).plain=true:=(rfl)
theorem ed (l:List UInt8):V.plain.all (l.map aa)=true:=Fp _ Bl l
theorem jk (l:List UInt8):bytesOf (l.map aa)=some l:=by
 induction l with
 | nil=> rfl
 | cons b l ih=>
   simp only[List.map_cons,aa,bytesOf]
   rw[ih]
   simp
theorem wY (cf:CF) (base:Nat) (h:Hp) (x:V) (g:Option Nat) (l:List UInt8) (hx:elems h x=some (g,l.map aa)):aB cf base h .Fv [x]=some (.s (.string ⟨l.toArray⟩),h):=by
 simp[aB,uR,hx,jk,js]
theorem Ft (h:Hp) (id:Nat) (g:Option Nat) (off len aw:Nat) (es:List V) (hg:h[id]? =some (.cells g es)) (ht:es.length=aw):elems h (.ref id [] g off len aw)=some (g,(es.drop off).take len):=by
 simp[elems,rowAt,rowOf,hg,ht]
theorem aK (h t:Hp) (k:Nat):(h++t)[h.length+k]? =t[k]? :=by
 rw[List.getElem?_append_right (by omega)];simp
theorem aM (h t:Hp):(h++t)[h.length]? =t[0]? :=by
 rw[List.getElem?_append_right (by omega)];simp
theorem q10z {h:Hp} {id:Nat} {b:aV} (hg:h[id]? =some b) (t:Hp):(h++t)[id]? =some b:=by
 have:=(List.getElem?_eq_some_iff.1 hg).1
 rw[List.getElem?_append_left this];exact hg
theorem ca (h t:Hp) (k:Nat) (b:aV):(h++t).set (h.length+k) b=h++t.set k b:=by
 rw[List.set_append_right _ _ (by omega)];simp
theorem oV (h t:Hp) (b:aV):(h++t).set h.length b=h++t.set 0 b:=by
 rw[List.set_append_right _ _ (by omega)];simp
theorem m0 {h:Hp} {id:Nat} (hid:id < h.length) (t:Hp) (b:aV):(h++t).set id b=h.set id b++t:=by
 rw[List.set_append_left _ _ hid]
theorem J3 (h t:Hp):(h++t).take h.length=h:=by simp
theorem q6z {h:Hp} {id:Nat} {b:aV} (hg:h[id]? =some b):id < h.length:=(List.getElem?_eq_some_iff.1 hg).1
end Go.Vm
namespace Go.Vm
def SR (h:Hp) (x:V) (g:Option Nat) (vs:List V):Prop:=
 (∃f,x= .al f g vs)∨∃id off aw es,x= .ref id [] g off vs.length aw∧h[id]? =some (.cells g es)∧es.length=aw∧off+vs.length≤aw∧(es.drop off).take vs.length=vs
def BR (h:Hp) (x:V) (l:List UInt8):Prop:=
 (∃f,x= .al f none (l.map aa))∨∃(id off:Nat) (bl:List UInt8),x= .ref id [] none off l.length bl.length∧h[id]? =some (.cells none (bl.map aa))∧off+l.length≤bl.length∧(bl.drop off).take l.length=l
theorem BR.sr {h:Hp} {x:V} {l:List UInt8} (hb:BR h x l):SR h x none (l.map aa):=by
 rcases hb with ⟨f,rfl⟩ | ⟨id,off,bl,rfl,h1,h2,h3⟩
 ·exact .inl ⟨f,rfl⟩
 ·exact .inr ⟨id,off,bl.length,bl.map aa,by simp,h1,by simp,by simpa using h2,by rw[List.length_map,←List.map_drop,←List.map_take,h3]⟩
structure Fw (S:List Nat) (h h':Hp):Prop where
 len:h.length≤h'.length
 dw:∀(j:Nat) (b:aV),h[j]? =some b→j∉S→h'[j]? =some b
 byt:∀(j:Nat) (l:List UInt8),h[j]? =some (.cells none (l.map aa))→h'[j]? =some (.cells none (l.map aa))
theorem Fw.refl (S:List Nat) (h:Hp):Fw S h h:=⟨Nat.le_refl _,fun _ _ h _=> h,fun _ _ h=> h⟩
theorem Fw.trans {S:List Nat} {a b c:Hp} (h:Fw S a b) (k:Fw S b c):Fw S a c:=
 ⟨Nat.le_trans h.len k.len,fun j x hj hs=> k.dw j x (h.dw j x hj hs) hs,fun j es hj=> k.byt j es (h.byt j es hj)⟩
theorem Fw.mono {S T:List Nat} {a b:Hp} (h:Fw S a b) (hs:∀j∈S,j∈T):Fw T a b:=
 ⟨h.len,fun j x hj ht=> h.dw j x hj (fun hj'=> ht (hs j hj')),h.byt⟩
theorem Fw.new {S T:List Nat} {a b c:Hp} (h:Fw S a b) (k:Fw T b c) (ht:∀j∈T,a.length≤j∨j∈S):Fw S a c:=
 ⟨Nat.le_trans h.len k.len,fun j x hj hs=> k.dw j x (h.dw j x hj hs) (fun hj'=> by
   rcases ht j hj' with h1 | h1
   ·have:=q6z hj;omega
   ·exact hs h1),fun j es hj=> k.byt j es (h.byt j es hj)⟩
theorem Fw.app (S:List Nat) (h t:Hp):Fw S h (h++t):=
 ⟨by simp,fun j b hj _=> q10z hj t,fun j es hj=> q10z hj t⟩
theorem Fw.set {S:List Nat} {h:Hp} {id g:Nat} {es es':List V} (hid:id∈S) (hg:h[id]? =some (.cells (some g) es)):Fw S h (h.set id (.cells (some g) es')):=
 ⟨by simp,fun j b hj hs=> by
   have cD:id≠j:=fun e=> by subst e;exact hs hid
   rw[List.getElem?_set_ne cD];exact hj,fun j es2 hj=> by
   have:id≠j:=fun e=> by subst e;rw[hg] at hj;cases hj
   rw[List.getElem?_set_ne this];exact hj⟩
theorem Fw.cK {S:List Nat} {a b:Hp} (f:Fw S a b) {c:Nat} (hc:a.length≤c) (k:aV):Fw S a (b.set c k):=
 ⟨by simpa using f.len,fun j x hj hs=> by
   have:=q6z hj
   rw[List.getElem?_set_ne (by omega)];exact f.dw j x hj hs,fun j es hj=> by
   have:=q6z hj
   rw[List.getElem?_set_ne (by omega)];exact f.byt j es hj⟩
theorem Fw.KJ {S:List Nat} {h:Hp} {id:Nat} {es:List V} {k:aV} (hid:id∈S) (hg:h[id]? =some (.cells none es)) (hn:∀l:List UInt8,es≠l.map aa):Fw S h (h.set id k):=
 ⟨by simp,fun j b hj hs=> by
   have cD:id≠j:=fun e=> by subst e;exact hs hid
   rw[List.getElem?_set_ne cD];exact hj,fun j l hj=> by
   have:id≠j:=fun e=> by subst e;rw[hg] at hj;simp only[Option.some.injEq,aV.cells.injEq,true_and] at hj;exact hn l hj
   rw[List.getElem?_set_ne this];exact hj⟩
theorem Fw.lt {S:List Nat} {h h':Hp} (f:Fw S h h') {j:Nat} (hj:j < h.length):j < h'.length:=Nat.lt_of_lt_of_le hj f.len
theorem Fw.take {h h':Hp} (f:Fw [] h h'):h'.take h.length=h:=by
 apply List.ext_getElem?
 intro j
 rw[List.getElem?_take]
 split
 ·rename_i hj
  rw[List.getElem?_eq_getElem hj]
  exact f.dw j _ (List.getElem?_eq_getElem hj) (by simp)
 ·rename_i hj
  rw[List.getElem?_eq_none (Nat.le_of_not_lt hj)]
theorem Fw.step {S:List Nat} {a b c:Hp} {i:Nat} (h:Fw S a b) (k:Fw [i] b c) (hi:a.length≤i):Fw S a c:=h.new k (by simp;exact .inl hi)
theorem q9z {h:Hp} {id:Nat} {b b':aV} (hg:h[id]? =some b'):(h.set id b)[id]? =some b:=by
 rw[List.getElem?_set_self (q6z hg)]
theorem BR.mono {S:List Nat} {h h':Hp} {x:V} {l:List UInt8} (hb:BR h x l) (f:Fw S h h'):BR h' x l:=by
 rcases hb with h1 | ⟨id,off,bl,h1,h2,h3,h4⟩
 ·exact .inl h1
 ·exact .inr ⟨id,off,bl,h1,f.byt _ _ h2,h3,h4⟩
theorem SR.len {h:Hp} {x:V} {g:Option Nat} {vs:List V} (hb:SR h x g vs):fq x=some vs.length:=by
 rcases hb with ⟨f,rfl⟩ | ⟨id,off,aw,es,rfl,_⟩<;> rfl
theorem SR.elems {h:Hp} {x:V} {g:Option Nat} {vs:List V} (hb:SR h x g vs):elems h x=some (g,vs):=by
 rcases hb with ⟨f,rfl⟩ | ⟨id,off,aw,es,rfl,h2,h3,h4,h5⟩
 ·rfl
 ·rw[Ft h id g off _ aw es h2 h3,h5]
theorem SR.ty {h:Hp} {x:V} {g:Option Nat} {vs:List V} (hb:SR h x g vs):x.ty=none:=by
 rcases hb with ⟨f,rfl⟩ | ⟨id,off,aw,es,rfl,_⟩<;> rfl
theorem SR.ax {h:Hp} {x:V} {g:Option Nat} {vs:List V} (hb:SR h x g vs):x.ax=true:=by
 rcases hb with ⟨f,rfl⟩ | ⟨id,off,aw,es,rfl,_⟩<;> rfl
theorem SR.src {h:Hp} {x:V} {g:Option Nat} {vs:List V} (hb:SR h x g vs):source h x=some (g,vs):=by
 have:=hb.elems
 rcases hb with ⟨f,rfl⟩ | ⟨id,off,aw,es,rfl,_⟩<;> exact this
theorem BR.len {h:Hp} {x:V} {l:List UInt8} (hb:BR h x l):fq x=some l.length:=by
 have:=SR.len hb.sr;rwa [List.length_map] at this
theorem BR.elems {h:Hp} {x:V} {l:List UInt8} (hb:BR h x l):elems h x=some (none,l.map aa):=hb.sr.elems
theorem BR.ty {h:Hp} {x:V} {l:List UInt8} (hb:BR h x l):x.ty=none:=hb.sr.ty
theorem BR.ax {h:Hp} {x:V} {l:List UInt8} (hb:BR h x l):x.ax=true:=hb.sr.ax
theorem BR.src {h:Hp} {x:V} {l:List UInt8} (hb:BR h x l):source h x=some (none,l.map aa):=hb.sr.src
theorem BR.cE {cf:CF} {base:Nat} {h0 h:Hp} {x:V} {l:List UInt8} (hb:BR h0 x l):aB cf base h .len [x]=some (.s (.int .i64 l.length),h):=Vm.cE cf base h x _ hb.len
theorem BR.wY {cf:CF} {base:Nat} {h:Hp} {x:V} {l:List UInt8} (hb:BR h x l):aB cf base h .Fv [x]=some (.s (.string ⟨l.toArray⟩),h):=Vm.wY cf base h x _ l hb.elems
theorem cY (h:Hp) (f:Bool) (l:List UInt8):BR h (.al f none (l.map aa)) l:= .inl ⟨f,rfl⟩
theorem oo (h:Hp) (f:Bool):BR h (.al f none []) []:= .inl ⟨f,rfl⟩
theorem kJ {h:Hp} {id n:Nat} {g:Option Nat} {vs:List V} (hg:h[id]? =some (.cells g vs)) (hn:vs.length=n):SR h (.ref id [] g 0 n n) g vs:=
 .inr ⟨id,0,n,vs,by rw[hn],hg,hn,by omega,by simp⟩
theorem dH {h:Hp} {id n:Nat} {l:List UInt8} (hg:h[id]? =some (.cells none (l.map aa))) (hn:l.length=n):BR h (.ref id [] none 0 n n) l:=
 .inr ⟨id,0,l,by rw[hn],hg,by omega,by simp⟩
theorem SR.cut {h:Hp} {x:V} {g:Option Nat} {vs:List V} (hb:SR h x g vs) {l r:Nat} (h1:l≤r) (h2:r≤vs.length):∃y,dx h g x l r=some y∧SR h y g ((vs.drop l).take (r - l)):=by
 rcases hb with ⟨f,rfl⟩ | ⟨id,off,aw,es,rfl,k2,k3,k4,k5⟩
 ·exact ⟨_,by simp[dx,h1,h2];rfl,.inl ⟨_,rfl⟩⟩
 ·have ck:rowAt h id [] aw=some es:=by simp[rowAt,rowOf,k2,k3]
  by_cases hl:l=0∨l < r
  ·refine ⟨.ref id [] g (off+l) (r - l) aw,by simp[dx,h1,h2,ck,hl],.inr ⟨id,off+l,aw,es,?_,k2,k3,?_,?_⟩⟩
   ·have:((vs.drop l).take (r - l)).length=r - l:=by simp;omega
    rw[this]
   ·have:((vs.drop l).take (r - l)).length=r - l:=by simp;omega
    rw[this];omega
   ·have:((vs.drop l).take (r - l)).length=r - l:=by simp;omega
    rw[this]
    conv=> rhs;rw[←k5]
    rw[List.drop_take,List.drop_drop,List.take_take]
    congr 1
    omega
  ·refine ⟨.al false g [],by simp[dx,h1,h2,ck,hl],.inl ⟨false,?_⟩⟩
   have:r - l=0:=by omega
   rw[this];simp
theorem SR.cE {cf:CF} {base:Nat} {h0 h:Hp} {x:V} {g:Option Nat} {vs:List V} (hb:SR h0 x g vs):aB cf base h .len [x]=some (.s (.int .i64 vs.length),h):=Vm.cE cf base h x _ hb.len
theorem SR.hi {h:Hp} {x:V} {g:Option Nat} {vs:List V} (hb:SR h x g vs) {k:IntKind} {r:Nat} (hr:r≤vs.length):∃y,(∀cf base,aB cf base h (.jg g false true false) [x,.s (.int k r)]=some (y,h))∧SR h y g (vs.take r):=by
 obtain ⟨y,h1,h2⟩:=hb.cut (Nat.zero_le r) hr
 refine ⟨y,fun cf base=> ?_,by simpa using h2⟩
 have h3:=hb.len
 simp only[aB,fZ,h3,aL,cL]
 simp[h1]
theorem SR.lo {h:Hp} {x:V} {g:Option Nat} {vs:List V} (hb:SR h x g vs) {k:IntKind} {l:Nat} (hr:l≤vs.length):∃y,(∀cf base,aB cf base h (.jg g true false false) [x,.s (.int k l)]=some (y,h))∧SR h y g (vs.drop l):=by
 obtain ⟨y,h1,h2⟩:=hb.cut hr (Nat.le_refl _)
 refine ⟨y,fun cf base=> ?_,by rw[List.take_of_length_le (by simp)] at h2;exact h2⟩
 have h3:=hb.len
 simp only[aB,fZ,h3,aL,cL]
 simp[h1]
theorem SR.both {h:Hp} {x:V} {g:Option Nat} {vs:List V} (hb:SR h x g vs) {k k':IntKind} {l r:Nat} (hl:l≤r) (hr:r≤vs.length):∃y,(∀cf base,aB cf base h (.jg g true true false) [x,.s (.int k l),.s (.int k' r)]=some (y,h))∧SR h y g ((vs.drop l).take (r - l)):=by
 obtain ⟨y,h1,h2⟩:=hb.cut hl hr
 refine ⟨y,fun cf base=> ?_,h2⟩
 have h3:=hb.len
 simp only[aB,fZ,h3,aL,cL]
 simp[h1]
theorem BR.cut {h:Hp} {x:V} {l:List UInt8} (hb:BR h x l) {a r:Nat} (h1:a≤r) (h2:r≤l.length):∃y,dx h none x a r=some y∧BR h y ((l.drop a).take (r - a)):=by
 have hlen:((l.drop a).take (r - a)).length=r - a:=by simp;omega
 rcases hb with ⟨f,rfl⟩ | ⟨id,off,bl,rfl,k2,k3,k4⟩
 ·exact ⟨_,by simp[dx,h1,h2];rfl,.inl ⟨_,by rw[List.map_take,List.map_drop]⟩⟩
 ·have ck:rowAt h id [] bl.length=some (bl.map aa):=by simp[rowAt,rowOf,k2]
  by_cases hl:a=0∨a < r
  ·refine ⟨.ref id [] none (off+a) (r - a) bl.length,by simp[dx,h1,h2,ck,hl],.inr ⟨id,off+a,bl,by rw[hlen],k2,by omega,?_⟩⟩
   rw[hlen]
   conv=> rhs;rw[←k4]
   rw[List.drop_take,List.drop_drop,List.take_take]
   congr 1
   omega
  ·refine ⟨.al false none [],by simp[dx,h1,h2,ck,hl],.inl ⟨false,?_⟩⟩
   have:r - a=0:=by omega
   rw[this];simp
theorem BR.hi {h:Hp} {x:V} {l:List UInt8} (hb:BR h x l) {k:IntKind} {r:Nat} (hr:r≤l.length):∃y,(∀cf base,aB cf base h (.jg none false true false) [x,.s (.int k r)]=some (y,h))∧BR h y (l.take r):=by
 obtain ⟨y,h1,h2⟩:=hb.cut (Nat.zero_le r) hr
 refine ⟨y,fun cf base=> ?_,by simpa using h2⟩
 have h3:=hb.len
 simp only[aB,fZ,h3,aL,cL]
 simp[h1]
theorem BR.lo {h:Hp} {x:V} {l:List UInt8} (hb:BR h x l) {k:IntKind} {r:Nat} (hr:r≤l.length):∃y,(∀cf base,aB cf base h (.jg none true false false) [x,.s (.int k r)]=some (y,h))∧BR h y (l.drop r):=by
 obtain ⟨y,h1,h2⟩:=hb.cut hr (Nat.le_refl _)
 refine ⟨y,fun cf base=> ?_,by rw[List.take_of_length_le (by simp)] at h2;exact h2⟩
 have h3:=hb.len
 simp only[aB,fZ,h3,aL,cL]
 simp[h1]
theorem BR.both {h:Hp} {x:V} {l:List UInt8} (hb:BR h x l) {k k':IntKind} {a r:Nat} (ha:a≤r) (hr:r≤l.length):∃y,(∀cf base,aB cf base h (.jg none true true false) [x,.s (.int k a),.s (.int k' r)]=some (y,h))∧BR h y ((l.drop a).take (r - a)):=by
 obtain ⟨y,h1,h2⟩:=hb.cut ha hr
 refine ⟨y,fun cf base=> ?_,h2⟩
 have h3:=hb.len
 simp only[aB,fZ,h3,aL,cL]
 simp[h1]
def dG :List V→Hp→Option (V×Hp)
 | [x],h=> match elems h x with
   | some (none,es)=> if es=[] then some (.al true none [],h) else if es.length≤140737488355328 then some (.ref h.length [] none 0 es.length es.length,h++[.cells none es]) else none
   | _=> none
 | _,_=> none
theorem pJ {h:Hp} {x:V} {l:List UInt8} (he:elems h x=some (none,l.map aa)) (hl:l.length≤140737488355328):∃v t,dG [x] h=some (v,h++t)∧BR (h++t) v l∧(v= .al true none []∧t=[]∧l=[]∨v= .ref h.length [] none 0 l.length l.length∧t=[.cells none (l.map aa)]):=by
 cases l with
 | nil=> exact ⟨.al true none [],[],by simp[dG,he],oo _ _,.inl ⟨rfl,rfl,rfl⟩⟩
 | cons b l=>
   refine ⟨.ref h.length [] none 0 (b::l).length (b::l).length,[.cells none ((b::l).map aa)],?_,dH (by simp) rfl,.inr ⟨rfl,rfl⟩⟩
   simp only[dG,he]
   rw[if_neg (by simp),if_pos (by simpa using hl)]
   simp
theorem HH {h:Hp} {x:V} {l:List UInt8} (hb:BR h x l) (hl:l.length≤140737488355328):∃v t,dG [x] h=some (v,h++t)∧BR (h++t) v l∧(v= .al true none []∧t=[]∧l=[]∨v= .ref h.length [] none 0 l.length l.length∧t=[.cells none (l.map aa)]):=pJ hb.elems hl
def cv (h:Hp) (l:List UInt8):V:=if l=[] then .al true none [] else .ref h.length [] none 0 l.length l.length
def ct (l:List UInt8):Hp:=if l=[] then [] else [.cells none (l.map aa)]
theorem pL {h:Hp} {x:V} {l:List UInt8} (he:elems h x=some (none,l.map aa)) (hl:l.length≤140737488355328):dG [x] h=some (cv h l,h++ct l):=by
 obtain ⟨v,t,h1,_,h3⟩:=pJ he hl
 rw[h1]
 rcases h3 with ⟨rfl,rfl,rfl⟩ | ⟨rfl,rfl⟩
 ·rfl
 ·by_cases he:l=[]
  ·exfalso;subst he;simp[dG,he] at h1
  ·simp[cv,ct,he]
theorem xj {h:Hp} {x:V} {l:List UInt8} (hb:BR h x l) (hl:l.length≤140737488355328):dG [x] h=some (cv h l,h++ct l):=pL hb.elems hl
theorem Pu {h h1:Hp} (hn:h1.length=h.length) (l:List UInt8):BR (h1++ct l) (cv h l) l:=by
 unfold cv ct
 split
 ·rename_i he;subst he;exact oo _ _
 ·rw[←hn];exact dH (by rw[aM];rfl) rfl
theorem M8 (h:Hp) (l:List UInt8):(cv h l).ty=none:=by unfold cv;split <;> rfl
theorem xk (h:Hp) (l:List UInt8):(cv h l).ax=true:=by unfold cv;split <;> rfl
theorem Pv (n:Nat) (h:Hp) (l:List UInt8) (hn:n≤h.length):bA n (h++ct l) (cv h l)=some (.al false none (l.map aa)):=by
 unfold cv ct
 split
 ·rename_i he;subst he;rfl
 ·exact wF n _ _ none _ _ hn (by rw[aM];rfl) (by simp) (ed l)
theorem KN (n:Nat) (h0 h1:Hp) (l:List UInt8) (hn:n≤h1.length) (hl:h1.length=h0.length):bA n (h1++ct l) (cv h0 l)=some (.al false none (l.map aa)):=by
 unfold cv ct
 split
 ·rename_i he;subst he;rfl
 ·rw[←hl];exact wF n _ _ none _ _ hn (by rw[aM];rfl) (by simp) (ed l)
section
variable {cf : CF} {base : Nat} {h : Hp} {g : Option Nat} {bytes : Nat} {y : V} {ys : List V}
theorem iL {x:V} {n:Nat} {gy:Option Nat} (hy:source h y=some (gy,[])) (hl:fq x=some n):aB cf base h (.app g bytes) [x,y]=some (x,h):=by
 simp[CG,hy,cT,hl]
theorem iH (hy:source h y=some (g,ys)) (cD:ys≠[]) (hb:ys.length * bytes≤140737488355328):aB cf base h (.app g bytes) [.al true g [],y]=some (.ref h.length [] g 0 ys.length ys.length,h++[.cells g ys]):=by
 simp[CG,hy,cT,cD,hb]
theorem rU {id off len:Nat} {es:List V} (hg:h[id]? =some (.cells g es)) (hy:source h y=some (g,ys)) (cD:ys≠[]) (hm:∀y∈ys,bO base id y=true) (hr:off+len+ys.length≤es.length):
 aB cf base h (.app g bytes) [.ref id [] g off len es.length,y]=some (.ref id [] g off (len+ys.length) es.length,h.set id (.cells g (es.take (off+len)++ys++es.drop (off+len+ys.length)))):=by
 have h1:rowOf h id es.length=some (g,es):=by simp[rowOf,hg]
 have h2:ys.all (bO base id)=true:=by simpa[List.all_eq_true] using hm
 simp only[CG,hy,Option.bind_some,cT,cD,if_false,if_true,h1,h2,true_and,and_self,hr]
theorem gj {id:Nat} {es:List V} (hg:h[id]? =some (.cells g es)) (hy:source h y=some (g,ys)) (cD:ys≠[]) (hm:∀y∈ys,bO base id y=true) (hb:(es.length+ys.length)* bytes≤140737488355328):
 aB cf base h (.app g bytes) [.ref id [] g 0 es.length es.length,y]=some (.ref id [] g 0 (es.length+ys.length) (es.length+ys.length),h.set id (.cells g (es++ys))):=by
 have h1:rowOf h id es.length=some (g,es):=by simp[rowOf,hg]
 have h2:ys.all (bO base id)=true:=by simpa[List.all_eq_true] using hm
 have h3:¬(0+es.length+ys.length≤es.length):=by
   have:ys.length≠0:=by simpa using cD
   omega
 simp only[CG,hy,Option.bind_some,cT,cD,if_false,if_true,h1,h2,true_and,and_self,h3,hb]
end
def LR (h:Hp) (g:Option Nat) (k:Nat) (x:V) (vs:List V):Prop:=
 (x= .al true g []∧vs=[])∨∃es:List V,x= .ref k [] g 0 vs.length es.length∧h[k]? =some (.cells g es)∧es.take vs.length=vs∧vs.length≤es.length
theorem LR.sr {h:Hp} {g:Option Nat} {k:Nat} {x:V} {vs:List V} (hl:LR h g k x vs):SR h x g vs:=by
 rcases hl with ⟨rfl,rfl⟩ | ⟨es,rfl,h1,h2,h3⟩
 ·exact .inl ⟨true,rfl⟩
 ·exact .inr ⟨k,0,es.length,es,rfl,h1,rfl,by omega,by simpa using h2⟩
theorem LR.at' {h h':Hp} {g:Option Nat} {k:Nat} {x:V} {vs:List V} (hl:LR h g k x vs) (hk:∀b,h[k]? =some b→h'[k]? =some b):LR h' g k x vs:=by
 rcases hl with h1 | ⟨es,h0,h1,h2⟩
 ·exact .inl h1
 ·exact .inr ⟨es,h0,hk _ h1,h2⟩
theorem LR.push {h:Hp} {g:Option Nat} {k:Nat} {x:V} {vs:List V} (hl:LR h g k x vs) {base bytes:Nat} {y:V} {z:V} (hy:source h y=some (g,[z])) (hm:bO base k z=true) (hb:(vs.length+1)* bytes≤140737488355328):
 (∀cf,aB cf base h (.app g bytes) [x,y]=some (.ref h.length [] g 0 1 1,h++[.cells g [z]]))∧vs=[]∧x= .al true g []∨
 ∃es es',h[k]? =some (.cells g es)∧(∀cf,aB cf base h (.app g bytes) [x,y]=some (.ref k [] g 0 (vs.length+1) es'.length,h.set k (.cells g es')))∧es'.take (vs.length+1)=vs++[z]∧vs.length+1≤es'.length∧(∃fs,es'=vs++z::fs):=by
 rcases hl with ⟨rfl,rfl⟩ | ⟨es,rfl,h1,h2,h3⟩
 ·exact .inl ⟨fun cf=> by rw[iH hy (by simp) (by simpa using hb)];rfl,rfl,rfl⟩
 ·refine .inr ⟨es,?_⟩
  by_cases hr:vs.length+1≤es.length
  ·refine ⟨es.take vs.length++[z]++es.drop (vs.length+1),h1,fun cf=> ?_,?_,?_,?_⟩
   ·rw[rU h1 hy (by simp) (by simpa using hm) (by simpa using hr)]
    simp only[List.length_append,List.length_take,List.length_drop,List.length_cons,List.length_nil,Nat.zero_add]
    rw[show min vs.length es.length+1+(es.length - (vs.length+1))=es.length by omega]
   ·rw[h2];exact List.take_left' (l₁:=vs++[z]) (by simp)
   ·simp;omega
   ·exact ⟨es.drop (vs.length+1),by rw[h2];simp⟩
  ·have he:vs.length=es.length:=by omega
   have hv:es=vs:=by rw[←h2,List.take_of_length_le (by omega)]
   subst hv
   refine ⟨es++[z],h1,fun cf=> ?_,List.take_of_length_le (by rw[List.length_append];exact Nat.le_refl _),by rw[List.length_append];exact Nat.le_refl _,⟨[],rfl⟩⟩
   rw[gj h1 hy (by simp) (by simpa using hm) (by simpa using hb)]
   simp
theorem bu {l t:Hp} {n k:Nat} (hl:l.length=n):(l++t)[n+k]? =t[k]? :=by subst hl;exact aK l t k
theorem bo {l t:Hp} {n:Nat} (hl:l.length=n):(l++t)[n]? =t[0]? :=by subst hl;exact aM l t
theorem bJ {l t:Hp} {n k:Nat} {b:aV} (hl:l.length=n):(l++t).set (n+k) b=l++t.set k b:=by subst hl;exact ca l t k b
theorem bp {l t:Hp} {n:Nat} {b:aV} (hl:l.length=n):(l++t).set n b=l++t.set 0 b:=by subst hl;exact oV l t b
theorem CI (a:UInt8):BitVec.ofInt 8 (a.toNat:Int)=a.toBitVec:=by
 apply BitVec.eq_of_toNat_eq
 simp only[BitVec.toNat_ofInt]
 have:=a.toNat_lt
 simp[UInt8.toNat_toBitVec]
 omega
theorem u8_xor (a b:UInt8):Kq .u8 (a.toNat:Int) (b.toNat:Int)=((a ^^^ b).toNat:Int):=by
 show IntKind.u8.wrap ((BitVec.ofInt 8 (a.toNat:Int)^^^ BitVec.ofInt 8 (b.toNat:Int)).toNat:Int)=_
 rw[CI,CI]
 have h1:(a.toBitVec ^^^ b.toBitVec).toNat=(a ^^^ b).toNat:=by
   rw[←UInt8.toBitVec_xor,UInt8.toNat_toBitVec]
 rw[h1]
 have:=(a ^^^ b).toNat_lt
 exact wrap_u8 (by omega) (by omega)
end Go.Vm
namespace Go.Vm
theorem wG {α:Type} (f:α→V) (p:α→Prop):∀(es:List V),(∀x∈es,∃a,x=f a∧p a)→∃l:List α,es=l.map f∧∀a∈l,p a
 | [],_=>⟨[],rfl,fun a h=>(by cases h)⟩
 | x::es,h=> by
   obtain ⟨a,rfl,ha⟩:=h x (by simp)
   obtain ⟨l,rfl,hl⟩:=wG f p es (fun y hy=> h y (by simp[hy]))
   exact ⟨a::l,rfl,fun b hb=> by
     rcases List.mem_cons.1 hb with rfl | hb
     ·exact ha
     ·exact hl b hb⟩
theorem yT {es:List V} (h:∀x∈es,∃m,x= .s (.int .u8 m)∧IntKind.u8.min≤m∧m≤IntKind.u8.max):∃l:List UInt8,es=l.map aa:=by
 obtain ⟨l,h1,_⟩:=wG aa (fun _=> True) es (fun x hx=> by
   obtain ⟨m,rfl,h1,h2⟩:=h x hx
   have a:IntKind.u8.min=0:=rfl
   have b:IntKind.u8.max=255:=rfl
   rw[a] at h1;rw[b] at h2
   refine ⟨UInt8.ofNat m.toNat,?_,trivial⟩
   simp only[aa,UInt8.toNat_ofNat']
   congr 2
   omega)
 exact ⟨l,h1⟩
variable {P : Program} {n : Nat} {t e : TypeId} {v : V}
theorem of_int {k:IntKind} (h:bR P (n+1) t v) (hu:P.underlying t=some (.int k)):∃m,v= .s (.int k m)∧k.min≤m∧m≤k.max:=by
 rw[bR,hu] at h;exact h
theorem ec (h:bR P (n+1) t v) (hu:P.underlying t=some (.int .i64)):∃m,v= .s (.int .i64 m)∧ -9223372036854775808≤m∧m≤9223372036854775807:=of_int h hu
theorem nV (h:bR P (n+1) t v) (hu:P.underlying t=some (.int .u64)):∃m,v= .s (.int .u64 m)∧0≤m∧m≤18446744073709551615:=of_int h hu
theorem of_bool (h:bR P (n+1) t v) (hu:P.underlying t=some .bool):∃b,v= .s (.bool b):=by
 rw[bR,hu] at h;exact h
theorem of_slice {α:Type} {f:α→V} {p:α→Prop} {g:Option Nat} (h:bR P (n+1) t v) (hu:P.underlying t=some (.slice e)) (hg:aC P e=g) (he:∀x,bR P n e x→∃a,x=f a∧p a):
 ∃l:List α,v= .al false g (l.map f)∧l.length * P.bytesOf e≤140737488351232∧∀a∈l,p a:=by
 rw[bR,hu] at h
 obtain ⟨es,rfl,h1,h2,h3⟩:=h
 obtain ⟨l,rfl,hl⟩:=wG f p es (fun x hx=> he x (h3 x hx))
 exact ⟨l,by rw[hg],by simpa using h1,hl⟩
theorem wS (h:bR P (n+2) t v) (hu:P.underlying t=some (.slice e)) (he:P.underlying e=some (.int .u8)) (hb:P.bytesOf e=1):∃l:List UInt8,v= .al false none (l.map aa)∧l.length≤140737488351232:=by
 rw[bR,hu] at h
 obtain ⟨es,rfl,h1,h2,h3⟩:=h
 obtain ⟨l,rfl⟩:=yT (fun x hx=> of_int (h3 x hx) he)
 refine ⟨l,by simp[aC,he],?_⟩
 rw[hb] at h1;simpa using h1
theorem ri {k:Nat} (h:bR P (n+2) t v) (hu:P.underlying t=some (.array k e)) (he:P.underlying e=some (.int .u8)):∃l:List UInt8,v= .arr (P.underlyingId t) (l.map aa)∧l.length=k:=by
 rw[bR,hu] at h
 obtain ⟨es,rfl,h1,h3⟩:=h
 obtain ⟨l,rfl⟩:=yT (fun x hx=> of_int (h3 x hx) he)
 exact ⟨l,rfl,by simpa using h1⟩
theorem of_struct {fs:Array Field} (h:bR P (n+1) t v) (hu:P.underlying t=some (.struct fs)):∃vs,v= .st (P.underlyingId t) vs∧vs.length=fs.size∧∀(i:Nat) (f:Field) (x:V),fs[i]? =some f→vs[i]? =some x→bR P n f.type x:=by
 rw[bR,hu] at h;exact h
theorem J8 {xs:List V} (h:nT P n [] xs):xs=[]:=by
 cases xs with
 | nil=> rfl
 | cons x xs=> exact h.elim
theorem rK {t:TypeId} {ts:List TypeId} {xs:List V} (h:nT P n (t::ts) xs):∃x ys,xs=x::ys∧bR P n t x∧nT P n ts ys:=by
 cases xs with
 | nil=> exact h.elim
 | cons x xs=> exact ⟨x,xs,rfl,h.1,h.2⟩
attribute [go_sem] wp_seq Q3 LL wp_skip wp_ret wp_exit wp_block wp_cond LM Jg LN Jm Jh Ji Ek Jn GD.calm Rq JI JJ Bc LZ EK L3 EN L2 EM L1 By L0 EL Rr JK L4 EO Rt JL L5 EP L6 ER L7 ES L8 ET JM Bd Ru JN L9 Ma Mb JO Be JP Bf Mc Mf Mg EU Mh EV Mi EW Mj EX JQ Bg Mk Ml Mm Mn EY Mo E0 Mp EZ Mq E1 Mr E2 Ms E3 Mt E4 Mu E5 Mv Mw JR E6 Mx E7 Mz E8 MA E9 jZ gM MB Fa MC MD WU WV oW iM WX EE JS Bh My ME Fb Jk El yI Jl Em yO JV Fe wE Fc Bi tS A0 qW Ba A2 A3 A4 Er YG YH WK Jp Jq WL YI Q6 Q7 LW WT WY WZ W0 W2 W3 YJ W4 W5 W6 W7 W8 W9 Xa Q8 Jy Q9 Ra Rb Jz JA JB JC zR Xi Xj Rj cX JD Xk Rk g8 Xl Xm Xn Xo Rl Rm Xp Xq Xs Xt Xh Xu uf M4 Jr Es Et Js Eu ud A5 Jt Ew Xr Md Me Ey LV A6 A7 Ez A8 EA Jv EB Jw yL Jx EC ED rV ue bD Xb Rc Re Xc oe Rg Rh Xd Xe Xf M7 Xg Ri Rf mW Ei En JW yP JX yQ JY yR Ff Fg Fh Fi Fj MF Bk JZ J0 J1 Xx MI Rv MJ Fq rR pI CH pY MG Fk J2 Fl Fm yS Fo r9 ed JH EJ YK Rn Ro Rp LX JE Xv Xw pM LY EF EG EH Bb yM JF JG EI J3 aM oV bO
attribute [go_sem] List.map_cons List.map_nil List.getD_cons_zero List.getD_cons_succ List.getD_nil List.zip_cons_cons List.zip_nil_left List.zip_nil_right List.set_cons_zero List.set_cons_succ Bool.false_eq_true Bool.true_eq_false if_true if_false ite_true ite_false Option.map_some Option.bind_some List.getElem?_cons_zero List.getElem?_cons_succ Bool.not_true Bool.not_false beq_self_eq_true Bool.true_beq Bool.false_beq decide_true decide_false List.drop_zero List.drop_succ_cons List.take_succ_cons List.take_zero List.nil_append List.cons_append and_true true_and Bool.and_self Int.toNat_natCast List.getElem?_append_left List.set_append_left List.getElem?_set_self List.getElem?_set_ne ne_eq not_false_eq_true List.length_map List.getElem?_map Nat.zero_add List.length_set List.set_set Option.isSome_some Option.isSome_none Option.getD_some Option.getD_none or_true true_or or_self or_false false_or and_self List.length_cons List.length_nil List.take_length Bool.or_true Bool.true_or Bool.or_false Bool.false_or Bool.and_true Bool.true_and Bool.and_false Bool.false_and Prod.mk.injEq Option.some.injEq
end Go.Vm
namespace Go.Vm
def YL (r:Option (V×Hp)) (h:Hp):Option (V×Hp):=
 match r with
 | some (v,h')=> match bA h.length h' v with
   | some v'=> some (v',h'.take h.length)
   | none=> none
 | none=> none
def YM (vs:List V) (h:Hp):Option (V×Hp):=YL (dG vs h) h
end Go.Vm
namespace Go.Vm
variable {cf : CF} {base : Nat}
theorem q5z {p:Bool} {a b:C} {e:Env} {h:Hp} {Q:bK} (h1:p=true→wp cf base a e h Q) (h2:p=false→wp cf base b e h Q):wpC cf base (.s (.bool p)) a b e h Q:=by
 rw[Jj];split
 ·exact h1 (by assumption)
 ·exact h2 (by simpa using (by assumption:¬p=true))
theorem q3z {p:Bool} {g:G} {gs:List G} {e:Env} {h:Hp} {Q:bK} (h1:p=true→FN cf base (some true) g gs e h Q) (h2:p=false→FN cf base (some false) g gs e h Q):FN cf base (some (p==true)) g gs e h Q:=by
 cases p
 ·exact h2 rfl
 ·exact h1 rfl
theorem q4z {p:Bool} {g:G} {gs:List G} {e:Env} {h:Hp} {Q:bK} (h1:p=true→FN cf base (some false) g gs e h Q) (h2:p=false→FN cf base (some true) g gs e h Q):FN cf base (some (p==false)) g gs e h Q:=by
 cases p
 ·exact h2 rfl
 ·exact h1 rfl
theorem q2z {p:Bool} (h:(!p)=true):p=false:=by cases p <;> simp_all
theorem q1z {p:Bool} (h:(!p)=false):p=true:=by cases p <;> simp_all
def MK (n:Nat) (r:Option (Option Nat×List V)) (g:Option Nat) (off len aw:Nat):Option V:=
 match r with
 | some (g',es)=> if g'=g∧off+len≤aw∧V.low.all n ((es.drop off).take len)=true then some (.al false g ((es.drop off).take len)) else none
 | none=> none
theorem yU (n:Nat) (h:Hp) (id:Nat) (g:Option Nat) (off len aw:Nat):bA n h (.ref id [] g off len aw)=if id < n then some (.ref id [] g off len aw) else MK n (rowOf h id aw) g off len aw:=by
 simp only[bA];split <;> rfl
theorem tE (n:Nat) {vs:List V} (hp:V.plain.all vs=true):V.low.all n vs=true:=by
 rw[eK] at hp
 induction vs with
 | nil=> rfl
 | cons v vs ih=> simp only[V.low.all,vr n v (hp v (by simp)),ih (fun x hx=> hp x (by simp[hx])),Bool.and_self]
theorem rY (n:Nat) (l:List UInt8):MK n (some (none,l.map aa)) none 0 l.length l.length=some (.al false none (l.map aa)):=by
 have h1:(l.map aa).take l.length=l.map aa:=List.take_of_length_le (by simp)
 have h2:V.low.all n (l.map aa)=true:=tE n (ed l)
 simp[MK,h1,h2]
theorem yV (n k:Nat):(n+k < n)=False:=by simp
theorem ML (n:Nat):(n < n)=False:=by simp
theorem Dy {cf:CF} {base:Nat} {h:Hp} {f:Bool} {l:List UInt8} (cD:l≠[]) (hl:l.length≤140737488355328):aB cf base h (.app none 1) [.al true none [],.al f none (l.map aa)]=some (.ref h.length [] none 0 l.length l.length,h++[.cells none (l.map aa)]):=by
 have:=iH (cf:=cf) (base:=base) (h:=h) (g:=none) (bytes:=1) (y:= .al f none (l.map aa)) (ys:=l.map aa) rfl (by simpa using cD) (by simpa using hl)
 simpa using this
theorem J4 {cf:CF} {base:Nat} {h:Hp} {f:Bool} {g:Option Nat} {n:Nat}:aB cf base h (.app g n) [.al true g [],.al f g []]=some (.al true g [],h):=iL (n:=0) rfl rfl
theorem xI (g:Option Nat) (h:Hp):LU (some []) g h=some (.al true g [],h):=by simp[LU]
theorem J5 (b:UInt8):(aa b).ty=none:=rfl
theorem J6 (b:UInt8):(aa b).ax=true:=rfl
attribute [go_sem] xI J5 J6 yU rY yV ML J4
def bt (n:Int):UInt8:=UInt8.ofNat (n % 256).toNat
theorem od (n:Int):V.s (.int .u8 (IntKind.u8.wrap n))=aa (bt n):=by
 have h1:IntKind.u8.wrap n=n % 256:=by simp[IntKind.wrap,IntKind.bits,IntKind.signed]
 have h2:((bt n).toNat:Int)=n % 256:=by
   have h0:=Int.emod_nonneg n (show (256:Int)≠0 by decide)
   have h3:=Int.emod_lt_of_pos n (show (0:Int)< 256 by decide)
   simp only[bt,UInt8.toNat_ofNat']
   omega
 rw[h1,←h2];rfl
def eP (g:Option Nat) (by_:Nat):List V→Hp→Option (V×Hp)
 | [x,.s (.int .i64 i),.ref idy [] gy 0 1 1],h=> match rowOf h idy 1 with
   | some (gy',[e])=>
     if gy=g∧gy'=g∧e.ground=true then
      match x with
      | .al true gx []=> if gx=g∧i=0 then some (.ref h.length [] g 0 1 1,h++[.cells g [e]]) else none
      | .ref id [] gx 0 n m=> match rowOf h id m with
        | some (gx',es)=> if gx=g∧gx'=g∧n=m∧id≠idy∧0≤i∧i≤n∧(n+1)* by_≤140737488355328 then some (.ref id [] g 0 (n+1) (n+1),h.set id (.cells g (es.take i.toNat++[e]++es.drop i.toNat))) else none
        | none=> none
      | _=> none
     else none
   | _=> none
 | _,_=> none
theorem Ax {g:Option Nat} {k:Nat} {vs:List V} {h:Hp} {v:V} {h':Hp} (hr:eP g k vs h=some (v,h')) (base:Nat):Kp base h h':=by
 unfold eP at hr
 split at hr
 case h_2=> cases hr
 split at hr
 case h_2=> cases hr
 rename_i hry
 split at hr
 case isFalse=> cases hr
 rename_i hc
 split at hr
 ·split at hr
  ·cases hr;exact Kp.append _ _ _
  ·cases hr
 ·split at hr
  case h_2=> cases hr
  rename_i hrx
  split at hr
  case isFalse=> cases hr
  cases hr
  obtain ⟨h1,h2⟩:=q16z hrx
  intro b hb tI hl
  refine ⟨fun id hid k hk=> ?_,by simp⟩
  rw[List.getElem?_set] at hk
  split at hk
  ·rename_i he
   subst he
   split at hk
   ·cases hk
    have yY:=hl _ hid _ h1
    simp only[aV.low] at yY ⊢
    rw[eG] at yY ⊢
    intro e he
    rcases List.mem_append.1 he with he | he
    ·rcases List.mem_append.1 he with he | he
     ·exact yY e (List.mem_of_mem_take he)
     ·simp at he;subst he;exact oH b _ hc.2.2
    ·exact yY e (List.mem_of_mem_drop he)
   ·cases hk
  ·exact hl _ hid _ hk
 ·cases hr
def wW :List V→Hp→Option (V×Hp)
 | [x,y],h=> match elems h x,elems h y with
   | some (_,a),some (_,b)=> match bytesOf a,bytesOf b with
     | some l,some m=> some (.s (.int .i64 (Lib.compareBytes l m)),h)
     | _,_=> none
   | _,_=> none
 | _,_=> none
theorem DJ {vs:List V} {h:Hp} {v:V} {h':Hp} (hr:wW vs h=some (v,h')):h'=h:=by
 unfold wW at hr
 split at hr
 ·split at hr
  ·split at hr
   ·cases hr;rfl
   ·cases hr
  ·cases hr
 ·cases hr
def Rw (n:Option V) (t id:Nat) (path:List Nat) (g:Option Nat) (aw:Nat) (h:Hp):Option (V×Hp):=
 match n with
 | some (.arr t' es)=> if t'=t then some (.ref id path g 0 es.length aw,h) else none
 | _=> none
theorem Rx {cf:CF} {base:Nat} {h:Hp} (t:Nat) (g:Option Nat) (id:Nat) (p:List Nat) (aw:Nat):aB cf base h (.qp t g false false) [.ptr id p aw]=Rw (node h id p aw) t id p g aw h:=by
 simp only[aB,qv,aL,Rw]
 cases node h id p aw with
 | none=> rfl
 | some v=> cases v <;> simp[cL]
theorem Fu (t':Nat) (es:List V) (t id:Nat) (path:List Nat) (g:Option Nat) (aw:Nat) (h:Hp):Rw (some (.arr t' es)) t id path g aw h=if t'=t then some (.ref id path g 0 es.length aw,h) else none:=rfl
theorem J7 {cf:CF} {base:Nat} {h:Hp} (t:Nat) (g:Option Nat) (es:List V):aB cf base h (.qp t g false false) [.dQ (.arr t es)]=some (.al true g es,h):=by
 simp[aB,qv,aL,cL]
def elR (r:Option (List V)) (g:Option Nat) (off len:Nat):Option (Option Nat×List V):=r.map fun es=>(g,(es.drop off).take len)
theorem fD (es:List V) (g:Option Nat) (off len:Nat):elR (some es) g off len=some (g,(es.drop off).take len):=rfl
theorem dU (h:Hp) (id:Nat) (path:List Nat) (g:Option Nat) (off len aw:Nat):elems h (.ref id path g off len aw)=elR (rowAt h id path aw) g off len:=rfl
theorem Bm (h:Hp) (f:Bool) (g:Option Nat) (es:List V):elems h (.al f g es)=some (g,es):=rfl
theorem o4 {α β:Type} (f:α→β) (l:List α):(l.map f).take l.length=l.map f:=List.take_of_length_le (by simp)
def Hi (a b:Option (Option Nat×List V)) (h:Hp):Option (V×Hp):=
 match a,b with
 | some (_,a),some (_,b)=> match bytesOf a,bytesOf b with
   | some l,some m=> some (.s (.int .i64 (Lib.compareBytes l m)),h)
   | _,_=> none
 | _,_=> none
theorem G8 (x y:V) (h:Hp):wW [x,y] h=Hi (elems h x) (elems h y) h:=by simp only[wW,Hi]
theorem rX (g g':Option Nat) (l m:List UInt8) (h:Hp):Hi (some (g,l.map aa)) (some (g',m.map aa)) h=some (.s (.int .i64 (Lib.compareBytes l m)),h):=by
 simp only[Hi,jk]
def Ry (a:Option (Option Nat×List V)) (h:Hp):Option (V×Hp):=a.bind fun r=>(bytesOf r.2).bind fun l=> js (.string ⟨l.toArray⟩) h
theorem Pb {cf:CF} {base:Nat} {h:Hp} (x:V):aB cf base h .Fv [x]=Ry (elems h x) h:=rfl
theorem rW (g:Option Nat) (l:List UInt8) (h:Hp):Ry (some (g,l.map aa)) h=some (.s (.string ⟨l.toArray⟩),h):=by
 simp[Ry,jk,js]
attribute [go_sem] Rx Fu J7 fD dU Bm o4 rX rW
def jh (x:V) (i:Nat):V:=
 match x with
 | .ref id _ _ off _ aw=> .ptr id [off+i] aw
 | .al _ _ es=> .dQ (es.getD i .top)
 | _=> .top
theorem SR.get {h:Hp} {x:V} {g:Option Nat} {vs:List V} (hb:SR h x g vs) {i:Nat} {v:V} (hi:vs[i]? =some v):(∃f,x= .al f g vs)∨∃id off aw es,x= .ref id [] g off vs.length aw∧h[id]? =some (.cells g es)∧es.length=aw∧off+vs.length≤aw∧es[off+i]? =some v:=by
 rcases hb with h1 | ⟨id,off,aw,es,rfl,h2,h3,h4,h5⟩
 ·exact .inl h1
 ·refine .inr ⟨id,off,aw,es,rfl,h2,h3,h4,?_⟩
  have hl:=(List.getElem?_eq_some_iff.1 hi).1
  rw[←h5,List.getElem?_take,if_pos hl,List.getElem?_drop] at hi
  exact hi
theorem SR.cX {cf:CF} {base:Nat} {h:Hp} {x:V} {g:Option Nat} {vs:List V} (hb:SR h x g vs) {k:IntKind} {i:Nat} (hi:i < vs.length):aB cf base h (.di g) [x,.s (.int k i)]=some (jh x i,h):=by
 have hv:=List.getElem?_eq_getElem hi
 have h0:(0:Int)≤i:=by omega
 rcases hb.get hv with ⟨f,rfl⟩ | ⟨id,off,aw,es,rfl,h1,h2,h3,h4⟩
 ·rw[JD,if_pos h0,Int.toNat_natCast,hv]
  simp[jh,List.getD,hv]
 ·have h5:(i:Int)< vs.length:=by omega
  simp only[go_sem,h1,h2,if_true,h0,h5,jh,Int.toNat_natCast,Option.map_some,true_and,and_true,and_self]
  have:off+i < es.length:=by omega
  simp[this]
  all_goals omega
theorem SR.g8 {cf:CF} {base:Nat} {h:Hp} {x:V} {g:Option Nat} {vs:List V} (hb:SR h x g vs) {i:Nat} {v:V} (hi:vs[i]? =some v) (hv:v.ty=g):aB cf base h (.ld g) [jh x i]=some (v,h):=by
 rcases hb.get hi with ⟨f,rfl⟩ | ⟨id,off,aw,es,rfl,h1,h2,h3,h4⟩
 ·simp only[jh,List.getD,hi,Option.getD_some,go_sem,hv,if_true]
 ·simp only[jh,go_sem,h1,h2,if_true,h4,hv]
theorem SR.app {h:Hp} {x:V} {g:Option Nat} {vs:List V} (hb:SR h x g vs) (t:Hp):SR (h++t) x g vs:=by
 rcases hb with h1 | ⟨id,off,aw,es,h1,h2,h3⟩
 ·exact .inl h1
 ·exact .inr ⟨id,off,aw,es,h1,q10z h2 t,h3⟩
theorem xn {g:Option Nat} {by_:Nat} {h:Hp} {k n i idy:Nat} {es:List V} {e:V} (hk:h[k]? =some (.cells g es)) (hn:es.length=n) (hy:h[idy]? =some (.cells g [e])) (cD:k≠idy) (hi:i≤n) (hb:(n+1)* by_≤140737488355328) (he:e.ground=true):
 eP g by_ [.ref k [] g 0 n n,.s (.int .i64 i),.ref idy [] g 0 1 1] h=some (.ref k [] g 0 (n+1) (n+1),h.set k (.cells g (es.take i++[e]++es.drop i))):=by
 have h1:rowOf h idy 1=some (g,[e]):=by simp[rowOf,hy]
 have h2:rowOf h k n=some (g,es):=by simp[rowOf,hk,hn]
 have h3:(0:Int)≤i:=by omega
 have h4:(i:Int)≤n:=by omega
 simp only[eP,h1,h2,he,and_self,if_true,ne_eq,cD,not_false_eq_true,true_and,h3,h4,hb,Int.toNat_natCast]
theorem xm {g:Option Nat} {by_:Nat} {h:Hp} {idy:Nat} {e:V} (hy:h[idy]? =some (.cells g [e])) (he:e.ground=true):
 eP g by_ [.al true g [],.s (.int .i64 0),.ref idy [] g 0 1 1] h=some (.ref h.length [] g 0 1 1,h++[.cells g [e]]):=by
 have h1:rowOf h idy 1=some (g,[e]):=by simp[rowOf,hy]
 simp only[eP,h1,he,and_self,if_true]
theorem SR.fw {h H:Hp} {x:V} {g:Option Nat} {vs:List V} (hb:SR h x g vs) (f:Fw [] h H):SR H x g vs:=by
 rcases hb with h1 | ⟨id,off,aw,es,h1,h2,h3⟩
 ·exact .inl h1
 ·exact .inr ⟨id,off,aw,es,h1,f.dw _ _ h2 (by simp),h3⟩
theorem LR.ty {h:Hp} {g:Option Nat} {k:Nat} {x:V} {vs:List V} (hl:LR h g k x vs):x.ty=none∧x.ax=true:=by
 rcases hl with ⟨rfl,_⟩ | ⟨es,rfl,_⟩<;> exact ⟨rfl,rfl⟩
theorem LR.Ks {h H T:Hp} {g:Option Nat} {k:Nat} {x:V} {vs:List V} {idy bytes:Nat} {z:V} (hl:LR H g k x vs) (hk:h.length≤k) (f:Fw [] h H) (hy:(H++T)[idy]? =some (.cells g [z])) (hz:z.ground=true) (hb:(vs.length+1)* bytes≤140737488355328):
 ∃x' H' k',(∀cf base,aB cf base (H++T) (.app g bytes) [x,.ref idy [] g 0 1 1]=some (x',H'))∧LR H' g k' x' (vs++[z])∧Fw [] h H'∧h.length≤k':=by
 have hlT:LR (H++T) g k x vs:=hl.at' fun b hb=> q10z hb T
 have hs:source (H++T) (.ref idy [] g 0 1 1)=some (g,[z]):=(kJ hy rfl).src
 have hm:∀base,bO base k z=true:=fun base=> by simp[bO,hz]
 have fT:Fw [] h (H++T):=f.trans (Fw.app _ _ _)
 rcases hl with ⟨rfl,rfl⟩ | ⟨es,rfl,h1,h2,h3⟩
 ·refine ⟨_,_,(H++T).length,fun cf base=> by rw[iH hs (by simp) (by simpa using hb)];rfl,.inr ⟨[z],rfl,aM _ _,rfl,Nat.le_refl _⟩,fT.trans (Fw.app _ _ _),fT.len⟩
 ·have hkT:=q10z h1 T
  by_cases hr:vs.length+1≤es.length
  ·refine ⟨.ref k [] g 0 (vs.length+1) es.length,(H++T).set k (.cells g (es.take vs.length++[z]++es.drop (vs.length+1))),k,fun cf base=> ?_,.inr ⟨es.take vs.length++[z]++es.drop (vs.length+1),?_,q9z hkT,?_,?_⟩,fT.cK hk _,hk⟩
   ·rw[rU hkT hs (by simp) (by simpa using hm base) (by simpa using hr)]
    simp
   ·have:(es.take vs.length++[z]++es.drop (vs.length+1)).length=es.length:=by simp;omega
    rw[this,List.length_append];rfl
   ·rw[List.length_append,h2];exact List.take_left' (l₁:=vs++[z]) (by simp)
   ·simp;omega
  ·have he:vs.length=es.length:=by omega
   have hv:es=vs:=by rw[←h2,List.take_of_length_le (by omega)]
   subst hv
   refine ⟨.ref k [] g 0 (es.length+1) (es.length+1),(H++T).set k (.cells g (es++[z])),k,fun cf base=> ?_,.inr ⟨es++[z],by simp,q9z hkT,List.take_of_length_le (by simp),by simp⟩,fT.cK hk _,hk⟩
   rw[gj hkT hs (by simp) (by simpa using hm base) (by simpa using hb)]
   rfl
theorem LR.qX {H:Hp} {g:Option Nat} {k n:Nat} {x:V} {vs:List V} (hl:LR H g k x vs) (hk:n≤k) (hp:V.plain.all vs=true):bA n H x=some (.al false g vs):=by
 rcases hl with ⟨rfl,rfl⟩ | ⟨es,rfl,h1,h2,h3⟩
 ·rfl
 ·have h4:rowOf H k es.length=some (g,es):=by simp[rowOf,h1]
  have h5:¬k < n:=by omega
  simp only[yU,h5,if_false,h4,MK,List.drop_zero,h2,Nat.zero_add,h3,tE n hp,and_self,if_true]
def wH (x:V) (i f:Nat):V:=
 match x with
 | .ref id _ _ off _ aw=> .ptr id [off+i,f] aw
 | .al _ _ es=> match es.getD i .top with
   | .st _ fs=> .dQ (fs.getD f .top)
   | _=> .top
 | _=> .top
theorem SR.zR {cf:CF} {base:Nat} {h:Hp} {x:V} {g:Option Nat} {vs:List V} (hb:SR h x g vs) {i t f:Nat} {fs:List V} (hi:vs[i]? =some (.st t fs)) (hf:f < fs.length):aB cf base h (.fa t f) [jh x i]=some (wH x i f,h):=by
 have hv:=List.getElem?_eq_getElem hf
 rcases hb.get hi with ⟨f',rfl⟩ | ⟨id,off,aw,es,rfl,h1,h2,h3,h4⟩
 ·simp only[jh,wH,List.getD,hi,Option.getD_some,go_sem,hv,Option.map_some]
 ·simp only[jh,wH,go_sem,h1,h2,if_true,h4,hf]
  try simp[hf]
theorem SR.Ho {cf:CF} {base:Nat} {h:Hp} {x:V} {g g':Option Nat} {vs:List V} (hb:SR h x g vs) {i t f:Nat} {fs:List V} {w:V} (hi:vs[i]? =some (.st t fs)) (hf:fs[f]? =some w) (hw:w.ty=g'):aB cf base h (.ld g') [wH x i f]=some (w,h):=by
 rcases hb.get hi with ⟨f',rfl⟩ | ⟨id,off,aw,es,rfl,h1,h2,h3,h4⟩
 ·simp only[wH,List.getD,hi,hf,Option.getD_some,go_sem,hw,if_true]
 ·simp only[wH,go_sem,h1,h2,if_true,h4,hf,hw]
def slP (x:V) (i f:Nat) (g:Option Nat) (n:Nat):V:=
 match x with
 | .ref id _ _ off _ aw=> .ref id [off+i,f] g 0 n aw
 | .al _ _ es=> match es.getD i .top with
   | .st _ fs=> match fs.getD f .top with
     | .arr _ es=> .al true g es
     | _=> .top
   | _=> .top
 | _=> .top
theorem SR.M5 {cf:CF} {base:Nat} {h:Hp} {x:V} {g g':Option Nat} {vs:List V} (hb:SR h x g vs) {i t f t':Nat} {fs es':List V} (hi:vs[i]? =some (.st t fs)) (hf:fs[f]? =some (.arr t' es')):aB cf base h (.qp t' g' false false) [wH x i f]=some (slP x i f g' es'.length,h):=by
 rcases hb.get hi with ⟨f',rfl⟩ | ⟨id,off,aw,es,rfl,h1,h2,h3,h4⟩
 ·simp only[wH,slP,List.getD,hi,hf,Option.getD_some,J7]
 ·simp only[wH,slP,go_sem,h1,h2,if_true,h4,hf]
theorem uj {h:Hp} {x:V} {g g':Option Nat} {vs:List V} (hb:SR h x g vs) {i t f t':Nat} {fs es':List V} (hi:vs[i]? =some (.st t fs)) (hf:fs[f]? =some (.arr t' es')):elems h (slP x i f g' es'.length)=some (g',es'):=by
 rcases hb.get hi with ⟨f',rfl⟩ | ⟨id,off,aw,es,rfl,h1,h2,h3,h4⟩
 ·simp only[slP,List.getD,hi,hf,Option.getD_some,go_sem]
 ·simp only[slP,go_sem,h1,h2,if_true,h4,hf,List.drop_zero,List.take_length]
def XR (h:Hp) (g:Option Nat) (k:Nat) (x:V) (vs:List V):Prop:=(x= .al true g []∧vs=[])∨(x= .ref k [] g 0 vs.length vs.length∧h[k]? =some (.cells g vs))
theorem XR.ty {h:Hp} {g:Option Nat} {k:Nat} {x:V} {vs:List V} (hl:XR h g k x vs):x.ty=none∧x.ax=true:=by
 rcases hl with ⟨rfl,_⟩ | ⟨rfl,_⟩<;> exact ⟨rfl,rfl⟩
theorem XR.Ks {h H T:Hp} {g:Option Nat} {k:Nat} {x:V} {vs:List V} {idy bytes:Nat} {z:V} (hl:XR H g k x vs) (hk:h.length≤k) (f:Fw [] h H) (hy:(H++T)[idy]? =some (.cells g [z])) (hz:z.ground=true) (hb:(vs.length+1)* bytes≤140737488355328):
 ∃x' H' k',(∀cf base,aB cf base (H++T) (.app g bytes) [x,.ref idy [] g 0 1 1]=some (x',H'))∧XR H' g k' x' (vs++[z])∧Fw [] h H'∧(k'=k∨H.length+T.length≤k')∧(∀j b,j≠k→(H++T)[j]? =some b→H'[j]? =some b):=by
 have hs:source (H++T) (.ref idy [] g 0 1 1)=some (g,[z]):=(kJ hy rfl).src
 have hm:∀base,bO base k z=true:=fun base=> by simp[bO,hz]
 have fT:Fw [] h (H++T):=f.trans (Fw.app _ _ _)
 rcases hl with ⟨rfl,rfl⟩ | ⟨rfl,h1⟩
 ·exact ⟨_,_,(H++T).length,fun cf base=> by rw[iH hs (by simp) (by simpa using hb)];rfl,.inr ⟨rfl,aM _ _⟩,fT.trans (Fw.app _ _ _),.inr (by simp),fun j b _ hj=> q10z hj _⟩
 ·have hkT:=q10z h1 T
  refine ⟨.ref k [] g 0 (vs.length+1) (vs.length+1),(H++T).set k (.cells g (vs++[z])),k,fun cf base=> ?_,.inr ⟨by simp,q9z hkT⟩,fT.cK hk _,.inl rfl,fun j b hj Hd=> by rw[List.getElem?_set_ne (Ne.symm hj)];exact Hd⟩
  ·rw[gj hkT hs (by simp) (by simpa using hm base) (by simpa using hb)]
   rfl
theorem zP {cf:CF} {base:Nat} {h:Hp} {g:Option Nat} {id n r:Nat} {es:List V} {k:IntKind} (hg:h[id]? =some (.cells g es)) (hn:es.length=n) (hr:r≤n):aB cf base h (.jg g false true false) [.ref id [] g 0 n n,.s (.int k r)]=some (.ref id [] g 0 r n,h):=by
 simp[aB,fZ,fq,aL,cL,dx,Vm.rowAt,rowOf,hg,hn,hr]
end Go.Vm
namespace Go.Vm
def bN :List UInt8:=[0,0,0,0,0,0,0,0,0,0,0,0,0,0,0,0]
def BC :List UInt8:=[0,0,0,0]
abbrev bC (t:Nat):V:= .arr t (bN.map aa)
abbrev z4 (t:Nat):V:= .arr t (BC.map aa)
abbrev ga (d:Nat) (o:O) (xs:List X):G:=⟨some d,o,xs,none⟩
abbrev gm (d s:Nat):G:=⟨some d,.mv,[.t s],none⟩
abbrev gn (o:O) (xs:List X):G:=⟨none,o,xs,none⟩
abbrev gw (t:Nat) (b:Bool) (d:Nat) (o:O) (xs:List X):G:=⟨some d,o,xs,some (t,b)⟩
abbrev gl (l h:Nat) (g:G):GD:=⟨g,l,h⟩
abbrev kc (n:Int):X:= .c (.s (.int .i64 n))
abbrev kb (b:Bool):X:= .c (.s (.bool b))
abbrev ki :V:= .s (.int .i64 0)
abbrev ku :V:= .s (.int .u64 0)
abbrev kx :V:= .al false none []
theorem Fw.zL {h H:Hp} (hl:h.length≤H.length) (ho:∀(j:Nat) (b:aV),h[j]? =some b→H[j]? =some b):Fw [] h H:=
 ⟨hl,fun j b hj _=> ho j b hj,fun j l hj=> ho j _ hj⟩
theorem Fw.trans' {h H H':Hp} {n k:Nat} (f:Fw [] h H) (hl:H.length≤H'.length) (ho:∀(j:Nat) (b:aV),j≠k→H[j]? =some b→H'[j]? =some b) (hk:h.length+n≤k):Fw [] h H':=
 Fw.zL (Nat.le_trans f.len hl) fun j b hj=> by
   have:=q6z hj
   exact ho j b (by omega) (f.dw j b hj (by simp))
theorem XR.set {h:Hp} {g:Option Nat} {k j:Nat} {x:V} {vs:List V} (hl:XR h g k x vs) (hj:j≠k) (b:aV):XR (h.set j b) g k x vs:=by
 rcases hl with h1 | ⟨h1,h2⟩
 ·exact .inl h1
 ·exact .inr ⟨h1,by rw[List.getElem?_set_ne hj];exact h2⟩
theorem XR.BR {h:Hp} {k:Nat} {x:V} {l:List UInt8} (hl:XR h none k x (l.map aa)):BR h x l:=by
 rcases hl with ⟨rfl,h0⟩ | ⟨rfl,h0⟩
 ·have:l=[]:=by simpa using h0
  subst this;exact oo _ _
 ·exact dH h0 (by simp)
theorem XR.SR {h:Hp} {g:Option Nat} {k:Nat} {x:V} {vs:List V} (hl:XR h g k x vs):SR h x g vs:=by
 rcases hl with ⟨rfl,rfl⟩ | ⟨rfl,h1⟩
 ·exact .inl ⟨_,rfl⟩
 ·exact .inr ⟨k,0,vs.length,vs,rfl,h1,rfl,by simp,by simp⟩
theorem XR.mono {h H:Hp} {g:Option Nat} {k:Nat} {x:V} {vs:List V} (hl:XR h g k x vs) (hk:∀b,h[k]? =some b→H[k]? =some b):XR H g k x vs:=by
 rcases hl with h1 | ⟨h1,h2⟩
 ·exact .inl h1
 ·exact .inr ⟨h1,hk _ h2⟩
theorem XR.nil (h:Hp) (g:Option Nat) (k:Nat):XR h g k (.al true g []) []:= .inl ⟨rfl,rfl⟩
theorem XR.qX {H:Hp} {g:Option Nat} {k n:Nat} {x:V} {vs:List V} (hl:XR H g k x vs) (hk:n≤k) (hp:V.plain.all vs=true):bA n H x=some (.al false g vs):=by
 rcases hl with ⟨rfl,rfl⟩ | ⟨rfl,h1⟩
 ·exact CH n H true g [] rfl
 ·exact wF n H k g _ vs hk h1 rfl hp
theorem XR.O9 {n:Nat} {H:Hp} {g:Option Nat} {k:Nat} {x y:V} {vs ys:List V} {bytes:Nat} (xr:XR H g k x vs) (hk:n≤k) (hm:n≤H.length) (hs:source H y=some (g,ys)) (hz:∀z∈ys,z.ground=true) (hb:(vs.length+ys.length)* bytes≤140737488355328):
 ∃x' H' k',(∀cf base,aB cf base H (.app g bytes) [x,y]=some (x',H'))∧XR H' g k' x' (vs++ys)∧n≤k'∧n≤H'.length∧(k'=k∨H.length≤k')∧H.length≤H'.length∧(∀j b,j≠k→H[j]? =some b→H'[j]? =some b):=by
 by_cases cD:ys=[]
 ·subst cD
  refine ⟨x,H,k,fun cf base=> iL hs xr.SR.len,by simpa using xr,hk,hm,.inl rfl,Nat.le_refl _,fun _ _ _ h=> h⟩
 ·have hma:∀base,∀z∈ys,bO base k z=true:=fun base z h=> by simp[bO,hz z h]
  rcases xr with ⟨rfl,rfl⟩ | ⟨rfl,h1⟩
  ·exact ⟨_,H++[.cells g ys],H.length,fun cf base=> iH hs cD (by simpa using hb),.inr ⟨rfl,aM _ _⟩,hm,by simp;omega,.inr (Nat.le_refl _),by simp,fun j b _ hj=> q10z hj _⟩
  ·refine ⟨_,H.set k (.cells g (vs++ys)),k,fun cf base=> gj h1 hs cD (hma base) hb,.inr ⟨by simp,q9z h1⟩,hk,by simpa using hm,.inl rfl,by simp,fun j b hj Hd=> by rw[List.getElem?_set_ne (Ne.symm hj)];exact Hd⟩
theorem XR.uq {n:Nat} {H:Hp} {g:Option Nat} {k m:Nat} {x:V} {vs ys:List V} {bytes:Nat} (xr:XR H g k x vs) (hk:n≤k) (hm:n≤H.length) (hl:ys.length=m) (hz:∀z∈ys,z.ground=true) (hb:(vs.length+ys.length)* bytes≤140737488355328) (bW:∀b,H[k]? =some b→k < H.length:=fun _ h=> q6z h):
 ∃x' H' k',(∀cf base,aB cf base (H++[.cells g ys]) (.app g bytes) [x,.ref H.length [] g 0 m m]=some (x',H'))∧XR H' g k' x' (vs++ys)∧n≤k'∧n≤H'.length∧(k'=k∨H.length≤k')∧H.length≤H'.length∧(∀j b,j≠k→H[j]? =some b→H'[j]? =some b):=by
 have hs:source (H++[.cells g ys]) (.ref H.length [] g 0 m m)=some (g,ys):=(kJ (aM _ _) hl).src
 obtain ⟨x',H',k',h1,h2,h3,h4,h5,h6,h7⟩:=(xr.mono (H:=H++[.cells g ys]) fun b hb=> q10z hb _).O9 hk (by simp;omega) hs hz hb
 refine ⟨x',H',k',h1,h2,h3,h4,?_,by simp at h6;omega,fun j b hj hb=> h7 j b hj (q10z hb _)⟩
 rcases h5 with h5 | h5
 ·exact .inl h5
 ·exact .inr (by simp at h5;omega)
end Go.Vm
namespace Go.Vm
def oq (x:V) (g:Option Nat) (l r:Nat):V:=
 match x with
 | .al full _ es=> .al (full && r==es.length) g ((es.drop l).take (r - l))
 | .ref id path _ off _ aw=> if l=0∨l < r then .ref id path g (off+l) (r - l) aw else .al false g []
 | x=> x
theorem SR.oq {h:Hp} {x:V} {g:Option Nat} {vs:List V} (hb:SR h x g vs) {l r:Nat} (h1:l≤r) (h2:r≤vs.length):dx h g x l r=some (oq x g l r)∧SR h (Vm.oq x g l r) g ((vs.drop l).take (r - l)):=by
 obtain ⟨y,e,hy⟩:=hb.cut h1 h2
 suffices hh:dx h g x l r=some (Vm.oq x g l r) by
   rw[e] at hh;cases hh;exact ⟨e,hy⟩
 rcases hb with ⟨f,rfl⟩ | ⟨id,off,aw,es,rfl,k2,k3,k4,k5⟩
 ·simp[dx,Vm.oq,h1,h2]
 ·have ck:rowAt h id [] aw=some es:=by simp[rowAt,rowOf,k2,k3]
  by_cases hl:l=0∨l < r
  ·simp[dx,Vm.oq,h1,h2,ck,hl]
  ·simp[dx,Vm.oq,h1,h2,ck,hl]
theorem SR.Yd {cf:CF} {base:Nat} {h:Hp} {x:V} {g:Option Nat} {vs:List V} (hb:SR h x g vs) {k:IntKind} {r:Nat} (hr:r≤vs.length):aB cf base h (.jg g false true false) [x,.s (.int k r)]=some (Vm.oq x g 0 r,h):=by
 have h3:=hb.len
 simp only[aB,fZ,h3,aL,cL]
 simp[(hb.oq (Nat.zero_le r) hr).1]
theorem SR.Pc {cf:CF} {base:Nat} {h:Hp} {x:V} {g:Option Nat} {vs:List V} (hb:SR h x g vs) {k:IntKind} {l:Nat} (hr:l≤vs.length):aB cf base h (.jg g true false false) [x,.s (.int k l)]=some (Vm.oq x g l vs.length,h):=by
 have h3:=hb.len
 simp only[aB,fZ,h3,aL,cL]
 simp[(hb.oq hr (Nat.le_refl _)).1]
theorem SR.loR {h:Hp} {x:V} {g:Option Nat} {vs:List V} (hb:SR h x g vs) {l:Nat} (hr:l≤vs.length):SR h (Vm.oq x g l vs.length) g (vs.drop l):=by
 have:=(hb.oq hr (Nat.le_refl _)).2
 rwa [List.take_of_length_le (by simp)] at this
end Go.Vm
