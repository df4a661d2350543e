/- An abstract machine for loaded programs, part 3: what it computes is what Go computes. Conditions: none. -/
import Derived.Test.YtggjbepemdhohaaGreatCVb
import Derived.Laws.Sem
import Derived.SizedLaws
import Derived.IntWalk
import Derived.Lib.Bytealg
set_option linter.unusedSimpArgs false
set_option linter.unusedVariables false
set_option linter.unusedSectionVars false
namespace Go.Vm
variable {P : Program} {obj : Nat → Bool} {L : cz}
def yk (P:Program):List ResultVar→Option (List Rs)
 | []=> some []
 | .tmp t::rs=>(yk P rs).map (.t t:: ·)
 | .cell a t::rs=> if oD P t=true then (yk P rs).map (.cell a (aE P t):: ·) else none
def bC (P:Program) (obj:Nat→Bool) (fn:Func) (pure:Bool):Option Fn:=
 match fn.body with
 | some code=> match gP P obj code,yk P fn.results.toList with
   | some k,some rs=> if (fn.name== "runtime.NumGoroutine")=false then some ⟨fn.ntmps,k,rs,pure⟩ else none
   | _,_=> none
 | none=> none
theorem Ab {fn:Func} {F:Fn} {pure:Bool} (h:bC P obj fn pure=some F):∃code,fn.body=some code∧gP P obj code=some F.body∧yk P fn.results.toList=some F.res∧(fn.name== "runtime.NumGoroutine")=false∧F.nt=fn.ntmps:=by
 unfold bC at h
 split at h
 case h_2=> cases h
 rename_i code hb
 split at h
 case h_2=> cases h
 rename_i k rs hk hr
 split at h
 case isFalse=> cases h
 rename_i hn
 cases h
 exact ⟨code,hb,hk,hr,hn,rfl⟩
def wO (tmps:Array Value):ResultVar→Sem Value
 | .tmp t=> pure (tmps.getD t undef)
 | .cell x t=> do loadVar t (←asAddr (tmps.getD x undef))
theorem Cj (fn:Func) (tmps:Array Value):results fn tmps=(do let vs ←fn.results.mapM (wO tmps);pure (if h:vs.size=1 then vs[0] else .tuple vs)):=by
 unfold results
 congr 2
theorem yl (hL:(ak P).OK) {c:Ctx} {h:Hp} {w:World} {fr:Fr} {a:Act} (hf:RF (ak P) c fr a) (hs:bm (ak P) c h w):
 ∀ {rvs:List ResultVar} {rs:List Rs},yk P rvs=some rs→∀ {vs:List V},kH fr h rs=some vs→
   ∃us:List Value,(rvs.mapM (wO a.tmps)).run P w= .ok us w∧fZ (ak P) c vs us
 | [],rs,hc,vs,hv=> by
   simp only[yk,Option.some.injEq] at hc
   subst hc
   simp only[kH,Option.some.injEq] at hv
   subst hv
   exact ⟨[],rfl,trivial⟩
 | .tmp t::rvs,rs,hc,vs,hv=> by
   simp only[yk] at hc
   obtain ⟨rs',EC,rfl⟩:=abU.1 hc
   simp only[kH,M3] at hv
   split at hv
   case h_2=> cases hv
   rename_i v vs' C0 hv2
   cases hv
   cases C0
   obtain ⟨us,h1,h2⟩:=yl hL hf hs EC hv2
   have hx:RV (ak P) c (fr.getD t (.bM [])) (a.tmps.getD t undef):=q22z (P:=P) (t:=0) hf (o:= .tmp t) (x:= .t t) rfl
   refine ⟨a.tmps.getD t undef::us,?_,hx,h2⟩
   rw[adv]
   simp only[wO,Sem.run_bind,Sem.run_pure,Result.andThen_ok,h1]
 | .cell x t::rvs,rs,hc,vs,hv=> by
   simp only[yk] at hc
   split at hc
   case isFalse=> cases hc
   rename_i jI
   obtain ⟨rs',EC,rfl⟩:=abU.1 hc
   simp only[kH,M3] at hv
   split at hv
   case h_2=> cases hv
   rename_i v vs' C0 hv2
   cases hv
   obtain ⟨⟨v0,h0⟩,ah,he⟩:=abU.1 C0
   simp only at he
   subst he
   obtain ⟨us,h1,h2⟩:=yl hL hf hs EC hv2
   have hx:RV (ak P) c (fr.getD x (.bM [])) (a.tmps.getD x undef):=q22z (P:=P) (t:=0) hf (o:= .tmp x) (x:= .t x) rfl
   have hh0:h0=h:=Y7 ah
   subst hh0
   obtain ⟨u,c',w',hr,j5,dx,hle,aZ⟩:=Pf (P:=P) hL hs (cE jI) hx ah
   have J8:∃u,(wO a.tmps (.cell x t)).run P w= .ok u w∧RV (ak P) c v0 u:=by
     simp only[r9] at ah
     split at ah
     ·rename_i id path az hxe
      split at ah
      case h_2=> cases ah
      rename_i y hn
      split at ah
      case isFalse=> cases ah
      rename_i Dy
      simp only[Option.some.injEq,Prod.mk.injEq] at ah
      obtain ⟨rfl,_⟩:=ah
      obtain ⟨l,o,us,ty,fz,hl,ht,ho,hg,df,hle,hr⟩:=hs.node hL hn
      have E6:=jy (hxe ▸ hx) hl ht ho
      obtain ⟨u,bk,hv⟩:=gB (P:=P) hL (ty:=t) (by rw[Dy];exact cE jI) hg hr
      refine ⟨u,?_,hv⟩
      simp only[wO]
      rw[E6]
      simpa[asAddr] using bk
     ·rename_i y hxe
      split at ah
      case isFalse=> cases ah
      rename_i Dy
      simp only[Option.some.injEq,Prod.mk.injEq] at ah
      obtain ⟨rfl,_⟩:=ah
      obtain ⟨b,off,cs,ty,fz,E6,hz,hr⟩:=gC.1 (hxe ▸ hx)
      obtain ⟨u,bk,hv⟩:=gB (P:=P) hL (ty:=t) (by rw[Dy];exact cE jI) (hs.z _ _ hz) hr
      refine ⟨u,?_,hv⟩
      simp only[wO]
      rw[E6]
      simpa[asAddr] using bk
     ·cases ah
   obtain ⟨u,hu,j5⟩:=J8
   refine ⟨u::us,?_,j5,h2⟩
   rw[adv,Sem.run_bind,hu]
   simp only[Result.andThen_ok,Sem.run_bind,h1,Sem.run_pure]
theorem mF (hL:(ak P).OK) {c:Ctx} {h:Hp} {w:World} {fr:Fr} {a:Act} (hf:RF (ak P) c fr a) (hs:bm (ak P) c h w) {fn:Func} {rs:List Rs} (hc:yk P fn.results.toList=some rs) {vs:List V} (hv:kH fr h rs=some vs):
 ∃u,(results fn a.tmps).run P w= .ok u w∧RV (ak P) c (o5 vs) u:=by
 obtain ⟨us,h1,h2⟩:=yl hL hf hs hc hv
 rw[Cj,aeR]
 simp only[Sem.run_bind,map_eq_pure_bind,h1,Result.andThen_ok,Sem.run_pure]
 refine ⟨_,rfl,?_⟩
 match vs,us,h2 with
 | [v],[u],h2=> exact h2.1
 | [],[],h2=> exact cB.2 ⟨[],rfl,trivial⟩
 | v::v'::vs,u::u'::us,h2=> exact cB.2 ⟨u::u'::us,rfl,h2⟩
 | [_],_::_::_,h2=> exact h2.2.elim
 | _::_::_,[_],h2=> exact h2.2.elim
def qW (P:Program) (fns:Nat→Option Fn):Prop:=∀f F,fns f=some F→∃fn obj,P.funcs[f]? =some fn∧bC P obj fn F.pure=some F
theorem vt {c:Ctx} (n:Nat):fZ L c (List.replicate n (.bM [])) (List.replicate n undef):=by
 induction n with
 | zero=> trivial
 | succ n ih=> exact ⟨cB.2 ⟨[],rfl,trivial⟩,ih⟩
theorem Tn {c:Ctx} {F:Fn} {args:List V} {us:List Value} (h:fZ L c args us):RF L c (ml F args) {tmps:=us.toArray++Array.replicate (F.nt - us.toArray.size) undef,defers:=[]}:=by
 simp only[RF,ml,aeL,Array.toList_replicate,aee,fZ.length h]
 exact o9 h (vt _)
theorem Ac (hL:(ak P).OK) {fn:Func} {f:Nat} {F:Fn} (hfn:P.funcs[f]? =some fn) (hF:bC P obj fn F.pure=some F) {cf:Nat→Nat→List V→Hp→Option (V×Hp)} (gE:∀base,cC P (ak P) (cf base)) (hkp:∀base,KpF base (cf base))
 {base:Nat} {args:List V} {h:Hp} {v:V} {h':Hp} (hr:kU cf base F args h=some (v,h')) {c:Ctx} {w:World} {us:List Value} (ha:fZ (ak P) c args us) (hs:bm (ak P) c h w):ff P (ak P) c w f us v h':=by
 obtain ⟨code,hb,Pq,Nj,_,hnt⟩:=Ab hF
 refine calls_of_wp hfn hb ?_
 rw[←hnt]
 have hrf:=Tn (F:=F) ha
 unfold kU at hr
 split at hr
 ·-- pure
  split at hr
  ·cases hr
  ·rename_i e fr1 h1 da hx
   split at hr
   case h_2=> cases hr
   rename_i vs qb
   split at hr
   case h_2=> cases hr
   rename_i v' df
   cases hr
   refine oL hL (gE h.length) Pq hrf hs hx ?_
   intro a1 c1 w1 p1 p2 p3 p4 p5
   have hn:h.length≤c1.n:=by rw[←hs.n];exact p3.n
   have Tm:DQ h.length h1:=(yh (hkp h.length) F.body hx h.length (ab0 _) (ab0 _) hs.low).1
   obtain ⟨u,hu1,Ay⟩:=mF hL p1 p2 Nj qb
   obtain ⟨us1,hu3,hu4⟩:=Ay
   obtain ⟨f1,f2,f3,f4⟩:=Tl hL p2 hn _ _ df
   have hR:∃u' c',Ending.returned u= .returned u'∧RV (ak P) c' v u'∧bm (ak P) c' (h1.take h.length) w1∧c.le c'∧St w w1:=by
     refine ⟨u,c1.cut h.length w1,rfl,⟨us1,f4 _ hu3,f3 _ _ hu4⟩,p2.cut hn Tm,?_,p4⟩
     have:=Ctx.Tk (w:=w1) p3
     rw[hs.n] at this
     exact this
   cases e with
   | normal=> exact ⟨p5,u,hu1,hR⟩
   | ret=> exact ⟨p5,u,hu1,hR⟩
   | exit id=> exact (da id rfl).elim
  ·cases hr
 ·split at hr
  ·cases hr
  ·rename_i e fr1 h1 da hx
   split at hr
   case h_2=> cases hr
   rename_i vs qb
   cases hr
   refine oL hL (gE base) Pq hrf hs hx ?_
   intro a1 c1 w1 p1 p2 p3 p4 p5
   obtain ⟨u,hu1,Ay⟩:=mF hL p1 p2 Nj qb
   cases e with
   | normal=> exact ⟨p5,u,hu1,u,c1,rfl,Ay,p2,p3,p4⟩
   | ret=> exact ⟨p5,u,hu1,u,c1,rfl,Ay,p2,p3,p4⟩
   | exit id=> exact (da id rfl).elim
  ·cases hr
theorem wP (hL:(ak P).OK) {fns:Nat→Option Fn} {pr:Nat→List V→Hp→Option (V×Hp)} (hf:qW P fns) (hp:cC P (ak P) pr) (hkp:KpP pr):∀(d base:Nat),cC P (ak P) (den fns pr d base)
 | 0,base=> fun f vs h v h' hr=> by simp[den] at hr
 | d+1,base=> fun f vs h v h' hr=> by
   simp only[den] at hr
   split at hr
   ·rename_i F hF
    obtain ⟨fn,_,hfn,hc⟩:=hf f F hF
    obtain ⟨code,hb,_,_,Zj,_⟩:=Ab hc
    refine ⟨⟨fn,hfn,by rw[hb];rfl,Zj⟩,fun c w us ha hs=> ?_⟩
    exact Ac hL hfn hc (fun base=> wP hL hf hp hkp d base) (fun base=> KF hkp d base) hr ha hs
   ·exact hp f vs h v h' hr
end Go.Vm
namespace Go.Vm
variable {P : Program}
def il (P:Program):Nat→TypeId→Bool
 | 0,_=> false
 | n+1,t=> oD P t && match P.underlying t with
   | some .bool=> true
   | some (.int _)=> true
   | some .string=> true
   | some (.slice e)=> oD P e && decide (0 < P.cellsOf e)&& il P n e
   | some (.struct fs)=> decide ((ak P).fields (P.underlyingId t)=some (fs.toList.map fun f=> aE P f.type))&&(P.cellsOf t==(fs.toList.map fun f=> P.cellsOf f.type).sum)&&
       (List.range fs.size).all (fun i=> match fs[i]? with | some f=> f.offset==((fs.toList.take i).map fun f=> P.cellsOf f.type).sum | none=> false)&& fs.toList.all fun f=> oD P f.type && il P n f.type
   | some (.array k e)=> decide ((ak P).arr (P.underlyingId t)=some (k,aE P e))&&(P.cellsOf t==k * P.cellsOf e)&& oD P e && il P n e
   | _=> false
def bW (P:Program):Nat→TypeId→V→Prop
 | 0,_,_=> False
 | n+1,t,v=> match P.underlying t with
   | some .bool=>∃b,v= .s (.bool b)
   | some (.int k)=>∃m,v= .s (.int k m)∧k.min≤m∧m≤k.max
   | some .string=>∃s,v= .s (.string s)∧s.size≤140737488351232
   | some (.slice e)=>∃es,v= .aq false (aE P e) es∧es.length * P.bytesOf e≤140737488351232∧es.length≤9223372036854775807∧∀x∈es,bW P n e x
   | some (.struct fs)=>∃vs,v= .st (P.underlyingId t) vs∧vs.length=fs.size∧∀(i:Nat) (f:Field) (x:V),fs[i]? =some f→vs[i]? =some x→bW P n f.type x
   | some (.array k e)=>∃es,v= .arr (P.underlyingId t) es∧es.length=k∧∀x∈es,bW P n e x
   | _=> False
def fI (w:World):Ctx:= {z:=fun b=>(w.heap[b]?).map kept,loc:=fun _=> none,n:=0}
theorem KG (L:cz) (w:World):bm L (fI w) [] w where
 z b o hb:=by
   obtain ⟨x,hx,rfl⟩:=abU.1 hb
   rw[hx,wz]
 n:=rfl
 loc id l hl:=by cases hl
 live id k hk:=by simp at hk
 inj i j li lj hi:=by cases hi
theorem Ck {w:World} {b:Nat} {us:Array Value} {ty:TypeId} {fz:Nat×Nat} (h:w.heap[b]? =some (.cells us ty fz)):(fI w).z b=some (.cells us ty fz):=by simp[fI,h,kept]
theorem Ad {t:TypeId} (h:oD P t=true):P.cellsOf t=(ak P).aA (aE P t):=by
 simp only[oD,abY,beq_iff_eq] at h
 exact h.2
theorem rM (w:World) (a:Addr):∀(n s:Nat) (cs:List Value),((List.range' s n).mapM fun i=> w.cell? (a.add i))=some cs→0 < n→
 (s=0→a.spot=none)∧∃us ty fz,w.heap[a.block]? =some (.cells us ty fz)∧cs=nJ us (a.off+s) n∧a.off+s+n≤us.size
 | 0,s,cs,h,hn=> by omega
 | n+1,s,cs,h,hn=> by
   rw[adY,adv] at h
   obtain ⟨x,hx,h⟩:=ab4.1 h
   obtain ⟨xs,nW,h⟩:=ab4.1 h
   simp only[ad9,Option.some.injEq] at h
   subst h
   have xP:(a.add s).block=a.block:=by unfold Addr.add;split <;> rfl
   have iU:(a.add s).off=a.off+s:=by unfold Addr.add;split <;> simp_all
   have Zk:(s=0→a.spot=none)∧∃us ty fz,w.heap[a.block]? =some (.cells us ty fz)∧us[a.off+s]? =some x:=by
     unfold World.cell? at hx
     rw[xP,iU] at hx
     cases hg:w.heap[a.block]? with
     | none=> rw[hg] at hx;cases hx
     | some ob=>
       rw[hg] at hx
       cases ob with
       | cells us ty fz=>
         simp only at hx
         by_cases vR:(a.add s).spot.isSome=true
         ·rw[if_pos vR] at hx;cases hx
         ·rw[if_neg vR] at hx
          exact ⟨fun h0=> by subst h0;simpa[Addr.add] using vR,us,ty,fz,rfl,hx⟩
       | _=> simp at hx
   obtain ⟨h1,us,ty,fz,h2,h3⟩:=Zk
   have cJ:a.off+s < us.size:=(acZ.1 h3).1
   have h4:nJ us (a.off+s) (n+1)=x::nJ us (a.off+(s+1)) n:=by
     have h3':us.toList[a.off+s]? =some x:=by rw[adA];exact h3
     have I8:a.off+s < us.toList.length:=(abW.1 h3').1
     simp only[nJ]
     rw[ac1 I8,adu]
     have:us.toList[a.off+s]=x:=by simpa[abV I8] using h3'
     rw[this];rfl
   by_cases yq:n=0
   ·subst yq
    simp only[List.range'_zero,List.mapM_nil,ad9,Option.some.injEq] at nW
    subst nW
    exact ⟨h1,us,ty,fz,h2,by rw[h4];simp[nJ],by omega⟩
   ·obtain ⟨_,us',ty',fz',h5,h6,h7⟩:=rM w a n (s+1) xs nW (by omega)
    rw[h2] at h5;cases h5
    exact ⟨h1,us,ty,fz,h2,by rw[h4,h6],by omega⟩
theorem uQ {w:World} {a:Addr} {n:Nat} {cs:List Value} (h:w.cells? 0 a n=some cs) (hn:0 < n):
 a.spot=none∧∃us ty fz,w.heap[a.block]? =some (.cells us ty fz)∧cs=nJ us a.off n∧a.off+n≤us.size:=by
 simp only[World.cells?,aeu,if_true] at h
 rw[adf] at h
 obtain ⟨h1,h2⟩:=rM w a n 0 cs h hn
 exact ⟨h1 rfl,h2⟩
theorem kE {H:Type} {e:TypeId} {b:Nat}:∀ {ds:List (DataW H)},(∀x∈DataW.weightsAll P e ds,x≤b)→∀d∈ds,∀x∈d.weights P e,x≤b
 | [],_,d,hd=> by cases hd
 | d'::ds,h,d,hd=> by
   simp only[DataW.weightsAll] at h
   rcases acC.1 hd with rfl | hd
   ·exact fun x hx=> h x (adR _ hx)
   ·exact kE (fun x hx=> h x (aea _ hx)) d hd
theorem Fp (us:Array Value) (o a b:Nat):nJ us o (a+b)=nJ us o a++nJ us (o+a) b:=by
 simp only[nJ]
 rw[List.take_add,acP]
theorem qR {L:cz} {c:Ctx} {α:Type} {e:Option Nat} {k:Nat} {us:Array Value} {Q:V→Prop} (f:Nat→Option α) (R:α→Prop) {o:Nat}
 (nw:∀i d,f i=some d→R d→∃v,RC L c v (nJ us (o+i * k) k)∧v.ty=e∧v.aw=true∧Q v):
 ∀(n s:Nat) (ds:List α),((List.range' s n).mapM f)=some ds→(∀d∈ds,R d)→∃es:List V,es.length=n∧ch L c es (nJ us (o+s * k) (n * k))∧∀x∈es,x.ty=e∧x.aw=true∧Q x
 | 0,s,ds,h,hR=>⟨[],rfl,by simp[ch,nJ],fun x hx=>(by cases hx)⟩
 | n+1,s,ds,h,hR=> by
   rw[adY,adv] at h
   obtain ⟨x,hx,h⟩:=ab4.1 h
   obtain ⟨xs,nW,h⟩:=ab4.1 h
   simp only[ad9,Option.some.injEq] at h
   subst h
   obtain ⟨v,h1,h2,h3,h4⟩:=nw s x hx (hR x acV)
   obtain ⟨es,h5,h6,h7⟩:=qR f R nw n (s+1) xs nW (fun d hd=> hR d (ac6 _ hd))
   refine ⟨v::es,by simp[h5],?_,fun y hy=> ?_⟩
   ·simp only[ch]
    refine ⟨_,_,?_,h1,h6⟩
    rw[ac9 n 1,aev,adQ (n * k) k,Fp,adO]
    congr 2
    rw[ac9 s 1,aev]
   ·rcases acC.1 hy with rfl | hy
    ·exact ⟨h2,h3,h4⟩
    ·exact h7 y hy
end Go.Vm
namespace Go.Vm
variable {P : Program}
theorem Fq (a:Addr) (n:Nat):(a.add n).block=a.block:=by unfold Addr.add;split <;> rfl
theorem Nk (a:Addr) (n:Nat):(a.add n).off=a.off+n:=by unfold Addr.add;split <;> simp_all
def WOK {H:Type} (P:Program) (t:TypeId) (d:DataW H):Prop:=∀x∈d.weights P t,x≤140737488351232
theorem rN {H:Type} {enc:TypeId×Value→H} {w:World} {fuel n:Nat}
 (ih:∀ {t:TypeId} {cs:List Value} {d:DataW H} {ps:List MemPlace},il P n t=true→DataW.trod enc P w 0 (fun _=> true) true fuel t cs=some (d,ps)→WOK P t d→∃v,RC (ak P) (fI w) v cs∧v.ty=aE P t∧v.aw=true∧bW P n t v) {cs:List Value}:
 ∀(fs pre:List Field) (xs:List (DataW H×List MemPlace)),(∀f∈fs,oD P f.type=true∧il P n f.type=true)→(∀i f,fs[i]? =some f→f.offset=(((pre++fs).take (pre.length+i)).map fun f=> P.cellsOf f.type).sum)→
  (fs.mapM fun f=> DataW.trod enc P w 0 (fun _=> true) true fuel f.type ((cs.drop f.offset).take (P.cellsOf f.type)))=some xs→(∀x∈DataW.weightsEach P (fs.map (·.type)) (xs.map (·.1)),x≤140737488351232)→
  cs.length=((pre++fs).map fun f=> P.cellsOf f.type).sum→
  ∃vs:List V,vs.length=fs.length∧ch (ak P) (fI w) vs (cs.drop (pre.map fun f=> P.cellsOf f.type).sum)∧vs.map V.ty=fs.map (fun f=> aE P f.type)∧(∀v∈vs,v.aw=true)∧∀(i:Nat) (f:Field) (x:V),fs[i]? =some f→vs[i]? =some x→bW P n f.type x
 | [],pre,xs,h1,h2,h3,h4,h5=> by
   refine ⟨[],rfl,?_,rfl,fun v hv=>(by cases hv),fun i f x hf=> by simp at hf⟩
   simp only[acr] at h5
   simp only[ch]
   rw[←h5,ae6]
 | f::fs,pre,xs,h1,h2,h3,h4,h5=> by
   rw[adv] at h3
   obtain ⟨x,hx,h3⟩:=ab4.1 h3
   obtain ⟨xs',nW,h3⟩:=ab4.1 h3
   simp only[ad9,Option.some.injEq] at h3
   subst h3
   simp only[ab7,DataW.weightsEach] at h4
   obtain ⟨v,a1,a2,a3,a4⟩:=ih (h1 f acV).2 hx (fun y hy=> h4 y (adR _ hy))
   obtain ⟨vs,b1,b2,b3,b4,b5⟩:=rN ih fs (pre++[f]) xs' (fun g hg=> h1 g (ac6 _ hg)) (fun i g hg=> by
     have:=h2 (i+1) g (by simpa using hg)
     rw[this]
     congr 2
     rw[ab5,List.singleton_append,abZ,aff]
     congr 1;omega) nW (fun y hy=> h4 y (aea _ hy)) (by rw[h5];simp)
   have iU:f.offset=(pre.map fun f=> P.cellsOf f.type).sum:=by
     have:=h2 0 f rfl
     rw[this];simp
   refine ⟨v::vs,by simp[b1],?_,by simp[a2,b3],fun y hy=> ?_,fun i g y hg hy=> ?_⟩
   ·simp only[ch]
    refine ⟨_,_,?_,a1,b2⟩
    rw[iU]
    simp only[adh,ab7,acn,List.sum_append,aeY,List.sum_nil,ad7]
    rw[←List.drop_drop,afg]
   ·rcases acC.1 hy with rfl | hy
    ·exact a3
    ·exact b4 y hy
   ·cases i with
    | zero=>
      simp only[aci,Option.some.injEq] at hg hy
      subst hg hy
      exact a4
    | succ i=> exact b5 i g y (by simpa using hg) (by simpa using hy)
section
variable {H : Type} {enc : TypeId × Value → H} {w : World} {fuel : Nat} {t : TypeId} {cs : List Value} {d : DataW H} {ps : List MemPlace}
theorem KH (hu:P.underlying t=some .bool) (h:DataW.trod enc P w 0 (fun _=> true) true (fuel+1) t cs=some (d,ps)):∃b,cs=[.bool b]:=by
 simp only[DataW.trod,hu] at h
 split at h <;> first | (rename_i b _;exact ⟨_,rfl⟩) | simp_all
theorem Nl {k:IntKind} (hu:P.underlying t=some (.int k)) (h:DataW.trod enc P w 0 (fun _=> true) true (fuel+1) t cs=some (d,ps)):∃m,cs=[.int k m]∧k.min≤m∧m≤k.max:=by
 simp only[DataW.trod,hu] at h
 split at h <;> first | (simp_all [Lit.wf];done)
theorem Nm (hu:P.underlying t=some .string) (h:DataW.trod enc P w 0 (fun _=> true) true (fuel+1) t cs=some (d,ps)):∃s,cs=[.string s]∧d= .lit (.string s.data.toList):=by
 simp only[DataW.trod,hu] at h
 split at h <;> first | (simp_all;done)
theorem Cm {fs:Array Field} (hu:P.underlying t=some (.struct fs)) (h:DataW.trod enc P w 0 (fun _=> true) true (fuel+1) t cs=some (d,ps)):cs.length=P.cellsOf t∧
 ∃xs,(fs.toList.mapM fun f=> DataW.trod enc P w 0 (fun _=> true) true fuel f.type ((cs.drop f.offset).take (P.cellsOf f.type)))=some xs∧d= .agg (xs.map (·.1)):=by
 simp only[DataW.trod,hu] at h
 split at h
 ·rename_i hlen
  obtain ⟨xs,nW,he⟩:=abU.1 h
  simp only[Prod.mk.injEq] at he
  exact ⟨hlen,xs,nW,he.1.symm⟩
 ·cases h
theorem Nn {k:Nat} {e:TypeId} (hu:P.underlying t=some (.array k e)) (h:DataW.trod enc P w 0 (fun _=> true) true (fuel+1) t cs=some (d,ps)):cs.length=P.cellsOf t∧
 ∃xs,((List.range k).mapM fun i=> DataW.trod enc P w 0 (fun _=> true) true fuel e ((cs.drop (i * P.cellsOf e)).take (P.cellsOf e)))=some xs∧d= .agg (xs.map (·.1)):=by
 simp only[DataW.trod,hu] at h
 split at h
 ·rename_i hlen
  obtain ⟨xs,nW,he⟩:=abU.1 h
  simp only[Prod.mk.injEq] at he
  exact ⟨hlen,xs,nW,he.1.symm⟩
 ·cases h
theorem Ft {e:TypeId} (hu:P.underlying t=some (.slice e)) (h:DataW.trod enc P w 0 (fun _=> true) true (fuel+1) t cs=some (d,ps)):(cs=[.slice none 0 0])∨
 ∃a len cap elems rest,cs=[.slice (some a) len cap]∧len≤cap∧cap≤maxLen∧((List.range len).mapM fun i=>(w.cells? 0 (a.add (i * P.cellsOf e)) (P.cellsOf e)).bind (DataW.trod enc P w 0 (fun _=> true) true fuel e))=some elems∧d= .slice (elems.map (·.1)) rest:=by
 simp only[DataW.trod,hu] at h
 split at h <;> first | (simp_all;done) | skip
 rename_i heq
 cases heq
 right
 split at h
 ·rename_i a len cap bo
  obtain ⟨elems,ca,h⟩:=ab4.1 h
  obtain ⟨rest,abx,he⟩:=abU.1 h
  simp only[Prod.mk.injEq] at he
  exact ⟨a,len,cap,elems,_,rfl,bo.2.1,bo.2.2,ca,he.1.symm⟩
 ·cases h
theorem Ae {α β:Type} {f:α→Option β}:∀ {l:List α} {ys:List β},l.mapM f=some ys→ys.length=l.length
 | [],ys,h=> by simp only[List.mapM_nil,ad9,Option.some.injEq] at h;subst h;rfl
 | a::l,ys,h=> by
   rw[adv] at h
   obtain ⟨x,hx,h⟩:=ab4.1 h
   obtain ⟨xs,nW,h⟩:=ab4.1 h
   simp only[ad9,Option.some.injEq] at h
   subst h
   simp[Ae nW]
theorem DX (hL:(ak P).OK):∀(n fuel:Nat) {t:TypeId} {cs:List Value} {d:DataW H} {ps:List MemPlace},il P n t=true→DataW.trod enc P w 0 (fun _=> true) true fuel t cs=some (d,ps)→WOK P t d→
 ∃v,RC (ak P) (fI w) v cs∧v.ty=aE P t∧v.aw=true∧bW P n t v
 | 0,fuel,t,cs,d,ps,hr,h,hw=> by simp[il] at hr
 | n+1,0,t,cs,d,ps,hr,h,hw=> by simp[DataW.trod] at h
 | n+1,fuel+1,t,cs,d,ps,hr,h,hw=> by
   simp only[il,abY] at hr
   obtain ⟨jI,hr⟩:=hr
   have ih:=fun {t:TypeId} {cs:List Value} {d:DataW H} {ps:List MemPlace}=> DX hL n fuel (t:=t) (cs:=cs) (d:=d) (ps:=ps)
   split at hr
   ·rename_i hu
    obtain ⟨b,rfl⟩:=KH hu h
    exact ⟨.s (.bool b),by simp[RC,Value.oneCell'],by simp[V.ty,aE,hu],rfl,by simp only[bW,hu];exact ⟨b,rfl⟩⟩
   ·rename_i k hu
    obtain ⟨m,rfl,h1,h2⟩:=Nl hu h
    exact ⟨.s (.int k m),by simp[RC,Value.oneCell'],by simp[V.ty,aE,hu],rfl,by simp only[bW,hu];exact ⟨m,rfl,h1,h2⟩⟩
   ·rename_i hu
    obtain ⟨s,rfl,rfl⟩:=Nm hu h
    refine ⟨.s (.string s),by simp[RC,Value.oneCell'],by simp[V.ty,aE,hu],rfl,?_⟩
    simp only[bW,hu]
    exact ⟨s,rfl,by have:=hw s.data.toList.length (by simp[DataW.weights]);simpa using this⟩
   ·rename_i e hu
    simp only[abY,decide_eq_true_eq] at hr
    obtain ⟨⟨hte,gZ⟩,mV⟩:=hr
    have hk:=Ad hte
    rcases Ft hu h with rfl | ⟨a,len,cap,elems,rest,rfl,hlc,hcm,ca,rfl⟩
    ·refine ⟨.aq false (aE P e) [],?_,by simp[V.ty,aE,hu],rfl,?_⟩
     ·simp only[RC]
      exact ⟨none,0,rfl,ab0 _,fun _=> rfl,fun x hx=>(by cases hx),Or.inl trivial⟩
     ·simp only[bW,hu]
      exact ⟨[],rfl,by simp,by simp,fun x hx=>(by cases hx)⟩
    ·have qe:(elems.length+rest.length)* P.bytesOf e≤140737488351232∧∀x∈elems,WOK P e x.1:=by
       simp only[WOK,DataW.weights,hu,acf] at hw
       refine ⟨hw _ acV,fun x hx y hy=> ?_⟩
       exact kE (fun z hz=> hw z (ac6 _ (adR _ hz))) x.1 (List.mem_map_of_mem hx) y hy
     by_cases hlen:len=0
     ·subst hlen
      refine ⟨.aq false (aE P e) [],?_,by simp[V.ty,aE,hu],rfl,?_⟩
      ·simp only[RC]
       exact ⟨some a,cap,rfl,aeu _,(fun hf=> by cases hf),fun x hx=>(by cases hx),Or.inl trivial⟩
      ·simp only[bW,hu]
       exact ⟨[],rfl,by simp,by simp,fun x hx=>(by cases hx)⟩
     ·-- the block
      have h0:∃us ty fz,a.spot=none∧w.heap[a.block]? =some (.cells us ty fz):=by
        obtain ⟨m,rfl⟩:∃m,len=m+1:=⟨len - 1,by omega⟩
        rw[adf,adY,adv] at ca
        obtain ⟨x,hx,_⟩:=ab4.1 ca
        obtain ⟨cs',hc,_⟩:=ab4.1 hx
        obtain ⟨h1,us,ty,fz,h2,_⟩:=uQ hc gZ
        simp only[adq,Addr.add,if_true] at h1 h2
        exact ⟨us,ty,fz,h1,h2⟩
      obtain ⟨us,ty,fz,vR,xP⟩:=h0
      rw[adf] at ca
      obtain ⟨es,h1,h2,h3⟩:=qR (L:=ak P) (c:=fI w) (e:=aE P e) (k:=P.cellsOf e) (us:=us) (Q:=bW P n e) (o:=a.off) _ (fun x:DataW H×List MemPlace=> WOK P e x.1) (fun i x hx hR=> by
        obtain ⟨cs',hc,hx⟩:=ab4.1 hx
        obtain ⟨_,us',ty',fz',hg,zm,_⟩:=uQ hc gZ
        rw[Fq,xP] at hg
        cases hg
        rw[Nk] at zm
        rw[←zm]
        exact ih mV hx hR) len 0 elems ca qe.2
      have hlenE:elems.length=len:=by
        have:=Ae ca
        simpa using this
      refine ⟨.aq false (aE P e) es,?_,by simp[V.ty,aE,hu],rfl,?_⟩
      ·simp only[RC]
       refine ⟨some a,cap,by rw[h1],by rw[h1];exact hlc,(fun hf=> by cases hf),fun x hx=>⟨(h3 x hx).1,(h3 x hx).2.1⟩,Or.inr ⟨a.block,a.off,us,ty,fz,?_,Ck xP,?_⟩⟩
       ·cases a;simp only at vR;subst vR;rfl
       ·rw[adq,ad7] at h2
        rw[h1,←hk];exact h2
      ·simp only[bW,hu]
       refine ⟨es,rfl,?_,?_,fun x hx=>(h3 x hx).2.2⟩
       ·refine acE ?_ qe.1
        exact ace _ (by omega)
       ·have:maxLen=9223372036854775807:=rfl
        omega
   ·rename_i fs hu
    simp only[abY,decide_eq_true_eq,beq_iff_eq,ach] at hr
    obtain ⟨⟨⟨oe,cK⟩,Zl⟩,hfs⟩:=hr
    obtain ⟨hlen,xs,nW,rfl⟩:=Cm hu h
    have hwt:∀x∈DataW.weightsEach P (fs.toList.map (·.type)) (xs.map (·.1)),x≤140737488351232:=by
      simp only[WOK,DataW.weights,hu] at hw
      exact hw
    obtain ⟨vs,a1,a2,a3,a4,a5⟩:=rN ih fs.toList [] xs (fun f hf=>⟨(hfs f hf).1,(hfs f hf).2⟩) (fun i f hf=> by
      have hi:i < fs.size:=by have:=(abW.1 hf).1;simpa using this
      have:=Zl i (ac3.2 hi)
      rw[←Array.getElem?_toList,hf] at this
      simpa using this) nW hwt (by rw[hlen,cK];rfl)
    have cu:aE P t=some (P.underlyingId t):=by simp[aE,hu]
    refine ⟨.st (P.underlyingId t) vs,?_,by simp[V.ty,cu],rfl,?_⟩
    ·simp only[RC]
     exact ⟨by simpa using a2,by rw[oe,a3],a4⟩
    ·simp only[bW,hu]
     exact ⟨vs,rfl,by simpa using a1,fun i f x hf hx=> a5 i f x (by rw[adA];exact hf) hx⟩
   ·rename_i k e hu
    simp only[abY,decide_eq_true_eq,beq_iff_eq] at hr
    obtain ⟨⟨⟨har,cK⟩,hte⟩,mV⟩:=hr
    have hk:=Ad hte
    obtain ⟨hlen,xs,nW,rfl⟩:=Nn hu h
    have hwt:∀x∈xs,WOK P e x.1:=fun x hx y hy=> by
      simp only[WOK,DataW.weights,hu] at hw
      exact kE hw x.1 (List.mem_map_of_mem hx) y hy
    rw[adf] at nW
    obtain ⟨es,h1,h2,h3⟩:=qR (L:=ak P) (c:=fI w) (e:=aE P e) (k:=P.cellsOf e) (us:=cs.toArray) (Q:=bW P n e) (o:=0) _ (fun x:DataW H×List MemPlace=> WOK P e x.1) (fun i x hx hR=> by
      have:=ih mV hx hR
      simpa[nJ] using this) k 0 xs nW hwt
    have cu:aE P t=some (P.underlyingId t):=by simp[aE,hu]
    refine ⟨.arr (P.underlyingId t) es,?_,by simp[V.ty,cu],rfl,?_⟩
    ·simp only[RC]
     refine ⟨?_,aE P e,by rw[h1];exact har,fun x hx=>⟨(h3 x hx).1,(h3 x hx).2.1⟩⟩
     have e1:nJ cs.toArray (0+0 * P.cellsOf e) (k * P.cellsOf e)=cs:=by
       simp only[nJ,adq,acs,acA]
       rw[←cK,←hlen];exact adp
     rw[←e1];exact h2
    ·simp only[bW,hu]
     exact ⟨es,rfl,h1,fun x hx=>(h3 x hx).2.2⟩
   ·cases hr
end
end Go.Vm
namespace Go.Vm
open Go.RowKit Go.ChangeShapes
variable {P : Program}
def oH (P:Program) (n:Nat):List TypeId→List V→Prop
 | [],[]=> True
 | t::ts,x::xs=> bW P n t x∧oH P n ts xs
 | _,_=> False
theorem To {w:World} {n:Nat} {t:TypeId} {u:Value} {base:Nat} {v:V} (hr:il P n t=true) (iJ:Value.okWide P w .any base t u) (h:RC (ak P) (fI w) v u.cells.toList) (hv:v.ty=aE P t):RV (ak P) (fI w) v u:=by
 cases n with
 | zero=> simp[il] at hr
 | succ n=>
   simp only[il,abY] at hr
   obtain ⟨_,hr⟩:=hr
   unfold Value.okWide at iJ
   have leaf:aE P t=none→u.cells= #[u]→RV (ak P) (fI w) v u:=fun h1 h2=> by
     rw[h2] at h
     exact (eo (hv.trans h1)).2 h
   split at hr
   ·rename_i hu
    simp only[hu,Cell.okWide,Cell.ok] at iJ
    refine leaf (by simp[aE,hu]) ?_
    cases u <;> first | rfl | exact iJ.elim
   ·rename_i hu
    simp only[hu,Cell.okWide,Cell.ok] at iJ
    refine leaf (by simp[aE,hu]) ?_
    cases u <;> first | rfl | exact iJ.elim
   ·rename_i hu
    simp only[hu,Cell.okWide,Cell.ok] at iJ
    refine leaf (by simp[aE,hu]) ?_
    cases u <;> first | rfl | exact iJ.elim
   ·rename_i hu
    simp only[hu,Cell.okWide,Cell.ok] at iJ
    refine leaf (by simp[aE,hu]) ?_
    cases u <;> first | rfl | exact iJ.elim
   ·rename_i hu
    simp only[hu] at iJ
    obtain ⟨cs,rfl,_⟩:=iJ
    exact (fD (hv.trans (by simp[aE,hu]:aE P t=some (P.underlyingId t)))).2 ⟨cs.toList,by simp,by simpa[Value.cells] using h⟩
   ·rename_i hu
    simp only[hu] at iJ
    obtain ⟨cs,rfl,_⟩:=iJ
    exact (fD (hv.trans (by simp[aE,hu]:aE P t=some (P.underlyingId t)))).2 ⟨cs.toList,by simp,by simpa[Value.cells] using h⟩
   ·cases hr
theorem wQ {H:Type} {enc:TypeId×Value→H} (hL:(ak P).OK) {w:World} {n base:Nat}:∀ {ts:List TypeId} {us:List Value} {ds:List (DataW H)} {ps:List MemPlace},(∀t∈ts,il P n t=true)→DataW.TrodAll enc P w 0 (fun _=> true) true ts us ds ps→
 (∀(j:Nat) t v,ts[j]? =some t→us[j]? =some v→Value.okWide P w .any base t v)→(∀x∈DataW.weightsEach P ts ds,x≤140737488351232)→∃xs,fZ (ak P) (fI w) xs us∧oH P n ts xs
 | [],[],[],ps,_,_,_,_=>⟨[],trivial,trivial⟩
 | t::ts,u::us,d::ds,ps,hr,ht,hv,hw=> by
   obtain ⟨p,q,⟨fuel,h1⟩,h2,_⟩:=ht
   simp only[DataW.weightsEach] at hw
   obtain ⟨v,a1,a2,a3,a4⟩:=DX hL n fuel (hr t acV) h1 (fun x hx=> hw x (adR _ hx))
   obtain ⟨xs,b1,b2⟩:=wQ hL (fun t ht=> hr t (ac6 _ ht)) h2 (fun j t v h1 h2=> hv (j+1) t v (by simpa using h1) (by simpa using h2)) (fun x hx=> hw x (aea _ hx))
   exact ⟨v::xs,⟨To (hr t acV) (hv 0 t u rfl rfl) a1 a2,b1⟩,a4,b2⟩
 | [],_::_,_,ps,_,ht,_,_=> by cases ht
 | [],[],_::_,ps,_,ht,_,_=> by cases ht
 | _::_,[],_,ps,_,ht,_,_=> by cases ht
 | _::_,_::_,[],ps,_,ht,_,_=> by cases ht
theorem wR {H:Type} {enc:TypeId×Value→H} (hl:laidOutB P=true) {W W':World} (hb:Below W.heap.size W W'):∀ {ts:List TypeId} {us:List Value} {ds:List (DataW H)} {ps:List MemPlace},(∀t∈ts,P.readableRec t=true∧t < P.types.size)→
 DataW.TrodAll enc P W 0 (fun _=> true) true ts us ds ps→(∀p∈ps,p.block < W.heap.size)→DataW.TrodAll enc P W' 0 (fun b=> decide (b < W.heap.size)) true ts us ds ps
 | [],[],[],ps,_,h,_=> h
 | t::ts,u::us,d::ds,ps,hr,ht,hp=> by
   obtain ⟨p,q,h1,h2,rfl⟩:=ht
   exact ⟨p,q,Below.trod hl (hr t acV).1 (hr t acV).2 h1 hb (fun x hx=> hp x (adR _ hx)),
     wR hl hb (fun t ht=> hr t (ac6 _ ht)) h2 (fun x hx=> hp x (aea _ hx)),rfl⟩
 | [],_::_,_,ps,_,ht,_=> by cases ht
 | [],[],_::_,ps,_,ht,_=> by cases ht
 | _::_,[],_,ps,_,ht,_=> by cases ht
 | _::_,_::_,[],ps,_,ht,_=> by cases ht
theorem jZ {H:Type} {enc:TypeId×Value→H} {w:World} {b:Nat} {sp:Nat→Bool} {hd:Bool}:∀ {ts:List TypeId} {us:List Value} {ds:List (DataW H)} {ps:List MemPlace},DataW.TrodAll enc P w b sp hd ts us ds ps→ds.length=ts.length
 | [],[],[],ps,_=> rfl
 | t::ts,u::us,d::ds,ps,ht=> by
   obtain ⟨p,q,h1,h2,rfl⟩:=ht
   simp[jZ h2]
 | [],_::_,_,ps,ht=> by cases ht
 | [],[],_::_,ps,ht=> by cases ht
 | _::_,[],_,ps,ht=> by cases ht
 | _::_,_::_,[],ps,ht=> by cases ht
theorem Hc {H:Type} {enc:TypeId×Value→H} (hL:(ak P).OK) (hl:laidOutB P=true) {f:Func} {fid:FuncId} {s:ChangeSpec} {apart fresh handsOn:Bool} {n:Nat} {cf:Nat→List V→Hp→Option (V×Hp)} (gE:cC P (ak P) cf)
 (nw:f.params.toList.all (fun t=> il P n t &&(P.readableRec t && decide (t < P.types.size)))=true) {tb:TypeId} (Nj:f.resultTypes= #[tb]) (htb:P.underlying tb=some .bool)
 (Pr:s.vars=[]) (hvt:s.plain.varTypes P=[]) (KI:∀ds:List (DataW H),ds.length=f.params.toList.length→s.fn H ds= {results:=[.lit (.bool true)],args:=ds})
 (abf:∀xs,oH P n f.params.toList xs→cf fid xs []=some (.s (.bool true),[]))
 {W:World} {base:Nat} {args:Array Value} {ds gs:List (DataW H)} {before:List MemPlace} (abg:∀(j:Nat) t v,f.params[j]? =some t→args[j]? =some v→Value.okWide P W .any base t v)
 (hW:DataW.Whole enc P f.params.toList s.vars apart W args.toList ds gs before) (hwt:(DataW.weightsEach P (f.params.toList++s.plain.varTypes P) (ds++gs)).all (· ≤reachBytes)=true):
 Calls P fid args W fun e W'=>∃v,e= .returned v∧s.post enc P f apart fresh handsOn false W args v W':=by
 have hW0:=hW
 obtain ⟨p,q,hA,hV,rfl,df,hnd⟩:=hW
 rw[Pr] at hV
 have jL:gs=[]∧q=[]:=by
   cases gs with
   | nil=> exact ⟨rfl,hV⟩
   | cons g gs=> cases hV
 obtain ⟨rfl,rfl⟩:=jL
 simp only[ach,abY,decide_eq_true_eq] at nw hwt
 rw[hvt,acr,acr] at hwt
 obtain ⟨xs,h1,h2⟩:=wQ hL (fun t ht=>(nw t ht).1) hA (fun j t v hj hv=> abg j t v (by rw[←Array.getElem?_toList];exact hj) (by rw[←Array.getElem?_toList];exact hv)) (fun x hx=> hwt x hx)
 have iZ:=(gE _ _ _ _ _ (abf xs h2)).2 (fI W) W args.toList h1 (KG _ W)
 unfold ff at iZ
 rw[Array.toArray_toList] at iZ
 refine Calls.mono iZ fun e W' he=> ?_
 obtain ⟨u,c',rfl,hv,dx,hle,aZ⟩:=he
 obtain ⟨rfl,_⟩:=bB.1 hv
 have hb:Below W.heap.size W W':=⟨aZ.os,aZ.tape,aZ.output,aZ.size,fun k hk=> by
   have hz:(fI W).z k=some (kept W.heap[k]):=by simp[fI,acm hk]
   have:=dx.z k _ (hle.z k _ hz)
   rw[this,wz];exact (acm hk).symm⟩
 refine ⟨_,rfl,ds,[],p++[],[],p,[],hW0,?_,?_,?_,Below.frame hb _,fun hf=> by cases hf⟩
 ·rw[acr,KI ds (jZ hA),Nj]
  refine ⟨[],[],⟨1,?_⟩,rfl,rfl⟩
  simp[DataW.trod,htb,Value.cells]
 ·rw[acr,KI ds (jZ hA)]
  exact wR hl hb (fun t ht=>(nw t ht).2) hA (fun x hx=> hW0.lt x (by simpa using hx))
 ·rw[acr,KI ds (jZ hA),Pr]
  rfl
end Go.Vm
namespace Go.Vm
abbrev CF :=Nat→List V→Hp→Option (V×Hp)
def Ap (c:CF) (G:Nat→CF):Prop:=∀f vs h r,c f vs h=some r→∃n,∀d,n≤d→G d f vs h=some r
section
variable {c : CF} {G : Nat → CF} (ha : Ap c G) {base : Nat}
include ha
theorem Tp {h:Hp} {o:O} {vs:List V} {r:V×Hp} (hr:aD c base h o vs=some r):∃n,∀d,n≤d→aD (G d) base h o vs=some r:=by
 cases o with
 | call f=> exact ha f vs h r hr
 | eB f=>
   simp only[aD] at hr ⊢
   cases hc:c f vs h with
   | none=> rw[hc] at hr;cases hr
   | some q=>
     obtain ⟨n,hn⟩:=ha f vs h q hc
     exact ⟨n,fun d hd=> by rw[hn d hd,←hc];exact hr⟩
 | mD=>
   rcases vs with _ | ⟨x,xs⟩
   ·simp[aD] at hr
   ·cases x <;> simp only[aD] at hr ⊢ <;> first | exact ha _ _ _ _ hr | cases hr
 | _=> exact ⟨0,fun d _=> by
    rcases vs with _ | ⟨x,_ | ⟨y,_ | ⟨z,_ | ⟨u,vs⟩⟩⟩⟩<;> exact hr⟩
theorem uR {fr:Fr} {h:Hp} {g:Vm.G} {r:V×Hp} (hr:stepG c base fr h g=some r):∃n,∀d,n≤d→stepG (G d) base fr h g=some r:=by
 unfold stepG at hr ⊢
 cases hw:want fr g with
 | none=> rw[hw] at hr;cases hr
 | some b=>
   rw[hw] at hr
   cases b with
   | true=> exact Tp ha hr
   | false=> exact ⟨0,fun d _=> hr⟩
theorem DY :∀ {gs:List Vm.G} {fr:Fr} {h:Hp} {r:Fr×Hp},kI c base gs fr h=some r→∃n,∀d,n≤d→kI (G d) base gs fr h=some r
 | [],fr,h,r,hr=>⟨0,fun d _=> hr⟩
 | g::gs,fr,h,r,hr=> by
   simp only[kI] at hr
   split at hr
   case h_2=> cases hr
   rename_i v h' aZ
   obtain ⟨n,hn⟩:=uR ha aZ
   obtain ⟨m,hm⟩:=DY hr
   exact ⟨max n m,fun d hd=> by simp only[kI];rw[hn d (by omega)];exact hm d (by omega)⟩
theorem ym :∀ {gs:List GD} {fr:Fr} {h:Hp} {hs:List Hp} {xs:List Seen} {r:Fr×Hp×List Hp×List Seen},na c base gs fr h hs xs=some r→∃n,∀d,n≤d→na (G d) base gs fr h hs xs=some r
 | [],fr,h,hs,xs,r,hr=>⟨0,fun d _=> hr⟩
 | g::gs,fr,h,hs,xs,r,hr=> by
   simp only[na] at hr
   split at hr
   case h_2=> cases hr
   rename_i v h' aZ
   obtain ⟨n,hn⟩:=uR ha aZ
   split at hr
   ·rename_i he
    obtain ⟨m,hm⟩:=ym hr
    exact ⟨max n m,fun d hd=> by simp only[na];rw[hn d (by omega)];simp only[he,if_true];exact hm d (by omega)⟩
   ·rename_i he
    obtain ⟨m,hm⟩:=ym hr
    exact ⟨max n m,fun d hd=> by simp only[na];rw[hn d (by omega)];simp only[he];exact hm d (by omega)⟩
theorem wS {fr:Fr} {g:Vm.G} {v:V}:∀ {hs:List Hp},o4 c base fr g v hs→∃n,∀d,n≤d→o4 (G d) base fr g v hs
 | [],_=>⟨0,fun d _=> trivial⟩
 | h::hs,⟨h1,h2⟩=> by
   obtain ⟨n,hn⟩:=uR ha h1
   obtain ⟨m,hm⟩:=wS h2
   exact ⟨max n m,fun d hd=>⟨hn d (by omega),hm d (by omega)⟩⟩
theorem uS {hs:List Hp}:∀ {xs:List Seen},nM c base hs xs→∃n,∀d,n≤d→nM (G d) base hs xs
 | [],_=>⟨0,fun d _=> trivial⟩
 | x::xs,⟨h1,h2⟩=> by
   obtain ⟨n,hn⟩:=wS ha h1
   obtain ⟨m,hm⟩:=uS h2
   exact ⟨max n m,fun d hd=>⟨hn d (by omega),hm d (by omega)⟩⟩
theorem No {gs:List GD} {fr:Fr} {h:Hp} {r:Fr×Hp} (hr:bc c base gs fr h=some r):∃n,∀d,n≤d→bc (G d) base gs fr h=some r:=by
 unfold bc at hr ⊢
 split at hr
 case h_2=> cases hr
 rename_i fr' h' hs xs hd
 split at hr
 case isFalse=> cases hr
 rename_i hs
 obtain ⟨n,hn⟩:=ym ha hd
 obtain ⟨m,hm⟩:=uS ha hs.2
 exact ⟨max n m,fun d hd=> by rw[hn d (by omega)];simp only;rw[if_pos ⟨hs.1,hm d (by omega)⟩];exact hr⟩
theorem DZ :∀ {k:C} {fr:Fr} {h:Hp} {r:Ex×Fr×Hp},exec c base k fr h=some r→∃n,∀d,n≤d→exec (G d) base k fr h=some r:=by
 intro k
 induction k with
 | af gs=>
   intro fr h r hr
   simp only[exec] at hr ⊢
   obtain ⟨q,hq,rfl⟩:=abU.1 hr
   obtain ⟨n,hn⟩:=DY ha hq
   exact ⟨n,fun d hd=> by rw[hn d hd];rfl⟩
 | bc gs=>
   intro fr h r hr
   simp only[exec] at hr ⊢
   obtain ⟨q,hq,rfl⟩:=abU.1 hr
   obtain ⟨n,hn⟩:=No ha hq
   exact ⟨n,fun d hd=> by rw[hn d hd];rfl⟩
 | seq a b iha ihb=>
   intro fr h r hr
   simp only[exec] at hr ⊢
   split at hr
   ·rename_i fr1 h1 hx
    obtain ⟨n,hn⟩:=iha hx
    obtain ⟨m,hm⟩:=ihb hr
    exact ⟨max n m,fun d hd=> by rw[hn d (by omega)];exact hm d (by omega)⟩
   ·rename_i da
    obtain ⟨n,hn⟩:=iha hr
    refine ⟨n,fun d hd=> ?_⟩
    rw[hn d hd]
    obtain ⟨e,f1,h1⟩:=r
    cases e with
    | normal=> exact absurd hr (da f1 h1)
    | exit id=> rfl
    | ret=> rfl
 | cond x a b iha ihb=>
   intro fr h r hr
   simp only[exec] at hr ⊢
   split at hr
   ·exact iha hr
   ·exact ihb hr
   ·cases hr
 | block id a iha=>
   intro fr h r hr
   simp only[exec] at hr ⊢
   split at hr
   ·rename_i id' fr1 h1 hx
    obtain ⟨n,hn⟩:=iha hx
    exact ⟨n,fun d hd=> by rw[hn d hd];exact hr⟩
   ·rename_i da
    obtain ⟨n,hn⟩:=iha hr
    refine ⟨n,fun d hd=> ?_⟩
    rw[hn d hd]
    obtain ⟨e,f1,h1⟩:=r
    cases e with
    | exit id=> exact absurd hr (da id f1 h1)
    | normal=> rfl
    | ret=> rfl
 | loop a iha=>
   intro fr h r hr
   simp only[exec] at hr ⊢
   obtain ⟨k,hk⟩:=ib.1 hr
   have key:∀(k:Nat) (fr:Fr) (h:Hp),iter (exec c base a) k fr h=some r→∃n,∀d,n≤d→iter (exec (G d) base a) k fr h=some r:=by
     intro k
     induction k with
     | zero=> intro fr h hk;simp[iter] at hk
     | succ k ih=>
       intro fr h hk
       simp only[iter] at hk ⊢
       split at hk
       ·rename_i fr1 h1 hx
        obtain ⟨n,hn⟩:=iha hx
        obtain ⟨m,hm⟩:=ih _ _ hk
        exact ⟨max n m,fun d hd=> by rw[hn d (by omega)];exact hm d (by omega)⟩
       ·rename_i da
        obtain ⟨n,hn⟩:=iha hk
        refine ⟨n,fun d hd=> ?_⟩
        rw[hn d hd]
        obtain ⟨e,f1,h1⟩:=r
        cases e with
        | normal=> exact absurd hk (da f1 h1)
        | exit id=> rfl
        | ret=> rfl
   obtain ⟨n,hn⟩:=key k fr h hk
   exact ⟨n,fun d hd=> ib.2 ⟨k,hn d hd⟩⟩
 | skip=> intro fr h r hr;exact ⟨0,fun d _=> hr⟩
 | exit id=> intro fr h r hr;exact ⟨0,fun d _=> hr⟩
 | ret=> intro fr h r hr;exact ⟨0,fun d _=> hr⟩
end
theorem uT {c:Nat→CF} {G:Nat→Nat→CF} (ha:∀base,Ap (c base) (fun d=> G d base)) {base:Nat} {F:Fn} {args:List V} {h:Hp} {r:V×Hp} (hr:kU c base F args h=some r):
 ∃n,∀d,n≤d→kU (G d) base F args h=some r:=by
 unfold kU at hr ⊢
 by_cases hp:F.pure=true
 ·simp only[hp,if_true] at hr ⊢
  cases hx:exec (c h.length) h.length F.body (ml F args) h with
  | none=> rw[hx] at hr;cases hr
  | some q=>
    rw[hx] at hr
    obtain ⟨n,hn⟩:=DZ (ha _) hx
    exact ⟨n,fun d hd=> by rw[hn d hd];exact hr⟩
 ·simp only[hp] at hr ⊢
  cases hx:exec (c base) base F.body (ml F args) h with
  | none=> rw[hx] at hr;cases hr
  | some q=>
    rw[hx] at hr
    obtain ⟨n,hn⟩:=DZ (ha _) hx
    exact ⟨n,fun d hd=> by rw[hn d hd];exact hr⟩
section
variable (fns : Nat → Option Fn) (pr : CF)
theorem KJ :∀(d base:Nat) (f:Nat) (vs:List V) (h:Hp) (r:V×Hp),den fns pr d base f vs h=some r→den fns pr (d+1) base f vs h=some r
 | 0,base,f,vs,h,r,hr=> by simp[den] at hr
 | d+1,base,f,vs,h,r,hr=> by
   rw[den] at hr ⊢
   split at hr
   ·rename_i F hF
    obtain ⟨n,hn⟩:=uT (c:=fun base=> den fns pr d base) (G:=fun _ base=> den fns pr (d+1) base) (fun base f vs h r hr=>⟨0,fun _ _=> KJ d base f vs h r hr⟩) hr
    exact hn n (ab0 _)
   ·exact hr
theorem Cn {d e base f:Nat} {vs:List V} {h:Hp} {r:V×Hp} (hr:den fns pr d base f vs h=some r) (hde:d≤e):den fns pr e base f vs h=some r:=by
 induction hde with
 | refl=> exact hr
 | step _ ih=> exact KJ fns pr _ _ _ _ _ _ ih
open Classical in
noncomputable def run (base:Nat):CF:=fun f vs h=> if hx:∃d r,den fns pr d base f vs h=some r then some hx.choose_spec.choose else none
theorem p8 {base f:Nat} {vs:List V} {h:Hp} {r:V×Hp}:run fns pr base f vs h=some r↔∃d,den fns pr d base f vs h=some r:=by
 unfold run
 constructor
 ·intro hr
  split at hr
  ·rename_i hx
   simp only[Option.some.injEq] at hr
   rw[←hr]
   exact ⟨_,hx.choose_spec.choose_spec⟩
  ·cases hr
 ·rintro ⟨d,hd⟩
  have hx:∃d r,den fns pr d base f vs h=some r:=⟨d,r,hd⟩
  rw[dif_pos hx]
  have h1:=hx.choose_spec.choose_spec
  have h2:=Cn fns pr h1 (Nat.le_max_left _ d)
  have h3:=Cn fns pr hd (Nat.le_max_right hx.choose d)
  rw[h2] at h3
  exact h3
theorem run_eq {f:Nat} {F:Fn} (hF:fns f=some F) (base:Nat) (vs:List V) (h:Hp):run fns pr base f vs h=kU (run fns pr) base F vs h:=by
 apply Option.ext
 intro r
 rw[p8]
 constructor
 ·rintro ⟨d,hd⟩
  cases d with
  | zero=> simp[den] at hd
  | succ d=>
    simp only[den,hF] at hd
    obtain ⟨n,hn⟩:=uT (c:=fun base=> den fns pr d base) (G:=fun _ base=> run fns pr base) (fun base f vs h r hr=>⟨0,fun _ _=>(p8 fns pr).2 ⟨d,hr⟩⟩) hd
    exact hn n (ab0 _)
 ·intro hr
  obtain ⟨n,hn⟩:=uT (c:=run fns pr) (G:=fun d base=> den fns pr d base) (fun base f vs h r hr=> by
    obtain ⟨d,hd⟩:=(p8 fns pr).1 hr
    exact ⟨d,fun e he=> Cn fns pr hd he⟩) hr
  exact ⟨n+1,by simp only[den,hF];exact hn n (ab0 _)⟩
theorem oN {f:Nat} (hF:fns f=none) (base:Nat) (vs:List V) (h:Hp):run fns pr base f vs h=pr f vs h:=by
 apply Option.ext
 intro r
 rw[p8]
 constructor
 ·rintro ⟨d,hd⟩
  cases d with
  | zero=> simp[den] at hd
  | succ d=> simpa[den,hF] using hd
 ·intro hr;exact ⟨1,by simpa[den,hF] using hr⟩
end
theorem vv {P:Program} (hL:(ak P).OK) {fns:Nat→Option Fn} {pr:CF} (hf:qW P fns) (hp:cC P (ak P) pr) (hkp:KpP pr) (base:Nat):cC P (ak P) (run fns pr base):=by
 intro f vs h v h' hr
 obtain ⟨d,hd⟩:=(p8 fns pr).1 hr
 exact wP hL hf hp hkp d base f vs h v h' hd
end Go.Vm
namespace Go.Vm
abbrev Env :=Nat→V
def Env.up (e:Env) (t:Nat) (v:V):Env:=fun n=> if n=t then v else e n
def Env.put (e:Env):Option Nat→V→Env
 | some t,v=> e.up t v
 | none,_=> e
def X.on (e:Env):X→V
 | .t n=> e n
 | .c v=> v
def view (fr:Fr):Env:=fun t=> fr.getD t (.bM [])
def e0 (args:List V):Env:=fun t=> args.getD t (.bM [])
def uU (v:V) (b:Bool):Option Bool:=
 match v with
 | .s (.bool b')=> some (b'==b)
 | .bM []=> some false
 | _=> none
def rO (e:Env):Option (Nat×Bool)→Option Bool
 | none=> some true
 | some (t,b)=> uU (e t) b
noncomputable def eU (cf:CF) (base:Nat) (e:Env) (h:Hp) (g:G):Option (V×Hp):=
 match rO e g.guard with
 | some true=> aD cf base h g.op (g.xs.map (X.on e))
 | some false=> some (.bM [],h)
 | none=> none
noncomputable def Af (cf:CF) (base:Nat):List G→Env→Hp→Option (Env×Hp)
 | [],e,h=> some (e,h)
 | g::gs,e,h=> match eU cf base e h g with
   | some (v,h')=> Af cf base gs (e.put g.dst v) h'
   | none=> none
structure dP where
 d:GD
 e:Env
 h:Hp
 v:V
def AJ (cf:CF) (base:Nat) (x:dP) (h:Hp):Prop:=h=x.h∨eU cf base x.e h x.d.g=some (x.v,h)
def Fu (cf:CF) (base:Nat) (x:dP):List Hp→Prop
 | []=> True
 | h::hs=> AJ cf base x h∧Fu cf base x hs
def nz (cf:CF) (base:Nat) (hs:List Hp):List dP→Prop
 | []=> True
 | x::xs=> Fu cf base x ((hs.drop x.d.lo).take (x.d.hi+1 - x.d.lo))∧nz cf base hs xs
noncomputable def ja (cf:CF) (base:Nat):List GD→Env→Hp→List Hp→List dP→Option (Env×Hp×List Hp×List dP)
 | [],e,h,hs,xs=> some (e,h,hs++[h],xs)
 | d::ds,e,h,hs,xs=> match eU cf base e h d.g with
   | some (v,h')=> if d.g.op.cg then ja cf base ds (e.put d.g.dst v) h' (hs++[h]) xs else ja cf base ds (e.put d.g.dst v) h hs (xs++[⟨d,e,h,v⟩])
   | none=> none
open Classical in
noncomputable def KK (cf:CF) (base:Nat) (ds:List GD) (e:Env) (h:Hp):Option (Env×Hp):=
 match ja cf base ds e h [] [] with
 | some (e',h',hs,xs)=> if nz cf base hs xs then some (e',h') else none
 | none=> none
abbrev Ag :=Option (Ex×Env×Hp)
def gQ (f:Env→Hp→Ag):Nat→Env→Hp→Ag
 | 0,_,_=> none
 | n+1,e,h=> match f e h with
   | some (.normal,e',h')=> gQ f n e' h'
   | r=> r
theorem wT {f:Env→Hp→Ag}:∀ {n m:Nat} {e:Env} {h:Hp} {r r':Ex×Env×Hp},gQ f n e h=some r→gQ f m e h=some r'→r=r'
 | 0,_,_,_,_,_,h1,_=> by simp[gQ] at h1
 | _+1,0,_,_,_,_,_,h2=> by simp[gQ] at h2
 | n+1,m+1,e,h,r,r',h1,h2=> by
   simp only[gQ] at h1 h2
   split at h1
   ·rename_i fr1 h1' he
    rw[he] at h2
    exact wT h1 h2
   ·rename_i da
    cases hf:f e h with
    | none=> rw[hf] at h1;cases h1
    | some q=>
      rw[hf] at h1 h2
      obtain ⟨x,a,b⟩:=q
      cases x with
      | normal=> exact absurd hf (da a b)
      | exit id=> simp only[Option.some.injEq] at h1 h2;rw[←h1,←h2]
      | ret=> simp only[Option.some.injEq] at h1 h2;rw[←h1,←h2]
open Classical in
noncomputable def Ah (f:Env→Hp→Ag) (e:Env) (h:Hp):Ag:=
 if hx:∃r n,gQ f n e h=some r then some hx.choose else none
theorem pd {f:Env→Hp→Ag} {e:Env} {h:Hp} {r:Ex×Env×Hp}:Ah f e h=some r↔∃n,gQ f n e h=some r:=by
 unfold Ah
 constructor
 ·intro hr
  split at hr
  ·rename_i hx
   simp only[Option.some.injEq] at hr
   rw[←hr]
   exact hx.choose_spec
  ·cases hr
 ·rintro ⟨n,hn⟩
  have hx:∃r n,gQ f n e h=some r:=⟨r,n,hn⟩
  rw[dif_pos hx]
  obtain ⟨m,hm⟩:=hx.choose_spec
  rw[wT hm hn]
theorem KL (f:Env→Hp→Ag) (e:Env) (h:Hp):Ah f e h=match f e h with
 | some (.normal,e',h')=> Ah f e' h'
 | r=> r:=by
 apply Option.ext
 intro r
 rw[pd]
 split
 ·rename_i fr' h' he
  rw[pd]
  constructor
  ·rintro ⟨n,hn⟩
   cases n with
   | zero=> simp[gQ] at hn
   | succ n=> simp only[gQ,he] at hn;exact ⟨n,hn⟩
  ·rintro ⟨n,hn⟩
   exact ⟨n+1,by simp only[gQ,he];exact hn⟩
 ·rename_i da
  constructor
  ·rintro ⟨n,hn⟩
   cases n with
   | zero=> simp[gQ] at hn
   | succ n=> simp only[gQ] at hn;exact hn
  ·intro hr
   refine ⟨1,?_⟩
   simp only[gQ]
   exact hr
noncomputable def dd (cf:CF) (base:Nat):C→Env→Hp→Ag
 | .skip,e,h=> some (.normal,e,h)
 | .af gs,e,h=>(Af cf base gs e h).map fun r=>(.normal,r.1,r.2)
 | .bc ds,e,h=>(KK cf base ds e h).map fun r=>(.normal,r.1,r.2)
 | .seq a b,e,h=> match dd cf base a e h with
   | some (.normal,e',h')=> dd cf base b e' h'
   | r=> r
 | .cond c a b,e,h=> match c.on e with
   | .s (.bool true)=> dd cf base a e h
   | .s (.bool false)=> dd cf base b e h
   | _=> none
 | .block id a,e,h=> match dd cf base a e h with
   | some (.exit id',e',h')=> if id'=id then some (.normal,e',h') else some (.exit id',e',h')
   | r=> r
 | .loop a,e,h=> Ah (dd cf base a) e h
 | .exit id,e,h=> some (.exit id,e,h)
 | .ret,e,h=> some (.ret,e,h)
def G.fits (n:Nat) (g:G):Bool:=(match g.dst with | some t=> decide (t < n) | none=> true)&&(match g.guard with | some (t,_)=> decide (t < n) | none=> true)
def C.fits (n:Nat):C→Bool
 | .af gs=> gs.all (G.fits n)
 | .bc ds=> ds.all fun d=> d.g.fits n
 | .seq a b=> a.fits n && b.fits n
 | .cond _ a b=> a.fits n && b.fits n
 | .block _ a=> a.fits n
 | .loop a=> a.fits n
 | _=> true
theorem KM {fr:Fr} {t:Nat} {v:V} (ht:t < fr.length):view (fr.set t v)=(view fr).up t v:=by
 funext n
 simp only[view,Env.up,ade]
 by_cases h:n=t
 ·subst h;simp[ht]
 ·rw[ab3 (adG h),if_neg h]
theorem evX (fr:Fr):X.ev fr=X.on (view fr):=by funext x;cases x <;> rfl
theorem wU {n:Nat} {fr:Fr} {g:G} {v:V} (hl:fr.length=n) (hg:g.fits n=true):(ia fr g.dst v).length=n∧view (ia fr g.dst v)=(view fr).put g.dst v:=by
 simp only[G.fits,abY] at hg
 cases hd:g.dst with
 | none=> exact ⟨hl,rfl⟩
 | some t=>
   rw[hd] at hg
   simp only[decide_eq_true_eq] at hg
   exact ⟨by simpa[ia] using hl,by simp only[ia,Env.put];exact KM (by rw[hl];exact hg.1)⟩
theorem lf {cf:CF} {base n:Nat} {fr:Fr} {h:Hp} {g:G} (hl:fr.length=n) (hg:g.fits n=true):stepG cf base fr h g=eU cf base (view fr) h g:=by
 simp only[G.fits,abY] at hg
 unfold stepG eU want rO
 rw[evX]
 cases hd:g.guard with
 | none=> rfl
 | some p=>
   obtain ⟨t,b⟩:=p
   rw[hd] at hg
   simp only[decide_eq_true_eq] at hg
   have:fr.getD t .top=view fr t:=by
     simp only[view,ade]
     have ht:t < fr.length:=by rw[hl];exact hg.2
     rw[abV ht];rfl
   simp only[uU]
   rw[this]
   rfl
theorem Ai {cf:CF} {base n:Nat}:∀ {gs:List G} {fr:Fr} {h:Hp} {e':Env} {h':Hp},fr.length=n→gs.all (G.fits n)=true→Af cf base gs (view fr) h=some (e',h')→
 ∃fr',kI cf base gs fr h=some (fr',h')∧fr'.length=n∧view fr'=e'
 | [],fr,h,e',h',hl,_,hr=> by
   simp only[Af,Option.some.injEq,Prod.mk.injEq] at hr
   obtain ⟨rfl,rfl⟩:=hr
   exact ⟨fr,rfl,hl,rfl⟩
 | g::gs,fr,h,e',h',hl,hg,hr=> by
   simp only[afl,abY] at hg
   simp only[Af] at hr
   split at hr
   case h_2=> cases hr
   rename_i v h1 aZ
   obtain ⟨p1,p2⟩:=wU (v:=v) hl hg.1
   rw[←p2] at hr
   obtain ⟨fr',q1,q2,q3⟩:=Ai p1 hg.2 hr
   exact ⟨fr',by simp only[kI];rw[lf hl hg.1,aZ];exact q1,q2,q3⟩
def qU (cf:CF) (base n:Nat):List Seen→List dP→Prop
 | [],[]=> True
 | x::xs,y::ys=>(x.d=y.d∧x.v=y.v∧x.fr.length=n∧view x.fr=y.e∧y.d.g.fits n=true∧eU cf base y.e y.h y.d.g=some (y.v,y.h))∧qU cf base n xs ys
 | _,_=> False
theorem oG {cf:CF} {base n:Nat} {x:Seen} {y:dP}:∀ {xs:List Seen} {ys:List dP},qU cf base n xs ys→(x.d=y.d∧x.v=y.v∧x.fr.length=n∧view x.fr=y.e∧y.d.g.fits n=true∧eU cf base y.e y.h y.d.g=some (y.v,y.h))→qU cf base n (xs++[x]) (ys++[y])
 | [],[],_,h=>⟨h,trivial⟩
 | _::_,_::_,h1,h=>⟨h1.1,oG h1.2 h⟩
 | [],_::_,h1,_=> h1.elim
 | _::_,[],h1,_=> h1.elim
theorem rP {cf:CF} {base n:Nat} {x:Seen} {y:dP} (h:x.d=y.d∧x.v=y.v∧x.fr.length=n∧view x.fr=y.e∧y.d.g.fits n=true∧eU cf base y.e y.h y.d.g=some (y.v,y.h)):∀ {hs:List Hp},Fu cf base y hs→o4 cf base x.fr x.d.g x.v hs
 | [],_=> trivial
 | k::ks,⟨h1,h2⟩=> by
   refine ⟨?_,rP h h2⟩
   obtain ⟨a1,a2,a3,a4,a5,a6⟩:=h
   rw[a1,a2,lf a3 a5,a4]
   rcases h1 with rfl | h1
   ·exact a6
   ·exact h1
theorem p9 {cf:CF} {base n:Nat} {hs:List Hp}:∀ {xs:List Seen} {ys:List dP},qU cf base n xs ys→nz cf base hs ys→nM cf base hs xs
 | [],[],_,_=> trivial
 | x::xs,y::ys,h,⟨h1,h2⟩=>⟨by have:=h.1.1;rw[←this] at h1;exact rP h.1 h1,p9 h.2 h2⟩
 | [],_::_,h,_=> h.elim
 | _::_,[],h,_=> h.elim
theorem qV {cf:CF} {base n:Nat}:∀ {ds:List GD} {fr:Fr} {h:Hp} {hs:List Hp} {xs:List Seen} {ys:List dP} {e':Env} {h':Hp} {dx:List Hp} {ys':List dP},fr.length=n→(ds.all fun d=> d.g.fits n)=true→qU cf base n xs ys→
 ja cf base ds (view fr) h hs ys=some (e',h',dx,ys')→∃fr' xs',na cf base ds fr h hs xs=some (fr',h',dx,xs')∧fr'.length=n∧view fr'=e'∧qU cf base n xs' ys'
 | [],fr,h,hs,xs,ys,e',h',dx,ys',hl,_,hx,hr=> by
   simp only[ja,Option.some.injEq,Prod.mk.injEq] at hr
   obtain ⟨rfl,rfl,rfl,rfl⟩:=hr
   exact ⟨fr,xs,rfl,hl,rfl,hx⟩
 | d::ds,fr,h,hs,xs,ys,e',h',dx,ys',hl,hg,hx,hr=> by
   simp only[afl,abY] at hg
   simp only[ja] at hr
   split at hr
   case h_2=> cases hr
   rename_i v h1 aZ
   obtain ⟨p1,p2⟩:=wU (v:=v) hl hg.1
   rw[←p2] at hr
   split at hr
   ·rename_i he
    obtain ⟨fr',xs',q1,q2,q3,q4⟩:=qV p1 hg.2 hx hr
    exact ⟨fr',xs',by simp only[na];rw[lf hl hg.1,aZ];simp only[he,if_true];exact q1,q2,q3,q4⟩
   ·rename_i he
    have hq:h1=h:=by
      have ie:=aZ
      rw[←lf hl hg.1] at ie
      exact rJ (by simpa using he) ie
    subst hq
    obtain ⟨fr',xs',q1,q2,q3,q4⟩:=qV p1 hg.2 (oG (x:=⟨d,fr,v⟩) (y:=⟨d,view fr,h1,v⟩) hx ⟨rfl,rfl,hl,rfl,hg.1,aZ⟩) hr
    exact ⟨fr',xs',by simp only[na];rw[lf hl hg.1,aZ];simp only[he];exact q1,q2,q3,q4⟩
theorem wV {cf:CF} {base n:Nat}:∀ {c:C} {fr:Fr} {h:Hp} {ex:Ex} {e':Env} {h':Hp},fr.length=n→c.fits n=true→dd cf base c (view fr) h=some (ex,e',h')→
 ∃fr',exec cf base c fr h=some (ex,fr',h')∧fr'.length=n∧view fr'=e':=by
 intro c
 induction c with
 | skip=>
   intro fr h ex e' h' hl hc hr
   simp only[dd,Option.some.injEq,Prod.mk.injEq] at hr
   obtain ⟨rfl,rfl,rfl⟩:=hr
   exact ⟨fr,rfl,hl,rfl⟩
 | exit id=>
   intro fr h ex e' h' hl hc hr
   simp only[dd,Option.some.injEq,Prod.mk.injEq] at hr
   obtain ⟨rfl,rfl,rfl⟩:=hr
   exact ⟨fr,rfl,hl,rfl⟩
 | ret=>
   intro fr h ex e' h' hl hc hr
   simp only[dd,Option.some.injEq,Prod.mk.injEq] at hr
   obtain ⟨rfl,rfl,rfl⟩:=hr
   exact ⟨fr,rfl,hl,rfl⟩
 | af gs=>
   intro fr h ex e' h' hl hc hr
   simp only[dd] at hr
   obtain ⟨⟨a,b⟩,hq,he⟩:=abU.1 hr
   simp only[Prod.mk.injEq] at he
   obtain ⟨rfl,rfl,rfl⟩:=he
   obtain ⟨fr',q1,q2,q3⟩:=Ai hl hc hq
   exact ⟨fr',by simp only[exec,q1];rfl,q2,q3⟩
 | bc ds=>
   intro fr h ex e' h' hl hc hr
   simp only[dd] at hr
   obtain ⟨⟨a,b⟩,hq,he⟩:=abU.1 hr
   simp only[Prod.mk.injEq] at he
   obtain ⟨rfl,rfl,rfl⟩:=he
   unfold KK at hq
   split at hq
   case h_2=> cases hq
   rename_i e1 h1 hs xs hd
   split at hq
   case isFalse=> cases hq
   rename_i iJ
   cases hq
   obtain ⟨fr',xs',q1,q2,q3,q4⟩:=qV hl hc (xs:=[]) (ys:=[]) trivial hd
   have GV:inB fr.length ds:=fun d hd t ht=> by
     have:=ach.1 hc d hd
     simp only[G.fits,ht,abY,decide_eq_true_eq] at this
     rw[hl];exact this.1
   exact ⟨fr',by simp only[exec,Vm.bc,q1];rw[if_pos ⟨GV,p9 q4 iJ⟩];rfl,q2,q3⟩
 | seq a b iha ihb=>
   intro fr h ex e' h' hl hc hr
   simp only[C.fits,abY] at hc
   simp only[dd] at hr
   split at hr
   ·rename_i e1 h1 hx
    obtain ⟨f1,q1,q2,q3⟩:=iha hl hc.1 hx
    rw[←q3] at hr
    obtain ⟨f2,q4,q5,q6⟩:=ihb q2 hc.2 hr
    exact ⟨f2,by simp only[exec,q1];exact q4,q5,q6⟩
   ·rename_i da
    obtain ⟨f1,q1,q2,q3⟩:=iha hl hc.1 hr
    refine ⟨f1,?_,q2,q3⟩
    simp only[exec,q1]
    cases ex with
    | normal=> exact absurd hr (da e' h')
    | exit id=> rfl
    | ret=> rfl
 | cond x a b iha ihb=>
   intro fr h ex e' h' hl hc hr
   simp only[C.fits,abY] at hc
   simp only[dd] at hr
   simp only[exec,evX]
   split at hr
   ·rename_i he;rw[he];exact iha hl hc.1 hr
   ·rename_i he;rw[he];exact ihb hl hc.2 hr
   ·cases hr
 | block id a iha=>
   intro fr h ex e' h' hl hc hr
   simp only[C.fits] at hc
   simp only[dd] at hr
   split at hr
   ·rename_i id' e1 h1 hx
    obtain ⟨f1,q1,q2,q3⟩:=iha hl hc hx
    split at hr
    ·rename_i hid
     simp only[Option.some.injEq,Prod.mk.injEq] at hr
     obtain ⟨rfl,rfl,rfl⟩:=hr
     exact ⟨f1,by simp only[exec,q1,hid,if_true],q2,q3⟩
    ·rename_i hid
     simp only[Option.some.injEq,Prod.mk.injEq] at hr
     obtain ⟨rfl,rfl,rfl⟩:=hr
     exact ⟨f1,by simp only[exec,q1,hid,if_false],q2,q3⟩
   ·rename_i da
    obtain ⟨f1,q1,q2,q3⟩:=iha hl hc hr
    refine ⟨f1,?_,q2,q3⟩
    simp only[exec,q1]
    cases ex with
    | exit id=> exact absurd hr (da id e' h')
    | normal=> rfl
    | ret=> rfl
 | loop a iha=>
   intro fr h ex e' h' hl hc hr
   simp only[C.fits] at hc
   simp only[dd] at hr
   obtain ⟨k,hk⟩:=pd.1 hr
   have key:∀(k:Nat) (fr:Fr) (h:Hp),fr.length=n→gQ (dd cf base a) k (view fr) h=some (ex,e',h')→∃fr',iter (exec cf base a) k fr h=some (ex,fr',h')∧fr'.length=n∧view fr'=e':=by
     intro k
     induction k with
     | zero=> intro fr h hl hk;simp[gQ] at hk
     | succ k ih=>
       intro fr h hl hk
       simp only[gQ] at hk
       split at hk
       ·rename_i e1 h1 hx
        obtain ⟨f1,q1,q2,q3⟩:=iha hl hc hx
        rw[←q3] at hk
        obtain ⟨f2,q4,q5,q6⟩:=ih f1 h1 q2 hk
        exact ⟨f2,by simp only[iter,q1];exact q4,q5,q6⟩
       ·rename_i da
        obtain ⟨f1,q1,q2,q3⟩:=iha hl hc hk
        refine ⟨f1,?_,q2,q3⟩
        simp only[iter,q1]
        cases ex with
        | normal=> exact absurd hk (da e' h')
        | exit id=> rfl
        | ret=> rfl
   obtain ⟨fr',q1,q2,q3⟩:=key k fr h hl hk
   exact ⟨fr',by simp only[exec];exact ib.2 ⟨k,q1⟩,q2,q3⟩
abbrev bV :=Ex→Env→Hp→Prop
section
variable (cf : CF) (base : Nat)
def wp (c:C) (e:Env) (h:Hp) (Q:bV):Prop:=∃ex e' h',dd cf base c e h=some (ex,e',h')∧Q ex e' h'
def wpG (gs:List G) (e:Env) (h:Hp) (Q:bV):Prop:=∃e' h',Af cf base gs e h=some (e',h')∧Q .normal e' h'
def wpS (r:Option (V×Hp)) (d:Option Nat) (gs:List G) (e:Env) (Q:bV):Prop:=
 match r with
 | some (v,h')=> wpG cf base gs (e.put d v) h' Q
 | none=> False
def G9 (r:Option Bool) (g:G) (gs:List G) (e:Env) (h:Hp) (Q:bV):Prop:=
 match r with
 | some true=> wpS cf base (aD cf base h g.op (g.xs.map (X.on e))) g.dst gs e Q
 | some false=> wpG cf base gs (e.put g.dst (.bM [])) h Q
 | none=> False
def Aj (ds:List GD) (e:Env) (h:Hp) (hs:List Hp) (xs:List dP) (Q:bV):Prop:=∃e' h' dx xs',ja cf base ds e h hs xs=some (e',h',dx,xs')∧nz cf base dx xs'∧Q .normal e' h'
def wpT (r:Option (V×Hp)) (d:GD) (ds:List GD) (e:Env) (h:Hp) (hs:List Hp) (xs:List dP) (Q:bV):Prop:=
 match r with
 | some (v,h')=> if d.g.op.cg=true then Aj cf base ds (e.put d.g.dst v) h' (hs++[h]) xs Q else Aj cf base ds (e.put d.g.dst v) h hs (xs++[⟨d,e,h,v⟩]) Q
 | none=> False
def wpC (v:V) (a b:C) (e:Env) (h:Hp) (Q:bV):Prop:=
 match v with
 | .s (.bool true)=> wp cf base a e h Q
 | .s (.bool false)=> wp cf base b e h Q
 | _=> False
def Co (b:C) (Q:bV):bV
 | .normal,e,h=> wp cf base b e h Q
 | ex,e,h=> Q ex e h
def jH (id:Nat) (Q:bV):bV
 | .exit i,e,h=> if i=id then Q .normal e h else Q (.exit i) e h
 | ex,e,h=> Q ex e h
def D2 (a:C) (Q:bV):bV
 | .normal,e,h=> wp cf base (.loop a) e h Q
 | ex,e,h=> Q ex e h
theorem Ha {α β γ:Type} {a:α} {b:β} {c:γ} {Q:α→β→γ→Prop}:(∃x y z,some (a,b,c)=some (x,y,z)∧Q x y z)↔Q a b c:=by
 constructor
 ·rintro ⟨x,y,z,h,hq⟩;cases h;exact hq
 ·intro h;exact ⟨a,b,c,rfl,h⟩
theorem ex2 {α β:Type} {a:α} {b:β} {Q:α→β→Prop}:(∃x y,some (a,b)=some (x,y)∧Q x y)↔Q a b:=by
 constructor
 ·rintro ⟨x,y,h,hq⟩;cases h;exact hq
 ·intro h;exact ⟨a,b,rfl,h⟩
theorem wp_skip (e:Env) (h:Hp) (Q:bV):wp cf base .skip e h Q=Q .normal e h:=by simp only[wp,dd,Ha]
theorem wp_ret (e:Env) (h:Hp) (Q:bV):wp cf base .ret e h Q=Q .ret e h:=by simp only[wp,dd,Ha]
theorem wp_exit (id:Nat) (e:Env) (h:Hp) (Q:bV):wp cf base (.exit id) e h Q=Q (.exit id) e h:=by simp only[wp,dd,Ha]
theorem Tq (gs:List G) (e:Env) (h:Hp) (Q:bV):wp cf base (.af gs) e h Q=wpG cf base gs e h Q:=by
 simp only[wp,wpG,dd,eq_iff_iff]
 constructor
 ·rintro ⟨ex,e',h',hx,hq⟩
  obtain ⟨⟨a,b⟩,h1,h2⟩:=abU.1 hx
  cases h2;exact ⟨_,_,h1,hq⟩
 ·rintro ⟨e',h',hx,hq⟩
  exact ⟨_,_,_,by rw[hx];rfl,hq⟩
theorem Np (ds:List GD) (e:Env) (h:Hp) (Q:bV):wp cf base (.bc ds) e h Q=Aj cf base ds e h [] [] Q:=by
 simp only[wp,Aj,dd,eq_iff_iff,KK]
 constructor
 ·rintro ⟨ex,e',h',hx,hq⟩
  obtain ⟨⟨a,b⟩,h1,h2⟩:=abU.1 hx
  cases h2
  split at h1
  case h_2=> cases h1
  rename_i hd
  split at h1
  case isFalse=> cases h1
  rename_i iJ
  cases h1
  exact ⟨_,_,_,_,hd,iJ,hq⟩
 ·rintro ⟨e',h',hs,xs,hx,iJ,hq⟩
  exact ⟨_,_,_,by rw[hx];simp only[iJ,if_true];rfl,hq⟩
theorem Nq (e:Env) (h:Hp) (Q:bV):wpG cf base [] e h Q=Q .normal e h:=by simp only[wpG,Af,ex2]
theorem KN (g:G) (gs:List G) (e:Env) (h:Hp) (Q:bV):wpG cf base (g::gs) e h Q=G9 cf base (rO e g.guard) g gs e h Q:=by
 simp only[wpG,Af,eU,eq_iff_iff]
 cases hw:rO e g.guard with
 | none=> simp[G9]
 | some b=>
   cases b with
   | false=> simp only[G9];exact Iff.rfl
   | true=>
     simp only[G9]
     cases ho:aD cf base h g.op (g.xs.map (X.on e)) with
     | none=> simp[wpS]
     | some r=> obtain ⟨v,h'⟩:=r;simp only[wpS];exact Iff.rfl
theorem Nr (e:Env) (h:Hp) (hs:List Hp) (xs:List dP) (Q:bV):Aj cf base [] e h hs xs Q=(nz cf base (hs++[h]) xs∧Q .normal e h):=by
 simp only[Aj,ja,eq_iff_iff]
 constructor
 ·rintro ⟨a,b,c,d,h1,h2,h3⟩;cases h1;exact ⟨h2,h3⟩
 ·rintro ⟨h2,h3⟩;exact ⟨_,_,_,_,rfl,h2,h3⟩
theorem Fv (d:GD) (ds:List GD) (e:Env) (h:Hp) (hs:List Hp) (xs:List dP) (Q:bV):Aj cf base (d::ds) e h hs xs Q=wpT cf base (eU cf base e h d.g) d ds e h hs xs Q:=by
 simp only[Aj,ja,eq_iff_iff]
 cases ho:eU cf base e h d.g with
 | none=> simp[wpT]
 | some r=>
   obtain ⟨v,h'⟩:=r
   simp only[wpT]
   cases d.g.op.cg <;> simp[Aj]
theorem wp_seq (a b:C) (e:Env) (h:Hp) (Q:bV):wp cf base (.seq a b) e h Q=wp cf base a e h (Co cf base b Q):=by
 simp only[wp,dd,eq_iff_iff]
 cases hx:dd cf base a e h with
 | none=> simp
 | some r=>
   obtain ⟨ex,e1,h1⟩:=r
   cases ex with
   | normal=> simp only[Co,wp,Ha]
   | exit id=> simp only[Co,Ha]
   | ret=> simp only[Co,Ha]
theorem wp_block (id:Nat) (a:C) (e:Env) (h:Hp) (Q:bV):wp cf base (.block id a) e h Q=wp cf base a e h (jH id Q):=by
 simp only[wp,dd,eq_iff_iff]
 cases hx:dd cf base a e h with
 | none=> simp
 | some r=>
   obtain ⟨ex,e1,h1⟩:=r
   cases ex with
   | normal=> simp only[jH,Ha]
   | exit i=> by_cases hi:i=id <;> simp only[jH,hi,if_true,if_false,Ha]
   | ret=> simp only[jH,Ha]
theorem wp_cond (x:X) (a b:C) (e:Env) (h:Hp) (Q:bV):wp cf base (.cond x a b) e h Q=wpC cf base (x.on e) a b e h Q:=by
 simp only[wp,dd,eq_iff_iff,wpC]
 split <;> simp[wp]
theorem wp_loop (a:C) (e:Env) (h:Hp) (Q:bV):wp cf base (.loop a) e h Q=wp cf base a e h (D2 cf base a Q):=by
 simp only[wp,dd,eq_iff_iff]
 rw[KL]
 cases hx:dd cf base a e h with
 | none=> simp
 | some r=>
   obtain ⟨ex,e1,h1⟩:=r
   cases ex with
   | normal=> simp only[D2,wp,dd,Ha]
   | exit i=> simp only[D2,Ha]
   | ret=> simp only[D2,Ha]
theorem wp_mono {c:C} {e:Env} {h:Hp} {Q Q':bV} (hw:wp cf base c e h Q) (hq:∀ex e' h',Q ex e' h'→Q' ex e' h'):wp cf base c e h Q':=by
 obtain ⟨ex,e',h',h1,h2⟩:=hw
 exact ⟨ex,e',h',h1,hq _ _ _ h2⟩
theorem KO (v:V) (h':Hp) (d:Option Nat) (gs:List G) (e:Env) (Q:bV):wpS cf base (some (v,h')) d gs e Q=wpG cf base gs (e.put d v) h' Q:=rfl
theorem KP (g:G) (gs:List G) (e:Env) (h:Hp) (Q:bV):G9 cf base (some true) g gs e h Q=wpS cf base (aD cf base h g.op (g.xs.map (X.on e))) g.dst gs e Q:=rfl
theorem Fy (g:G) (gs:List G) (e:Env) (h:Hp) (Q:bV):G9 cf base (some false) g gs e h Q=wpG cf base gs (e.put g.dst (.bM [])) h Q:=rfl
theorem KQ (p:Bool) (a b:C) (e:Env) (h:Hp) (Q:bV):wpC cf base (.s (.bool p)) a b e h Q=if p=true then wp cf base a e h Q else wp cf base b e h Q:=by cases p <;> rfl
theorem KR (a b:C) (e:Env) (h:Hp) (Q:bV):wpC cf base (.s (.bool true)) a b e h Q=wp cf base a e h Q:=rfl
theorem Fz (a b:C) (e:Env) (h:Hp) (Q:bV):wpC cf base (.s (.bool false)) a b e h Q=wp cf base b e h Q:=rfl
theorem Ak (b:C) (Q:bV) (e:Env) (h:Hp):Co cf base b Q .normal e h=wp cf base b e h Q:=rfl
theorem KS (b:C) (Q:bV) (e:Env) (h:Hp):Co cf base b Q .ret e h=Q .ret e h:=rfl
theorem FA (b:C) (Q:bV) (i:Nat) (e:Env) (h:Hp):Co cf base b Q (.exit i) e h=Q (.exit i) e h:=rfl
theorem vu (id:Nat) (Q:bV) (e:Env) (h:Hp):jH id Q .normal e h=Q .normal e h:=rfl
theorem Cp (id:Nat) (Q:bV) (e:Env) (h:Hp):jH id Q .ret e h=Q .ret e h:=rfl
theorem rQ (id:Nat) (Q:bV) (i:Nat) (e:Env) (h:Hp):jH id Q (.exit i) e h=if i=id then Q .normal e h else Q (.exit i) e h:=rfl
theorem FB (d:GD) (e:Env) (h:Hp) (v:V):AJ cf base ⟨d,e,h,v⟩ h=True:=by simp[AJ]
end
theorem gF {cf:CF} {base:Nat} {hs:List Hp}:∀ {xs ys:List dP},nz cf base hs (xs++ys)↔nz cf base hs xs∧nz cf base hs ys
 | [],ys=> by simp[nz]
 | x::xs,ys=> by simp only[acL,nz,gF,and_assoc]
theorem eM {cf:CF} {base:Nat}:∀ {ds:List GD} {e:Env} {h:Hp} {hs:List Hp} {xs:List dP} {r:Env×Hp×List Hp×List dP},
 ja cf base ds e h hs xs=some r↔∃zs,r.2.2.2=xs++zs∧ja cf base ds e h hs []=some (r.1,r.2.1,r.2.2.1,zs)
 | [],e,h,hs,xs,r=> by
   obtain ⟨a,b,c,d⟩:=r
   simp only[ja,Option.some.injEq,Prod.mk.injEq]
   constructor
   ·rintro ⟨rfl,rfl,rfl,rfl⟩;exact ⟨[],by simp,rfl,rfl,rfl,rfl⟩
   ·rintro ⟨zs,rfl,rfl,rfl,rfl,rfl⟩;simp
 | d::ds,e,h,hs,xs,r=> by
   simp only[ja]
   cases eU cf base e h d.g with
   | none=> simp
   | some q=>
     obtain ⟨v,h'⟩:=q
     simp only
     split
     ·exact eM
     ·rw[@eM cf base ds (e.put d.g.dst v) h hs (xs++[dP.mk d e h v]) r]
      constructor
      ·rintro ⟨zs,h1,h2⟩
       exact ⟨dP.mk d e h v::zs,by rw[h1];simp,eM.2 ⟨zs,by simp,h2⟩⟩
      ·rintro ⟨zs,h1,h2⟩
       obtain ⟨ys,h3,h4⟩:=eM.1 h2
       simp only[acD] at h3
       exact ⟨ys,by rw[h1,h3];simp,h4⟩
theorem uV {cf:CF} {base:Nat}:∀ {ds:List GD} {e:Env} {h:Hp} {hs:List Hp} {xs:List dP} {r:Env×Hp×List Hp×List dP},
 ja cf base ds e h hs xs=some r→∃ks,r.2.2.1=hs++h::ks
 | [],e,h,hs,xs,r,hr=> by
   simp only[ja,Option.some.injEq] at hr
   subst hr;exact ⟨[],rfl⟩
 | d::ds,e,h,hs,xs,r,hr=> by
   simp only[ja] at hr
   split at hr
   case h_2=> cases hr
   rename_i v h' aZ
   split at hr
   ·obtain ⟨ks,hk⟩:=uV hr
    exact ⟨h'::ks,by rw[hk];simp⟩
   ·exact uV hr
def GD.calm (d:GD) (n:Nat):Bool:=d.g.op.indep || (d.lo==n && d.hi==n)
theorem Al {cf:CF} {base:Nat} {g:G} (hi:g.op.indep=true) {e:Env} {h h':Hp} {v:V} (hr:eU cf base e h g=some (v,h')) (h2:Hp):eU cf base e h2 g=some (v,h2):=by
 unfold eU at hr ⊢
 split at hr
 ·exact qO hi hr h2
 ·cases hr;rfl
 ·cases hr
section
variable (cf : CF) (base : Nat)
def wpL (r:Option (V×Hp)) (d:GD) (ds:List GD) (e:Env) (h:Hp) (hs:List Hp) (xs:List dP) (Q:bV):Prop:=
 match r with
 | some (v,h')=> if d.g.op.cg=true then Aj cf base ds (e.put d.g.dst v) h' (hs++[h]) xs Q else if d.calm hs.length=true then Aj cf base ds (e.put d.g.dst v) h hs xs Q else Aj cf base ds (e.put d.g.dst v) h hs (xs++[⟨d,e,h,v⟩]) Q
 | none=> False
theorem Am {cf:CF} {base:Nat} {x:dP}:∀ {hs:List Hp},(∀h∈hs,AJ cf base x h)→Fu cf base x hs
 | [],_=> trivial
 | h::hs,k=>⟨k h (by simp),Am fun y hy=> k y (by simp[hy])⟩
theorem KT (d:GD) (ds:List GD) (e:Env) (h:Hp) (hs:List Hp) (xs:List dP) (Q:bV):Aj cf base (d::ds) e h hs xs Q=wpL cf base (eU cf base e h d.g) d ds e h hs xs Q:=by
 rw[Fv]
 cases aZ:eU cf base e h d.g with
 | none=> rfl
 | some q=>
   obtain ⟨v,h'⟩:=q
   simp only[wpT,wpL]
   by_cases he:d.g.op.cg=true
   ·simp only[he,if_true]
   ·simp only[he]
    by_cases hc:d.calm hs.length=true
    ·simp only[hc,if_true,eq_iff_iff]
     have iJ:∀ks,Fu cf base ⟨d,e,h,v⟩ (((hs++h::ks).drop d.lo).take (d.hi+1 - d.lo)):=by
       intro ks
       simp only[GD.calm,acM,abY,beq_iff_eq] at hc
       rcases hc with hc | ⟨h1,h2⟩
       ·exact Am fun k _=> .inr (Al hc aZ k)
       ·rw[h1,h2]
        simp only[aek,Nat.add_sub_cancel_left]
        exact ⟨.inl rfl,trivial⟩
     simp only[Aj]
     constructor
     ·rintro ⟨e',k',dx,xs',h1,h2,h3⟩
      obtain ⟨zs,h4,h5⟩:=eM.1 h1
      simp only at h4 h5
      subst h4
      refine ⟨e',k',dx,xs++zs,eM.2 ⟨zs,rfl,h5⟩,?_,h3⟩
      rw[gF] at h2 ⊢
      exact ⟨(gF.1 h2.1).1,h2.2⟩
     ·rintro ⟨e',k',dx,xs',h1,h2,h3⟩
      obtain ⟨zs,h4,h5⟩:=eM.1 h1
      simp only at h4 h5
      subst h4
      refine ⟨e',k',dx,xs++[⟨d,e,h,v⟩]++zs,eM.2 ⟨zs,rfl,h5⟩,?_,h3⟩
      rw[gF] at h2 ⊢
      refine ⟨gF.2 ⟨h2.1,?_,trivial⟩,h2.2⟩
      obtain ⟨ks,hk⟩:=uV h1
      simp only at hk
      rw[hk];exact iJ ks
    ·simp only[hc,aca,if_false]
theorem KU (v:V) (h':Hp) (d:GD) (ds:List GD) (e:Env) (h:Hp) (hs:List Hp) (xs:List dP) (Q:bV):wpL cf base (some (v,h')) d ds e h hs xs Q=if d.g.op.cg=true then Aj cf base ds (e.put d.g.dst v) h' (hs++[h]) xs Q else if d.calm hs.length=true then Aj cf base ds (e.put d.g.dst v) h hs xs Q else Aj cf base ds (e.put d.g.dst v) h hs (xs++[⟨d,e,h,v⟩]) Q:=rfl
end
def Ns (e:Env) (h:Hp):Rs→Option V
 | .t n=> some (e n)
 | .cell n g=>(r9 h g (e n)).map (·.1)
def er (e:Env) (h:Hp):List Rs→Option (List V)
 | []=> some []
 | r::rs=> match Ns e h r,er e h rs with | some v,some vs=> some (v::vs) | _,_=> none
theorem uW {fr:Fr} {h:Hp}:∀ {rs:List Rs},kH fr h rs=er (view fr) h rs
 | []=> rfl
 | r::rs=> by
   have:M3 fr h r=Ns (view fr) h r:=by cases r <;> rfl
   simp only[kH,er,this,uW]
   rfl
def Nt (r:Option V) (n:Nat) (h:Hp) (q:V×Hp):Prop:=
 match r with
 | some v=> q=(v,h.take n)
 | none=> False
def FC (r:Option (List V)) (n:Nat) (h:Hp) (q:V×Hp):Prop:=
 match r with
 | some vs=> Nt (bE n h (o5 vs)) n h q
 | none=> False
def Cq (r:Option (List V)) (h:Hp) (q:V×Hp):Prop:=
 match r with
 | some vs=> q=(o5 vs,h)
 | none=> False
def FD (r:Option (List V)) (h:Hp) (Q:V→Hp→Prop):Prop:=
 match r with
 | some vs=> Q (o5 vs) h
 | none=> False
def Nu (res:List Rs) (n:Nat) (q:V×Hp):bV
 | .exit _,_,_=> False
 | _,e,h=> FC (er e h res) n h q
def KV (res:List Rs) (q:V×Hp):bV
 | .exit _,_,_=> False
 | _,e,h=> Cq (er e h res) h q
theorem D5 (F:Fn) (args:List V):view (ml F args)=e0 args:=by
 funext t
 simp only[view,ml,e0,ade,List.getElem?_append]
 split
 ·rfl
 ·rename_i ht
  rw[acB (ael ht),aer]
  split <;> rfl
theorem D6 {F:Fn} {args:List V} (h:args.length≤F.nt):(ml F args).length=F.nt:=by simp[ml];omega
theorem Zm {cf:Nat→CF} {base nt:Nat} {B:C} {res:List Rs} {args:List V} {h:Hp} {q:V×Hp} (hn:args.length≤nt) (hf:B.fits nt=true) (hw:wp (cf h.length) h.length B (e0 args) h (Nu res h.length q)):
 kU cf base ⟨nt,B,res,true⟩ args h=some q:=by
 obtain ⟨ex,e',h',hx,hq⟩:=hw
 rw[←D5 ⟨nt,B,res,true⟩] at hx
 obtain ⟨fr',h1,h2,h3⟩:=wV (D6 hn) hf hx
 unfold kU
 simp only[if_true,h1]
 have key:FC (er e' h' res) h.length h' q→(match kH fr' h' res with
  | some vs=> match bE h.length h' (o5 vs) with
    | some v=> some (v,h'.take h.length)
    | none=> none
  | none=> none)=some q:=by
   intro hq
   rw[uW,h3]
   unfold FC Nt at hq
   split at hq
   ·rename_i vs qb
    split at hq
    ·rw[hq]
    ·cases hq
   ·cases hq
 cases ex with
 | exit i=> exact hq.elim
 | normal=> exact key hq
 | ret=> exact key hq
theorem Zn {cf:Nat→CF} {base nt:Nat} {B:C} {res:List Rs} {args:List V} {h:Hp} {q:V×Hp} (hn:args.length≤nt) (hf:B.fits nt=true) (hw:wp (cf base) base B (e0 args) h (KV res q)):
 kU cf base ⟨nt,B,res,false⟩ args h=some q:=by
 obtain ⟨ex,e',h',hx,hq⟩:=hw
 rw[←D5 ⟨nt,B,res,false⟩] at hx
 obtain ⟨fr',h1,h2,h3⟩:=wV (D6 hn) hf hx
 unfold kU
 simp only[h1,aca,if_false]
 have key:Cq (er e' h' res) h' q→(match kH fr' h' res with
  | some vs=> some (o5 vs,h')
  | none=> none)=some q:=by
   intro hq
   rw[uW,h3]
   unfold Cq at hq
   split at hq
   ·rw[hq]
   ·cases hq
 cases ex with
 | exit i=> exact hq.elim
 | normal=> exact key hq
 | ret=> exact key hq
section
variable {fns : Nat → Option Fn} {pr : CF} {f base nt : Nat} {B : C} {res : List Rs} {args : List V} {h : Hp} {q : V × Hp}
theorem aR (hF:fns f=some ⟨nt,B,res,true⟩) (hf:B.fits nt=true) (hn:args.length≤nt) (hw:wp (run fns pr h.length) h.length B (e0 args) h (Nu res h.length q)):run fns pr base f args h=some q:=by
 rw[run_eq fns pr hF];exact Zm hn hf hw
theorem runN (hF:fns f=some ⟨nt,B,res,false⟩) (hf:B.fits nt=true) (hn:args.length≤nt) (hw:wp (run fns pr base) base B (e0 args) h (KV res q)):run fns pr base f args h=some q:=by
 rw[run_eq fns pr hF];exact Zn hn hf hw
def Tt (res:List Rs) (Q:V→Hp→Prop):bV
 | .exit _,_,_=> False
 | _,e,h=> FD (er e h res) h Q
theorem eV (hF:fns f=some ⟨nt,B,res,false⟩) (hf:B.fits nt=true) (hn:args.length≤nt) {Q:V→Hp→Prop} (hw:wp (run fns pr base) base B (e0 args) h (Tt res Q)):∃v h',run fns pr base f args h=some (v,h')∧Q v h':=by
 obtain ⟨ex,e',h',hx,hq⟩:=hw
 have key:∀(ex:Ex),ex= .normal∨ex= .ret→dd (run fns pr base) base B (e0 args) h=some (ex,e',h')→FD (er e' h' res) h' Q→∃v h',run fns pr base f args h=some (v,h')∧Q v h':=by
   intro ex he hx hq
   unfold FD at hq
   split at hq
   ·rename_i vs qb
    refine ⟨o5 vs,h',runN hF hf hn ⟨ex,e',h',hx,?_⟩,hq⟩
    rcases he with rfl | rfl <;> simp only[KV,qb,Cq]
   ·exact hq.elim
 cases ex with
 | exit i=> exact hq.elim
 | normal=> exact key _ (.inl rfl) hx hq
 | ret=> exact key _ (.inr rfl) hx hq
end
end Go.Vm
namespace Go.Vm
theorem abh (e:Env) (n:Nat):X.on e (.t n)=e n:=rfl
theorem abi (e:Env) (v:V):X.on e (.c v)=v:=rfl
theorem Zo (e:Env) (t:Nat) (v:V) (n:Nat):Env.up e t v n=if n=t then v else e n:=rfl
theorem KW (e:Env) (t:Nat) (v:V):Env.put e (some t) v=e.up t v:=rfl
theorem KX (e:Env) (v:V):Env.put e none v=e:=rfl
theorem Zp (args:List V) (n:Nat):e0 args n=args.getD n (.bM []):=rfl
theorem Cr (e:Env):rO e none=some true:=rfl
theorem Cs (e:Env) (t:Nat) (b:Bool):rO e (some (t,b))=uU (e t) b:=rfl
theorem Ct (c b:Bool):uU (.s (.bool c)) b=some (c==b):=rfl
theorem FE (b:Bool):uU (.bM []) b=some false:=rfl
def Nv (a b:Option (List Int)) (neg:Bool) (h:Hp):Option (V×Hp):=
 match a,b with
 | some a,some b=> jM (.bool (if neg then !(a==b) else a==b)) h
 | _,_=> none
theorem vE (a b:List Int) (neg:Bool) (h:Hp):Nv (some a) (some b) neg h=some (.s (.bool (if neg=true then !decide (a=b) else decide (a=b))),h):=by
 simp only[Nv,jM,ab1]
def faR (v:Option V) (t i id:Nat) (p:List Nat) (az:Nat) (h:Hp):Option (V×Hp):=
 match v with
 | some (.st t' fs)=> if t'=t∧i < fs.length then some (.ptr id (p++[i]) az,h) else none
 | _=> none
theorem KY (t t' i id:Nat) (p:List Nat) (az:Nat) (h:Hp) (fs:List V):faR (some (.st t' fs)) t i id p az h=if t'=t∧i < fs.length then some (.ptr id (p++[i]) az,h) else none:=rfl
def Zq (v:Option V) (t:Nat) (i:Int) (id:Nat) (p:List Nat) (az:Nat) (h:Hp):Option (V×Hp):=
 match v with
 | some (.arr t' es)=> if t'=t∧0≤i∧i < es.length then some (.ptr id (p++[i.toNat]) az,h) else none
 | _=> none
theorem FF (t t':Nat) (i:Int) (id:Nat) (p:List Nat) (az:Nat) (h:Hp) (es:List V):Zq (some (.arr t' es)) t i id p az h=if t'=t∧0≤i∧i < es.length then some (.ptr id (p++[i.toNat]) az,h) else none:=rfl
def Zr (r:Option (List V)) (g:Option Nat) (i:Int) (id:Nat) (p:List Nat) (g':Option Nat) (off len az:Nat) (h:Hp):Option (V×Hp):=
 match r with
 | some es=> if g'=g∧0≤i∧i < len∧off+i.toNat < es.length then some (.ptr id (p++[off+i.toNat]) az,h) else none
 | none=> none
theorem FG (es:List V) (g:Option Nat) (i:Int) (id:Nat) (p:List Nat) (g':Option Nat) (off len az:Nat) (h:Hp):Zr (some es) g i id p g' off len az h=if g'=g∧0≤i∧i < len∧off+i.toNat < es.length then some (.ptr id (p++[off+i.toNat]) az,h) else none:=rfl
def ldR (v:Option V) (g:Option Nat) (h:Hp):Option (V×Hp):=
 match v with
 | some v=> if v.ty=g then some (v,h) else none
 | none=> none
theorem KZ (v:V) (g:Option Nat) (h:Hp):ldR (some v) g h=if v.ty=g then some (v,h) else none:=rfl
def Zs (v:Option V) (h':Option Hp) (g:Option Nat) (base id:Nat) (y:V):Option (V×Hp):=
 match v with
 | some v=> if v.ty=g∧y.ty=g∧y.aw=true∧bS base id y=true then h'.map fun h'=>(.bM [],h') else none
 | none=> none
theorem FH (v:V) (h':Hp) (g:Option Nat) (base id:Nat) (y:V):Zs (some v) (some h') g base id y=if v.ty=g∧y.ty=g∧y.aw=true∧bS base id y=true then some (.bM [],h') else none:=rfl
def Nw (es:Option (List V)) (g:Option Nat) (h:Hp):Option (V×Hp):=
 match es with
 | some es=> if es.isEmpty then some (.aq true g [],h) else some (.ref h.length [] g 0 es.length es.length,h++[.cells g es])
 | none=> none
theorem vD (e:V) (es:List V) (g:Option Nat) (h:Hp):Nw (some (e::es)) g h=some (.ref h.length [] g 0 (e::es).length (e::es).length,h++[.cells g (e::es)]):=rfl
def FI (b:Option aT) (g:Option Nat) (id n:Nat) (h:Hp):Option (V×Hp):=
 match b with
 | some (.cells g' es)=> if es.length=n∧g=g' then some (.aq false g' es,h.set id .dead) else none
 | some (.lit g' es)=> if es.length=n∧g=g' then some (.aq true g' es,h.set id .dead) else none
 | _=> none
theorem Cu (g:Option Nat) (es:List V) (id n:Nat) (h:Hp):FI (some (.cells g es)) g id n h=if es.length=n then some (.aq false g es,h.set id .dead) else none:=by simp[FI]
theorem K0 (g:Option Nat) (es:List V) (id n:Nat) (h:Hp):FI (some (.lit g es)) g id n h=if es.length=n then some (.aq true g es,h.set id .dead) else none:=by simp[FI]
def Zt (es:Option (List V)) (g:Option Nat) (h:Hp):Option (V×Hp):=
 match es with
 | some []=> none
 | some (e::es)=> some (.ref h.length [] g 0 (e::es).length (e::es).length,h++[.lit g (e::es)])
 | none=> none
theorem FJ (e:V) (es:List V) (g:Option Nat) (h:Hp):Zt (some (e::es)) g h=some (.ref h.length [] g 0 (e::es).length (e::es).length,h++[.lit g (e::es)]):=rfl
def Zu (b:Option aT) (id:Nat) (h:Hp):Option (V×Hp):=
 match b with
 | some (.gu s pos)=>
   if pos < s.size then some (.bM [.s (.bool true),.s (.int .i64 pos),.s (.int .i32 (Utf8.decode s pos).1)],h.set id (.gu s (pos+(Utf8.decode s pos).2)))
   else some (.bM [.s (.bool false)],h)
 | _=> none
theorem FK (s:ByteArray) (pos id:Nat) (h:Hp):Zu (some (.gu s pos)) id h=if pos < s.size then some (.bM [.s (.bool true),.s (.int .i64 pos),.s (.int .i32 (Utf8.decode s pos).1)],h.set id (.gu s (pos+(Utf8.decode s pos).2))) else some (.bM [.s (.bool false)],h):=rfl
def K3 (b:Option aT) (i:Nat) (p:List Nat) (az:Nat):Option V:=
 match b with
 | some (.cells _ es)=> if es.length=az then (es[i]?).bind (nodeAt p) else none
 | _=> none
theorem Nx (h:Hp) (id i:Nat) (p:List Nat) (az:Nat):node h id (i::p) az=K3 h[id]? i p az:=by
 unfold node rowOf K3
 cases h[id]? with
 | none=> rfl
 | some b=>
   cases b with
   | cells g es=>
     by_cases ht:es.length=az
     ·simp only[ht,if_true];cases es[i]? <;> rfl
     ·simp only[ht,if_false]
   | gu=> rfl
   | map=> rfl
   | lit=> rfl
   | dead=> rfl
theorem Cv (g:Option Nat) (es:List V) (i:Nat) (p:List Nat) (az:Nat):K3 (some (.cells g es)) i p az=if es.length=az then (es[i]?).bind (nodeAt p) else none:=rfl
theorem Cw (v:V):nodeAt [] v=some v:=by cases v <;> rfl
theorem FL (i:Nat) (p:List Nat) (t:Nat) (fs:List V):nodeAt (i::p) (.st t fs)=(fs[i]?).bind (nodeAt p):=by
 simp only[nodeAt];cases fs[i]? <;> rfl
theorem Cx (i:Nat) (p:List Nat) (t:Nat) (fs:List V):nodeAt (i::p) (.arr t fs)=(fs[i]?).bind (nodeAt p):=by
 simp only[nodeAt];cases fs[i]? <;> rfl
theorem FM (y v:V):putAt y [] v=some y:=by cases v <;> rfl
theorem K4 (y:V) (i:Nat) (p:List Nat) (t:Nat) (fs:List V):putAt y (i::p) (.st t fs)=(fs[i]?).bind fun v=>(putAt y p v).map fun v'=> .st t (fs.set i v'):=by
 simp only[putAt];cases fs[i]? <;> rfl
theorem FN (y:V) (i:Nat) (p:List Nat) (t:Nat) (fs:List V):putAt y (i::p) (.arr t fs)=(fs[i]?).bind fun v=>(putAt y p v).map fun v'=> .arr t (fs.set i v'):=by
 simp only[putAt];cases fs[i]? <;> rfl
def Cy (b:Option aT) (h:Hp) (id i:Nat) (p:List Nat) (az:Nat) (y:V):Option Hp:=
 match b with
 | some (.cells g es)=> if es.length=az then (es[i]?).bind fun v=>(putAt y p v).map fun v'=> h.set id (.cells g (es.set i v')) else none
 | _=> none
theorem K5 (h:Hp) (id i:Nat) (p:List Nat) (az:Nat) (y:V):store h id (i::p) az y=Cy h[id]? h id i p az y:=by
 unfold store rowOf Cy
 cases h[id]? with
 | none=> rfl
 | some b=>
   cases b with
   | cells g es=>
     by_cases ht:es.length=az
     ·simp only[ht,if_true];cases es[i]? <;> rfl
     ·simp only[ht,if_false]
   | gu=> rfl
   | map=> rfl
   | lit=> rfl
   | dead=> rfl
theorem An (g:Option Nat) (es:List V) (h:Hp) (id i:Nat) (p:List Nat) (az:Nat) (y:V):Cy (some (.cells g es)) h id i p az y=if es.length=az then (es[i]?).bind fun v=>(putAt y p v).map fun v'=> h.set id (.cells g (es.set i v')) else none:=rfl
def Zv (b:Option aT) (az:Nat):Option (Option Nat×List V):=
 match b with
 | some (.cells g es)=> if es.length=az then some (g,es) else none
 | _=> none
theorem K6 (h:Hp) (id az:Nat):rowOf h id az=Zv h[id]? az:=rfl
theorem FO (g:Option Nat) (es:List V) (az:Nat):Zv (some (.cells g es)) az=if es.length=az then some (g,es) else none:=rfl
theorem FP (h:Hp) (id az:Nat):rowAt h id [] az=(rowOf h id az).map (·.2):=rfl
def Tu :Option V→Option (List V)
 | some (.arr _ es)=> some es
 | _=> none
theorem oQ (h:Hp) (id i:Nat) (p:List Nat) (az:Nat):rowAt h id (i::p) az=Tu (node h id (i::p) az):=by
 simp only[rowAt,Tu];rfl
theorem qo (t:Nat) (es:List V):Tu (some (.arr t es))=some es:=rfl
def XF (k:IntKind) (a b:Int):Int:=k.wrap (BitVec.ofInt k.bits a &&& BitVec.ofInt k.bits b).toNat
def orI (k:IntKind) (a b:Int):Int:=k.wrap (BitVec.ofInt k.bits a ||| BitVec.ofInt k.bits b).toNat
def Mb (k:IntKind) (a b:Int):Int:=k.wrap (BitVec.ofInt k.bits a ^^^ BitVec.ofInt k.bits b).toNat
def xa (k:IntKind) (a b:Int):Int:=k.wrap (a * 2 ^(min b.toNat k.bits))
def sN (k:IntKind) (a b:Int):Int:=a.fdiv (2 ^(min b.toNat k.bits))
section
variable (cf : CF) (base : Nat) (h : Hp)
theorem Cz (e:Env) (d:Option Nat) (o:O) (xs:List X):eU cf base e h ⟨d,o,xs,none⟩=aD cf base h o (xs.map (X.on e)):=rfl
theorem abj (x:V):aD cf base h .mv [x]=some (x,h):=rfl
theorem Tv (c:Bool) (a b:V):aD cf base h .pick [.s (.bool c),a,b]=some (if c=true then a else b,h):=rfl
theorem Tw (f:Nat) (xs:List V):aD cf base h (.call f) xs=cf f xs h:=rfl
theorem Ny (f:Nat) (cap xs:List V):aD cf base h .mD (.fn f cap::xs)=cf f (xs++cap) h:=rfl
theorem Zw (f:Nat) (xs:List V):aD cf base h (.mkf f) xs=some (.fn f xs,h):=rfl
theorem Zx :aD cf base h .nop []=some (.bM [],h):=rfl
theorem Zy (g:Option Nat) (x:V) (h1:x.ty=g) (h2:x.aw=true):aD cf base h (.fzp g) [x]=some (.dR x,h):=by simp[aD,rA,h1,h2]
theorem lq (f:Nat) (xs:List V):aD cf base h (.eB f) xs=uj (cf f xs h) h:=rfl
theorem fq (v:V) (h:Hp):uj (some (v,h)) h=some (v,h):=by simp[uj]
def Zz (es:Option (List V)) (g:Option Nat) (h:Hp):Option (V×Hp):=
 match es with
 | some es=> some (.aq true g es,h)
 | none=> none
theorem FQ (es:List V) (g:Option Nat) (h:Hp):Zz (some es) g h=some (.aq true g es,h):=rfl
theorem ZA (g:Option Nat) (zero:List V) (places:List Nat) (xs:List V):aD cf base h (.uY g zero places) xs=if places.length=xs.length then Zz (bK zero (places.zip xs)) g h else none:=by
 simp only[aD,uk]
 split
 ·cases bK zero (places.zip xs)<;> rfl
 ·rfl
theorem ZC (b:Bool):aD cf base h (.un .not) [.s (.bool b)]=some (.s (.bool !b),h):=rfl
theorem j1 (op:BinOp) (k:IntKind) (a b:Int) (hs:op≠ .shl∧op≠ .shr):aD cf base h (.bin .num op) [.s (.int k a),.s (.int k b)]=(js op k a b).bind (jM · h):=by
 cases op <;> simp_all [aD,kN,vi]
theorem ZD (k:IntKind) (a b:Int):aD cf base h (.bin .num .add) [.s (.int k a),.s (.int k b)]=some (.s (.int k (k.wrap (a+b))),h):=by rw[j1 _ _ _ _ _ _ _ (by simp)];rfl
theorem ZE (k:IntKind) (a b:Int):aD cf base h (.bin .num .sub) [.s (.int k a),.s (.int k b)]=some (.s (.int k (k.wrap (a - b))),h):=by rw[j1 _ _ _ _ _ _ _ (by simp)];rfl
theorem ZF (k:IntKind) (a b:Int):aD cf base h (.bin .num .mul) [.s (.int k a),.s (.int k b)]=some (.s (.int k (k.wrap (a * b))),h):=by rw[j1 _ _ _ _ _ _ _ (by simp)];rfl
theorem CT (k:IntKind) (a b:Int) (hb:b≠0):aD cf base h (.bin .num .quo) [.s (.int k a),.s (.int k b)]=some (.s (.int k (k.wrap (a.tdiv b))),h):=by rw[j1 _ _ _ _ _ _ _ (by simp)];simp[js,hb,jM]
theorem qY (k:IntKind) (a b:Int) (hb:b≠0):aD cf base h (.bin .num .rem) [.s (.int k a),.s (.int k b)]=some (.s (.int k (a.tmod b)),h):=by rw[j1 _ _ _ _ _ _ _ (by simp)];simp[js,hb,jM]
theorem ZG (k:IntKind) (a b:Int):aD cf base h (.bin .num .and) [.s (.int k a),.s (.int k b)]=some (.s (.int k (XF k a b)),h):=by rw[j1 _ _ _ _ _ _ _ (by simp)];rfl
theorem abk (k:IntKind) (a b:Int):aD cf base h (.bin .num .or) [.s (.int k a),.s (.int k b)]=some (.s (.int k (orI k a b)),h):=by rw[j1 _ _ _ _ _ _ _ (by simp)];rfl
theorem ZH (k:IntKind) (a b:Int):aD cf base h (.bin .num .xor) [.s (.int k a),.s (.int k b)]=some (.s (.int k (Mb k a b)),h):=by rw[j1 _ _ _ _ _ _ _ (by simp)];rfl
theorem ZI (k:IntKind) (a b:Int):aD cf base h (.bin .num .eql) [.s (.int k a),.s (.int k b)]=some (.s (.bool (decide (a=b))),h):=by rw[j1 _ _ _ _ _ _ _ (by simp)];simp[js,jM];rfl
theorem ZJ (k:IntKind) (a b:Int):aD cf base h (.bin .num .neq) [.s (.int k a),.s (.int k b)]=some (.s (.bool (!decide (a=b))),h):=by rw[j1 _ _ _ _ _ _ _ (by simp)];simp[js,jM];rfl
theorem ZK (k:IntKind) (a b:Int):aD cf base h (.bin .num .lss) [.s (.int k a),.s (.int k b)]=some (.s (.bool (decide (a < b))),h):=by rw[j1 _ _ _ _ _ _ _ (by simp)];rfl
theorem ZL (k:IntKind) (a b:Int):aD cf base h (.bin .num .leq) [.s (.int k a),.s (.int k b)]=some (.s (.bool (decide (a≤b))),h):=by rw[j1 _ _ _ _ _ _ _ (by simp)];rfl
theorem ZM (k:IntKind) (a b:Int):aD cf base h (.bin .num .gtr) [.s (.int k a),.s (.int k b)]=some (.s (.bool (decide (b < a))),h):=by rw[j1 _ _ _ _ _ _ _ (by simp)];rfl
theorem ZN (k:IntKind) (a b:Int):aD cf base h (.bin .num .geq) [.s (.int k a),.s (.int k b)]=some (.s (.bool (decide (b≤a))),h):=by rw[j1 _ _ _ _ _ _ _ (by simp)];rfl
theorem yH (k k':IntKind) (a b:Int) (hb:0≤b):aD cf base h (.bin .num .shl) [.s (.int k a),.s (.int k' b)]=some (.s (.int k (xa k a b)),h):=by
 have:¬b < 0:=by omega
 simp[aD,kN,vi,m8,this,jM,xa]
theorem sR (k k':IntKind) (a b:Int) (hb:0≤b):aD cf base h (.bin .num .shr) [.s (.int k a),.s (.int k' b)]=some (.s (.int k (sN k a b)),h):=by
 have:¬b < 0:=by omega
 simp[aD,kN,vi,m8,this,jM,sN]
theorem Tx (a b:ByteArray) (hl:a.size+b.size≤9223372036854775807):aD cf base h (.bin .num .add) [.s (.string a),.s (.string b)]=some (.s (.string (a++b)),h):=by simp[aD,kN,vi,qC,hl,jM]
theorem K7 (a b:ByteArray):aD cf base h (.bin .num .eql) [.s (.string a),.s (.string b)]=some (.s (.bool (decide (a=b))),h):=by
 have:(a.toList==b.toList)=decide (a=b):=by
   rw[Bool.eq_iff_iff]
   simp only[beq_iff_eq,decide_eq_true_eq]
   constructor
   ·intro hh
    apply ByteArray.ext
    apply adK
    rw[ByteArray.toList_eq,ByteArray.toList_eq] at hh
    exact hh
   ·rintro rfl;rfl
 simp[aD,kN,vi,qC,jM,this]
theorem Ty (a b:ByteArray):aD cf base h (.bin .num .neq) [.s (.string a),.s (.string b)]=some (.s (.bool (!decide (a=b))),h):=by
 have:=K7 cf base h a b
 simp only[aD,kN,vi,qC,jM,adn,Option.some.injEq,Prod.mk.injEq,V.s.injEq,Value.bool.injEq,and_true] at this ⊢
 rw[this]
theorem Tz (a b:Bool):aD cf base h (.bin .tru .eql) [.s (.bool a),.s (.bool b)]=some (.s (.bool (a==b)),h):=rfl
theorem TA (a b:Bool):aD cf base h (.bin .tru .neq) [.s (.bool a),.s (.bool b)]=some (.s (.bool !(a==b)),h):=rfl
theorem K8 :aD cf base h (.bin .ptr .eql) [.s (.pointer none),.s (.pointer none)]=some (.s (.bool true),h):=rfl
theorem K9 (id:Nat) (p:List Nat) (t:Nat):aD cf base h (.bin .ptr .eql) [.ptr id p t,.s (.pointer none)]=some (.s (.bool false),h):=rfl
theorem La :aD cf base h (.bin .ptr .neq) [.s (.pointer none),.s (.pointer none)]=some (.s (.bool false),h):=rfl
theorem Lb (id:Nat) (p:List Nat) (t:Nat):aD cf base h (.bin .ptr .neq) [.ptr id p t,.s (.pointer none)]=some (.s (.bool true),h):=rfl
theorem ZO (id:Nat) (p:List Nat) (t:Nat):aD cf base h .bL [.ptr id p t]=some (.ptr id p t,h):=rfl
theorem TB (v:V):aD cf base h .bL [.dR v]=some (.dR v,h):=rfl
theorem TC (f:Nat) (c:List V):aD cf base h .bL [.fn f c]=some (.fn f c,h):=rfl
theorem ZP (t i:Nat) (fs:List V):aD cf base h (.fld t i) [.st t fs]=(fs[i]?).map fun v=>(v,h):=by simp[aD,uc]
theorem TD (g:Option Nat):aD cf base h (.jg g [] []) []=some (.aq true g [],h):=rfl
theorem bH (x:V) (n:Nat) (hn:eN x=some n):aD cf base h .len [x]=some (.s (.int .i64 n),h):=by simp[aD,uf,hn,jM]
theorem qt (full:Bool) (g:Option Nat) (es:List V):aD cf base h .len [.aq full g es]=some (.s (.int .i64 es.length),h):=rfl
theorem TE (id:Nat) (p:List Nat) (g:Option Nat) (off len az:Nat):aD cf base h .len [.ref id p g off len az]=some (.s (.int .i64 len),h):=rfl
theorem TF (s:ByteArray):aD cf base h .E3 [.s (.string s)]=some (.s (.int .i64 s.size),h):=rfl
theorem ZQ (k k':IntKind) (n:Int):aD cf base h (.gI k) [.s (.int k' n)]=some (.s (.int k (k.wrap n)),h):=rfl
theorem ZR (t:Nat) (x:V):aD cf base h (.mki t) [x]=some (.iface t x,h):=rfl
theorem ZS (i:Nat) (vs:List V):aD cf base h (.ext i) [.bM vs]=(vs[i]?).map fun v=>(v,h):=rfl
theorem ZT (k k':IntKind) (a b:Int):aD cf base h .min [.s (.int k a),.s (.int k' b)]=some (.s (.int k (min a b)),h):=by
 simp only[aD,uh,jM]
 have:(if b < a then b else a)=min a b:=by split <;> omega
 simp[this]
theorem ZU (k k':IntKind) (a b:Int):aD cf base h .max [.s (.int k a),.s (.int k' b)]=some (.s (.int k (max a b)),h):=by
 simp only[aD,uh,jM]
 have:(if b > a then b else a)=max a b:=by split <;> omega
 simp[this]
theorem TH (s:ByteArray):aD cf base h (.s2b true) [.s (.string s)]=some (.aq false none (dL s),h):=rfl
theorem ZV (s:ByteArray):aD cf base h .rng [.s (.string s)]=some (.ptr h.length [] 0,h++[.gu s 0]):=rfl
theorem OW (t:Nat) (k:IntKind) (neg:Bool) (xs ys:List V):aD cf base h (.wX t k neg) [.arr t xs,.arr t ys]=Nv (ints k xs) (ints k ys) neg h:=by
 simp only[aD,tZ,and_self,if_true,Nv];rfl
theorem Bf (t i id:Nat) (p:List Nat) (az:Nat):aD cf base h (.fa t i) [.ptr id p az]=faR (node h id p az) t i id p az h:=rfl
theorem ZW (t i:Nat) (fs:List V):aD cf base h (.fa t i) [.dR (.st t fs)]=(fs[i]?).map fun v=>(.dR v,h):=by simp[aD,E4]
theorem ZX (t:Nat) (k:IntKind) (i:Int) (id:Nat) (p:List Nat) (az:Nat):aD cf base h (.kG t) [.ptr id p az,.s (.int k i)]=Zq (node h id p az) t i id p az h:=rfl
theorem TI (t:Nat) (k:IntKind) (i:Int) (es:List V):aD cf base h (.kG t) [.dR (.arr t es),.s (.int k i)]=if 0≤i∧i < es.length then (es[i.toNat]?).map fun v=>(.dR v,h) else none:=by simp[aD,wb,numOf]
theorem cZ (g:Option Nat) (k:IntKind) (i:Int) (id:Nat) (p:List Nat) (g':Option Nat) (off len az:Nat):aD cf base h (.dz g) [.ref id p g' off len az,.s (.int k i)]=Zr (rowAt h id p az) g i id p g' off len az h:=rfl
theorem Lc (g:Option Nat) (k:IntKind) (i:Int) (full:Bool) (es:List V):aD cf base h (.dz g) [.aq full g es,.s (.int k i)]=if 0≤i then (es[i.toNat]?).map fun v=>(.dR v,h) else none:=by simp[aD,wc,numOf]
theorem ZY (t:Nat) (k:IntKind) (i:Int) (es:List V):aD cf base h (.idx t) [.arr t es,.s (.int k i)]=if 0≤i then (es[i.toNat]?).map fun v=>(v,h) else none:=by simp[aD,rl,numOf]
theorem TJ (k:IntKind) (i:Int) (s:ByteArray):aD cf base h .E2 [.s (.string s),.s (.int k i)]=if 0≤i then (s.data.toList[i.toNat]?).map fun b=>(aa b,h) else none:=by
 simp only[aD,o3,numOf]
 have:s[i.toNat]? =s.data.toList[i.toNat]? :=by
   rw[adA];rfl
 rw[this]
 cases s.data.toList[i.toNat]? <;> rfl
theorem iA (g:Option Nat) (id:Nat) (p:List Nat) (az:Nat):aD cf base h (.ld g) [.ptr id p az]=ldR (node h id p az) g h:=rfl
theorem ZZ (v:V) (g:Option Nat):aD cf base h (.ld g) [.dR v]=ldR (some v) g h:=rfl
theorem Z0 (g:Option Nat) (id:Nat) (p:List Nat) (az:Nat) (y:V):aD cf base h (.aP g) [.ptr id p az,y]=Zs (node h id p az) (store h id p az y) g base id y:=rfl
theorem Z1 (g:Option Nat) (x:V):aD cf base h (.box g) [x]=if x.ty=g∧x.aw=true then some (.ptr h.length [0] 1,h++[.cells g [x]]) else none:=rfl
theorem Z2 (g:Option Nat) (x:V):aD cf base h (.dj g x) []=if x.ty=g∧x.aw=true then some (.ptr h.length [0] 1,h++[.cells g [x]]) else none:=rfl
theorem TK (t:Nat) (zero:List V) (places:List Nat) (xs:List V):aD cf base h (.cG t zero places) xs=if places.length=xs.length then (bK zero (places.zip xs)).map fun fs=>(.st t fs,h) else none:=by cases xs <;> rfl
theorem TL (t:Nat) (zero:List V) (places:List Nat) (xs:List V):aD cf base h (.gJ t zero places) xs=if places.length=xs.length then (bK zero (places.zip xs)).map fun fs=>(.arr t fs,h) else none:=by cases xs <;> rfl
theorem Z3 (g:Option Nat) (zero:List V) (places:List Nat) (xs:List V):aD cf base h (.jg g zero places) xs=if places.length=xs.length then Nw (bK zero (places.zip xs)) g h else none:=by cases xs <;> rfl
theorem Z4 (g:Option Nat) (id n:Nat):aD cf base h .pe [.ref id [] g 0 n n]=FI h[id]? g id n h:=by
 simp only[aD,we,JT,rowOf,FI]
 cases h[id]? with
 | none=> rfl
 | some b=>
   cases b with
   | cells g' es=> by_cases c:es.length=n <;> simp[c,eq_comm]
   | lit g' es=> by_cases c:es.length=n <;> simp[c]
   | map=> rfl
   | gu=> rfl
   | dead=> rfl
theorem Z5 (g:Option Nat) (zero:List V) (places:List Nat) (xs:List V):aD cf base h (.bsx g zero places) xs=if places.length=xs.length then Zt (bK zero (places.zip xs)) g h else none:=by
 simp only[aD,ue]
 split
 ·cases bK zero (places.zip xs) with
  | none=> rfl
  | some es=> cases es <;> rfl
 ·rfl
theorem Z6 (g:Option Nat) (zero:V) (k k':IntKind) (n:Int):aD cf base h (.mks g zero) [.s (.int k n),.s (.int k' n)]=if 0≤n∧n≤16777216 then (if n=0 then some (.aq true g [],h) else some (.ref h.length [] g 0 n.toNat n.toNat,h++[.cells g (List.replicate n.toNat zero)])) else none:=by
 simp[aD,wj,numOf]
theorem Z7 (t t':Nat) (ok:Bool) (zero y:V):aD cf base h (.tas t ok zero) [.iface t' y]=if t'=t then some (if ok=true then .bM [y,.s (.bool true)] else y,h) else if ok=true then some (.bM [zero,.s (.bool false)],h) else none:=rfl
theorem Z8 (id:Nat):aD cf base h .nxt [.ptr id [] 0]=Zu h[id]? id h:=rfl
theorem D7 (g:Option Nat) (bytes:Nat) (x y:V):aD cf base h (.app g bytes) [x,y]=(source h y).bind fun r=> cW base g bytes h x r.1 r.2:=rfl
theorem XP (g:Option Nat) (x y:V):aD cf base h (.cpy g) [x,y]=(source h y).bind fun r=> rk base g h x r.1 r.2:=rfl
end
theorem abl (x:Value):(V.s x).ty=none:=(rfl)
theorem TM (a:Nat) (b:List Nat) (c:Nat):(V.ptr a b c).ty=none:=(rfl)
theorem TN (a:Nat) (b:List Nat) (g:Option Nat) (c d e:Nat):(V.ref a b g c d e).ty=none:=(rfl)
theorem TO (f:Bool) (g:Option Nat) (es:List V):(V.aq f g es).ty=none:=(rfl)
theorem Nz (v:V):(V.dR v).ty=none:=(rfl)
theorem Ld (t:Nat) (v:V):(V.iface t v).ty=none:=(rfl)
theorem Z9 (t:Nat) (v:List V):(V.fn t v).ty=none:=(rfl)
theorem aaa (t:Nat) (fs:List V):(V.st t fs).ty=some t:=(rfl)
theorem oP (t:Nat) (fs:List V):(V.arr t fs).ty=some t:=(rfl)
theorem NA (x:Value):(V.s x).aw=true:=(rfl)
theorem FR (a:Nat) (b:List Nat) (c:Nat):(V.ptr a b c).aw=true:=(rfl)
theorem FT (a:Nat) (b:List Nat) (g:Option Nat) (c d e:Nat):(V.ref a b g c d e).aw=true:=(rfl)
theorem FU (f:Bool) (g:Option Nat) (es:List V):(V.aq f g es).aw=true:=(rfl)
theorem CA (v:V):(V.dR v).aw=true:=(rfl)
theorem Ao (t:Nat) (v:V):(V.iface t v).aw=true:=(rfl)
theorem Le (t:Nat) (v:List V):(V.fn t v).aw=true:=(rfl)
theorem Lf (t:Nat) (fs:List V):(V.st t fs).aw=true:=(rfl)
theorem FV (t:Nat) (fs:List V):(V.arr t fs).aw=true:=(rfl)
theorem Lg (h:Hp) (g:Option Nat) (id:Nat) (p:List Nat) (az:Nat):r9 h g (.ptr id p az)=ldR (node h id p az) g h:=rfl
theorem FW (h:Hp) (g:Option Nat) (v:V):r9 h g (.dR v)=ldR (some v) g h:=rfl
theorem wrap_u8 {n:Int} (h0:0≤n) (h1:n < 256):IntKind.u8.wrap n=n:=IntWalk.u8_in n (by omega)
theorem wrap_u32 {n:Int} (h0:0≤n) (h1:n < 4294967296):IntKind.u32.wrap n=n:=IntWalk.u32_in n (by omega)
theorem wrap_u64 {n:Int} (h0:0≤n) (h1:n < 18446744073709551616):IntKind.u64.wrap n=n:=IntWalk.u64_in n (by omega)
theorem wrap_i64 {n:Int} (h0: -9223372036854775808≤n) (h1:n < 9223372036854775808):IntKind.i64.wrap n=n:=IntWalk.i64_in n (by omega)
theorem TP :(O.mv).cg=false:=rfl
theorem Lh :(O.mv).indep=true:=rfl
theorem Li :(O.pick).cg=false:=rfl
theorem CB :(O.pick).indep=true:=rfl
theorem NB (c:Cl) (o:BinOp):(O.bin c o).cg=false:=rfl
theorem FX (c:Cl) (o:BinOp):(O.bin c o).indep=true:=rfl
theorem CX (g:Option Nat) (n:Nat) (z:V):(O.apz g n z).cg=true:=rfl
theorem NC :O.cap.cg=false:=rfl
theorem FY :O.cap.indep=true:=rfl
theorem ND (t:Nat) (g:Option Nat) (n:Nat):(O.s2a t g n).cg=true:=rfl
theorem NF (t:Nat) (k:List LK) (n:Bool):(O.eqs t k n).cg=false:=rfl
theorem FZ (t:Nat) (k:List LK) (n:Bool):(O.eqs t k n).indep=true:=rfl
theorem NG (t:Nat) (k:IntKind) (n:Bool):(O.wX t k n).cg=false:=rfl
theorem F0 (t:Nat) (k:IntKind) (n:Bool):(O.wX t k n).indep=true:=rfl
theorem TQ (o:UnOp):(O.un o).cg=false:=rfl
theorem Lj (o:UnOp):(O.un o).indep=true:=rfl
theorem NH :(O.bL).cg=false:=rfl
theorem Ga :(O.bL).indep=true:=rfl
theorem TS (t i:Nat):(O.fa t i).cg=false:=rfl
theorem Lk (t i:Nat):(O.fa t i).indep=false:=rfl
theorem NI (t i:Nat):(O.fld t i).cg=false:=rfl
theorem Gb (t i:Nat):(O.fld t i).indep=true:=rfl
theorem NJ (t:Nat):(O.kG t).cg=false:=rfl
theorem Gc (t:Nat):(O.kG t).indep=false:=rfl
theorem NK (g:Option Nat):(O.dz g).cg=false:=rfl
theorem Gd (g:Option Nat):(O.dz g).indep=false:=rfl
theorem NL (t:Nat):(O.idx t).cg=false:=rfl
theorem Ge (t:Nat):(O.idx t).indep=true:=rfl
theorem Ll :(O.E2).cg=false:=rfl
theorem CC :(O.E2).indep=true:=rfl
theorem TT (g:Option Nat):(O.ld g).cg=false:=rfl
theorem Lm (g:Option Nat):(O.ld g).indep=false:=rfl
theorem NM (g:Option Nat):(O.aP g).cg=true:=rfl
theorem NN (g:Option Nat):(O.box g).cg=true:=rfl
theorem NO (g:Option Nat) (z:V):(O.dj g z).cg=true:=rfl
theorem Ln (t:Nat) (z:List V) (p:List Nat):(O.cG t z p).cg=false:=rfl
theorem CD (t:Nat) (z:List V) (p:List Nat):(O.cG t z p).indep=true:=rfl
theorem Lo (t:Nat) (z:List V) (p:List Nat):(O.gJ t z p).cg=false:=rfl
theorem CE (t:Nat) (z:List V) (p:List Nat):(O.gJ t z p).indep=true:=rfl
theorem NP :(O.pe).cg=true:=rfl
theorem NQ (g:Option Nat) (n:Nat):(O.apx g n).cg=true:=rfl
theorem NR (g:Option Nat) (z:List V) (p:List Nat):(O.bsx g z p).cg=true:=rfl
theorem NS (g:Option Nat) (z:V):(O.mks g z).cg=true:=rfl
theorem NT (g:Option Nat) (a b c:Bool):(O.j2 g a b c).cg=false:=rfl
theorem Gf (g:Option Nat) (a b c:Bool):(O.j2 g a b c).indep=false:=rfl
theorem NU (t:Nat) (g:Option Nat) (a b:Bool):(O.mC t g a b).cg=false:=rfl
theorem Gg (t:Nat) (g:Option Nat) (a b:Bool):(O.mC t g a b).indep=false:=rfl
theorem NV (a b:Bool):(O.sls a b).cg=false:=rfl
theorem Gh (a b:Bool):(O.sls a b).indep=true:=rfl
theorem NW :(O.len).cg=false:=rfl
theorem Gi :(O.len).indep=true:=rfl
theorem Lp :(O.E3).cg=false:=rfl
theorem CG :(O.E3).indep=true:=rfl
theorem NX (g:Option Nat) (n:Nat):(O.app g n).cg=true:=rfl
theorem NY (g:Option Nat):(O.cpy g).cg=true:=rfl
theorem NZ (g:Option Nat) (z:V):(O.clr g z).cg=true:=rfl
theorem Oa (k:IntKind):(O.gI k).cg=false:=rfl
theorem Gj (k:IntKind):(O.gI k).indep=true:=rfl
theorem Ob :(O.Eb).cg=false:=rfl
theorem Oc {b:Bool}:(O.r2s b).cg=false:=rfl
theorem Gk {b:Bool}:(O.r2s b).indep=false:=rfl
theorem Gl :(O.Eb).indep=false:=rfl
theorem Od (t:Nat):(O.mki t).cg=false:=rfl
theorem Gm (t:Nat):(O.mki t).indep=true:=rfl
theorem Oe (t:Nat) (o:Bool) (z:V):(O.tas t o z).cg=false:=rfl
theorem Gn (t:Nat) (o:Bool) (z:V):(O.tas t o z).indep=true:=rfl
theorem Of (i:Nat):(O.ext i).cg=false:=rfl
theorem Gp (i:Nat):(O.ext i).indep=true:=rfl
theorem Og :(O.min).cg=false:=rfl
theorem Gq :(O.min).indep=true:=rfl
theorem Oh :(O.max).cg=false:=rfl
theorem Gs :(O.max).indep=true:=rfl
theorem Oi :(O.rng).cg=true:=rfl
theorem Oj :(O.nxt).cg=true:=rfl
theorem Lq (f:Nat):(O.call f).cg=true:=rfl
theorem Gt :(O.mD).cg=true:=rfl
theorem Ok (f:Nat):(O.mkf f).cg=false:=rfl
theorem Gu (f:Nat):(O.mkf f).indep=true:=rfl
theorem Lr (g:Option Nat) (p:List Nat):(O.jg g [] p).cg=false:=rfl
theorem CH (g:Option Nat) (p:List Nat):(O.jg g [] p).indep=false:=rfl
theorem Ol (g:Option Nat) (z:V) (zs:List V) (p:List Nat):(O.jg g (z::zs) p).cg=true:=rfl
theorem Om :(O.nop).cg=false:=rfl
theorem Gv :(O.nop).indep=true:=rfl
theorem On (g:Option Nat):(O.fzp g).cg=false:=rfl
theorem Gw (g:Option Nat):(O.fzp g).indep=true:=rfl
theorem gU (f:Nat):(O.eB f).cg=false:=rfl
theorem eC (f:Nat):(O.eB f).indep=false:=rfl
theorem Oo (g:Option Nat) (z:List V) (p:List Nat):(O.uY g z p).cg=false:=rfl
theorem Gx (g:Option Nat) (z:List V) (p:List Nat):(O.uY g z p).indep=true:=rfl
theorem Oq {cf:CF} {base:Nat} {e:Env} {h:Hp} (d:Option Nat) (o:Vm.O) (xs:List X) (t:Nat) (b:Bool) (hw:uU (e t) b=some true):eU cf base e h ⟨d,o,xs,some (t,b)⟩=aD cf base h o (xs.map (X.on e)):=by
 unfold eU rO;simp only[hw]
theorem Ot {cf:CF} {base:Nat} {e:Env} {h:Hp} (d:Option Nat) (o:Vm.O) (xs:List X) (t:Nat) (b:Bool) (hw:uU (e t) b=some false):eU cf base e h ⟨d,o,xs,some (t,b)⟩=some (.bM [],h):=by
 unfold eU rO;simp only[hw]
theorem Ou (l:Bool):(O.s2b l).cg= !l:=rfl
theorem Gy (l:Bool):(O.s2b l).indep=l:=rfl
def Aq (I:Nat→Env→Hp→Prop) (n:Nat) (Q:bV):bV
 | .normal,e,h=>∃m,m < n∧I m e h
 | ex,e,h=> Q ex e h
theorem yn (I:Nat→Env→Hp→Prop) (n:Nat) (Q:bV) (e:Env) (h:Hp):Aq I n Q .normal e h=∃m,m < n∧I m e h:=rfl
theorem Gz (I:Nat→Env→Hp→Prop) (n:Nat) (Q:bV) (e:Env) (h:Hp):Aq I n Q .ret e h=Q .ret e h:=rfl
theorem CI (I:Nat→Env→Hp→Prop) (n:Nat) (Q:bV) (i:Nat) (e:Env) (h:Hp):Aq I n Q (.exit i) e h=Q (.exit i) e h:=rfl
theorem Ls {cf:CF} {base:Nat} {a:C} {Q:bV} (I:Nat→Env→Hp→Prop) (step:∀n e h,I n e h→wp cf base a e h (Aq I n Q)):∀(n:Nat) (e:Env) (h:Hp),I n e h→wp cf base (.loop a) e h Q:=by
 intro n
 induction n using Nat.strongRecOn with
 | ind n ih=>
   intro e h hi
   rw[wp_loop]
   refine wp_mono _ _ (step n e h hi) fun ex e' h' hq=> ?_
   cases ex with
   | normal=> obtain ⟨m,hm,xT⟩:=hq;exact ih m hm e' h' xT
   | exit i=> exact hq
   | ret=> exact hq
def Lt (M:Env→Hp→Prop) (K:bV):bV
 | .normal,e,h=> M e h
 | ex,e,h=> K ex e h
theorem Ar (M:Env→Hp→Prop) (K:bV) (e:Env) (h:Hp):Lt M K .normal e h=M e h:=rfl
theorem Lu (M:Env→Hp→Prop) (K:bV) (e:Env) (h:Hp):Lt M K .ret e h=K .ret e h:=rfl
theorem GB (M:Env→Hp→Prop) (K:bV) (i:Nat) (e:Env) (h:Hp):Lt M K (.exit i) e h=K (.exit i) e h:=rfl
theorem CJ {i:Nat} {M:Env→Hp→Prop} {K:bV} (h2:∀e' h',M e' h'→K .normal e' h') {ex:Ex} {e:Env} {h:Hp} (hq:jH i (Lt M K) ex e h):jH i K ex e h:=by
 cases ex with
 | normal=> exact h2 _ _ hq
 | exit j=>
   rw[rQ] at hq ⊢
   split
   ·rename_i hj;rw[if_pos hj] at hq;exact h2 _ _ hq
   ·rename_i hj;rw[if_neg hj] at hq;exact hq
 | ret=> exact hq
theorem bw {cf:CF} {base:Nat} {a:C} {i:Nat} {K:bV} (I:Nat→Env→Hp→Prop) (M:Env→Hp→Prop) (n:Nat) (e:Env) (h:Hp) (init:I n e h)
 (step:∀n e h,I n e h→wp cf base a e h (Aq I n (jH i (Lt M K)))) (rest:∀e h,M e h→K .normal e h):wp cf base (.loop a) e h (jH i K):=
 wp_mono _ _ (Ls I step n e h init) fun _ _ _ hq=> CJ rest hq
theorem Lv (res:List Rs) (n:Nat) (q:V×Hp) (e:Env) (h:Hp):Nu res n q .ret e h=FC (er e h res) n h q:=rfl
theorem As (res:List Rs) (n:Nat) (q:V×Hp) (e:Env) (h:Hp):Nu res n q .normal e h=FC (er e h res) n h q:=rfl
theorem Lx (res:List Rs) (q:V×Hp) (e:Env) (h:Hp):KV res q .ret e h=Cq (er e h res) h q:=rfl
theorem At (res:List Rs) (q:V×Hp) (e:Env) (h:Hp):KV res q .normal e h=Cq (er e h res) h q:=rfl
theorem Ly (res:List Rs) (Q:V→Hp→Prop) (e:Env) (h:Hp):Tt res Q .ret e h=FD (er e h res) h Q:=rfl
theorem Au (res:List Rs) (Q:V→Hp→Prop) (e:Env) (h:Hp):Tt res Q .normal e h=FD (er e h res) h Q:=rfl
theorem GC (vs:List V) (h:Hp) (Q:V→Hp→Prop):FD (some vs) h Q=Q (o5 vs) h:=rfl
theorem GF (vs:List V) (n:Nat) (h:Hp) (q:V×Hp):FC (some vs) n h q=Nt (bE n h (o5 vs)) n h q:=rfl
theorem GG (v:V) (n:Nat) (h:Hp) (q:V×Hp):Nt (some v) n h q=(q=(v,h.take n)):=rfl
theorem GH (vs:List V) (h:Hp) (q:V×Hp):Cq (some vs) h q=(q=(o5 vs,h)):=rfl
theorem GI (e:Env) (h:Hp):er e h []=some []:=rfl
theorem Ov (e:Env) (h:Hp) (n:Nat) (rs:List Rs):er e h (.t n::rs)=(er e h rs).map (e n:: ·):=by
 simp only[er,Ns];cases er e h rs <;> rfl
theorem CK (e:Env) (h:Hp) (n:Nat) (g:Option Nat) (rs:List Rs):er e h (.cell n g::rs)=(r9 h g (e n)).bind fun r=>(er e h rs).map (r.1:: ·):=by
 simp only[er,Ns];cases r9 h g (e n)<;> cases er e h rs <;> rfl
theorem LA :o5 []= .bM []:=rfl
theorem LB (v:V):o5 [v]=v:=rfl
theorem LC (v w:V) (vs:List V):o5 (v::w::vs)= .bM (v::w::vs):=rfl
def V.plain :V→Bool
 | .s _=> true
 | .aq f _ es=> !f && all es
 | .st _ fs=> all fs
 | .arr _ es=> all es
 | .bM vs=> all vs
 | .iface _ v=> v.plain
 | _=> false
where all:List V→Bool
  | []=> true
  | v::vs=> v.plain && all vs
theorem kT (n:Nat) (h:Hp):∀(v:V),v.plain=true→bE n h v=some v:=by
 intro v
 induction v using V.rec (motive_2:=fun vs=> V.plain.all vs=true→bE.all n h vs=some vs) with
 | s x=> intro _;simp[bE,V.low]
 | aq f g es ih=>
   intro hp
   simp only[V.plain,abY,aed] at hp
   simp only[bE,ih hp.2,hp.1];rfl
 | st t fs ih=> intro hp;simp only[V.plain] at hp;simp only[bE,ih hp];rfl
 | arr t es ih=> intro hp;simp only[V.plain] at hp;simp only[bE,ih hp];rfl
 | bM vs ih=> intro hp;simp only[V.plain] at hp;simp only[bE,ih hp];rfl
 | iface t v ih=> intro hp;simp only[V.plain] at hp;simp only[bE,ih hp];rfl
 | nil=> rfl
 | cons v vs h1 h2=>
   rename_i hp
   simp only[V.plain.all,abY] at hp
   simp only[bE.all,h1 hp.1,h2 hp.2]
 | _=> intro hp;simp[V.plain] at hp
theorem jd :∀(v:V),v.plain=true→v.ground=true:=by
 intro v
 induction v using V.rec (motive_2:=fun vs=> V.plain.all vs=true→V.ground.all vs=true) with
 | s x=> intro _;rfl
 | aq f g es ih=> intro hp;simp only[V.plain,abY] at hp;exact ih hp.2
 | st t fs ih=> intro hp;exact ih hp
 | arr t es ih=> intro hp;exact ih hp
 | bM vs ih=> intro hp;exact ih hp
 | iface t v ih=> intro hp;exact ih hp
 | nil=> rfl
 | cons v vs h1 h2=>
   rename_i hp
   simp only[V.plain.all,abY] at hp
   simp only[V.ground.all,h1 hp.1,h2 hp.2,ae0]
 | _=> intro hp;simp[V.plain] at hp
theorem Ow (x:Value):(V.s x).plain=true:=(rfl)
theorem GJ (g:Option Nat) (es:List V):(V.aq false g es).plain=V.plain.all es:=(rfl)
theorem LF (t:Nat) (fs:List V):(V.st t fs).plain=V.plain.all fs:=(rfl)
theorem GK (t:Nat) (fs:List V):(V.arr t fs).plain=V.plain.all fs:=(rfl)
theorem GL (fs:List V):(V.bM fs).plain=V.plain.all fs:=(rfl)
theorem Av (t:Nat) (v:V):(V.iface t v).plain=v.plain:=(rfl)
theorem GM :V.plain.all []=true:=(rfl)
theorem tq (v:V) (vs:List V):V.plain.all (v::vs)=(v.plain && V.plain.all vs):=(rfl)
theorem kF {vs:List V}:V.plain.all vs=true↔∀v∈vs,v.plain=true:=by
 induction vs with
 | nil=> simp[V.plain.all]
 | cons v vs ih=> simp[V.plain.all,ih]
theorem GN {α:Type} (f:α→V) (hf:∀x,(f x).plain=true) (l:List α):V.plain.all (l.map f)=true:=by
 rw[kF];intro v hv;obtain ⟨x,_,rfl⟩:=acW.1 hv;exact hf x
theorem wW (n:Nat):∀(v:V),v.plain=true→v.low n=true:=by
 intro v
 induction v using V.rec (motive_2:=fun vs=> V.plain.all vs=true→V.low.all n vs=true) with
 | s x=> intro _;rfl
 | aq f g es ih=> intro hp;simp only[V.plain,abY] at hp;exact ih hp.2
 | st t fs ih=> intro hp;exact ih hp
 | arr t es ih=> intro hp;exact ih hp
 | bM vs ih=> intro hp;exact ih hp
 | iface t v ih=> intro hp;exact ih hp
 | nil=> rfl
 | cons v vs h1 h2=>
   rename_i hp
   simp only[V.plain.all,abY] at hp
   simp only[V.low.all,h1 hp.1,h2 hp.2,ae0]
 | _=> intro hp;simp[V.plain] at hp
theorem Ox (n:Nat) (h:Hp) (id:Nat) (g:Option Nat) (off len az:Nat) (es:List V) (hid:n≤id) (hg:h[id]? =some (.cells g es)) (ht:es.length=az) (hl:off+len≤az) (hp:V.plain.all es=true):
 bE n h (.ref id [] g off len az)=some (.aq false g ((es.drop off).take len)):=by
 have h1:¬id < n:=by omega
 have h2:V.low.all n ((es.drop off).take len)=true:=by
   rw[kF] at hp
   have:∀ {vs:List V},(∀v∈vs,v.plain=true)→V.low.all n vs=true:=by
     intro vs
     induction vs with
     | nil=> intro _;rfl
     | cons v vs ih=> intro hv;simp only[V.low.all,wW n v (hv v (by simp)),ih (fun x hx=> hv x (by simp[hx])),ae0]
   exact this fun v hv=> hp v (acw (acd hv))
 simp[bE,h1,rowOf,hg,ht,hl,h2]
theorem D8 (n:Nat) (h:Hp) (id:Nat) (g:Option Nat) (len:Nat) (es:List V) (hid:n≤id) (hg:h[id]? =some (.cells g es)) (ht:es.length=len) (hp:V.plain.all es=true):
 bE n h (.ref id [] g 0 len len)=some (.aq false g es):=by
 rw[Ox n h id g 0 len len es hid hg ht (by omega) hp]
 simp[←ht]
theorem D9 (n:Nat) (h:Hp) (f:Bool) (g:Option Nat) (es:List V) (hp:V.plain.all es=true):bE n h (.aq f g es)=some (.aq false g es):=by
 have:=kT n h (.aq false g es) (by simpa[V.plain] using hp)
 simpa[bE] using this
theorem aab (n:Nat) (h:Hp) (x:Value):bE n h (.s x)=some (.s x):=by simp[bE,V.low]
theorem Oy (n:Nat) (h:Hp) (vs:List V):bE n h (.bM vs)=(bE.all n h vs).map V.bM:=by simp only[bE]
theorem TU (n:Nat) (h:Hp) (t:Nat) (vs:List V):bE n h (.st t vs)=(bE.all n h vs).map (V.st t):=by simp only[bE]
theorem Oz (n:Nat) (h:Hp) (t:Nat) (vs:List V):bE n h (.arr t vs)=(bE.all n h vs).map (V.arr t):=by simp only[bE]
theorem GO (n:Nat) (h:Hp) (t:Nat) (v:V):bE n h (.iface t v)=(bE n h v).map (V.iface t):=by simp only[bE]
theorem sV (n:Nat) (h:Hp):bE.all n h []=some []:=by simp only[bE.all]
theorem qh (n:Nat) (h:Hp) (v:V) (vs:List V):bE.all n h (v::vs)=(bE n h v).bind fun v'=>(bE.all n h vs).map (v':: ·):=by
 simp only[bE.all];cases bE n h v <;> cases bE.all n h vs <;> rfl
theorem CL (b:UInt8):(aa b).plain=true:=(rfl)
theorem cH (l:List UInt8):V.plain.all (l.map aa)=true:=GN _ CL l
theorem jN (l:List UInt8):bytesOf (l.map aa)=some l:=by
 induction l with
 | nil=> rfl
 | cons b l ih=>
   simp only[ab7,aa,bytesOf]
   rw[ih]
   simp
theorem CP (cf:CF) (base:Nat) (h:Hp) (x:V) (g:Option Nat) (l:List UInt8) (hx:elems h x=some (g,l.map aa)):aD cf base h .Eb [x]=some (.s (.string ⟨l.toArray⟩),h):=by
 simp[aD,wq,hx,jN,jM]
theorem GP (h:Hp) (id:Nat) (g:Option Nat) (off len az:Nat) (es:List V) (hg:h[id]? =some (.cells g es)) (ht:es.length=az):elems h (.ref id [] g off len az)=some (g,(es.drop off).take len):=by
 simp[elems,rowAt,rowOf,hg,ht]
theorem aJ (h t:Hp) (k:Nat):(h++t)[h.length+k]? =t[k]? :=by
 rw[acb (by omega)];simp
theorem aO (h t:Hp):(h++t)[h.length]? =t[0]? :=by
 rw[acb (by omega)];simp
theorem q10z {h:Hp} {id:Nat} {b:aT} (hg:h[id]? =some b) (t:Hp):(h++t)[id]? =some b:=by
 have:=(abW.1 hg).1
 rw[acI this];exact hg
theorem bA (h t:Hp) (k:Nat) (b:aT):(h++t).set (h.length+k) b=h++t.set k b:=by
 rw[acF _ _ (by omega)];simp
theorem mJ (h t:Hp) (b:aT):(h++t).set h.length b=h++t.set 0 b:=by
 rw[acF _ _ (by omega)];simp
theorem nD {h:Hp} {id:Nat} (hid:id < h.length) (t:Hp) (b:aT):(h++t).set id b=h.set id b++t:=by
 rw[aeg _ _ hid]
theorem LG (h t:Hp):(h++t).take h.length=h:=by simp
theorem q6z {h:Hp} {id:Nat} {b:aT} (hg:h[id]? =some b):id < h.length:=(abW.1 hg).1
end Go.Vm
namespace Go.Vm
def SR (h:Hp) (x:V) (g:Option Nat) (vs:List V):Prop:=
 (∃f,x= .aq f g vs)∨∃id off az es,x= .ref id [] g off vs.length az∧h[id]? =some (.cells g es)∧es.length=az∧off+vs.length≤az∧(es.drop off).take vs.length=vs
def BR (h:Hp) (x:V) (l:List UInt8):Prop:=
 (∃f,x= .aq f none (l.map aa))∨∃(id off:Nat) (bl:List UInt8),x= .ref id [] none off l.length bl.length∧h[id]? =some (.cells none (bl.map aa))∧off+l.length≤bl.length∧(bl.drop off).take l.length=l
theorem BR.sr {h:Hp} {x:V} {l:List UInt8} (hb:BR h x l):SR h x none (l.map aa):=by
 rcases hb with ⟨f,rfl⟩ | ⟨id,off,bl,rfl,h1,h2,h3⟩
 ·exact .inl ⟨f,rfl⟩
 ·exact .inr ⟨id,off,bl.length,bl.map aa,by simp,h1,by simp,by simpa using h2,by rw[acf,←List.map_drop,←List.map_take,h3]⟩
structure Fw (S:List Nat) (h h':Hp):Prop where
 len:h.length≤h'.length
 cw:∀(j:Nat) (b:aT),h[j]? =some b→j∉S→h'[j]? =some b
 byt:∀(j:Nat) (l:List UInt8),h[j]? =some (.cells none (l.map aa))→h'[j]? =some (.cells none (l.map aa))
theorem Fw.refl (S:List Nat) (h:Hp):Fw S h h:=⟨ab0 _,fun _ _ h _=> h,fun _ _ h=> h⟩
theorem Fw.trans {S:List Nat} {a b c:Hp} (h:Fw S a b) (k:Fw S b c):Fw S a c:=
 ⟨acE h.len k.len,fun j x hj hs=> k.cw j x (h.cw j x hj hs) hs,fun j es hj=> k.byt j es (h.byt j es hj)⟩
theorem Fw.mono {S T:List Nat} {a b:Hp} (h:Fw S a b) (hs:∀j∈S,j∈T):Fw T a b:=
 ⟨h.len,fun j x hj ht=> h.cw j x hj (fun hj'=> ht (hs j hj')),h.byt⟩
theorem Fw.new {S T:List Nat} {a b c:Hp} (h:Fw S a b) (k:Fw T b c) (ht:∀j∈T,a.length≤j∨j∈S):Fw S a c:=
 ⟨acE h.len k.len,fun j x hj hs=> k.cw j x (h.cw j x hj hs) (fun hj'=> by
   rcases ht j hj' with h1 | h1
   ·have:=q6z hj;omega
   ·exact hs h1),fun j es hj=> k.byt j es (h.byt j es hj)⟩
theorem Fw.app (S:List Nat) (h t:Hp):Fw S h (h++t):=
 ⟨by simp,fun j b hj _=> q10z hj t,fun j es hj=> q10z hj t⟩
theorem Fw.set {S:List Nat} {h:Hp} {id g:Nat} {es es':List V} (hid:id∈S) (hg:h[id]? =some (.cells (some g) es)):Fw S h (h.set id (.cells (some g) es')):=
 ⟨by simp,fun j b hj hs=> by
   have da:id≠j:=fun e=> by subst e;exact hs hid
   rw[ab3 da];exact hj,fun j es2 hj=> by
   have:id≠j:=fun e=> by subst e;rw[hg] at hj;cases hj
   rw[ab3 this];exact hj⟩
theorem Fw.bY {S:List Nat} {a b:Hp} (f:Fw S a b) {c:Nat} (hc:a.length≤c) (k:aT):Fw S a (b.set c k):=
 ⟨by simpa using f.len,fun j x hj hs=> by
   have:=q6z hj
   rw[ab3 (by omega)];exact f.cw j x hj hs,fun j es hj=> by
   have:=q6z hj
   rw[ab3 (by omega)];exact f.byt j es hj⟩
theorem Fw.XK {S:List Nat} {h:Hp} {id:Nat} {es:List V} {k:aT} (hid:id∈S) (hg:h[id]? =some (.cells none es)) (hn:∀l:List UInt8,es≠l.map aa):Fw S h (h.set id k):=
 ⟨by simp,fun j b hj hs=> by
   have da:id≠j:=fun e=> by subst e;exact hs hid
   rw[ab3 da];exact hj,fun j l hj=> by
   have:id≠j:=fun e=> by subst e;rw[hg] at hj;simp only[Option.some.injEq,aT.cells.injEq,true_and] at hj;exact hn l hj
   rw[ab3 this];exact hj⟩
theorem Fw.lt {S:List Nat} {h h':Hp} (f:Fw S h h') {j:Nat} (hj:j < h.length):j < h'.length:=adP hj f.len
theorem Fw.take {h h':Hp} (f:Fw [] h h'):h'.take h.length=h:=by
 apply acS
 intro j
 rw[ac7]
 split
 ·rename_i hj
  rw[abV hj]
  exact f.cw j _ (abV hj) (by simp)
 ·rename_i hj
  rw[acB (ael hj)]
theorem Fw.step {S:List Nat} {a b c:Hp} {i:Nat} (h:Fw S a b) (k:Fw [i] b c) (hi:a.length≤i):Fw S a c:=h.new k (by simp;exact .inl hi)
theorem q9z {h:Hp} {id:Nat} {b b':aT} (hg:h[id]? =some b'):(h.set id b)[id]? =some b:=by
 rw[ad2 (q6z hg)]
theorem BR.mono {S:List Nat} {h h':Hp} {x:V} {l:List UInt8} (hb:BR h x l) (f:Fw S h h'):BR h' x l:=by
 rcases hb with h1 | ⟨id,off,bl,h1,h2,h3,h4⟩
 ·exact .inl h1
 ·exact .inr ⟨id,off,bl,h1,f.byt _ _ h2,h3,h4⟩
theorem SR.len {h:Hp} {x:V} {g:Option Nat} {vs:List V} (hb:SR h x g vs):eN x=some vs.length:=by
 rcases hb with ⟨f,rfl⟩ | ⟨id,off,az,es,rfl,_⟩<;> rfl
theorem SR.elems {h:Hp} {x:V} {g:Option Nat} {vs:List V} (hb:SR h x g vs):elems h x=some (g,vs):=by
 rcases hb with ⟨f,rfl⟩ | ⟨id,off,az,es,rfl,h2,h3,h4,h5⟩
 ·rfl
 ·rw[GP h id g off _ az es h2 h3,h5]
theorem SR.ty {h:Hp} {x:V} {g:Option Nat} {vs:List V} (hb:SR h x g vs):x.ty=none:=by
 rcases hb with ⟨f,rfl⟩ | ⟨id,off,az,es,rfl,_⟩<;> rfl
theorem SR.aw {h:Hp} {x:V} {g:Option Nat} {vs:List V} (hb:SR h x g vs):x.aw=true:=by
 rcases hb with ⟨f,rfl⟩ | ⟨id,off,az,es,rfl,_⟩<;> rfl
theorem SR.src {h:Hp} {x:V} {g:Option Nat} {vs:List V} (hb:SR h x g vs):source h x=some (g,vs):=by
 have:=hb.elems
 rcases hb with ⟨f,rfl⟩ | ⟨id,off,az,es,rfl,_⟩<;> exact this
theorem BR.len {h:Hp} {x:V} {l:List UInt8} (hb:BR h x l):eN x=some l.length:=by
 have:=SR.len hb.sr;rwa [acf] at this
theorem BR.elems {h:Hp} {x:V} {l:List UInt8} (hb:BR h x l):elems h x=some (none,l.map aa):=hb.sr.elems
theorem BR.ty {h:Hp} {x:V} {l:List UInt8} (hb:BR h x l):x.ty=none:=hb.sr.ty
theorem BR.aw {h:Hp} {x:V} {l:List UInt8} (hb:BR h x l):x.aw=true:=hb.sr.aw
theorem BR.src {h:Hp} {x:V} {l:List UInt8} (hb:BR h x l):source h x=some (none,l.map aa):=hb.sr.src
theorem BR.bH {cf:CF} {base:Nat} {h0 h:Hp} {x:V} {l:List UInt8} (hb:BR h0 x l):aD cf base h .len [x]=some (.s (.int .i64 l.length),h):=Vm.bH cf base h x _ hb.len
theorem BR.CP {cf:CF} {base:Nat} {h:Hp} {x:V} {l:List UInt8} (hb:BR h x l):aD cf base h .Eb [x]=some (.s (.string ⟨l.toArray⟩),h):=Vm.CP cf base h x _ l hb.elems
theorem cm (h:Hp) (f:Bool) (l:List UInt8):BR h (.aq f none (l.map aa)) l:= .inl ⟨f,rfl⟩
theorem oX (h:Hp) (f:Bool):BR h (.aq f none []) []:= .inl ⟨f,rfl⟩
theorem lB {h:Hp} {id n:Nat} {g:Option Nat} {vs:List V} (hg:h[id]? =some (.cells g vs)) (hn:vs.length=n):SR h (.ref id [] g 0 n n) g vs:=
 .inr ⟨id,0,n,vs,by rw[hn],hg,hn,by omega,by simp⟩
theorem ck {h:Hp} {id n:Nat} {l:List UInt8} (hg:h[id]? =some (.cells none (l.map aa))) (hn:l.length=n):BR h (.ref id [] none 0 n n) l:=
 .inr ⟨id,0,l,by rw[hn],hg,by omega,by simp⟩
theorem SR.cut {h:Hp} {x:V} {g:Option Nat} {vs:List V} (hb:SR h x g vs) {l r:Nat} (h1:l≤r) (h2:r≤vs.length):∃y,dG h g x l r=some y∧SR h y g ((vs.drop l).take (r - l)):=by
 rcases hb with ⟨f,rfl⟩ | ⟨id,off,az,es,rfl,k2,k3,k4,k5⟩
 ·exact ⟨_,by simp[dG,h1,h2];rfl,.inl ⟨_,rfl⟩⟩
 ·have cy:rowAt h id [] az=some es:=by simp[rowAt,rowOf,k2,k3]
  by_cases hl:l=0∨l < r
  ·refine ⟨.ref id [] g (off+l) (r - l) az,by simp[dG,h1,h2,cy,hl],.inr ⟨id,off+l,az,es,?_,k2,k3,?_,?_⟩⟩
   ·have:((vs.drop l).take (r - l)).length=r - l:=by simp;omega
    rw[this]
   ·have:((vs.drop l).take (r - l)).length=r - l:=by simp;omega
    rw[this];omega
   ·have:((vs.drop l).take (r - l)).length=r - l:=by simp;omega
    rw[this]
    conv=> rhs;rw[←k5]
    rw[adi,acP,acU]
    congr 1
    omega
  ·refine ⟨.aq false g [],by simp[dG,h1,h2,cy,hl],.inl ⟨false,?_⟩⟩
   have:r - l=0:=by omega
   rw[this];simp
theorem SR.bH {cf:CF} {base:Nat} {h0 h:Hp} {x:V} {g:Option Nat} {vs:List V} (hb:SR h0 x g vs):aD cf base h .len [x]=some (.s (.int .i64 vs.length),h):=Vm.bH cf base h x _ hb.len
theorem SR.hi {h:Hp} {x:V} {g:Option Nat} {vs:List V} (hb:SR h x g vs) {k:IntKind} {r:Nat} (hr:r≤vs.length):∃y,(∀cf base,aD cf base h (.j2 g false true false) [x,.s (.int k r)]=some (y,h))∧SR h y g (vs.take r):=by
 obtain ⟨y,h1,h2⟩:=hb.cut (aeu r) hr
 refine ⟨y,fun cf base=> ?_,by simpa using h2⟩
 have h3:=hb.len
 simp only[aD,iE,h3,aU,cT]
 simp[h1]
theorem SR.lo {h:Hp} {x:V} {g:Option Nat} {vs:List V} (hb:SR h x g vs) {k:IntKind} {l:Nat} (hr:l≤vs.length):∃y,(∀cf base,aD cf base h (.j2 g true false false) [x,.s (.int k l)]=some (y,h))∧SR h y g (vs.drop l):=by
 obtain ⟨y,h1,h2⟩:=hb.cut hr (ab0 _)
 refine ⟨y,fun cf base=> ?_,by rw[abX (by simp)] at h2;exact h2⟩
 have h3:=hb.len
 simp only[aD,iE,h3,aU,cT]
 simp[h1]
theorem SR.both {h:Hp} {x:V} {g:Option Nat} {vs:List V} (hb:SR h x g vs) {k k':IntKind} {l r:Nat} (hl:l≤r) (hr:r≤vs.length):∃y,(∀cf base,aD cf base h (.j2 g true true false) [x,.s (.int k l),.s (.int k' r)]=some (y,h))∧SR h y g ((vs.drop l).take (r - l)):=by
 obtain ⟨y,h1,h2⟩:=hb.cut hl hr
 refine ⟨y,fun cf base=> ?_,h2⟩
 have h3:=hb.len
 simp only[aD,iE,h3,aU,cT]
 simp[h1]
theorem BR.cut {h:Hp} {x:V} {l:List UInt8} (hb:BR h x l) {a r:Nat} (h1:a≤r) (h2:r≤l.length):∃y,dG h none x a r=some y∧BR h y ((l.drop a).take (r - a)):=by
 have hlen:((l.drop a).take (r - a)).length=r - a:=by simp;omega
 rcases hb with ⟨f,rfl⟩ | ⟨id,off,bl,rfl,k2,k3,k4⟩
 ·exact ⟨_,by simp[dG,h1,h2];rfl,.inl ⟨_,by rw[aeb,List.map_drop]⟩⟩
 ·have cy:rowAt h id [] bl.length=some (bl.map aa):=by simp[rowAt,rowOf,k2]
  by_cases hl:a=0∨a < r
  ·refine ⟨.ref id [] none (off+a) (r - a) bl.length,by simp[dG,h1,h2,cy,hl],.inr ⟨id,off+a,bl,by rw[hlen],k2,by omega,?_⟩⟩
   rw[hlen]
   conv=> rhs;rw[←k4]
   rw[adi,acP,acU]
   congr 1
   omega
  ·refine ⟨.aq false none [],by simp[dG,h1,h2,cy,hl],.inl ⟨false,?_⟩⟩
   have:r - a=0:=by omega
   rw[this];simp
theorem BR.hi {h:Hp} {x:V} {l:List UInt8} (hb:BR h x l) {k:IntKind} {r:Nat} (hr:r≤l.length):∃y,(∀cf base,aD cf base h (.j2 none false true false) [x,.s (.int k r)]=some (y,h))∧BR h y (l.take r):=by
 obtain ⟨y,h1,h2⟩:=hb.cut (aeu r) hr
 refine ⟨y,fun cf base=> ?_,by simpa using h2⟩
 have h3:=hb.len
 simp only[aD,iE,h3,aU,cT]
 simp[h1]
theorem BR.lo {h:Hp} {x:V} {l:List UInt8} (hb:BR h x l) {k:IntKind} {r:Nat} (hr:r≤l.length):∃y,(∀cf base,aD cf base h (.j2 none true false false) [x,.s (.int k r)]=some (y,h))∧BR h y (l.drop r):=by
 obtain ⟨y,h1,h2⟩:=hb.cut hr (ab0 _)
 refine ⟨y,fun cf base=> ?_,by rw[abX (by simp)] at h2;exact h2⟩
 have h3:=hb.len
 simp only[aD,iE,h3,aU,cT]
 simp[h1]
theorem BR.both {h:Hp} {x:V} {l:List UInt8} (hb:BR h x l) {k k':IntKind} {a r:Nat} (ha:a≤r) (hr:r≤l.length):∃y,(∀cf base,aD cf base h (.j2 none true true false) [x,.s (.int k a),.s (.int k' r)]=some (y,h))∧BR h y ((l.drop a).take (r - a)):=by
 obtain ⟨y,h1,h2⟩:=hb.cut ha hr
 refine ⟨y,fun cf base=> ?_,h2⟩
 have h3:=hb.len
 simp only[aD,iE,h3,aU,cT]
 simp[h1]
def dF :List V→Hp→Option (V×Hp)
 | [x],h=> match elems h x with
   | some (none,es)=> if es=[] then some (.aq true none [],h) else if es.length≤140737488355328 then some (.ref h.length [] none 0 es.length es.length,h++[.cells none es]) else none
   | _=> none
 | _,_=> none
theorem qi {h:Hp} {x:V} {l:List UInt8} (he:elems h x=some (none,l.map aa)) (hl:l.length≤140737488355328):∃v t,dF [x] h=some (v,h++t)∧BR (h++t) v l∧(v= .aq true none []∧t=[]∧l=[]∨v= .ref h.length [] none 0 l.length l.length∧t=[.cells none (l.map aa)]):=by
 cases l with
 | nil=> exact ⟨.aq true none [],[],by simp[dF,he],oX _ _,.inl ⟨rfl,rfl,rfl⟩⟩
 | cons b l=>
   refine ⟨.ref h.length [] none 0 (b::l).length (b::l).length,[.cells none ((b::l).map aa)],?_,ck (by simp) rfl,.inr ⟨rfl,rfl⟩⟩
   simp only[dF,he]
   rw[if_neg (by simp),if_pos (by simpa using hl)]
   simp
theorem Jr {h:Hp} {x:V} {l:List UInt8} (hb:BR h x l) (hl:l.length≤140737488355328):∃v t,dF [x] h=some (v,h++t)∧BR (h++t) v l∧(v= .aq true none []∧t=[]∧l=[]∨v= .ref h.length [] none 0 l.length l.length∧t=[.cells none (l.map aa)]):=qi hb.elems hl
def cv (h:Hp) (l:List UInt8):V:=if l=[] then .aq true none [] else .ref h.length [] none 0 l.length l.length
def ct (l:List UInt8):Hp:=if l=[] then [] else [.cells none (l.map aa)]
theorem ql {h:Hp} {x:V} {l:List UInt8} (he:elems h x=some (none,l.map aa)) (hl:l.length≤140737488355328):dF [x] h=some (cv h l,h++ct l):=by
 obtain ⟨v,t,h1,_,h3⟩:=qi he hl
 rw[h1]
 rcases h3 with ⟨rfl,rfl,rfl⟩ | ⟨rfl,rfl⟩
 ·rfl
 ·by_cases he:l=[]
  ·exfalso;subst he;simp[dF,he] at h1
  ·simp[cv,ct,he]
theorem td {h:Hp} {x:V} {l:List UInt8} (hb:BR h x l) (hl:l.length≤140737488355328):dF [x] h=some (cv h l,h++ct l):=ql hb.elems hl
theorem RH {h h1:Hp} (hn:h1.length=h.length) (l:List UInt8):BR (h1++ct l) (cv h l) l:=by
 unfold cv ct
 split
 ·rename_i he;subst he;exact oX _ _
 ·rw[←hn];exact ck (by rw[aO];rfl) rfl
theorem OZ (h:Hp) (l:List UInt8):(cv h l).ty=none:=by unfold cv;split <;> rfl
theorem yY (h:Hp) (l:List UInt8):(cv h l).aw=true:=by unfold cv;split <;> rfl
theorem Mz (n:Nat) (h0 h1:Hp) (l:List UInt8) (hn:n≤h1.length) (hl:h1.length=h0.length):bE n (h1++ct l) (cv h0 l)=some (.aq false none (l.map aa)):=by
 unfold cv ct
 split
 ·rename_i he;subst he;rfl
 ·rw[←hl];exact D8 n _ _ none _ _ hn (by rw[aO];rfl) (by simp) (cH l)
section
variable {cf : CF} {base : Nat} {h : Hp} {g : Option Nat} {bytes : Nat} {y : V} {ys : List V}
theorem jo {x:V} {n:Nat} {gy:Option Nat} (hy:source h y=some (gy,[])) (hl:eN x=some n):aD cf base h (.app g bytes) [x,y]=some (x,h):=by
 simp[D7,hy,cW,hl]
theorem kP (hy:source h y=some (g,ys)) (da:ys≠[]) (hb:ys.length * bytes≤140737488355328):aD cf base h (.app g bytes) [.aq true g [],y]=some (.ref h.length [] g 0 ys.length ys.length,h++[.cells g ys]):=by
 simp[D7,hy,cW,da,hb]
theorem ta {id off len:Nat} {es:List V} (hg:h[id]? =some (.cells g es)) (hy:source h y=some (g,ys)) (da:ys≠[]) (hm:∀y∈ys,bS base id y=true) (hr:off+len+ys.length≤es.length):
 aD cf base h (.app g bytes) [.ref id [] g off len es.length,y]=some (.ref id [] g off (len+ys.length) es.length,h.set id (.cells g (es.take (off+len)++ys++es.drop (off+len+ys.length)))):=by
 have h1:rowOf h id es.length=some (g,es):=by simp[rowOf,hg]
 have h2:ys.all (bS base id)=true:=by simpa[ach] using hm
 simp only[D7,hy,adn,cW,da,if_false,if_true,h1,h2,true_and,and_self,hr]
theorem gS {id:Nat} {es:List V} (hg:h[id]? =some (.cells g es)) (hy:source h y=some (g,ys)) (da:ys≠[]) (hm:∀y∈ys,bS base id y=true) (hb:(es.length+ys.length)* bytes≤140737488355328):
 aD cf base h (.app g bytes) [.ref id [] g 0 es.length es.length,y]=some (.ref id [] g 0 (es.length+ys.length) (es.length+ys.length),h.set id (.cells g (es++ys))):=by
 have h1:rowOf h id es.length=some (g,es):=by simp[rowOf,hg]
 have h2:ys.all (bS base id)=true:=by simpa[ach] using hm
 have h3:¬(0+es.length+ys.length≤es.length):=by
   have:ys.length≠0:=by simpa using da
   omega
 simp only[D7,hy,adn,cW,da,if_false,if_true,h1,h2,true_and,and_self,h3,hb]
end
def LR (h:Hp) (g:Option Nat) (k:Nat) (x:V) (vs:List V):Prop:=
 (x= .aq true g []∧vs=[])∨∃es:List V,x= .ref k [] g 0 vs.length es.length∧h[k]? =some (.cells g es)∧es.take vs.length=vs∧vs.length≤es.length
theorem LR.sr {h:Hp} {g:Option Nat} {k:Nat} {x:V} {vs:List V} (hl:LR h g k x vs):SR h x g vs:=by
 rcases hl with ⟨rfl,rfl⟩ | ⟨es,rfl,h1,h2,h3⟩
 ·exact .inl ⟨true,rfl⟩
 ·exact .inr ⟨k,0,es.length,es,rfl,h1,rfl,by omega,by simpa using h2⟩
theorem LR.at' {h h':Hp} {g:Option Nat} {k:Nat} {x:V} {vs:List V} (hl:LR h g k x vs) (hk:∀b,h[k]? =some b→h'[k]? =some b):LR h' g k x vs:=by
 rcases hl with h1 | ⟨es,h0,h1,h2⟩
 ·exact .inl h1
 ·exact .inr ⟨es,h0,hk _ h1,h2⟩
theorem LR.push {h:Hp} {g:Option Nat} {k:Nat} {x:V} {vs:List V} (hl:LR h g k x vs) {base bytes:Nat} {y:V} {z:V} (hy:source h y=some (g,[z])) (hm:bS base k z=true) (hb:(vs.length+1)* bytes≤140737488355328):
 (∀cf,aD cf base h (.app g bytes) [x,y]=some (.ref h.length [] g 0 1 1,h++[.cells g [z]]))∧vs=[]∧x= .aq true g []∨
 ∃es es',h[k]? =some (.cells g es)∧(∀cf,aD cf base h (.app g bytes) [x,y]=some (.ref k [] g 0 (vs.length+1) es'.length,h.set k (.cells g es')))∧es'.take (vs.length+1)=vs++[z]∧vs.length+1≤es'.length∧(∃fs,es'=vs++z::fs):=by
 rcases hl with ⟨rfl,rfl⟩ | ⟨es,rfl,h1,h2,h3⟩
 ·exact .inl ⟨fun cf=> by rw[kP hy (by simp) (by simpa using hb)];rfl,rfl,rfl⟩
 ·refine .inr ⟨es,?_⟩
  by_cases hr:vs.length+1≤es.length
  ·refine ⟨es.take vs.length++[z]++es.drop (vs.length+1),h1,fun cf=> ?_,?_,?_,?_⟩
   ·rw[ta h1 hy (by simp) (by simpa using hm) (by simpa using hr)]
    simp only[abZ,acg,ac0,acj,acz,acs]
    rw[show min vs.length es.length+1+(es.length - (vs.length+1))=es.length by omega]
   ·rw[h2];exact aeM (l₁:=vs++[z]) (by simp)
   ·simp;omega
   ·exact ⟨es.drop (vs.length+1),by rw[h2];simp⟩
  ·have he:vs.length=es.length:=by omega
   have hv:es=vs:=by rw[←h2,abX (by omega)]
   subst hv
   refine ⟨es++[z],h1,fun cf=> ?_,abX (by rw[abZ];exact ab0 _),by rw[abZ];exact ab0 _,⟨[],rfl⟩⟩
   rw[gS h1 hy (by simp) (by simpa using hm) (by simpa using hb)]
   simp
theorem ba {l t:Hp} {n k:Nat} (hl:l.length=n):(l++t)[n+k]? =t[k]? :=by subst hl;exact aJ l t k
theorem aW {l t:Hp} {n:Nat} (hl:l.length=n):(l++t)[n]? =t[0]? :=by subst hl;exact aO l t
theorem bf {l t:Hp} {n k:Nat} {b:aT} (hl:l.length=n):(l++t).set (n+k) b=l++t.set k b:=by subst hl;exact bA l t k b
theorem aX {l t:Hp} {n:Nat} {b:aT} (hl:l.length=n):(l++t).set n b=l++t.set 0 b:=by subst hl;exact mJ l t b
theorem Ea (a:UInt8):BitVec.ofInt 8 (a.toNat:Int)=a.toBitVec:=by
 apply afa
 simp only[BitVec.toNat_ofInt]
 have:=a.toNat_lt
 simp[UInt8.toNat_toBitVec]
 omega
theorem u8_xor (a b:UInt8):Mb .u8 (a.toNat:Int) (b.toNat:Int)=((a ^^^ b).toNat:Int):=by
 show IntKind.u8.wrap ((BitVec.ofInt 8 (a.toNat:Int)^^^ BitVec.ofInt 8 (b.toNat:Int)).toNat:Int)=_
 rw[Ea,Ea]
 have h1:(a.toBitVec ^^^ b.toBitVec).toNat=(a ^^^ b).toNat:=by
   rw[←UInt8.toBitVec_xor,UInt8.toNat_toBitVec]
 rw[h1]
 have:=(a ^^^ b).toNat_lt
 exact wrap_u8 (by omega) (by omega)
end Go.Vm
namespace Go.Vm
theorem yo {α:Type} (f:α→V) (p:α→Prop):∀(es:List V),(∀x∈es,∃a,x=f a∧p a)→∃l:List α,es=l.map f∧∀a∈l,p a
 | [],_=>⟨[],rfl,fun a h=>(by cases h)⟩
 | x::es,h=> by
   obtain ⟨a,rfl,ha⟩:=h x (by simp)
   obtain ⟨l,rfl,hl⟩:=yo f p es (fun y hy=> h y (by simp[hy]))
   exact ⟨a::l,rfl,fun b hb=> by
     rcases acC.1 hb with rfl | hb
     ·exact ha
     ·exact hl b hb⟩
theorem Aw {es:List V} (h:∀x∈es,∃m,x= .s (.int .u8 m)∧IntKind.u8.min≤m∧m≤IntKind.u8.max):∃l:List UInt8,es=l.map aa:=by
 obtain ⟨l,h1,_⟩:=yo aa (fun _=> True) es (fun x hx=> by
   obtain ⟨m,rfl,h1,h2⟩:=h x hx
   have a:IntKind.u8.min=0:=rfl
   have b:IntKind.u8.max=255:=rfl
   rw[a] at h1;rw[b] at h2
   refine ⟨UInt8.ofNat m.toNat,?_,trivial⟩
   simp only[aa,aeo]
   congr 2
   omega)
 exact ⟨l,h1⟩
variable {P : Program} {n : Nat} {t e : TypeId} {v : V}
theorem of_int {k:IntKind} (h:bW P (n+1) t v) (hu:P.underlying t=some (.int k)):∃m,v= .s (.int k m)∧k.min≤m∧m≤k.max:=by
 rw[bW,hu] at h;exact h
theorem fk (h:bW P (n+1) t v) (hu:P.underlying t=some (.int .i64)):∃m,v= .s (.int .i64 m)∧ -9223372036854775808≤m∧m≤9223372036854775807:=of_int h hu
theorem mE (h:bW P (n+1) t v) (hu:P.underlying t=some (.int .u64)):∃m,v= .s (.int .u64 m)∧0≤m∧m≤18446744073709551615:=of_int h hu
theorem of_bool (h:bW P (n+1) t v) (hu:P.underlying t=some .bool):∃b,v= .s (.bool b):=by
 rw[bW,hu] at h;exact h
theorem of_slice {α:Type} {f:α→V} {p:α→Prop} {g:Option Nat} (h:bW P (n+1) t v) (hu:P.underlying t=some (.slice e)) (hg:aE P e=g) (he:∀x,bW P n e x→∃a,x=f a∧p a):
 ∃l:List α,v= .aq false g (l.map f)∧l.length * P.bytesOf e≤140737488351232∧∀a∈l,p a:=by
 rw[bW,hu] at h
 obtain ⟨es,rfl,h1,h2,h3⟩:=h
 obtain ⟨l,rfl,hl⟩:=yo f p es (fun x hx=> he x (h3 x hx))
 exact ⟨l,by rw[hg],by simpa using h1,hl⟩
theorem ph (h:bW P (n+2) t v) (hu:P.underlying t=some (.slice e)) (he:P.underlying e=some (.int .u8)) (hb:P.bytesOf e=1):∃l:List UInt8,v= .aq false none (l.map aa)∧l.length≤140737488351232:=by
 rw[bW,hu] at h
 obtain ⟨es,rfl,h1,h2,h3⟩:=h
 obtain ⟨l,rfl⟩:=Aw (fun x hx=> of_int (h3 x hx) he)
 refine ⟨l,by simp[aE,he],?_⟩
 rw[hb] at h1;simpa using h1
theorem jb {k:Nat} (h:bW P (n+2) t v) (hu:P.underlying t=some (.array k e)) (he:P.underlying e=some (.int .u8)):∃l:List UInt8,v= .arr (P.underlyingId t) (l.map aa)∧l.length=k:=by
 rw[bW,hu] at h
 obtain ⟨es,rfl,h1,h3⟩:=h
 obtain ⟨l,rfl⟩:=Aw (fun x hx=> of_int (h3 x hx) he)
 exact ⟨l,rfl,by simpa using h1⟩
theorem of_struct {fs:Array Field} (h:bW P (n+1) t v) (hu:P.underlying t=some (.struct fs)):∃vs,v= .st (P.underlyingId t) vs∧vs.length=fs.size∧∀(i:Nat) (f:Field) (x:V),fs[i]? =some f→vs[i]? =some x→bW P n f.type x:=by
 rw[bW,hu] at h;exact h
theorem LM {xs:List V} (h:oH P n [] xs):xs=[]:=by
 cases xs with
 | nil=> rfl
 | cons x xs=> exact h.elim
theorem yw {t:TypeId} {ts:List TypeId} {xs:List V} (h:oH P n (t::ts) xs):∃x ys,xs=x::ys∧bW P n t x∧oH P n ts ys:=by
 cases xs with
 | nil=> exact h.elim
 | cons x xs=> exact ⟨x,xs,rfl,h.1,h.2⟩
attribute [go_sem] wp_seq Tq Np wp_skip wp_ret wp_exit wp_block wp_cond Nq KN Nr KT KO KP Fy KU GD.calm TP Lh Li CB NB FX NG F0 NF FZ ND CX NC FY TQ Lj NH Ga TS Lk NI Gb NJ Gc NK Gd NL Ge Ll CC TT Lm NM NN NO Ln CD Lo CE NP NS NT Gf NU Gg NV Gh NW Gi Lp CG NX NY NZ Oa Gj Ob Gl Oc Gk Od Gm Oe Gn Of Gp Og Gq Oh Gs Oi Oj Lq Gt Ok Gu Om Gv On Gw gU eC Oo Gx Oq Ot Zx Zy lq fq ZA FQ Lr CH Ol Ou Gy KR Fz Ak KS FA Ar Lu GB yn Gz CI vu Cp rQ Cz Cr Cs Ct FE abh abi Zo KW KX Zp abj Tv Tw Ny Zw ZC ZD ZE ZF ZG abk ZH ZI ZJ ZK ZL ZM ZN Tx K7 Ty Tz TA K8 K9 La Lb Bf ZW ZX TI cZ Lc ZY TJ iA ZZ Z0 Z1 Z2 TK TL Z3 Z4 Z6 Z7 ZV Z8 vE OW KY FF FG KZ FH vD Cu K0 FJ Z5 NQ NR FK Nx Cv Cw FL Cx FM K4 FN K5 An K6 FO FP oQ qo bK ZO TB TC ZP qt TE TF ZQ ZR ZS ZT ZU TH TD nz Fu FB Lv As Lx At Ly Au GC GF GG GH GI Ov CK LA LB LC aab Oy TU Oz GO sV qh D9 kT Ow GJ LF GK GL Av GM tq cH Lg FW abl TM TN TO Nz Ld Z9 aaa oP NA FR FT FU CA Ao Le Lf FV LG aO mJ bS
attribute [go_sem] List.map_cons List.map_nil List.getD_cons_zero List.getD_cons_succ List.getD_nil List.zip_cons_cons List.zip_nil_left List.zip_nil_right List.set_cons_zero List.set_cons_succ Bool.false_eq_true Bool.true_eq_false if_true if_false ite_true ite_false Option.map_some Option.bind_some List.getElem?_cons_zero List.getElem?_cons_succ Bool.not_true Bool.not_false beq_self_eq_true Bool.true_beq Bool.false_beq decide_true decide_false List.drop_zero List.drop_succ_cons List.take_succ_cons List.take_zero List.nil_append List.cons_append and_true true_and Bool.and_self Int.toNat_natCast List.getElem?_append_left List.set_append_left List.getElem?_set_self List.getElem?_set_ne ne_eq not_false_eq_true List.length_map List.getElem?_map Nat.zero_add List.length_set List.set_set Option.isSome_some Option.isSome_none Option.getD_some Option.getD_none or_true true_or or_self or_false false_or and_self List.length_cons List.length_nil List.take_length Bool.or_true Bool.true_or Bool.or_false Bool.false_or Bool.and_true Bool.true_and Bool.and_false Bool.false_and Prod.mk.injEq Option.some.injEq
end Go.Vm
namespace Go.Vm
def abm (r:Option (V×Hp)) (h:Hp):Option (V×Hp):=
 match r with
 | some (v,h')=> match bE h.length h' v with
   | some v'=> some (v',h'.take h.length)
   | none=> none
 | none=> none
def abn (vs:List V) (h:Hp):Option (V×Hp):=abm (dF vs h) h
end Go.Vm
namespace Go.Vm
variable {cf : CF} {base : Nat}
theorem q5z {p:Bool} {a b:C} {e:Env} {h:Hp} {Q:bV} (h1:p=true→wp cf base a e h Q) (h2:p=false→wp cf base b e h Q):wpC cf base (.s (.bool p)) a b e h Q:=by
 rw[KQ];split
 ·exact h1 (by assumption)
 ·exact h2 (by simpa using (by assumption:¬p=true))
theorem q3z {p:Bool} {g:G} {gs:List G} {e:Env} {h:Hp} {Q:bV} (h1:p=true→G9 cf base (some true) g gs e h Q) (h2:p=false→G9 cf base (some false) g gs e h Q):G9 cf base (some (p==true)) g gs e h Q:=by
 cases p
 ·exact h2 rfl
 ·exact h1 rfl
theorem q4z {p:Bool} {g:G} {gs:List G} {e:Env} {h:Hp} {Q:bV} (h1:p=true→G9 cf base (some false) g gs e h Q) (h2:p=false→G9 cf base (some true) g gs e h Q):G9 cf base (some (p==false)) g gs e h Q:=by
 cases p
 ·exact h2 rfl
 ·exact h1 rfl
theorem q2z {p:Bool} (h:(!p)=true):p=false:=by cases p <;> simp_all
theorem q1z {p:Bool} (h:(!p)=false):p=true:=by cases p <;> simp_all
def OA (n:Nat) (r:Option (Option Nat×List V)) (g:Option Nat) (off len az:Nat):Option V:=
 match r with
 | some (g',es)=> if g'=g∧off+len≤az∧V.low.all n ((es.drop off).take len)=true then some (.aq false g ((es.drop off).take len)) else none
 | none=> none
theorem iH (n:Nat) (h:Hp) (id:Nat) (g:Option Nat) (off len az:Nat):bE n h (.ref id [] g off len az)=if id < n then some (.ref id [] g off len az) else OA n (rowOf h id az) g off len az:=by
 simp only[bE];split <;> rfl
theorem uX (n:Nat) {vs:List V} (hp:V.plain.all vs=true):V.low.all n vs=true:=by
 rw[kF] at hp
 induction vs with
 | nil=> rfl
 | cons v vs ih=> simp only[V.low.all,wW n v (hp v (by simp)),ih (fun x hx=> hp x (by simp[hx])),ae0]
theorem dW (n:Nat) (l:List UInt8):OA n (some (none,l.map aa)) none 0 l.length l.length=some (.aq false none (l.map aa)):=by
 have h1:(l.map aa).take l.length=l.map aa:=abX (by simp)
 have h2:V.low.all n (l.map aa)=true:=uX n (cH l)
 simp[OA,h1,h2]
theorem eD (n k:Nat):(n+k < n)=False:=by simp
theorem OB (n:Nat):(n < n)=False:=by simp
theorem LH {cf:CF} {base:Nat} {h:Hp} {f:Bool} {g:Option Nat} {n:Nat}:aD cf base h (.app g n) [.aq true g [],.aq f g []]=some (.aq true g [],h):=jo (n:=0) rfl rfl
theorem pE (g:Option Nat) (h:Hp):Nw (some []) g h=some (.aq true g [],h):=by simp[Nw]
theorem LI (b:UInt8):(aa b).ty=none:=rfl
theorem LJ (b:UInt8):(aa b).aw=true:=rfl
attribute [go_sem] pE LI LJ iH dW eD OB LH
def bt (n:Int):UInt8:=UInt8.ofNat (n % 256).toNat
theorem j4 (n:Int):V.s (.int .u8 (IntKind.u8.wrap n))=aa (bt n):=by
 have h1:IntKind.u8.wrap n=n % 256:=by simp[IntKind.wrap,IntKind.bits,IntKind.signed]
 have h2:((bt n).toNat:Int)=n % 256:=by
   have h0:=Int.emod_nonneg n (show (256:Int)≠0 by decide)
   have h3:=Int.emod_lt_of_pos n (show (0:Int)< 256 by decide)
   simp only[bt,aeo]
   omega
 rw[h1,←h2];rfl
theorem iI :()=():=rfl
def fe (g:Option Nat) (by_:Nat):List V→Hp→Option (V×Hp)
 | [x,.s (.int .i64 i),.ref idy [] gy 0 1 1],h=> match rowOf h idy 1 with
   | some (gy',[e])=>
     if gy=g∧gy'=g∧e.ground=true then
      match x with
      | .aq true gx []=> if gx=g∧i=0 then some (.ref h.length [] g 0 1 1,h++[.cells g [e]]) else none
      | .ref id [] gx 0 n m=> match rowOf h id m with
        | some (gx',es)=> if gx=g∧gx'=g∧n=m∧id≠idy∧0≤i∧i≤n∧(n+1)* by_≤140737488355328 then some (.ref id [] g 0 (n+1) (n+1),h.set id (.cells g (es.take i.toNat++[e]++es.drop i.toNat))) else none
        | none=> none
      | _=> none
     else none
   | _=> none
 | _,_=> none
theorem BM {g:Option Nat} {k:Nat} {vs:List V} {h:Hp} {v:V} {h':Hp} (hr:fe g k vs h=some (v,h')) (base:Nat):Kp base h h':=by
 unfold fe at hr
 split at hr
 case h_2=> cases hr
 split at hr
 case h_2=> cases hr
 rename_i hry
 split at hr
 case isFalse=> cases hr
 rename_i hc
 split at hr
 ·split at hr
  ·cases hr;exact Kp.append _ _ _
  ·cases hr
 ·split at hr
  case h_2=> cases hr
  rename_i hrx
  split at hr
  case isFalse=> cases hr
  cases hr
  obtain ⟨h1,h2⟩:=q16z hrx
  intro b hb yv hl
  refine ⟨fun id hid k hk=> ?_,by simp⟩
  rw[acK] at hk
  split at hk
  ·rename_i he
   subst he
   split at hk
   ·cases hk
    have yO:=hl _ hid _ h1
    simp only[aT.low] at yO ⊢
    rw[eS] at yO ⊢
    intro e he
    rcases acp.1 he with he | he
    ·rcases acp.1 he with he | he
     ·exact yO e (acd he)
     ·simp at he;subst he;exact pb b _ hc.2.2
    ·exact yO e (acw he)
   ·cases hk
  ·exact hl _ hid _ hk
 ·cases hr
def yE :List V→Hp→Option (V×Hp)
 | [x,y],h=> match elems h x,elems h y with
   | some (_,a),some (_,b)=> match bytesOf a,bytesOf b with
     | some l,some m=> some (.s (.int .i64 (Lib.compareBytes l m)),h)
     | _,_=> none
   | _,_=> none
 | _,_=> none
theorem EZ {vs:List V} {h:Hp} {v:V} {h':Hp} (hr:yE vs h=some (v,h')):h'=h:=by
 unfold yE at hr
 split at hr
 ·split at hr
  ·split at hr
   ·cases hr;rfl
   ·cases hr
  ·cases hr
 ·cases hr
def TV (n:Option V) (t id:Nat) (path:List Nat) (g:Option Nat) (az:Nat) (h:Hp):Option (V×Hp):=
 match n with
 | some (.arr t' es)=> if t'=t then some (.ref id path g 0 es.length az,h) else none
 | _=> none
theorem TW {cf:CF} {base:Nat} {h:Hp} (t:Nat) (g:Option Nat) (id:Nat) (p:List Nat) (az:Nat):aD cf base h (.mC t g false false) [.ptr id p az]=TV (node h id p az) t id p g az h:=by
 simp only[aD,q9,aU,TV]
 cases node h id p az with
 | none=> rfl
 | some v=> cases v <;> simp[cT]
theorem GQ (t':Nat) (es:List V) (t id:Nat) (path:List Nat) (g:Option Nat) (az:Nat) (h:Hp):TV (some (.arr t' es)) t id path g az h=if t'=t then some (.ref id path g 0 es.length az,h) else none:=rfl
theorem LL {cf:CF} {base:Nat} {h:Hp} (t:Nat) (g:Option Nat) (es:List V):aD cf base h (.mC t g false false) [.dR (.arr t es)]=some (.aq true g es,h):=by
 simp[aD,q9,aU,cT]
def elR (r:Option (List V)) (g:Option Nat) (off len:Nat):Option (Option Nat×List V):=r.map fun es=>(g,(es.drop off).take len)
theorem cS (es:List V) (g:Option Nat) (off len:Nat):elR (some es) g off len=some (g,(es.drop off).take len):=rfl
theorem bO (h:Hp) (id:Nat) (path:List Nat) (g:Option Nat) (off len az:Nat):elems h (.ref id path g off len az)=elR (rowAt h id path az) g off len:=rfl
theorem CM (h:Hp) (f:Bool) (g:Option Nat) (es:List V):elems h (.aq f g es)=some (g,es):=rfl
theorem pG {α β:Type} (f:α→β) (l:List α):(l.map f).take l.length=l.map f:=abX (by simp)
def I6 (a b:Option (Option Nat×List V)) (h:Hp):Option (V×Hp):=
 match a,b with
 | some (_,a),some (_,b)=> match bytesOf a,bytesOf b with
   | some l,some m=> some (.s (.int .i64 (Lib.compareBytes l m)),h)
   | _,_=> none
 | _,_=> none
theorem IQ (x y:V) (h:Hp):yE [x,y] h=I6 (elems h x) (elems h y) h:=by simp only[yE,I6]
theorem th (g g':Option Nat) (l m:List UInt8) (h:Hp):I6 (some (g,l.map aa)) (some (g',m.map aa)) h=some (.s (.int .i64 (Lib.compareBytes l m)),h):=by
 simp only[I6,jN]
def TX (a:Option (Option Nat×List V)) (h:Hp):Option (V×Hp):=a.bind fun r=>(bytesOf r.2).bind fun l=> jM (.string ⟨l.toArray⟩) h
theorem Bc {cf:CF} {base:Nat} {h:Hp} (x:V):aD cf base h .Eb [x]=TX (elems h x) h:=rfl
theorem lC (g:Option Nat) (l:List UInt8) (h:Hp):TX (some (g,l.map aa)) h=some (.s (.string ⟨l.toArray⟩),h):=by
 simp[TX,jN,jM]
attribute [go_sem] TW GQ LL cS bO CM pG th lC
def lh (x:V) (i:Nat):V:=
 match x with
 | .ref id _ _ off _ az=> .ptr id [off+i] az
 | .aq _ _ es=> .dR (es.getD i .top)
 | _=> .top
theorem SR.get {h:Hp} {x:V} {g:Option Nat} {vs:List V} (hb:SR h x g vs) {i:Nat} {v:V} (hi:vs[i]? =some v):(∃f,x= .aq f g vs)∨∃id off az es,x= .ref id [] g off vs.length az∧h[id]? =some (.cells g es)∧es.length=az∧off+vs.length≤az∧es[off+i]? =some v:=by
 rcases hb with h1 | ⟨id,off,az,es,rfl,h2,h3,h4,h5⟩
 ·exact .inl h1
 ·refine .inr ⟨id,off,az,es,rfl,h2,h3,h4,?_⟩
  have hl:=(abW.1 hi).1
  rw[←h5,ac7,if_pos hl,adD] at hi
  exact hi
theorem SR.cZ {cf:CF} {base:Nat} {h:Hp} {x:V} {g:Option Nat} {vs:List V} (hb:SR h x g vs) {k:IntKind} {i:Nat} (hi:i < vs.length):aD cf base h (.dz g) [x,.s (.int k i)]=some (lh x i,h):=by
 have hv:=abV hi
 have h0:(0:Int)≤i:=by omega
 rcases hb.get hv with ⟨f,rfl⟩ | ⟨id,off,az,es,rfl,h1,h2,h3,h4⟩
 ·rw[Lc,if_pos h0,acu,hv]
  simp[lh,List.getD,hv]
 ·have h5:(i:Int)< vs.length:=by omega
  simp only[go_sem,h1,h2,if_true,h0,h5,lh,acu,aco,true_and,and_true,and_self]
  have:off+i < es.length:=by omega
  simp[this]
  all_goals omega
theorem SR.iA {cf:CF} {base:Nat} {h:Hp} {x:V} {g:Option Nat} {vs:List V} (hb:SR h x g vs) {i:Nat} {v:V} (hi:vs[i]? =some v) (hv:v.ty=g):aD cf base h (.ld g) [lh x i]=some (v,h):=by
 rcases hb.get hi with ⟨f,rfl⟩ | ⟨id,off,az,es,rfl,h1,h2,h3,h4⟩
 ·simp only[lh,List.getD,hi,acx,go_sem,hv,if_true]
 ·simp only[lh,go_sem,h1,h2,if_true,h4,hv]
theorem SR.app {h:Hp} {x:V} {g:Option Nat} {vs:List V} (hb:SR h x g vs) (t:Hp):SR (h++t) x g vs:=by
 rcases hb with h1 | ⟨id,off,az,es,h1,h2,h3⟩
 ·exact .inl h1
 ·exact .inr ⟨id,off,az,es,h1,q10z h2 t,h3⟩
theorem y5 {g:Option Nat} {by_:Nat} {h:Hp} {k n i idy:Nat} {es:List V} {e:V} (hk:h[k]? =some (.cells g es)) (hn:es.length=n) (hy:h[idy]? =some (.cells g [e])) (da:k≠idy) (hi:i≤n) (hb:(n+1)* by_≤140737488355328) (he:e.ground=true):
 fe g by_ [.ref k [] g 0 n n,.s (.int .i64 i),.ref idy [] g 0 1 1] h=some (.ref k [] g 0 (n+1) (n+1),h.set k (.cells g (es.take i++[e]++es.drop i))):=by
 have h1:rowOf h idy 1=some (g,[e]):=by simp[rowOf,hy]
 have h2:rowOf h k n=some (g,es):=by simp[rowOf,hk,hn]
 have h3:(0:Int)≤i:=by omega
 have h4:(i:Int)≤n:=by omega
 simp only[fe,h1,h2,he,and_self,if_true,ne_eq,da,not_false_eq_true,true_and,h3,h4,hb,acu]
theorem y3 {g:Option Nat} {by_:Nat} {h:Hp} {idy:Nat} {e:V} (hy:h[idy]? =some (.cells g [e])) (he:e.ground=true):
 fe g by_ [.aq true g [],.s (.int .i64 0),.ref idy [] g 0 1 1] h=some (.ref h.length [] g 0 1 1,h++[.cells g [e]]):=by
 have h1:rowOf h idy 1=some (g,[e]):=by simp[rowOf,hy]
 simp only[fe,h1,he,and_self,if_true]
theorem SR.fw {h H:Hp} {x:V} {g:Option Nat} {vs:List V} (hb:SR h x g vs) (f:Fw [] h H):SR H x g vs:=by
 rcases hb with h1 | ⟨id,off,az,es,h1,h2,h3⟩
 ·exact .inl h1
 ·exact .inr ⟨id,off,az,es,h1,f.cw _ _ h2 (by simp),h3⟩
theorem LR.ty {h:Hp} {g:Option Nat} {k:Nat} {x:V} {vs:List V} (hl:LR h g k x vs):x.ty=none∧x.aw=true:=by
 rcases hl with ⟨rfl,_⟩ | ⟨es,rfl,_⟩<;> exact ⟨rfl,rfl⟩
theorem LR.Md {h H T:Hp} {g:Option Nat} {k:Nat} {x:V} {vs:List V} {idy bytes:Nat} {z:V} (hl:LR H g k x vs) (hk:h.length≤k) (f:Fw [] h H) (hy:(H++T)[idy]? =some (.cells g [z])) (hz:z.ground=true) (hb:(vs.length+1)* bytes≤140737488355328):
 ∃x' H' k',(∀cf base,aD cf base (H++T) (.app g bytes) [x,.ref idy [] g 0 1 1]=some (x',H'))∧LR H' g k' x' (vs++[z])∧Fw [] h H'∧h.length≤k':=by
 have hlT:LR (H++T) g k x vs:=hl.at' fun b hb=> q10z hb T
 have hs:source (H++T) (.ref idy [] g 0 1 1)=some (g,[z]):=(lB hy rfl).src
 have hm:∀base,bS base k z=true:=fun base=> by simp[bS,hz]
 have fT:Fw [] h (H++T):=f.trans (Fw.app _ _ _)
 rcases hl with ⟨rfl,rfl⟩ | ⟨es,rfl,h1,h2,h3⟩
 ·refine ⟨_,_,(H++T).length,fun cf base=> by rw[kP hs (by simp) (by simpa using hb)];rfl,.inr ⟨[z],rfl,aO _ _,rfl,ab0 _⟩,fT.trans (Fw.app _ _ _),fT.len⟩
 ·have hkT:=q10z h1 T
  by_cases hr:vs.length+1≤es.length
  ·refine ⟨.ref k [] g 0 (vs.length+1) es.length,(H++T).set k (.cells g (es.take vs.length++[z]++es.drop (vs.length+1))),k,fun cf base=> ?_,.inr ⟨es.take vs.length++[z]++es.drop (vs.length+1),?_,q9z hkT,?_,?_⟩,fT.bY hk _,hk⟩
   ·rw[ta hkT hs (by simp) (by simpa using hm base) (by simpa using hr)]
    simp
   ·have:(es.take vs.length++[z]++es.drop (vs.length+1)).length=es.length:=by simp;omega
    rw[this,abZ];rfl
   ·rw[abZ,h2];exact aeM (l₁:=vs++[z]) (by simp)
   ·simp;omega
  ·have he:vs.length=es.length:=by omega
   have hv:es=vs:=by rw[←h2,abX (by omega)]
   subst hv
   refine ⟨.ref k [] g 0 (es.length+1) (es.length+1),(H++T).set k (.cells g (es++[z])),k,fun cf base=> ?_,.inr ⟨es++[z],by simp,q9z hkT,abX (by simp),by simp⟩,fT.bY hk _,hk⟩
   rw[gS hkT hs (by simp) (by simpa using hm base) (by simpa using hb)]
   rfl
theorem LR.pe {H:Hp} {g:Option Nat} {k n:Nat} {x:V} {vs:List V} (hl:LR H g k x vs) (hk:n≤k) (hp:V.plain.all vs=true):bE n H x=some (.aq false g vs):=by
 rcases hl with ⟨rfl,rfl⟩ | ⟨es,rfl,h1,h2,h3⟩
 ·rfl
 ·have h4:rowOf H k es.length=some (g,es):=by simp[rowOf,h1]
  have h5:¬k < n:=by omega
  simp only[iH,h5,if_false,h4,OA,acA,h2,acs,h3,uX n hp,and_self,if_true]
def yp (x:V) (i f:Nat):V:=
 match x with
 | .ref id _ _ off _ az=> .ptr id [off+i,f] az
 | .aq _ _ es=> match es.getD i .top with
   | .st _ fs=> .dR (fs.getD f .top)
   | _=> .top
 | _=> .top
theorem SR.Bf {cf:CF} {base:Nat} {h:Hp} {x:V} {g:Option Nat} {vs:List V} (hb:SR h x g vs) {i t f:Nat} {fs:List V} (hi:vs[i]? =some (.st t fs)) (hf:f < fs.length):aD cf base h (.fa t f) [lh x i]=some (yp x i f,h):=by
 have hv:=abV hf
 rcases hb.get hi with ⟨f',rfl⟩ | ⟨id,off,az,es,rfl,h1,h2,h3,h4⟩
 ·simp only[lh,yp,List.getD,hi,acx,go_sem,hv,aco]
 ·simp only[lh,yp,go_sem,h1,h2,if_true,h4,hf]
  try simp[hf]
theorem SR.Jb {cf:CF} {base:Nat} {h:Hp} {x:V} {g g':Option Nat} {vs:List V} (hb:SR h x g vs) {i t f:Nat} {fs:List V} {w:V} (hi:vs[i]? =some (.st t fs)) (hf:fs[f]? =some w) (hw:w.ty=g'):aD cf base h (.ld g') [yp x i f]=some (w,h):=by
 rcases hb.get hi with ⟨f',rfl⟩ | ⟨id,off,az,es,rfl,h1,h2,h3,h4⟩
 ·simp only[yp,List.getD,hi,hf,acx,go_sem,hw,if_true]
 ·simp only[yp,go_sem,h1,h2,if_true,h4,hf,hw]
def slP (x:V) (i f:Nat) (g:Option Nat) (n:Nat):V:=
 match x with
 | .ref id _ _ off _ az=> .ref id [off+i,f] g 0 n az
 | .aq _ _ es=> match es.getD i .top with
   | .st _ fs=> match fs.getD f .top with
     | .arr _ es=> .aq true g es
     | _=> .top
   | _=> .top
 | _=> .top
theorem SR.OX {cf:CF} {base:Nat} {h:Hp} {x:V} {g g':Option Nat} {vs:List V} (hb:SR h x g vs) {i t f t':Nat} {fs es':List V} (hi:vs[i]? =some (.st t fs)) (hf:fs[f]? =some (.arr t' es')):aD cf base h (.mC t' g' false false) [yp x i f]=some (slP x i f g' es'.length,h):=by
 rcases hb.get hi with ⟨f',rfl⟩ | ⟨id,off,az,es,rfl,h1,h2,h3,h4⟩
 ·simp only[yp,slP,List.getD,hi,hf,acx,LL]
 ·simp only[yp,slP,go_sem,h1,h2,if_true,h4,hf]
theorem vJ {h:Hp} {x:V} {g g':Option Nat} {vs:List V} (hb:SR h x g vs) {i t f t':Nat} {fs es':List V} (hi:vs[i]? =some (.st t fs)) (hf:fs[f]? =some (.arr t' es')):elems h (slP x i f g' es'.length)=some (g',es'):=by
 rcases hb.get hi with ⟨f',rfl⟩ | ⟨id,off,az,es,rfl,h1,h2,h3,h4⟩
 ·simp only[slP,List.getD,hi,hf,acx,go_sem]
 ·simp only[slP,go_sem,h1,h2,if_true,h4,hf,acA,adp]
def XR (h:Hp) (g:Option Nat) (k:Nat) (x:V) (vs:List V):Prop:=(x= .aq true g []∧vs=[])∨(x= .ref k [] g 0 vs.length vs.length∧h[k]? =some (.cells g vs))
theorem XR.ty {h:Hp} {g:Option Nat} {k:Nat} {x:V} {vs:List V} (hl:XR h g k x vs):x.ty=none∧x.aw=true:=by
 rcases hl with ⟨rfl,_⟩ | ⟨rfl,_⟩<;> exact ⟨rfl,rfl⟩
theorem XR.Md {h H T:Hp} {g:Option Nat} {k:Nat} {x:V} {vs:List V} {idy bytes:Nat} {z:V} (hl:XR H g k x vs) (hk:h.length≤k) (f:Fw [] h H) (hy:(H++T)[idy]? =some (.cells g [z])) (hz:z.ground=true) (hb:(vs.length+1)* bytes≤140737488355328):
 ∃x' H' k',(∀cf base,aD cf base (H++T) (.app g bytes) [x,.ref idy [] g 0 1 1]=some (x',H'))∧XR H' g k' x' (vs++[z])∧Fw [] h H'∧(k'=k∨H.length+T.length≤k')∧(∀j b,j≠k→(H++T)[j]? =some b→H'[j]? =some b):=by
 have hs:source (H++T) (.ref idy [] g 0 1 1)=some (g,[z]):=(lB hy rfl).src
 have hm:∀base,bS base k z=true:=fun base=> by simp[bS,hz]
 have fT:Fw [] h (H++T):=f.trans (Fw.app _ _ _)
 rcases hl with ⟨rfl,rfl⟩ | ⟨rfl,h1⟩
 ·exact ⟨_,_,(H++T).length,fun cf base=> by rw[kP hs (by simp) (by simpa using hb)];rfl,.inr ⟨rfl,aO _ _⟩,fT.trans (Fw.app _ _ _),.inr (by simp),fun j b _ hj=> q10z hj _⟩
 ·have hkT:=q10z h1 T
  refine ⟨.ref k [] g 0 (vs.length+1) (vs.length+1),(H++T).set k (.cells g (vs++[z])),k,fun cf base=> ?_,.inr ⟨by simp,q9z hkT⟩,fT.bY hk _,.inl rfl,fun j b hj hb'=> by rw[ab3 (adG hj)];exact hb'⟩
  ·rw[gS hkT hs (by simp) (by simpa using hm base) (by simpa using hb)]
   rfl
theorem IK {cf:CF} {base:Nat} {h:Hp} {g:Option Nat} {id n r:Nat} {es:List V} {k:IntKind} (hg:h[id]? =some (.cells g es)) (hn:es.length=n) (hr:r≤n):aD cf base h (.j2 g false true false) [.ref id [] g 0 n n,.s (.int k r)]=some (.ref id [] g 0 r n,h):=by
 simp[aD,iE,eN,aU,cT,dG,Vm.rowAt,rowOf,hg,hn,hr]
end Go.Vm
namespace Go.Vm
def bd :List UInt8:=[0,0,0,0,0,0,0,0,0,0,0,0,0,0,0,0]
def oj :List UInt8:=[0,0,0,0]
abbrev aK (t:Nat):V:= .arr t (bd.map aa)
abbrev z4 (t:Nat):V:= .arr t (oj.map aa)
abbrev ga (d:Nat) (o:O) (xs:List X):G:=⟨some d,o,xs,none⟩
abbrev gm (d s:Nat):G:=⟨some d,.mv,[.t s],none⟩
abbrev gn (o:O) (xs:List X):G:=⟨none,o,xs,none⟩
abbrev gw (t:Nat) (b:Bool) (d:Nat) (o:O) (xs:List X):G:=⟨some d,o,xs,some (t,b)⟩
abbrev gl (l h:Nat) (g:G):GD:=⟨g,l,h⟩
abbrev kc (n:Int):X:= .c (.s (.int .i64 n))
abbrev kb (b:Bool):X:= .c (.s (.bool b))
abbrev ki :V:= .s (.int .i64 0)
abbrev ku :V:= .s (.int .u64 0)
abbrev kx :V:= .aq false none []
theorem Fw.A9 {h H:Hp} (hl:h.length≤H.length) (ho:∀(j:Nat) (b:aT),h[j]? =some b→H[j]? =some b):Fw [] h H:=
 ⟨hl,fun j b hj _=> ho j b hj,fun j l hj=> ho j _ hj⟩
theorem Fw.trans' {h H H':Hp} {n k:Nat} (f:Fw [] h H) (hl:H.length≤H'.length) (ho:∀(j:Nat) (b:aT),j≠k→H[j]? =some b→H'[j]? =some b) (hk:h.length+n≤k):Fw [] h H':=
 Fw.A9 (acE f.len hl) fun j b hj=> by
   have:=q6z hj
   exact ho j b (by omega) (f.cw j b hj (by simp))
theorem XR.set {h:Hp} {g:Option Nat} {k j:Nat} {x:V} {vs:List V} (hl:XR h g k x vs) (hj:j≠k) (b:aT):XR (h.set j b) g k x vs:=by
 rcases hl with h1 | ⟨h1,h2⟩
 ·exact .inl h1
 ·exact .inr ⟨h1,by rw[ab3 hj];exact h2⟩
theorem XR.BR {h:Hp} {k:Nat} {x:V} {l:List UInt8} (hl:XR h none k x (l.map aa)):BR h x l:=by
 rcases hl with ⟨rfl,h0⟩ | ⟨rfl,h0⟩
 ·have:l=[]:=by simpa using h0
  subst this;exact oX _ _
 ·exact ck h0 (by simp)
theorem XR.SR {h:Hp} {g:Option Nat} {k:Nat} {x:V} {vs:List V} (hl:XR h g k x vs):SR h x g vs:=by
 rcases hl with ⟨rfl,rfl⟩ | ⟨rfl,h1⟩
 ·exact .inl ⟨_,rfl⟩
 ·exact .inr ⟨k,0,vs.length,vs,rfl,h1,rfl,by simp,by simp⟩
theorem XR.mono {h H:Hp} {g:Option Nat} {k:Nat} {x:V} {vs:List V} (hl:XR h g k x vs) (hk:∀b,h[k]? =some b→H[k]? =some b):XR H g k x vs:=by
 rcases hl with h1 | ⟨h1,h2⟩
 ·exact .inl h1
 ·exact .inr ⟨h1,hk _ h2⟩
theorem XR.nil (h:Hp) (g:Option Nat) (k:Nat):XR h g k (.aq true g []) []:= .inl ⟨rfl,rfl⟩
theorem XR.pe {H:Hp} {g:Option Nat} {k n:Nat} {x:V} {vs:List V} (hl:XR H g k x vs) (hk:n≤k) (hp:V.plain.all vs=true):bE n H x=some (.aq false g vs):=by
 rcases hl with ⟨rfl,rfl⟩ | ⟨rfl,h1⟩
 ·exact D9 n H true g [] rfl
 ·exact D8 n H k g _ vs hk h1 rfl hp
theorem XR.Rp {n:Nat} {H:Hp} {g:Option Nat} {k:Nat} {x y:V} {vs ys:List V} {bytes:Nat} (xr:XR H g k x vs) (hk:n≤k) (hm:n≤H.length) (hs:source H y=some (g,ys)) (hz:∀z∈ys,z.ground=true) (hb:(vs.length+ys.length)* bytes≤140737488355328):
 ∃x' H' k',(∀cf base,aD cf base H (.app g bytes) [x,y]=some (x',H'))∧XR H' g k' x' (vs++ys)∧n≤k'∧n≤H'.length∧(k'=k∨H.length≤k')∧H.length≤H'.length∧(∀j b,j≠k→H[j]? =some b→H'[j]? =some b):=by
 by_cases da:ys=[]
 ·subst da
  refine ⟨x,H,k,fun cf base=> jo hs xr.SR.len,by simpa using xr,hk,hm,.inl rfl,ab0 _,fun _ _ _ h=> h⟩
 ·have hma:∀base,∀z∈ys,bS base k z=true:=fun base z h=> by simp[bS,hz z h]
  rcases xr with ⟨rfl,rfl⟩ | ⟨rfl,h1⟩
  ·exact ⟨_,H++[.cells g ys],H.length,fun cf base=> kP hs da (by simpa using hb),.inr ⟨rfl,aO _ _⟩,hm,by simp;omega,.inr (ab0 _),by simp,fun j b _ hj=> q10z hj _⟩
  ·refine ⟨_,H.set k (.cells g (vs++ys)),k,fun cf base=> gS h1 hs da (hma base) hb,.inr ⟨by simp,q9z h1⟩,hk,by simpa using hm,.inl rfl,by simp,fun j b hj hb'=> by rw[ab3 (adG hj)];exact hb'⟩
theorem XR.IW {n:Nat} {H:Hp} {g:Option Nat} {k m:Nat} {x:V} {vs ys:List V} {bytes:Nat} (xr:XR H g k x vs) (hk:n≤k) (hm:n≤H.length) (hl:ys.length=m) (hz:∀z∈ys,z.ground=true) (hb:(vs.length+ys.length)* bytes≤140737488355328) (cJ:∀b,H[k]? =some b→k < H.length:=fun _ h=> q6z h):
 ∃x' H' k',(∀cf base,aD cf base (H++[.cells g ys]) (.app g bytes) [x,.ref H.length [] g 0 m m]=some (x',H'))∧XR H' g k' x' (vs++ys)∧n≤k'∧n≤H'.length∧(k'=k∨H.length≤k')∧H.length≤H'.length∧(∀j b,j≠k→H[j]? =some b→H'[j]? =some b):=by
 have hs:source (H++[.cells g ys]) (.ref H.length [] g 0 m m)=some (g,ys):=(lB (aO _ _) hl).src
 obtain ⟨x',H',k',h1,h2,h3,h4,h5,h6,h7⟩:=(xr.mono (H:=H++[.cells g ys]) fun b hb=> q10z hb _).Rp hk (by simp;omega) hs hz hb
 refine ⟨x',H',k',h1,h2,h3,h4,?_,by simp at h6;omega,fun j b hj hb=> h7 j b hj (q10z hb _)⟩
 rcases h5 with h5 | h5
 ·exact .inl h5
 ·exact .inr (by simp at h5;omega)
end Go.Vm
namespace Go.Vm
def nU (x:V) (g:Option Nat) (l r:Nat):V:=
 match x with
 | .aq full _ es=> .aq (full && r==es.length) g ((es.drop l).take (r - l))
 | .ref id path _ off _ az=> if l=0∨l < r then .ref id path g (off+l) (r - l) az else .aq false g []
 | x=> x
theorem SR.nU {h:Hp} {x:V} {g:Option Nat} {vs:List V} (hb:SR h x g vs) {l r:Nat} (h1:l≤r) (h2:r≤vs.length):dG h g x l r=some (nU x g l r)∧SR h (Vm.nU x g l r) g ((vs.drop l).take (r - l)):=by
 obtain ⟨y,e,hy⟩:=hb.cut h1 h2
 suffices hh:dG h g x l r=some (Vm.nU x g l r) by
   rw[e] at hh;cases hh;exact ⟨e,hy⟩
 rcases hb with ⟨f,rfl⟩ | ⟨id,off,az,es,rfl,k2,k3,k4,k5⟩
 ·simp[dG,Vm.nU,h1,h2]
 ·have cy:rowAt h id [] az=some es:=by simp[rowAt,rowOf,k2,k3]
  by_cases hl:l=0∨l < r
  ·simp[dG,Vm.nU,h1,h2,cy,hl]
  ·simp[dG,Vm.nU,h1,h2,cy,hl]
theorem SR.aaN {cf:CF} {base:Nat} {h:Hp} {x:V} {g:Option Nat} {vs:List V} (hb:SR h x g vs) {k:IntKind} {r:Nat} (hr:r≤vs.length):aD cf base h (.j2 g false true false) [x,.s (.int k r)]=some (Vm.nU x g 0 r,h):=by
 have h3:=hb.len
 simp only[aD,iE,h3,aU,cT]
 simp[(hb.nU (aeu r) hr).1]
theorem SR.Mj {cf:CF} {base:Nat} {h:Hp} {x:V} {g:Option Nat} {vs:List V} (hb:SR h x g vs) {k:IntKind} {l:Nat} (hr:l≤vs.length):aD cf base h (.j2 g true false false) [x,.s (.int k l)]=some (Vm.nU x g l vs.length,h):=by
 have h3:=hb.len
 simp only[aD,iE,h3,aU,cT]
 simp[(hb.nU hr (ab0 _)).1]
theorem SR.loR {h:Hp} {x:V} {g:Option Nat} {vs:List V} (hb:SR h x g vs) {l:Nat} (hr:l≤vs.length):SR h (Vm.nU x g l vs.length) g (vs.drop l):=by
 have:=(hb.nU hr (ab0 _)).2
 rwa [abX (by simp)] at this
end Go.Vm
