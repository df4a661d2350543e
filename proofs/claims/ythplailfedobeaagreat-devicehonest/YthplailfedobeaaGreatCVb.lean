/- An abstract machine for loaded programs, part 2: what it computes is what Go computes. Conditions: none. -/
import Derived.Test.YthplailfedobeaaGreatCVa
import Derived.ChangeKeysEq
import Derived.Carry
import Derived.MapKept
import Derived.WideKeyRuns
import Derived.DeepKeys
import Derived.Laws.StructEq
import Derived.Orders
set_option linter.unusedSimpArgs false
set_option linter.unusedVariables false
set_option linter.unusedSectionVars false
namespace Go.Vm
variable {P : Program} {L : cG} {c : Ctx} {h : Hp} {w : World}
theorem jT {k:IntKind}:∀ {es:List V} {a:List Int} {us:List Value},ints k es=some a→cB L c es us→us=a.map (Value.int k)∧a.length=es.length
 | [],a,us,hi,hr=> by
   simp only[ints,Option.some.injEq] at hi
   simp only[cB] at hr
   subst hi;subst hr
   exact ⟨rfl,rfl⟩
 | e::es,a,us,hi,hr=> by
   simp only[cB] at hr
   obtain ⟨u1,u2,rfl,h1,h2⟩:=hr
   unfold ints at hi
   split at hi
   ·rename_i heq;cases heq
   ·rename_i k' n vs heq
    simp only[List.cons.injEq] at heq
    obtain ⟨rfl,rfl⟩:=heq
    split at hi
    ·rename_i hk
     subst hk
     obtain ⟨a',pI,rfl⟩:=ach.1 hi
     obtain ⟨rfl,h3⟩:=jT pI h2
     simp only[RC] at h1
     rw[h1.1]
     exact ⟨by simp,by simp[h3]⟩
    ·cases hi
   ·cases hi
theorem iu {el:TypeId} {k:IntKind} (cm:P.underlying el=some (.int k)) (d:Nat) (a b:List Int):∀(m s:Nat),s+m=a.length→s+m=b.length→
 (Op.eqItems (d+1) el 1 (a.map (Value.int k)).toArray (b.map (Value.int k)).toArray (List.range' s m)).run P w= .ok (a.drop s==b.drop s) w
 | 0,s,ha,hb=> by
   simp only[List.range'_zero,Op.eqItems,Sem.run_pure]
   rw[adp (by omega),adp (by omega)];rfl
 | m+1,s,ha,hb=> by
   have px:(part el (a.map (Value.int k)).toArray (s * 1)).run P w= .ok (.int k (a[s]'(by omega))) w:=by
     simp[part,isAgg,run_underlying cm,show s < a.length by omega]
   have py:(part el (b.map (Value.int k)).toArray (s * 1)).run P w= .ok (.int k (b[s]'(by omega))) w:=by
     simp[part,isAgg,run_underlying cm,show s < b.length by omega]
   simp only[aew,Op.eqItems,Sem.run_bind,px,py,Result.andThen_ok,run_equalIn_int w d el k k _ _ cm]
   rw[adh (show s < a.length by omega),adh (show s < b.length by omega),List.cons_beq_cons]
   cases hq:(a[s]'(by omega)==b[s]'(by omega))
   ·simp
   ·simp only[acK,acz,if_false,adq]
    exact iu cm d a b m (s+1) (by omega) (by omega)
theorem Km (hL:L.OK) (hs:bp L c h w) {T t n:Nat} {el:TypeId} {k:IntKind} {g:Option Nat} (hu:P.underlying T=some (.array n el)) (cm:P.underlying el=some (.int k)) (j1:TG P L el g) (hg:L.aD g=1) (ha:L.arr t=some (n,g)) (hgd:P.eqGuardType P.depth T=false)
 {op:BinOp} {neg:Bool} (FG:(op= .eql∧neg=false)∨(op= .neq∧neg=true)) {X Y:Operand} {x y:V} {ux uy:Value} (hx:RV L c x ux) (hy:RV L c y uy) {v:V} {h':Hp} (ai:uh h t k neg x y=some (v,h')):
 aN L c w ((do eqGuard op T X Y ux uy;binOp op T ux uy:Sem Value).run P w) v h':=by
 unfold uh at ai
 split at ai
 case h_2=> cases ai
 rename_i t1 es t2 fs
 split at ai
 case isFalse=> cases ai
 rename_i hc
 obtain ⟨rfl,rfl⟩:=hc
 split at ai
 case h_2=> cases ai
 rename_i a b gf hib
 obtain ⟨rfl,rfl⟩:=rk ai
 obtain ⟨us,rfl,zN⟩:=(fN rfl).1 hx
 obtain ⟨ws,rfl,nr⟩:=(fN rfl).1 hy
 simp only[RC] at zN nr
 obtain ⟨zN,e1,ha1,_⟩:=zN
 obtain ⟨nr,e2,ha2,_⟩:=nr
 rw[ha] at ha1 ha2
 simp only[Option.some.injEq,Prod.mk.injEq] at ha1 ha2
 obtain ⟨rfl,Hm⟩:=jT gf zN
 obtain ⟨rfl,sI⟩:=jT hib nr
 obtain ⟨i,hi,qp⟩:=j1.info
 have iq:P.cellsOf el=1:=by simp[Program.cellsOf,hi,qp,hg]
 have heq:∀d,(Op.equalIn (d+2) T (.agg (a.map (Value.int k)).toArray) (.agg (b.map (Value.int k)).toArray)).run P w= .ok (a==b) w:=fun d=> by
   rw[run_equalIn_array w (d+1) _ _ hu hi,iq,adK]
   have:=iu (P:=P) (w:=w) cm d a b n 0 (by omega) (by omega)
   simpa using this
 have uJ:=run_eqGuard_agg (P:=P) w op T X Y (a.map (Value.int k)).toArray (b.map (Value.int k)).toArray hgd
 rcases FG with ⟨rfl,rfl⟩ | ⟨rfl,rfl⟩
 ·refine aN.same (u:= .bool (a==b)) ?_ (bF.2 ⟨rfl,rfl⟩) hs
  simp only[Sem.run_bind,uJ,Result.andThen_ok,run_eql_struct,heq 9998]
 ·refine aN.same (u:= .bool !(a==b)) ?_ (bF.2 ⟨rfl,rfl⟩) hs
  simp only[Sem.run_bind,uJ,Result.andThen_ok,run_neq_struct,heq 9998]
theorem S2 (hL:L.OK) (hs:bp L c h w) {T el:TypeId} {g:Option Nat} {zv:V} (ht:P.underlying T=some (.slice el)) (cm:TG P L el g) (hz:eO P L el zv) (jM:zv.ty=g) (iV:zv.aA=true)
 {ty:TypeId} {x:V} {ux:Value} (hx:RV L c x ux) {base:Nat} {v:V} {h':Hp} (ai:zt base h g zv x=some (v,h')):
 aN L c w ((Builtin.clear_ #[T] ty #[ux]).run P w) v h':=by
 unfold zt at ai
 split at ai
 ·rename_i hlen
  simp only[Option.some.injEq,Prod.mk.injEq] at ai
  obtain ⟨rfl,rfl⟩:=ai
  obtain ⟨a,k,rfl,_⟩:=xU hlen hx
  refine aN.same (u:= .tuple #[]) ?_ (cI.2 ⟨[],rfl,trivial⟩) hs
  cases a <;> simp[Builtin.clear_,run_underlying ht]
 ·rename_i n Ej hlen
  obtain ⟨⟨v',h2⟩,hcp,he⟩:=ach.1 ai
  simp only[Prod.mk.injEq] at he
  obtain ⟨rfl,rfl⟩:=he
  have ace:n≠0:=fun h0=> by subst h0;exact Ej rfl
  unfold copyV at hcp
  split at hcp
  case h_2=> cases hcp
  rename_i id g' off len aB
  simp only[fj,Option.some.injEq] at hlen
  subst hlen
  split at hcp
  case h_2=> cases hcp
  rename_i g'' es cE
  split at hcp
  case isFalse=> cases hcp
  rename_i hc
  simp only[Option.some.injEq,Prod.mk.injEq] at hcp
  obtain ⟨rfl,rfl⟩:=hcp
  obtain ⟨_,rfl,rfl,oK,gj⟩:=hc
  obtain ⟨i,z,hi,pq,pL⟩:=hz
  have hzc:=((pL c).cells iV).1
  have vn:=(pL c).aW hL iV
  rw[jM] at vn
  obtain ⟨l,hl,cO,cD,sh,jo,qU,hb3,cY,us0,ty0,fz0,hg,cU,dt,gk⟩:=hs.row cE
  have oJ:=(q16z cE).2
  obtain ⟨he,k,rfl,mR,hm⟩:=dU hx hl cO (path:=[]) (o:=0) (e:=l.tag) (m:=none) rfl
  simp only[acU] at mR hm ⊢
  have EH:min (List.replicate len zv).length len=len:=by simp
  rw[EH]
  have bV:cB L c (List.replicate len zv) ((List.replicate len z.cells.toList).flatten):=ew hzc len
  have kO:∀q∈List.replicate len zv,q.ty=g''∧q.aA=true:=fun q hq=> by rw[ac4 hq];exact ⟨jM,iV⟩
  have m6:=q8z hL bV (fun q hq=>(kO q hq).1)
  simp only[ac8] at m6
  have gM:∀n,n≤l.cap→n * L.aD g''≤us0.size:=fun n hn=> by rw[cU];exact acE _ hn
  have oW:off * L.aD g''+((List.replicate len z.cells.toList).flatten).length≤us0.size:=by rw[m6,←Nat.add_mul];exact gM _ (by omega)
  have xR:∀q∈(List.replicate len z.cells.toList).flatten,q.oneCell'=true:=dC (fun v _=> ed v) (fun v hv=>(kO v hv).2) _ bV
  have Nu:(Builtin.zeroCells z.cells len).toList=(List.replicate len z.cells.toList).flatten:=jC z.cells len
  have nM:(storeCells (⟨l.bE,off * L.aD g'',none⟩:Addr) ((Builtin.zeroCells z.cells len).toList)).run P w= .ok () (w.setCells l.bE (off * L.aD g'') ((List.replicate len z.cells.toList).flatten)):=by
    rw[Nu]
    have:=run_storeCells_cells (P:=P) l.bE (off * L.aD g'') ((List.replicate len z.cells.toList).flatten) 0 w (fun j hj=> by rw[q15z hg];simp;omega) (fun j hj=> eN hg dt.1 (by omega)) xR
    simpa using this
  have bo:(Builtin.clear_ #[T] ty #[.slice (some ⟨l.bE,off * L.aD g'',none⟩) len k]).run P w= .ok (.tuple #[]) (w.setCells l.bE (off * L.aD g'') ((List.replicate len z.cells.toList).flatten)):=by
    obtain ⟨m,rfl⟩:∃m,len=m+1:=⟨len - 1,by omega⟩
    simp[Builtin.clear_,run_underlying ht,zeroValue,typeInfo,hi,pq,nM]
  have ji:=nA hL gk bV (fun q hq=>(cY q hq).1) (fun q hq=>(kO q hq).1) (n:=off) (by simp;omega)
  simp only[ac8] at ji
  have fk:(List.replicate len zv).take len=List.replicate len zv:=ack (by simp)
  rw[fk]
  have yu:(es.take off++List.replicate len zv++es.drop (off+len)).length=es.length:=by simp only[aco,acI,adb,ac8];omega
  have BY:lay (us0.toList.take (es.length * L.aD g'')) (off * L.aD g'') ((List.replicate len z.cells.toList).flatten)=(lay us0.toList (off * L.aD g'') ((List.replicate len z.cells.toList).flatten)).take (es.length * L.aD g''):=
    (nB _ _ _ _ (by rw[m6,←Nat.add_mul];exact acE _ (by omega)) (by have:=gM _ hb3;simpa using this)).symm
  rw[BY] at ji
  obtain ⟨l',dF,dv,hle,xM⟩:=jB hL hs hl cD sh hg dt cU (es':=es.take off++List.replicate len zv++es.drop (off+len)) (fun q hq=> by
    rcases acG.1 hq with hq | hq
    ·rcases acG.1 hq with hq | hq
     ·exact cY q (acA hq)
     ·exact kO q hq
    ·exact cY q (acY hq)) (by omega) (by omega) oW (by rw[yu];exact ji)
  exact ⟨_,_,_,bo,cI.2 ⟨[],rfl,trivial⟩,dv,hle,St.setCells _ _ _ _⟩
 ·cases ai
end Go.Vm
namespace Go.Vm
variable {P : Program} {L : cG} {c : Ctx} {h : Hp} {w : World}
theorem PJ {id:Nat} {u:Value}:RV L c (.mp id) u↔∃b,u= .map (some b)∧id < c.n∧∀l,c.loc id=some l→l.aB=0→b=l.bE:=by
 rw[eD rfl]
 simp only[RC,List.cons.injEq,and_true]
theorem nN (hs:bp L c h w) {id cl:Nat} {es:List (V×V×Nat)} {u:Value} (hx:RV L c (.mp id) u) (hg:h[id]? =some (.map es cl)):
 ∃l ms,c.loc id=some l∧u= .map (some l.bE)∧c.z l.bE=none∧l.tag=none∧l.aB=0∧w.heap[l.bE]? =some (.map ms cl)∧mm L c es ms.toList:=by
 rcases hs.live id _ hg with ⟨l,hl⟩ | hd
 case inr=> cases hd
 obtain ⟨k,hk,hz,hb⟩:=hs.loc id l hl
 rw[hg] at hk;cases hk
 obtain ⟨h1,h2,ms,h3,h4⟩:=hb
 obtain ⟨b,rfl,_,hb⟩:=PJ.1 hx
 rw[hb l hl h2]
 exact ⟨l,ms,hl,rfl,hz,h1,h2,h3,h4⟩
theorem mm.length :∀ {es:List (V×V×Nat)} {ms:List MapEntry},mm L c es ms→es.length=ms.length
 | [],[],_=> rfl
 | e::es,m::ms,h=> by simp[mm.length h.2]
 | [],_::_,h=> h.elim
 | _::_,[],h=> h.elim
theorem mm.nth :∀ {es:List (V×V×Nat)} {ms:List MapEntry} {i:Nat} {e:V×V×Nat},mm L c es ms→es[i]? =some e→∃m,ms[i]? =some m∧RV L c e.1 m.key∧RV L c e.2.1 m.val∧e.2.2=m.born
 | e::es,m::ms,0,x,h,hx=> by cases hx;exact ⟨m,rfl,h.1⟩
 | e::es,m::ms,i+1,x,h,hx=> by
   obtain ⟨m2,h1,h2⟩:=mm.nth (es:=es) (ms:=ms) (i:=i) h.2 hx
   exact ⟨m2,h1,h2⟩
 | [],[],i,x,_,hx=> by simp at hx
 | [],_::_,_,_,h,_=> h.elim
 | _::_,[],_,_,h,_=> h.elim
theorem mm.snoc {k v:V} {b:Nat} {m:MapEntry} (hm:RV L c k m.key∧RV L c v m.val∧b=m.born):∀ {es:List (V×V×Nat)} {ms:List MapEntry},mm L c es ms→mm L c (es++[(k,v,b)]) (ms++[m])
 | [],[],_=>⟨hm,trivial⟩
 | e::es,m'::ms,h=>⟨h.1,mm.snoc hm h.2⟩
 | [],_::_,h=> h.elim
 | _::_,[],h=> h.elim
theorem mm.set {k v:V} {b:Nat} {m:MapEntry} (hm:RV L c k m.key∧RV L c v m.val∧b=m.born):∀ {es:List (V×V×Nat)} {ms:List MapEntry} (i:Nat),mm L c es ms→mm L c (es.set i (k,v,b)) (ms.set i m)
 | [],[],_,_=> trivial
 | e::es,m'::ms,0,h=>⟨hm,h.2⟩
 | e::es,m'::ms,i+1,h=>⟨h.1,mm.set hm i h.2⟩
 | [],_::_,_,h=> h.elim
 | _::_,[],_,h=> h.elim
theorem S3 (hs:bp L c h w) (t:TypeId):aN L c w ((Instr.makeMap t none).run P w) (.mp h.length) (h++[.map [] 0]):=by
 have dv:=hs.push (.map #[] 0) (.map [] 0) ⟨w.heap.size,0,none,0⟩ rfl ⟨rfl,rfl,#[],jL,trivial⟩
 have hl:(c.push ⟨w.heap.size,0,none,0⟩).loc h.length=some ⟨w.heap.size,0,none,0⟩:=by simp[Ctx.push,hs.n]
 exact ⟨_,_,_,Go.RowKit.run_makeMap t w,PJ.2 ⟨_,rfl,by simp[Ctx.push,hs.n],fun l dF _=> by rw[hl] at dF;cases dF;rfl⟩,dv,c.iE _,St.alloc _ _⟩
theorem nO (hs:bp L c h w) {id cl cl':Nat} {l:Loc} {ms ms':Array MapEntry} {es':List (V×V×Nat)} (hl:c.loc id=some l) (hz:c.z l.bE=none) (cD:l.tag=none) (cO:l.aB=0)
 (hg:w.heap[l.bE]? =some (.map ms cl)) (hr:mm L c es' ms'.toList):bp L c (h.set id (.map es' cl')) {w with heap:=w.heap.setIfInBounds l.bE (.map ms' cl')}:=by
 have hmv:c.move id l=c:=by
   cases c with
   | mk z loc n=>
     simp only[Ctx.move]
     congr
     funext j
     by_cases hj:j=id
     ·subst hj;simp only[if_true];exact hl.symm
     ·simp[hj]
 have dv:=hs.move (l':=l) hl (w':= {w with heap:=w.heap.setIfInBounds l.bE (.map ms' cl')}) (.map es' cl') (by rw[hmv];exact Ctx.le_refl c) hz (Or.inl rfl)
   (fun b hb sI=> by simp[aea,adY sI]) (fun o' kP=> by rw[hz] at kP;cases kP)
   ⟨cD,cO,ms',by simp[aea,eM hg],by rw[hmv];exact hr⟩
 rwa [hmv] at dv
theorem qt {T n:Nat} {el:TypeId} {k:IntKind} (hu:P.underlying T=some (.array n el)) (cm:P.underlying el=some (.int k)) {i:TypeInfo} (hi:P.info? el=some i) (cU:P.cellsOf el=1)
 (a:List Int) (ha:a.length=n) (em:Bool) (d:Nat):(Instr.checkKey em (d+2) T (.agg (a.map (Value.int k)).toArray)).run P w= .ok () w:=by
 rw[Instr.checkKey]
 simp only[Sem.run_bind,run_underlying hu,Result.andThen_ok]
 simp only[Std.Legacy.Range.forIn_eq_forIn_range',Std.Legacy.Range.size,afn,Nat.add_one_sub_one,afO]
 have hj:∀j∈List.range' 0 n,j < a.length:=fun j hj=> by rw[List.mem_range'_1] at hj;omega
 generalize List.range' 0 n=is at hj
 induction is with
 | nil=> simp
 | cons j is ih=>
   have h1:=hj j (by simp)
   have p1:=run_part_plain (P:=P) w (e:=el) (by simp[Program.plainKey,cm]) (xs:=(a.map (Value.int k)).toArray) (off:=j) (v:= .int k a[j]) (by simp[h1])
   have p2:(Instr.checkKey em (d+1) el (.int k a[j])).run P w= .ok () w:=by simp[Instr.checkKey,run_underlying cm]
   simp only[List.forIn_cons,Sem.run_bind,run_sizeOf w hi,Result.andThen_ok,cU,Nat.mul_one,p1,p2,Sem.run_pure]
   exact ih (fun y hy=> hj y (by simp[hy]))
theorem uK {T n:Nat} {el:TypeId} {k:IntKind} (hu:P.underlying T=some (.array n el)) (cm:P.underlying el=some (.int k)) (cU:P.cellsOf el=1)
 (a b:List Int) (ha:a.length=n) (hb:b.length=n):(Op.equal T (.agg (a.map (Value.int k)).toArray) (.agg (b.map (Value.int k)).toArray)).run P w= .ok (a==b) w:=by
 obtain ⟨i,hi⟩:=info_of_underlying cm
 have heq:∀d,(Op.equalIn (d+2) T (.agg (a.map (Value.int k)).toArray) (.agg (b.map (Value.int k)).toArray)).run P w= .ok (a==b) w:=fun d=> by
   rw[run_equalIn_array w (d+1) _ _ hu hi,cU,adK]
   have:=iu (P:=P) (w:=w) cm d a b n 0 (by omega) (by omega)
   simpa using this
 exact heq _
def wN (P:Program) (L:cG) (kt:TypeId):Option (Nat×IntKind)→Prop
 | none=>∃k,P.underlying kt=some (.int k)
 | some (t,k)=>∃n el,P.underlying kt=some (.array n el)∧P.underlying el=some (.int k)∧P.cellsOf el=1∧L.arr t=some (n,none)
theorem iw {kc:Option (Nat×IntKind)} {x:V}:∀ {es:List (V×V×Nat)} {n:Nat} {q:Nat×V×Nat},iR kc x es n=some (some q)→n≤q.1∧∃e,es[q.1 - n]? =some e∧e.2=q.2∧nE kc x e.1=some true
 | [],n,q,h=> by simp[iR] at h
 | e::es,n,q,h=> by
   simp only[iR] at h
   split at h
   ·rename_i hk
    simp only[Option.some.injEq] at h
    subst h
    exact ⟨acm _,e,by simp,rfl,hk⟩
   ·obtain ⟨h1,e',h2,h3⟩:=iw h
    refine ⟨by omega,e',?_,h3⟩
    have:q.1 - n=(q.1 - (n+1))+1:=by omega
    rw[this];exact h2
   ·cases h
def rl (ms:List MapEntry) (n:Nat) (r:Option (Nat×V×Nat)):Option (Nat×Value):=r.bind fun q=>(ms[q.1 - n]?).map fun m=>(q.1,m.val)
theorem x9 {k0:IntKind} {x y:V} {ux uy:Value} {b:Bool} (hx:RV L c x ux) (hy:RV L c y uy) (he:nE none x y=some b):Instr.sameNow (.int k0) ux uy=some b∧∃k a,ux= .int k a:=by
 unfold nE at he
 split at he
 ·rename_i k a k' a' _
  obtain ⟨rfl,_⟩:=bF.1 hx
  obtain ⟨rfl,_⟩:=bF.1 hy
  split at he
  ·rename_i hk;subst hk
   simp only[Option.some.injEq] at he
   subst he
   exact ⟨by simp[Instr.sameNow],k,a,rfl⟩
  ·cases he
 ·rename_i h1;cases h1
 ·cases he
theorem zO {k0:IntKind} {x:V} {ux:Value} (hx:RV L c x ux):∀ {es:List (V×V×Nat)} {ms:List MapEntry} {n:Nat} {r:Option (Nat×V×Nat)},mm L c es ms→iR none x es n=some r→Instr.findNow (.int k0) ux ms n=some (rl ms n r)
 | [],[],n,r,_,h=> by simp only[iR,Option.some.injEq] at h;subst h;rfl
 | e::es,m::ms,n,r,hr,h=> by
   simp only[iR] at h
   split at h
   ·rename_i hk
    simp only[Option.some.injEq] at h;subst h
    simp[Instr.findNow,(x9 (k0:=k0) hx hr.1.1 hk).1,rl]
   ·rename_i hk
    have ih:=zO (k0:=k0) hx hr.2 h
    simp only[Instr.findNow,(x9 (k0:=k0) hx hr.1.1 hk).1,ih,Option.some.injEq]
    cases r with
    | none=> rfl
    | some q=>
      have hle:=(iw h).1
      have:q.1 - n=(q.1 - (n+1))+1:=by omega
      simp[rl,this]
   ·cases h
 | [],_::_,_,_,h,_=> h.elim
 | _::_,[],_,_,h,_=> h.elim
theorem sR {t n:Nat} {el:TypeId} {k:IntKind} {kt:TypeId} (hu:P.underlying kt=some (.array n el)) (cm:P.underlying el=some (.int k)) (cU:P.cellsOf el=1) (ha:L.arr t=some (n,none))
 {x y:V} {ux uy:Value} {b:Bool} (hx:RV L c x ux) (hy:RV L c y uy) (he:nE (some (t,k)) x y=some b):
 (Op.equal kt ux uy).run P w= .ok b w∧∃a:List Int,a.length=n∧ux= .agg (a.map (Value.int k)).toArray∧∃a':List Int,a'.length=n∧uy= .agg (a'.map (Value.int k)).toArray∧b=(a==a'):=by
 unfold nE at he
 split at he
 ·rename_i heq;cases heq
 ·rename_i t' k' t1 es t2 fs h1
  cases h1
  split at he
  case isFalse=> cases he
  rename_i hc
  obtain ⟨rfl,rfl⟩:=hc
  split at he
  case h_2=> cases he
  rename_i a a' gf hib
  simp only[Option.some.injEq] at he
  subst he
  obtain ⟨us,rfl,zN⟩:=(fN rfl).1 hx
  obtain ⟨ws,rfl,nr⟩:=(fN rfl).1 hy
  simp only[RC] at zN nr
  obtain ⟨zN,e1,ha1,_⟩:=zN
  obtain ⟨nr,e2,ha2,_⟩:=nr
  rw[ha] at ha1 ha2
  simp only[Option.some.injEq,Prod.mk.injEq] at ha1 ha2
  obtain ⟨rfl,Hm⟩:=jT gf zN
  obtain ⟨rfl,sI⟩:=jT hib nr
  exact ⟨uK hu cm cU a a' (by omega) (by omega),a,by omega,rfl,a',by omega,rfl,rfl⟩
 ·cases he
theorem zP {t n:Nat} {el:TypeId} {k:IntKind} {kt:TypeId} (hu:P.underlying kt=some (.array n el)) (cm:P.underlying el=some (.int k)) (cU:P.cellsOf el=1) (ha:L.arr t=some (n,none))
 {x:V} {ux:Value} (hx:RV L c x ux):∀ {es:List (V×V×Nat)} {ms:List MapEntry} {m:Nat} {r:Option (Nat×V×Nat)},mm L c es ms→iR (some (t,k)) x es m=some r→(Instr.findAsking kt ux ms m).run P w= .ok (rl ms m r) w
 | [],[],m,r,_,h=> by simp only[iR,Option.some.injEq] at h;subst h;simp[Instr.findAsking,rl]
 | e::es,m'::ms,m,r,hr,h=> by
   simp only[iR] at h
   split at h
   ·rename_i hk
    simp only[Option.some.injEq] at h;subst h
    simp[Instr.findAsking,(sR (w:=w) hu cm cU ha hx hr.1.1 hk).1,rl]
   ·rename_i hk
    have ih:=zP hu cm cU ha hx hr.2 h
    simp only[Instr.findAsking,Sem.run_bind,(sR (w:=w) hu cm cU ha hx hr.1.1 hk).1,Result.andThen_ok,acz,if_false,ih]
    congr 1
    cases r with
    | none=> rfl
    | some q=>
      have hle:=(iw h).1
      have:q.1 - m=(q.1 - (m+1))+1:=by omega
      simp[rl,this]
   ·cases h
 | [],_::_,_,_,h,_=> h.elim
 | _::_,[],_,_,h,_=> h.elim
theorem Nv {kt:TypeId} {k0 k:IntKind} {a:Int} (hu:P.underlying kt=some (.int k0)) (em:Bool) (n:Nat):(Instr.checkKey em (n+1) kt (.int k a)).run P w= .ok () w:=by simp[Instr.checkKey,run_underlying hu]
theorem uL {kt:TypeId} {kc:Option (Nat×IntKind)} (hk:wN P L kt kc) {x:V} {ux:Value} (hx:RV L c x ux) {es:List (V×V×Nat)} {ms:List MapEntry} {r:Option (Nat×V×Nat)} (hr:mm L c es ms) (hf:qm kc x es=some r):
 (∀em,(Instr.checkKey em 10000 kt ux).run P w= .ok () w)∧(Instr.findKey kt ux ms).run P w= .ok (rl ms 0 r) w:=by
 unfold qm at hf
 split at hf
 case isFalse=> cases hf
 rename_i hs
 cases kc with
 | none=>
   obtain ⟨k0,hu⟩:=hk
   obtain ⟨_,k,a,rfl⟩:=x9 (k0:=k0) hx hx hs
   exact ⟨fun em=> Nv hu em 9999,MapKept.run_findKey hu (zO hx hr hf)⟩
 | some q=>
   obtain ⟨t,k⟩:=q
   obtain ⟨n,el,hu,cm,cU,ha⟩:=hk
   obtain ⟨_,a,Hm,rfl,_⟩:=sR (w:=w) hu cm cU ha hx hx hs
   obtain ⟨i,hi⟩:=info_of_underlying cm
   exact ⟨fun em=> qt hu cm hi cU a Hm em 9998,by rw[run_findKey_eq w (by rw[hu])];exact zP hu cm cU ha hx hr hf⟩
theorem rm {es:List (V×V×Nat)} {ms:List MapEntry} {kc:Option (Nat×IntKind)} {x:V} {q:Nat×V×Nat} (hr:mm L c es ms) (h:iR kc x es 0=some (some q)):
 ∃m,ms[q.1]? =some m∧RV L c q.2.1 m.val∧q.2.2=m.born∧rl ms 0 (some q)=some (q.1,m.val):=by
 obtain ⟨_,e,h1,h2,_⟩:=iw h
 rw[afn] at h1
 obtain ⟨m,h3,_,h4,h5⟩:=mm.nth hr h1
 exact ⟨m,h3,by rw[←h2];exact h4,by rw[←h2];exact h5,by simp[rl,h3]⟩
theorem jU {kc:Option (Nat×IntKind)} {x:V} {es:List (V×V×Nat)} {r:Option (Nat×V×Nat)} (h:qm kc x es=some r):iR kc x es 0=some r:=by
 unfold qm at h
 split at h
 ·exact h
 ·cases h
theorem S4 (hs:bp L c h w) {T kt et:TypeId} {kc:Option (Nat×IntKind)} (hm:P.underlying T=some (.map kt et)) (hk:wN P L kt kc) {ok:Bool} {zv:V} (hz:eO P L et zv) {x y:V} {ux uy:Value} (hx:RV L c x ux) (hy:RV L c y uy)
 {v:V} {h':Hp} (ai:zx h kc ok zv x y=some (v,h')):aN L c w ((Instr.lookup T ux uy ok).run P w) v h':=by
 unfold zx at ai
 split at ai
 case h_2=> cases ai
 rename_i id
 split at ai
 case h_2=> cases ai
 rename_i es cl hg
 obtain ⟨r,hf,he⟩:=ach.1 ai
 simp only[Prod.mk.injEq] at he
 obtain ⟨rfl,rfl⟩:=he
 obtain ⟨l,ms,hl,rfl,DG,cD,cO,h3,hr⟩:=nN hs hx hg
 obtain ⟨vj,AG⟩:=uL (w:=w) hk hy hr hf
 obtain ⟨i,z,hi,pq,pL⟩:=hz
 have hzv:(zeroValue et).run P w= .ok z w:=by simp[zeroValue,typeInfo,hi,pq]
 have dL:=MapKept.run_getObj_map (P:=P) h3
 cases r with
 | none=>
   have Hl:rl ms.toList 0 none=none:=rfl
   rw[Hl] at AG
   refine aN.same (u:=if ok then .tuple #[z,.bool false] else z) ?_ ?_ hs
   ·simp only[Instr.lookup,Sem.run_bind,run_underlying hm,Result.andThen_ok,dL,Sem.run_pure,vj,AG,hzv]
   ·cases ok
    ·exact pL c
    ·exact cI.2 ⟨[z,.bool false],rfl,pL c,bF.2 ⟨rfl,rfl⟩,trivial⟩
 | some q=>
   obtain ⟨m,kI,pK,hm3,hm4⟩:=rm hr (jU hf)
   rw[hm4] at AG
   refine aN.same (u:=if ok then .tuple #[m.val,.bool true] else m.val) ?_ ?_ hs
   ·simp only[Instr.lookup,Sem.run_bind,run_underlying hm,Result.andThen_ok,dL,Sem.run_pure,vj,AG]
   ·cases ok
    ·exact pK
    ·exact cI.2 ⟨[m.val,.bool true],rfl,pK,bF.2 ⟨rfl,rfl⟩,trivial⟩
theorem wO (k:IntKind):∀(d:Nat) (a:List Int),((a.map (Value.int k)).zip (a.map (Value.int k))).all (fun p=> Instr.sameBits d p.1 p.2)=true
 | d,[]=> rfl
 | d,x::a=> by
   simp only[acx,List.zip_cons_cons,afS,wO k d a,adC]
   cases d <;> simp[Instr.sameBits]
theorem zQ {kt:TypeId} {kc:Option (Nat×IntKind)} (hk:wN P L kt kc) {x y:V} {ux uy:Value} (hx:RV L c x ux) (hy:RV L c y uy) (he:nE kc x y=some true):uy=ux∧(Instr.keyThatStays uy ux).run P w= .ok ux w:=by
 have key:∀u:Value,Instr.sameBits 10000 u u=true→(Instr.keyThatStays u u).run P w= .ok u w:=fun u hu=> by
   simp only[Instr.keyThatStays,hu,if_true,Sem.run_pure]
 cases kc with
 | none=>
   obtain ⟨k0,hu⟩:=hk
   unfold nE at he
   split at he
   ·rename_i k a k' a' _
    obtain ⟨rfl,_⟩:=bF.1 hx
    obtain ⟨rfl,_⟩:=bF.1 hy
    split at he
    ·rename_i hkk;subst hkk
     have:a=a':=by simpa using he
     subst this
     exact ⟨rfl,key _ (by show Instr.sameBits (9999+1) _ _=true;simp[Instr.sameBits])⟩
    ·cases he
   ·rename_i h1;cases h1
   ·cases he
 | some q=>
   obtain ⟨t,k⟩:=q
   obtain ⟨n,el,hu,cm,cU,ha⟩:=hk
   obtain ⟨_,a,Hm,rfl,a',acf,rfl,hb⟩:=sR (w:=w) hu cm cU ha hx hy he
   have:a=a':=by simpa using hb.symm
   subst this
   refine ⟨rfl,key _ ?_⟩
   show Instr.sameBits (9999+1) _ _=true
   simp only[Instr.sameBits,beq_self_eq_true,adq]
   exact wO k 9999 a
theorem pA {ms:Array MapEntry} {i:Nat} {m:MapEntry} {f:MapEntry→MapEntry} (h:ms.toList[i]? =some m):(ms.modify i f).toList=ms.toList.set i (f m):=by
 rw[Array.toList_modify]
 apply adl
 intro j
 have bR:=(acj.1 h).1
 rw[List.getElem?_modify,ac7]
 by_cases c:i=j
 ·subst c;rw[if_pos rfl,if_pos bR,h];simp
 ·rw[if_neg c];simp[c]
theorem St.heap (w:World) (i:Nat) (o:Obj):St w {w with heap:=w.heap.setIfInBounds i o}:=⟨rfl,rfl,rfl,by simp⟩
theorem Kn (hs:bp L c h w) {T kt et:TypeId} {kc:Option (Nat×IntKind)} (hm:P.underlying T=some (.map kt et)) (hk:wN P L kt kc) {g:Option Nat} {x y z:V} {ux uy uz:Value} (hx:RV L c x ux) (hy:RV L c y uy) (hz:RV L c z uz)
 {base:Nat} {v:V} {h':Hp} (ai:zy base h kc g x y z=some (v,h')):∃w',(Instr.mapUpdate T ux uy uz).run P w= .ok () w'∧v= .bP []∧bp L c h' w'∧St w w':=by
 unfold zy at ai
 split at ai
 case h_2=> cases ai
 rename_i id
 split at ai
 case isFalse=> cases ai
 split at ai
 case h_2=> cases ai
 rename_i es cl hg
 obtain ⟨r,hf,he⟩:=ach.1 ai
 obtain ⟨l,ms,hl,rfl,DG,cD,cO,h3,hr⟩:=nN hs hx hg
 obtain ⟨vj,AG⟩:=uL (w:=w) hk hy hr hf
 have dL:=MapKept.run_getObj_map (P:=P) h3
 have qI:=fun o=> MapKept.run_setObj_map (P:=P) o h3
 cases r with
 | none=>
   cases he
   have Hl:rl ms.toList 0 none=none:=rfl
   rw[Hl] at AG
   refine ⟨_,?_,rfl,nO hs hl DG cD cO h3 (ms':=ms.push ⟨uy,uz,cl⟩) (by rw[Array.toList_push];exact mm.snoc (m:=⟨uy,uz,cl⟩) ⟨hy,hz,rfl⟩ hr),St.heap _ _ _⟩
   simp only[Instr.mapUpdate,Sem.run_bind,run_underlying hm,Result.andThen_ok,dL,vj,AG,qI]
 | some q=>
   obtain ⟨i,v0,b⟩:=q
   cases he
   obtain ⟨m,kI,pK,hm3,hm4⟩:=rm hr (jU hf)
   rw[hm4] at AG
   simp only at kI hm3 AG
   obtain ⟨_,e,q1,q2,q3⟩:=iw (jU hf)
   simp only[afn] at q1
   obtain ⟨m',Ko,Kq,_,_⟩:=mm.nth hr q1
   rw[kI] at Ko;cases Ko
   obtain ⟨vQ,aR⟩:=zQ (w:=w) hk hy Kq q3
   have hmi:ms[i]? =some m:=by rw[←Array.getElem?_toList];exact kI
   refine ⟨_,?_,rfl,nO hs hl DG cD cO h3 (ms':=ms.modify i fun e=> {e with key:=uy,val:=uz}) (by rw[pA kI];exact mm.set (m:= {m with key:=uy,val:=uz}) ⟨hy,hz,hm3⟩ i hr),St.heap _ _ _⟩
   simp only[Instr.mapUpdate,Sem.run_bind,run_underlying hm,Result.andThen_ok,dL,vj,AG,hmi,acO,acX,aR,qI]
theorem S5 (hs:bp L c h w) {T kt et:TypeId} {kc:Option (Nat×IntKind)} (hm:P.underlying T=some (.map kt et)) (hk:wN P L kt kc) {zv:V} (hz:eO P L et zv) {x y:V} {ux uy:Value} (hx:RV L c x ux) (hy:RV L c y uy)
 {base:Nat} {v:V} {h':Hp} (ai:zz base h kc zv x y=some (v,h')):aN L c w ((Instr.mapEntry T ux uy).run P w) v h':=by
 unfold zz at ai
 split at ai
 case h_2=> cases ai
 rename_i id
 split at ai
 case isFalse=> cases ai
 split at ai
 case h_2=> cases ai
 rename_i es cl hg
 obtain ⟨r,hf,he⟩:=ach.1 ai
 obtain ⟨l,ms,hl,rfl,DG,cD,cO,h3,hr⟩:=nN hs hx hg
 obtain ⟨vj,AG⟩:=uL (w:=w) hk hy hr hf
 have dL:=MapKept.run_getObj_map (P:=P) h3
 have qI:=fun o=> MapKept.run_setObj_map (P:=P) o h3
 obtain ⟨i0,z,hi,pq,pL⟩:=hz
 have hzv:(zeroValue et).run P w= .ok z w:=by simp[zeroValue,typeInfo,hi,pq]
 cases r with
 | none=>
   cases he
   have Hl:rl ms.toList 0 none=none:=rfl
   rw[Hl] at AG
   refine ⟨.tuple #[z,goInt cl],c,_,?_,cI.2 ⟨[z,goInt cl],rfl,pL c,bF.2 ⟨rfl,rfl⟩,trivial⟩,nO hs hl DG cD cO h3 (ms':=ms.push ⟨uy,z,cl⟩) (by rw[Array.toList_push];exact mm.snoc (m:=⟨uy,z,cl⟩) ⟨hy,pL c,rfl⟩ hr),Ctx.le_refl c,St.heap _ _ _⟩
   simp only[Instr.mapEntry,Sem.run_bind,run_underlying hm,Result.andThen_ok,dL,vj,AG,hzv,qI,Sem.run_pure]
 | some q=>
   obtain ⟨i,v0,b⟩:=q
   cases he
   obtain ⟨m,kI,pK,hm3,hm4⟩:=rm hr (jU hf)
   rw[hm4] at AG
   simp only at kI pK hm3 AG
   obtain ⟨_,e,q1,q2,q3⟩:=iw (jU hf)
   simp only[afn] at q1
   obtain ⟨m',Ko,Kq,_,_⟩:=mm.nth hr q1
   rw[kI] at Ko;cases Ko
   obtain ⟨vQ,aR⟩:=zQ (w:=w) hk hy Kq q3
   have hmi:ms[i]? =some m:=by rw[←Array.getElem?_toList];exact kI
   refine ⟨.tuple #[m.val,goInt m.born],c,_,?_,cI.2 ⟨[m.val,goInt m.born],rfl,pK,bF.2 ⟨by rw[hm3];rfl,rfl⟩,trivial⟩,nO hs hl DG cD cO h3 (ms':=ms.modify i fun e=> {e with key:=uy}) (by rw[pA kI];exact mm.set (m:= {m with key:=uy}) ⟨hy,pK,hm3⟩ i hr),Ctx.le_refl c,St.heap _ _ _⟩
   simp only[Instr.mapEntry,Sem.run_bind,run_underlying hm,Result.andThen_ok,dL,vj,AG,hmi,acO,acX,aR,qI,Sem.run_pure]
theorem S6 (hs:bp L c h w) {T kt et:TypeId} (hm:P.underlying T=some (.map kt et)) {ty:TypeId} {x:V} {ux:Value} (hx:RV L c x ux) {v:V} {h':Hp} (ai:zC h x=some (v,h')):aN L c w ((Builtin.len_ #[T] ty #[ux]).run P w) v h':=by
 unfold zC at ai
 split at ai
 case h_2=> cases ai
 rename_i id
 split at ai
 case h_2=> cases ai
 rename_i es cl hg
 simp only[Option.some.injEq,Prod.mk.injEq] at ai
 obtain ⟨rfl,rfl⟩:=ai
 obtain ⟨l,ms,hl,rfl,DG,cD,cO,h3,hr⟩:=nN hs hx hg
 have dL:=MapKept.run_getObj_map (P:=P) h3
 have hlen:es.length=ms.size:=by rw[mm.length hr];simp
 refine aN.same (u:=goInt es.length) ?_ (bF.2 ⟨rfl,rfl⟩) hs
 simp[Builtin.len_,underlying,hm,goInt,dL,hlen]
theorem wP {n:Int} {v:V} {u:Value} (hv:RV L c v u):∀ {es es':List (V×V×Nat)} {ms:List MapEntry},mm L c es ms→zA n v es=some es'→∃i m,ms.findIdx? (fun e=>(e.born:Int)==n)=some i∧ms[i]? =some m∧mm L c es' (ms.set i {m with val:=u})
 | [],es',[],_,h=> by simp[zA] at h
 | e::es,es',m::ms,hr,h=> by
   simp only[zA] at h
   split at h
   ·rename_i hn
    cases h
    refine ⟨0,m,?_,rfl,⟨hr.1.1,hv,hr.1.2.2⟩,hr.2⟩
    rw[List.findIdx?_cons,if_pos]
    rw[←hr.1.2.2];simpa using hn
   ·rename_i hn
    obtain ⟨q,hq,rfl⟩:=ach.1 h
    obtain ⟨i,m',h1,h2,h3⟩:=wP hv hr.2 hq
    refine ⟨i+1,m',?_,h2,hr.1,h3⟩
    rw[List.findIdx?_cons,if_neg,h1]
    ·rfl
    ·rw[←hr.1.2.2];simpa using hn
 | [],_,_::_,h,_=> h.elim
 | _::_,_,[],h,_=> h.elim
theorem S7 (hs:bp L c h w) {T:TypeId} {g:Option Nat} {x y z:V} {ux uy uz:Value} (hx:RV L c x ux) (hy:RV L c y uy) (hz:RV L c z uz)
 {base:Nat} {v:V} {h':Hp} (ai:zB base h g x y z=some (v,h')):∃w',(Instr.entryStore T ux uy uz).run P w= .ok () w'∧v= .bP []∧bp L c h' w'∧St w w':=by
 unfold zB at ai
 split at ai
 case h_2=> cases ai
 rename_i id k n
 split at ai
 case isFalse=> cases ai
 split at ai
 case h_2=> cases ai
 rename_i es cl hg
 obtain ⟨es',hf,he⟩:=ach.1 ai
 cases he
 obtain ⟨l,ms,hl,rfl,DG,cD,cO,h3,hr⟩:=nN hs hx hg
 obtain ⟨rfl,_⟩:=bF.1 hy
 have dL:=MapKept.run_getObj_map (P:=P) h3
 have qI:=fun o=> MapKept.run_setObj_map (P:=P) o h3
 obtain ⟨i,m,h1,h2,h4⟩:=wP hz hr hf
 have h1':ms.findIdx? (fun e=>(e.born:Int)==n)=some i:=by have:=h1;cases ms;simpa using this
 refine ⟨_,?_,rfl,nO hs hl DG cD cO h3 (ms':=ms.modify i fun e=> {e with val:=uz}) (by rw[pA h2];exact h4),St.heap _ _ _⟩
 simp only[Instr.entryStore,Sem.run_bind,dL,Result.andThen_ok,asInt,asIntOf,Sem.run_pure,h1',qI]
end Go.Vm
namespace Go.Vm
variable {P : Program} {L : cG} {c : Ctx} {h : Hp} {w : World}
def LK.lit :LK→Value→Option Lit
 | .i k,.int q n=> if q=k∧(Lit.int k n).wf=true then some (.int k n) else none
 | .b,.bool c=> some (.bool c)
 | .s,.string x=> if x.size≤maxLen then some (.string x.data.toList) else none
 | _,_=> none
def dr :List LK→List Value→Option (List Lit)
 | [],[]=> some []
 | k::ks,v::vs=> match k.lit v,dr ks vs with | some a,some b=> some (a::b) | _,_=> none
 | _,_=> none
theorem FH {k:LK} {v:Value} (h:J9 k v=true):∃a,k.lit v=some a:=by
 unfold J9 at h
 split at h
 ·rename_i k q n
  obtain ⟨h1,h2,h3⟩:=of_decide_eq_true h
  exact ⟨_,by simp only[LK.lit];exact if_pos ⟨h1,by simp[Lit.wf,h2,h3]⟩⟩
 ·exact ⟨_,rfl⟩
 ·rename_i s
  have:=of_decide_eq_true h
  have hm:140737488351232≤maxLen:=by decide
  exact ⟨_,by simp only[LK.lit];exact if_pos (acN this hm)⟩
 ·cases h
theorem nP :∀ {ks:List LK} {vs:List Value},uj ks vs=true→∃as,dr ks vs=some as
 | [],[],_=>⟨[],rfl⟩
 | k::ks,v::vs,h=> by
   simp only[uj,acn] at h
   obtain ⟨a,ha⟩:=FH h.1
   obtain ⟨as,has⟩:=nP h.2
   exact ⟨a::as,by simp only[dr,ha,has]⟩
 | [],_::_,h=> by cases h
 | _::_,[],h=> by cases h
theorem Ca {k:LK} {u v:Value} {a b:Lit} (ha:k.lit u=some a) (hb:k.lit v=some b):uk u v=true↔a=b:=by
 cases k with
 | i k=>
   cases u <;> simp only[LK.lit] at ha <;> first | (cases ha;done) | skip
   cases v <;> simp only[LK.lit] at hb <;> first | (cases hb;done) | skip
   split at ha <;> first | (cases ha;done) | skip
   split at hb <;> first | (cases hb;done) | skip
   cases ha;cases hb
   simp[uk]
 | b=>
   cases u <;> simp only[LK.lit] at ha <;> first | (cases ha;done) | skip
   cases v <;> simp only[LK.lit] at hb <;> first | (cases hb;done) | skip
   cases ha;cases hb
   simp[uk]
 | s=>
   cases u <;> simp only[LK.lit] at ha <;> first | (cases ha;done) | skip
   cases v <;> simp only[LK.lit] at hb <;> first | (cases hb;done) | skip
   split at ha <;> first | (cases ha;done) | skip
   split at hb <;> first | (cases hb;done) | skip
   cases ha;cases hb
   simp[uk]
theorem oZ :∀ {ks:List LK} {us vs:List Value} {as bs:List Lit},dr ks us=some as→dr ks vs=some bs→(gJ us vs=true↔as=bs)
 | [],[],[],as,bs,ha,hb=> by cases ha;cases hb;simp[gJ]
 | k::ks,u::us,v::vs,as,bs,ha,hb=> by
   simp only[dr] at ha hb
   split at ha
   case h_2=> cases ha
   rename_i a as' h1 h2
   split at hb
   case h_2=> cases hb
   rename_i b bs' h3 h4
   cases ha;cases hb
   simp only[gJ,acn,List.cons.injEq,Ca h1 h3,oZ h2 h4]
 | [],[],_::_,_,_,_,hb=> by cases hb
 | [],_::_,_,_,_,ha,_=> by cases ha
 | _::_,[],_,_,_,ha,_=> by cases ha
 | _::_,_::_,[],_,_,_,hb=> by cases hb
theorem kV :∀ {a b:List LK} {us:List Value} {l:List Lit},dr (a++b) us=some l→∃l1 l2,l=l1++l2∧dr a (us.take a.length)=some l1∧dr b (us.drop a.length)=some l2
 | [],b,us,l,h=>⟨[],l,rfl,by simp[dr],by simpa using h⟩
 | k::a,b,[],l,h=> by cases h
 | k::a,b,u::us,l,h=> by
   simp only[ade,dr] at h
   split at h
   case h_2=> cases h
   rename_i x xs h1 h2
   cases h
   obtain ⟨l1,l2,rfl,h3,h4⟩:=kV h2
   exact ⟨x::l1,l2,rfl,by simp only[acR,adV,dr,h1,h3],by simpa using h4⟩
theorem mr :∀ {ks:List LK} {us:List Value} {l:List Lit},dr ks us=some l→us.length=ks.length
 | [],[],_,_=> rfl
 | k::ks,u::us,l,h=> by
   simp only[dr] at h
   split at h
   case h_2=> cases h
   rename_i h1 h2
   simp[mr h2]
 | [],_::_,_,h=> by cases h
 | _::_,[],_,h=> by cases h
def sS (f:TypeId→Option (List LK)) (P:Program):List Field→Nat→Option (List LK)
 | [],_=> some []
 | x::xs,off=> match f x.type,sS f P xs (off+P.cellsOf x.type) with
   | some a,some b=> if x.offset=off∧a.length=P.cellsOf x.type∧x.name≠ "_" then some (a++b) else none
   | _,_=> none
def jt (P:Program):Nat→TypeId→Option (List LK)
 | 0,_=> none
 | d+1,t=> match P.underlying t with
   | some .bool=> some [.b]
   | some (.int k)=> some [.i k]
   | some .string=> some [.s]
   | some (.array n e)=> match jt P d e with
     | some a=> if a.length=P.cellsOf e∧n * a.length=P.cellsOf t then some (List.replicate n a).flatten else none
     | none=> none
   | some (.struct fs)=> match sS (jt P d) P fs.toList 0 with
     | some a=> if a.length=P.cellsOf t then some a else none
     | none=> none
   | _=> none
theorem uM {d e sz:Nat} {a:List LK} {us:List Value} (ih:∀us l,dr a us=some l→P.keyLits d e us=some l) (cU:a.length=sz):∀(n s:Nat) (l:List Lit),dr (List.replicate n a).flatten (us.drop (s * sz))=some l→
 ∃ls,(List.range' s n).mapM (fun i=> P.keyLits d e ((us.drop (i * sz)).take sz))=some ls∧ls.flatten=l
 | 0,s,l,h=> by
   refine ⟨[],by simp,?_⟩
   simp only[afb,afz] at h
   cases hu:us.drop (s * sz) with
   | nil=> rw[hu] at h;cases h;rfl
   | cons x xs=> rw[hu] at h;cases h
 | n+1,s,l,h=> by
   rw[aeh,aed] at h
   obtain ⟨l1,l2,rfl,h1,h2⟩:=kV h
   rw[cU] at h1 h2
   rw[adn] at h2
   obtain ⟨ls,h3,h4⟩:=uM ih cU n (s+1) l2 (by rw[adG,ae3];exact h2)
   refine ⟨l1::ls,?_,by rw[aed,h4]⟩
   rw[aew,adW,ih _ _ h1]
   simp only[Option.bind_eq_bind,ad6,h3]
   rfl
theorem rQ {d:Nat} {us:List Value} (ih:∀t ks us l,jt P d t=some ks→dr ks us=some l→P.keyLits d t us=some l):∀(fs:List Field) (off:Nat) (ks:List LK) (l:List Lit),sS (jt P d) P fs off=some ks→dr ks (us.drop off)=some l→
 (fs.all fun f=> f.name != "_")=true∧∃ls,fs.mapM (fun f=> P.keyLits d f.type ((us.drop f.offset).take (P.cellsOf f.type)))=some ls∧ls.flatten=l
 | [],off,ks,l,h1,h2=> by
   cases h1
   refine ⟨rfl,[],by simp,?_⟩
   cases hu:us.drop off with
   | nil=> rw[hu] at h2;cases h2;rfl
   | cons x xs=> rw[hu] at h2;cases h2
 | f::fs,off,ks,l,h1,h2=> by
   simp only[sS] at h1
   split at h1
   case h_2=> cases h1
   rename_i a b h3 h4
   split at h1
   case isFalse=> cases h1
   rename_i hc
   obtain ⟨rfl,hl,hn⟩:=hc
   cases h1
   obtain ⟨l1,l2,rfl,h5,h6⟩:=kV h2
   rw[hl] at h5 h6
   rw[adn] at h6
   obtain ⟨h7,ls,h8,h9⟩:=rQ ih fs _ b l2 h4 h6
   refine ⟨by simp[hn];simpa using h7,l1::ls,?_,by rw[aed,h9]⟩
   rw[adW,ih _ _ _ _ h3 h5]
   simp only[Option.bind_eq_bind,ad6,h8]
   rfl
theorem mu :∀(d:Nat) (t:TypeId) (ks:List LK) (us:List Value) (l:List Lit),jt P d t=some ks→dr ks us=some l→P.keyLits d t us=some l
 | 0,t,ks,us,l,h,_=> by cases h
 | d+1,t,ks,us,l,h,hl=> by
   have one:∀k:LK,dr [k] us=some l→∃u a,us=[u]∧k.lit u=some a∧l=[a]:=by
     intro k hk
     cases us with
     | nil=> cases hk
     | cons u us=>
       simp only[dr] at hk
       split at hk
       case h_2=> cases hk
       rename_i a b h1 h2
       cases us with
       | nil=> cases h2;cases hk;exact ⟨u,a,rfl,h1,rfl⟩
       | cons _ _=> cases h2
   simp only[jt] at h
   split at h
   ·rename_i hu;cases h
    obtain ⟨u,a,rfl,h1,rfl⟩:=one _ hl
    cases u <;> simp only[LK.lit] at h1 <;> first | (cases h1;done) | skip
    cases h1
    simp[Program.keyLits,hu]
   ·rename_i k hu;cases h
    obtain ⟨u,a,rfl,h1,rfl⟩:=one _ hl
    cases u <;> simp only[LK.lit] at h1 <;> first | (cases h1;done) | skip
    split at h1 <;> first | (cases h1;done) | skip
    rename_i hc
    obtain ⟨rfl,hc⟩:=hc
    cases h1
    simp[Program.keyLits,hu,hc]
   ·rename_i hu;cases h
    obtain ⟨u,a,rfl,h1,rfl⟩:=one _ hl
    cases u <;> simp only[LK.lit] at h1 <;> first | (cases h1;done) | skip
    split at h1 <;> first | (cases h1;done) | skip
    rename_i hc
    cases h1
    simp[Program.keyLits,hu,hc]
   ·rename_i n e hu
    split at h
    case h_2=> cases h
    rename_i a ha
    split at h
    case isFalse=> cases h
    rename_i hc
    cases h
    obtain ⟨ls,h1,h2⟩:=uM (P:=P) (d:=d) (e:=e) (us:=us) (fun us l hl=> mu d e a us l ha hl) hc.1 n 0 l (by simpa using hl)
    have hlen:us.length=P.cellsOf t:=by
      rw[mr hl,←hc.2];simp[List.length_flatten]
    simp only[Program.keyLits,hu,hlen,if_true,adK,h1,acO,h2]
   ·rename_i fs hu
    split at h
    case h_2=> cases h
    rename_i a ha
    split at h
    case isFalse=> cases h
    rename_i hc
    cases h
    obtain ⟨h0,ls,h1,h2⟩:=rQ (P:=P) (d:=d) (us:=us) (fun t ks us l=> mu d t ks us l) fs.toList 0 ks l ha (by simpa using hl)
    have hlen:us.length=P.cellsOf t:=by rw[mr hl,hc]
    have h0':fs.all (fun f=> f.name != "_")=true:=by rw[←Array.all_toList];exact h0
    simp only[Program.keyLits,hu,hlen,h0',and_self,if_true,h1,acO,h2]
   ·cases h
theorem uN :∀(v:V) (xs us:List Value),v.flat=some xs→RC L c v us→us=xs:=by
 intro v
 induction v using V.rec (motive_2:=fun vs=>∀xs us,V.flat.all vs=some xs→cB L c vs us→us=xs) with
 | s x=> intro xs us h hr;simp only[V.flat] at h;cases h;simp only[RC] at hr;exact hr.1
 | st t fs ih=> intro xs us h hr;simp only[V.flat] at h;simp only[RC] at hr;exact ih _ _ h hr.1
 | arr t fs ih=> intro xs us h hr;simp only[V.flat] at h;simp only[RC] at hr;exact ih _ _ h hr.1
 | nil=> rename_i xs us h hr;simp only[V.flat.all] at h;cases h;simpa only[cB] using hr
 | cons v vs ih ihs=>
   rename_i xs us h hr
   simp only[V.flat.all] at h
   split at h
   case h_2=> cases h
   rename_i a b h1 h2
   cases h
   simp only[cB] at hr
   obtain ⟨u1,u2,rfl,h3,h4⟩:=hr
   rw[ih _ _ h1 h3,ihs _ _ h2 h4]
 | _=> intro xs us h hr;simp[V.flat] at h
theorem Kr (hs:bp L c h w) {T t m:Nat} {fs:Array Field} {ks:List LK} (hm:m≤10000) (hu:P.underlying T=some (.struct fs)) (hk:P.keyTypeAt m T=true) (A8:jt P m T=some ks) (hgd:P.eqGuardType P.depth T=false)
 {op:BinOp} {neg:Bool} (FG:(op= .eql∧neg=false)∨(op= .neq∧neg=true)) {X Y:Operand} {x y:V} {ux uy:Value} (hx:RV L c x ux) (hy:RV L c y uy) {v:V} {h':Hp} (ai:wv h t ks neg x y=some (v,h')):
 aN L c w ((do eqGuard op T X Y ux uy;binOp op T ux uy:Sem Value).run P w) v h':=by
 unfold wv at ai
 split at ai
 case h_2=> cases ai
 rename_i t1 es t2 gs
 split at ai
 case isFalse=> cases ai
 rename_i hc
 obtain ⟨rfl,rfl⟩:=hc
 split at ai
 case h_2=> cases ai
 rename_i as bs gf hib
 split at ai
 case isFalse=> cases ai
 rename_i hl
 obtain ⟨rfl,rfl⟩:=rk ai
 obtain ⟨us,rfl,zN⟩:=(fN rfl).1 hx
 obtain ⟨ws,rfl,nr⟩:=(fN rfl).1 hy
 obtain rfl:=uN (.st t2 es) _ _ (by simpa only[V.flat] using gf) zN
 obtain rfl:=uN (.st t2 gs) _ _ (by simpa only[V.flat] using hib) nr
 obtain ⟨la,hla⟩:=nP hl.1
 obtain ⟨lb,hlb⟩:=nP hl.2
 have ka:=mu m T ks _ _ A8 hla
 have kb:=mu m T ks _ _ A8 hlb
 have hlen:ks.length=P.cellsOf T:=by
   cases m with
   | zero=> cases A8
   | succ m=>
     simp only[jt,hu] at A8
     split at A8
     case h_2=> cases A8
     split at A8
     case isFalse=> cases A8
     rename_i hc
     cases A8;exact hc
 have fa:∀us:List Value,dr ks us≠none→(Value.agg us.toArray).formed P T=true:=fun us h=> by
   cases hq:dr ks us with
   | none=> exact absurd hq h
   | some l=> simp[Value.formed,hu,mr hq,hlen]
 obtain ⟨r,hr,abt⟩:=run_equalIn_deep (P:=P) (10000 - m) m T hk w m m (.agg us.toArray) (.agg ws.toArray) la lb (fa us (by rw[hla];simp)) (fa ws (by rw[hlb];simp)) (by simpa[Value.cells] using ka) (by simpa[Value.cells] using kb)
 rw[show 10000 - m+m=10000 by omega] at hr
 have ng:r=gJ us ws:=by
   rw[afK,abt,oZ hla hlb]
 subst ng
 have uJ:=run_eqGuard_agg (P:=P) w op T X Y us.toArray ws.toArray hgd
 rcases FG with ⟨rfl,rfl⟩ | ⟨rfl,rfl⟩
 ·refine aN.same (u:= .bool (gJ us ws)) ?_ (bF.2 ⟨rfl,rfl⟩) hs
  simp only[Sem.run_bind,uJ,Result.andThen_ok,run_eql_struct,hr]
 ·refine aN.same (u:= .bool !(gJ us ws)) ?_ (bF.2 ⟨rfl,rfl⟩) hs
  simp only[Sem.run_bind,uJ,Result.andThen_ok,run_neq_struct,hr]
theorem S8 (hL:L.OK) (hs:bp L c h w) {T el:TypeId} {n t:Nat} {g:Option Nat} (hu:P.underlying T=some (.array n el)) (ha:L.arr t=some (n,g)) {x:V} {ux:Value} (hx:RV L c x ux) {v:V} {h':Hp} (ai:vN h t g n x=some (v,h')):
 aN L c w ((Instr.arrayAt T ux).run P w) v h':=by
 unfold vN at ai
 obtain ⟨⟨v1,h1⟩,hk,hq⟩:=acr.1 ai
 clear ai
 simp only at hq
 split at hq
 case h_2=> cases hq
 rename_i full g' es
 split at hq
 case isFalse=> cases hq
 rename_i hc
 obtain ⟨rfl,Ej,hn⟩:=hc
 cases hq
 obtain ⟨u,c1,w1,hr,hv,vR,hle,aR⟩:=zK hL (aN.same (r:= .ok ux w) rfl hx hs) hk
 cases hr
 obtain ⟨a,k,rfl,h2,h3,h4,h5⟩:=dh.1 hv
 have cC:es≠[]:=by intro e;subst e;simp at hn;omega
 rcases h5 with h5 | ⟨b,off,cs,ty,fz,rfl,hz,gk⟩
 ·exact absurd h5 cC
 refine ⟨.pointer (some ⟨b,off,none⟩),c1,_,?_,gL.2 ⟨b,off,cs,ty,fz,rfl,hz,?_⟩,vR,hle,aR⟩
 ·have:¬es.length < n:=by omega
  simp[Instr.arrayAt,run_underlying hu,this]
 ·have cU:L.aD (V.arr t (es.take n)).ty=n * L.aD g':=by
    simp only[V.ty,cG.aD];exact hL.ar _ _ _ ha
  rw[cU]
  simp only[RC]
  have hlen:(es.take n).length=n:=by simp;omega
  refine ⟨?_,g',by rw[hlen];exact ha,fun e he=> h4 e (acA he)⟩
  have h6:=(fq hL gk (fun e he=>(h4 e he).1) n hn).1
  have:(og cs off (es.length * L.aD g')).take (n * L.aD g')=og cs off (n * L.aD g'):=by
    unfold og
    rw[ads,acZ (acE _ hn)]
  rw[this] at h6;exact h6
end Go.Vm
namespace Go.Vm
def qu (P:Program) (fields:Array Field) (gs:List (Option Nat)) (i:Nat):Bool:=
 match fields[i]?,gs[i]? with
 | some f,some g=> decide (g=aE P f.type)&& oY P f.type && f.offset==((gs.take i).map (ak P).aD).sum
 | _,_=> false
theorem pC {P:Program} {fields:Array Field} {gs:List (Option Nat)} {i:Nat} (h:qu P fields gs i=true):
 ∃f g,fields[i]? =some f∧gs[i]? =some g∧TG P (ak P) f.type g∧f.offset=((gs.take i).map (ak P).aD).sum:=by
 unfold qu at h
 split at h
 ·rename_i f g h1 h2
  simp only[acn,decide_eq_true_eq,beq_iff_eq] at h
  obtain ⟨⟨rfl,h3⟩,h4⟩:=h
  exact ⟨f,_,h1,h2,cM h3,h4⟩
 ·cases h
def zeroOf (P:Program) (obj:Nat→Bool) (t:TypeId):Option V:=
 match zv P (match aE P t with | some n=> obj n | none=> false) 20 t with
 | some z=> if Kk P t z && decide (z.ty=aE P t)&& z.aA then some z else none
 | none=> none
theorem cZ {P:Program} {obj:Nat→Bool} {t:TypeId} {z:V} (h:zeroOf P obj t=some z):eO P (ak P) t z∧z.ty=aE P t∧z.aA=true:=by
 unfold zeroOf at h
 split at h
 case h_2=> cases h
 split at h
 ·rename_i hc
  simp only[Option.some.injEq] at h
  subst h
  simp only[acn,decide_eq_true_eq] at hc
  exact ⟨Kl hc.1.1,hc.1.2,hc.2⟩
 ·cases h
def Ze :TypeDesc→Option Cl
 | .int _=> some .num
 | .string=> some .num
 | .bool=> some .tru
 | .pointer _=> some .ptr
 | _=> none
def Ks (P:Program) (t:TypeId):Bool:=match P.underlying t with | some (.int .u8)=> true | _=> false
def Kt (P:Program) (t:TypeId):Bool:=match P.underlying t with | some (.int .i32)=> true | _=> false
def abR :TypeDesc→Bool
 | .int _=> true
 | _=> false
def DJ :TypeDesc→Bool
 | .interface _=> false
 | _=> true
def Cb (fields:Array Field) (i:Nat):TypeId:=match fields[i]? with | some f=> f.type | none=> 0
def S9 (b:Bool) (g:Option Nat) (z:List V) (p:List Nat):O:=bif b then .bsx g z p else .gT g z p
def FI (b:Bool) (g:Option Nat) (n:Nat):O:=bif b then .apx g n else .app g n
theorem Ku {b:Bool} {g g':Option Nat} {z z':List V} {p p':List Nat} (h:S9 b g z p= .gT g' z' p'):g=g'∧z=z'∧p=p':=by
 cases b <;> cases h
 exact ⟨rfl,rfl,rfl⟩
theorem Kv (b:Bool) (g g':Option Nat) (n:Nat) (z:List V) (p:List Nat):(FI b g n= .gT g' z p)=False:=by cases b <;> simp[FI]
theorem Kw {cf:Nat→List V→Hp→Option (V×Hp)} {base:Nat} {h:Hp} {b:Bool} {g:Option Nat} {z:List V} {p:List Nat} {xs:List V} {r:V×Hp} (hr:aC cf base h (S9 b g z p) xs=some r):uu h g z p xs=some r∨oT h g z p xs=some r:=by
 cases b
 ·exact .inr hr
 ·exact .inl hr
theorem Kx {cf:Nat→List V→Hp→Option (V×Hp)} {base:Nat} {h:Hp} {b:Bool} {g:Option Nat} {n:Nat} {x y:V} {r:V×Hp} (hr:aC cf base h (FI b g n) [x,y]=some r):PB base h g n x y=some r∨oM base h g n x y=some r:=by
 cases b
 ·exact .inr hr
 ·exact .inl hr
def FJ (P:Program) (kt:TypeId):Option (Option (Nat×IntKind)):=
 match P.underlying kt with
 | some (.int _)=> some none
 | some (.array n el)=> match P.underlying el,aE P kt with
   | some (.int k),some t=> if P.cellsOf el=1∧(ak P).arr t=some (n,none) then some (some (t,k)) else none
   | _,_=> none
 | _=> none
theorem sU {P:Program} {kt:TypeId} {kc:Option (Nat×IntKind)} (h:FJ P kt=some kc):wN P (ak P) kt kc:=by
 unfold FJ at h
 split at h
 ·rename_i k hu;cases h;exact ⟨k,hu⟩
 ·rename_i n el hu
  split at h
  ·rename_i k t cm ht
   split at h
   ·rename_i hc;cases h;exact ⟨n,el,hu,cm,hc.1,hc.2⟩
   ·cases h
  ·cases h
 ·cases h
def sV (P:Program) (obj:Nat→Bool) (ty:TypeId):Op→Option (O×List X)
 | .move x=>(eP P ty x).map fun x=>(.mv,[x])
 | .assign x=>(eP P ty x).map fun x=>(.mv,[x])
 | .pick c a b=>(cH P [(ty,c),(ty,a),(ty,b)]).map fun xs=>(.pick,xs)
 | .alloc e=>(zeroOf P obj e).map fun z=>(.eS (aE P e) z,[])
 | .box e x=>(eP P e x).map fun x=>(.box (aE P e),[x])
 | .build t parts=> match P.underlying t,aE P t,zeroOf P obj t with
   | some (.struct fields),some tag,some (.st tag' zero)=> match (ak P).fields tag with
     | some gs=> if tag'=tag∧fields.size=gs.length∧(List.range fields.size).all (qu P fields gs)=true then
         (cH P (parts.toList.map fun p=>(Cb fields p.1,p.2))).map fun xs=>(.dN tag zero (parts.toList.map (·.1)),xs)
       else none
     | none=> none
   | some (.array n el),some tag,some (.arr tag' zero)=>
     if tag'=tag∧oY P el=true∧(ak P).arr tag=some (n,aE P el) then
      (cH P (parts.toList.map fun p=>(el,p.2))).map fun xs=>(.jD tag zero (parts.toList.map (·.1)),xs)
     else none
   | _,_,_=> none
 | .buildSlice t n parts=> match P.underlying t with
   | some (.slice el)=> match zeroOf P obj el with
     | some z=> if oY P el=true∧0 <(ak P).aD (aE P el)∧n *(ak P).aD (aE P el)≤16777216 then
         (cH P (parts.toList.map fun p=>(el,p.2))).map fun xs=>(S9 (obj (5000000+t)) (aE P el) (List.replicate n z) (parts.toList.map (·.1)),xs)
       else none
     | none=> none
   | _=> none
 | .load t x=> if oY P t=true then (eP P t x).map fun x=>(.ld (aE P t),[x]) else none
 | .store t x y=> if oY P t=true then (cH P [(t,x),(t,y)]).map fun xs=>(.aY (aE P t),xs) else none
 | .nilCheck x=>(eP P ty x).map fun x=>(.aU,[x])
 | .binOp op T x y T'=> match P.underlying T with
   | some (.array n el)=> match P.underlying el,aE P T,op with
     | some (.int k),some tag,.eql=> if oY P el=true∧(ak P).arr tag=some (n,aE P el)∧P.eqGuardType P.depth T=false then (cH P [(T,x),(T',y)]).map fun xs=>(.ve tag k false,xs) else none
     | some (.int k),some tag,.neq=> if oY P el=true∧(ak P).arr tag=some (n,aE P el)∧P.eqGuardType P.depth T=false then (cH P [(T,x),(T',y)]).map fun xs=>(.ve tag k true,xs) else none
     | _,_,_=> none
   | some (.struct fs)=> match jt P 8 T,aE P T,op with
     | some ks,some tag,.eql=> if P.keyTypeAt 8 T=true∧P.eqGuardType P.depth T=false then (cH P [(T,x),(T',y)]).map fun xs=>(.eqs tag ks false,xs) else none
     | some ks,some tag,.neq=> if P.keyTypeAt 8 T=true∧P.eqGuardType P.depth T=false then (cH P [(T,x),(T',y)]).map fun xs=>(.eqs tag ks true,xs) else none
     | _,_,_=> none
   | some d=> match Ze d with
     | some cl=>(cH P [(T,x),(T',y)]).map fun xs=>(.bin cl op,xs)
     | none=> none
   | none=> none
 | .unOp op T x=>(eP P T x).map fun x=>(.un op,[x])
 | .convert S T x=> match P.underlying S,P.underlying T with
   | some (.int _),some (.int k)=>(eP P S x).map fun x=>(.gO k,[x])
   | some (.slice el),some .string=> if Ks P el=true then (eP P S x).map fun x=>(.yp,[x]) else if Kt P el=true then (eP P S x).map fun x=>(.r2s false,[x]) else none
   | some (.int .i32),some .string=>(eP P S x).map fun x=>(.r2s true,[x])
   | some .string,some (.slice el)=> if Ks P el=true then (eP P S x).map fun x=>(.s2b true,[x]) else none
   | some (.slice el),some (.slice _)=> if S=T∧Ks P el=true then (eP P S x).map fun x=>(.oy,[x]) else none
   | _,_=> none
 | .makeInterface T x=> if P.concrete T=true then (eP P T x).map fun x=>(.mki T,[x]) else none
 | .makeFunc (.func f) first captured=> if first.isEmpty then (cH P (captured.toList.map fun x=>(ty,x))).map fun xs=>(.mkf f,xs) else none
 | .makeSlice t l n=> match P.underlying t with
   | some (.slice el)=> match zeroOf P obj el with
     | some z=> if oY P el=true∧P.bytesOf el≤4096 then (cH P [(ty,l),(ty,n)]).map fun xs=>(.mks (aE P el) z,xs) else none
     | none=> none
   | _=> none
 | .slice t x lo hi mx=> match P.underlying t with
   | some (.slice el)=> if oY P el=true then (cH P ((t,x)::(lo.toList++hi.toList++mx.toList).map fun y=>(ty,y))).map fun xs=>(.j2 (aE P el) lo.isSome hi.isSome mx.isSome,xs) else none
   | some .string=> if mx.isNone then (cH P ((t,x)::(lo.toList++hi.toList).map fun y=>(ty,y))).map fun xs=>(.sls lo.isSome hi.isSome,xs) else none
   | some (.array n el)=> match aE P t with
     | some tag=> if oY P el=true∧(ak P).arr tag=some (n,aE P el)∧mx.isNone=true then (cH P ((t,x)::(lo.toList++hi.toList).map fun y=>(ty,y))).map fun xs=>(.nU tag (aE P el) lo.isSome hi.isSome,xs) else none
     | none=> none
   | _=> none
 | .fieldAddr T x i=> match P.underlying T,aE P T with
   | some (.struct fields),some tag=> match (ak P).fields tag with
     | some gs=> if qu P fields gs i=true∧P.cellsOf (Cb fields i)≠0 then (eP P T x).map fun x=>(.fa tag i,[x]) else none
     | none=> none
   | _,_=> none
 | .field T x i=> match P.underlying T,aE P T with
   | some (.struct fields),some tag=> match (ak P).fields tag with
     | some gs=> if qu P fields gs i=true then (eP P T x).map fun x=>(.fld tag i,[x]) else none
     | none=> none
   | _,_=> none
 | .indexAddr T x i=> match P.underlying T with
   | some (.array n el)=> match aE P T with
     | some tag=> if oY P el=true∧(ak P).arr tag=some (n,aE P el) then (cH P [(T,x),(ty,i)]).map fun xs=>(.fg tag,xs) else none
     | none=> none
   | some (.slice el)=> if oY P el=true then (cH P [(T,x),(ty,i)]).map fun xs=>(.de (aE P el),xs) else none
   | _=> none
 | .index T x i=> match P.underlying T with
   | some (.array n el)=> match aE P T with
     | some tag=> if oY P el=true∧(ak P).arr tag=some (n,aE P el) then (cH P [(T,x),(ty,i)]).map fun xs=>(.idx tag,xs) else none
     | none=> none
   | some .string=>(cH P [(T,x),(ty,i)]).map fun xs=>(.Fu,xs)
   | _=> none
 | .range T x=> match P.underlying T with
   | some .string=>(eP P T x).map fun x=>(.rng,[x])
   | _=> none
 | .next x true=>(eP P ty x).map fun x=>(.nxt,[x])
 | .typeAssert x T A ok=> match P.underlying A,zeroOf P obj A with
   | some d,some z=> if DJ d=true then (eP P T x).map fun x=>(.tas A ok z,[x]) else none
   | _,_=> none
 | .panic _=> some (.bad,[])
 | .makeMap t none=> match P.underlying t with
   | some (.map _ _)=> some (.mkm,[])
   | _=> none
 | .lookup T x ix ok=> match P.underlying T with
   | some (.map kt et)=> match FJ P kt,zeroOf P obj et with
     | some kc,some z=>(cH P [(T,x),(kt,ix)]).map fun xs=>(.lku kc ok z,xs)
     | _,_=> none
   | _=> none
 | .mapUpdate T m k x=> match P.underlying T with
   | some (.map kt et)=> match FJ P kt with
     | some kc=>(cH P [(T,m),(kt,k),(et,x)]).map fun xs=>(.mup kc (aE P et),xs)
     | none=> none
   | _=> none
 | .insert T m k x=> match P.underlying T with
   | some (.map kt et)=> match FJ P kt with
     | some kc=>(cH P [(T,m),(kt,k),(et,x)]).map fun xs=>(.mup kc (aE P et),xs)
     | none=> none
   | _=> none
 | .mapEntry T m k=> match P.underlying T with
   | some (.map kt et)=> match FJ P kt,zeroOf P obj et with
     | some kc,some z=>(cH P [(T,m),(kt,k)]).map fun xs=>(.mpe kc z,xs)
     | _,_=> none
   | _=> none
 | .entryStore T m k x=> match P.underlying T with
   | some (.map kt et)=>(cH P [(T,m),(ty,k),(et,x)]).map fun xs=>(.ens (aE P et),xs)
   | _=> none
 | .sliceToArrayPointer T x=> match P.underlying T,aE P T with
   | some (.array n el),some tag=> if (ak P).arr tag=some (n,aE P el) then (eP P ty x).map fun x=>(.s2a tag (aE P el) n,[x]) else none
   | _,_=> none
 | .extract x i=>(eP P ty x).map fun x=>(.ext i,[x])
 | .call c=> match c.callee with
   | .value (.func f)=>(cH P (c.argTypes.toList.zip c.args.toList)).bind fun xs=> if c.argTypes.size=c.args.size then some (.call f,xs) else none
   | .value (.tmp n)=>(cH P (c.argTypes.toList.zip c.args.toList)).bind fun xs=> if c.argTypes.size=c.args.size then some (.mW,.t n::xs) else none
   | .builtin b=> match b,c.argTypes.toList,c.args.toList with
     | .len,[T],[x]=> match P.underlying T with
       | some (.slice _)=>(eP P T x).map fun x=>(.len,[x])
       | some (.map _ _)=>(eP P T x).map fun x=>(.mln,[x])
       | some .string=>(eP P T x).map fun x=>(.Fv,[x])
       | _=> none
     | .append,[T,T'],[x,y]=> match P.underlying T with
       | some (.slice el)=> match zeroOf P obj el,P.underlying T' with
         | some z,some (.slice _)=> if oY P el=true∧0 < P.bytesOf el then (cH P [(T,x),(T',y)]).map fun xs=>(FI (obj (4000000+T)) (aE P el) (P.bytesOf el),xs) else none
         | some z,some (.int _)=> if oY P el=true∧0 < P.bytesOf el then (cH P [(T,x),(T',y)]).map fun xs=>(.apz (aE P el) (P.bytesOf el) z,xs) else none
         | some z,some .string=> if oY P el=true∧0 < P.bytesOf el then (cH P [(T,x),(T',y)]).map fun xs=>(FI (obj (4000000+T)) (aE P el) (P.bytesOf el),xs) else none
         | _,_=> none
       | _=> none
     | .cap,[T],[x]=> match P.underlying T with
       | some (.slice _)=>(eP P T x).map fun x=>(.cap,[x])
       | _=> none
     | .copy,[T,T'],[x,y]=> match P.underlying T with
       | some (.slice el)=> if oY P el=true then (cH P [(T,x),(T',y)]).map fun xs=>(.cpy (aE P el),xs) else none
       | _=> none
     | .clear,[T],[x]=> match P.underlying T with
       | some (.slice el)=> match zeroOf P obj el with
         | some z=> if oY P el=true then (eP P T x).map fun x=>(.clr (aE P el) z,[x]) else none
         | none=> none
       | _=> none
     | .min,[T,T'],[x,y]=>(cH P [(T,x),(T',y)]).map fun xs=>(.min,xs)
     | .max,[T,T'],[x,y]=>(cH P [(T,x),(T',y)]).map fun xs=>(.max,xs)
     | _,_,_=> none
   | _=> none
 | _=> none
end Go.Vm
namespace Go.Vm
def fD (P:Program) (L:cG) (c:Ctx) (w:World) (f:Nat) (us:List Value) (v:V) (h':Hp):Prop:=
 Calls P f us.toArray w fun e w'=>∃u c',e= .returned u∧RV L c' v u∧bp L c' h' w'∧c.le c'∧St w w'
def qv (P:Program) (L:cG) (c:Ctx) (w:World) (r:Result Next) (v:V) (h':Hp):Prop:=
 (∃u c' w',(r= .ok (.value u) w'∨(r= .ok .skip w'∧u=undef))∧RV L c' v u∧bp L c' h' w'∧c.le c'∧St w w')∨
 (∃f us,r= .ok (.enter f us.toArray) w∧fD P L c w f us v h')
def cJ (P:Program) (L:cG) (cf:Nat→List V→Hp→Option (V×Hp)):Prop:=
 ∀(f:Nat) (vs:List V) (h:Hp) (v:V) (h':Hp),cf f vs h=some (v,h')→(∃fn,P.funcs[f]? =some fn∧fn.body.isSome=true∧(fn.name== "runtime.NumGoroutine")=false)∧
  ∀(c:Ctx) (w:World) (us:List Value),gu L c vs us→bp L c h w→fD P L c w f us v h'
variable {P : Program} {obj : Nat → Bool} {c : Ctx} {h : Hp} {w : World}
theorem q7z {L:cG} {r:Result Value} {v:V} {h':Hp} (hd:aN L c w r v h'):qv P L c w (r.andThen fun a w'=> .ok (Next.value a) w') v h':=by
 obtain ⟨u,c',w',rfl,h1,h2,h3,h4⟩:=hd
 exact Or.inl ⟨u,c',w',Or.inl rfl,h1,h2,h3,h4⟩
theorem du {L:cG} {vs:List V} {u u':Value} (h:gu L c vs [u,u']):∃v v',vs=[v,v']∧RV L c v u∧RV L c v' u':=by
 match vs,h with
 | [v],h=> exact h.2.elim
 | [v,v'],h=> exact ⟨v,v',rfl,h.1,h.2.1⟩
 | _::_::_::_,h=> exact h.2.2.elim
theorem ou {L:cG} {vs:List V} {u u' u'':Value} (h:gu L c vs [u,u',u'']):∃v v' v'',vs=[v,v',v'']∧RV L c v u∧RV L c v' u'∧RV L c v'' u'':=by
 match vs,h with
 | [v],h=> exact h.2.elim
 | [v,v'],h=> exact h.2.2.elim
 | [v,v',v''],h=> exact ⟨v,v',v'',rfl,h.1,h.2.1,h.2.2.1⟩
 | _::_::_::_::_,h=> exact h.2.2.2.elim
theorem uO {L:cG} {vs:List V} {u:Value} {us:List Value} (h:gu L c vs (u::us)):∃v vs',vs=v::vs'∧RV L c v u∧gu L c vs' us:=by
 match vs,h with
 | v::vs,h=> exact ⟨v,vs,rfl,h.1,h.2⟩
theorem zip_map {α β γ:Type} (l:List (α×β)) (f:β→γ):(l.map (·.1)).zip (l.map fun p=> f p.2)=l.map fun p=>(p.1,f p.2):=by
 induction l with
 | nil=> rfl
 | cons x l ih=> simp[ih]
def O.calls :O→Bool
 | .call _=> true
 | .mW=> true
 | _=> false
section
variable (hL : (ak P).OK) {cf : Nat → List V → Hp → Option (V × Hp)} {base : Nat} {fr : Fr} {a : Act} (hf : RF (ak P) c fr a) (hs : bp (ak P) c h w) {o : Oper} {g : O} {xs : List X} {v : V} {h' : Hp}
include hL hf hs
theorem Ta (hc:sV P obj o.type o.op=some (g,xs)) (ai:aC cf base h g (xs.map (X.ev fr))=some (v,h')) (hk:match o.op with | .move _ | .assign _ | .pick .. | .alloc _ | .box .. | .load .. | .store .. | .nilCheck _ | .unOp .. | .makeInterface .. | .extract .. | .range .. | .next .. | .typeAssert .. | .makeFunc .. => True | _=> False):
 qv P (ak P) c w ((execOp a.eval o).run P w) v h':=by
 obtain ⟨dst,op,ty,pos,after,guard⟩:=o
 simp only at hc hk ⊢
 cases op <;> simp only at hk <;> simp only[sV] at hc
 case move x=>
   obtain ⟨y,hy,he⟩:=ach.1 hc
   simp only[Prod.mk.injEq] at he
   obtain ⟨rfl,rfl⟩:=he
   simp only[acx,acF,aC,Option.some.injEq,Prod.mk.injEq] at ai
   obtain ⟨rfl,rfl⟩:=ai
   exact Or.inl ⟨a.eval x,c,w,Or.inl rfl,q23z hf hy,hs,Ctx.le_refl c,St.refl w⟩
 case assign x=>
   obtain ⟨y,hy,he⟩:=ach.1 hc
   simp only[Prod.mk.injEq] at he
   obtain ⟨rfl,rfl⟩:=he
   simp only[acx,acF,aC,Option.some.injEq,Prod.mk.injEq] at ai
   obtain ⟨rfl,rfl⟩:=ai
   exact Or.inl ⟨a.eval x,c,w,Or.inl rfl,q23z hf hy,hs,Ctx.le_refl c,St.refl w⟩
 case pick x y z=>
   obtain ⟨ys,hy,he⟩:=ach.1 hc
   simp only[Prod.mk.injEq] at he
   obtain ⟨rfl,rfl⟩:=he
   have hv:=q12z hf hy
   obtain ⟨v1,v2,v3,e,h1,h2,h3⟩:=ou hv
   rw[e] at ai
   simp only[aC] at ai
   unfold ug at ai
   split at ai
   case h_2=> cases ai
   rename_i b
   simp only[Option.some.injEq,Prod.mk.injEq] at ai
   obtain ⟨rfl,rfl⟩:=ai
   obtain ⟨hb,_⟩:=bF.1 h1
   refine Or.inl ⟨if b then a.eval y else a.eval z,c,w,Or.inl ?_,?_,hs,Ctx.le_refl c,St.refl w⟩
   ·simp only at hb
    simp[execOp,hb,asBool]
   ·cases b
    ·exact h3
    ·exact h2
 case alloc e=>
   obtain ⟨z,hz,he⟩:=ach.1 hc
   simp only[Prod.mk.injEq] at he
   obtain ⟨rfl,rfl⟩:=he
   simp only[acF,aC] at ai
   have:=q7z (P:=P) (Ss (P:=P) (T:=e) hL hs (cZ hz).1 ai)
   simpa only[execOp,Sem.run_bind,Sem.run_pure] using this
 case box e x=>
   obtain ⟨y,hy,he⟩:=ach.1 hc
   simp only[Prod.mk.injEq] at he
   obtain ⟨rfl,rfl⟩:=he
   simp only[acx,acF,aC] at ai
   have:=q7z (P:=P) (Kg (P:=P) (T:=e) hL hs (q23z hf hy) ai)
   simpa only[execOp,Sem.run_bind,Sem.run_pure] using this
 case load t x=>
   split at hc
   case isFalse=> cases hc
   rename_i ht
   obtain ⟨y,hy,he⟩:=ach.1 hc
   simp only[Prod.mk.injEq] at he
   obtain ⟨rfl,rfl⟩:=he
   simp only[acx,acF,aC] at ai
   have:=q7z (P:=P) (PD (P:=P) hL hs (cM ht) (q23z hf hy) ai)
   simpa only[execOp,Sem.run_bind,Sem.run_pure] using this
 case store t x y=>
   split at hc
   case isFalse=> cases hc
   rename_i ht
   obtain ⟨ys,hy,he⟩:=ach.1 hc
   simp only[Prod.mk.injEq] at he
   obtain ⟨rfl,rfl⟩:=he
   obtain ⟨v1,v2,e,h1,h2⟩:=du (q12z hf hy)
   rw[e] at ai
   simp only[aC] at ai
   obtain ⟨w',h3,rfl,h4,h5⟩:=Sr (P:=P) hL hs (cM ht) h1 h2 ai
   refine Or.inl ⟨undef,c,w',Or.inr ⟨?_,rfl⟩,cI.2 ⟨[],rfl,trivial⟩,h4,Ctx.le_refl c,h5⟩
   simp only at h3
   simp[execOp,h3]
 case nilCheck x=>
   obtain ⟨y,hy,he⟩:=ach.1 hc
   simp only[Prod.mk.injEq] at he
   obtain ⟨rfl,rfl⟩:=he
   simp only[acx,acF,aC] at ai
   have hv:=q23z hf hy
   unfold zq at ai
   split at ai
   ·rename_i id path aB heq
    simp only[Option.some.injEq,Prod.mk.injEq] at ai
    obtain ⟨rfl,rfl⟩:=ai
    rw[heq] at hv ⊢
    obtain ⟨p,hp,_⟩:=uE.1 hv
    refine Or.inl ⟨a.eval x,c,w,Or.inl ?_,hv,hs,Ctx.le_refl c,St.refl w⟩
    simp[execOp,hp]
   ·rename_i y' heq
    simp only[Option.some.injEq,Prod.mk.injEq] at ai
    obtain ⟨rfl,rfl⟩:=ai
    rw[heq] at hv ⊢
    obtain ⟨_,_,_,_,_,hp,_⟩:=gL.1 hv
    refine Or.inl ⟨a.eval x,c,w,Or.inl ?_,hv,hs,Ctx.le_refl c,St.refl w⟩
    simp[execOp,hp]
   ·rename_i f cap heq
    simp only[Option.some.injEq,Prod.mk.injEq] at ai
    obtain ⟨rfl,rfl⟩:=ai
    rw[heq] at hv ⊢
    obtain ⟨ws,hp,_⟩:=DI.1 hv
    refine Or.inl ⟨a.eval x,c,w,Or.inl ?_,hv,hs,Ctx.le_refl c,St.refl w⟩
    simp[execOp,hp]
   ·cases ai
 case unOp op T x=>
   obtain ⟨y,hy,he⟩:=ach.1 hc
   simp only[Prod.mk.injEq] at he
   obtain ⟨rfl,rfl⟩:=he
   simp only[acx,acF,aC] at ai
   have:=q7z (P:=P) (Zc (P:=P) hs (q23z hf hy) ai)
   simpa only[execOp,Sem.run_bind,Sem.run_pure] using this
 case makeInterface T x=>
   split at hc
   case isFalse=> cases hc
   rename_i ht
   obtain ⟨y,hy,he⟩:=ach.1 hc
   simp only[Prod.mk.injEq] at he
   obtain ⟨rfl,rfl⟩:=he
   simp only[acx,acF,aC,Option.some.injEq,Prod.mk.injEq] at ai
   obtain ⟨rfl,rfl⟩:=ai
   have:=q7z (P:=P) (SV (P:=P) hs ht (q23z hf hy))
   simpa only[execOp,Sem.run_bind,Sem.run_pure] using this
 case extract x i=>
   obtain ⟨y,hy,he⟩:=ach.1 hc
   simp only[Prod.mk.injEq] at he
   obtain ⟨rfl,rfl⟩:=he
   simp only[acx,acF,aC] at ai
   have:=q7z (P:=P) (SQ (P:=P) hs (q23z hf hy) ai)
   simpa only[execOp,Sem.run_bind,Sem.run_pure] using this
 case range T x=>
   split at hc
   case h_2=> cases hc
   rename_i hT
   obtain ⟨y,hy,he⟩:=ach.1 hc
   simp only[Prod.mk.injEq] at he
   obtain ⟨rfl,rfl⟩:=he
   simp only[acx,acF,aC] at ai
   have:=q7z (P:=P) (SW (P:=P) hs hT (q23z hf hy) ai)
   simpa only[execOp,Sem.run_bind,Sem.run_pure] using this
 case next x b=>
   cases b with
   | false=> simp at hc
   | true=>
   simp only at hc
   obtain ⟨y,hy,he⟩:=ach.1 hc
   simp only[Prod.mk.injEq] at he
   obtain ⟨rfl,rfl⟩:=he
   simp only[acx,acF,aC] at ai
   have:=q7z (P:=P) (SX (P:=P) hs (ty:=ty) (q23z hf hy) ai)
   simpa only[execOp,Sem.run_bind,Sem.run_pure] using this
 case typeAssert x T A ok=>
   split at hc
   case h_2=> cases hc
   rename_i d z hd hz
   split at hc
   case isFalse=> cases hc
   rename_i FK
   obtain ⟨y,hy,he⟩:=ach.1 hc
   simp only[Prod.mk.injEq] at he
   obtain ⟨rfl,rfl⟩:=he
   simp only[acx,acF,aC] at ai
   have:=q7z (P:=P) (SP (P:=P) hs (XT:=T) (fun _=>(cZ hz).1) ⟨d,hd,by cases d <;> simp_all [DJ]⟩ (q23z hf hy) ai)
   simpa only[execOp,Sem.run_bind,Sem.run_pure] using this
 case makeFunc fn first captured=>
   cases fn <;> simp only at hc <;> try (cases hc;done)
   rename_i f
   split at hc
   case isFalse=> cases hc
   rename_i Tb
   obtain ⟨ys,hy,he⟩:=ach.1 hc
   simp only[Prod.mk.injEq] at he
   obtain ⟨rfl,rfl⟩:=he
   simp only[aC,Option.some.injEq,Prod.mk.injEq] at ai
   obtain ⟨rfl,rfl⟩:=ai
   have hv:=q12z hf hy
   have hfe:first= #[]:=by simpa using Tb
   subst hfe
   refine Or.inl ⟨.func (.func f) #[] (captured.map a.eval),c,w,Or.inl ?_,DI.2 ⟨captured.toList.map a.eval,?_,?_⟩,hs,Ctx.le_refl c,St.refl w⟩
   ·simp[execOp,Instr.makeFunc]
   ·congr 1
    apply aef;simp
   ·simpa[adA,Function.comp_def] using hv
end
end Go.Vm
namespace Go.Vm
variable {P : Program} {obj : Nat → Bool} {c : Ctx} {h : Hp} {w : World}
theorem parts_eq (parts:Array (Nat×Operand)) (ρ:Operand→Value):parts.map (fun p=>(p.1,ρ p.2))=((parts.toList.map (·.1)).zip (parts.toList.map fun p=> ρ p.2)).toArray:=by
 apply aef
 rw[zip_map]
 simp
theorem Ky {P:Program} {el:TypeId} (h:Ks P el=true):P.underlying el=some (.int .u8):=by
 unfold Ks at h
 split at h
 ·assumption
 ·cases h
theorem Tc {P:Program} {el:TypeId} (h:Kt P el=true):P.underlying el=some (.int .i32):=by
 unfold Kt at h
 split at h
 ·assumption
 ·cases h
section
variable (hL : (ak P).OK) {cf : Nat → List V → Hp → Option (V × Hp)} {base : Nat} {fr : Fr} {a : Act} (hf : RF (ak P) c fr a) (hs : bp (ak P) c h w) {o : Oper} {g : O} {xs : List X} {v : V} {h' : Hp}
include hL hf hs
theorem Td (hc:sV P obj o.type o.op=some (g,xs)) (ai:aC cf base h g (xs.map (X.ev fr))=some (v,h')) (hk:match o.op with | .build .. | .buildSlice .. | .binOp .. | .convert .. | .makeSlice .. => True | _=> False):
 qv P (ak P) c w ((execOp a.eval o).run P w) v h':=by
 obtain ⟨dst,op,ty,pos,after,guard⟩:=o
 simp only at hc hk ⊢
 cases op <;> simp only at hk <;> simp only[sV] at hc
 case build t parts=>
   split at hc
   ·rename_i fields tag tag' zero hu ht hz
    split at hc
    case h_2=> cases hc
    rename_i gs je
    split at hc
    case isFalse=> cases hc
    rename_i aZ
    obtain ⟨rfl,cU,bV⟩:=aZ
    obtain ⟨ys,hy,he⟩:=ach.1 hc
    simp only[Prod.mk.injEq] at he
    obtain ⟨rfl,rfl⟩:=he
    have hv:=q12z hf hy
    rw[adA] at hv
    simp only[aC] at ai
    have sh:=(cZ hz).1
    have:=q7z (P:=P) (No (P:=P) (T:=t) hL hs hu je (fun i f hi=> by
      have bR:i < fields.size:=(ady.1 hi).1
      obtain ⟨f',g,h1,h2,h3,h4⟩:=pC (acJ.1 bV i (ado.2 bR))
      rw[hi] at h1;cases h1
      exact ⟨g,h2,h3,h4⟩) cU sh (us:=parts.toList.map fun p=> a.eval p.2) (by simpa using hv.length) hv.get ai)
    rw[←parts_eq] at this
    simpa only[execOp,Sem.run_bind,Sem.run_pure] using this
   ·rename_i n el tag tag' zero hu ht hz
    split at hc
    case isFalse=> cases hc
    rename_i aZ
    obtain ⟨rfl,j1,mS⟩:=aZ
    obtain ⟨ys,hy,he⟩:=ach.1 hc
    simp only[Prod.mk.injEq] at he
    obtain ⟨rfl,rfl⟩:=he
    have hv:=q12z hf hy
    rw[adA] at hv
    simp only[aC] at ai
    have:=q7z (P:=P) (Np (P:=P) (T:=t) hL hs hu (cM j1) mS (cZ hz).1 (us:=parts.toList.map fun p=> a.eval p.2) (by simpa using hv.length) hv.get ai)
    rw[←parts_eq] at this
    simpa only[execOp,Sem.run_bind,Sem.run_pure] using this
   ·cases hc
 case buildSlice t n parts=>
   split at hc
   case h_2=> cases hc
   rename_i el hu
   split at hc
   case h_2=> cases hc
   rename_i z hz
   split at hc
   case isFalse=> cases hc
   rename_i aZ
   obtain ⟨j1,ij,hn⟩:=aZ
   obtain ⟨ys,hy,he⟩:=ach.1 hc
   simp only[Prod.mk.injEq] at he
   obtain ⟨rfl,rfl⟩:=he
   have hv:=q12z hf hy
   rw[adA] at hv
   obtain ⟨sh,jM,iV⟩:=cZ hz
   rcases Kw ai with ai | ai
   ·have:=q7z (P:=P) (Sw (P:=P) (T:=t) hL hs hu (cM j1) ij sh jM iV hn (us:=parts.toList.map fun p=> a.eval p.2) (by simpa using hv.length) hv.get ai)
    rw[←parts_eq] at this
    simpa only[execOp,Sem.run_bind,Sem.run_pure] using this
   ·have:=q7z (P:=P) (Sv (P:=P) (T:=t) hL hs hu (cM j1) ij sh jM iV hn (us:=parts.toList.map fun p=> a.eval p.2) (by simpa using hv.length) hv.get ai)
    rw[←parts_eq] at this
    simpa only[execOp,Sem.run_bind,Sem.run_pure] using this
 case binOp op T x y T'=>
   split at hc
   ·rename_i n el hu
    split at hc
    ·rename_i k tag cm ht
     split at hc
     case isFalse=> cases hc
     rename_i aZ
     obtain ⟨j1,mS,hgd⟩:=aZ
     obtain ⟨ys,hy,he⟩:=ach.1 hc
     simp only[Prod.mk.injEq] at he
     obtain ⟨rfl,rfl⟩:=he
     obtain ⟨v1,v2,e,h1,h2⟩:=du (q12z hf hy)
     rw[e] at ai
     simp only[aC] at ai
     have cT:(ak P).aD (aE P el)=1:=by simp[aE,cm,cG.aD]
     have:=q7z (P:=P) (Km (P:=P) hL hs hu cm (cM j1) cT mS hgd (Or.inl ⟨rfl,rfl⟩) (X:=x) (Y:=y) h1 h2 ai)
     simpa only[execOp,Sem.run_bind,Sem.run_pure] using this
    ·rename_i k tag cm ht
     split at hc
     case isFalse=> cases hc
     rename_i aZ
     obtain ⟨j1,mS,hgd⟩:=aZ
     obtain ⟨ys,hy,he⟩:=ach.1 hc
     simp only[Prod.mk.injEq] at he
     obtain ⟨rfl,rfl⟩:=he
     obtain ⟨v1,v2,e,h1,h2⟩:=du (q12z hf hy)
     rw[e] at ai
     simp only[aC] at ai
     have cT:(ak P).aD (aE P el)=1:=by simp[aE,cm,cG.aD]
     have:=q7z (P:=P) (Km (P:=P) hL hs hu cm (cM j1) cT mS hgd (Or.inr ⟨rfl,rfl⟩) (X:=x) (Y:=y) h1 h2 ai)
     simpa only[execOp,Sem.run_bind,Sem.run_pure] using this
    ·cases hc
   ·rename_i fs hu
    split at hc
    ·rename_i ks tag A8 ht
     split at hc
     case isFalse=> cases hc
     rename_i aZ
     obtain ⟨ys,hy,he⟩:=ach.1 hc
     simp only[Prod.mk.injEq] at he
     obtain ⟨rfl,rfl⟩:=he
     obtain ⟨v1,v2,e,h1,h2⟩:=du (q12z hf hy)
     rw[e] at ai
     simp only[aC] at ai
     have:=q7z (P:=P) (Kr (P:=P) hs (by omega) hu aZ.1 A8 aZ.2 (Or.inl ⟨rfl,rfl⟩) (X:=x) (Y:=y) h1 h2 ai)
     simpa only[execOp,Sem.run_bind,Sem.run_pure] using this
    ·rename_i ks tag A8 ht
     split at hc
     case isFalse=> cases hc
     rename_i aZ
     obtain ⟨ys,hy,he⟩:=ach.1 hc
     simp only[Prod.mk.injEq] at he
     obtain ⟨rfl,rfl⟩:=he
     obtain ⟨v1,v2,e,h1,h2⟩:=du (q12z hf hy)
     rw[e] at ai
     simp only[aC] at ai
     have:=q7z (P:=P) (Kr (P:=P) hs (by omega) hu aZ.1 A8 aZ.2 (Or.inr ⟨rfl,rfl⟩) (X:=x) (Y:=y) h1 h2 ai)
     simpa only[execOp,Sem.run_bind,Sem.run_pure] using this
    ·cases hc
   ·rename_i d hd hd2 hu
    split at hc
    case h_2=> cases hc
    rename_i cl oB
    obtain ⟨ys,hy,he⟩:=ach.1 hc
    simp only[Prod.mk.injEq] at he
    obtain ⟨rfl,rfl⟩:=he
    obtain ⟨v1,v2,e,h1,h2⟩:=du (q12z hf hy)
    rw[e] at ai
    simp only[aC] at ai
    have:=q7z (P:=P) (SO (P:=P) hs (T:=T) (cl:=cl) (X:=x) (Y:=y) h1 h2 (by
      unfold Ze at oB
      split at oB <;> first
        | (simp only[Option.some.injEq] at oB;subst oB;first | trivial | exact hu | exact ⟨_,hu⟩)
        | cases oB) ai)
    simpa only[execOp,Sem.run_bind,Sem.run_pure] using this
   ·cases hc
 case convert S T x=>
   split at hc
   ·rename_i k' k hS hT
    obtain ⟨y,hy,he⟩:=ach.1 hc
    simp only[Prod.mk.injEq] at he
    obtain ⟨rfl,rfl⟩:=he
    simp only[acx,acF,aC] at ai
    have:=q7z (P:=P) (SJ (P:=P) hs hT ⟨_,hS⟩ (q23z hf hy) ai)
    simpa only[execOp,Sem.run_bind,Sem.run_pure] using this
   ·rename_i el hS hT
    split at hc
    ·rename_i xX
     obtain ⟨y,hy,he⟩:=ach.1 hc
     simp only[Prod.mk.injEq] at he
     obtain ⟨rfl,rfl⟩:=he
     simp only[acx,acF,aC] at ai
     have:=q7z (P:=P) (SK (P:=P) hL hs hS (Ky xX) hT (q23z hf hy) ai)
     simpa only[execOp,Sem.run_bind,Sem.run_pure] using this
    ·split at hc
     case isFalse=> cases hc
     rename_i xX
     obtain ⟨y,hy,he⟩:=ach.1 hc
     simp only[Prod.mk.injEq] at he
     obtain ⟨rfl,rfl⟩:=he
     simp only[acx,acF,aC] at ai
     have:=q7z (P:=P) (SL (P:=P) hL hs hS (Tc xX) hT (q23z hf hy) ai)
     simpa only[execOp,Sem.run_bind,Sem.run_pure] using this
   ·rename_i hS hT
    obtain ⟨y,hy,he⟩:=ach.1 hc
    simp only[Prod.mk.injEq] at he
    obtain ⟨rfl,rfl⟩:=he
    simp only[acx,acF,aC] at ai
    have:=q7z (P:=P) (SM (P:=P) hs hS hT (q23z hf hy) ai)
    simpa only[execOp,Sem.run_bind,Sem.run_pure] using this
   ·rename_i el hS hT
    split at hc
    case isFalse=> cases hc
    rename_i xX
    obtain ⟨y,hy,he⟩:=ach.1 hc
    simp only[Prod.mk.injEq] at he
    obtain ⟨rfl,rfl⟩:=he
    simp only[acx,acF,aC] at ai
    have:=q7z (P:=P) (SN (P:=P) hL hs hS hT (Ky xX) (q23z hf hy) ai)
    simpa only[execOp,Sem.run_bind,Sem.run_pure] using this
   ·rename_i el el' hS hT
    split at hc
    case isFalse=> cases hc
    rename_i aZ
    obtain ⟨rfl,xX⟩:=aZ
    obtain ⟨y,hy,he⟩:=ach.1 hc
    simp only[Prod.mk.injEq] at he
    obtain ⟨rfl,rfl⟩:=he
    simp only[acx,acF,aC] at ai
    have:=q7z (P:=P) (SI (P:=P) hL hs hS (Ky xX) (q23z hf hy) ai)
    simpa only[execOp,Sem.run_bind,Sem.run_pure] using this
   ·cases hc
 case makeSlice t l n=>
   split at hc
   case h_2=> cases hc
   rename_i el hu
   split at hc
   case h_2=> cases hc
   rename_i z hz
   split at hc
   case isFalse=> cases hc
   rename_i aZ
   obtain ⟨j1,nV⟩:=aZ
   obtain ⟨ys,hy,he⟩:=ach.1 hc
   simp only[Prod.mk.injEq] at he
   obtain ⟨rfl,rfl⟩:=he
   obtain ⟨v1,v2,e,h1,h2⟩:=du (q12z hf hy)
   rw[e] at ai
   simp only[aC] at ai
   obtain ⟨sh,jM,iV⟩:=cZ hz
   have:=q7z (P:=P) (Sy (P:=P) hL hs hu (cM j1) nV sh jM iV h1 h2 ai)
   simpa only[execOp,Sem.run_bind,Sem.run_pure] using this
theorem Te (hc:sV P obj o.type o.op=some (g,xs)) (ai:aC cf base h g (xs.map (X.ev fr))=some (v,h')) (hk:match o.op with | .slice .. | .fieldAddr .. | .field .. | .indexAddr .. | .index .. => True | _=> False):
 qv P (ak P) c w ((execOp a.eval o).run P w) v h':=by
 obtain ⟨dst,op,ty,pos,after,guard⟩:=o
 simp only at hc hk ⊢
 have optl:∀(q:Option Operand),(q.toList.map a.eval)=(q.map a.eval).toList:=fun q=> by cases q <;> rfl
 have opts:∀(q:Option Operand),q.isSome=(q.map a.eval).isSome:=fun q=> by cases q <;> rfl
 cases op <;> simp only at hk <;> simp only[sV] at hc
 case slice t x lo hi mx=>
   split at hc
   ·rename_i el hu
    split at hc
    case isFalse=> cases hc
    rename_i j1
    obtain ⟨ys,hy,he⟩:=ach.1 hc
    simp only[Prod.mk.injEq] at he
    obtain ⟨rfl,rfl⟩:=he
    have hv:=q12z hf hy
    simp only[acx,adA] at hv
    obtain ⟨v1,vs,e,h1,h2⟩:=uO hv
    rw[e] at ai
    simp only[aC] at ai
    rw[opts lo,opts hi,opts mx] at ai
    have h2':gu (ak P) c vs ((lo.map a.eval).toList++(hi.map a.eval).toList++(mx.map a.eval).toList):=by
      have:(List.map ((fun p=> a.eval p.2)∘ fun y=>((ty,y):TypeId×Operand)) (lo.toList++hi.toList++mx.toList))=(lo.map a.eval).toList++(hi.map a.eval).toList++(mx.map a.eval).toList:=by
        rw[←optl,←optl,←optl,←List.map_append,←List.map_append];rfl
      rw[←this];exact h2
    have:=q7z (P:=P) (SC (P:=P) hL hs hu (cM j1) h1 h2' ai)
    simpa only[execOp,Sem.run_bind,Sem.run_pure] using this
   ·rename_i hu
    split at hc
    case isFalse=> cases hc
    rename_i hmx
    obtain rfl:mx=none:=by simpa using hmx
    obtain ⟨ys,hy,he⟩:=ach.1 hc
    simp only[Prod.mk.injEq] at he
    obtain ⟨rfl,rfl⟩:=he
    have hv:=q12z hf hy
    simp only[acx,adA] at hv
    obtain ⟨v1,vs,e,h1,h2⟩:=uO hv
    rw[e] at ai
    simp only[aC] at ai
    rw[opts lo,opts hi] at ai
    have h2':gu (ak P) c vs ((lo.map a.eval).toList++(hi.map a.eval).toList):=by
      have:(List.map ((fun p=> a.eval p.2)∘ fun y=>((ty,y):TypeId×Operand)) (lo.toList++hi.toList))=(lo.map a.eval).toList++(hi.map a.eval).toList:=by
        rw[←optl,←optl,←List.map_append];rfl
      rw[←this];exact h2
    have:=q7z (P:=P) (SE (P:=P) hs hu h1 h2' ai)
    simpa only[execOp,Sem.run_bind,Sem.run_pure,aej] using this
   ·rename_i n el hu
    split at hc
    case h_2=> cases hc
    rename_i tag ht
    split at hc
    case isFalse=> cases hc
    rename_i aZ
    obtain ⟨j1,mS,hmx⟩:=aZ
    obtain rfl:mx=none:=by simpa using hmx
    obtain ⟨ys,hy,he⟩:=ach.1 hc
    simp only[Prod.mk.injEq] at he
    obtain ⟨rfl,rfl⟩:=he
    have hv:=q12z hf hy
    simp only[acx,adA] at hv
    obtain ⟨v1,vs,e,h1,h2⟩:=uO hv
    rw[e] at ai
    simp only[aC] at ai
    rw[opts lo,opts hi] at ai
    have h2':gu (ak P) c vs ((lo.map a.eval).toList++(hi.map a.eval).toList):=by
      have:(List.map ((fun p=> a.eval p.2)∘ fun y=>((ty,y):TypeId×Operand)) (lo.toList++hi.toList))=(lo.map a.eval).toList++(hi.map a.eval).toList:=by
        rw[←optl,←optl,←List.map_append];rfl
      rw[←this];exact h2
    have:=q7z (P:=P) (SD (P:=P) hL hs hu (cM j1) mS h1 h2' ai)
    simpa only[execOp,Sem.run_bind,Sem.run_pure,aej] using this
   ·cases hc
 case fieldAddr T x i=>
   split at hc
   case h_2=> cases hc
   rename_i fields tag hu ht
   split at hc
   case h_2=> cases hc
   rename_i gs je
   split at hc
   case isFalse=> cases hc
   rename_i aZ
   obtain ⟨qV,cC⟩:=aZ
   obtain ⟨y,hy,he⟩:=ach.1 hc
   simp only[Prod.mk.injEq] at he
   obtain ⟨rfl,rfl⟩:=he
   simp only[acx,acF,aC] at ai
   obtain ⟨f,g,h1,h2,h3,h4⟩:=pC qV
   have:=q7z (P:=P) (Y2 (P:=P) hL hs hu h1 (by simpa[Cb,h1] using cC) je h4 (q23z hf hy) ai)
   simpa only[execOp,Sem.run_bind,Sem.run_pure] using this
 case field T x i=>
   split at hc
   case h_2=> cases hc
   rename_i fields tag hu ht
   split at hc
   case h_2=> cases hc
   rename_i gs je
   split at hc
   case isFalse=> cases hc
   rename_i qV
   obtain ⟨y,hy,he⟩:=ach.1 hc
   simp only[Prod.mk.injEq] at he
   obtain ⟨rfl,rfl⟩:=he
   simp only[acx,acF,aC] at ai
   obtain ⟨f,g,h1,h2,h3,h4⟩:=pC qV
   have:=q7z (P:=P) (Sn (P:=P) hL hs hu h1 je h2 h3 h4 (q23z hf hy) ai)
   simpa only[execOp,Sem.run_bind,Sem.run_pure] using this
 case indexAddr T x i=>
   split at hc
   ·rename_i n el hu
    split at hc
    case h_2=> cases hc
    rename_i tag ht
    split at hc
    case isFalse=> cases hc
    rename_i aZ
    obtain ⟨j1,mS⟩:=aZ
    obtain ⟨ys,hy,he⟩:=ach.1 hc
    simp only[Prod.mk.injEq] at he
    obtain ⟨rfl,rfl⟩:=he
    obtain ⟨v1,v2,e,h1,h2⟩:=du (q12z hf hy)
    rw[e] at ai
    simp only[aC] at ai
    have:=q7z (P:=P) (So (P:=P) hL hs hu (cM j1) mS h1 h2 ai)
    simpa only[execOp,Sem.run_bind,Sem.run_pure] using this
   ·rename_i el hu
    split at hc
    case isFalse=> cases hc
    rename_i j1
    obtain ⟨ys,hy,he⟩:=ach.1 hc
    simp only[Prod.mk.injEq] at he
    obtain ⟨rfl,rfl⟩:=he
    obtain ⟨v1,v2,e,h1,h2⟩:=du (q12z hf hy)
    rw[e] at ai
    simp only[aC] at ai
    have:=q7z (P:=P) (Sp (P:=P) hL hs hu (cM j1) h1 h2 ai)
    simpa only[execOp,Sem.run_bind,Sem.run_pure] using this
   ·cases hc
 case index T x i=>
   split at hc
   ·rename_i n el hu
    split at hc
    case h_2=> cases hc
    rename_i tag ht
    split at hc
    case isFalse=> cases hc
    rename_i aZ
    obtain ⟨j1,mS⟩:=aZ
    obtain ⟨ys,hy,he⟩:=ach.1 hc
    simp only[Prod.mk.injEq] at he
    obtain ⟨rfl,rfl⟩:=he
    obtain ⟨v1,v2,e,h1,h2⟩:=du (q12z hf hy)
    rw[e] at ai
    simp only[aC] at ai
    have:=q7z (P:=P) (Sq (P:=P) hL hs hu (cM j1) mS h1 h2 ai)
    simpa only[execOp,Sem.run_bind,Sem.run_pure] using this
   ·rename_i hu
    obtain ⟨ys,hy,he⟩:=ach.1 hc
    simp only[Prod.mk.injEq] at he
    obtain ⟨rfl,rfl⟩:=he
    obtain ⟨v1,v2,e,h1,h2⟩:=du (q12z hf hy)
    rw[e] at ai
    simp only[aC] at ai
    have:=q7z (P:=P) (Nt (P:=P) hs hu h1 h2 ai)
    simpa only[execOp,Sem.run_bind,Sem.run_pure] using this
   ·cases hc
end
end Go.Vm
namespace Go.Vm
variable {P : Program} {obj : Nat → Bool} {c : Ctx} {h : Hp} {w : World}
theorem wQ {f:Nat} {args:Array Value} {fn:Func} (h1:P.funcs[f]? =some fn) (h2:fn.body.isSome=true) (h3:(fn.name== "runtime.NumGoroutine")=false) (w:World):
 (callFunc f args).run P w= .ok (.enter f args) w:=by
 have h4:fn.body≠none:=fun e=> by rw[e] at h2;cases h2
 have h5:fn.name≠ "runtime.NumGoroutine" :=fun e=> by rw[e] at h3;simp at h3
 simp[callFunc,h1,h4,h5]
theorem qw {α β:Type}:∀(l:List α) (m:List β),l.length=m.length→(l.zip m).map (·.2)=m
 | [],[],_=> rfl
 | [],_::_,h=> by simp at h
 | _::_,[],h=> by simp at h
 | a::l,b::m,h=> by simp only[List.zip_cons_cons,acx];rw[qw l m (by simpa using h)]
theorem pD {L:cG}:∀ {vs vs':List V} {us us':List Value},gu L c vs us→gu L c vs' us'→gu L c (vs++vs') (us++us')
 | [],_,[],_,_,h=> h
 | v::vs,_,u::us,_,h,h'=>⟨h.1,pD h.2 h'⟩
 | [],_,_::_,_,h,_=> h.elim
 | _::_,_,[],_,h,_=> h.elim
theorem iS {α:Type} {a:Array α} {x y:α} (h:a.toList=[x,y]):a= #[x,y]:=by
 apply aef;simpa using h
theorem lQ {α:Type} {a:Array α} {x:α} (h:a.toList=[x]):a= #[x]:=by
 apply aef;simpa using h
section
variable (hL : (ak P).OK) {cf : Nat → List V → Hp → Option (V × Hp)} {base : Nat} (gh : cJ P (ak P) cf) {fr : Fr} {a : Act} (hf : RF (ak P) c fr a) (hs : bp (ak P) c h w) {o : Oper} {g : O} {xs : List X} {v : V} {h' : Hp}
include hL gh hf hs
theorem Tf {cl:Call} {ty:TypeId} (hc:sV P obj ty (.call cl)=some (g,xs)) (ai:aC cf base h g (xs.map (X.ev fr))=some (v,h')):
 qv P (ak P) c w ((resolve a.eval cl ty >>=fun d=> invoke d.target d.args).run P w) v h':=by
 obtain ⟨callee,args,argTypes⟩:=cl
 simp only[sV] at hc
 split at hc
 ·rename_i f
  obtain ⟨xs',jm,hc⟩:=acr.1 hc
  split at hc
  case isFalse=> cases hc
  rename_i cU
  simp only[Option.some.injEq,Prod.mk.injEq] at hc
  obtain ⟨rfl,rfl⟩:=hc
  simp only[aC] at ai
  have hv:=q12z hf jm
  obtain ⟨⟨fn,h1,h2,h3⟩,jj⟩:=gh _ _ _ _ _ ai
  refine Or.inr ⟨f,(args.map a.eval).toList,?_,jj c w _ ?_ hs⟩
  ·have e:((args.map a.eval).toList).toArray=args.map a.eval:=Array.toArray_toList
   rw[e]
   simp[resolve,Deferred.ofValue,Act.eval,invoke,wQ h1 h2 h3]
  ·have:(List.map (fun p=> a.eval p.2) (argTypes.toList.zip args.toList))=(args.map a.eval).toList:=by
     rw[afE,←qw argTypes.toList args.toList (by simpa using cU),adA,qw _ _ (by simpa using cU)];rfl
   rw[←this];exact hv
 ·rename_i n
  obtain ⟨xs',jm,hc⟩:=acr.1 hc
  split at hc
  case isFalse=> cases hc
  rename_i cU
  simp only[Option.some.injEq,Prod.mk.injEq] at hc
  obtain ⟨rfl,rfl⟩:=hc
  have hv:=q12z hf jm
  have hfv:=q23z (P:=P) (t:=ty) hf (o:= .tmp n) (x:= .t n) rfl
  simp only[acx] at ai
  generalize hfx:X.ev fr (.t n)=fx at ai hfv
  cases fx <;> simp only[aC] at ai <;> try (cases ai;done)
  rename_i f cap
  obtain ⟨ws,hfu,hws⟩:=DI.1 hfv
  obtain ⟨⟨fn,h1,h2,h3⟩,jj⟩:=gh _ _ _ _ _ ai
  have BB:gu (ak P) c (xs'.map (X.ev fr)) (args.map a.eval).toList:=by
    have:(List.map (fun p=> a.eval p.2) (argTypes.toList.zip args.toList))=(args.map a.eval).toList:=by
      rw[afE,←qw argTypes.toList args.toList (by simpa using cU),adA,qw _ _ (by simpa using cU)];rfl
    rw[←this];exact hv
  refine Or.inr ⟨f,(args.map a.eval).toList++ws,?_,jj c w _ (pD BB hws) hs⟩
  have e:((args.map a.eval).toList++ws).toArray=args.map a.eval++ws.toArray:=by apply aef;simp
  rw[e]
  simp[resolve,hfu,Deferred.ofValue,invoke,wQ h1 h2 h3]
 ·rename_i b
  split at hc
  ·rename_i T x hT hx
   obtain rfl:=lQ hT
   obtain rfl:=lQ hx
   split at hc
   ·rename_i el hu
    obtain ⟨y,hy,he⟩:=ach.1 hc
    simp only[Prod.mk.injEq] at he
    obtain ⟨rfl,rfl⟩:=he
    simp only[acx,acF,aC] at ai
    have:=q7z (P:=P) (Sz (P:=P) hs hu (ty:=ty) (q23z hf hy) ai)
    simpa[resolve,invoke,builtin] using this
   ·rename_i hu
    obtain ⟨y,hy,he⟩:=ach.1 hc
    simp only[Prod.mk.injEq] at he
    obtain ⟨rfl,rfl⟩:=he
    simp only[acx,acF,aC] at ai
    have:=q7z (P:=P) (S6 (P:=P) hs hu (ty:=ty) (q23z hf hy) ai)
    simpa[resolve,invoke,builtin] using this
   ·rename_i hu
    obtain ⟨y,hy,he⟩:=ach.1 hc
    simp only[Prod.mk.injEq] at he
    obtain ⟨rfl,rfl⟩:=he
    simp only[acx,acF,aC] at ai
    have:=q7z (P:=P) (Nq (P:=P) hs hu (ty:=ty) (q23z hf hy) ai)
    simpa[resolve,invoke,builtin] using this
   ·cases hc
  ·rename_i T T' x y hT hx
   obtain rfl:=iS hT
   obtain rfl:=iS hx
   split at hc
   case h_2=> cases hc
   rename_i el hu
   have key:∀z:V,zeroOf P obj el=some z→oY P el=true→0 < P.bytesOf el→((∃e2,P.underlying T'=some (.slice e2))∨P.underlying T'=some .string)→(cH P [(T,x),(T',y)]).map (fun xs=>(FI (obj (4000000+T)) (aE P el) (P.bytesOf el),xs))=some (g,xs)→
    qv P (ak P) c w ((resolve a.eval {callee:= .builtin .append,args:= #[x,y],argTypes:= #[T,T']} ty >>=fun d=> invoke d.target d.args).run P w) v h':=by
     intro z hz j1 ij h2 hc
     obtain ⟨ys,hy,he⟩:=ach.1 hc
     simp only[Prod.mk.injEq] at he
     obtain ⟨rfl,rfl⟩:=he
     obtain ⟨v1,v2,e,r1,r2⟩:=du (q12z hf hy)
     rw[e] at ai
     obtain ⟨sh,jM,iV⟩:=cZ hz
     obtain ⟨i,hi,_⟩:=(cM j1).info
     have hb:P.bytesOf el=i.bytes:=by simp[Program.bytesOf,hi]
     rw[hb] at ai ij
     rcases Kx ai with ai | ai
     ·obtain ⟨⟨v',h''⟩,h1,h3⟩:=acr.1 ai
      have:=q7z (P:=P) (zK hL (BP (P:=P) hL hs hu (cM j1) hi sh jM iV h2 (ty:=ty) ij r1 r2 h1) h3)
      simpa[resolve,invoke,builtin] using this
     ·have:=q7z (P:=P) (BP (P:=P) hL hs hu (cM j1) hi sh jM iV h2 (ty:=ty) ij r1 r2 ai)
      simpa[resolve,invoke,builtin] using this
   split at hc
   ·rename_i z e2 hz Ay
    split at hc
    case isFalse=> cases hc
    rename_i aZ
    exact key z hz aZ.1 aZ.2 (Or.inl ⟨_,Ay⟩) hc
   ·rename_i z kd hz Ay
    split at hc
    case isFalse=> cases hc
    rename_i aZ
    obtain ⟨j1,ij⟩:=aZ
    obtain ⟨ys,hy,he⟩:=ach.1 hc
    simp only[Prod.mk.injEq] at he
    obtain ⟨rfl,rfl⟩:=he
    obtain ⟨v1,v2,e,r1,r2⟩:=du (q12z hf hy)
    rw[e] at ai
    obtain ⟨sh,jM,iV⟩:=cZ hz
    obtain ⟨i,hi,_⟩:=(cM j1).info
    have hb:P.bytesOf el=i.bytes:=by simp[Program.bytesOf,hi]
    rw[hb] at ai ij
    simp only[aC] at ai
    have:=q7z (P:=P) (SG (P:=P) hL hs hu (cM j1) hi sh jM iV Ay (ty:=ty) ij r1 r2 ai)
    simpa[resolve,invoke,builtin] using this
   ·rename_i z hz Ay
    split at hc
    case isFalse=> cases hc
    rename_i aZ
    exact key z hz aZ.1 aZ.2 (Or.inr Ay) hc
   ·cases hc
  ·rename_i T x hT hx
   obtain rfl:=lQ hT
   obtain rfl:=lQ hx
   split at hc
   case h_2=> cases hc
   rename_i el hu
   obtain ⟨y,hy,he⟩:=ach.1 hc
   simp only[Prod.mk.injEq] at he
   obtain ⟨rfl,rfl⟩:=he
   simp only[acx,acF,aC] at ai
   have:=q7z (P:=P) (SA (P:=P) hs hu (ty:=ty) (q23z hf hy) ai)
   simpa[resolve,invoke,builtin] using this
  ·rename_i T T' x y hT hx
   obtain rfl:=iS hT
   obtain rfl:=iS hx
   split at hc
   case h_2=> cases hc
   rename_i el hu
   split at hc
   case isFalse=> cases hc
   rename_i j1
   obtain ⟨ys,hy,he⟩:=ach.1 hc
   simp only[Prod.mk.injEq] at he
   obtain ⟨rfl,rfl⟩:=he
   obtain ⟨v1,v2,e,r1,r2⟩:=du (q12z hf hy)
   rw[e] at ai
   simp only[aC] at ai
   have:=q7z (P:=P) (SH (P:=P) (T2:=T') hL hs hu (cM j1) (ty:=ty) r1 r2 ai)
   simpa[resolve,invoke,builtin] using this
  ·rename_i T x hT hx
   obtain rfl:=lQ hT
   obtain rfl:=lQ hx
   split at hc
   case h_2=> cases hc
   rename_i el hu
   split at hc
   case h_2=> cases hc
   rename_i z hz
   split at hc
   case isFalse=> cases hc
   rename_i j1
   obtain ⟨y,hy,he⟩:=ach.1 hc
   simp only[Prod.mk.injEq] at he
   obtain ⟨rfl,rfl⟩:=he
   simp only[acx,acF,aC] at ai
   obtain ⟨sh,jM,iV⟩:=cZ hz
   have:=q7z (P:=P) (S2 (P:=P) hL hs hu (cM j1) sh jM iV (ty:=ty) (q23z hf hy) ai)
   simpa[resolve,invoke,builtin] using this
  ·rename_i T T' x y hT hx
   obtain rfl:=iS hT
   obtain rfl:=iS hx
   obtain ⟨ys,hy,he⟩:=ach.1 hc
   simp only[Prod.mk.injEq] at he
   obtain ⟨rfl,rfl⟩:=he
   obtain ⟨v1,v2,e,r1,r2⟩:=du (q12z hf hy)
   rw[e] at ai
   simp only[aC] at ai
   have:=q7z (P:=P) (SS (P:=P) (Ts:= #[T,T']) hs (ty:=ty) r1 r2 ai)
   simpa[resolve,invoke,builtin] using this
  ·rename_i T T' x y hT hx
   obtain rfl:=iS hT
   obtain rfl:=iS hx
   obtain ⟨ys,hy,he⟩:=ach.1 hc
   simp only[Prod.mk.injEq] at he
   obtain ⟨rfl,rfl⟩:=he
   obtain ⟨v1,v2,e,r1,r2⟩:=du (q12z hf hy)
   rw[e] at ai
   simp only[aC] at ai
   have:=q7z (P:=P) (SU (P:=P) (Ts:= #[T,T']) hs (ty:=ty) r1 r2 ai)
   simpa[resolve,invoke,builtin] using this
  ·cases hc
 ·cases hc
theorem Tg (hc:sV P obj o.type o.op=some (g,xs)) (ai:aC cf base h g (xs.map (X.ev fr))=some (v,h')) (hk:match o.op with | .makeMap .. | .lookup .. | .mapUpdate .. | .insert .. | .mapEntry .. | .entryStore .. | .sliceToArrayPointer .. => True | _=> False):
 qv P (ak P) c w ((execOp a.eval o).run P w) v h':=by
 obtain ⟨dst,op,ty,pos,after,guard⟩:=o
 simp only at hc hk ⊢
 cases op <;> simp only at hk
 case sliceToArrayPointer T x=>
   simp only[sV] at hc
   split at hc
   case h_2=> cases hc
   rename_i n el tag hu ht
   split at hc
   case isFalse=> cases hc
   rename_i ha
   obtain ⟨y,hy,he⟩:=ach.1 hc
   simp only[Prod.mk.injEq] at he
   obtain ⟨rfl,rfl⟩:=he
   simp only[acx,acF,aC] at ai
   have:=q7z (P:=P) (S8 (P:=P) hL hs hu ha (q23z hf hy) ai)
   simpa only[execOp,Sem.run_bind,Sem.run_pure] using this
 case makeMap t r=>
   cases r with
   | some r=> simp[sV] at hc
   | none=>
     simp only[sV] at hc
     split at hc
     case h_2=> cases hc
     cases hc
     have e:aC cf base h .mkm []=some (.mp h.length,h++[.map [] 0]):=rfl
     rw[acF,e] at ai
     cases ai
     have:=q7z (P:=P) (S3 (P:=P) hs t)
     simpa only[execOp,Sem.run_bind,Sem.run_pure,aej] using this
 case lookup T x ix ok=>
   simp only[sV] at hc
   split at hc
   case h_2=> cases hc
   rename_i kt et hu
   split at hc
   case h_2=> cases hc
   rename_i kc z hkc hz
   obtain ⟨ys,hy,he⟩:=ach.1 hc
   simp only[Prod.mk.injEq] at he
   obtain ⟨rfl,rfl⟩:=he
   obtain ⟨v1,v2,e,r1,r2⟩:=du (q12z hf hy)
   rw[e] at ai
   simp only[aC] at ai
   have:=q7z (P:=P) (S4 (P:=P) hs hu (sU hkc) (cZ hz).1 r1 r2 ai)
   simpa only[execOp,Sem.run_bind,Sem.run_pure] using this
 case mapEntry T x ix=>
   simp only[sV] at hc
   split at hc
   case h_2=> cases hc
   rename_i kt et hu
   split at hc
   case h_2=> cases hc
   rename_i kc z hkc hz
   obtain ⟨ys,hy,he⟩:=ach.1 hc
   simp only[Prod.mk.injEq] at he
   obtain ⟨rfl,rfl⟩:=he
   obtain ⟨v1,v2,e,r1,r2⟩:=du (q12z hf hy)
   rw[e] at ai
   simp only[aC] at ai
   have:=q7z (P:=P) (S5 (P:=P) hs hu (sU hkc) (cZ hz).1 r1 r2 ai)
   simpa only[execOp,Sem.run_bind,Sem.run_pure] using this
 case entryStore T x ix y=>
   simp only[sV] at hc
   split at hc
   case h_2=> cases hc
   rename_i kt et hu
   obtain ⟨ys,hy,he⟩:=ach.1 hc
   simp only[Prod.mk.injEq] at he
   obtain ⟨rfl,rfl⟩:=he
   obtain ⟨v1,v2,v3,e,r1,r2,r3⟩:=ou (q12z hf hy)
   rw[e] at ai
   simp only[aC] at ai
   obtain ⟨w',h3,rfl,h4,h5⟩:=S7 (P:=P) (T:=T) hs r1 r2 r3 ai
   refine Or.inl ⟨undef,c,w',Or.inr ⟨?_,rfl⟩,cI.2 ⟨[],rfl,trivial⟩,h4,Ctx.le_refl c,h5⟩
   simp only at h3
   simp[execOp,h3]
 case mapUpdate T x ix y=>
   simp only[sV] at hc
   split at hc
   case h_2=> cases hc
   rename_i kt et hu
   split at hc
   case h_2=> cases hc
   rename_i kc hkc
   obtain ⟨ys,hy,he⟩:=ach.1 hc
   simp only[Prod.mk.injEq] at he
   obtain ⟨rfl,rfl⟩:=he
   obtain ⟨v1,v2,v3,e,r1,r2,r3⟩:=ou (q12z hf hy)
   rw[e] at ai
   simp only[aC] at ai
   obtain ⟨w',h3,rfl,h4,h5⟩:=Kn (P:=P) hs hu (sU hkc) r1 r2 r3 ai
   refine Or.inl ⟨undef,c,w',Or.inr ⟨?_,rfl⟩,cI.2 ⟨[],rfl,trivial⟩,h4,Ctx.le_refl c,h5⟩
   simp only at h3
   simp[execOp,h3]
 case insert T x ix y=>
   simp only[sV] at hc
   split at hc
   case h_2=> cases hc
   rename_i kt et hu
   split at hc
   case h_2=> cases hc
   rename_i kc hkc
   obtain ⟨ys,hy,he⟩:=ach.1 hc
   simp only[Prod.mk.injEq] at he
   obtain ⟨rfl,rfl⟩:=he
   obtain ⟨v1,v2,v3,e,r1,r2,r3⟩:=ou (q12z hf hy)
   rw[e] at ai
   simp only[aC] at ai
   obtain ⟨w',h3,rfl,h4,h5⟩:=Kn (P:=P) hs hu (sU hkc) r1 r2 r3 ai
   refine Or.inl ⟨undef,c,w',Or.inr ⟨?_,rfl⟩,cI.2 ⟨[],rfl,trivial⟩,h4,Ctx.le_refl c,h5⟩
   simp only at h3
   simp[execOp,h3]
theorem sound (hc:sV P obj o.type o.op=some (g,xs)) (ai:aC cf base h g (xs.map (X.ev fr))=some (v,h')):
 qv P (ak P) c w ((execOp a.eval o).run P w) v h':=by
 have hc0:=hc
 obtain ⟨dst,op,ty,pos,after,guard⟩:=o
 cases op
 case call cl=> exact Tf hL gh hf hs hc ai
 case panic x=>
   simp only[sV,Option.some.injEq,Prod.mk.injEq] at hc
   obtain ⟨rfl,rfl⟩:=hc
   simp[aC] at ai
 all_goals first
   | exact Ta hL hf hs hc ai trivial
   | exact Td hL hf hs hc ai trivial
   | exact Te hL hf hs hc ai trivial
   | exact Tg hL gh hf hs hc ai trivial
   | (simp only[sV] at hc;cases hc;done)
end
end Go.Vm
namespace Go.Vm
variable {P : Program} {obj : Nat → Bool} {c : Ctx} {h : Hp} {w : World}
theorem gu.mono {L:cG} {c':Ctx} (hle:c.le c'):∀ {vs:List V} {us:List Value},gu L c vs us→gu L c' vs us
 | [],[],_=> trivial
 | _::_,_::_,h=>⟨h.1.mono hle,gu.mono hle h.2⟩
 | [],_::_,h=> h.elim
 | _::_,[],h=> h.elim
theorem gu.set {L:cG} {v:V} {u:Value} (hv:RV L c v u):∀ {vs:List V} {us:List Value} (t:Nat),gu L c vs us→gu L c (vs.set t v) (us.set t u)
 | [],[],_,_=> trivial
 | _::_,_::_,0,h=>⟨hv,h.2⟩
 | _::_,_::_,t+1,h=>⟨h.1,gu.set hv t h.2⟩
 | [],_::_,_,h=> h.elim
 | _::_,[],_,h=> h.elim
theorem RF.mono {L:cG} {c':Ctx} {fr:Fr} {a:Act} (hle:c.le c') (h:RF L c fr a):RF L c' fr a:=gu.mono hle h
theorem RF.put {L:cG} {fr:Fr} {a:Act} {v:V} {u:Value} (h:RF L c fr a) (hv:RV L c v u) (d:Option Nat):RF L c (ik fr d v) (a.put d u):=by
 cases d with
 | none=> exact h
 | some t=>
   simp only[RF,ik,Act.put,adT]
   exact gu.set hv t h
def cog (P:Program) (obj:Nat→Bool) (ops:List Oper) (o:Oper):Option G:=
 match sV P obj o.type o.op,o.guard with
 | some (op,xs),none=> some ⟨o.dst,op,xs,none⟩
 | some (op,xs),some (j,b)=> match (ops[j]?).bind (·.dst) with
   | some d=> some ⟨o.dst,op,xs,some (d,b)⟩
   | none=> none
 | none,_=> none
theorem lR {ops:List Oper} {o:Oper} {g:G} (h:cog P obj ops o=some g):sV P obj o.type o.op=some (g.op,g.xs)∧g.dst=o.dst∧
 ((o.guard=none∧g.guard=none)∨∃j b d,o.guard=some (j,b)∧(ops[j]?).bind (·.dst)=some d∧g.guard=some (d,b)):=by
 unfold cog at h
 split at h
 ·rename_i op xs h1 h2
  simp only[Option.some.injEq] at h
  subst h
  exact ⟨h1,rfl,Or.inl ⟨h2,rfl⟩⟩
 ·rename_i op xs j b h1 h2
  split at h
  ·rename_i d hd
   simp only[Option.some.injEq] at h
   subst h
   exact ⟨h1,rfl,Or.inr ⟨j,b,d,h2,hd,rfl⟩⟩
  ·cases h
 ·cases h
theorem kn {L:cG} {ops:List Oper} {o:Oper} {g:G} (hg:cog P obj ops o=some g) {fr:Fr} {a:Act} (hf:RF L c fr a) {b:Bool} (hw:want fr g=some b):
 Region.wanted o (yielded ops.toArray a.tmps)=b:=by
 obtain ⟨_,_,h⟩:=lR hg
 rcases h with ⟨h1,h2⟩ | ⟨j,b',d,h1,h2,h3⟩
 ·simp only[want,h2,Option.some.injEq] at hw
  simp[Region.wanted,h1,←hw]
 ·simp only[want,h3] at hw
  simp only[Region.wanted,h1,yielded,adv,h2,ad6]
  have hlen:=gu.length hf
  by_cases hd:d < fr.length
  ·have np:d < a.tmps.toList.length:=by rw[hlen];exact hd
   have iB:=hf.get d fr[d] a.tmps.toList[d] (aci hd) (aci np)
   have e1:fr.getD d .top=fr[d]:=by simp[List.getD,aci hd]
   have e2:a.tmps[d]? =some a.tmps.toList[d]:=by rw[←Array.getElem?_toList,aci np]
   rw[e1] at hw
   rw[e2]
   generalize fr[d]=x at hw iB
   generalize a.tmps.toList[d]=y at iB
   split at hw
   ·obtain ⟨rfl,_⟩:=bF.1 iB
    simp only[Option.some.injEq] at hw
    subst hw
    rfl
   ·obtain ⟨ws,rfl,hws⟩:=cI.1 iB
    simp only[Option.some.injEq] at hw
    subst hw
    rfl
   ·cases hw
  ·have e1:fr.getD d .top= .top:=by simp[List.getD,acW (aeS hd)]
   rw[e1] at hw
   cases hw
theorem kz (a:Act) (d:Option Nat) (v:Value):(a.put d v).defers=a.defers:=by cases d <;> rfl
section
variable (hL : (ak P).OK) {cf : Nat → List V → Hp → Option (V × Hp)} {base : Nat} (gh : cJ P (ak P) cf)
include hL gh
theorem uP {ops:List Oper} {o:Oper} {g:G} (hg:cog P obj ops o=some g) {fr:Fr} {a:Act} (hf:RF (ak P) c fr a) (hs:bp (ak P) c h w) {v:V} {h':Hp} (aR:Vm.stepG cf base fr h g=some (v,h'))
 {K:Act→World→Prop} {Q:Exit→Act→World→Prop}
 (hK:∀u c' w',RV (ak P) c' v u→bp (ak P) c' h' w'→c.le c'→St w w'→K (a.put o.dst u) w'):
 if Region.wanted o (yielded ops.toArray a.tmps) then o.wp P a w K Q∨(o.asks P a w∧LetsOut Q) else K (a.put o.dst undef) w:=by
 unfold Vm.stepG at aR
 split at aR
 ·rename_i hw
  rw[kn hg hf hw,if_pos rfl]
  obtain ⟨hc,hd,_⟩:=lR hg
  left
  unfold Oper.wp
  rcases sound hL gh hf hs hc aR with ⟨u,c',w',hr,hv,dv,hle,ir⟩ | ⟨f,us,hr,jj⟩
  ·rcases hr with hr | ⟨hr,rfl⟩
   ·rw[hr];exact hK u c' w' hv dv hle ir
   ·rw[hr];exact hK undef c' w' hv dv hle ir
  ·rw[hr]
   refine Calls.mono jj fun e w' he=> ?_
   obtain ⟨u,c',rfl,hv,dv,hle,ir⟩:=he
   exact hK u c' w' hv dv hle ir
 ·rename_i hw
  simp only[Option.some.injEq,Prod.mk.injEq] at aR
  obtain ⟨rfl,rfl⟩:=aR
  rw[kn hg hf hw]
  exact hK undef c w (cI.2 ⟨[],rfl,trivial⟩) hs (Ctx.le_refl c) (St.refl w)
 ·cases aR
def Ends (P:Program) (c:Ctx) (w:World) (a:Act) (fr':Fr) (h':Hp) (K:Act→World→Prop):Prop:=
 ∀a' c' w',RF (ak P) c' fr' a'→bp (ak P) c' h' w'→c.le c'→St w w'→a'.defers=a.defers→K a' w'
def sn (P:Program) (obj:Nat→Bool) (all:List Oper):List Oper→Option (List G)
 | []=> some []
 | o::os=> match cog P obj all o,sn P obj all os with
   | some g,some gs=> some (g::gs)
   | _,_=> none
theorem uQ {all:List Oper} {Q:Exit→Act→World→Prop} {base:Nat}:∀ {os:List Oper} {gs:List G} {pre:List Oper},all=pre++os→sn P obj all os=some gs→∀ {fr:Fr} {a:Act} {c:Ctx} {h:Hp} {w:World},RF (ak P) c fr a→bp (ak P) c h w→
 ∀ {fr':Fr} {h':Hp},lf cf base gs fr h=some (fr',h')→Ends P c w a fr' h' (Q .normal)→
 wpOps P all.toArray Q (List.range' pre.length os.length) a w
 | [],gs,pre,bV,hc,fr,a,c,h,w,hf,hs,fr',h',hr,hE=> by
   simp only[sn,Option.some.injEq] at hc
   subst hc
   simp only[lf,Option.some.injEq,Prod.mk.injEq] at hr
   obtain ⟨rfl,rfl⟩:=hr
   exact hE a c w hf hs (Ctx.le_refl c) (St.refl w) rfl
 | o::os,gs,pre,bV,hc,fr,a,c,h,w,hf,hs,fr',h',hr,hE=> by
   simp only[sn] at hc
   split at hc
   case h_2=> cases hc
   rename_i g gs' hg je
   simp only[Option.some.injEq] at hc
   subst hc
   simp only[lf] at hr
   split at hr
   case h_2=> cases hr
   rename_i v h1 aR
   have ho:all.toArray[pre.length]? =some o:=by simp[bV]
   simp only[acR,aew,wpOps,ho]
   refine uP (Q:=Q) hL gh hg hf hs aR fun u c' w' hv dv hle ir=> ?_
   have hlen:pre.length+1=(pre++[o]).length:=by simp
   rw[hlen]
   refine uQ (base:=base) (fr':=fr') (h':=h') (pre:=pre++[o]) (by simp[bV]) je (RF.put (hf.mono hle) hv o.dst) dv (by rw[←(lR hg).2.1];exact hr) ?_
   intro a2 c2 w2 h1 h2 h3 h4 h5
   exact hE a2 c2 w2 h1 h2 (hle.trans h3) (ir.trans h4) (by rw[h5,kz])
theorem ya {id:Nat} {all:List Oper} {gs:List G} (hc:sn P obj all all=some gs) {fr:Fr} {a:Act} (hf:RF (ak P) c fr a) (hs:bp (ak P) c h w) {fr':Fr} {h':Hp} (hr:lf cf base gs fr h=some (fr',h')) {Q:Exit→Act→World→Prop}
 (hE:Ends P c w a fr' h' (Q .normal)):(Code.region id all.toArray false).wp P Q a w:=by
 refine wp_region ?_
 have:=uQ (base:=base) hL gh (Q:=Q) (pre:=[]) (all:=all) (os:=all) rfl hc hf hs hr hE
 simpa[adK] using this
end
end Go.Vm
namespace Go.Vm
def GD.cq (d:GD):Bool:=d.g.op.cq
def ff (ds:List GD) (j:Nat):Nat:=(ds.take j).countP GD.cq
theorem jV (ds:List GD):ff ds 0=0:=by simp[ff]
theorem eQ (d:GD) (ds:List GD) (j:Nat):ff (d::ds) (j+1)=(if d.cq then 1 else 0)+ff ds j:=by
 simp only[ff,adV,afB];omega
theorem uR {ds:List GD} {j:Nat} {d:GD} (h:ds[j]? =some d):ff ds (j+1)=ff ds j+(if d.cq then 1 else 0):=by
 simp only[ff,aee,h,Option.toList,List.countP_append,afB,List.countP_nil];omega
theorem Kz (ds:List GD) {i j:Nat} (h:i≤j):ff ds i≤ff ds j:=by
 induction j with
 | zero=> have:i=0:=by omega
          subst this;exact acm _
 | succ j ih=>
   rcases Nat.eq_or_lt_of_le h with rfl | h'
   ·exact acm _
   ·refine acN (ih (by omega)) ?_
    cases hd:ds[j]? with
    | some d=> rw[uR hd];omega
    | none=>
      have:ds.length≤j:=afq.1 hd
      simp[ff,ack this,ack (Nat.le_succ_of_le this)]
theorem kC (ds:List GD) {j m:Nat} (h:m < ff ds j):∃k d,k < j∧ds[k]? =some d∧d.cq=true∧ff ds k=m:=by
 induction j with
 | zero=> simp[ff] at h
 | succ j ih=>
   by_cases hm:m < ff ds j
   ·obtain ⟨k,d,h1,h2⟩:=ih hm
    exact ⟨k,d,by omega,h2⟩
   ·cases hd:ds[j]? with
    | none=>
      have:ds.length≤j:=afq.1 hd
      have e:ff ds (j+1)=ff ds j:=by simp[ff,ack this,ack (Nat.le_succ_of_le this)]
      omega
    | some d=>
      rw[uR hd] at h
      by_cases he:d.cq=true
      ·simp only[he,if_true] at h
       exact ⟨j,d,by omega,hd,he,by omega⟩
      ·simp only[he] at h
       simp at h
       omega
theorem yb {ds:List GD} {k j:Nat} {d:GD} (hk:ds[k]? =some d) (he:d.cq=true) (h:k < j):ff ds k < ff ds j:=by
 have:=Kz ds (i:=k+1) (j:=j) h
 rw[uR hk] at this
 simp[he] at this
 omega
section
variable (cf : Nat → List V → Hp → Option (V × Hp)) (base : Nat)
structure Tr (ds:List GD) (fr:Fr) (h:Hp) (fr':Fr) (h':Hp) (vals:Nat→V) (frs:Nat→Fr) (hs:List Hp):Prop where
 fst:frs 0=fr
 lst:frs ds.length=fr'
 next:∀(j:Nat) (d:GD),ds[j]? =some d→frs (j+1)=ik (frs j) d.g.dst (vals j)
 len:hs.length=ff ds ds.length+1
 zR:hs[0]? =some h
 FL:hs[ff ds ds.length]? =some h'
 cq:∀(j:Nat) (d:GD),ds[j]? =some d→d.cq=true→∃hp hq,hs[ff ds j]? =some hp∧hs[ff ds j+1]? =some hq∧stepG cf base (frs j) hp d.g=some (vals j,hq)
theorem Nw :∀(ds:List GD) (fr:Fr) (h:Hp) (sw:List Hp) (xs0:List Seen) (fr':Fr) (h':Hp) (dv:List Hp) (xs':List Seen),nF cf base ds fr h sw xs0=some (fr',h',dv,xs')→
 ∃vals frs hs ys,Tr cf base ds fr h fr' h' vals frs hs∧dv=sw++hs∧xs'=xs0++ys∧(∀(j:Nat) (d:GD),ds[j]? =some d→d.cq=false→⟨d,frs j,vals j⟩∈ys):=by
 intro ds
 induction ds with
 | nil=>
   intro fr h sw xs0 fr' h' dv xs' hr
   simp only[nF,Option.some.injEq,Prod.mk.injEq] at hr
   obtain ⟨rfl,rfl,rfl,rfl⟩:=hr
   exact ⟨fun _=> .top,fun _=> fr,[h],[],⟨rfl,rfl,fun j d hd=> by simp at hd,by simp[ff],rfl,by simp[ff],fun j d hd=> by simp at hd⟩,rfl,by simp,fun j d hd=> by simp at hd⟩
 | cons d ds ih=>
   intro fr h sw xs0 fr' h' dv xs' hr
   simp only[nF] at hr
   split at hr
   case h_2=> cases hr
   rename_i v h1 aR
   have common:∀(h2:Hp) (vals:Nat→V) (frs:Nat→Fr) (hs:List Hp),Tr cf base ds (ik fr d.g.dst v) h2 fr' h' vals frs hs→
    (d.cq=true→h2=h1)→(d.cq=false→h2=h)→
    Tr cf base (d::ds) fr h fr' h' (fun j=> match j with | 0=> v | j+1=> vals j) (fun j=> match j with | 0=> fr | j+1=> frs j) (if d.cq then h::hs else hs):=by
     intro h2 vals frs hs t he hn
     constructor
     ·rfl
     ·exact t.lst
     ·intro j d' hd
      cases j with
      | zero=>
        simp only[acM,Option.some.injEq] at hd
        subst hd
        exact t.fst
      | succ j=> exact t.next j d' (by simpa using hd)
     ·rw[acR,eQ]
      have:=t.len
      split <;> simp <;> omega
     ·split
      ·rfl
      ·rename_i hc
       rw[t.zR,hn (by simpa using hc)]
     ·rw[acR,eQ]
      split
      ·rw[aen];simpa using t.FL
      ·simpa using t.FL
     ·intro j d' hd np
      cases j with
      | zero=>
        simp only[acM,Option.some.injEq] at hd
        subst hd
        refine ⟨h,h1,?_,?_,aR⟩
        ·simp[jV,np]
        ·simp only[jV,np,if_true]
         simpa[he np] using t.zR
      | succ j=>
        obtain ⟨hp,hq,a1,a2,a3⟩:=t.cq j d' (by simpa using hd) np
        refine ⟨hp,hq,?_,?_,a3⟩
        ·rw[eQ];split
         ·rw[aen];simpa using a1
         ·simpa using a1
        ·rw[eQ];split
         ·rw[aen 1];simpa using a2
         ·simpa using a2
   split at hr
   ·rename_i he
    obtain ⟨vals,frs,hs,ys,t,e1,e2,e3⟩:=ih _ _ _ _ _ _ _ _ hr
    refine ⟨_,_,_,ys,common h1 vals frs hs t (fun _=> rfl) (fun hf=> by simp[GD.cq,he] at hf),?_,e2,?_⟩
    ·simp[GD.cq,he,e1]
    ·intro j d' hd np
     cases j with
     | zero=>
       simp only[acM,Option.some.injEq] at hd
       subst hd
       simp[GD.cq,he] at np
     | succ j=> exact e3 j d' (by simpa using hd) np
   ·rename_i he
    obtain ⟨vals,frs,hs,ys,t,e1,e2,e3⟩:=ih _ _ _ _ _ _ _ _ hr
    refine ⟨_,_,_,⟨d,fr,v⟩::ys,common h vals frs hs t (fun hf=> by simp[GD.cq,he] at hf) (fun _=> rfl),?_,by simpa using e2,?_⟩
    ·simp[GD.cq,he,e1]
    ·intro j d' hd np
     cases j with
     | zero=>
       simp only[acM,Option.some.injEq] at hd
       subst hd
       exact adt
     | succ j=> exact adB _ (e3 j d' (by simpa using hd) np)
theorem uS {fr:Fr} {g:G} {v:V}:∀ {hs:List Hp},pv cf base fr g v hs→∀h∈hs,stepG cf base fr h g=some (v,h)
 | [],_,h,hm=> by cases hm
 | x::hs,hh,h,hm=> by
   cases hm with
   | head=> exact hh.1
   | tail _ hm=> exact uS hh.2 h hm
theorem rR {hs:List Hp}:∀ {xs:List Seen},oj cf base hs xs→∀x∈xs,pv cf base x.fr x.d.g x.v ((hs.drop x.d.lo).take (x.d.hi+1 - x.d.lo))
 | [],_,x,hm=> by cases hm
 | y::xs,hh,x,hm=> by
   cases hm with
   | head=> exact hh.1
   | tail _ hm=> exact rR hh.2 x hm
theorem KA {ds:List GD} {fr fr':Fr} {h h':Hp} (hr:bL cf base ds fr h=some (fr',h')):inB fr.length ds:=by
 unfold bL at hr
 split at hr
 case h_2=> cases hr
 split at hr
 case isFalse=> cases hr
 rename_i h
 exact h.1
theorem DK {ds:List GD} {fr fr':Fr} {h h':Hp} (hr:bL cf base ds fr h=some (fr',h')):∃vals frs hs,Tr cf base ds fr h fr' h' vals frs hs∧
 ∀(j:Nat) (d:GD),ds[j]? =some d→d.cq=false→∀(m:Nat) (hp:Hp),d.lo≤m→m≤d.hi→hs[m]? =some hp→stepG cf base (frs j) hp d.g=some (vals j,hp):=by
 unfold bL at hr
 split at hr
 case h_2=> cases hr
 rename_i fr1 h1 hs xs bo
 split at hr
 case isFalse=> cases hr
 rename_i bV
 replace bV:=bV.2
 simp only[Option.some.injEq,Prod.mk.injEq] at hr
 obtain ⟨rfl,rfl⟩:=hr
 obtain ⟨vals,frs,vR,ys,t,e1,e2,e3⟩:=Nw cf base _ _ _ _ _ _ _ _ _ bo
 simp only[ac1] at e1 e2
 subst e1 e2
 refine ⟨vals,frs,_,t,fun j d hd he m hp gU hhi hm=> ?_⟩
 refine uS cf base (rR cf base bV _ (e3 j d hd he)) hp ?_
 refine acw (i:=m - d.lo) ?_
 rw[adQ (show m - d.lo < d.hi+1 - d.lo by omega),ad5,Nat.add_sub_cancel' gU]
 exact hm
end
structure vk (ds:List GD) (mL:Fr) (vals:Nat→V) (S:Nat→Prop) (fr:Fr):Prop where
 len:fr.length=mL.length
 put:∀(j:Nat) (d:GD) (t:Nat),ds[j]? =some d→S j→d.g.dst=some t→t < mL.length→fr[t]? =some (vals j)
 db:∀t:Nat,(∀(j:Nat) (d:GD),ds[j]? =some d→S j→d.g.dst≠some t)→fr[t]? =mL[t]?
def Th (ds:List GD):Prop:=∀(j k:Nat) (d e:GD) (t:Nat),ds[j]? =some d→ds[k]? =some e→d.g.dst=some t→e.g.dst=some t→j=k
theorem nQ (fr:Fr) (d:Option Nat) (v:V):(ik fr d v).length=fr.length:=by cases d <;> simp[ik]
theorem vk.step {ds:List GD} {mL:Fr} {vals:Nat→V} {S S':Nat→Prop} {fr:Fr} (hc:vk ds mL vals S fr) (hu:Th ds) {j:Nat} {d:GD} (hd:ds[j]? =some d) (hS:∀k,S' k↔S k∨k=j):
 vk ds mL vals S' (ik fr d.g.dst (vals j)) where
 len:=by rw[nQ];exact hc.len
 put k e t he hk ht bR:=by
   cases vw:d.g.dst with
   | none=>
     simp only[ik]
     rcases (hS k).1 hk with hk | rfl
     ·exact hc.put k e t he hk ht bR
     ·rw[hd] at he;cases he;rw[vw] at ht;cases ht
   | some t'=>
     simp only[ik]
     by_cases htt:t=t'
     ·subst htt
      have:=hu k j e d t he hd ht vw
      subst this
      rw[adU (by rw[hc.len];exact bR)]
     ·rw[acp (fun e=> htt e.symm)]
      rcases (hS k).1 hk with hk | rfl
      ·exact hc.put k e t he hk ht bR
      ·rw[hd] at he;cases he;rw[vw] at ht;cases ht;exact absurd rfl htt
 db t ht:=by
   have h1:d.g.dst≠some t:=ht j d hd ((hS j).2 (Or.inr rfl))
   have h2:=hc.db t fun k e he hk=> ht k e he ((hS k).2 (Or.inl hk))
   cases vw:d.g.dst with
   | none=> exact h2
   | some t'=>
     simp only[ik]
     rw[acp (fun e=> h1 (by rw[vw,e]))]
     exact h2
theorem vk.same {ds:List GD} {mL:Fr} {vals:Nat→V} {S S':Nat→Prop} {fr fr':Fr} (hc:vk ds mL vals S fr) (EL:vk ds mL vals S' fr') (t:Nat)
 (h:∀(k:Nat) (d:GD),ds[k]? =some d→d.g.dst=some t→(S k↔S' k)):fr[t]? =fr'[t]? :=by
 by_cases bR:t < mL.length
 ·by_cases hw:∃k d,ds[k]? =some d∧S k∧d.g.dst=some t
  ·obtain ⟨k,d,h1,h2,h3⟩:=hw
   rw[hc.put k d t h1 h2 h3 bR,EL.put k d t h1 ((h k d h1 h3).1 h2) h3 bR]
  ·rw[hc.db t (fun k d h1 h2 h3=> hw ⟨k,d,h1,h2,h3⟩),EL.db t (fun k d h1 h2 h3=> hw ⟨k,d,h1,(h k d h1 h3).2 h2,h3⟩)]
 ·rw[acW (by rw[hc.len];omega),acW (by rw[EL.len];omega)]
theorem vk.start (ds:List GD) (mL:Fr) (vals:Nat→V) {S:Nat→Prop} (hS:∀k,¬S k):vk ds mL vals S mL where
 len:=rfl
 put j d t hd hj:=(hS j hj).elim
 db t _:=rfl
theorem Tr.cur {cf:Nat→List V→Hp→Option (V×Hp)} {base:Nat} {ds:List GD} {fr fr':Fr} {h h':Hp} {vals:Nat→V} {frs:Nat→Fr} {hs:List Hp} (t:Tr cf base ds fr h fr' h' vals frs hs) (hu:Th ds):
 ∀j,j≤ds.length→vk ds fr vals (· < j) (frs j)
 | 0,_=> by rw[t.fst];exact vk.start ds fr vals (fun k=> Nat.not_lt_zero k)
 | j+1,hj=> by
   have hd:ds[j]? =some ds[j]:=aci (by omega)
   rw[t.next j _ hd]
   exact (t.cur hu j (by omega)).step hu hd fun k=> by omega
def X.KB :X→List Nat
 | .t n=> [n]
 | .c _=> []
def G.reads (g:G):List Nat:=(match g.guard with | some (t,_)=> [t] | none=> [])++g.xs.flatMap X.KB
theorem X.KC {fr fr':Fr} {x:X} (h:∀t∈x.KB,fr[t]? =fr'[t]?):x.ev fr=x.ev fr':=by
 cases x with
 | t n=> simp only[X.ev,List.getD,h n (by simp[X.KB])]
 | c v=> rfl
theorem kD {cf:Nat→List V→Hp→Option (V×Hp)} {base:Nat} {fr fr':Fr} {h:Hp} {g:G} (hr:∀t∈g.reads,fr[t]? =fr'[t]?):stepG cf base fr h g=stepG cf base fr' h g:=by
 have h1:want fr g=want fr' g:=by
   unfold want
   split
   ·rfl
   ·rename_i t b hg
    have:=hr t (by simp[G.reads,hg])
    simp only[List.getD,this]
 have h2:g.xs.map (X.ev fr)=g.xs.map (X.ev fr'):=aes fun x hx=> X.KC fun t ht=> hr t (by
   simp only[G.reads,acG,List.mem_flatMap]
   exact Or.inr ⟨x,hx,ht⟩)
 unfold stepG
 rw[h1,h2]
end Go.Vm
namespace Go.Vm
def yc (acc:List Nat):List Edge→Nat
 | []=> 0
 | e::es=> if Region.binds .any e then (2 ^ e.on ||| acc.getD e.on 0) ||| yc acc es else yc acc es
def dY (acc:List Nat):List Oper→List Nat
 | []=> acc
 | o::os=> dY (acc++[yc acc o.after.toList]) os
structure Row where
 k:Nat
 d:GD
 p:Nat
 c:Nat
 deriving Inhabited
def mO (k c:Nat):List GD→List Nat→List Row
 | d::ds,p::ps=>⟨k,d,p,c⟩::mO (k+1) (if d.cq then c+1 else c) ds ps
 | _,_=> []
def rn (j k:Row):Bool:=
 j.k==k.k ||
 ((match k.d.g.dst with
   | some t=> j.d.g.dst !=some t &&(!j.d.g.reads.contains t || (if k.k < j.k then j.p.testBit k.k else k.p.testBit j.k))
   | none=> true)&&
  (!k.d.cq || (if j.d.cq then !(decide (k.k < j.k)) || j.p.testBit k.k else (!(decide (k.c < j.d.lo)) || j.p.testBit k.k)&&(!(decide (j.d.hi≤k.c)) || k.p.testBit j.k))))
def Zf (os:List Oper):Bool:=(List.range os.length).all fun j=> match os[j]? with | some o=> o.after.toList.all fun e=> !Region.binds .any e || decide (e.on < j) | none=> true
def fO (os:List Oper) (ds:List GD):Bool:=
 let rs:=mO 0 0 ds (dY [] os)
 ds.length==os.length && Zf os &&(ds.all fun d=> decide (d.lo≤ff ds ds.length))&& rs.all fun j=> rs.all fun k=> rn j k
theorem fW :∀(os:List Oper) (acc:List Nat),(dY acc os).length=acc.length+os.length
 | [],acc=> rfl
 | o::os,acc=> by simp only[dY,fW os,aco,acR,ada];omega
theorem uT :∀(os:List Oper) (acc:List Nat) (i:Nat),i < acc.length→(dY acc os)[i]? =acc[i]?
 | [],acc,i,h=> rfl
 | o::os,acc,i,h=> by
   simp only[dY]
   rw[uT os _ i (by simp;omega),ac0 h]
theorem DL :∀(os:List Oper) (acc:List Nat) (j:Nat) (o:Oper),os[j]? =some o→(dY acc os)[acc.length+j]? =some (yc ((dY acc os).take (acc.length+j)) o.after.toList)
 | [],acc,j,o,h=> by simp at h
 | o'::os,acc,0,o,h=> by
   simp only[acM,Option.some.injEq] at h
   subst h
   simp only[dY,aeC]
   rw[uT _ _ _ (by simp)]
   have:(dY (acc++[yc acc o'.after.toList]) os).take acc.length=acc:=by
     apply adl
     intro i
     by_cases hi:i < acc.length
     ·rw[adQ hi,uT _ _ _ (by simp;omega),ac0 hi]
     ·rw[acW (by rw[acI];omega),acW (by omega)]
   rw[this]
   simp
 | o'::os,acc,j+1,o,h=> by
   simp only[dY]
   have:=DL os (acc++[yc acc o'.after.toList]) j o (by simpa using h)
   simp only[aco,acR,ada] at this
   rw[show acc.length+(j+1)=acc.length+(0+1)+j by omega]
   exact this
theorem uU :∀(ds:List GD) (ps:List Nat) (k c j:Nat) (d:GD) (p:Nat),ds[j]? =some d→ps[j]? =some p→(mO k c ds ps)[j]? =some ⟨k+j,d,p,c+ff ds j⟩
 | [],ps,k,c,j,d,p,h,_=> by simp at h
 | _::_,[],k,c,j,d,p,_,h=> by simp at h
 | d'::ds,p'::ps,k,c,0,d,p,h1,h2=> by
   simp only[acM,Option.some.injEq] at h1 h2
   subst h1 h2
   simp[mO,jV]
 | d'::ds,p'::ps,k,c,j+1,d,p,h1,h2=> by
   simp only[mO,afu]
   rw[uU ds ps (k+1) _ j d p (by simpa using h1) (by simpa using h2),eQ]
   congr 2
   ·omega
   ·split <;> omega
def Clo (os:List Oper) (S:Nat→Prop):Prop:=∀(j:Nat) (o:Oper),os[j]? =some o→S j→∀e∈o.after,Region.binds .any e=true→S e.on
theorem KD {S:Nat→Prop} {acc:List Nat} {es:List Edge} (h1:∀e∈es,Region.binds .any e=true→S e.on) (h2:∀e∈es,Region.binds .any e=true→∀k,(acc.getD e.on 0).testBit k=true→S k):
 ∀k,(yc acc es).testBit k=true→S k:=by
 induction es with
 | nil=> intro k h;simp[yc] at h
 | cons e es ih=>
   intro k h
   simp only[yc] at h
   have ih':=ih (fun e he=> h1 e (adB _ he)) (fun e he=> h2 e (adB _ he))
   split at h
   ·rename_i hb
    rw[Nat.testBit_or,Nat.testBit_or,Nat.testBit_two_pow] at h
    simp only[adg,decide_eq_true_eq] at h
    rcases h with (rfl | h) | h
    ·exact h1 e adt hb
    ·exact h2 e adt hb k h
    ·exact ih' k h
   ·exact ih' k h
theorem mw {os:List Oper} {S:Nat→Prop} (hc:Clo os S):∀(j:Nat) (o:Oper),os[j]? =some o→(∀e∈o.after,Region.binds .any e=true→S e.on)→∀p,(dY [] os)[j]? =some p→∀k,p.testBit k=true→S k:=by
 intro j
 induction j using Nat.strongRecOn with
 | _ j ih=>
   intro o ho hS p hp k hk
   have h1:=DL os [] j o ho
   simp only[ada,acU] at h1
   rw[h1] at hp
   simp only[Option.some.injEq] at hp
   subst hp
   refine KD (S:=S) (fun e he hb=> hS e (by simpa using he) hb) (fun e he hb k hk=> ?_) k hk
   have hSe:=hS e (by simpa using he) hb
   by_cases bR:e.on < j
   ·have sx:j < os.length:=(acj.1 ho).1
    have hlen:=fW os []
    simp only[ada,acU] at hlen
    have h2:(dY [] os)[e.on]? =some (dY [] os)[e.on]:=aci (by omega)
    have h3:((dY [] os).take j).getD e.on 0=(dY [] os)[e.on]:=by
      simp only[List.getD,adQ bR,h2,acX]
    rw[h3] at hk
    have h4:os[e.on]? =some os[e.on]:=aci (by omega)
    exact ih e.on bR _ h4 (hc e.on _ h4 hSe) _ h2 k hk
   ·have h3:((dY [] os).take j).getD e.on 0=0:=by
      simp only[List.getD,acW (show ((dY [] os).take j).length≤e.on by rw[acI];omega),afD]
    rw[h3] at hk
    simp at hk
theorem kE {os:List Oper} {ds:List GD} (h:fO os ds=true) {j k:Nat} {d e:GD} (hj:ds[j]? =some d) (hk:ds[k]? =some e):
 ∃p q,(dY [] os)[j]? =some p∧(dY [] os)[k]? =some q∧rn ⟨j,d,p,ff ds j⟩ ⟨k,e,q,ff ds k⟩=true:=by
 simp only[fO,acn,beq_iff_eq] at h
 obtain ⟨⟨⟨hlen,_⟩,_⟩,bV⟩:=h
 have fE:=fW os []
 simp only[ada,acU] at fE
 have sx:j < ds.length:=(acj.1 hj).1
 have gP:k < ds.length:=(acj.1 hk).1
 have h1:(dY [] os)[j]? =some (dY [] os)[j]:=aci (by omega)
 have h2:(dY [] os)[k]? =some (dY [] os)[k]:=aci (by omega)
 refine ⟨_,_,h1,h2,?_⟩
 have r1:=uU ds (dY [] os) 0 0 j d _ hj h1
 have r2:=uU ds (dY [] os) 0 0 k e _ hk h2
 simp only[acU] at r1 r2
 exact acJ.1 (acJ.1 bV _ (acw r1)) _ (acw r2)
theorem rS {os:List Oper} {ds:List GD} (h:fO os ds=true):Th ds:=by
 intro j k d e t hj hk hd he
 obtain ⟨p,q,_,_,hp⟩:=kE h hj hk
 simp only[rn,adg,beq_iff_eq,acn,he,bne_iff_ne,ne_eq] at hp
 rcases hp with hp | hp
 ·exact hp
 ·exact absurd hd hp.1.1
theorem qx {os:List Oper} {ds:List GD} (h:fO os ds=true) {j k:Nat} {d e:GD} {t:Nat} (hj:ds[j]? =some d) (hk:ds[k]? =some e) (cC:j≠k) (he:e.g.dst=some t) (ht:t∈d.g.reads):
 ∃p q,(dY [] os)[j]? =some p∧(dY [] os)[k]? =some q∧if k < j then p.testBit k=true else q.testBit j=true:=by
 obtain ⟨p,q,h1,h2,hp⟩:=kE h hj hk
 refine ⟨p,q,h1,h2,?_⟩
 simp only[rn,adg,beq_iff_eq,acn,he,bne_iff_ne,ne_eq] at hp
 rcases hp with hp | ⟨⟨_,hp⟩,_⟩
 ·exact absurd hp cC
 ·have:d.g.reads.contains t=true:=by simpa using ht
  rw[this] at hp
  simp only[acK,acz,false_or] at hp
  split at hp <;> rename_i hc <;> simp only[hc,if_true,if_false]<;> exact hp
theorem rT {os:List Oper} {ds:List GD} (h:fO os ds=true) {j k:Nat} {d e:GD} (hj:ds[j]? =some d) (hk:ds[k]? =some e) (hd:d.cq=true) (he:e.cq=true) (bR:k < j):
 ∃p,(dY [] os)[j]? =some p∧p.testBit k=true:=by
 obtain ⟨p,q,h1,h2,hp⟩:=kE h hj hk
 refine ⟨p,h1,?_⟩
 simp only[rn,adg,beq_iff_eq,acn,he,hd,if_true,acK,acz,false_or,bR,decide_true] at hp
 rcases hp with hp | ⟨_,hp⟩
 ·omega
 ·exact hp
theorem ox {os:List Oper} {ds:List GD} (h:fO os ds=true) {j k:Nat} {d e:GD} (hj:ds[j]? =some d) (hk:ds[k]? =some e) (hd:d.cq=false) (he:e.cq=true):
 ∃p q,(dY [] os)[j]? =some p∧(dY [] os)[k]? =some q∧(ff ds k < d.lo→p.testBit k=true)∧(d.hi≤ff ds k→q.testBit j=true):=by
 obtain ⟨p,q,h1,h2,hp⟩:=kE h hj hk
 refine ⟨p,q,h1,h2,?_⟩
 simp only[rn,adg,beq_iff_eq,acn,he,hd,if_false,acK,acz,false_or,aeq,decide_eq_false_iff_not] at hp
 rcases hp with hp | ⟨_,hp⟩
 ·subst hp
  rw[hj] at hk;cases hk
  rw[hd] at he;cases he
 ·exact ⟨fun hc=> hp.1.resolve_left (fun hn=> hn hc),fun hc=> hp.2.resolve_left (fun hn=> hn hc)⟩
theorem qy {os:List Oper} {ds:List GD} (h:fO os ds=true):ds.length=os.length∧(∀d∈ds,d.lo≤ff ds ds.length)∧∀(j:Nat) (o:Oper),os[j]? =some o→∀e∈o.after,Region.binds .any e=true→e.on < j:=by
 simp only[fO,acn,beq_iff_eq,acJ,decide_eq_true_eq] at h
 obtain ⟨⟨⟨hlen,hb⟩,gU⟩,_⟩:=h
 refine ⟨hlen,gU,fun j o ho e he hbe=> ?_⟩
 have:=acJ.1 hb j (ado.2 (acj.1 ho).1)
 simp only[ho,acJ,adg,aeq,decide_eq_true_eq] at this
 rcases this e (by simpa using he) with h' | h'
 ·rw[hbe] at h';cases h'
 ·exact h'
end Go.Vm
namespace Go.Vm
variable {P : Program} {obj : Nat → Bool}
theorem DN {all:List Oper}:∀ {os:List Oper} {gs:List G},sn P obj all os=some gs→gs.length=os.length∧∀(j:Nat) (o:Oper) (g:G),os[j]? =some o→gs[j]? =some g→cog P obj all o=some g
 | [],gs,h=> by
   simp only[sn,Option.some.injEq] at h
   subst h
   exact ⟨rfl,fun j o g ho=> by simp at ho⟩
 | o::os,gs,h=> by
   simp only[sn] at h
   split at h
   case h_2=> cases h
   rename_i g gs' hg je
   simp only[Option.some.injEq] at h
   subst h
   obtain ⟨h1,h2⟩:=DN je
   refine ⟨by simp[h1],fun j o' g' ho Hs=> ?_⟩
   cases j with
   | zero=>
     simp only[acM,Option.some.injEq] at ho Hs
     subst ho Hs
     exact hg
   | succ j=> exact h2 j o' g' (by simpa using ho) (by simpa using Hs)
def q24z (l:Array Bool):Nat→Prop:=fun j=> l.getD j false=true
theorem dj {l:Array Bool} {i:Nat} (hi:i < l.size) (k:Nat):q24z (l.setIfInBounds i true) k↔q24z l k∨k=i:=by
 unfold q24z
 by_cases hk:i=k
 ·subst hk
  simp[hi,acu]
 ·rw[getD_set_ne false hk]
  constructor
  ·exact Or.inl
  ·rintro (h | h)
   ·exact h
   ·exact absurd h.symm hk
section
variable (hL : (ak P).OK) {cf : Nat → List V → Hp → Option (V × Hp)} {base : Nat} (gh : cJ P (ak P) cf)
include hL gh
theorem wR {all:List Oper} {ds:List GD} (hc:sn P obj all all=some (ds.map (·.g))) (iM:fO all ds=true) {mL fr':Fr} {h0 h':Hp} {vals:Nat→V} {frs:Nat→Fr} {hs:List Hp}
 (tr:Tr cf base ds mL h0 fr' h' vals frs hs)
 (Cc:∀(j:Nat) (d:GD),ds[j]? =some d→d.cq=false→∀(m:Nat) (hp:Hp),d.lo≤m→m≤d.hi→hs[m]? =some hp→stepG cf base (frs j) hp d.g=some (vals j,hp))
 {c0:Ctx} {a0:Act} {w0:World} {Q:Exit→Act→World→Prop} (hE:Ends P c0 w0 a0 fr' h' (Q .normal)):
 ∀(fuel:Nat) (listed:Array Bool) (a:Act) (w:World) (c:Ctx) (m:Nat) (frc:Fr) (hp:Hp),listed.size=all.length→listed.toList.count true+fuel=all.length→Clo all (q24z listed)→vk ds mL vals (q24z listed) frc→
  RF (ak P) c frc a→hs[m]? =some hp→bp (ak P) c hp w→(∀(k:Nat) (d:GD),ds[k]? =some d→d.cq=true→(q24z listed k↔ff ds k < m))→c0.le c→St w0 w→a.defers=a0.defers→
  wpAny P .any all.toArray Q fuel listed a w:=by
 have hu:=rS iM
 obtain ⟨hlen,gU,KE⟩:=qy iM
 obtain ⟨Zg,Zh⟩:=DN hc
 have fin:∀(listed:Array Bool) (a:Act) (w:World) (c:Ctx) (m:Nat) (frc:Fr) (hp:Hp),(∀j,j < all.length→q24z listed j)→vk ds mL vals (q24z listed) frc→
  RF (ak P) c frc a→hs[m]? =some hp→bp (ak P) c hp w→(∀(k:Nat) (d:GD),ds[k]? =some d→d.cq=true→(q24z listed k↔ff ds k < m))→c0.le c→St w0 w→a.defers=a0.defers→Q .normal a w:=by
   intro listed a w c m frc hp bV lS hf hm lT iy hle aR fQ
   have e1:frc=fr':=by
     have h1:=tr.cur hu ds.length (acm _)
     rw[tr.lst] at h1
     apply adl
     intro t
     refine lS.same h1 t fun k d hd _=> ?_
     have hk:k < ds.length:=(acj.1 hd).1
     exact ⟨fun _=> hk,fun _=> bV k (by omega)⟩
   have e2:m=ff ds ds.length:=by
     have h1:m < hs.length:=(acj.1 hm).1
     rw[tr.len] at h1
     rcases adZ m (ff ds ds.length) with h2 | h2
     ·obtain ⟨k,d,h3,h4,h5,h6⟩:=kC ds h2
      have:=(iy k d h4 h5).1 (bV k (by omega))
      omega
     ·omega
   have e3:hp=h':=by
     rw[e2,tr.FL] at hm
     exact (Option.some.inj hm).symm
   subst e1 e3
   exact hE a c w hf lT hle aR fQ
 have stp:∀(fuel:Nat),(∀(listed:Array Bool) (a:Act) (w:World) (c:Ctx) (m:Nat) (frc:Fr) (hp:Hp),listed.size=all.length→listed.toList.count true+fuel=all.length→Clo all (q24z listed)→vk ds mL vals (q24z listed) frc→
  RF (ak P) c frc a→hs[m]? =some hp→bp (ak P) c hp w→(∀(k:Nat) (d:GD),ds[k]? =some d→d.cq=true→(q24z listed k↔ff ds k < m))→c0.le c→St w0 w→a.defers=a0.defers→
  wpAny P .any all.toArray Q fuel listed a w)→
   ∀(listed:Array Bool) (a:Act) (w:World) (c:Ctx) (m:Nat) (frc:Fr) (hp:Hp),listed.size=all.length→listed.toList.count true+(fuel+1)=all.length→Clo all (q24z listed)→vk ds mL vals (q24z listed) frc→
    RF (ak P) c frc a→hs[m]? =some hp→bp (ak P) c hp w→(∀(k:Nat) (d:GD),ds[k]? =some d→d.cq=true→(q24z listed k↔ff ds k < m))→c0.le c→St w0 w→a.defers=a0.defers→
    ∀i∈Region.ready .any all.toArray listed,wpOp P all.toArray Q i (wpAny P .any all.toArray Q fuel (listed.setIfInBounds i true)) a w:=by
   intro fuel ih listed a w c m frc hp cU my pE lS hf hm lT iy hle aR fQ i hi
   obtain ⟨mU,o,ho,uV⟩:=mem_ready.1 hi
   rw[adv] at ho
   have hil:i < all.length:=(acj.1 ho).1
   have FK:¬q24z listed i:=by
     unfold q24z
     have:i < listed.size:=by omega
     simp only[acu,acP this,acX] at mU ⊢
     simp[mU]
   have hd:ds[i]? =some ds[i]:=aci (by omega)
   have hg:cog P obj all o=some (ds[i]'(by omega)).g:=Zh i o _ ho (by rw[acv,hd];rfl)
   generalize ds[i]'(by omega)=d at hd hg
   have yd:∀p,(dY [] all)[i]? =some p→∀k,p.testBit k=true→q24z listed k:=mw pE i o ho (fun e he hb=> uV e he hb)
   have wS:∀k q,(dY [] all)[k]? =some q→q.testBit i=true→¬q24z listed k:=fun k q hq hb hk=> by
     have gP:k < all.length:=by
       have:=(acj.1 hq).1
       rw[fW] at this;simpa using this
     have KF:all[k]? =some all[k]:=aci gP
     exact FK (mw pE k _ KF (fun e he hb=> pE k _ KF hk e he hb) q hq i hb)
   have nR:∀t∈d.g.reads,frc[t]? =(frs i)[t]? :=fun t ht=> by
     refine lS.same (tr.cur hu i (by omega)) t fun k e he het=> ?_
     by_cases hki:k=i
     ·subst hki
      exact ⟨fun h=> absurd h FK,fun h=> absurd h (Nat.lt_irrefl _)⟩
     ·obtain ⟨p,q,h1,h2,h3⟩:=qx iM hd he (fun h=> hki h.symm) het ht
      split at h3
      ·rename_i bR
       exact ⟨fun _=> bR,fun _=> yd p h1 k h3⟩
      ·rename_i bR
       exact ⟨fun h=> absurd h (wS k q h2 h3),fun h=> absurd h bR⟩
   have KG:∃hq m',stepG cf base frc hp d.g=some (vals i,hq)∧hs[m']? =some hq∧(∀(k:Nat) (e:GD),ds[k]? =some e→e.cq=true→(q24z (listed.setIfInBounds i true) k↔ff ds k < m')):=by
     by_cases he:d.cq=true
     ·obtain ⟨hp1,hq,h1,h2,h3⟩:=tr.cq i d hd he
      have hmi:ff ds i=m:=by
        have h4:¬ff ds i < m:=fun h=> FK ((iy i d hd he).2 h)
        rcases adZ m (ff ds i) with h5 | h5
        ·obtain ⟨k,e,h6,h7,h8,h9⟩:=kC ds h5
         obtain ⟨p,h10,h11⟩:=rT iM hd h7 he h8 h6
         have:=(iy k e h7 h8).1 (yd p h10 k h11)
         omega
        ·omega
      rw[hmi,hm] at h1
      cases h1
      refine ⟨hq,m+1,?_,hmi ▸ h2,fun k e vQ AF=> ?_⟩
      ·rw[kD nR];exact h3
      ·rw[dj (by omega),iy k e vQ AF]
       constructor
       ·rintro (h | rfl)
        ·omega
        ·omega
       ·intro h
        rcases adZ (ff ds k) m with h5 | h5
        ·exact Or.inl h5
        ·right
         rcases Nat.lt_trichotomy k i with h6 | h6 | h6
         ·have:=yb vQ AF h6;omega
         ·exact h6
         ·have:=yb hd he h6;omega
     ·have Hv:d.cq=false:=by simpa using he
      have abu:m < ff ds ds.length+1:=by
        have:=(acj.1 hm).1
        rw[tr.len] at this;exact this
      have Ti:d.lo≤m:=by
        rcases adZ m d.lo with h5 | h5
        ·have h6:=gU d (acw hd)
         obtain ⟨k,e,h7,h8,h9,h10⟩:=kC ds (show m < ff ds ds.length by omega)
         obtain ⟨p,q,h11,h12,h13,h14⟩:=ox iM hd h8 Hv h9
         have:=(iy k e h8 h9).1 (yd p h11 k (h13 (by omega)))
         omega
        ·exact h5
      have Tj:m≤d.hi:=by
        rcases adZ d.hi m with h5 | h5
        ·obtain ⟨k,e,h7,h8,h9,h10⟩:=kC ds (show d.hi < ff ds ds.length by omega)
         obtain ⟨p,q,h11,h12,h13,h14⟩:=ox iM hd h8 Hv h9
         exact absurd ((iy k e h8 h9).2 (by omega)) (wS k q h12 (h14 (by omega)))
        ·exact h5
      refine ⟨hp,m,?_,hm,fun k e vQ AF=> ?_⟩
      ·rw[kD nR];exact Cc i d hd Hv m hp Ti Tj hm
      ·rw[dj (by omega),iy k e vQ AF]
       constructor
       ·rintro (h | rfl)
        ·exact h
        ·rw[hd] at vQ;cases vQ;rw[Hv] at AF;cases AF
       ·exact Or.inl
   obtain ⟨hq,m',h1,h2,h3⟩:=KG
   unfold wpOp
   rw[adv,ho]
   simp only
   refine uP (Q:=Q) hL gh hg hf lT h1 fun u c' w' hv dv FM ir=> ?_
   refine ih _ _ w' c' m' (ik frc d.g.dst (vals i)) hq (by simpa using cU) ?_ ?_ ?_ ?_ h2 dv h3 (hle.trans FM) (aR.trans ir) (by rw[kz,fQ])
   ·have dL:listed.toList[i]? =some false:=by
      have:i < listed.size:=by omega
      rw[ad2,acP this]
      simp only[q24z,acu,acP this,acX,aev] at FK
      rw[FK]
    have bR:i < listed.toList.length:=(acj.1 dL).1
    have zk:listed.toList[i]=false:=by simpa[aci bR] using dL
    rw[adT,List.count_set bR,zk]
    show List.count true listed.toList - 0+1+fuel=all.length
    omega
   ·intro j o' kP hj e he hb
    rw[dj (by omega)]
    rcases (dj (by omega) j).1 hj with hj | rfl
    ·exact Or.inl (pE j o' kP hj e he hb)
    ·rw[ho] at kP;cases kP
     exact Or.inl (uV e he hb)
   ·exact lS.step hu hd fun k=> dj (by omega) k
   ·rw[(lR hg).2.1]
    exact RF.put (hf.mono FM) hv o.dst
 intro fuel
 induction fuel with
 | zero=>
   intro listed a w c m frc hp cU my pE lS hf hm lT iy hle aR fQ
   have bV:∀j,j < all.length→q24z listed j:=fun j hj=> by
     have h1:listed.toList.count true=listed.toList.length:=by simp at my ⊢;omega
     have h2:=List.count_eq_length.1 h1
     have h3:j < listed.size:=by omega
     have:=h2 listed.toList[j] (ac3 _)
     simp only[q24z,acu,acP h3,acX]
     simpa using this.symm
   refine ⟨?_,fin listed a w c m frc hp bV lS hf hm lT iy hle aR fQ⟩
   apply ae6.2
   intro i hi
   obtain ⟨h1,o,ho,_⟩:=mem_ready.1 hi
   rw[adv] at ho
   have hil:i < all.length:=(acj.1 ho).1
   have:=bV i hil
   have h3:i < listed.size:=by omega
   simp only[q24z,acu,acP h3,acX] at this h1
   rw[this] at h1;cases h1
 | succ fuel ih=>
   intro listed a w c m frc hp cU my pE lS hf hm lT iy hle aR fQ
   refine ⟨fun oA=> ?_,stp fuel ih listed a w c m frc hp cU my pE lS hf hm lT iy hle aR fQ⟩
   have bV:∀j,j < all.length→q24z listed j:=by
     intro j
     induction j using Nat.strongRecOn with
     | _ j ihj=>
       intro hj
       by_cases hn:q24z listed j
       ·exact hn
       ·exfalso
        have ho:all[j]? =some all[j]:=aci hj
        have:j∈Region.ready .any all.toArray listed:=by
          refine mem_ready.2 ⟨?_,all[j],by rw[adv,ho],fun e he hb=> ?_⟩
          ·have h3:j < listed.size:=by omega
           simp only[q24z,acu,acP h3,acX,aev] at hn ⊢
           exact hn
          ·have:=KE j _ ho e he hb
           exact ihj e.on this (by omega)
        rw[oA] at this
        cases this
   exact fin listed a w c m frc hp bV lS hf hm lT iy hle aR fQ
theorem Cd {id:Nat} {all:List Oper} {ds:List GD} (vx:P.follows .mixedOrders=true) (hc:sn P obj all all=some (ds.map (·.g))) (iM:fO all ds=true) {c:Ctx} {h:Hp} {w:World} {fr:Fr} {a:Act}
 (hf:RF (ak P) c fr a) (hs:bp (ak P) c h w) {fr':Fr} {h':Hp} (hr:bL cf base ds fr h=some (fr',h')) {Q:Exit→Act→World→Prop} (hE:Ends P c w a fr' h' (Q .normal)):
 (Code.region id all.toArray true).wp P Q a w:=by
 obtain ⟨vals,frs,hps,tr,hq⟩:=DK cf base hr
 refine wp_region_any vx ?_
 refine wR hL gh hc iM tr hq (c0:=c) (a0:=a) (w0:=w) hE _ _ a _ c 0 fr h (by simp) ?_ ?_ ?_ hf tr.zR hs.drew ?_ (Ctx.le_refl c) (St.drew w) rfl
 ·simp[ae9]
 ·intro j o ho hj
  simp only[q24z,acu,ac5] at hj
  split at hj <;> simp at hj
 ·refine vk.start ds fr vals fun k hk=> ?_
  simp only[q24z,acu,ac5] at hk
  split at hk <;> simp at hk
 ·intro k d hd he
  constructor
  ·intro hk
   simp only[q24z,acu,ac5] at hk
   split at hk <;> simp at hk
  ·intro hk;omega
end
end Go.Vm
namespace Go.Vm
def O.indep :O→Bool
 | .mv | .pick | .bin _ _ | .ve _ _ _ | .eqs _ _ _ | .un _ | .aU | .fld _ _ | .idx _ | .Fu | .dN _ _ _ | .jD _ _ _ | .sls _ _ | .len | .Fv | .cap | .gO _ | .mki _ | .tas _ _ _ | .ext _ | .min | .max | .mkf _ | .nop | .fzp _ | .CP _ _ _=> true
 | .s2b lit=> lit
 | _=> false
def bare (h:Hp) (o:Option (V×Hp)):Option (V×Hp):=o.map fun r=>(r.1,h)
theorem Tk (h:Hp) (c a b:V):ug h c a b=bare h (ug [] c a b):=by unfold ug;split <;> rfl
theorem Zi (h:Hp) (cl:Cl) (op:BinOp) (x y:V):lK h cl op x y=bare h (lK [] cl op x y):=by unfold lK;cases vp cl op x y <;> rfl
theorem abv (h:Hp) (op:UnOp) (x:V):(unV op x).bind (j6 · h)=bare h ((unV op x).bind (j6 · [])):=by cases unV op x <;> rfl
theorem Zj (h:Hp) (t:Nat) (k:IntKind) (n:Bool) (x y:V):uh h t k n x y=bare h (uh [] t k n x y):=by
 unfold uh;split
 ·split
  ·split <;> rfl
  ·rfl
 ·rfl
theorem Zk (h:Hp) (t:Nat) (k:List LK) (n:Bool) (x y:V):wv h t k n x y=bare h (wv [] t k n x y):=by
 unfold wv;split
 ·split
  ·split
   ·split <;> rfl
   ·rfl
  ·rfl
 ·rfl
theorem Zl (h:Hp) (x:V):zq h x=bare h (zq [] x):=by unfold zq;split <;> rfl
theorem Zm (h:Hp) (t i:Nat) (x:V):uo h t i x=bare h (uo [] t i x):=by
 unfold uo;split
 ·split
  ·rename_i fs _;cases fs[i]? <;> rfl
  ·rfl
 ·rfl
theorem Zn (h:Hp) (t:Nat) (x y:V):rE h t x y=bare h (rE [] t x y):=by
 unfold rE;split
 ·split
  ·rename_i es i _ _;cases es[i.toNat]? <;> rfl
  ·rfl
 ·rfl
theorem Tl (h:Hp) (x y:V):pt h x y=bare h (pt [] x y):=by
 unfold pt;split
 ·split
  ·split <;> rfl
  ·rfl
 ·rfl
theorem Tm (h:Hp) (t:Nat) (z:List V) (p:List Nat) (xs:List V):rb h t z p xs=bare h (rb [] t z p xs):=by
 unfold rb;split
 ·cases bK z (p.zip xs)<;> rfl
 ·rfl
theorem Tn (h:Hp) (t:Nat) (z:List V) (p:List Nat) (xs:List V):re h t z p xs=bare h (re [] t z p xs):=by
 unfold re;split
 ·cases bK z (p.zip xs)<;> rfl
 ·rfl
theorem DO (h:Hp) (lo hi:Bool) (x:V) (bs:List V):wC h lo hi x bs=bare h (wC [] lo hi x bs):=by
 unfold wC;split
 ·split
  ·split <;> rfl
  ·rfl
 ·rfl
theorem Zo (h:Hp) (t:Option Nat) (z:List V) (p:List Nat) (xs:List V):uC h t z p xs=bare h (uC [] t z p xs):=by
 unfold uC;split
 ·cases bK z (p.zip xs)<;> rfl
 ·rfl
theorem Zp (h:Hp) (g:Option Nat) (x:V):rM h g x=bare h (rM [] g x):=by unfold rM;split <;> rfl
theorem Zq (h:Hp) (x:V):uv h x=bare h (uv [] x):=by unfold uv;cases fj x <;> rfl
theorem Zr (h:Hp) (x:V):wA h x=bare h (wA [] x):=by unfold wA;split <;> rfl
theorem To (h:Hp) (x:V):rh h x=bare h (rh [] x):=by unfold rh;split <;> rfl
theorem Zs (h:Hp) (k:IntKind) (x:V):wD h k x=bare h (wD [] k x):=by unfold wD;cases numOf x <;> rfl
theorem Zt (h:Hp) (t:Nat) (ok:Bool) (z x:V):wF h t ok z x=bare h (wF [] t ok z x):=by
 unfold wF;split
 ·split
  ·rfl
  ·split <;> rfl
 ·rfl
theorem Zu (h:Hp) (i:Nat) (x:V):wG h i x=bare h (wG [] i x):=by
 unfold wG;split
 ·rename_i vs;cases vs[i]? <;> rfl
 ·rfl
theorem abw (h:Hp) (mx:Bool) (x y:V):uA h mx x y=bare h (uA [] mx x y):=by unfold uA;split <;> rfl
theorem Zv (h:Hp) (x:V):rL h true x=bare h (rL [] true x):=by unfold rL;split <;> rfl
theorem KH (cf:Nat→List V→Hp→Option (V×Hp)) (base:Nat) {o:O} (hi:o.indep=true) (xs:List V) (h:Hp):aC cf base h o xs=bare h (aC cf base [] o xs):=by
 cases o <;> simp only[O.indep] at hi <;> try (cases hi;done)
 case dN t z p=> exact Tm h t z p xs
 case jD t z p=> exact Tn h t z p xs
 case mkf f=> rfl
 case CP t z p=> exact Zo h t z p xs
 case s2b lit=>
   subst hi
   match xs with
   | []=> rfl
   | [x]=> exact Zv h x
   | _::_::_=> rfl
 all_goals
   match xs with
   | []=> first | rfl | done
   | [x]=> first | rfl | exact abv h _ x | exact Zp h _ x | exact Zl h x | exact Zm h _ _ x | exact Zq h x | exact Zr h x | exact To h x | exact Zs h _ x | exact Zt h _ _ _ x | exact Zu h _ x | exact DO h _ _ x []
   | [x,y]=> first | rfl | exact Zi h _ _ x y | exact Zj h _ _ _ x y | exact Zk h _ _ _ x y | exact Zn h _ x y | exact Tl h x y | exact abw h _ x y | exact DO h _ _ x [y]
   | [x,y,z]=> first | rfl | exact Tk h x y z | exact DO h _ _ x [y,z]
   | x::y::z::t::r=> first | rfl | exact DO h _ _ x (y::z::t::r)
theorem rp {cf:Nat→List V→Hp→Option (V×Hp)} {base:Nat} {o:O} (hi:o.indep=true) {xs:List V} {h h':Hp} {v:V} (hr:aC cf base h o xs=some (v,h')) (h2:Hp):aC cf base h2 o xs=some (v,h2):=by
 rw[KH cf base hi] at hr ⊢
 cases ho:aC cf base [] o xs with
 | none=> rw[ho] at hr;cases hr
 | some r=>
   rw[ho] at hr
   simp only[bare,acO,Option.some.injEq,Prod.mk.injEq] at hr ⊢
   exact ⟨hr.1,trivial⟩
theorem jW {α:Type} {o:Option α} {f:α→V} {h h':Hp} {v:V} (hr:(o.map fun a=>(f a,h))=some (v,h')):h'=h:=by
 cases o with
 | none=> cases hr
 | some a=> simp only[acO,Option.some.injEq,Prod.mk.injEq] at hr;exact hr.2.symm
theorem abx {h h':Hp} {t i:Nat} {x v:V} (hr:Fx h t i x=some (v,h')):h'=h:=by
 unfold Fx at hr
 split at hr
 ·split at hr
  ·split at hr
   ·cases hr;rfl
   ·cases hr
  ·cases hr
 ·split at hr
  ·exact jW (f:=fun v=> .eb v) hr
  ·cases hr
 ·cases hr
theorem Zw {h h':Hp} {t:Nat} {x y v:V} (hr:wx h t x y=some (v,h')):h'=h:=by
 unfold wx at hr
 split at hr
 ·split at hr
  ·split at hr
   ·split at hr
    ·cases hr;rfl
    ·cases hr
   ·cases hr
  ·split at hr
   ·exact jW (f:=fun v=> .eb v) hr
   ·cases hr
  ·cases hr
 ·cases hr
theorem Zx {h h':Hp} {g:Option Nat} {x y v:V} (hr:wy h g x y=some (v,h')):h'=h:=by
 unfold wy at hr
 split at hr
 ·split at hr
  ·split at hr
   ·split at hr
    ·cases hr;rfl
    ·cases hr
   ·cases hr
  ·split at hr
   ·exact jW (f:=fun v=> .eb v) hr
   ·cases hr
  ·cases hr
 ·cases hr
theorem Zy {h h':Hp} {g:Option Nat} {x v:V} (hr:sj h g x=some (v,h')):h'=h:=by
 unfold sj at hr
 split at hr
 ·split at hr
  ·split at hr
   ·cases hr;rfl
   ·cases hr
  ·cases hr
 ·split at hr
  ·cases hr;rfl
  ·cases hr
 ·cases hr
theorem Zz {h h':Hp} {g:Option Nat} {lo hi mx:Bool} {x v:V} {bs:List V} (hr:gV h g lo hi mx x bs=some (v,h')):h'=h:=by
 unfold gV at hr
 split at hr
 case h_2=> cases hr
 split at hr
 ·split at hr
  case h_2=> cases hr
  split at hr
  ·exact jW (f:=id) hr
  ·cases hr
 ·split at hr
  ·exact jW (f:=id) hr
  ·cases hr
 ·split at hr
  ·exact jW (f:=id) hr
  ·cases hr
 ·cases hr
theorem ZA {h h':Hp} {t:Nat} {g:Option Nat} {lo hi:Bool} {x v:V} {bs:List V} (hr:rB h t g lo hi x bs=some (v,h')):h'=h:=by
 unfold rB at hr
 split at hr
 case h_2=> cases hr
 split at hr
 ·split at hr
  ·split at hr
   ·split at hr
    ·split at hr
     ·split at hr <;>(cases hr;rfl)
     ·cases hr
    ·cases hr
   ·cases hr
  ·cases hr
 ·split at hr
  ·split at hr
   ·split at hr
    ·cases hr;rfl
    ·cases hr
   ·cases hr
  ·cases hr
 ·cases hr
theorem ZB {h h':Hp} {x v:V} (hr:wE h x=some (v,h')):h'=h:=by
 unfold wE at hr
 obtain ⟨r,_,hr⟩:=acr.1 hr
 obtain ⟨l,_,hr⟩:=acr.1 hr
 cases hr;rfl
theorem ZC {one:Bool} {h h':Hp} {x v:V} (hr:uw h one x=some (v,h')):h'=h:=by
 unfold uw at hr
 split at hr
 ·split at hr
  ·cases hr;rfl
  ·cases hr
 ·obtain ⟨r,_,hr⟩:=acr.1 hr
  obtain ⟨l,_,hr⟩:=acr.1 hr
  cases hr;rfl
theorem mP :∀ {ps:List (Nat×V)} {es es':List V},bK es ps=some es'→es'.length=es.length
 | [],es,es',h=> by simp only[bK,Option.some.injEq] at h;subst h;rfl
 | (i,y)::ps,es,es',h=> by
   simp only[bK] at h
   split at h
   ·split at h
    ·rw[mP h,adz]
    ·cases h
   ·cases h
theorem ZD {h h':Hp} {g:Option Nat} {p:List Nat} {xs:List V} {v:V} (hr:oT h g [] p xs=some (v,h')):h'=h:=by
 unfold oT at hr
 split at hr
 ·split at hr
  ·rename_i es he
   have:=mP he
   have:es=[]:=by simpa using this
   subst this
   simp only[List.isEmpty_nil,if_true,Option.some.injEq,Prod.mk.injEq] at hr
   exact hr.2.symm
  ·cases hr
 ·cases hr
theorem ZE {h h':Hp} {kc:Option (Nat×IntKind)} {ok:Bool} {z x y v:V} (hr:zx h kc ok z x y=some (v,h')):h'=h:=by
 unfold zx at hr
 split at hr
 ·split at hr
  ·exact jW (f:=YZ ok z) hr
  ·cases hr
 ·cases hr
theorem ZF {h h':Hp} {x v:V} (hr:zC h x=some (v,h')):h'=h:=by
 unfold zC at hr
 split at hr
 ·split at hr
  ·cases hr;rfl
  ·cases hr
 ·cases hr
theorem wT {cf:Nat→List V→Hp→Option (V×Hp)} {base:Nat} {o:O} (he:o.cq=false) {xs:List V} {h h':Hp} {v:V} (hr:aC cf base h o xs=some (v,h')):h'=h:=by
 by_cases hi:o.indep=true
 ·have:=rp hi hr h
  rw[hr] at this
  cases this;rfl
 cases o <;> simp only[O.indep,not_true_eq_false,aev,acz,not_false_eq_true] at hi <;> simp only[O.cq] at he <;> try (cases he;done)
 case s2b lit=> subst hi;simp at he
 case mA f=>
   simp only[aC,uB] at hr
   split at hr
   ·split at hr
    ·cases hr;rfl
    ·cases hr
   ·cases hr
 case bad=> simp[aC] at hr
 case gT g z p=>
   have:z=[]:=by simpa using he
   subst this
   exact ZD hr
 case fa t i=> match xs,hr with
   | [x],hr=> exact abx hr
   | [],hr=> cases hr
   | _::_::_,hr=> cases hr
 case fg t=> match xs,hr with
   | [x,y],hr=> exact Zw hr
   | [],hr=> cases hr
   | [_],hr=> cases hr
   | _::_::_::_,hr=> cases hr
 case de t=> match xs,hr with
   | [x,y],hr=> exact Zx hr
   | [],hr=> cases hr
   | [_],hr=> cases hr
   | _::_::_::_,hr=> cases hr
 case ld g=> match xs,hr with
   | [x],hr=> exact Zy hr
   | [],hr=> cases hr
   | _::_::_,hr=> cases hr
 case j2 g a b c=> match xs,hr with
   | x::bs,hr=> exact Zz hr
   | [],hr=> cases hr
 case nU t g a b=> match xs,hr with
   | x::bs,hr=> exact ZA hr
   | [],hr=> cases hr
 case lku kc ok z=> match xs,hr with
   | [x,y],hr=> exact ZE hr
   | [],hr=> cases hr
   | [_],hr=> cases hr
   | _::_::_::_,hr=> cases hr
 case mln=> match xs,hr with
   | [x],hr=> exact ZF hr
   | [],hr=> cases hr
   | _::_::_,hr=> cases hr
 case yp=> match xs,hr with
   | [x],hr=> exact ZB hr
   | [],hr=> cases hr
   | _::_::_,hr=> cases hr
 case r2s=> match xs,hr with
   | [x],hr=> exact ZC hr
   | [],hr=> cases hr
   | _::_::_,hr=> cases hr
theorem rU {cf:Nat→List V→Hp→Option (V×Hp)} {base:Nat} {g:G} (he:g.op.cq=false) {fr:Fr} {h h':Hp} {v:V} (hr:stepG cf base fr h g=some (v,h')):h'=h:=by
 unfold stepG at hr
 split at hr
 ·exact wT he hr
 ·cases hr;rfl
 ·cases hr
theorem zS {cf:Nat→List V→Hp→Option (V×Hp)} {base:Nat} {g:G} (hi:g.op.indep=true) {fr:Fr} {h h':Hp} {v:V} (hr:stepG cf base fr h g=some (v,h')) (h2:Hp):stepG cf base fr h2 g=some (v,h2):=by
 unfold stepG at hr ⊢
 split at hr
 ·exact rp hi hr h2
 ·cases hr;rfl
 ·cases hr
end Go.Vm
namespace Go.Vm
variable {P : Program} {obj : Nat → Bool}
structure lU where
 i:Nat
 j:Nat
 t:Nat
 T:Nat
 deriving DecidableEq
def zT (obj:Nat→Bool):O→O
 | .call f=> if obj (1000000+f) then .call f else .mA f
 | .gT g z p=> if obj 2000000 then .gT g z p else .CP g z p
 | o=> o
def DP (obj:Nat→Bool) (g:G):G:=⟨g.dst,zT obj g.op,g.xs,g.guard⟩
def KI (P:Program) (obj:Nat→Bool) (all:List Oper) (prs:List lU) (n:Nat) (o:Oper):Option G:=
 if prs.any (fun p=> p.i==n) then some ⟨none,.nop,[],none⟩
 else match prs.find? (fun p=> p.j==n),o.op with
   | some p,.store T _ x=>(eP P T x).map fun X=>⟨some p.t,.fzp (aE P T),[X],none⟩
   | some _,_=> none
   | none,_=>(cog P obj all o).map (DP obj)
def rV (P:Program) (obj:Nat→Bool) (all:List Oper) (prs:List lU):Nat→List Oper→Option (List G)
 | _,[]=> some []
 | n,o::os=> match KI P obj all prs n o,rV P obj all prs (n+1) os with
   | some g,some gs=> some (g::gs)
   | _,_=> none
theorem nS {all:List Oper} {prs:List lU}:∀ {os:List Oper} {gs:List G} {n:Nat},rV P obj all prs n os=some gs→gs.length=os.length∧∀(j:Nat) (o:Oper) (g:G),os[j]? =some o→gs[j]? =some g→KI P obj all prs (n+j) o=some g
 | [],gs,n,h=> by
   simp only[rV,Option.some.injEq] at h
   subst h
   exact ⟨rfl,fun j o g ho=> by simp at ho⟩
 | o::os,gs,n,h=> by
   simp only[rV] at h
   split at h
   case h_2=> cases h
   rename_i g gs' hg je
   simp only[Option.some.injEq] at h
   subst h
   obtain ⟨h1,h2⟩:=nS je
   refine ⟨by simp[h1],fun j o' g' ho Hs=> ?_⟩
   cases j with
   | zero=>
     simp only[acM,Option.some.injEq] at ho Hs
     subst ho Hs
     exact hg
   | succ j=>
     have:=h2 j o' g' (by simpa using ho) (by simpa using Hs)
     rw[←this];congr 1;omega
def KJ (P:Program) (obj:Nat→Bool) (all:List Oper) (gs:List G) (prs:List lU) (p:lU):Bool:=
 (match all[p.i]? with
   | some o=>(match o.op with | .alloc T=> T==p.T | _=> false)&& o.guard.isNone && o.dst==some p.t &&(zeroOf P obj p.T).isSome && oY P p.T
   | none=> false)&&
 (match all[p.j]?,(dY [] all)[p.j]? with
   | some o,some q=>(match o.op with | .store T (.tmp t) _=> T==p.T && t==p.t | _=> false)&& o.guard.isNone && o.dst.isNone && q.testBit p.i
   | _,_=> false)&&
 ((List.range gs.length).all fun k=> match gs[k]?,(dY [] all)[k]? with
   | some g,some q=> !g.reads.contains p.t || q.testBit p.j
   | _,_=> true)&&
 prs.all fun q=>(q.t !=p.t && q.i !=p.i && q.j !=p.j) || decide (q=p)
structure ye (P:Program) (obj:Nat→Bool) (all:List Oper) (gs:List G) (prs:List lU) (p:lU):Prop where
 lay:∃o,all[p.i]? =some o∧o.op= .alloc p.T∧o.guard=none∧o.dst=some p.t
 zero:∃z,zeroOf P obj p.T=some z
 tg:oY P p.T=true
 fill:∃o x q,all[p.j]? =some o∧o.op= .store p.T (.tmp p.t) x∧o.guard=none∧o.dst=none∧(dY [] all)[p.j]? =some q∧q.testBit p.i=true
 look:∀(k:Nat) (g:G) (q:Nat),gs[k]? =some g→(dY [] all)[k]? =some q→p.t∈g.reads→q.testBit p.j=true
 one:∀q∈prs,(q.t≠p.t∧q.i≠p.i∧q.j≠p.j)∨q=p
theorem KK {all:List Oper} {gs:List G} {prs:List lU} {p:lU} (h:KJ P obj all gs prs p=true):ye P obj all gs prs p:=by
 simp only[KJ,acn] at h
 obtain ⟨⟨⟨h1,h2⟩,h3⟩,h4⟩:=h
 split at h1
 case h_2=> cases h1
 rename_i o ho
 simp only[acn] at h1
 obtain ⟨⟨⟨⟨a1,a2⟩,a3⟩,a4⟩,a5⟩:=h1
 split at h2
 case h_2=> cases h2
 rename_i o' q kP hq
 simp only[acn] at h2
 obtain ⟨⟨⟨b1,b2⟩,b3⟩,b4⟩:=h2
 constructor
 ·refine ⟨o,ho,?_,by simpa using a2,by simpa using a3⟩
  split at a1
  ·rename_i T hT;rw[hT];simp at a1;rw[a1]
  ·cases a1
 ·exact aer.1 a4
 ·exact a5
 ·split at b1
  ·rename_i T t x hT
   simp only[acn,beq_iff_eq] at b1
   obtain ⟨rfl,rfl⟩:=b1
   exact ⟨o',x,q,kP,hT,by simpa using b2,by simpa using b3,hq,b4⟩
  ·cases b1
 ·intro k g q hg hq ht
  have:=acJ.1 h3 k (ado.2 (acj.1 hg).1)
  simp only[hg,hq,adg,aeq,List.contains_eq_mem,decide_eq_false_iff_not] at this
  rcases this with h | h
  ·exact absurd ht h
  ·exact h
 ·intro q hq
  have:=acJ.1 h4 q hq
  simp only[adg,acn,bne_iff_ne,ne_eq,decide_eq_true_eq] at this
  rcases this with ⟨⟨x,y⟩,z⟩ | h
  ·exact .inl ⟨x,y,z⟩
  ·exact .inr h
end Go.Vm
namespace Go.Vm
variable {P : Program} {obj : Nat → Bool} {c : Ctx} {h : Hp} {w : World}
theorem gu.fu {L:cG} {c':Ctx} (hle:c.Fq c'):∀ {vs:List V} {us:List Value},gu L c vs us→gu L c' vs us
 | [],[],_=> trivial
 | _::_,_::_,h=>⟨h.1.fu hle,gu.fu hle h.2⟩
 | [],_::_,h=> h.elim
 | _::_,[],h=> h.elim
theorem Ce {r:Option (V×Hp)} {h h':Hp} {v:V} (e:uB r h=some (v,h')):r=some (v,h')∧h'=h:=by
 unfold uB at e
 split at e
 ·split at e
  ·rename_i hh
   simp only[Option.some.injEq,Prod.mk.injEq] at e
   obtain ⟨rfl,rfl⟩:=e
   exact ⟨by rw[hh],rfl⟩
  ·cases e
 ·cases e
section
variable (hL : (ak P).OK) {cf : Nat → List V → Hp → Option (V × Hp)} {base : Nat} (gh : cJ P (ak P) cf)
include hL gh
theorem Cf {o:Oper} {g:O} {xs:List X} {fr:Fr} {a:Act} {v:V} {h':Hp} (hf:RF (ak P) c fr a) (hs:bp (ak P) c h w) (hc:sV P obj o.type o.op=some (g,xs)) (ai:aC cf base h (zT obj g) (xs.map (X.ev fr))=some (v,h')):
 qv P (ak P) c w ((execOp a.eval o).run P w) v h':=by
 by_cases jj:∃f,g= .call f
 ·obtain ⟨f,rfl⟩:=jj
  simp only[zT] at ai
  split at ai
  ·exact sound hL gh hf hs hc ai
  ·simp only[aC] at ai
   exact sound (base:=base) hL gh hf hs hc (Ce ai).1
 ·by_cases hb:∃gg z p,g= .gT gg z p
  ·obtain ⟨gg,z,pl,rfl⟩:=hb
   simp only[zT] at ai
   split at ai
   ·exact sound hL gh hf hs hc ai
   ·obtain ⟨dst,op,ty,pos,after,guard⟩:=o
    simp only at hc ⊢
    cases op <;> simp only[sV] at hc
    case buildSlice t n parts=>
      split at hc
      case h_2=> cases hc
      rename_i el hu
      split at hc
      case h_2=> cases hc
      rename_i z hz
      split at hc
      case isFalse=> cases hc
      rename_i aZ
      obtain ⟨j1,ij,hn⟩:=aZ
      obtain ⟨ys,hy,he⟩:=ach.1 hc
      simp only[Prod.mk.injEq] at he
      obtain ⟨he,rfl⟩:=he
      obtain ⟨rfl,rfl,rfl⟩:=Ku he
      have hv:=q12z hf hy
      rw[adA] at hv
      simp only[aC] at ai
      obtain ⟨sh,jM,iV⟩:=cZ hz
      have:=q7z (P:=P) (Sx (P:=P) (T:=t) hL hs hu (cM j1) ij sh jM iV hn (us:=parts.toList.map fun p=> a.eval p.2) (by simpa using hv.length) hv.get ai)
      rw[←parts_eq] at this
      simpa only[execOp,Sem.run_bind,Sem.run_pure] using this
    all_goals (exfalso;revert hc;repeat' split)
    all_goals first | (simp[ach,acr,Kv];done) | (intro hc;simp_all;done)
  ·have:zT obj g=g:=by
     cases g <;> first
       | rfl
       | exact absurd ⟨_,rfl⟩ jj
       | exact absurd ⟨_,_,_,rfl⟩ hb
   rw[this] at ai
   exact sound hL gh hf hs hc ai
theorem FN {ops:List Oper} {o:Oper} {g:G} (hg:cog P obj ops o=some g) {fr:Fr} {a:Act} (hf:RF (ak P) c fr a) (hs:bp (ak P) c h w) {v:V} {h':Hp} (aR:Vm.stepG cf base fr h (DP obj g)=some (v,h'))
 {K:Act→World→Prop} {Q:Exit→Act→World→Prop}
 (hK:∀u c' w',RV (ak P) c' v u→bp (ak P) c' h' w'→c.le c'→St w w'→K (a.put o.dst u) w'):
 if Region.wanted o (yielded ops.toArray a.tmps) then o.wp P a w K Q∨(o.asks P a w∧LetsOut Q) else K (a.put o.dst undef) w:=by
 unfold Vm.stepG at aR
 have ZG:want fr (DP obj g)=want fr g:=rfl
 rw[ZG] at aR
 split at aR
 ·rename_i hw
  rw[kn hg hf hw,if_pos rfl]
  obtain ⟨hc,hd,_⟩:=lR hg
  left
  unfold Oper.wp
  rcases Cf hL gh hf hs hc aR with ⟨u,c',w',hr,hv,dv,hle,ir⟩ | ⟨f,us,hr,jj⟩
  ·rcases hr with hr | ⟨hr,rfl⟩
   ·rw[hr];exact hK u c' w' hv dv hle ir
   ·rw[hr];exact hK undef c' w' hv dv hle ir
  ·rw[hr]
   refine Calls.mono jj fun e w' he=> ?_
   obtain ⟨u,c',rfl,hv,dv,hle,ir⟩:=he
   exact hK u c' w' hv dv hle ir
 ·rename_i hw
  simp only[Option.some.injEq,Prod.mk.injEq] at aR
  obtain ⟨rfl,rfl⟩:=aR
  rw[kn hg hf hw]
  exact hK undef c w (cI.2 ⟨[],rfl,trivial⟩) hs (Ctx.le_refl c) (St.refl w)
 ·cases aR
theorem KL {o:Oper} {T t:Nat} (ho:o.op= .alloc T) (hd:o.dst=some t) {z:V} (hz:zeroOf P obj T=some z) {a:Act} (hs:bp (ak P) c h w) {K:Act→World→Prop} {Q:Exit→Act→World→Prop}
 (hK:∀cs:Array Value,cs.size=(ak P).aD (aE P T)→bp (ak P) (c.dK w.heap.size (zE cs T)) h (w.alloc (.cells cs T))→K (a.put (some t) (.pointer (some ⟨w.heap.size,0,none⟩))) (w.alloc (.cells cs T))):
 o.wp P a w K Q:=by
 obtain ⟨⟨i,zv,h1,h2,h3⟩,hzt,iV⟩:=cZ hz
 have hlen:=(h3 c).aW hL iV
 have bo:(Instr.alloc T true (.tuple #[])).run P w= .ok (.pointer (some ⟨w.heap.size,0,none⟩)) (w.alloc (.cells zv.cells T)):=by
   have e:(Instr.alloc T true (.tuple #[])).run P w=(Instr.box T zv).run P w:=by
     simp[Instr.alloc,Instr.box,zeroValue,typeInfo,h1,h2]
   rw[e];simp[Instr.box,newVar,newRow]
 unfold Oper.wp
 have hex:(execOp a.eval o).run P w= .ok (.value (.pointer (some ⟨w.heap.size,0,none⟩))) (w.alloc (.cells zv.cells T)):=by
   obtain ⟨dst,op,ty,pos,after,guard⟩:=o
   simp only at ho
   subst ho
   simp only[execOp,Sem.run_bind,bo,Result.andThen_ok,Sem.run_pure]
 rw[hex,Oper.upon_value,hd]
 exact hK zv.cells (by rw[←hzt];simpa using hlen) (hs.Kd _ _ (wH _ _))
theorem FO {o:Oper} {T t:Nat} {x:Operand} (ho:o.op= .store T (.tmp t) x) (hd:o.dst=none) (j1:oY P T=true) {X0:X} (hx:eP P T x=some X0) {fr:Fr} {a:Act} (hf:RF (ak P) c fr a) (hs:bp (ak P) c h w)
 {b:Nat} (ht:a.tmps[t]? =some (.pointer (some ⟨b,0,none⟩))) {cs:Array Value} (hb:c.z b=some (zE cs T)) (zj:cs.size=(ak P).aD (aE P T)) {v:V} {h':Hp} (ai:rM h (aE P T) (X0.ev fr)=some (v,h'))
 {K:Act→World→Prop} {Q:Exit→Act→World→Prop}
 (hK:∀cs' w',h'=h→bp (ak P) (c.dK b (.cells cs' T (0,0))) h w'→RV (ak P) (c.dK b (.cells cs' T (0,0))) v (.pointer (some ⟨b,0,none⟩))→St w w'→K a w'):
 o.wp P a w K Q:=by
 have hv:=q23z hf hx
 generalize X0.ev fr=y at hv ai
 unfold rM at ai
 split at ai
 case isFalse=> cases ai
 rename_i hc
 obtain ⟨dw,fy⟩:=hc
 simp only[Option.some.injEq,Prod.mk.injEq] at ai
 obtain ⟨rfl,rfl⟩:=ai
 have hg:w.heap[b]? =some (.cells cs T (0,0)):=by have:=hs.z b _ hb;rwa [wH] at this
 have hlen:=hv.aW hL fy
 have bo:=mN (P:=P) (w:=w) (o:=0) hL (ty:=T) (by rw[dw];exact cM j1) fy hv hg (by intro j hj;omega) (by rw[dw,←zj];omega)
 have jQ:=dI b T (0,0) (a.eval x).cells.toList 0 cs w hg (by rw[hlen,dw,←zj];omega)
 have BY:(lay cs.toList 0 (a.eval x).cells.toList)=(a.eval x).cells.toList:=by
   simp only[lay,aex,ac1,acU]
   rw[adp (by rw[hlen,dw,←zj];simp),acL]
 rw[BY] at jQ
 have hex:(execOp a.eval o).run P w= .ok .skip (w.setCells b 0 (a.eval x).cells.toList):=by
   obtain ⟨dst,op,ty,pos,after,guard⟩:=o
   simp only at ho
   subst ho
   have e1:a.eval (.tmp t)= .pointer (some ⟨b,0,none⟩):=by simp[Act.eval,acu,ht]
   have e2:(Instr.storeAt T (a.eval (.tmp t)) (a.eval x)).run P w= .ok () (w.setCells b 0 (a.eval x).cells.toList):=by
     rw[e1];simpa[Instr.storeAt,Instr.sureAddr] using bo
   simp[execOp,e2]
 unfold Oper.wp
 rw[hex,Oper.upon_skip,hd]
 have hnz:∀cs' ty fz,c.z b≠some (.cells cs' ty fz):=by rw[hb];intro _ _ _ h;cases h
 refine hK _ _ rfl (hs.fill hb (fun k hk=> q13z b _ _ _ k hk) jQ) (gL.2 ⟨b,0,(a.eval x).cells.toList.toArray,T,(0,0),rfl,by simp[Ctx.dK],?_⟩) (St.setCells _ _ _ _)
 have h1:=((hv.cells fy).1).fu (c.ri b (.cells (a.eval x).cells.toList.toArray T (0,0)) hnz)
 simp only[og,ac2,adO]
 rw[ack (by rw[hlen];exact acm _)]
 exact h1
end
end Go.Vm
namespace Go.Vm
variable {P : Program} {obj : Nat → Bool}
def lV (S:Nat→Prop) (p:lU):Prop:=S p.i∧¬S p.j
structure Nx (P:Program) (prs:List lU) (c0 c:Ctx) (frc:Fr) (a:Act) (S:Nat→Prop) (frm:Fr) (B:Nat→Nat):Prop where
 len:frm.length=frc.length
 same:∀t,(∀p∈prs,p.t=t→¬lV S p)→frm[t]? =frc[t]?
 rf:RF (ak P) c frm a
 at_:∀p∈prs,lV S p→a.tmps[p.t]? =some (.pointer (some ⟨B p.i,0,none⟩))∧c0.z (B p.i)=none∧∃cs:Array Value,c.z (B p.i)=some (zE cs p.T)∧cs.size=(ak P).aD (aE P p.T)
 inj:∀p∈prs,∀q∈prs,lV S p→lV S q→B p.i=B q.i→p=q
theorem Ctx.le.dK {c0 c:Ctx} (h:c0.le c) {b:Nat} (hb:c0.z b=none) (o:Obj):c0.le (c.dK b o) where
 z i x hi:=by
   simp only[Ctx.dK]
   by_cases e:i=b
   ·rw[e,hb] at hi;cases hi
   ·rw[if_neg e];exact h.z i x hi
 n:=h.n
 loc:=h.loc
theorem lg {α:Type}:∀ {l:List α} {i:Nat} {x:α},l[i]? =some x→l.set i x=l
 | [],i,x,h=> rfl
 | y::l,0,x,h=> by simp at h;simp[h]
 | y::l,i+1,x,h=> by simp only[List.set_cons_succ];rw[lg (by simpa using h)]
section
variable {all : List Oper} {ds : List GD} {prs : List lU} (hc : rV P obj all prs 0 all = some (ds.map (·.g))) (gR : ∀ p ∈ prs, ye P obj all (ds.map (·.g)) prs p)
include hc gR
theorem Tp {p:lU} (hp:p∈prs) {d:GD} (hd:ds[p.i]? =some d):d.g=⟨none,.nop,[],none⟩:=by
 obtain ⟨o,ho,_⟩:=(gR p hp).lay
 have:=(nS hc).2 p.i o d.g ho (by rw[acv,hd];rfl)
 rw[acU] at this
 unfold KI at this
 rw[if_pos (aeQ.2 ⟨p,hp,by simp⟩)] at this
 exact (Option.some.inj this).symm
theorem Tq {p:lU} (hp:p∈prs) {d:GD} (hd:ds[p.j]? =some d):∃o x X0,all[p.j]? =some o∧o.op= .store p.T (.tmp p.t) x∧o.guard=none∧o.dst=none∧eP P p.T x=some X0∧d.g=⟨some p.t,.fzp (aE P p.T),[X0],none⟩:=by
 obtain ⟨o,x,q,ho,ai,hg,vw,_⟩:=(gR p hp).fill
 have:=(nS hc).2 p.j o d.g ho (by rw[acv,hd];rfl)
 rw[acU] at this
 unfold KI at this
 split at this
 ·rename_i h
  obtain ⟨p',oc,e⟩:=aeQ.1 h
  simp only[beq_iff_eq] at e
  obtain ⟨o',kP,FG,_⟩:=(gR p' oc).lay
  rw[e,ho] at kP;cases kP
  rw[ai] at FG;cases FG
 ·have hf:prs.find? (fun q=> q.j==p.j)=some p:=by
    cases hq:prs.find? (fun q=> q.j==p.j) with
    | none=> exact absurd (List.find?_eq_none.1 hq p hp) (by simp)
    | some q=>
      have h1:=List.mem_of_find?_eq_some hq
      have h2:=List.find?_some hq
      simp only[beq_iff_eq] at h2
      rcases (gR p hp).one q h1 with ⟨_,_,h⟩ | h
      ·exact absurd h2 h
      ·rw[h]
  rw[hf,ai] at this
  simp only at this
  obtain ⟨X0,h1,h2⟩:=ach.1 this
  exact ⟨o,x,X0,ho,ai,hg,vw,h1,h2.symm⟩
theorem Cg {i:Nat} {o:Oper} {d:GD} (ho:all[i]? =some o) (hd:ds[i]? =some d):(∃p∈prs,p.i=i)∨(∃p∈prs,p.j=i)∨
 ((∀p∈prs,p.i≠i∧p.j≠i)∧∃g,cog P obj all o=some g∧d.g=DP obj g):=by
 by_cases h1:∃p∈prs,p.i=i
 ·exact .inl h1
 by_cases h2:∃p∈prs,p.j=i
 ·exact .inr (.inl h2)
 refine .inr (.inr ⟨fun p hp=>⟨fun e=> h1 ⟨p,hp,e⟩,fun e=> h2 ⟨p,hp,e⟩⟩,?_⟩)
 have:=(nS hc).2 i o d.g ho (by rw[acv,hd];rfl)
 rw[acU] at this
 unfold KI at this
 rw[if_neg (fun h=> by
  obtain ⟨p,hp,e⟩:=aeQ.1 h
  exact h1 ⟨p,hp,by simpa using e⟩)] at this
 have hf:prs.find? (fun q=> q.j==i)=none:=List.find?_eq_none.2 fun p hp e=> h2 ⟨p,hp,by simpa using e⟩
 rw[hf] at this
 simp only at this
 obtain ⟨g,e1,e2⟩:=ach.1 this
 exact ⟨g,e1,e2.symm⟩
end
end Go.Vm
namespace Go.Vm
variable {P : Program} {obj : Nat → Bool}
section
variable (hL : (ak P).OK) {cf : Nat → List V → Hp → Option (V × Hp)} {base : Nat} (gh : cJ P (ak P) cf)
include hL gh
theorem Ch {all:List Oper} {ds:List GD} {prs:List lU} (hc:rV P obj all prs 0 all=some (ds.map (·.g))) (gR:∀p∈prs,ye P obj all (ds.map (·.g)) prs p) (iM:fO all ds=true) {mL fr':Fr} {h0 h':Hp} {vals:Nat→V} {frs:Nat→Fr} {hs:List Hp}
 (tr:Tr cf base ds mL h0 fr' h' vals frs hs)
 (Cc:∀(j:Nat) (d:GD),ds[j]? =some d→d.cq=false→∀(m:Nat) (hp:Hp),d.lo≤m→m≤d.hi→hs[m]? =some hp→stepG cf base (frs j) hp d.g=some (vals j,hp))
 (Tt:inB mL.length ds) {c0:Ctx} {a0:Act} {w0:World} {Q:Exit→Act→World→Prop} (hE:Ends P c0 w0 a0 fr' h' (Q .normal)):
 ∀(fuel:Nat) (listed:Array Bool) (a:Act) (w:World) (c:Ctx) (m:Nat) (frc:Fr) (hp:Hp) (frm:Fr) (B:Nat→Nat),listed.size=all.length→listed.toList.count true+fuel=all.length→Clo all (q24z listed)→vk ds mL vals (q24z listed) frc→
  Nx P prs c0 c frc a (q24z listed) frm B→hs[m]? =some hp→bp (ak P) c hp w→(∀(k:Nat) (d:GD),ds[k]? =some d→d.cq=true→(q24z listed k↔ff ds k < m))→c0.le c→St w0 w→a.defers=a0.defers→
  wpAny P .any all.toArray Q fuel listed a w:=by
 have hu:=rS iM
 obtain ⟨hlen,gU,KE⟩:=qy iM
 obtain ⟨Zg,Zh⟩:=nS hc
 have hpi:=fun (p:lU) (hp:p∈prs) (d:GD) (hd:ds[p.i]? =some d)=> Tp (p:=p) hc gR hp hd
 have hpj:=fun (p:lU) (hp:p∈prs) (d:GD) (hd:ds[p.j]? =some d)=> Tq (p:=p) hc gR hp hd
 have fin:∀(listed:Array Bool) (a:Act) (w:World) (c:Ctx) (m:Nat) (frc:Fr) (hp:Hp) (frm:Fr) (B:Nat→Nat),(∀j,j < all.length→q24z listed j)→vk ds mL vals (q24z listed) frc→
  Nx P prs c0 c frc a (q24z listed) frm B→hs[m]? =some hp→bp (ak P) c hp w→(∀(k:Nat) (d:GD),ds[k]? =some d→d.cq=true→(q24z listed k↔ff ds k < m))→c0.le c→St w0 w→a.defers=a0.defers→Q .normal a w:=by
   intro listed a w c m frc hp frm B bV lS hf hm lT iy hle aR fQ
   have e1:frc=fr':=by
     have h1:=tr.cur hu ds.length (acm _)
     rw[tr.lst] at h1
     apply adl
     intro t
     refine lS.same h1 t fun k d hd _=> ?_
     have hk:k < ds.length:=(acj.1 hd).1
     exact ⟨fun _=> hk,fun _=> bV k (by omega)⟩
   have e2:m=ff ds ds.length:=by
     have h1:m < hs.length:=(acj.1 hm).1
     rw[tr.len] at h1
     rcases adZ m (ff ds ds.length) with h2 | h2
     ·obtain ⟨k,d,h3,h4,h5,h6⟩:=kC ds h2
      have:=(iy k d h4 h5).1 (bV k (by omega))
      omega
     ·omega
   have e3:hp=h':=by
     rw[e2,tr.FL] at hm
     exact (Option.some.inj hm).symm
   have e4:frm=frc:=by
     apply adl
     intro t
     refine hf.same t fun p hp _ ho=> ho.2 (bV p.j ?_)
     obtain ⟨o,_,_,ho,_⟩:=(gR p hp).fill
     exact (acj.1 ho).1
   subst e1 e3
   rw[e4] at hf
   exact hE a c w hf.rf lT hle aR fQ
 have stp:∀(fuel:Nat),(∀(listed:Array Bool) (a:Act) (w:World) (c:Ctx) (m:Nat) (frc:Fr) (hp:Hp) (frm:Fr) (B:Nat→Nat),listed.size=all.length→listed.toList.count true+fuel=all.length→Clo all (q24z listed)→vk ds mL vals (q24z listed) frc→
  Nx P prs c0 c frc a (q24z listed) frm B→hs[m]? =some hp→bp (ak P) c hp w→(∀(k:Nat) (d:GD),ds[k]? =some d→d.cq=true→(q24z listed k↔ff ds k < m))→c0.le c→St w0 w→a.defers=a0.defers→
  wpAny P .any all.toArray Q fuel listed a w)→
   ∀(listed:Array Bool) (a:Act) (w:World) (c:Ctx) (m:Nat) (frc:Fr) (hp:Hp) (frm:Fr) (B:Nat→Nat),listed.size=all.length→listed.toList.count true+(fuel+1)=all.length→Clo all (q24z listed)→vk ds mL vals (q24z listed) frc→
    Nx P prs c0 c frc a (q24z listed) frm B→hs[m]? =some hp→bp (ak P) c hp w→(∀(k:Nat) (d:GD),ds[k]? =some d→d.cq=true→(q24z listed k↔ff ds k < m))→c0.le c→St w0 w→a.defers=a0.defers→
    ∀i∈Region.ready .any all.toArray listed,wpOp P all.toArray Q i (wpAny P .any all.toArray Q fuel (listed.setIfInBounds i true)) a w:=by
   intro fuel ih listed a w c m frc hp frm B cU my pE lS hf hm lT iy hle aR fQ i hi
   obtain ⟨mU,o,ho,uV⟩:=mem_ready.1 hi
   rw[adv] at ho
   have hil:i < all.length:=(acj.1 ho).1
   have FK:¬q24z listed i:=by
     unfold q24z
     have:i < listed.size:=by omega
     simp only[acu,acP this,acX] at mU ⊢
     simp[mU]
   have hd:ds[i]? =some ds[i]:=aci (by omega)
   generalize ds[i]'(by omega)=d at hd
   have yd:∀p,(dY [] all)[i]? =some p→∀k,p.testBit k=true→q24z listed k:=mw pE i o ho (fun e he hb=> uV e he hb)
   have wS:∀k q,(dY [] all)[k]? =some q→q.testBit i=true→¬q24z listed k:=fun k q hq hb hk=> by
     have gP:k < all.length:=by
       have:=(acj.1 hq).1
       rw[fW] at this;simpa using this
     have KF:all[k]? =some all[k]:=aci gP
     exact FK (mw pE k _ KF (fun e he hb=> pE k _ KF hk e he hb) q hq i hb)
   have nR:∀t∈d.g.reads,frc[t]? =(frs i)[t]? :=fun t ht=> by
     refine lS.same (tr.cur hu i (by omega)) t fun k e he het=> ?_
     by_cases hki:k=i
     ·subst hki
      exact ⟨fun h=> absurd h FK,fun h=> absurd h (Nat.lt_irrefl _)⟩
     ·obtain ⟨p,q,h1,h2,h3⟩:=qx iM hd he (fun h=> hki h.symm) het ht
      split at h3
      ·rename_i bR
       exact ⟨fun _=> bR,fun _=> yd p h1 k h3⟩
      ·rename_i bR
       exact ⟨fun h=> absurd h (wS k q h2 h3),fun h=> absurd h bR⟩
   have KM:∀t∈d.g.reads,frm[t]? =(frs i)[t]? :=fun t ht=> by
     rw[←nR t ht]
     refine hf.same t fun p hp hpt ai=> ?_
     subst hpt
     have fE:i <(dY [] all).length:=by rw[fW];simpa using hil
     exact ai.2 (yd _ (aci fE) p.j ((gR p hp).look i d.g _ (by rw[acv,hd];rfl) (aci fE) ht))
   have KG:∃hq m',stepG cf base frm hp d.g=some (vals i,hq)∧hs[m']? =some hq∧(∀(k:Nat) (e:GD),ds[k]? =some e→e.cq=true→(q24z (listed.setIfInBounds i true) k↔ff ds k < m')):=by
     by_cases he:d.cq=true
     ·obtain ⟨hp1,hq,h1,h2,h3⟩:=tr.cq i d hd he
      have hmi:ff ds i=m:=by
        have h4:¬ff ds i < m:=fun h=> FK ((iy i d hd he).2 h)
        rcases adZ m (ff ds i) with h5 | h5
        ·obtain ⟨k,e,h6,h7,h8,h9⟩:=kC ds h5
         obtain ⟨p,h10,h11⟩:=rT iM hd h7 he h8 h6
         have:=(iy k e h7 h8).1 (yd p h10 k h11)
         omega
        ·omega
      rw[hmi,hm] at h1
      cases h1
      refine ⟨hq,m+1,?_,hmi ▸ h2,fun k e vQ AF=> ?_⟩
      ·rw[kD KM];exact h3
      ·rw[dj (by omega),iy k e vQ AF]
       constructor
       ·rintro (h | rfl)
        ·omega
        ·omega
       ·intro h
        rcases adZ (ff ds k) m with h5 | h5
        ·exact Or.inl h5
        ·right
         rcases Nat.lt_trichotomy k i with h6 | h6 | h6
         ·have:=yb vQ AF h6;omega
         ·exact h6
         ·have:=yb hd he h6;omega
     ·have Hv:d.cq=false:=by simpa using he
      have abu:m < ff ds ds.length+1:=by
        have:=(acj.1 hm).1
        rw[tr.len] at this;exact this
      have Ti:d.lo≤m:=by
        rcases adZ m d.lo with h5 | h5
        ·have h6:=gU d (acw hd)
         obtain ⟨k,e,h7,h8,h9,h10⟩:=kC ds (show m < ff ds ds.length by omega)
         obtain ⟨p,q,h11,h12,h13,h14⟩:=ox iM hd h8 Hv h9
         have:=(iy k e h8 h9).1 (yd p h11 k (h13 (by omega)))
         omega
        ·exact h5
      have Tj:m≤d.hi:=by
        rcases adZ d.hi m with h5 | h5
        ·obtain ⟨k,e,h7,h8,h9,h10⟩:=kC ds (show d.hi < ff ds ds.length by omega)
         obtain ⟨p,q,h11,h12,h13,h14⟩:=ox iM hd h8 Hv h9
         exact absurd ((iy k e h8 h9).2 (by omega)) (wS k q h12 (h14 (by omega)))
        ·exact h5
      refine ⟨hp,m,?_,hm,fun k e vQ AF=> ?_⟩
      ·rw[kD KM];exact Cc i d hd Hv m hp Ti Tj hm
      ·rw[dj (by omega),iy k e vQ AF]
       constructor
       ·rintro (h | rfl)
        ·exact h
        ·rw[hd] at vQ;cases vQ;rw[Hv] at AF;cases AF
       ·exact Or.inl
   obtain ⟨hq,m',h1,h2,h3⟩:=KG
   have Tu:(listed.setIfInBounds i true).toList.count true+fuel=all.length:=by
     have dL:listed.toList[i]? =some false:=by
       have:i < listed.size:=by omega
       rw[ad2,acP this]
       simp only[q24z,acu,acP this,acX,aev] at FK
       rw[FK]
     have bR:i < listed.toList.length:=(acj.1 dL).1
     have zk:listed.toList[i]=false:=by simpa[aci bR] using dL
     rw[adT,List.count_set bR,zk]
     show List.count true listed.toList - 0+1+fuel=all.length
     omega
   have KN:Clo all (q24z (listed.setIfInBounds i true)):=by
     intro j o' kP hj e he hb
     rw[dj (by omega)]
     rcases (dj (by omega) j).1 hj with hj | rfl
     ·exact Or.inl (pE j o' kP hj e he hb)
     ·rw[ho] at kP;cases kP
      exact Or.inl (uV e he hb)
   have hS:∀k,q24z (listed.setIfInBounds i true) k↔q24z listed k∨k=i:=fun k=> dj (by omega) k
   have KO:vk ds mL vals (q24z (listed.setIfInBounds i true)) (ik frc d.g.dst (vals i)):=lS.step hu hd hS
   have vw:∀p∈prs,∃e,ds[p.j]? =some e∧e.g.dst=some p.t:=fun p hp=> by
     obtain ⟨o',_,_,kP,_⟩:=(gR p hp).fill
     have bR:=(acj.1 kP).1
     have he:ds[p.j]? =some ds[p.j]:=aci (by omega)
     obtain ⟨_,_,_,_,_,_,_,_,h⟩:=hpj p hp _ he
     exact ⟨_,he,by rw[h]⟩
   have AA:∀p∈prs,∀q∈prs,p.i≠q.j:=fun p hp q hq e=> by
     obtain ⟨o1,h1,h2,_⟩:=(gR p hp).lay
     obtain ⟨o2,_,_,h3,h4,_⟩:=(gR q hq).fill
     rw[e,h3] at h1;cases h1
     rw[h4] at h2;cases h2
   unfold wpOp
   rw[adv,ho]
   simp only
   rcases Cg hc gR ho hd with ⟨p,oc,rfl⟩ | ⟨p,oc,rfl⟩ | ⟨hno,g,hg,hdg⟩
   ·-- it is laid out
    have hdg:=hpi p oc _ hd
    obtain ⟨o',kP,ai,hgd,hdd⟩:=(gR p oc).lay
    rw[ho] at kP;cases kP
    obtain ⟨z,hz⟩:=(gR p oc).zero
    have Hw:hq=hp:=by
      rw[hdg] at h1
      simp only[Vm.stepG,want,acF,aC,Option.some.injEq,Prod.mk.injEq] at h1
      exact h1.2.symm
    subst Hw
    have hw:Region.wanted o (yielded all.toArray a.tmps)=true:=by simp[Region.wanted,hgd]
    rw[if_pos hw]
    refine Or.inl (KL hL gh ai hdd hz lT fun cs zj KP=> ?_)
    have hzn:=lT.rJ
    have sh:c0.z w.heap.size=none:=by
      cases hz:c0.z w.heap.size with
      | none=> rfl
      | some x=> rw[hle.z _ _ hz] at hzn;cases hzn
    have Tv:=c.lO w.heap.size (zE cs p.T) hzn
    obtain ⟨e,he,KQ⟩:=vw p oc
    have tF:p.t < a.tmps.size:=by
      have h5:=Tt e (acw he) p.t KQ
      have h6:=gu.length hf.rf
      rw[hf.len,lS.len] at h6
      rw[adP] at h6
      rw[h6];exact h5
    have mf:lV (q24z (listed.setIfInBounds p.i true)) p:=⟨(hS _).2 (Or.inr rfl),fun h=> by
      rcases (hS _).1 h with h | h
      ·obtain ⟨_,_,q,_,_,_,_,hq1,hq2⟩:=(gR p oc).fill
       exact wS p.j q hq1 hq2 h
      ·exact AA p oc p oc h.symm⟩
    have hold:∀q∈prs,lV (q24z (listed.setIfInBounds p.i true)) q→q≠p→lV (q24z listed) q:=fun q hq ho cC=> by
      refine ⟨?_,fun h=> ho.2 ((hS _).2 (Or.inl h))⟩
      rcases (hS _).1 ho.1 with h | h
      ·exact h
      ·rcases (gR p oc).one q hq with ⟨_,h',_⟩ | h'
       ·exact absurd h h'
       ·exact absurd h' cC
    refine ih _ _ _ _ m' (ik frc d.g.dst (vals p.i)) hq (frm.set p.t .top) (fun k=> if k=p.i then w.heap.size else B k) (by simpa using cU) Tu KN KO ?_ h2 KP h3 (hle.trans Tv) (aR.trans (St.alloc _ _)) (by rw[kz,fQ])
    rw[hdg]
    refine ⟨by simp[ik,hf.len],fun t hno=> ?_,?_,fun q hq ho=> ?_,fun q hq r hr ho1 ho2 hB=> ?_⟩
    ·have cC:p.t≠t:=fun e=> hno p oc e mf
     rw[acp cC]
     refine hf.same t fun q hq hqt ai=> hno q hq hqt ⟨(hS _).2 (Or.inl ai.1),fun h=> ?_⟩
     rcases (hS _).1 h with h | h
     ·exact ai.2 h
     ·exact AA p oc q hq h.symm
    ·exact RF.put (v:=V.top) (hf.rf.mono Tv) ⟨[.pointer (some ⟨w.heap.size,0,none⟩)],by simp only[RC];exact ⟨_,rfl⟩,rfl⟩ (some p.t)
    ·by_cases Hw:q=p
     ·subst Hw
      simp only[if_true]
      exact ⟨by simp[Act.put,tF],sh,cs,by simp[Ctx.dK],zj⟩
     ·have kP:=hold q hq ho Hw
      obtain ⟨b1,b2,cs',b3,b4⟩:=hf.at_ q hq kP
      have hqi:q.i≠p.i∧q.t≠p.t:=by
        rcases (gR p oc).one q hq with ⟨h1,h2,_⟩ | h
        ·exact ⟨h2,h1⟩
        ·exact absurd h Hw
      rw[if_neg hqi.1]
      refine ⟨by simp only[Act.put];rw[ae4 (adY hqi.2)];exact b1,b2,cs',Tv.z _ _ b3,b4⟩
    ·by_cases Hw:q=p <;> by_cases hrp:r=p
     ·rw[Hw,hrp]
     ·exfalso
      obtain ⟨_,_,cs',b3,_⟩:=hf.at_ r hr (hold r hr ho2 hrp)
      have:r.i≠p.i:=by rcases (gR p oc).one r hr with ⟨_,h2,_⟩ | h;exact h2;exact absurd h hrp
      subst Hw
      simp only[if_true,if_neg this] at hB
      rw[←hB,hzn] at b3;cases b3
     ·exfalso
      obtain ⟨_,_,cs',b3,_⟩:=hf.at_ q hq (hold q hq ho1 Hw)
      have:q.i≠p.i:=by rcases (gR p oc).one q hq with ⟨_,h2,_⟩ | h;exact h2;exact absurd h Hw
      subst hrp
      simp only[if_true,if_neg this] at hB
      rw[hB,hzn] at b3;cases b3
     ·have e1:q.i≠p.i:=by rcases (gR p oc).one q hq with ⟨_,h2,_⟩ | h;exact h2;exact absurd h Hw
      have e2:r.i≠p.i:=by rcases (gR p oc).one r hr with ⟨_,h2,_⟩ | h;exact h2;exact absurd h hrp
      simp only[if_neg e1,if_neg e2] at hB
      exact hf.inj q hq r hr (hold q hq ho1 Hw) (hold r hr ho2 hrp) hB
   ·-- it is filled
    obtain ⟨o',x,X0,kP,ai,hgd,hdd,hx,hdg⟩:=hpj p oc _ hd
    rw[ho] at kP;cases kP
    have PK:lV (q24z listed) p:=⟨by
      obtain ⟨_,_,q,_,_,_,_,hq1,hq2⟩:=(gR p oc).fill
      exact yd q hq1 p.i hq2,FK⟩
    obtain ⟨b1,b2,cs,b3,b4⟩:=hf.at_ p oc PK
    have h1':rM hp (aE P p.T) (X0.ev frm)=some (vals p.j,hq):=by
      rw[hdg] at h1
      simpa only[Vm.stepG,want,acx,acF,aC] using h1
    have hw:Region.wanted o (yielded all.toArray a.tmps)=true:=by simp[Region.wanted,hgd]
    rw[if_pos hw]
    refine Or.inl (FO hL gh ai hdd (gR p oc).tg hx hf.rf lT b1 b3 b4 h1' fun cs' w' hh KP iB ir=> ?_)
    subst hh
    have hnz:∀cs' ty fz,c.z (B p.i)≠some (.cells cs' ty fz):=by rw[b3];intro _ _ _ h;cases h
    have aby:=c.ri (B p.i) (.cells cs' p.T (0,0)) hnz
    have hold:∀q∈prs,lV (q24z (listed.setIfInBounds p.j true)) q→lV (q24z listed) q∧q≠p:=fun q hq ho=> by
      refine ⟨⟨?_,fun h=> ho.2 ((hS _).2 (Or.inl h))⟩,fun e=> ho.2 ((hS _).2 (Or.inr (by rw[e])))⟩
      rcases (hS _).1 ho.1 with h | h
      ·exact h
      ·exact absurd h (AA q hq p oc)
    refine ih _ _ _ _ m' (ik frc d.g.dst (vals p.j)) hq (frm.set p.t (vals p.j)) B (by simpa using cU) Tu KN KO ?_ h2 KP h3 (hle.dK b2 _) (aR.trans ir) fQ
    rw[hdg]
    refine ⟨by simp[ik,hf.len],fun t hno=> ?_,?_,fun q hq ho=> ?_,fun q hq r hr ho1 ho2 hB=> ?_⟩
    ·simp only[ik]
     by_cases e:p.t=t
     ·subst e
      rw[ac7,ac7,hf.len]
      simp only[if_true]
     ·rw[acp e,acp e]
      refine hf.same t fun q hq hqt ai=> hno q hq hqt ⟨(hS _).2 (Or.inl ai.1),fun h=> ?_⟩
      rcases (hS _).1 h with h | h
      ·exact ai.2 h
      ·rcases (gR p oc).one q hq with ⟨_,_,h'⟩ | h'
       ·exact h' h
       ·rw[h'] at hqt;exact e hqt
    ·have:=gu.set iB p.t (gu.fu aby hf.rf)
     rw[lg (l:=a.tmps.toList) (by rw[ad2];exact b1)] at this
     exact this
    ·obtain ⟨kP,cC⟩:=hold q hq ho
     obtain ⟨d1,d2,cs2,d3,d4⟩:=hf.at_ q hq kP
     refine ⟨d1,d2,cs2,?_,d4⟩
     simp only[Ctx.dK]
     rw[if_neg (fun e=> cC (hf.inj q hq p oc kP PK e))];exact d3
    ·exact hf.inj q hq r hr (hold q hq ho1).1 (hold r hr ho2).1 hB
   ·-- any other
    rw[hdg] at h1
    have hdo:d.g.dst=o.dst:=by rw[hdg];exact (lR hg).2.1
    refine FN (Q:=Q) hL gh hg hf.rf lT h1 fun u c' w' hv dv FM ir=> ?_
    have hold:∀q∈prs,(lV (q24z (listed.setIfInBounds i true)) q↔lV (q24z listed) q):=fun q hq=> by
      obtain ⟨n1,n2⟩:=hno q hq
      simp only[lV,hS]
      constructor
      ·rintro ⟨h | h,h'⟩
       ·exact ⟨h,fun x=> h' (Or.inl x)⟩
       ·exact absurd h n1
      ·rintro ⟨h,h'⟩
       refine ⟨Or.inl h,fun x=> ?_⟩
       rcases x with x | x
       ·exact h' x
       ·exact n2 x
    refine ih _ _ w' c' m' (ik frc d.g.dst (vals i)) hq (ik frm d.g.dst (vals i)) B (by simpa using cU) Tu KN KO ?_ h2 dv h3 (hle.trans FM) (aR.trans ir) (by rw[kz,fQ])
    refine ⟨by rw[nQ,nQ,hf.len],fun t abz=> ?_,?_,fun q hq ho=> ?_,fun q hq r hr ho1 ho2 hB=> hf.inj q hq r hr ((hold q hq).1 ho1) ((hold r hr).1 ho2) hB⟩
    ·have DA:=hf.same t fun q hq hqt ai=> abz q hq hqt ((hold q hq).2 ai)
     cases hdd:d.g.dst with
     | none=> exact DA
     | some t'=>
       simp only[ik]
       rw[ac7,ac7,hf.len]
       split
       ·rfl
       ·exact DA
    ·rw[hdo];exact RF.put (hf.rf.mono FM) hv o.dst
    ·obtain ⟨d1,d2,cs2,d3,d4⟩:=hf.at_ q hq ((hold q hq).1 ho)
     refine ⟨?_,d2,cs2,FM.z _ _ d3,d4⟩
     obtain ⟨e,he,KQ⟩:=vw q hq
     cases hdd:o.dst with
     | none=> simpa only[Act.put] using d1
     | some t'=>
       simp only[Act.put]
       rw[ae4 (fun h=> ?_)]
       ·exact d1
       ·exact (hno q hq).2 (hu q.j i e d q.t he hd KQ (by rw[hdo,hdd,h]))
 intro fuel
 induction fuel with
 | zero=>
   intro listed a w c m frc hp frm B cU my pE lS hf hm lT iy hle aR fQ
   have bV:∀j,j < all.length→q24z listed j:=fun j hj=> by
     have h1:listed.toList.count true=listed.toList.length:=by simp at my ⊢;omega
     have h2:=List.count_eq_length.1 h1
     have h3:j < listed.size:=by omega
     have:=h2 listed.toList[j] (ac3 _)
     simp only[q24z,acu,acP h3,acX]
     simpa using this.symm
   refine ⟨?_,fin listed a w c m frc hp frm B bV lS hf hm lT iy hle aR fQ⟩
   apply ae6.2
   intro i hi
   obtain ⟨h1,o,ho,_⟩:=mem_ready.1 hi
   rw[adv] at ho
   have hil:i < all.length:=(acj.1 ho).1
   have:=bV i hil
   have h3:i < listed.size:=by omega
   simp only[q24z,acu,acP h3,acX] at this h1
   rw[this] at h1;cases h1
 | succ fuel ih=>
   intro listed a w c m frc hp frm B cU my pE lS hf hm lT iy hle aR fQ
   refine ⟨fun oA=> ?_,stp fuel ih listed a w c m frc hp frm B cU my pE lS hf hm lT iy hle aR fQ⟩
   have bV:∀j,j < all.length→q24z listed j:=by
     intro j
     induction j using Nat.strongRecOn with
     | _ j ihj=>
       intro hj
       by_cases hn:q24z listed j
       ·exact hn
       ·exfalso
        have ho:all[j]? =some all[j]:=aci hj
        have:j∈Region.ready .any all.toArray listed:=by
          refine mem_ready.2 ⟨?_,all[j],by rw[adv,ho],fun e he hb=> ?_⟩
          ·have h3:j < listed.size:=by omega
           simp only[q24z,acu,acP h3,acX,aev] at hn ⊢
           exact hn
          ·have:=KE j _ ho e he hb
           exact ihj e.on this (by omega)
        rw[oA] at this
        cases this
   exact fin listed a w c m frc hp frm B bV lS hf hm lT iy hle aR fQ
theorem zU {id:Nat} {all:List Oper} {ds:List GD} {prs:List lU} (vx:P.follows .mixedOrders=true) (hc:rV P obj all prs 0 all=some (ds.map (·.g))) (gR:∀p∈prs,ye P obj all (ds.map (·.g)) prs p) (iM:fO all ds=true) {c:Ctx} {h:Hp} {w:World} {fr:Fr} {a:Act}
 (hf:RF (ak P) c fr a) (hs:bp (ak P) c h w) {fr':Fr} {h':Hp} (hr:bL cf base ds fr h=some (fr',h')) {Q:Exit→Act→World→Prop} (hE:Ends P c w a fr' h' (Q .normal)):
 (Code.region id all.toArray true).wp P Q a w:=by
 have Tt:=KA cf base hr
 obtain ⟨vals,frs,hps,tr,hq⟩:=DK cf base hr
 refine wp_region_any vx ?_
 have Dn:∀k,¬q24z (Array.replicate all.length false) k:=fun k hk=> by
   simp only[q24z,acu,ac5] at hk
   split at hk <;> simp at hk
 refine Ch hL gh hc gR iM tr hq Tt (c0:=c) (a0:=a) (w0:=w) hE _ _ a _ c 0 fr h fr (fun _=> 0) (by simp) ?_ ?_ ?_ ?_ tr.zR hs.drew ?_ (Ctx.le_refl c) (St.drew w) rfl
 ·simp[ae9]
 ·intro j o ho hj
  simp only[q24z,acu,ac5] at hj
  split at hj <;> simp at hj
 ·refine vk.start ds fr vals fun k hk=> ?_
  simp only[q24z,acu,ac5] at hk
  split at hk <;> simp at hk
 ·refine ⟨rfl,fun t _=> rfl,hf,fun p hp ho=> ?_,fun p hp q hq ho=> ?_⟩<;>
  ·have hk:=ho.1
   simp only[q24z,acu,ac5] at hk
   split at hk <;> simp at hk
 ·intro k d hd he
  constructor
  ·intro hk
   simp only[q24z,acu,ac5] at hk
   split at hk <;> simp at hk
  ·intro hk;omega
end
end Go.Vm
namespace Go.Vm
variable {P : Program} {obj : Nat → Bool}
def wU (c:Nat):List GD→Bool
 | []=> true
 | d::ds=>(d.cq || d.g.op.indep || (d.lo==c && d.hi==c))&& wU (if d.cq then c+1 else c) ds
theorem zV :∀ {ds:List GD} {c:Nat},wU c ds=true→∀(j:Nat) (d:GD),ds[j]? =some d→d.cq=true∨d.g.op.indep=true∨(d.lo=c+ff ds j∧d.hi=c+ff ds j)
 | [],c,h,j,d,hd=> by simp at hd
 | d'::ds,c,h,0,d,hd=> by
   simp only[acM,Option.some.injEq] at hd
   subst hd
   simp only[wU,acn,adg,beq_iff_eq] at h
   rw[jV]
   rcases h.1 with (h1 | h1) | h1
   ·exact Or.inl h1
   ·exact Or.inr (Or.inl h1)
   ·exact Or.inr (Or.inr (by omega))
 | d'::ds,c,h,j+1,d,hd=> by
   simp only[wU,acn] at h
   rcases zV h.2 j d (by simpa using hd) with h1 | h1 | h1
   ·exact Or.inl h1
   ·exact Or.inr (Or.inl h1)
   ·refine Or.inr (Or.inr ?_)
    rw[eQ]
    split at h1
    ·rename_i he;simp[he];omega
    ·rename_i he;simp[he];omega
section
variable (cf : Nat → List V → Hp → Option (V × Hp)) (base : Nat)
theorem Ny :∀(ds:List GD) (fr:Fr) (h:Hp) (fr':Fr) (h':Hp),lf cf base (ds.map (·.g)) fr h=some (fr',h')→
 ∃vals frs hs,Tr cf base ds fr h fr' h' vals frs hs∧∀(j:Nat) (d:GD),ds[j]? =some d→d.cq=false→∃hp,hs[ff ds j]? =some hp∧stepG cf base (frs j) hp d.g=some (vals j,hp):=by
 intro ds
 induction ds with
 | nil=>
   intro fr h fr' h' hr
   simp only[acF,lf,Option.some.injEq,Prod.mk.injEq] at hr
   obtain ⟨rfl,rfl⟩:=hr
   exact ⟨fun _=> .top,fun _=> fr,[h],⟨rfl,rfl,fun j d hd=> by simp at hd,by simp[ff],rfl,by simp[ff],fun j d hd=> by simp at hd⟩,fun j d hd=> by simp at hd⟩
 | cons d ds ih=>
   intro fr h fr' h' hr
   simp only[acx,lf] at hr
   split at hr
   case h_2=> cases hr
   rename_i v h1 aR
   obtain ⟨vals,frs,hs,t,hq⟩:=ih _ _ _ _ hr
   have hn:d.cq=false→h1=h:=fun he=> rU he aR
   refine ⟨(fun j=> match j with | 0=> v | j+1=> vals j),(fun j=> match j with | 0=> fr | j+1=> frs j),(if d.cq then h::hs else hs),⟨rfl,t.lst,?_,?_,?_,?_,?_⟩,?_⟩
   ·intro j d' hd
    cases j with
    | zero=>
      simp only[acM,Option.some.injEq] at hd
      subst hd
      exact t.fst
    | succ j=> exact t.next j d' (by simpa using hd)
   ·rw[acR,eQ]
    have:=t.len
    split <;> simp <;> omega
   ·split
    ·rfl
    ·rename_i hc
     rw[t.zR,hn (by simpa using hc)]
   ·rw[acR,eQ]
    split
    ·rw[aen];simpa using t.FL
    ·simpa using t.FL
   ·intro j d' hd np
    cases j with
    | zero=>
      simp only[acM,Option.some.injEq] at hd
      subst hd
      refine ⟨h,h1,?_,?_,aR⟩
      ·simp[jV,np]
      ·simp only[jV,np,if_true]
       simpa using t.zR
    | succ j=>
      obtain ⟨hp,hq',a1,a2,a3⟩:=t.cq j d' (by simpa using hd) np
      refine ⟨hp,hq',?_,?_,a3⟩
      ·rw[eQ];split
       ·rw[aen];simpa using a1
       ·simpa using a1
      ·rw[eQ];split
       ·rw[aen 1];simpa using a2
       ·simpa using a2
   ·intro j d' hd np
    cases j with
    | zero=>
      simp only[acM,Option.some.injEq] at hd
      subst hd
      have:=hn np
      subst this
      exact ⟨h1,by simp[jV,np,t.zR],aR⟩
    | succ j=>
      obtain ⟨hp,a1,a2⟩:=hq j d' (by simpa using hd) np
      refine ⟨hp,?_,a2⟩
      rw[eQ];split
      ·rw[aen];simpa using a1
      ·simpa using a1
end
section
variable (hL : (ak P).OK) {cf : Nat → List V → Hp → Option (V × Hp)} {base : Nat} (gh : cJ P (ak P) cf)
include hL gh
theorem Ci {id:Nat} {all:List Oper} {ds:List GD} (vx:P.follows .mixedOrders=true) (hc:sn P obj all all=some (ds.map (·.g))) (iM:fO all ds=true) (KS:wU 0 ds=true) {c:Ctx} {h:Hp} {w:World} {fr:Fr} {a:Act}
 (hf:RF (ak P) c fr a) (hs:bp (ak P) c h w) {fr':Fr} {h':Hp} (hr:lf cf base (ds.map (·.g)) fr h=some (fr',h')) {Q:Exit→Act→World→Prop} (hE:Ends P c w a fr' h' (Q .normal)):
 (Code.region id all.toArray true).wp P Q a w:=by
 obtain ⟨vals,frs,hps,tr,hq⟩:=Ny cf base _ _ _ _ _ hr
 refine wp_region_any vx ?_
 refine wR hL gh hc iM tr (fun j d hd he m hp gU hhi hm=> ?_) (c0:=c) (a0:=a) (w0:=w) hE _ _ a _ c 0 fr h (by simp) ?_ ?_ ?_ hf tr.zR hs.drew ?_ (Ctx.le_refl c) (St.drew w) rfl
 ·obtain ⟨oc,h1,h2⟩:=hq j d hd he
  rcases zV KS j d hd with h3 | h3 | ⟨h3,h4⟩
  ·rw[he] at h3;cases h3
  ·exact zS h3 h2 hp
  ·have:m=ff ds j:=by omega
   subst this
   rw[h1] at hm;cases hm
   exact h2
 ·simp[ae9]
 ·intro j o ho hj
  simp only[q24z,acu,ac5] at hj
  split at hj <;> simp at hj
 ·refine vk.start ds fr vals fun k hk=> ?_
  simp only[q24z,acu,ac5] at hk
  split at hk <;> simp at hk
 ·intro k d hd he
  constructor
  ·intro hk
   simp only[q24z,acu,ac5] at hk
   split at hk <;> simp at hk
  ·intro hk;omega
end
def DQ (rs:List Row) (total:Nat) (r:Row):Nat×Nat:=
 rs.foldl (fun b k=> if k.d.cq then (if r.p.testBit k.k then (max b.1 (k.c+1),b.2) else if k.p.testBit r.k then (b.1,min b.2 k.c) else b) else b) (0,total)
def kW (os:List Oper) (gs:List G):List GD:=
 let rs:=mO 0 0 (gs.map fun g=>⟨g,0,0⟩) (dY [] os)
 let total:=(rs.filter (·.d.cq)).length
 rs.map fun r=> let b:=DQ rs total r;⟨r.d.g,b.1,b.2⟩
def Nz (obj:Nat→Bool) (all:List Oper):List lU:=
 (List.range all.length).filterMap fun i=> match all[i]? with
   | some o=> match o.op,o.dst,o.guard with
     | .alloc T,some t,none=> if obj (3000000+T) then none else
       match (List.range all.length).filter (fun j=> match all[j]? with
           | some o'=>(match o'.op with | .store T' (.tmp t') _=> T'==T && t'==t && o'.guard.isNone && o'.dst.isNone | _=> false)
           | none=> false) with
       | [j]=> some ⟨i,j,t,T⟩
       | _=> none
     | _,_,_=> none
   | none=> none
def DS (P:Program) (obj:Nat→Bool) (all:List Oper) (prs:List lU):Option C:=
 match rV P obj all prs 0 all with
 | some gs=> if P.follows .mixedOrders=true∧fO all (kW all gs)=true∧(kW all gs).length=gs.length∧(prs.all (KJ P obj all gs prs))=true then some (.bL (kW all gs)) else none
 | none=> none
def PL (P:Program) (obj:Nat→Bool) (all:List Oper):Option C:=
 match DS P obj all [] with
 | some c=> some c
 | none=> DS P obj all (Nz obj all)
def gW (P:Program) (obj:Nat→Bool):Code→Option C
 | .skip=> some .skip
 | .region _ ops draw=> match sn P obj ops.toList ops.toList with
   | some gs=>
     if draw then
      (if P.follows .mixedOrders=true∧fO ops.toList (kW ops.toList gs)=true∧(kW ops.toList gs).length=gs.length then
        (if wU 0 (kW ops.toList gs)=true then some (.af gs) else some (.bL (kW ops.toList gs)))
      else PL P obj ops.toList)
     else some (.af gs)
   | none=> none
 | .seq a b=> match gW P obj a,gW P obj b with | some a,some b=> some (.seq a b) | _,_=> none
 | .cond c a b=> match eP P 0 c,gW P obj a,gW P obj b with | some c,some a,some b=> some (.cond c a b) | _,_,_=> none
 | .block id a=>(gW P obj a).map (.block id)
 | .loop a=>(gW P obj a).map .loop
 | .exit id=> some (.exit id)
 | .ret=> some .ret
 | _=> none
theorem DT :∀(gs:List G) (ps:List Nat) (k c:Nat) (f:Row→Nat×Nat),(mO k c (gs.map fun g=>⟨g,0,0⟩) ps).length=gs.length→
 (((mO k c (gs.map fun g=>⟨g,0,0⟩) ps).map fun r=>(⟨r.d.g,(f r).1,(f r).2⟩:GD)).map (·.g))=gs
 | [],ps,k,c,f,_=> by simp[mO]
 | g::gs,[],k,c,f,h=> by simp[mO] at h
 | g::gs,p::ps,k,c,f,h=> by
   simp only[acx,mO,acR,Nat.add_right_cancel_iff] at h
   simp only[acx,mO]
   rw[DT gs ps _ _ f h]
theorem zW {os:List Oper} {gs:List G} (h:(kW os gs).length=gs.length):(kW os gs).map (·.g)=gs:=by
 unfold kW at h ⊢
 simp only[acy] at h
 exact DT gs _ 0 0 (fun r=> DQ _ _ r) h
def rq :Ex→Exit
 | .normal=> .normal
 | .exit id=> .exit id
 | .ret=> .ret
section
variable (hL : (ak P).OK) {cf : Nat → List V → Hp → Option (V × Hp)} {base : Nat} (gh : cJ P (ak P) cf)
include hL gh
def Leaves (P:Program) (c:Ctx) (w:World) (a:Act) (e:Ex) (fr':Fr) (h':Hp) (Q:Exit→Act→World→Prop):Prop:=Ends P c w a fr' h' (Q (rq e))
theorem o8 :∀ {code:Code} {k:C},gW P obj code=some k→∀ {c:Ctx} {h:Hp} {w:World} {fr:Fr} {a:Act},RF (ak P) c fr a→bp (ak P) c h w→
 ∀ {e:Ex} {fr':Fr} {h':Hp},exec cf base k fr h=some (e,fr',h')→∀ {Q:Exit→Act→World→Prop},Leaves P c w a e fr' h' Q→code.wp P Q a w:=by
 intro code
 induction code with
 | skip=>
   intro k hk c h w fr a hf hs e fr' h' hx Q hE
   simp only[gW,Option.some.injEq] at hk
   subst hk
   simp only[exec,Option.some.injEq,Prod.mk.injEq] at hx
   obtain ⟨rfl,rfl,rfl⟩:=hx
   exact wp_skip (hE a c w hf hs (Ctx.le_refl c) (St.refl w) rfl)
 | region id ops draw=>
   intro k hk c h w fr a hf hs e fr' h' hx Q hE
   simp only[gW] at hk
   split at hk
   case h_2=> cases hk
   rename_i gs je
   have NA:ops=ops.toList.toArray:=by simp
   split at hk
   ·rename_i hd
    subst hd
    split at hk
    case isFalse=>
      have mD:∃prs,DS P obj ops.toList prs=some k:=by
        unfold PL at hk
        split at hk
        ·rename_i h1;exact ⟨_,h1.trans hk⟩
        ·exact ⟨_,hk⟩
      clear hk
      obtain ⟨prs,hk⟩:=mD
      unfold DS at hk
      split at hk
      case h_2=> cases hk
      rename_i gs2 Bz
      split at hk
      case isFalse=> cases hk
      rename_i aZ
      obtain ⟨vx,iM,hlen,Tw⟩:=aZ
      have hg:=zW hlen
      simp only[Option.some.injEq] at hk
      subst hk
      simp only[exec] at hx
      obtain ⟨r,hr,he⟩:=ach.1 hx
      simp only[Prod.mk.injEq] at he
      obtain ⟨rfl,rfl,rfl⟩:=he
      rw[NA]
      exact zU hL gh vx (by rw[hg];exact Bz) (fun p hp=> by rw[hg];exact KK (acJ.1 Tw p hp)) iM hf hs hr hE
    rename_i aZ
    obtain ⟨vx,iM,hlen⟩:=aZ
    have hg:=zW hlen
    split at hk
    ·rename_i KS
     simp only[Option.some.injEq] at hk
     subst hk
     simp only[exec] at hx
     obtain ⟨r,hr,he⟩:=ach.1 hx
     simp only[Prod.mk.injEq] at he
     obtain ⟨rfl,rfl,rfl⟩:=he
     rw[NA]
     exact Ci hL gh vx (by rw[hg];exact je) iM KS hf hs (by rw[hg];exact hr) hE
    ·simp only[Option.some.injEq] at hk
     subst hk
     simp only[exec] at hx
     obtain ⟨r,hr,he⟩:=ach.1 hx
     simp only[Prod.mk.injEq] at he
     obtain ⟨rfl,rfl,rfl⟩:=he
     rw[NA]
     exact Cd hL gh vx (by rw[hg];exact je) iM hf hs hr hE
   ·rename_i hd
    have:draw=false:=by simpa using hd
    subst this
    simp only[Option.some.injEq] at hk
    subst hk
    simp only[exec] at hx
    obtain ⟨r,hr,he⟩:=ach.1 hx
    simp only[Prod.mk.injEq] at he
    obtain ⟨rfl,rfl,rfl⟩:=he
    rw[NA]
    exact ya hL gh je hf hs hr hE
 | seq x y ihx ihy=>
   intro k hk c h w fr a hf hs e fr' h' hx Q hE
   simp only[gW] at hk
   split at hk
   case h_2=> cases hk
   rename_i kx ky hkx Az
   simp only[Option.some.injEq] at hk
   subst hk
   simp only[exec] at hx
   apply wp_seq
   split at hx
   ·rename_i fr1 h1 yI
    refine ihx hkx hf hs yI ?_
    intro a1 c1 w1 hf1 vR hle aR fQ
    refine ihy Az hf1 vR hx ?_
    intro a2 c2 w2 hf2 Ek abA tj ZH
    exact hE a2 c2 w2 hf2 Ek (hle.trans abA) (aR.trans tj) (ZH.trans fQ)
   ·rename_i cC
    refine ihx hkx hf hs hx ?_
    intro a1 c1 w1 hf1 vR hle aR fQ
    have:=hE a1 c1 w1 hf1 vR hle aR fQ
    cases e with
    | normal=> exact absurd hx (cC fr' h')
    | exit id=> exact this
    | ret=> exact this
 | cond x p q ihp ihq=>
   intro k hk c h w fr a hf hs e fr' h' hx Q hE
   simp only[gW] at hk
   split at hk
   case h_2=> cases hk
   rename_i kx kp kq hkx hkp hkq
   simp only[Option.some.injEq] at hk
   subst hk
   have hv:=q23z hf hkx
   simp only[exec] at hx
   split at hx
   ·rename_i he
    rw[he] at hv
    exact wp_cond_true (bF.1 hv).1 (ihp hkp hf hs hx hE)
   ·rename_i he
    rw[he] at hv
    exact wp_cond_false (bF.1 hv).1 (ihq hkq hf hs hx hE)
   ·cases hx
 | block id x ihx=>
   intro k hk c h w fr a hf hs e fr' h' hx Q hE
   simp only[gW] at hk
   obtain ⟨kx,hkx,rfl⟩:=ach.1 hk
   simp only[exec] at hx
   apply wp_block
   split at hx
   ·rename_i id' fr1 h1 yI
    refine ihx hkx hf hs yI ?_
    intro a1 c1 w1 hf1 vR hle aR fQ
    simp only[rq,Exit.inBlock]
    split at hx
    ·rename_i hid
     simp only[Option.some.injEq,Prod.mk.injEq] at hx
     obtain ⟨rfl,rfl,rfl⟩:=hx
     rw[if_pos hid]
     exact hE a1 c1 w1 hf1 vR hle aR fQ
    ·rename_i hid
     simp only[Option.some.injEq,Prod.mk.injEq] at hx
     obtain ⟨rfl,rfl,rfl⟩:=hx
     rw[if_neg hid]
     exact hE a1 c1 w1 hf1 vR hle aR fQ
   ·rename_i cC
    refine ihx hkx hf hs hx ?_
    intro a1 c1 w1 hf1 vR hle aR fQ
    have:=hE a1 c1 w1 hf1 vR hle aR fQ
    cases e with
    | normal=> exact this
    | exit id'=> exact absurd hx (cC id' fr' h')
    | ret=> exact this
 | loop x ihx=>
   intro k hk c0 h w0 fr a0 hf hs e fr' h' hx Q hE
   simp only[gW] at hk
   obtain ⟨kx,hkx,rfl⟩:=ach.1 hk
   simp only[exec] at hx
   intro b kk cs
   have key:∀(n:Nat) (fr:Fr) (h:Hp) (a:Act) (w:World) (c:Ctx),RF (ak P) c fr a→bp (ak P) c h w→c0.le c→St w0 w→a.defers=a0.defers→iter (exec cf base kx) n fr h=some (e,fr',h')→
    ∃e a' w',Q e a' w'∧Arrives P (lone (b.at a (.code x:: .inLoop x::kk)) cs w) b kk cs e a' w':=by
     intro n
     induction n with
     | zero=> intro fr h a w c hf hs _ _ _ hi;simp[iter] at hi
     | succ n ih=>
       intro fr h a w c hf hs hle aR fQ hi
       simp only[iter] at hi
       split at hi
       ·rename_i fr1 h1 yI
        obtain ⟨e1,a1,w1,hq,mS⟩:=ihx hkx hf hs yI (Q:=fun e a' w'=> e= .normal∧∃c',RF (ak P) c' fr1 a'∧bp (ak P) c' h1 w'∧c.le c'∧St w w'∧a'.defers=a.defers) (fun a1 c1 w1 p1 p2 p3 p4 p5=>⟨rfl,c1,p1,p2,p3,p4,p5⟩) b (.inLoop x::kk) cs
        obtain ⟨rfl,c1,p1,p2,p3,p4,p5⟩:=hq
        obtain ⟨e2,a2,w2,hq2,ZI⟩:=ih fr1 h1 a1 w1 c1 p1 p2 (hle.trans p3) (aR.trans p4) (p5.trans fQ) hi
        exact ⟨e2,a2,w2,hq2,.of_steps (Steps.trans mS (.one step_inLoop)) ZI⟩
       ·rename_i cC
        obtain ⟨e1,a1,w1,hq,mS⟩:=ihx hkx hf hs hi (Q:=fun e' a' w'=> e'=rq e∧Q (rq e) a' w') (fun a1 c1 w1 p1 p2 p3 p4 p5=>⟨rfl,hE a1 c1 w1 p1 p2 (hle.trans p3) (aR.trans p4) (p5.trans fQ)⟩) b (.inLoop x::kk) cs
        obtain ⟨rfl,hq⟩:=hq
        cases e with
        | normal=> exact absurd hi (cC fr' h')
        | exit id=> exact ⟨_,a1,w1,hq,.pass (x:= .inLoop x) rfl (fun _ _=> .inl (by simp[rq])) mS⟩
        | ret=> exact ⟨_,a1,w1,hq,.pass (x:= .inLoop x) rfl (fun _ _=> .inl (by simp[rq])) mS⟩
   obtain ⟨n,hn⟩:=il.1 hx
   obtain ⟨e1,a1,w1,hq,mS⟩:=key n fr h a0 w0 c0 hf hs (Ctx.le_refl c0) (St.refl w0) rfl hn
   exact ⟨e1,a1,w1,hq,.of_steps (.one step_loop) mS⟩
 | exit id=>
   intro k hk c h w fr a hf hs e fr' h' hx Q hE
   simp only[gW,Option.some.injEq] at hk
   subst hk
   simp only[exec,Option.some.injEq,Prod.mk.injEq] at hx
   obtain ⟨rfl,rfl,rfl⟩:=hx
   exact wp_exit (hE a c w hf hs (Ctx.le_refl c) (St.refl w) rfl)
 | ret=>
   intro k hk c h w fr a hf hs e fr' h' hx Q hE
   simp only[gW,Option.some.injEq] at hk
   subst hk
   simp only[exec,Option.some.injEq,Prod.mk.injEq] at hx
   obtain ⟨rfl,rfl,rfl⟩:=hx
   exact wp_ret (hE a c w hf hs (Ctx.le_refl c) (St.refl w) rfl)
 | _=> intro k hk;simp[gW] at hk
end
end Go.Vm
namespace Go.Vm
def bc.low (b:Nat):bc→Bool
 | .cells _ es=> V.low.all b es
 | .lit _ es=> V.low.all b es
 | .map es _=> es.all fun e=> e.1.low b && e.2.1.low b
 | _=> true
def DU (b:Nat) (h:Hp):Prop:=∀id,id < b→∀k,h[id]? =some k→k.low b=true
theorem eY {b:Nat}:∀ {es:List V},V.low.all b es=true↔∀e∈es,e.low b=true
 | []=> by simp[V.low.all]
 | e::es=> by simp only[V.low.all,acn,eY,List.forall_mem_cons]
theorem pF (b:Nat):∀v:V,v.ground=true→v.low b=true:=by
 intro v
 induction v using V.rec (motive_2:=fun vs=> V.ground.all vs=true→V.low.all b vs=true) with
 | s x=> intro _;rfl
 | ptr=> intro h;cases h
 | ref=> intro h;cases h
 | al full g es ih=> intro h;exact ih h
 | eb v ih=> intro h;exact ih h
 | st t fs ih=> intro h;exact ih h
 | arr t es ih=> intro h;exact ih h
 | bP vs ih=> intro h;exact ih h
 | iface t v ih=> intro h;exact ih h
 | fn f cap ih=> intro h;exact ih h
 | mp=> intro h;cases h
 | top=> intro h;cases h
 | nil=> rename_i h;rfl
 | cons v vs h1 h2=>
   rename_i h
   simp only[V.ground.all,acn] at h
   simp only[V.low.all,acn]
   exact ⟨h1 h.1,h2 h.2⟩
theorem DU.append {b:Nat} {h:Hp} (hl:DU b h) (hb:b≤h.length) (k:bc):DU b (h++[k]):=fun id hid x hx=> by
 rw[ac0 (by omega)] at hx
 exact hl id hid x hx
theorem DU.set {b:Nat} {h:Hp} (hl:DU b h) (id:Nat) {k:bc} (hk:id < b→k.low b=true):DU b (h.set id k):=fun i hi x hx=> by
 by_cases hii:id=i
 ·subst hii
  have bR:id < h.length:=by
    have:=(acj.1 hx).1
    simpa using this
  rw[adU bR] at hx
  cases hx
  exact hk hi
 ·rw[acp hii] at hx
  exact hl i hi x hx
theorem DU.row {b:Nat} {h:Hp} (hl:DU b h) {id aB:Nat} {g:Option Nat} {es:List V} (hr:rowOf h id aB=some (g,es)) (hid:id < b):∀e∈es,e.low b=true:=
 eY.1 (hl id hid _ (q16z hr).1)
theorem rr {b:Nat} {y:V} (hy:y.low b=true):∀(p:List Nat) (v v':V),putAt y p v=some v'→v.low b=true→v'.low b=true
 | [],v,v',h,_=> by simp only[putAt,Option.some.injEq] at h;subst h;exact hy
 | i::p,v,v',h,hv=> by
   have key:∀(fs:List V) (x x':V),V.low.all b fs=true→fs[i]? =some x→putAt y p x=some x'→V.low.all b (fs.set i x')=true:=fun fs x x' hfs hx hx'=> by
     rw[eY] at hfs ⊢
     intro e he
     rcases adj he with he | rfl
     ·exact hfs e he
     ·exact rr hy p x e hx' (hfs x (acw hx))
   cases v with
   | st t fs=>
     simp only[putAt] at h
     split at h
     ·rename_i x hx
      obtain ⟨x',hx',rfl⟩:=ach.1 h
      exact key fs x x' hv hx hx'
     ·cases h
   | arr t fs=>
     simp only[putAt] at h
     split at h
     ·rename_i x hx
      obtain ⟨x',hx',rfl⟩:=ach.1 h
      exact key fs x x' hv hx hx'
     ·cases h
   | _=> simp[putAt] at h
def Kp (base:Nat) (h h':Hp):Prop:=∀b,b≤base→b≤h.length→DU b h→DU b h'∧h.length≤h'.length
theorem Kp.refl (base:Nat) (h:Hp):Kp base h h:=fun b _ _ hl=>⟨hl,acm _⟩
theorem Kp.trans {base:Nat} {h h1 h2:Hp} (a:Kp base h h1) (k:Kp base h1 h2):Kp base h h2:=fun b hb sI hl=>
 let ⟨x,y⟩:=a b hb sI hl
 let ⟨x',y'⟩:=k b hb (acN sI y) x
 ⟨x',acN y y'⟩
theorem Kp.append (base:Nat) (h:Hp) (k:bc):Kp base h (h++[k]):=fun b _ sI hl=>⟨hl.append sI k,by simp⟩
theorem Kp.set {base:Nat} {h:Hp} {id:Nat} {k:bc} (hk:∀b,b≤base→DU b h→id < b→k.low b=true):Kp base h (h.set id k):=fun b hb _ hl=>⟨hl.set id (hk b hb hl),by simp⟩
theorem pG {base id:Nat} {v:V} (h:bQ base id v=true) {b:Nat} (hb:b≤base) (hid:id < b):v.low b=true:=by
 simp only[bQ,adg,decide_eq_true_eq] at h
 rcases h with h | h
 ·omega
 ·exact pF b v h
theorem sW {b cl:Nat} {es:List (V×V×Nat)}:(bc.map es cl).low b=true↔∀e∈es,e.1.low b=true∧e.2.1.low b=true:=by simp[bc.low,acJ]
theorem wV {kc:Option (Nat×IntKind)} {x:V}:∀ {es:List (V×V×Nat)} {n i:Nat} {p:V×Nat},iR kc x es n=some (some (i,p))→n≤i∧∃e,es[i - n]? =some e∧e.2=p∧nE kc x e.1=some true
 | [],n,i,p,h=> by simp[iR] at h
 | e::es,n,i,p,h=> by
   simp only[iR] at h
   split at h
   ·rename_i hk
    simp only[Option.some.injEq,Prod.mk.injEq] at h
    obtain ⟨rfl,rfl⟩:=h
    exact ⟨acm _,e,by simp,rfl,hk⟩
   ·obtain ⟨h1,e',h2,h3⟩:=wV h
    refine ⟨by omega,e',?_,h3⟩
    have:i - n=(i - (n+1))+1:=by omega
    rw[this];exact h2
   ·cases h
theorem Cj {kc:Option (Nat×IntKind)} {x:V} {es:List (V×V×Nat)} {r:Option (Nat×V×Nat)} (h:qm kc x es=some r):nE kc x x=some true∧iR kc x es 0=some r:=by
 unfold qm at h
 split at h
 ·rename_i hc;exact ⟨hc,h⟩
 ·cases h
theorem uW {base:Nat} {h:Hp} {id cl cl':Nat} {es es':List (V×V×Nat)} (hg:h[id]? =some (.map es cl))
 (hm:∀e∈es',(e.1.ground=true∨∃e0∈es,e.1=e0.1)∧(bQ base id e.2.1=true∨∃e0∈es,e.2.1=e0.2.1)):Kp base h (h.set id (.map es' cl')):=by
 refine Kp.set fun b hb hl hid=> sW.2 fun e he=> ?_
 have cY:=sW.1 (hl id hid _ hg)
 obtain ⟨h1,h2⟩:=hm e he
 refine ⟨?_,?_⟩
 ·rcases h1 with h1 | ⟨e0,h0,h1⟩
  ·exact pF b _ h1
  ·rw[h1];exact (cY e0 h0).1
 ·rcases h2 with h2 | ⟨e0,h0,h2⟩
  ·exact pG h2 hb hid
  ·rw[h2];exact (cY e0 h0).2
theorem Tx {base:Nat} {h h':Hp} {kc:Option (Nat×IntKind)} {g:Option Nat} {x k v r:V} (hr:zy base h kc g x k v=some (r,h')):Kp base h h':=by
 unfold zy at hr
 split at hr
 case h_2=> cases hr
 split at hr
 case isFalse=> cases hr
 rename_i hc
 simp only[acn,decide_eq_true_eq] at hc
 split at hr
 case h_2=> cases hr
 rename_i es cl hg
 obtain ⟨q,hq,he⟩:=ach.1 hr
 split at he <;> cases he
 ·refine uW hg fun e he=> ?_
  rcases adj he with he | rfl
  ·exact ⟨.inr ⟨e,he,rfl⟩,.inr ⟨e,he,rfl⟩⟩
  ·exact ⟨.inl hc.1.1.2,.inl hc.1.1.1⟩
 ·refine uW hg fun e he=> ?_
  rcases acG.1 he with he | he
  ·exact ⟨.inr ⟨e,he,rfl⟩,.inr ⟨e,he,rfl⟩⟩
  ·simp only[adE] at he;subst he
   exact ⟨.inl hc.1.1.2,.inl hc.1.1.1⟩
theorem Ty {base:Nat} {h h':Hp} {kc:Option (Nat×IntKind)} {z x k r:V} (hr:zz base h kc z x k=some (r,h')):Kp base h h':=by
 unfold zz at hr
 split at hr
 case h_2=> cases hr
 split at hr
 case isFalse=> cases hr
 rename_i hc
 simp only[acn] at hc
 split at hr
 case h_2=> cases hr
 rename_i es cl hg
 obtain ⟨q,hq,he⟩:=ach.1 hr
 split at he <;> cases he
 ·obtain ⟨_,e0,h1,h2,_⟩:=wV (Cj hq).2
  refine uW hg fun e he=> ?_
  rcases adj he with he | rfl
  ·exact ⟨.inr ⟨e,he,rfl⟩,.inr ⟨e,he,rfl⟩⟩
  ·exact ⟨.inl hc.2,.inr ⟨e0,acw h1,by rw[h2]⟩⟩
 ·refine uW hg fun e he=> ?_
  rcases acG.1 he with he | he
  ·exact ⟨.inr ⟨e,he,rfl⟩,.inr ⟨e,he,rfl⟩⟩
  ·simp only[adE] at he;subst he
   exact ⟨.inl hc.2,.inl hc.1⟩
theorem zX {n:Int} {v:V}:∀ {es es':List (V×V×Nat)},zA n v es=some es'→∀e∈es',e∈es∨((∃e0∈es,e.1=e0.1)∧e.2.1=v)
 | [],es',h=> by simp[zA] at h
 | e::es,es',h=> by
   simp only[zA] at h
   split at h
   ·cases h
    intro x hx
    rcases acQ.1 hx with rfl | hx
    ·exact .inr ⟨⟨e,by simp,rfl⟩,rfl⟩
    ·exact .inl (by simp[hx])
   ·obtain ⟨q,hq,rfl⟩:=ach.1 h
    intro x hx
    rcases acQ.1 hx with rfl | hx
    ·exact .inl (by simp)
    ·rcases zX hq x hx with h1 | ⟨⟨e0,h1,h2⟩,h3⟩
     ·exact .inl (by simp[h1])
     ·exact .inr ⟨⟨e0,by simp[h1],h2⟩,h3⟩
theorem Tz {base:Nat} {h h':Hp} {g:Option Nat} {x k v r:V} (hr:zB base h g x k v=some (r,h')):Kp base h h':=by
 unfold zB at hr
 split at hr
 case h_2=> cases hr
 split at hr
 case isFalse=> cases hr
 rename_i hc
 simp only[acn,decide_eq_true_eq] at hc
 split at hr
 case h_2=> cases hr
 rename_i es cl hg
 obtain ⟨q,hq,he⟩:=ach.1 hr
 cases he
 refine uW hg fun e he=> ?_
 rcases zX hq e he with h1 | ⟨⟨e0,h1,h2⟩,h3⟩
 ·exact ⟨.inr ⟨e,h1,rfl⟩,.inr ⟨e,h1,rfl⟩⟩
 ·exact ⟨.inr ⟨e0,h1,h2⟩,.inl (by rw[h3];exact hc.1.1)⟩
theorem TA {base:Nat} {h h':Hp} {g:Option Nat} {x y v:V} (hr:zr base h g x y=some (v,h')):Kp base h h':=by
 unfold zr at hr
 split at hr
 case h_2=> cases hr
 rename_i id path aB
 split at hr
 case h_2=> cases hr
 split at hr
 case isFalse=> cases hr
 rename_i aZ
 obtain ⟨h1,aR,he⟩:=ach.1 hr
 simp only[Prod.mk.injEq] at he
 obtain ⟨rfl,rfl⟩:=he
 unfold store at aR
 split at aR
 case h_2=> cases aR
 rename_i g' es i p cE oU
 split at aR
 case h_2=> cases aR
 rename_i w hw
 obtain ⟨w',mI,rfl⟩:=ach.1 aR
 refine Kp.set fun b hb hl hid=> ?_
 have cY:=hl.row cE hid
 simp only[bc.low]
 rw[eY]
 intro e he
 rcases adj he with he | rfl
 ·exact cY e he
 ·exact rr (pG aZ.2.2.2 hb hid) p w e mI (cY w (acw hw))
theorem KT {base:Nat} {h h':Hp} {g:Option Nat} {x v:V} (hr:uq h g x=some (v,h')):Kp base h h':=by
 unfold uq at hr
 split at hr
 ·cases hr;exact Kp.append base h _
 ·cases hr
theorem TB {base:Nat} {h h':Hp} {g:Option Nat} {z:List V} {p:List Nat} {xs:List V} {v:V} (hr:oT h g z p xs=some (v,h')):Kp base h h':=by
 unfold oT at hr
 split at hr
 ·split at hr
  ·split at hr <;> cases hr
   ·exact Kp.refl base h
   ·exact Kp.append base h _
  ·cases hr
 ·cases hr
theorem TC {base:Nat} {h h':Hp} {x v:V} (hr:wz h x=some (v,h')):Kp base h h':=by
 unfold wz at hr
 split at hr
 ·split at hr
  ·split at hr
   ·cases hr;exact Kp.set fun _ _ _ _=> rfl
   ·cases hr
  ·unfold Ka at hr
   split at hr
   ·split at hr
    ·cases hr;exact Kp.set fun _ _ _ _=> rfl
    ·cases hr
   ·cases hr
 ·cases hr
theorem KU {base:Nat} {h h1 h':Hp} {v v':V} (hk:Kp base h h1) (hr:rC (v,h1)=some (v',h')):Kp base h h':=by
 unfold rC at hr
 split at hr
 ·cases hr;exact hk
 ·split at hr
  ·split at hr
   ·cases hr;exact hk.trans (Kp.set fun _ _ _ _=> rfl)
   ·cases hr
  ·cases hr
 ·cases hr
theorem TD {base:Nat} {h h':Hp} {t n:Nat} {g:Option Nat} {x v:V} (hr:vN h t g n x=some (v,h')):Kp base h h':=by
 unfold vN at hr
 obtain ⟨⟨v1,h1⟩,zN,nr⟩:=acr.1 hr
 simp only at nr
 split at nr
 ·split at nr
  ·cases nr;exact KU (Kp.refl base h) zN
  ·cases nr
 ·cases nr
theorem TE {base:Nat} {h h':Hp} {g:Option Nat} {z:List V} {p:List Nat} {xs:List V} {v:V} (hr:uu h g z p xs=some (v,h')):Kp base h h':=by
 unfold uu at hr
 split at hr
 ·split at hr
  ·split at hr <;> cases hr
   exact Kp.append base h _
  ·cases hr
 ·cases hr
theorem TF {base:Nat} {h h':Hp} {g:Option Nat} {z x y v:V} (hr:wB h g z x y=some (v,h')):Kp base h h':=by
 unfold wB at hr
 split at hr
 ·split at hr
  ·split at hr <;> cases hr
   ·exact Kp.refl base h
   ·exact Kp.append base h _
  ·cases hr
 ·cases hr
theorem mz {base id:Nat} {ys:List V} (h:ys.all (bQ base id)=true) {b:Nat} (hb:b≤base) (hid:id < b):∀y∈ys,y.low b=true:=fun y hy=>
 pG (acJ.1 h y hy) hb hid
theorem Ck {base:Nat} {h h':Hp} {g gy:Option Nat} {bytes:Nat} {x v:V} {ys:List V} (hr:df base g bytes h x gy ys=some (v,h')):Kp base h h':=by
 unfold df at hr
 split at hr
 ·obtain ⟨n,_,he⟩:=ach.1 hr
  cases he;exact Kp.refl base h
 ·split at hr
  ·split at hr
   ·split at hr
    ·cases hr;exact Kp.append base h _
    ·cases hr
   ·split at hr
    ·rename_i cE
     split at hr
     ·rename_i aZ
      split at hr
      ·cases hr
       refine Kp.set fun b hb hl hid=> ?_
       simp only[bc.low]
       rw[eY]
       intro e he
       have cY:=hl.row cE hid
       rcases acG.1 he with he | he
       ·rcases acG.1 he with he | he
        ·exact cY e (acA he)
        ·exact mz aZ.2.2 hb hid e he
       ·exact cY e (acY he)
      ·split at hr
       ·cases hr
        refine Kp.set fun b hb hl hid=> ?_
        simp only[bc.low]
        rw[eY]
        intro e he
        rcases acG.1 he with he | he
        ·exact hl.row cE hid e he
        ·exact mz aZ.2.2 hb hid e he
       ·cases hr
     ·cases hr
    ·cases hr
   ·cases hr
  ·cases hr
theorem TH {base:Nat} {h h':Hp} {g:Option Nat} {bytes:Nat} {z x y v:V} (hr:vI base h g bytes z x y=some (v,h')):Kp base h h':=by
 unfold vI at hr
 split at hr
 ·split at hr
  ·exact Ck hr
  ·cases hr
 ·cases hr
theorem DV {base:Nat} {h h':Hp} {g gy:Option Nat} {x v:V} {ys:List V} (hr:copyV base g h x gy ys=some (v,h')):Kp base h h':=by
 unfold copyV at hr
 split at hr
 ·split at hr
  ·rename_i cE
   simp only at hr
   split at hr
   ·rename_i aZ
    cases hr
    refine Kp.set fun b hb hl hid=> ?_
    simp only[bc.low]
    rw[eY]
    intro e he
    have cY:=hl.row cE hid
    rcases acG.1 he with he | he
    ·rcases acG.1 he with he | he
     ·exact cY e (acA he)
     ·exact mz aZ.2.2.2.2 hb hid e (acA he)
    ·exact cY e (acY he)
   ·cases hr
  ·cases hr
 ·cases hr
theorem uX {b:Nat}:∀(p:List Nat) (v v':V),nodeAt p v=some v'→v.low b=true→v'.low b=true
 | [],v,v',h,hl=> by cases v <;>(cases h;exact hl)
 | i::p,v,v',h,hl=> by
   have key:∀fs:List V,V.low.all b fs=true→(match fs[i]? with | some v=> nodeAt p v | none=> none)=some v'→v'.low b=true:=fun fs hf hn=> by
     cases hx:fs[i]? with
     | none=> rw[hx] at hn;cases hn
     | some x=> rw[hx] at hn;exact uX p x v' hn (eY.1 hf x (acw hx))
   cases v with
   | st t fs=> exact key fs (by simpa only[V.low] using hl) h
   | arr t fs=> exact key fs (by simpa only[V.low] using hl) h
   | _=> cases h
theorem KW {base:Nat} {h h':Hp} {g gy:Option Nat} {x v:V} {ys:List V} (hr:zp base g h x gy ys=some (v,h')):Kp base h h':=by
 unfold zp at hr
 split at hr
 ·rename_i id i p g' off len aB
  split at hr
  case h_2=> cases hr
  rename_i t es oU
  split at hr
  case isFalse=> cases hr
  rename_i aZ
  obtain ⟨h1,aR,he⟩:=ach.1 hr
  simp only[Prod.mk.injEq] at he
  obtain ⟨rfl,rfl⟩:=he
  unfold store at aR
  split at aR
  case h_2=> cases aR
  rename_i g1 es1 i1 p1 cE hpp
  cases hpp
  split at aR
  case h_2=> cases aR
  rename_i w hw
  obtain ⟨w',mI,rfl⟩:=ach.1 aR
  unfold node at oU
  rw[cE] at oU
  simp only[hw] at oU
  refine Kp.set fun b hb hl hid=> ?_
  have cY:=eY.1 (hl id hid _ (q16z cE).1)
  have hwl:=cY w (acw hw)
  have Hm:∀e∈es,e.low b=true:=by
    have:=uX p w _ oU hwl
    simpa only[V.low,eY] using this
  have mU:(V.arr t (es.take off++ys.take (min ys.length len)++es.drop (off+min ys.length len))).low b=true:=by
    simp only[V.low]
    rw[eY]
    intro e he
    rcases acG.1 he with he | he
    ·rcases acG.1 he with he | he
     ·exact Hm e (acA he)
     ·exact mz aZ.2.2.2 hb hid e (acA he)
    ·exact Hm e (acY he)
  simp only[bc.low]
  rw[eY]
  intro e he
  rcases adj he with he | rfl
  ·exact cY e he
  ·exact rr mU p w e mI hwl
 ·exact DV hr
theorem TI {base:Nat} {h h':Hp} {g:Option Nat} {z x v:V} (hr:zt base h g z x=some (v,h')):Kp base h h':=by
 unfold zt at hr
 split at hr
 ·cases hr;exact Kp.refl base h
 ·obtain ⟨r,zN,he⟩:=ach.1 hr
  cases he
  exact DV zN
 ·cases hr
theorem TJ {base:Nat} {h h':Hp} {lit:Bool} {x v:V} (hr:rL h lit x=some (v,h')):Kp base h h':=by
 unfold rL at hr
 split at hr
 ·split at hr
  ·cases hr;exact Kp.refl base h
  ·split at hr
   ·cases hr
   ·cases hr;exact Kp.append base h _
 ·cases hr
theorem TK {base:Nat} {h h':Hp} {x v:V} (hr:zu h x=some (v,h')):Kp base h h':=by
 unfold zu at hr
 split at hr
 ·cases hr;exact Kp.append base h _
 ·cases hr
theorem TL {base:Nat} {h h':Hp} {x v:V} (hr:zw h x=some (v,h')):Kp base h h':=by
 unfold zw at hr
 split at hr
 ·split at hr
  ·split at hr
   ·cases hr;exact Kp.set fun _ _ _ _=> rfl
   ·cases hr;exact Kp.refl base h
  ·cases hr
 ·cases hr
def KpF (base:Nat) (cf:Nat→List V→Hp→Option (V×Hp)):Prop:=∀f vs h v h',cf f vs h=some (v,h')→Kp base h h'
theorem ZJ {cf:Nat→List V→Hp→Option (V×Hp)} {base:Nat} (gh:KpF base cf) {o:O} {xs:List V} {h h':Hp} {v:V} (hr:aC cf base h o xs=some (v,h')):Kp base h h':=by
 by_cases he:o.cq=false
 ·have:=wT he hr
  subst this
  exact Kp.refl base _
 cases o <;> simp only[O.cq,not_true_eq_false,Bool.not_eq_false,not_false_eq_true] at he <;> try (cases he;done)
 case aY g=> match xs,hr with
   | [x,y],hr=> exact TA hr
   | [],hr=> cases hr
   | [_],hr=> cases hr
   | _::_::_::_,hr=> cases hr
 case box g=> match xs,hr with
   | [x],hr=> exact KT hr
   | [],hr=> cases hr
   | _::_::_,hr=> cases hr
 case eS g z=> match xs,hr with
   | [],hr=> exact KT hr
   | _::_,hr=> cases hr
 case gT g z p=> exact TB (xs:=xs) hr
 case oy=> match xs,hr with
   | [x],hr=> exact TC hr
   | [],hr=> cases hr
   | _::_::_,hr=> cases hr
 case mks g z=> match xs,hr with
   | [x,y],hr=> exact TF hr
   | [],hr=> cases hr
   | [_],hr=> cases hr
   | _::_::_::_,hr=> cases hr
 case app g by'=> match xs,hr with
   | [x,y],hr=>
     obtain ⟨r,_,hr⟩:=acr.1 (show (source h y).bind (fun r=> df base g by' h x r.1 r.2)=some (v,h') from hr)
     exact Ck hr
   | [],hr=> cases hr
   | [_],hr=> cases hr
   | _::_::_::_,hr=> cases hr
 case apx g by'=> match xs,hr with
   | [x,y],hr=>
     obtain ⟨⟨v1,h1⟩,zN,nr⟩:=acr.1 (show (oM base h g by' x y).bind rC=some (v,h') from hr)
     obtain ⟨r,_,hr⟩:=acr.1 (show (source h y).bind (fun r=> df base g by' h x r.1 r.2)=some (v1,h1) from zN)
     exact KU (Ck hr) nr
   | [],hr=> cases hr
   | [_],hr=> cases hr
   | _::_::_::_,hr=> cases hr
 case bsx g z p=> exact TE (xs:=xs) hr
 case apz g by' z=> match xs,hr with
   | [x,y],hr=> exact TH hr
   | [],hr=> cases hr
   | [_],hr=> cases hr
   | _::_::_::_,hr=> cases hr
 case s2a t g n=> match xs,hr with
   | [x],hr=> exact TD hr
   | [],hr=> cases hr
   | _::_::_,hr=> cases hr
 case mkm=> match xs,hr with
   | [],hr=> cases hr;exact Kp.append base h _
   | _::_,hr=> cases hr
 case mup kc g=> match xs,hr with
   | [x,k,y],hr=> exact Tx hr
   | [],hr=> cases hr
   | [_],hr=> cases hr
   | [_,_],hr=> cases hr
   | _::_::_::_::_,hr=> cases hr
 case mpe kc z=> match xs,hr with
   | [x,y],hr=> exact Ty hr
   | [],hr=> cases hr
   | [_],hr=> cases hr
   | _::_::_::_,hr=> cases hr
 case ens g=> match xs,hr with
   | [x,k,y],hr=> exact Tz hr
   | [],hr=> cases hr
   | [_],hr=> cases hr
   | [_,_],hr=> cases hr
   | _::_::_::_::_,hr=> cases hr
 case cpy g=> match xs,hr with
   | [x,y],hr=>
     obtain ⟨r,_,hr⟩:=acr.1 (show (source h y).bind (fun r=> zp base g h x r.1 r.2)=some (v,h') from hr)
     exact KW hr
   | [],hr=> cases hr
   | [_],hr=> cases hr
   | _::_::_::_,hr=> cases hr
 case clr g z=> match xs,hr with
   | [x],hr=> exact TI hr
   | [],hr=> cases hr
   | _::_::_,hr=> cases hr
 case s2b lit=> match xs,hr with
   | [x],hr=> exact TJ hr
   | [],hr=> cases hr
   | _::_::_,hr=> cases hr
 case rng=> match xs,hr with
   | [x],hr=> exact TK hr
   | [],hr=> cases hr
   | _::_::_,hr=> cases hr
 case nxt=> match xs,hr with
   | [x],hr=> exact TL hr
   | [],hr=> cases hr
   | _::_::_,hr=> cases hr
 case call f=> exact gh f xs h v h' hr
 case mW=> match xs,hr with
   | .fn f cap::xs,hr=> exact gh f (xs++cap) h v h' hr
   | [],hr=> cases hr
theorem DW {cf:Nat→List V→Hp→Option (V×Hp)} {base:Nat} (gh:KpF base cf) {fr:Fr} {g:G} {h h':Hp} {v:V} (hr:stepG cf base fr h g=some (v,h')):Kp base h h':=by
 unfold stepG at hr
 split at hr
 ·exact ZJ gh hr
 ·cases hr;exact Kp.refl base _
 ·cases hr
theorem DX {cf:Nat→List V→Hp→Option (V×Hp)} {base:Nat} (gh:KpF base cf):∀ {gs:List G} {fr:Fr} {h:Hp} {fr':Fr} {h':Hp},lf cf base gs fr h=some (fr',h')→Kp base h h'
 | [],fr,h,fr',h',hr=> by simp only[lf,Option.some.injEq,Prod.mk.injEq] at hr;rw[←hr.2];exact Kp.refl base _
 | g::gs,fr,h,fr',h',hr=> by
   simp only[lf] at hr
   split at hr
   ·rename_i v h1 h2
    exact (DW gh h2).trans (DX gh hr)
   ·cases hr
theorem yf {cf:Nat→List V→Hp→Option (V×Hp)} {base:Nat} (gh:KpF base cf):∀ {ds:List GD} {fr:Fr} {h:Hp} {hs:List Hp} {xs:List Seen} {fr':Fr} {h':Hp} {dv:List Hp} {xs':List Seen},nF cf base ds fr h hs xs=some (fr',h',dv,xs')→Kp base h h'
 | [],fr,h,hs,xs,fr',h',dv,xs',hr=> by simp only[nF,Option.some.injEq,Prod.mk.injEq] at hr;rw[←hr.2.1];exact Kp.refl base _
 | d::ds,fr,h,hs,xs,fr',h',dv,xs',hr=> by
   simp only[nF] at hr
   split at hr
   ·rename_i v h1 h2
    split at hr
    ·exact (DW gh h2).trans (yf gh hr)
    ·exact yf gh hr
   ·cases hr
theorem yg {cf:Nat→List V→Hp→Option (V×Hp)} {base:Nat} (gh:KpF base cf):∀(k:C) {fr:Fr} {h:Hp} {e:Ex} {fr':Fr} {h':Hp},exec cf base k fr h=some (e,fr',h')→Kp base h h':=by
 intro k
 induction k with
 | skip=> intro fr h e fr' h' hx;simp only[exec,Option.some.injEq,Prod.mk.injEq] at hx;rw[←hx.2.2];exact Kp.refl base _
 | af gs=>
   intro fr h e fr' h' hx
   simp only[exec] at hx
   obtain ⟨r,hr,he⟩:=ach.1 hx
   cases he
   exact DX gh hr
 | bL ds=>
   intro fr h e fr' h' hx
   simp only[exec] at hx
   obtain ⟨r,hr,he⟩:=ach.1 hx
   cases he
   unfold bL at hr
   split at hr
   ·rename_i bo
    split at hr
    ·cases hr;exact yf gh bo
    ·cases hr
   ·cases hr
 | seq a b iha ihb=>
   intro fr h e fr' h' hx
   simp only[exec] at hx
   split at hx
   ·rename_i yI;exact (iha yI).trans (ihb hx)
   ·exact iha hx
 | cond c a b iha ihb=>
   intro fr h e fr' h' hx
   simp only[exec] at hx
   split at hx
   ·exact iha hx
   ·exact ihb hx
   ·cases hx
 | block id a iha=>
   intro fr h e fr' h' hx
   simp only[exec] at hx
   split at hx
   ·rename_i yI
    split at hx <;>(cases hx;exact iha yI)
   ·exact iha hx
 | loop a iha=>
   intro fr h e fr' h' hx
   simp only[exec] at hx
   obtain ⟨n,hn⟩:=il.1 hx
   induction n generalizing fr h with
   | zero=> simp[iter] at hn
   | succ n ih=>
     simp only[iter] at hn
     split at hn
     ·rename_i fr1 h1 yI
      exact (iha yI).trans (ih (il.2 ⟨n,hn⟩) hn)
     ·exact iha hn
 | exit id=> intro fr h e fr' h' hx;simp only[exec,Option.some.injEq,Prod.mk.injEq] at hx;rw[←hx.2.2];exact Kp.refl base _
 | ret=> intro fr h e fr' h' hx;simp only[exec,Option.some.injEq,Prod.mk.injEq] at hx;rw[←hx.2.2];exact Kp.refl base _
theorem KX {cf:Nat→Nat→List V→Hp→Option (V×Hp)} (gh:∀base,KpF base (cf base)) {base:Nat} {F:Fn} {args:List V} {h h':Hp} {v:V} (hr:lN cf base F args h=some (v,h')):Kp base h h':=by
 unfold lN at hr
 split at hr
 ·split at hr
  ·cases hr
  ·rename_i hx
   split at hr
   ·split at hr
    ·cases hr
     intro b jo qU hl
     obtain ⟨h1,h2⟩:=yg (gh h.length) F.body hx b qU qU hl
     refine ⟨fun id hid k hk=> ?_,by rw[acI];omega⟩
     rw[adQ (by omega)] at hk
     exact h1 id hid k hk
    ·cases hr
   ·cases hr
  ·cases hr
 ·split at hr
  ·cases hr
  ·rename_i hx
   split at hr
   ·cases hr
    exact yg (gh base) F.body hx
   ·cases hr
  ·cases hr
def KpP (pr:Nat→List V→Hp→Option (V×Hp)):Prop:=∀f vs h v h',pr f vs h=some (v,h')→∀base,Kp base h h'
theorem KY {fns:Nat→Option Fn} {pr:Nat→List V→Hp→Option (V×Hp)} (hp:KpP pr):∀(d base:Nat),KpF base (den fns pr d base)
 | 0,base,f,vs,h,v,h',hr=> by simp[den] at hr
 | d+1,base,f,vs,h,v,h',hr=> by
   simp only[den] at hr
   split at hr
   ·rename_i F hF
    exact KX (fun base=> KY hp d base) hr
   ·exact hp f vs h v h' hr base
end Go.Vm
namespace Go.Vm
variable {P : Program} {obj : Nat → Bool} {L : cG}
theorem yh {c:Ctx}:∀v:V,(∀us,RC L c v us→v.low c.n=true):=by
 intro v
 induction v using V.rec (motive_2:=fun vs=>(∀us,cB L c vs us→V.low.all c.n vs=true)∧(∀us,RW L c vs us→V.low.all c.n vs=true)∧(∀v∈vs,∀us,RC L c v us→v.low c.n=true)) with
 | s x=> intro us h;rfl
 | ptr id path aB=> intro us h;simp only[RC] at h;obtain ⟨a,_,hid,_⟩:=h;simp[V.low,hid]
 | ref id path g off len aB=> intro us h;simp only[RC] at h;obtain ⟨a,k,_,hid,_⟩:=h;simp[V.low,hid]
 | al full g es ih=>
   intro us h;simp only[RC] at h
   obtain ⟨a,k,h,h1,h2,h3,h4⟩:=h
   rcases h4 with rfl | ⟨b,off,cs,ty,fz,ha,hz,hr⟩
   ·rfl
   ·exact ih.1 _ hr
 | eb v ih=> intro us h;simp only[RC] at h;obtain ⟨b,off,cs,ty,fz,h,hz,hr⟩:=h;exact ih _ hr
 | st t fs ih=> intro us h;simp only[RC] at h;exact ih.1 _ h.1
 | arr t es ih=> intro us h;simp only[RC] at h;exact ih.1 _ h.1
 | bP vs ih=> intro us h;simp only[RC] at h;obtain ⟨ws,h1,h2⟩:=h;exact ih.2.1 _ h2
 | iface t v ih=> intro us h;simp only[RC] at h;obtain ⟨u,us',h1,h2,h3⟩:=h;exact ih _ h2
 | fn f cap ih=> intro us h;simp only[RC] at h;obtain ⟨ws,h1,h2⟩:=h;exact ih.2.1 _ h2
 | mp id=> intro us h;simp only[RC] at h;obtain ⟨a,_,hid,_⟩:=h;simp[V.low,hid]
 | top=> intro us h;rfl
 | nil=> exact ⟨fun _ _=> rfl,fun _ _=> rfl,fun v hv=> by cases hv⟩
 | cons v vs h1 h2=>
   refine ⟨fun us h=> ?_,fun us h=> ?_,fun x hx us h=> ?_⟩
   ·simp only[cB] at h
    obtain ⟨u1,u2,rfl,k1,k2⟩:=h
    simp only[V.low.all,acn]
    exact ⟨h1 _ k1,h2.1 _ k2⟩
   ·simp only[RW] at h
    obtain ⟨u,us',rfl,⟨u1,k1,k2⟩,k3⟩:=h
    simp only[V.low.all,acn]
    exact ⟨h1 _ k1,h2.2.1 _ k3⟩
   ·rcases acQ.1 hx with rfl | hx
    ·exact h1 us h
    ·exact h2.2.2 x hx us h
theorem yi {c:Ctx}:∀ {vs:List V} {us:List Value},cB L c vs us→V.low.all c.n vs=true
 | [],_,_=> rfl
 | v::vs,us,h=> by
   simp only[cB] at h
   obtain ⟨u1,u2,rfl,k1,k2⟩:=h
   simp only[V.low.all,acn]
   exact ⟨yh v _ k1,yi k2⟩
theorem DY {c:Ctx}:∀ {es:List (V×V×Nat)} {ms:List MapEntry},mm L c es ms→∀e∈es,e.1.low c.n=true∧e.2.1.low c.n=true
 | [],[],_=> by simp
 | e::es,m::ms,h=> by
   obtain ⟨⟨⟨u1,a1,a2⟩,⟨u2,a3,a4⟩,a5⟩,a6⟩:=h
   intro x hx
   rcases acQ.1 hx with rfl | hx
   ·exact ⟨yh _ _ a1,yh _ _ a3⟩
   ·exact DY a6 x hx
 | [],_::_,h=> h.elim
 | _::_,[],h=> h.elim
theorem bp.low {c:Ctx} {h:Hp} {w:World} (hs:bp L c h w):DU h.length h:=fun id hid k hk=> by
 rcases hs.live id k hk with ⟨l,hl⟩ | rfl
 ·obtain ⟨k',h1,h2,h3⟩:=hs.loc id l hl
  rw[hk] at h1;cases h1
  cases k with
  | cells g es=>
    obtain ⟨_,_,_,_,us,ty,fz,_,_,_,hr⟩:=h3
    have:=yi hr
    rw[hs.n] at this
    exact this
  | lit g es=>
    obtain ⟨_,_,_,_,us,ty,fz,_,_,_,hr⟩:=h3
    have:=yi hr
    rw[hs.n] at this
    exact this
  | map es cl=>
    obtain ⟨_,_,ms,_,hr⟩:=h3
    have:=DY hr
    rw[hs.n] at this
    exact sW.2 this
  | gI s pos=> rfl
  | dead=> rfl
 ·rfl
open Classical in
noncomputable def Ctx.cut (c:Ctx) (n:Nat) (w:World):Ctx where
 z b:=match c.z b with
   | some o=> some o
   | none=> if ∃id l,n≤id∧c.loc id=some l∧l.bE=b then w.heap[b]? else none
 loc id:=if id < n then c.loc id else none
 n:=n
theorem Ctx.zY {c:Ctx} {n:Nat} {w:World} {b:Nat} {o:Obj} (h:c.z b=some o):(c.cut n w).z b=some o:=by simp[Ctx.cut,h]
theorem Ctx.NB {c:Ctx} {n:Nat} {w:World} {id:Nat} {l:Loc} (hid:n≤id) (hl:c.loc id=some l) (hz:c.z l.bE=none):(c.cut n w).z l.bE=w.heap[l.bE]? :=by
 simp only[Ctx.cut,hz]
 rw[if_pos ⟨id,l,hid,hl,rfl⟩]
theorem Ctx.kF {c:Ctx} {n:Nat} {w:World} {id:Nat} (hid:id < n):(c.cut n w).loc id=c.loc id:=by simp[Ctx.cut,hid]
theorem Ctx.TM {c c':Ctx} {w:World} (hle:c.le c'):c.le (c'.cut c.n w) where
 z b o hb:=Ctx.zY (hle.z b o hb)
 n:=acm _
 loc id l' hid hl:=hle.loc id l' hid (by rw[Ctx.kF hid] at hl;exact hl)
theorem qz {c:Ctx} {n:Nat} {w:World} (hn:n≤c.n):∀v:V,v.low n=true→(∀us,RC L c v us→RC L (c.cut n w) v us):=by
 intro v
 induction v using V.rec (motive_2:=fun vs=> V.low.all n vs=true→(∀us,cB L c vs us→cB L (c.cut n w) vs us)∧(∀us,RW L c vs us→RW L (c.cut n w) vs us)) with
 | s x=> intro _ us h;simpa only[RC] using h
 | ptr id path aB=>
   intro hl us h;simp only[RC] at h ⊢
   simp only[V.low,decide_eq_true_eq] at hl
   obtain ⟨a,h,hid,hh⟩:=h
   exact ⟨a,h,hl,fun l oC=> hh l (by rw[Ctx.kF hl] at oC;exact oC)⟩
 | ref id path g off len aB=>
   intro hl us h;simp only[RC] at h ⊢
   simp only[V.low,decide_eq_true_eq] at hl
   obtain ⟨a,k,h,hid,mR,hh⟩:=h
   exact ⟨a,k,h,hl,mR,fun l oC=> hh l (by rw[Ctx.kF hl] at oC;exact oC)⟩
 | al full g es ih=>
   intro hl us h;simp only[RC] at h ⊢
   obtain ⟨a,k,h,h1,h2,h3,h4⟩:=h
   refine ⟨a,k,h,h1,h2,h3,?_⟩
   rcases h4 with h4 | ⟨b,off,cs,ty,fz,ha,hz,hr⟩
   ·exact .inl h4
   ·exact .inr ⟨b,off,cs,ty,fz,ha,Ctx.zY hz,(ih hl).1 _ hr⟩
 | eb v ih=>
   intro hl us h;simp only[RC] at h ⊢
   obtain ⟨b,off,cs,ty,fz,h,hz,hr⟩:=h
   exact ⟨b,off,cs,ty,fz,h,Ctx.zY hz,ih hl _ hr⟩
 | st t fs ih=> intro hl us h;simp only[RC] at h ⊢;exact ⟨(ih hl).1 _ h.1,h.2⟩
 | arr t es ih=> intro hl us h;simp only[RC] at h ⊢;exact ⟨(ih hl).1 _ h.1,h.2⟩
 | bP vs ih=> intro hl us h;simp only[RC] at h ⊢;obtain ⟨ws,h1,h2⟩:=h;exact ⟨ws,h1,(ih hl).2 _ h2⟩
 | iface t v ih=> intro hl us h;simp only[RC] at h ⊢;obtain ⟨u,us',h1,h2,h3⟩:=h;exact ⟨u,us',h1,ih hl _ h2,h3⟩
 | fn f cap ih=> intro hl us h;simp only[RC] at h ⊢;obtain ⟨ws,h1,h2⟩:=h;exact ⟨ws,h1,(ih hl).2 _ h2⟩
 | mp id=>
   intro hl us h;simp only[RC] at h ⊢
   simp only[V.low,decide_eq_true_eq] at hl
   obtain ⟨b,h,hid,hh⟩:=h
   exact ⟨b,h,hl,fun l oC=> hh l (by rw[Ctx.kF hl] at oC;exact oC)⟩
 | top=> intro _ us h;simpa only[RC] using h
 | nil=> rename_i hl;exact ⟨fun us h=> by simpa only[cB] using h,fun us h=> by simpa only[RW] using h⟩
 | cons v vs h1 h2=>
   rename_i hl
   simp only[V.low.all,acn] at hl
   refine ⟨fun us h=> ?_,fun us h=> ?_⟩
   ·simp only[cB] at h ⊢
    obtain ⟨u1,u2,rfl,k1,k2⟩:=h
    exact ⟨u1,u2,rfl,h1 hl.1 _ k1,(h2 hl.2).1 _ k2⟩
   ·simp only[RW] at h ⊢
    obtain ⟨u,us',rfl,⟨u1,k1,k2⟩,k3⟩:=h
    exact ⟨u,us',rfl,⟨u1,h1 hl.1 _ k1,k2⟩,(h2 hl.2).2 _ k3⟩
theorem sY {c:Ctx} {n:Nat} {w:World} (hn:n≤c.n):∀ {vs:List V} {us:List Value},V.low.all n vs=true→cB L c vs us→cB L (c.cut n w) vs us
 | [],us,_,h=> by simpa only[cB] using h
 | v::vs,us,hl,h=> by
   simp only[V.low.all,acn] at hl
   simp only[cB] at h ⊢
   obtain ⟨u1,u2,rfl,k1,k2⟩:=h
   exact ⟨u1,u2,rfl,qz hn v hl.1 _ k1,sY hn hl.2 k2⟩
theorem DZ {c:Ctx} {n:Nat} {w:World} (hn:n≤c.n):∀ {es:List (V×V×Nat)} {ms:List MapEntry},(∀e∈es,e.1.low n=true∧e.2.1.low n=true)→mm L c es ms→mm L (c.cut n w) es ms
 | [],[],_,_=> trivial
 | e::es,m::ms,hl,h=> by
   obtain ⟨⟨⟨u1,a1,a2⟩,⟨u2,a3,a4⟩,a5⟩,a6⟩:=h
   obtain ⟨l1,l2⟩:=hl e (by simp)
   exact ⟨⟨⟨u1,qz hn _ l1 _ a1,a2⟩,⟨u2,qz hn _ l2 _ a3,a4⟩,a5⟩,DZ hn (fun x hx=> hl x (by simp[hx])) a6⟩
 | [],_::_,_,h=> h.elim
 | _::_,[],_,h=> h.elim
theorem bp.cut {c:Ctx} {n:Nat} {h:Hp} {w:World} (hs:bp L c h w) (hn:n≤c.n) (hl:DU n h):bp L (c.cut n w) (h.take n) w where
 z b o hb:=by
   cases hz:c.z b with
   | some o'=> rw[Ctx.zY hz] at hb;cases hb;exact hs.z b o hz
   | none=>
     simp only[Ctx.cut,hz] at hb
     split at hb
     ·rename_i hx
      obtain ⟨id,l,_,dF,rfl⟩:=hx
      obtain ⟨k,_,_,h3⟩:=hs.loc id l dF
      rw[hb,h3.real hb]
     ·cases hb
 n:=by rw[acI,←hs.n];exact (acZ hn).symm
 loc id l oC:=by
   by_cases hid:id < n
   ·rw[Ctx.kF hid] at oC
    obtain ⟨k,h1,h2,h3⟩:=hs.loc id l oC
    refine ⟨k,by rw[adQ hid];exact h1,?_,?_⟩
    ·simp only[Ctx.cut,h2]
     rw[if_neg]
     rintro ⟨i,li,hi,hli,he⟩
     have:=hs.inj i id li l hli oC he
     omega
    ·cases k with
     | cells g es=>
       obtain ⟨a1,a2,a3,a4,us,ty,fz,a5,a6,a7,a8⟩:=h3
       exact ⟨a1,a2,a3,a4,us,ty,fz,a5,a6,a7,sY hn (hl id hid _ h1) a8⟩
     | lit g es=>
       obtain ⟨a1,a2,a3,a4,us,ty,fz,a5,a6,a7,a8⟩:=h3
       exact ⟨a1,a2,a3,a4,us,ty,fz,a5,a6,a7,sY hn (hl id hid _ h1) a8⟩
     | map es cl=>
       obtain ⟨a1,a2,ms,a3,a4⟩:=h3
       exact ⟨a1,a2,ms,a3,DZ hn (sW.1 (hl id hid _ h1)) a4⟩
     | gI s pos=> exact h3
     | dead=> exact h3
   ·simp[Ctx.cut,hid] at oC
 live id k hk:=by
   have hid:id < n:=by
     have:=(acj.1 hk).1
     rw[acI] at this;omega
   rw[adQ hid] at hk
   rw[Ctx.kF hid]
   exact hs.live id k hk
 inj i j li lj hi hj he:=by
   by_cases h1:i < n
   ·by_cases h2:j < n
    ·rw[Ctx.kF h1] at hi
     rw[Ctx.kF h2] at hj
     exact hs.inj i j li lj hi hj he
    ·simp[Ctx.cut,h2] at hj
   ·simp[Ctx.cut,h1] at hi
def PM (L:cG) (c:Ctx) (n:Nat) (w:World) (v v':V):Prop:=
 v'.ty=v.ty∧v'.aA=v.aA∧(∀us u,wr v us u→wr v' us u)∧∀us,RC L c v us→RC L (c.cut n w) v' us
theorem lW {c:Ctx} {n:Nat} {w:World} (hn:n≤c.n) {v v':V} (h:(if v.low n then some v else none)=some v'):PM L c n w v v':=by
 split at h
 ·rename_i hl
  cases h
  exact ⟨rfl,rfl,fun _ _ h=> h,fun us h=> qz hn v hl us h⟩
 ·cases h
theorem TN (hL:L.OK) {c:Ctx} {n:Nat} {h:Hp} {w:World} (hs:bp L c h w) (hn:n≤c.n):∀v v':V,bA n h v=some v'→PM L c n w v v':=by
 intro v
 induction v using V.rec (motive_2:=fun vs=>∀vs',bA.all n h vs=some vs'→vs'.length=vs.length∧vs'.map V.ty=vs.map V.ty∧(∀x'∈vs',∃x∈vs,x'.ty=x.ty∧x'.aA=x.aA)∧(∀us,cB L c vs us→cB L (c.cut n w) vs' us)∧(∀us,RW L c vs us→RW L (c.cut n w) vs' us)) with
 | s x=> intro v' hf;exact lW hn hf
 | ptr id path aB=> intro v' hf;exact lW hn hf
 | ref id path g off len aB=>
   intro v' hf
   simp only[bA] at hf
   split at hf
   ·rename_i hid
    cases hf
    exact ⟨rfl,rfl,fun _ _ h=> h,fun us h=> qz hn _ (by simp[V.low,hid]) us h⟩
   ·rename_i hid
    split at hf
    case h_2=> cases hf
    split at hf
    case h_2=> cases hf
    rename_i g' es cE
    split at hf
    case isFalse=> cases hf
    rename_i aZ
    obtain ⟨rfl,hlen,TO⟩:=aZ
    cases hf
    refine ⟨rfl,rfl,fun us u h=> h,fun us hr=> ?_⟩
    simp only[RC] at hr ⊢
    obtain ⟨a,k,rfl,acg,mR,hh⟩:=hr
    obtain ⟨l,hl,cO,cD,hz,_,_,gF,cY,cs,ty,fz,hg,cU,dt,gk⟩:=hs.row cE
    obtain ⟨tF,hh2⟩:=hh l hl
    obtain ⟨o,m,pf,ha,hm⟩:=hh2 cO
    simp only[cG.row,Option.some.injEq,Prod.mk.injEq] at pf
    obtain ⟨rfl,j1,rfl⟩:=pf
    obtain ⟨_,oJ⟩:=q16z cE
    have BZ:((es.drop off).take len).length=len:=by simp;omega
    refine ⟨some a,k,by rw[BZ],by rw[BZ];exact mR,(fun hf=> by cases hf),fun e he=> cY e (acY (acA he)),?_⟩
    right
    refine ⟨l.bE,0+off * L.aD g',cs,ty,fz,by rw[ha],?_,?_⟩
    ·rw[Ctx.NB (by omega) hl hz];exact hg
    ·refine sY hn TO ?_
     have:=xO hL gk (fun e he=>(cY e he).1) off len (by omega)
     rw[BZ]
     simp only[og,acU]
     have hb:(off+len)* L.aD g'≤es.length * L.aD g':=acE _ (by omega)
     rw[adG] at hb
     rw[adM,ads,acZ (by omega)] at this
     exact this
 | al full g es ih=>
   intro v' hf
   simp only[bA] at hf
   obtain ⟨es',he,rfl⟩:=ach.1 hf
   obtain ⟨h1,h2,h3,h4,h5⟩:=ih es' he
   refine ⟨rfl,rfl,fun us u h=> h,fun us hr=> ?_⟩
   simp only[RC] at hr ⊢
   obtain ⟨a,k,rfl,k1,k2,k3,k4⟩:=hr
   refine ⟨a,k,by rw[h1],by rw[h1];exact k1,(fun hf=> by cases hf),fun e he=> ?_,?_⟩
   ·obtain ⟨x,hx,yI,hx2⟩:=h3 e he
    rw[yI,hx2];exact k3 x hx
   ·rcases k4 with rfl | ⟨b,off,cs,ty,fz,ha,hz,hr⟩
    ·left;exact aeW.1 (by simpa using h1)
    ·right;exact ⟨b,off,cs,ty,fz,ha,Ctx.zY hz,by rw[h1];exact h4 _ hr⟩
 | eb v ih=> intro v' hf;exact lW hn hf
 | mp id=> intro v' hf;exact lW hn hf
 | st t fs ih=>
   intro v' hf
   simp only[bA] at hf
   obtain ⟨es',he,rfl⟩:=ach.1 hf
   obtain ⟨h1,h2,h3,h4,h5⟩:=ih es' he
   refine ⟨rfl,rfl,fun us u h=> h,fun us hr=> ?_⟩
   simp only[RC] at hr ⊢
   refine ⟨h4 _ hr.1,by rw[h2];exact hr.2.1,fun f hf=> ?_⟩
   obtain ⟨x,hx,_,hx2⟩:=h3 f hf
   rw[hx2];exact hr.2.2 x hx
 | arr t es ih=>
   intro v' hf
   simp only[bA] at hf
   obtain ⟨es',he,rfl⟩:=ach.1 hf
   obtain ⟨h1,h2,h3,h4,h5⟩:=ih es' he
   refine ⟨rfl,rfl,fun us u h=> h,fun us hr=> ?_⟩
   simp only[RC] at hr ⊢
   obtain ⟨k1,e,k2,k3⟩:=hr
   refine ⟨h4 _ k1,e,by rw[h1];exact k2,fun f hf=> ?_⟩
   obtain ⟨x,hx,yI,hx2⟩:=h3 f hf
   rw[yI,hx2];exact k3 x hx
 | bP vs ih=>
   intro v' hf
   simp only[bA] at hf
   obtain ⟨es',he,rfl⟩:=ach.1 hf
   obtain ⟨h1,h2,h3,h4,h5⟩:=ih es' he
   refine ⟨rfl,rfl,fun us u h=> h,fun us hr=> ?_⟩
   simp only[RC] at hr ⊢
   obtain ⟨ws,k1,k2⟩:=hr
   exact ⟨ws,k1,h5 _ k2⟩
 | iface t v ih=>
   intro v' hf
   simp only[bA] at hf
   obtain ⟨x,he,rfl⟩:=ach.1 hf
   obtain ⟨h1,h2,h3,h4⟩:=ih x he
   refine ⟨rfl,rfl,fun us u h=> h,fun us hr=> ?_⟩
   simp only[RC] at hr ⊢
   obtain ⟨u,us',k1,k2,k3⟩:=hr
   exact ⟨u,us',k1,h4 _ k2,h3 _ _ k3⟩
 | fn f cap ih=> intro v' hf;exact lW hn hf
 | top=> intro v' hf;exact lW hn hf
 | nil=>
   rename_i vs' hf
   simp only[bA.all,Option.some.injEq] at hf
   subst hf
   exact ⟨rfl,rfl,fun x hx=>(by cases hx),fun us h=> by simpa only[cB] using h,fun us h=> by simpa only[RW] using h⟩
 | cons v vs h1 h2=>
   rename_i vs' hf
   simp only[bA.all] at hf
   split at hf
   case h_2=> cases hf
   rename_i x xs hx jm
   cases hf
   obtain ⟨a1,a2,a3,a4⟩:=h1 x hx
   obtain ⟨b1,b2,b3,b4,b5⟩:=h2 xs jm
   refine ⟨by simp[b1],by simp[a1,b2],fun y hy=> ?_,fun us h=> ?_,fun us h=> ?_⟩
   ·rcases acQ.1 hy with rfl | hy
    ·exact ⟨v,adt,a1,a2⟩
    ·obtain ⟨z,hz,DG⟩:=b3 y hy
     exact ⟨z,adB _ hz,DG⟩
   ·simp only[cB] at h ⊢
    obtain ⟨u1,u2,rfl,k1,k2⟩:=h
    exact ⟨u1,u2,rfl,a4 _ k1,b4 _ k2⟩
   ·simp only[RW] at h ⊢
    obtain ⟨u,us',rfl,⟨u1,k1,k2⟩,k3⟩:=h
    exact ⟨u,us',rfl,⟨u1,a4 _ k1,a3 _ _ k2⟩,b5 _ k3⟩
end Go.Vm
