/- An abstract machine for loaded programs, part 2: what it computes is what Go computes. Conditions: none. -/
import Derived.Test.YtggjbepemdhohaaGreatCVa
import Derived.ChangeKeysEq
import Derived.Carry
import Derived.MapKept
import Derived.WideKeyRuns
import Derived.DeepKeys
import Derived.Laws.StructEq
import Derived.Orders
set_option linter.unusedSimpArgs false
set_option linter.unusedVariables false
set_option linter.unusedSectionVars false
namespace Go.Vm
variable {P : Program} {L : cx} {c : Ctx} {h : Hp} {w : World}
theorem jz {k:IntKind}:∀ {es:List V} {a:List Int} {us:List Value},ints k es=some a→cg L c es us→us=a.map (Value.int k)∧a.length=es.length
 | [],a,us,hi,hr=> by
   simp only[ints,Option.some.injEq] at hi
   simp only[cg] at hr
   subst hi;subst hr
   exact ⟨rfl,rfl⟩
 | e::es,a,us,hi,hr=> by
   simp only[cg] at hr
   obtain ⟨u1,u2,rfl,h1,h2⟩:=hr
   unfold ints at hi
   split at hi
   ·rename_i heq;cases heq
   ·rename_i k' n vs heq
    simp only[List.cons.injEq] at heq
    obtain ⟨rfl,rfl⟩:=heq
    split at hi
    ·rename_i hk
     subst hk
     obtain ⟨a',o5,rfl⟩:=abD.1 hi
     obtain ⟨rfl,h3⟩:=jz o5 h2
     simp only[RC] at h1
     rw[h1.1]
     exact ⟨by simp,by simp[h3]⟩
    ·cases hi
   ·cases hi
theorem ic {el:TypeId} {k:IntKind} (bZ:P.underlying el=some (.int k)) (d:Nat) (a b:List Int):∀(m s:Nat),s+m=a.length→s+m=b.length→
 (Op.eqItems (d+1) el 1 (a.map (Value.int k)).toArray (b.map (Value.int k)).toArray (List.range' s m)).run P w= .ok (a.drop s==b.drop s) w
 | 0,s,ha,hb=> by
   simp only[List.range'_zero,Op.eqItems,Sem.run_pure]
   rw[acx (by omega),acx (by omega)];rfl
 | m+1,s,ha,hb=> by
   have px:(part el (a.map (Value.int k)).toArray (s * 1)).run P w= .ok (.int k (a[s]'(by omega))) w:=by
     simp[part,isAgg,run_underlying bZ,show s < a.length by omega]
   have py:(part el (b.map (Value.int k)).toArray (s * 1)).run P w= .ok (.int k (b[s]'(by omega))) w:=by
     simp[part,isAgg,run_underlying bZ,show s < b.length by omega]
   simp only[adH,Op.eqItems,Sem.run_bind,px,py,Result.andThen_ok,run_equalIn_int w d el k k _ _ bZ]
   rw[acJ (show s < a.length by omega),acJ (show s < b.length by omega),List.cons_beq_cons]
   cases hq:(a[s]'(by omega)==b[s]'(by omega))
   ·simp
   ·simp only[acA,abP,if_false,acz]
    exact ic bZ d a b m (s+1) (by omega) (by omega)
theorem JP (hL:L.OK) (hs:bj L c h w) {T t n:Nat} {el:TypeId} {k:IntKind} {g:Option Nat} (hu:P.underlying T=some (.array n el)) (bZ:P.underlying el=some (.int k)) (jE:TG P L el g) (hg:L.aA g=1) (ha:L.arr t=some (n,g)) (hgd:P.eqGuardType P.depth T=false)
 {op:BinOp} {neg:Bool} (ES:(op= .eql∧neg=false)∨(op= .neq∧neg=true)) {X Y:Operand} {x y:V} {ux uy:Value} (hx:RV L c x ux) (hy:RV L c y uy) {v:V} {h':Hp} (ag:tK h t k neg x y=some (v,h')):
 aR L c w ((do eqGuard op T X Y ux uy;binOp op T ux uy:Sem Value).run P w) v h':=by
 unfold tK at ag
 split at ag
 case h_2=> cases ag
 rename_i t1 es t2 fs
 split at ag
 case isFalse=> cases ag
 rename_i hc
 obtain ⟨rfl,rfl⟩:=hc
 split at ag
 case h_2=> cases ag
 rename_i a b ff hib
 obtain ⟨rfl,rfl⟩:=qx ag
 obtain ⟨us,rfl,zo⟩:=(fy rfl).1 hx
 obtain ⟨ws,rfl,mX⟩:=(fy rfl).1 hy
 simp only[RC] at zo mX
 obtain ⟨zo,e1,ha1,_⟩:=zo
 obtain ⟨mX,e2,ha2,_⟩:=mX
 rw[ha] at ha1 ha2
 simp only[Option.some.injEq,Prod.mk.injEq] at ha1 ha2
 obtain ⟨rfl,Gw⟩:=jz ff zo
 obtain ⟨rfl,x9⟩:=jz hib mX
 obtain ⟨i,hi,pI⟩:=jE.info
 have ia:P.cellsOf el=1:=by simp[Program.cellsOf,hi,pI,hg]
 have heq:∀d,(Op.equalIn (d+2) T (.agg (a.map (Value.int k)).toArray) (.agg (b.map (Value.int k)).toArray)).run P w= .ok (a==b) w:=fun d=> by
   rw[run_equalIn_array w (d+1) _ _ hu hi,ia,acV]
   have:=ic (P:=P) (w:=w) bZ d a b n 0 (by omega) (by omega)
   simpa using this
 have ub:=run_eqGuard_agg (P:=P) w op T X Y (a.map (Value.int k)).toArray (b.map (Value.int k)).toArray hgd
 rcases ES with ⟨rfl,rfl⟩ | ⟨rfl,rfl⟩
 ·refine aR.same (u:= .bool (a==b)) ?_ (bB.2 ⟨rfl,rfl⟩) hs
  simp only[Sem.run_bind,ub,Result.andThen_ok,run_eql_struct,heq 9998]
 ·refine aR.same (u:= .bool !(a==b)) ?_ (bB.2 ⟨rfl,rfl⟩) hs
  simp only[Sem.run_bind,ub,Result.andThen_ok,run_neq_struct,heq 9998]
theorem Sh (hL:L.OK) (hs:bj L c h w) {T el:TypeId} {g:Option Nat} {zv:V} (ht:P.underlying T=some (.slice el)) (bZ:TG P L el g) (hz:eH P L el zv) (js:zv.ty=g) (iN:zv.aw=true)
 {ty:TypeId} {x:V} {ux:Value} (hx:RV L c x ux) {base:Nat} {v:V} {h':Hp} (ag:y0 base h g zv x=some (v,h')):
 aR L c w ((Builtin.clear_ #[T] ty #[ux]).run P w) v h':=by
 unfold y0 at ag
 split at ag
 ·rename_i hlen
  simp only[Option.some.injEq,Prod.mk.injEq] at ag
  obtain ⟨rfl,rfl⟩:=ag
  obtain ⟨a,k,rfl,_⟩:=xC hlen hx
  refine aR.same (u:= .tuple #[]) ?_ (cz.2 ⟨[],rfl,trivial⟩) hs
  cases a <;> simp[Builtin.clear_,run_underlying ht]
 ·rename_i n zX hlen
  obtain ⟨⟨v',h2⟩,hcp,he⟩:=abD.1 ag
  simp only[Prod.mk.injEq] at he
  obtain ⟨rfl,rfl⟩:=he
  have abA:n≠0:=fun h0=> by subst h0;exact zX rfl
  unfold copyV at hcp
  split at hcp
  case h_2=> cases hcp
  rename_i id g' off len az
  simp only[eM,Option.some.injEq] at hlen
  subst hlen
  split at hcp
  case h_2=> cases hcp
  rename_i g'' es cw
  split at hcp
  case isFalse=> cases hcp
  rename_i hc
  simp only[Option.some.injEq,Prod.mk.injEq] at hcp
  obtain ⟨rfl,rfl⟩:=hcp
  obtain ⟨_,rfl,rfl,nX,fR⟩:=hc
  obtain ⟨i,z,hi,oQ,nR⟩:=hz
  have hzc:=((nR c).cells iN).1
  have vH:=(nR c).bb hL iN
  rw[js] at vH
  obtain ⟨l,hl,cC,cm,rJ,pA,uX,hb3,cK,us0,ty0,fz0,hg,cG,df,fU⟩:=hs.row cw
  have nW:=(q16z cw).2
  obtain ⟨he,k,rfl,ml,hm⟩:=dI hx hl cC (path:=[]) (o:=0) (e:=l.tag) (m:=none) rfl
  simp only[ab9] at ml hm ⊢
  have Mv:min (List.replicate len zv).length len=len:=by simp
  rw[Mv]
  have cJ:cg L c (List.replicate len zv) ((List.replicate len z.cells.toList).flatten):=eb hzc len
  have j3:∀q∈List.replicate len zv,q.ty=g''∧q.aw=true:=fun q hq=> by rw[aco hq];exact ⟨js,iN⟩
  have nZ:=q8z hL cJ (fun q hq=>(j3 q hq).1)
  simp only[acr] at nZ
  have gC:∀n,n≤l.cap→n * L.aA g''≤us0.size:=fun n hn=> by rw[cG];exact abW _ hn
  have oq:off * L.aA g''+((List.replicate len z.cells.toList).flatten).length≤us0.size:=by rw[nZ,←Nat.add_mul];exact gC _ (by omega)
  have xz:∀q∈(List.replicate len z.cells.toList).flatten,q.oneCell'=true:=du (fun v _=> dR v) (fun v hv=>(j3 v hv).2) _ cJ
  have MQ:(Builtin.zeroCells z.cells len).toList=(List.replicate len z.cells.toList).flatten:=ji z.cells len
  have nj:(storeCells (⟨l.bz,off * L.aA g'',none⟩:Addr) ((Builtin.zeroCells z.cells len).toList)).run P w= .ok () (w.setCells l.bz (off * L.aA g'') ((List.replicate len z.cells.toList).flatten)):=by
    rw[MQ]
    have:=run_storeCells_cells (P:=P) l.bz (off * L.aA g'') ((List.replicate len z.cells.toList).flatten) 0 w (fun j hj=> by rw[q15z hg];simp;omega) (fun j hj=> eG hg df.1 (by omega)) xz
    simpa using this
  have bh:(Builtin.clear_ #[T] ty #[.slice (some ⟨l.bz,off * L.aA g'',none⟩) len k]).run P w= .ok (.tuple #[]) (w.setCells l.bz (off * L.aA g'') ((List.replicate len z.cells.toList).flatten)):=by
    obtain ⟨m,rfl⟩:∃m,len=m+1:=⟨len - 1,by omega⟩
    simp[Builtin.clear_,run_underlying ht,zeroValue,typeInfo,hi,oQ,nj]
  have iV:=m0 hL fU cJ (fun q hq=>(cK q hq).1) (fun q hq=>(j3 q hq).1) (n:=off) (by simp;omega)
  simp only[acr] at iV
  have dQ:(List.replicate len zv).take len=List.replicate len zv:=abG (by simp)
  rw[dQ]
  have xd:(es.take off++List.replicate len zv++es.drop (off+len)).length=es.length:=by simp only[abI,abY,acI,acr];omega
  have Bp:lay (us0.toList.take (es.length * L.aA g'')) (off * L.aA g'') ((List.replicate len z.cells.toList).flatten)=(lay us0.toList (off * L.aA g'') ((List.replicate len z.cells.toList).flatten)).take (es.length * L.aA g''):=
    (m6 _ _ _ _ (by rw[nZ,←Nat.add_mul];exact abW _ (by omega)) (by have:=gC _ hb3;simpa using this)).symm
  rw[Bp] at iV
  obtain ⟨l',dp,dv,hle,xu⟩:=jh hL hs hl cm rJ hg df cG (es':=es.take off++List.replicate len zv++es.drop (off+len)) (fun q hq=> by
    rcases ab6.1 hq with hq | hq
    ·rcases ab6.1 hq with hq | hq
     ·exact cK q (abV hq)
     ·exact j3 q hq
    ·exact cK q (acd hq)) (by omega) (by omega) oq (by rw[xd];exact iV)
  exact ⟨_,_,_,bh,cz.2 ⟨[],rfl,trivial⟩,dv,hle,St.setCells _ _ _ _⟩
 ·cases ag
end Go.Vm
namespace Go.Vm
variable {P : Program} {L : cx} {c : Ctx} {h : Hp} {w : World}
theorem O1 {id:Nat} {u:Value}:RV L c (.mp id) u↔∃b,u= .map (some b)∧id < c.n∧∀l,c.loc id=some l→l.az=0→b=l.bz:=by
 rw[ej rfl]
 simp only[RC,List.cons.injEq,and_true]
theorem nk (hs:bj L c h w) {id cl:Nat} {es:List (V×V×Nat)} {u:Value} (hx:RV L c (.mp id) u) (hg:h[id]? =some (.map es cl)):
 ∃l ms,c.loc id=some l∧u= .map (some l.bz)∧c.z l.bz=none∧l.tag=none∧l.az=0∧w.heap[l.bz]? =some (.map ms cl)∧lM L c es ms.toList:=by
 rcases hs.live id _ hg with ⟨l,hl⟩ | hd
 case inr=> cases hd
 obtain ⟨k,hk,hz,hb⟩:=hs.loc id l hl
 rw[hg] at hk;cases hk
 obtain ⟨h1,h2,ms,h3,h4⟩:=hb
 obtain ⟨b,rfl,_,hb⟩:=O1.1 hx
 rw[hb l hl h2]
 exact ⟨l,ms,hl,rfl,hz,h1,h2,h3,h4⟩
theorem lM.length :∀ {es:List (V×V×Nat)} {ms:List MapEntry},lM L c es ms→es.length=ms.length
 | [],[],_=> rfl
 | e::es,m::ms,h=> by simp[lM.length h.2]
 | [],_::_,h=> h.elim
 | _::_,[],h=> h.elim
theorem lM.nth :∀ {es:List (V×V×Nat)} {ms:List MapEntry} {i:Nat} {e:V×V×Nat},lM L c es ms→es[i]? =some e→∃m,ms[i]? =some m∧RV L c e.1 m.key∧RV L c e.2.1 m.val∧e.2.2=m.born
 | e::es,m::ms,0,x,h,hx=> by cases hx;exact ⟨m,rfl,h.1⟩
 | e::es,m::ms,i+1,x,h,hx=> by
   obtain ⟨m2,h1,h2⟩:=lM.nth (es:=es) (ms:=ms) (i:=i) h.2 hx
   exact ⟨m2,h1,h2⟩
 | [],[],i,x,_,hx=> by simp at hx
 | [],_::_,_,_,h,_=> h.elim
 | _::_,[],_,_,h,_=> h.elim
theorem lM.snoc {k v:V} {b:Nat} {m:MapEntry} (hm:RV L c k m.key∧RV L c v m.val∧b=m.born):∀ {es:List (V×V×Nat)} {ms:List MapEntry},lM L c es ms→lM L c (es++[(k,v,b)]) (ms++[m])
 | [],[],_=>⟨hm,trivial⟩
 | e::es,m'::ms,h=>⟨h.1,lM.snoc hm h.2⟩
 | [],_::_,h=> h.elim
 | _::_,[],h=> h.elim
theorem lM.set {k v:V} {b:Nat} {m:MapEntry} (hm:RV L c k m.key∧RV L c v m.val∧b=m.born):∀ {es:List (V×V×Nat)} {ms:List MapEntry} (i:Nat),lM L c es ms→lM L c (es.set i (k,v,b)) (ms.set i m)
 | [],[],_,_=> trivial
 | e::es,m'::ms,0,h=>⟨hm,h.2⟩
 | e::es,m'::ms,i+1,h=>⟨h.1,lM.set hm i h.2⟩
 | [],_::_,_,h=> h.elim
 | _::_,[],_,h=> h.elim
theorem Si (hs:bj L c h w) (t:TypeId):aR L c w ((Instr.makeMap t none).run P w) (.mp h.length) (h++[.map [] 0]):=by
 have dv:=hs.push (.map #[] 0) (.map [] 0) ⟨w.heap.size,0,none,0⟩ rfl ⟨rfl,rfl,#[],jr,trivial⟩
 have hl:(c.push ⟨w.heap.size,0,none,0⟩).loc h.length=some ⟨w.heap.size,0,none,0⟩:=by simp[Ctx.push,hs.n]
 exact ⟨_,_,_,Go.RowKit.run_makeMap t w,O1.2 ⟨_,rfl,by simp[Ctx.push,hs.n],fun l dp _=> by rw[hl] at dp;cases dp;rfl⟩,dv,c.ir _,St.alloc _ _⟩
theorem nm (hs:bj L c h w) {id cl cl':Nat} {l:Loc} {ms ms':Array MapEntry} {es':List (V×V×Nat)} (hl:c.loc id=some l) (hz:c.z l.bz=none) (cm:l.tag=none) (cC:l.az=0)
 (hg:w.heap[l.bz]? =some (.map ms cl)) (hr:lM L c es' ms'.toList):bj L c (h.set id (.map es' cl')) {w with heap:=w.heap.setIfInBounds l.bz (.map ms' cl')}:=by
 have Ac:c.move id l=c:=by
   cases c with
   | mk z loc n=>
     simp only[Ctx.move]
     congr
     funext j
     by_cases hj:j=id
     ·subst hj;simp only[if_true];exact hl.symm
     ·simp[hj]
 have dv:=hs.move (l':=l) hl (w':= {w with heap:=w.heap.setIfInBounds l.bz (.map ms' cl')}) (.map es' cl') (by rw[Ac];exact Ctx.le_refl c) hz (Or.inl rfl)
   (fun b hb x9=> by simp[adp,ado x9]) (fun o' j4=> by rw[hz] at j4;cases j4)
   ⟨cm,cC,ms',by simp[adp,eF hg],by rw[Ac];exact hr⟩
 rwa [Ac] at dv
theorem pK {T n:Nat} {el:TypeId} {k:IntKind} (hu:P.underlying T=some (.array n el)) (bZ:P.underlying el=some (.int k)) {i:TypeInfo} (hi:P.info? el=some i) (cG:P.cellsOf el=1)
 (a:List Int) (ha:a.length=n) (em:Bool) (d:Nat):(Instr.checkKey em (d+2) T (.agg (a.map (Value.int k)).toArray)).run P w= .ok () w:=by
 rw[Instr.checkKey]
 simp only[Sem.run_bind,run_underlying hu,Result.andThen_ok]
 simp only[Std.Legacy.Range.forIn_eq_forIn_range',Std.Legacy.Range.size,aeA,Nat.add_one_sub_one,ae2]
 have hj:∀j∈List.range' 0 n,j < a.length:=fun j hj=> by rw[List.mem_range'_1] at hj;omega
 generalize List.range' 0 n=is at hj
 induction is with
 | nil=> simp
 | cons j is ih=>
   have h1:=hj j (by simp)
   have p1:=run_part_plain (P:=P) w (e:=el) (by simp[Program.plainKey,bZ]) (xs:=(a.map (Value.int k)).toArray) (off:=j) (v:= .int k a[j]) (by simp[h1])
   have p2:(Instr.checkKey em (d+1) el (.int k a[j])).run P w= .ok () w:=by simp[Instr.checkKey,run_underlying bZ]
   simp only[List.forIn_cons,Sem.run_bind,run_sizeOf w hi,Result.andThen_ok,cG,Nat.mul_one,p1,p2,Sem.run_pure]
   exact ih (fun y hy=> hj y (by simp[hy]))
theorem uc {T n:Nat} {el:TypeId} {k:IntKind} (hu:P.underlying T=some (.array n el)) (bZ:P.underlying el=some (.int k)) (cG:P.cellsOf el=1)
 (a b:List Int) (ha:a.length=n) (hb:b.length=n):(Op.equal T (.agg (a.map (Value.int k)).toArray) (.agg (b.map (Value.int k)).toArray)).run P w= .ok (a==b) w:=by
 obtain ⟨i,hi⟩:=info_of_underlying bZ
 have heq:∀d,(Op.equalIn (d+2) T (.agg (a.map (Value.int k)).toArray) (.agg (b.map (Value.int k)).toArray)).run P w= .ok (a==b) w:=fun d=> by
   rw[run_equalIn_array w (d+1) _ _ hu hi,cG,acV]
   have:=ic (P:=P) (w:=w) bZ d a b n 0 (by omega) (by omega)
   simpa using this
 exact heq _
def wb (P:Program) (L:cx) (kt:TypeId):Option (Nat×IntKind)→Prop
 | none=>∃k,P.underlying kt=some (.int k)
 | some (t,k)=>∃n el,P.underlying kt=some (.array n el)∧P.underlying el=some (.int k)∧P.cellsOf el=1∧L.arr t=some (n,none)
theorem ie {kc:Option (Nat×IntKind)} {x:V}:∀ {es:List (V×V×Nat)} {n:Nat} {q:Nat×V×Nat},iL kc x es n=some (some q)→n≤q.1∧∃e,es[q.1 - n]? =some e∧e.2=q.2∧m9 kc x e.1=some true
 | [],n,q,h=> by simp[iL] at h
 | e::es,n,q,h=> by
   simp only[iL] at h
   split at h
   ·rename_i hk
    simp only[Option.some.injEq] at h
    subst h
    exact ⟨abJ _,e,by simp,rfl,hk⟩
   ·obtain ⟨h1,e',h2,h3⟩:=ie h
    refine ⟨by omega,e',?_,h3⟩
    have:q.1 - n=(q.1 - (n+1))+1:=by omega
    rw[this];exact h2
   ·cases h
def qy (ms:List MapEntry) (n:Nat) (r:Option (Nat×V×Nat)):Option (Nat×Value):=r.bind fun q=>(ms[q.1 - n]?).map fun m=>(q.1,m.val)
theorem xI {k0:IntKind} {x y:V} {ux uy:Value} {b:Bool} (hx:RV L c x ux) (hy:RV L c y uy) (he:m9 none x y=some b):Instr.sameNow (.int k0) ux uy=some b∧∃k a,ux= .int k a:=by
 unfold m9 at he
 split at he
 ·rename_i k a k' a' _
  obtain ⟨rfl,_⟩:=bB.1 hx
  obtain ⟨rfl,_⟩:=bB.1 hy
  split at he
  ·rename_i hk;subst hk
   simp only[Option.some.injEq] at he
   subst he
   exact ⟨by simp[Instr.sameNow],k,a,rfl⟩
  ·cases he
 ·rename_i h1;cases h1
 ·cases he
theorem zp {k0:IntKind} {x:V} {ux:Value} (hx:RV L c x ux):∀ {es:List (V×V×Nat)} {ms:List MapEntry} {n:Nat} {r:Option (Nat×V×Nat)},lM L c es ms→iL none x es n=some r→Instr.findNow (.int k0) ux ms n=some (qy ms n r)
 | [],[],n,r,_,h=> by simp only[iL,Option.some.injEq] at h;subst h;rfl
 | e::es,m::ms,n,r,hr,h=> by
   simp only[iL] at h
   split at h
   ·rename_i hk
    simp only[Option.some.injEq] at h;subst h
    simp[Instr.findNow,(xI (k0:=k0) hx hr.1.1 hk).1,qy]
   ·rename_i hk
    have ih:=zp (k0:=k0) hx hr.2 h
    simp only[Instr.findNow,(xI (k0:=k0) hx hr.1.1 hk).1,ih,Option.some.injEq]
    cases r with
    | none=> rfl
    | some q=>
      have hle:=(ie h).1
      have:q.1 - n=(q.1 - (n+1))+1:=by omega
      simp[qy,this]
   ·cases h
 | [],_::_,_,_,h,_=> h.elim
 | _::_,[],_,_,h,_=> h.elim
theorem sf {t n:Nat} {el:TypeId} {k:IntKind} {kt:TypeId} (hu:P.underlying kt=some (.array n el)) (bZ:P.underlying el=some (.int k)) (cG:P.cellsOf el=1) (ha:L.arr t=some (n,none))
 {x y:V} {ux uy:Value} {b:Bool} (hx:RV L c x ux) (hy:RV L c y uy) (he:m9 (some (t,k)) x y=some b):
 (Op.equal kt ux uy).run P w= .ok b w∧∃a:List Int,a.length=n∧ux= .agg (a.map (Value.int k)).toArray∧∃a':List Int,a'.length=n∧uy= .agg (a'.map (Value.int k)).toArray∧b=(a==a'):=by
 unfold m9 at he
 split at he
 ·rename_i heq;cases heq
 ·rename_i t' k' t1 es t2 fs h1
  cases h1
  split at he
  case isFalse=> cases he
  rename_i hc
  obtain ⟨rfl,rfl⟩:=hc
  split at he
  case h_2=> cases he
  rename_i a a' ff hib
  simp only[Option.some.injEq] at he
  subst he
  obtain ⟨us,rfl,zo⟩:=(fy rfl).1 hx
  obtain ⟨ws,rfl,mX⟩:=(fy rfl).1 hy
  simp only[RC] at zo mX
  obtain ⟨zo,e1,ha1,_⟩:=zo
  obtain ⟨mX,e2,ha2,_⟩:=mX
  rw[ha] at ha1 ha2
  simp only[Option.some.injEq,Prod.mk.injEq] at ha1 ha2
  obtain ⟨rfl,Gw⟩:=jz ff zo
  obtain ⟨rfl,x9⟩:=jz hib mX
  exact ⟨uc hu bZ cG a a' (by omega) (by omega),a,by omega,rfl,a',by omega,rfl,rfl⟩
 ·cases he
theorem zq {t n:Nat} {el:TypeId} {k:IntKind} {kt:TypeId} (hu:P.underlying kt=some (.array n el)) (bZ:P.underlying el=some (.int k)) (cG:P.cellsOf el=1) (ha:L.arr t=some (n,none))
 {x:V} {ux:Value} (hx:RV L c x ux):∀ {es:List (V×V×Nat)} {ms:List MapEntry} {m:Nat} {r:Option (Nat×V×Nat)},lM L c es ms→iL (some (t,k)) x es m=some r→(Instr.findAsking kt ux ms m).run P w= .ok (qy ms m r) w
 | [],[],m,r,_,h=> by simp only[iL,Option.some.injEq] at h;subst h;simp[Instr.findAsking,qy]
 | e::es,m'::ms,m,r,hr,h=> by
   simp only[iL] at h
   split at h
   ·rename_i hk
    simp only[Option.some.injEq] at h;subst h
    simp[Instr.findAsking,(sf (w:=w) hu bZ cG ha hx hr.1.1 hk).1,qy]
   ·rename_i hk
    have ih:=zq hu bZ cG ha hx hr.2 h
    simp only[Instr.findAsking,Sem.run_bind,(sf (w:=w) hu bZ cG ha hx hr.1.1 hk).1,Result.andThen_ok,abP,if_false,ih]
    congr 1
    cases r with
    | none=> rfl
    | some q=>
      have hle:=(ie h).1
      have:q.1 - m=(q.1 - (m+1))+1:=by omega
      simp[qy,this]
   ·cases h
 | [],_::_,_,_,h,_=> h.elim
 | _::_,[],_,_,h,_=> h.elim
theorem MR {kt:TypeId} {k0 k:IntKind} {a:Int} (hu:P.underlying kt=some (.int k0)) (em:Bool) (n:Nat):(Instr.checkKey em (n+1) kt (.int k a)).run P w= .ok () w:=by simp[Instr.checkKey,run_underlying hu]
theorem ud {kt:TypeId} {kc:Option (Nat×IntKind)} (hk:wb P L kt kc) {x:V} {ux:Value} (hx:RV L c x ux) {es:List (V×V×Nat)} {ms:List MapEntry} {r:Option (Nat×V×Nat)} (hr:lM L c es ms) (hf:pF kc x es=some r):
 (∀em,(Instr.checkKey em 10000 kt ux).run P w= .ok () w)∧(Instr.findKey kt ux ms).run P w= .ok (qy ms 0 r) w:=by
 unfold pF at hf
 split at hf
 case isFalse=> cases hf
 rename_i hs
 cases kc with
 | none=>
   obtain ⟨k0,hu⟩:=hk
   obtain ⟨_,k,a,rfl⟩:=xI (k0:=k0) hx hx hs
   exact ⟨fun em=> MR hu em 9999,MapKept.run_findKey hu (zp hx hr hf)⟩
 | some q=>
   obtain ⟨t,k⟩:=q
   obtain ⟨n,el,hu,bZ,cG,ha⟩:=hk
   obtain ⟨_,a,Gw,rfl,_⟩:=sf (w:=w) hu bZ cG ha hx hx hs
   obtain ⟨i,hi⟩:=info_of_underlying bZ
   exact ⟨fun em=> pK hu bZ hi cG a Gw em 9998,by rw[run_findKey_eq w (by rw[hu])];exact zq hu bZ cG ha hx hr hf⟩
theorem qz {es:List (V×V×Nat)} {ms:List MapEntry} {kc:Option (Nat×IntKind)} {x:V} {q:Nat×V×Nat} (hr:lM L c es ms) (h:iL kc x es 0=some (some q)):
 ∃m,ms[q.1]? =some m∧RV L c q.2.1 m.val∧q.2.2=m.born∧qy ms 0 (some q)=some (q.1,m.val):=by
 obtain ⟨_,e,h1,h2,_⟩:=ie h
 rw[aeA] at h1
 obtain ⟨m,h3,_,h4,h5⟩:=lM.nth hr h1
 exact ⟨m,h3,by rw[←h2];exact h4,by rw[←h2];exact h5,by simp[qy,h3]⟩
theorem jA {kc:Option (Nat×IntKind)} {x:V} {es:List (V×V×Nat)} {r:Option (Nat×V×Nat)} (h:pF kc x es=some r):iL kc x es 0=some r:=by
 unfold pF at h
 split at h
 ·exact h
 ·cases h
theorem Sj (hs:bj L c h w) {T kt et:TypeId} {kc:Option (Nat×IntKind)} (hm:P.underlying T=some (.map kt et)) (hk:wb P L kt kc) {ok:Bool} {zv:V} (hz:eH P L et zv) {x y:V} {ux uy:Value} (hx:RV L c x ux) (hy:RV L c y uy)
 {v:V} {h':Hp} (ag:y6 h kc ok zv x y=some (v,h')):aR L c w ((Instr.lookup T ux uy ok).run P w) v h':=by
 unfold y6 at ag
 split at ag
 case h_2=> cases ag
 rename_i id
 split at ag
 case h_2=> cases ag
 rename_i es cl hg
 obtain ⟨r,hf,he⟩:=abD.1 ag
 simp only[Prod.mk.injEq] at he
 obtain ⟨rfl,rfl⟩:=he
 obtain ⟨l,ms,hl,rfl,Df,cm,cC,h3,hr⟩:=nk hs hx hg
 obtain ⟨hck,Af⟩:=ud (w:=w) hk hy hr hf
 obtain ⟨i,z,hi,oQ,nR⟩:=hz
 have hzv:(zeroValue et).run P w= .ok z w:=by simp[zeroValue,typeInfo,hi,oQ]
 have kf:=MapKept.run_getObj_map (P:=P) h3
 cases r with
 | none=>
   have Gv:qy ms.toList 0 none=none:=rfl
   rw[Gv] at Af
   refine aR.same (u:=if ok then .tuple #[z,.bool false] else z) ?_ ?_ hs
   ·simp only[Instr.lookup,Sem.run_bind,run_underlying hm,Result.andThen_ok,kf,Sem.run_pure,hck,Af,hzv]
   ·cases ok
    ·exact nR c
    ·exact cz.2 ⟨[z,.bool false],rfl,nR c,bB.2 ⟨rfl,rfl⟩,trivial⟩
 | some q=>
   obtain ⟨m,qO,qM,hm3,hm4⟩:=qz hr (jA hf)
   rw[hm4] at Af
   refine aR.same (u:=if ok then .tuple #[m.val,.bool true] else m.val) ?_ ?_ hs
   ·simp only[Instr.lookup,Sem.run_bind,run_underlying hm,Result.andThen_ok,kf,Sem.run_pure,hck,Af]
   ·cases ok
    ·exact qM
    ·exact cz.2 ⟨[m.val,.bool true],rfl,qM,bB.2 ⟨rfl,rfl⟩,trivial⟩
theorem wc (k:IntKind):∀(d:Nat) (a:List Int),((a.map (Value.int k)).zip (a.map (Value.int k))).all (fun p=> Instr.sameBits d p.1 p.2)=true
 | d,[]=> rfl
 | d,x::a=> by
   simp only[abR,List.zip_cons_cons,ae6,wc k d a,acT]
   cases d <;> simp[Instr.sameBits]
theorem zr {kt:TypeId} {kc:Option (Nat×IntKind)} (hk:wb P L kt kc) {x y:V} {ux uy:Value} (hx:RV L c x ux) (hy:RV L c y uy) (he:m9 kc x y=some true):uy=ux∧(Instr.keyThatStays uy ux).run P w= .ok ux w:=by
 have key:∀u:Value,Instr.sameBits 10000 u u=true→(Instr.keyThatStays u u).run P w= .ok u w:=fun u hu=> by
   simp only[Instr.keyThatStays,hu,if_true,Sem.run_pure]
 cases kc with
 | none=>
   obtain ⟨k0,hu⟩:=hk
   unfold m9 at he
   split at he
   ·rename_i k a k' a' _
    obtain ⟨rfl,_⟩:=bB.1 hx
    obtain ⟨rfl,_⟩:=bB.1 hy
    split at he
    ·rename_i hkk;subst hkk
     have:a=a':=by simpa using he
     subst this
     exact ⟨rfl,key _ (by show Instr.sameBits (9999+1) _ _=true;simp[Instr.sameBits])⟩
    ·cases he
   ·rename_i h1;cases h1
   ·cases he
 | some q=>
   obtain ⟨t,k⟩:=q
   obtain ⟨n,el,hu,bZ,cG,ha⟩:=hk
   obtain ⟨_,a,Gw,rfl,a',abB,rfl,hb⟩:=sf (w:=w) hu bZ cG ha hx hy he
   have:a=a':=by simpa using hb.symm
   subst this
   refine ⟨rfl,key _ ?_⟩
   show Instr.sameBits (9999+1) _ _=true
   simp only[Instr.sameBits,beq_self_eq_true,acz]
   exact wc k 9999 a
theorem oV {ms:Array MapEntry} {i:Nat} {m:MapEntry} {f:MapEntry→MapEntry} (h:ms.toList[i]? =some m):(ms.modify i f).toList=ms.toList.set i (f m):=by
 rw[Array.toList_modify]
 apply acB
 intro j
 have cF:=(abF.1 h).1
 rw[List.getElem?_modify,acs]
 by_cases c:i=j
 ·subst c;rw[if_pos rfl,if_pos cF,h];simp
 ·rw[if_neg c];simp[c]
theorem St.heap (w:World) (i:Nat) (o:Obj):St w {w with heap:=w.heap.setIfInBounds i o}:=⟨rfl,rfl,rfl,by simp⟩
theorem JQ (hs:bj L c h w) {T kt et:TypeId} {kc:Option (Nat×IntKind)} (hm:P.underlying T=some (.map kt et)) (hk:wb P L kt kc) {g:Option Nat} {x y z:V} {ux uy uz:Value} (hx:RV L c x ux) (hy:RV L c y uy) (hz:RV L c z uz)
 {base:Nat} {v:V} {h':Hp} (ag:y7 base h kc g x y z=some (v,h')):∃w',(Instr.mapUpdate T ux uy uz).run P w= .ok () w'∧v= .bM []∧bj L c h' w'∧St w w':=by
 unfold y7 at ag
 split at ag
 case h_2=> cases ag
 rename_i id
 split at ag
 case isFalse=> cases ag
 split at ag
 case h_2=> cases ag
 rename_i es cl hg
 obtain ⟨r,hf,he⟩:=abD.1 ag
 obtain ⟨l,ms,hl,rfl,Df,cm,cC,h3,hr⟩:=nk hs hx hg
 obtain ⟨hck,Af⟩:=ud (w:=w) hk hy hr hf
 have kf:=MapKept.run_getObj_map (P:=P) h3
 have p8:=fun o=> MapKept.run_setObj_map (P:=P) o h3
 cases r with
 | none=>
   cases he
   have Gv:qy ms.toList 0 none=none:=rfl
   rw[Gv] at Af
   refine ⟨_,?_,rfl,nm hs hl Df cm cC h3 (ms':=ms.push ⟨uy,uz,cl⟩) (by rw[Array.toList_push];exact lM.snoc (m:=⟨uy,uz,cl⟩) ⟨hy,hz,rfl⟩ hr),St.heap _ _ _⟩
   simp only[Instr.mapUpdate,Sem.run_bind,run_underlying hm,Result.andThen_ok,kf,hck,Af,p8]
 | some q=>
   obtain ⟨i,v0,b⟩:=q
   cases he
   obtain ⟨m,qO,qM,hm3,hm4⟩:=qz hr (jA hf)
   rw[hm4] at Af
   simp only at qO hm3 Af
   obtain ⟨_,e,q1,q2,q3⟩:=ie (jA hf)
   simp only[aeA] at q1
   obtain ⟨m',JR,JS,_,_⟩:=lM.nth hr q1
   rw[qO] at JR;cases JR
   obtain ⟨xf,ba⟩:=zr (w:=w) hk hy JS q3
   have hmi:ms[i]? =some m:=by rw[←Array.getElem?_toList];exact qO
   refine ⟨_,?_,rfl,nm hs hl Df cm cC h3 (ms':=ms.modify i fun e=> {e with key:=uy,val:=uz}) (by rw[oV qO];exact lM.set (m:= {m with key:=uy,val:=uz}) ⟨hy,hz,hm3⟩ i hr),St.heap _ _ _⟩
   simp only[Instr.mapUpdate,Sem.run_bind,run_underlying hm,Result.andThen_ok,kf,hck,Af,hmi,ab5,ace,ba,p8]
theorem Sk (hs:bj L c h w) {T kt et:TypeId} {kc:Option (Nat×IntKind)} (hm:P.underlying T=some (.map kt et)) (hk:wb P L kt kc) {zv:V} (hz:eH P L et zv) {x y:V} {ux uy:Value} (hx:RV L c x ux) (hy:RV L c y uy)
 {base:Nat} {v:V} {h':Hp} (ag:y9 base h kc zv x y=some (v,h')):aR L c w ((Instr.mapEntry T ux uy).run P w) v h':=by
 unfold y9 at ag
 split at ag
 case h_2=> cases ag
 rename_i id
 split at ag
 case isFalse=> cases ag
 split at ag
 case h_2=> cases ag
 rename_i es cl hg
 obtain ⟨r,hf,he⟩:=abD.1 ag
 obtain ⟨l,ms,hl,rfl,Df,cm,cC,h3,hr⟩:=nk hs hx hg
 obtain ⟨hck,Af⟩:=ud (w:=w) hk hy hr hf
 have kf:=MapKept.run_getObj_map (P:=P) h3
 have p8:=fun o=> MapKept.run_setObj_map (P:=P) o h3
 obtain ⟨i0,z,hi,oQ,nR⟩:=hz
 have hzv:(zeroValue et).run P w= .ok z w:=by simp[zeroValue,typeInfo,hi,oQ]
 cases r with
 | none=>
   cases he
   have Gv:qy ms.toList 0 none=none:=rfl
   rw[Gv] at Af
   refine ⟨.tuple #[z,goInt cl],c,_,?_,cz.2 ⟨[z,goInt cl],rfl,nR c,bB.2 ⟨rfl,rfl⟩,trivial⟩,nm hs hl Df cm cC h3 (ms':=ms.push ⟨uy,z,cl⟩) (by rw[Array.toList_push];exact lM.snoc (m:=⟨uy,z,cl⟩) ⟨hy,nR c,rfl⟩ hr),Ctx.le_refl c,St.heap _ _ _⟩
   simp only[Instr.mapEntry,Sem.run_bind,run_underlying hm,Result.andThen_ok,kf,hck,Af,hzv,p8,Sem.run_pure]
 | some q=>
   obtain ⟨i,v0,b⟩:=q
   cases he
   obtain ⟨m,qO,qM,hm3,hm4⟩:=qz hr (jA hf)
   rw[hm4] at Af
   simp only at qO qM hm3 Af
   obtain ⟨_,e,q1,q2,q3⟩:=ie (jA hf)
   simp only[aeA] at q1
   obtain ⟨m',JR,JS,_,_⟩:=lM.nth hr q1
   rw[qO] at JR;cases JR
   obtain ⟨xf,ba⟩:=zr (w:=w) hk hy JS q3
   have hmi:ms[i]? =some m:=by rw[←Array.getElem?_toList];exact qO
   refine ⟨.tuple #[m.val,goInt m.born],c,_,?_,cz.2 ⟨[m.val,goInt m.born],rfl,qM,bB.2 ⟨by rw[hm3];rfl,rfl⟩,trivial⟩,nm hs hl Df cm cC h3 (ms':=ms.modify i fun e=> {e with key:=uy}) (by rw[oV qO];exact lM.set (m:= {m with key:=uy}) ⟨hy,qM,hm3⟩ i hr),Ctx.le_refl c,St.heap _ _ _⟩
   simp only[Instr.mapEntry,Sem.run_bind,run_underlying hm,Result.andThen_ok,kf,hck,Af,hmi,ab5,ace,ba,p8,Sem.run_pure]
theorem Sl (hs:bj L c h w) {T kt et:TypeId} (hm:P.underlying T=some (.map kt et)) {ty:TypeId} {x:V} {ux:Value} (hx:RV L c x ux) {v:V} {h':Hp} (ag:zd h x=some (v,h')):aR L c w ((Builtin.len_ #[T] ty #[ux]).run P w) v h':=by
 unfold zd at ag
 split at ag
 case h_2=> cases ag
 rename_i id
 split at ag
 case h_2=> cases ag
 rename_i es cl hg
 simp only[Option.some.injEq,Prod.mk.injEq] at ag
 obtain ⟨rfl,rfl⟩:=ag
 obtain ⟨l,ms,hl,rfl,Df,cm,cC,h3,hr⟩:=nk hs hx hg
 have kf:=MapKept.run_getObj_map (P:=P) h3
 have hlen:es.length=ms.size:=by rw[lM.length hr];simp
 refine aR.same (u:=goInt es.length) ?_ (bB.2 ⟨rfl,rfl⟩) hs
 simp[Builtin.len_,underlying,hm,goInt,kf,hlen]
theorem we {n:Int} {v:V} {u:Value} (hv:RV L c v u):∀ {es es':List (V×V×Nat)} {ms:List MapEntry},lM L c es ms→za n v es=some es'→∃i m,ms.findIdx? (fun e=>(e.born:Int)==n)=some i∧ms[i]? =some m∧lM L c es' (ms.set i {m with val:=u})
 | [],es',[],_,h=> by simp[za] at h
 | e::es,es',m::ms,hr,h=> by
   simp only[za] at h
   split at h
   ·rename_i hn
    cases h
    refine ⟨0,m,?_,rfl,⟨hr.1.1,hv,hr.1.2.2⟩,hr.2⟩
    rw[List.findIdx?_cons,if_pos]
    rw[←hr.1.2.2];simpa using hn
   ·rename_i hn
    obtain ⟨q,hq,rfl⟩:=abD.1 h
    obtain ⟨i,m',h1,h2,h3⟩:=we hv hr.2 hq
    refine ⟨i+1,m',?_,h2,hr.1,h3⟩
    rw[List.findIdx?_cons,if_neg,h1]
    ·rfl
    ·rw[←hr.1.2.2];simpa using hn
 | [],_,_::_,h,_=> h.elim
 | _::_,_,[],h,_=> h.elim
theorem Sm (hs:bj L c h w) {T:TypeId} {g:Option Nat} {x y z:V} {ux uy uz:Value} (hx:RV L c x ux) (hy:RV L c y uy) (hz:RV L c z uz)
 {base:Nat} {v:V} {h':Hp} (ag:zb base h g x y z=some (v,h')):∃w',(Instr.entryStore T ux uy uz).run P w= .ok () w'∧v= .bM []∧bj L c h' w'∧St w w':=by
 unfold zb at ag
 split at ag
 case h_2=> cases ag
 rename_i id k n
 split at ag
 case isFalse=> cases ag
 split at ag
 case h_2=> cases ag
 rename_i es cl hg
 obtain ⟨es',hf,he⟩:=abD.1 ag
 cases he
 obtain ⟨l,ms,hl,rfl,Df,cm,cC,h3,hr⟩:=nk hs hx hg
 obtain ⟨rfl,_⟩:=bB.1 hy
 have kf:=MapKept.run_getObj_map (P:=P) h3
 have p8:=fun o=> MapKept.run_setObj_map (P:=P) o h3
 obtain ⟨i,m,h1,h2,h4⟩:=we hz hr hf
 have h1':ms.findIdx? (fun e=>(e.born:Int)==n)=some i:=by have:=h1;cases ms;simpa using this
 refine ⟨_,?_,rfl,nm hs hl Df cm cC h3 (ms':=ms.modify i fun e=> {e with val:=uz}) (by rw[oV h2];exact h4),St.heap _ _ _⟩
 simp only[Instr.entryStore,Sem.run_bind,kf,Result.andThen_ok,asInt,asIntOf,Sem.run_pure,h1',p8]
end Go.Vm
namespace Go.Vm
variable {P : Program} {L : cx} {c : Ctx} {h : Hp} {w : World}
def LK.lit :LK→Value→Option Lit
 | .i k,.int q n=> if q=k∧(Lit.int k n).wf=true then some (.int k n) else none
 | .b,.bool c=> some (.bool c)
 | .s,.string x=> if x.size≤maxLen then some (.string x.data.toList) else none
 | _,_=> none
def dh :List LK→List Value→Option (List Lit)
 | [],[]=> some []
 | k::ks,v::vs=> match k.lit v,dh ks vs with | some a,some b=> some (a::b) | _,_=> none
 | _,_=> none
theorem ET {k:LK} {v:Value} (h:JC k v=true):∃a,k.lit v=some a:=by
 unfold JC at h
 split at h
 ·rename_i k q n
  obtain ⟨h1,h2,h3⟩:=of_decide_eq_true h
  exact ⟨_,by simp only[LK.lit];exact if_pos ⟨h1,by simp[Lit.wf,h2,h3]⟩⟩
 ·exact ⟨_,rfl⟩
 ·rename_i s
  have:=of_decide_eq_true h
  have hm:140737488351232≤maxLen:=by decide
  exact ⟨_,by simp only[LK.lit];exact if_pos (acm this hm)⟩
 ·cases h
theorem nn :∀ {ks:List LK} {vs:List Value},tL ks vs=true→∃as,dh ks vs=some as
 | [],[],_=>⟨[],rfl⟩
 | k::ks,v::vs,h=> by
   simp only[tL,abH] at h
   obtain ⟨a,ha⟩:=ET h.1
   obtain ⟨as,has⟩:=nn h.2
   exact ⟨a::as,by simp only[dh,ha,has]⟩
 | [],_::_,h=> by cases h
 | _::_,[],h=> by cases h
theorem Bv {k:LK} {u v:Value} {a b:Lit} (ha:k.lit u=some a) (hb:k.lit v=some b):tM u v=true↔a=b:=by
 cases k with
 | i k=>
   cases u <;> simp only[LK.lit] at ha <;> first | (cases ha;done) | skip
   cases v <;> simp only[LK.lit] at hb <;> first | (cases hb;done) | skip
   split at ha <;> first | (cases ha;done) | skip
   split at hb <;> first | (cases hb;done) | skip
   cases ha;cases hb
   simp[tM]
 | b=>
   cases u <;> simp only[LK.lit] at ha <;> first | (cases ha;done) | skip
   cases v <;> simp only[LK.lit] at hb <;> first | (cases hb;done) | skip
   cases ha;cases hb
   simp[tM]
 | s=>
   cases u <;> simp only[LK.lit] at ha <;> first | (cases ha;done) | skip
   cases v <;> simp only[LK.lit] at hb <;> first | (cases hb;done) | skip
   split at ha <;> first | (cases ha;done) | skip
   split at hb <;> first | (cases hb;done) | skip
   cases ha;cases hb
   simp[tM]
theorem oy :∀ {ks:List LK} {us vs:List Value} {as bs:List Lit},dh ks us=some as→dh ks vs=some bs→(gu us vs=true↔as=bs)
 | [],[],[],as,bs,ha,hb=> by cases ha;cases hb;simp[gu]
 | k::ks,u::us,v::vs,as,bs,ha,hb=> by
   simp only[dh] at ha hb
   split at ha
   case h_2=> cases ha
   rename_i a as' h1 h2
   split at hb
   case h_2=> cases hb
   rename_i b bs' h3 h4
   cases ha;cases hb
   simp only[gu,abH,List.cons.injEq,Bv h1 h3,oy h2 h4]
 | [],[],_::_,_,_,_,hb=> by cases hb
 | [],_::_,_,_,_,ha,_=> by cases ha
 | _::_,[],_,_,_,ha,_=> by cases ha
 | _::_,_::_,[],_,_,_,hb=> by cases hb
theorem kg :∀ {a b:List LK} {us:List Value} {l:List Lit},dh (a++b) us=some l→∃l1 l2,l=l1++l2∧dh a (us.take a.length)=some l1∧dh b (us.drop a.length)=some l2
 | [],b,us,l,h=>⟨[],l,rfl,by simp[dh],by simpa using h⟩
 | k::a,b,[],l,h=> by cases h
 | k::a,b,u::us,l,h=> by
   simp only[acu,dh] at h
   split at h
   case h_2=> cases h
   rename_i x xs h1 h2
   cases h
   obtain ⟨l1,l2,rfl,h3,h4⟩:=kg h2
   exact ⟨x::l1,l2,rfl,by simp only[ab3,adb,dh,h1,h3],by simpa using h4⟩
theorem lQ :∀ {ks:List LK} {us:List Value} {l:List Lit},dh ks us=some l→us.length=ks.length
 | [],[],_,_=> rfl
 | k::ks,u::us,l,h=> by
   simp only[dh] at h
   split at h
   case h_2=> cases h
   rename_i h1 h2
   simp[lQ h2]
 | [],_::_,_,h=> by cases h
 | _::_,[],_,h=> by cases h
def sg (f:TypeId→Option (List LK)) (P:Program):List Field→Nat→Option (List LK)
 | [],_=> some []
 | x::xs,off=> match f x.type,sg f P xs (off+P.cellsOf x.type) with
   | some a,some b=> if x.offset=off∧a.length=P.cellsOf x.type∧x.name≠ "_" then some (a++b) else none
   | _,_=> none
def jb (P:Program):Nat→TypeId→Option (List LK)
 | 0,_=> none
 | d+1,t=> match P.underlying t with
   | some .bool=> some [.b]
   | some (.int k)=> some [.i k]
   | some .string=> some [.s]
   | some (.array n e)=> match jb P d e with
     | some a=> if a.length=P.cellsOf e∧n * a.length=P.cellsOf t then some (List.replicate n a).flatten else none
     | none=> none
   | some (.struct fs)=> match sg (jb P d) P fs.toList 0 with
     | some a=> if a.length=P.cellsOf t then some a else none
     | none=> none
   | _=> none
theorem ue {d e sz:Nat} {a:List LK} {us:List Value} (ih:∀us l,dh a us=some l→P.keyLits d e us=some l) (cG:a.length=sz):∀(n s:Nat) (l:List Lit),dh (List.replicate n a).flatten (us.drop (s * sz))=some l→
 ∃ls,(List.range' s n).mapM (fun i=> P.keyLits d e ((us.drop (i * sz)).take sz))=some ls∧ls.flatten=l
 | 0,s,l,h=> by
   refine ⟨[],by simp,?_⟩
   simp only[aen,aei] at h
   cases hu:us.drop (s * sz) with
   | nil=> rw[hu] at h;cases h;rfl
   | cons x xs=> rw[hu] at h;cases h
 | n+1,s,l,h=> by
   rw[ads,ada] at h
   obtain ⟨l1,l2,rfl,h1,h2⟩:=kg h
   rw[cG] at h1 h2
   rw[acy] at h2
   obtain ⟨ls,h3,h4⟩:=ue ih cG n (s+1) l2 (by rw[acR,aec];exact h2)
   refine ⟨l1::ls,?_,by rw[ada,h4]⟩
   rw[adH,ade,ih _ _ h1]
   simp only[Option.bind_eq_bind,ac3,h3]
   rfl
theorem rj {d:Nat} {us:List Value} (ih:∀t ks us l,jb P d t=some ks→dh ks us=some l→P.keyLits d t us=some l):∀(fs:List Field) (off:Nat) (ks:List LK) (l:List Lit),sg (jb P d) P fs off=some ks→dh ks (us.drop off)=some l→
 (fs.all fun f=> f.name != "_")=true∧∃ls,fs.mapM (fun f=> P.keyLits d f.type ((us.drop f.offset).take (P.cellsOf f.type)))=some ls∧ls.flatten=l
 | [],off,ks,l,h1,h2=> by
   cases h1
   refine ⟨rfl,[],by simp,?_⟩
   cases hu:us.drop off with
   | nil=> rw[hu] at h2;cases h2;rfl
   | cons x xs=> rw[hu] at h2;cases h2
 | f::fs,off,ks,l,h1,h2=> by
   simp only[sg] at h1
   split at h1
   case h_2=> cases h1
   rename_i a b h3 h4
   split at h1
   case isFalse=> cases h1
   rename_i hc
   obtain ⟨rfl,hl,hn⟩:=hc
   cases h1
   obtain ⟨l1,l2,rfl,h5,h6⟩:=kg h2
   rw[hl] at h5 h6
   rw[acy] at h6
   obtain ⟨h7,ls,h8,h9⟩:=rj ih fs _ b l2 h4 h6
   refine ⟨by simp[hn];simpa using h7,l1::ls,?_,by rw[ada,h9]⟩
   rw[ade,ih _ _ _ _ h3 h5]
   simp only[Option.bind_eq_bind,ac3,h8]
   rfl
theorem lR :∀(d:Nat) (t:TypeId) (ks:List LK) (us:List Value) (l:List Lit),jb P d t=some ks→dh ks us=some l→P.keyLits d t us=some l
 | 0,t,ks,us,l,h,_=> by cases h
 | d+1,t,ks,us,l,h,hl=> by
   have one:∀k:LK,dh [k] us=some l→∃u a,us=[u]∧k.lit u=some a∧l=[a]:=by
     intro k hk
     cases us with
     | nil=> cases hk
     | cons u us=>
       simp only[dh] at hk
       split at hk
       case h_2=> cases hk
       rename_i a b h1 h2
       cases us with
       | nil=> cases h2;cases hk;exact ⟨u,a,rfl,h1,rfl⟩
       | cons _ _=> cases h2
   simp only[jb] at h
   split at h
   ·rename_i hu;cases h
    obtain ⟨u,a,rfl,h1,rfl⟩:=one _ hl
    cases u <;> simp only[LK.lit] at h1 <;> first | (cases h1;done) | skip
    cases h1
    simp[Program.keyLits,hu]
   ·rename_i k hu;cases h
    obtain ⟨u,a,rfl,h1,rfl⟩:=one _ hl
    cases u <;> simp only[LK.lit] at h1 <;> first | (cases h1;done) | skip
    split at h1 <;> first | (cases h1;done) | skip
    rename_i hc
    obtain ⟨rfl,hc⟩:=hc
    cases h1
    simp[Program.keyLits,hu,hc]
   ·rename_i hu;cases h
    obtain ⟨u,a,rfl,h1,rfl⟩:=one _ hl
    cases u <;> simp only[LK.lit] at h1 <;> first | (cases h1;done) | skip
    split at h1 <;> first | (cases h1;done) | skip
    rename_i hc
    cases h1
    simp[Program.keyLits,hu,hc]
   ·rename_i n e hu
    split at h
    case h_2=> cases h
    rename_i a ha
    split at h
    case isFalse=> cases h
    rename_i hc
    cases h
    obtain ⟨ls,h1,h2⟩:=ue (P:=P) (d:=d) (e:=e) (us:=us) (fun us l hl=> lR d e a us l ha hl) hc.1 n 0 l (by simpa using hl)
    have hlen:us.length=P.cellsOf t:=by
      rw[lQ hl,←hc.2];simp[List.length_flatten]
    simp only[Program.keyLits,hu,hlen,if_true,acV,h1,ab5,h2]
   ·rename_i fs hu
    split at h
    case h_2=> cases h
    rename_i a ha
    split at h
    case isFalse=> cases h
    rename_i hc
    cases h
    obtain ⟨h0,ls,h1,h2⟩:=rj (P:=P) (d:=d) (us:=us) (fun t ks us l=> lR d t ks us l) fs.toList 0 ks l ha (by simpa using hl)
    have hlen:us.length=P.cellsOf t:=by rw[lQ hl,hc]
    have h0':fs.all (fun f=> f.name != "_")=true:=by rw[←Array.all_toList];exact h0
    simp only[Program.keyLits,hu,hlen,h0',and_self,if_true,h1,ab5,h2]
   ·cases h
theorem uf :∀(v:V) (xs us:List Value),v.flat=some xs→RC L c v us→us=xs:=by
 intro v
 induction v using V.rec (motive_2:=fun vs=>∀xs us,V.flat.all vs=some xs→cg L c vs us→us=xs) with
 | s x=> intro xs us h hr;simp only[V.flat] at h;cases h;simp only[RC] at hr;exact hr.1
 | st t fs ih=> intro xs us h hr;simp only[V.flat] at h;simp only[RC] at hr;exact ih _ _ h hr.1
 | arr t fs ih=> intro xs us h hr;simp only[V.flat] at h;simp only[RC] at hr;exact ih _ _ h hr.1
 | nil=> rename_i xs us h hr;simp only[V.flat.all] at h;cases h;simpa only[cg] using hr
 | cons v vs ih ihs=>
   rename_i xs us h hr
   simp only[V.flat.all] at h
   split at h
   case h_2=> cases h
   rename_i a b h1 h2
   cases h
   simp only[cg] at hr
   obtain ⟨u1,u2,rfl,h3,h4⟩:=hr
   rw[ih _ _ h1 h3,ihs _ _ h2 h4]
 | _=> intro xs us h hr;simp[V.flat] at h
theorem JT (hs:bj L c h w) {T t m:Nat} {fs:Array Field} {ks:List LK} (hm:m≤10000) (hu:P.underlying T=some (.struct fs)) (hk:P.keyTypeAt m T=true) (yp:jb P m T=some ks) (hgd:P.eqGuardType P.depth T=false)
 {op:BinOp} {neg:Bool} (ES:(op= .eql∧neg=false)∨(op= .neq∧neg=true)) {X Y:Operand} {x y:V} {ux uy:Value} (hx:RV L c x ux) (hy:RV L c y uy) {v:V} {h':Hp} (ag:vI h t ks neg x y=some (v,h')):
 aR L c w ((do eqGuard op T X Y ux uy;binOp op T ux uy:Sem Value).run P w) v h':=by
 unfold vI at ag
 split at ag
 case h_2=> cases ag
 rename_i t1 es t2 gs
 split at ag
 case isFalse=> cases ag
 rename_i hc
 obtain ⟨rfl,rfl⟩:=hc
 split at ag
 case h_2=> cases ag
 rename_i as bs ff hib
 split at ag
 case isFalse=> cases ag
 rename_i hl
 obtain ⟨rfl,rfl⟩:=qx ag
 obtain ⟨us,rfl,zo⟩:=(fy rfl).1 hx
 obtain ⟨ws,rfl,mX⟩:=(fy rfl).1 hy
 obtain rfl:=uf (.st t2 es) _ _ (by simpa only[V.flat] using ff) zo
 obtain rfl:=uf (.st t2 gs) _ _ (by simpa only[V.flat] using hib) mX
 obtain ⟨la,hla⟩:=nn hl.1
 obtain ⟨lb,hlb⟩:=nn hl.2
 have ka:=lR m T ks _ _ yp hla
 have kb:=lR m T ks _ _ yp hlb
 have hlen:ks.length=P.cellsOf T:=by
   cases m with
   | zero=> cases yp
   | succ m=>
     simp only[jb,hu] at yp
     split at yp
     case h_2=> cases yp
     split at yp
     case isFalse=> cases yp
     rename_i hc
     cases yp;exact hc
 have fa:∀us:List Value,dh ks us≠none→(Value.agg us.toArray).formed P T=true:=fun us h=> by
   cases hq:dh ks us with
   | none=> exact absurd hq h
   | some l=> simp[Value.formed,hu,lQ hq,hlen]
 obtain ⟨r,hr,aaP⟩:=run_equalIn_deep (P:=P) (10000 - m) m T hk w m m (.agg us.toArray) (.agg ws.toArray) la lb (fa us (by rw[hla];simp)) (fa ws (by rw[hlb];simp)) (by simpa[Value.cells] using ka) (by simpa[Value.cells] using kb)
 rw[show 10000 - m+m=10000 by omega] at hr
 have mT:r=gu us ws:=by
   rw[Bool.eq_iff_iff,aaP,oy hla hlb]
 subst mT
 have ub:=run_eqGuard_agg (P:=P) w op T X Y us.toArray ws.toArray hgd
 rcases ES with ⟨rfl,rfl⟩ | ⟨rfl,rfl⟩
 ·refine aR.same (u:= .bool (gu us ws)) ?_ (bB.2 ⟨rfl,rfl⟩) hs
  simp only[Sem.run_bind,ub,Result.andThen_ok,run_eql_struct,hr]
 ·refine aR.same (u:= .bool !(gu us ws)) ?_ (bB.2 ⟨rfl,rfl⟩) hs
  simp only[Sem.run_bind,ub,Result.andThen_ok,run_neq_struct,hr]
theorem Sn (hL:L.OK) (hs:bj L c h w) {T el:TypeId} {n t:Nat} {g:Option Nat} (hu:P.underlying T=some (.array n el)) (ha:L.arr t=some (n,g)) {x:V} {ux:Value} (hx:RV L c x ux) {v:V} {h':Hp} (ag:vx h t g n x=some (v,h')):
 aR L c w ((Instr.arrayAt T ux).run P w) v h':=by
 unfold vx at ag
 obtain ⟨⟨v1,h1⟩,hk,hq⟩:=abN.1 ag
 clear ag
 simp only at hq
 split at hq
 case h_2=> cases hq
 rename_i full g' es
 split at hq
 case isFalse=> cases hq
 rename_i hc
 obtain ⟨rfl,zX,hn⟩:=hc
 cases hq
 obtain ⟨u,c1,w1,hr,hv,yK,hle,ba⟩:=zl hL (aR.same (r:= .ok ux w) rfl hx hs) hk
 cases hr
 obtain ⟨a,k,rfl,h2,h3,h4,h5⟩:=cV.1 hv
 have da:es≠[]:=by intro e;subst e;simp at hn;omega
 rcases h5 with h5 | ⟨b,off,cs,ty,fz,rfl,hz,fU⟩
 ·exact absurd h5 da
 refine ⟨.pointer (some ⟨b,off,none⟩),c1,_,?_,gB.2 ⟨b,off,cs,ty,fz,rfl,hz,?_⟩,yK,hle,ba⟩
 ·have:¬es.length < n:=by omega
  simp[Instr.arrayAt,run_underlying hu,this]
 ·have cG:L.aA (V.arr t (es.take n)).ty=n * L.aA g':=by
    simp only[V.ty,cx.aA];exact hL.ar _ _ _ ha
  rw[cG]
  simp only[RC]
  have hlen:(es.take n).length=n:=by simp;omega
  refine ⟨?_,g',by rw[hlen];exact ha,fun e he=> h4 e (abV he)⟩
  have h6:=(eY hL fU (fun e he=>(h4 e he).1) n hn).1
  have:(nG cs off (es.length * L.aA g')).take (n * L.aA g')=nG cs off (n * L.aA g'):=by
    unfold nG
    rw[acD,acf (abW _ hn)]
  rw[this] at h6;exact h6
end Go.Vm
namespace Go.Vm
def pL (P:Program) (fields:Array Field) (gs:List (Option Nat)) (i:Nat):Bool:=
 match fields[i]?,gs[i]? with
 | some f,some g=> decide (g=aG P f.type)&& ox P f.type && f.offset==((gs.take i).map (ak P).aA).sum
 | _,_=> false
theorem oW {P:Program} {fields:Array Field} {gs:List (Option Nat)} {i:Nat} (h:pL P fields gs i=true):
 ∃f g,fields[i]? =some f∧gs[i]? =some g∧TG P (ak P) f.type g∧f.offset=((gs.take i).map (ak P).aA).sum:=by
 unfold pL at h
 split at h
 ·rename_i f g h1 h2
  simp only[abH,decide_eq_true_eq,beq_iff_eq] at h
  obtain ⟨⟨rfl,h3⟩,h4⟩:=h
  exact ⟨f,_,h1,h2,cB h3,h4⟩
 ·cases h
def zeroOf (P:Program) (obj:Nat→Bool) (t:TypeId):Option V:=
 match zv P (match aG P t with | some n=> obj n | none=> false) 20 t with
 | some z=> if JN P t z && decide (z.ty=aG P t)&& z.aw then some z else none
 | none=> none
theorem cL {P:Program} {obj:Nat→Bool} {t:TypeId} {z:V} (h:zeroOf P obj t=some z):eH P (ak P) t z∧z.ty=aG P t∧z.aw=true:=by
 unfold zeroOf at h
 split at h
 case h_2=> cases h
 split at h
 ·rename_i hc
  simp only[Option.some.injEq] at h
  subst h
  simp only[abH,decide_eq_true_eq] at hc
  exact ⟨JO hc.1.1,hc.1.2,hc.2⟩
 ·cases h
def Yu :TypeDesc→Option Cl
 | .int _=> some .num
 | .string=> some .num
 | .bool=> some .tru
 | .pointer _=> some .ptr
 | _=> none
def JU (P:Program) (t:TypeId):Bool:=match P.underlying t with | some (.int .u8)=> true | _=> false
def JV (P:Program) (t:TypeId):Bool:=match P.underlying t with | some (.int .i32)=> true | _=> false
def abd :TypeDesc→Bool
 | .int _=> true
 | _=> false
def Di :TypeDesc→Bool
 | .interface _=> false
 | _=> true
def Bw (fields:Array Field) (i:Nat):TypeId:=match fields[i]? with | some f=> f.type | none=> 0
def So (b:Bool) (g:Option Nat) (z:List V) (p:List Nat):O:=bif b then .bsx g z p else .jc g z p
def EU (b:Bool) (g:Option Nat) (n:Nat):O:=bif b then .apx g n else .app g n
theorem JW {b:Bool} {g g':Option Nat} {z z':List V} {p p':List Nat} (h:So b g z p= .jc g' z' p'):g=g'∧z=z'∧p=p':=by
 cases b <;> cases h
 exact ⟨rfl,rfl,rfl⟩
theorem JX (b:Bool) (g g':Option Nat) (n:Nat) (z:List V) (p:List Nat):(EU b g n= .jc g' z p)=False:=by cases b <;> simp[EU]
theorem JY {cf:Nat→List V→Hp→Option (V×Hp)} {base:Nat} {h:Hp} {b:Bool} {g:Option Nat} {z:List V} {p:List Nat} {xs:List V} {r:V×Hp} (hr:aB cf base h (So b g z p) xs=some r):tP h g z p xs=some r∨oi h g z p xs=some r:=by
 cases b
 ·exact .inr hr
 ·exact .inl hr
theorem JZ {cf:Nat→List V→Hp→Option (V×Hp)} {base:Nat} {h:Hp} {b:Bool} {g:Option Nat} {n:Nat} {x y:V} {r:V×Hp} (hr:aB cf base h (EU b g n) [x,y]=some r):OT base h g n x y=some r∨nY base h g n x y=some r:=by
 cases b
 ·exact .inr hr
 ·exact .inl hr
def EV (P:Program) (kt:TypeId):Option (Option (Nat×IntKind)):=
 match P.underlying kt with
 | some (.int _)=> some none
 | some (.array n el)=> match P.underlying el,aG P kt with
   | some (.int k),some t=> if P.cellsOf el=1∧(ak P).arr t=some (n,none) then some (some (t,k)) else none
   | _,_=> none
 | _=> none
theorem sh {P:Program} {kt:TypeId} {kc:Option (Nat×IntKind)} (h:EV P kt=some kc):wb P (ak P) kt kc:=by
 unfold EV at h
 split at h
 ·rename_i k hu;cases h;exact ⟨k,hu⟩
 ·rename_i n el hu
  split at h
  ·rename_i k t bZ ht
   split at h
   ·rename_i hc;cases h;exact ⟨n,el,hu,bZ,hc.1,hc.2⟩
   ·cases h
  ·cases h
 ·cases h
def si (P:Program) (obj:Nat→Bool) (ty:TypeId):Op→Option (O×List X)
 | .move x=>(eI P ty x).map fun x=>(.mv,[x])
 | .assign x=>(eI P ty x).map fun x=>(.mv,[x])
 | .pick c a b=>(cy P [(ty,c),(ty,a),(ty,b)]).map fun xs=>(.pick,xs)
 | .alloc e=>(zeroOf P obj e).map fun z=>(.di (aG P e) z,[])
 | .box e x=>(eI P e x).map fun x=>(.box (aG P e),[x])
 | .build t parts=> match P.underlying t,aG P t,zeroOf P obj t with
   | some (.struct fields),some tag,some (.st tag' zero)=> match (ak P).fields tag with
     | some gs=> if tag'=tag∧fields.size=gs.length∧(List.range fields.size).all (pL P fields gs)=true then
         (cy P (parts.toList.map fun p=>(Bw fields p.1,p.2))).map fun xs=>(.cD tag zero (parts.toList.map (·.1)),xs)
       else none
     | none=> none
   | some (.array n el),some tag,some (.arr tag' zero)=>
     if tag'=tag∧ox P el=true∧(ak P).arr tag=some (n,aG P el) then
      (cy P (parts.toList.map fun p=>(el,p.2))).map fun xs=>(.gJ tag zero (parts.toList.map (·.1)),xs)
     else none
   | _,_,_=> none
 | .buildSlice t n parts=> match P.underlying t with
   | some (.slice el)=> match zeroOf P obj el with
     | some z=> if ox P el=true∧0 <(ak P).aA (aG P el)∧n *(ak P).aA (aG P el)≤16777216 then
         (cy P (parts.toList.map fun p=>(el,p.2))).map fun xs=>(So (obj (5000000+t)) (aG P el) (List.replicate n z) (parts.toList.map (·.1)),xs)
       else none
     | none=> none
   | _=> none
 | .load t x=> if ox P t=true then (eI P t x).map fun x=>(.ld (aG P t),[x]) else none
 | .store t x y=> if ox P t=true then (cy P [(t,x),(t,y)]).map fun xs=>(.aP (aG P t),xs) else none
 | .nilCheck x=>(eI P ty x).map fun x=>(.bK,[x])
 | .binOp op T x y T'=> match P.underlying T with
   | some (.array n el)=> match P.underlying el,aG P T,op with
     | some (.int k),some tag,.eql=> if ox P el=true∧(ak P).arr tag=some (n,aG P el)∧P.eqGuardType P.depth T=false then (cy P [(T,x),(T',y)]).map fun xs=>(.wJ tag k false,xs) else none
     | some (.int k),some tag,.neq=> if ox P el=true∧(ak P).arr tag=some (n,aG P el)∧P.eqGuardType P.depth T=false then (cy P [(T,x),(T',y)]).map fun xs=>(.wJ tag k true,xs) else none
     | _,_,_=> none
   | some (.struct fs)=> match jb P 8 T,aG P T,op with
     | some ks,some tag,.eql=> if P.keyTypeAt 8 T=true∧P.eqGuardType P.depth T=false then (cy P [(T,x),(T',y)]).map fun xs=>(.eqs tag ks false,xs) else none
     | some ks,some tag,.neq=> if P.keyTypeAt 8 T=true∧P.eqGuardType P.depth T=false then (cy P [(T,x),(T',y)]).map fun xs=>(.eqs tag ks true,xs) else none
     | _,_,_=> none
   | some d=> match Yu d with
     | some cl=>(cy P [(T,x),(T',y)]).map fun xs=>(.bin cl op,xs)
     | none=> none
   | none=> none
 | .unOp op T x=>(eI P T x).map fun x=>(.un op,[x])
 | .convert S T x=> match P.underlying S,P.underlying T with
   | some (.int _),some (.int k)=>(eI P S x).map fun x=>(.gF k,[x])
   | some (.slice el),some .string=> if JU P el=true then (eI P S x).map fun x=>(.DJ,[x]) else if JV P el=true then (eI P S x).map fun x=>(.r2s false,[x]) else none
   | some (.int .i32),some .string=>(eI P S x).map fun x=>(.r2s true,[x])
   | some .string,some (.slice el)=> if JU P el=true then (eI P S x).map fun x=>(.s2b true,[x]) else none
   | some (.slice el),some (.slice _)=> if S=T∧JU P el=true then (eI P S x).map fun x=>(.o4,[x]) else none
   | _,_=> none
 | .makeInterface T x=> if P.concrete T=true then (eI P T x).map fun x=>(.mki T,[x]) else none
 | .makeFunc (.func f) first captured=> if first.isEmpty then (cy P (captured.toList.map fun x=>(ty,x))).map fun xs=>(.mkf f,xs) else none
 | .makeSlice t l n=> match P.underlying t with
   | some (.slice el)=> match zeroOf P obj el with
     | some z=> if ox P el=true∧P.bytesOf el≤4096 then (cy P [(ty,l),(ty,n)]).map fun xs=>(.mks (aG P el) z,xs) else none
     | none=> none
   | _=> none
 | .slice t x lo hi mx=> match P.underlying t with
   | some (.slice el)=> if ox P el=true then (cy P ((t,x)::(lo.toList++hi.toList++mx.toList).map fun y=>(ty,y))).map fun xs=>(.jX (aG P el) lo.isSome hi.isSome mx.isSome,xs) else none
   | some .string=> if mx.isNone then (cy P ((t,x)::(lo.toList++hi.toList).map fun y=>(ty,y))).map fun xs=>(.sls lo.isSome hi.isSome,xs) else none
   | some (.array n el)=> match aG P t with
     | some tag=> if ox P el=true∧(ak P).arr tag=some (n,aG P el)∧mx.isNone=true then (cy P ((t,x)::(lo.toList++hi.toList).map fun y=>(ty,y))).map fun xs=>(.mr tag (aG P el) lo.isSome hi.isSome,xs) else none
     | none=> none
   | _=> none
 | .fieldAddr T x i=> match P.underlying T,aG P T with
   | some (.struct fields),some tag=> match (ak P).fields tag with
     | some gs=> if pL P fields gs i=true∧P.cellsOf (Bw fields i)≠0 then (eI P T x).map fun x=>(.fa tag i,[x]) else none
     | none=> none
   | _,_=> none
 | .field T x i=> match P.underlying T,aG P T with
   | some (.struct fields),some tag=> match (ak P).fields tag with
     | some gs=> if pL P fields gs i=true then (eI P T x).map fun x=>(.fld tag i,[x]) else none
     | none=> none
   | _,_=> none
 | .indexAddr T x i=> match P.underlying T with
   | some (.array n el)=> match aG P T with
     | some tag=> if ox P el=true∧(ak P).arr tag=some (n,aG P el) then (cy P [(T,x),(ty,i)]).map fun xs=>(.kv tag,xs) else none
     | none=> none
   | some (.slice el)=> if ox P el=true then (cy P [(T,x),(ty,i)]).map fun xs=>(.dx (aG P el),xs) else none
   | _=> none
 | .index T x i=> match P.underlying T with
   | some (.array n el)=> match aG P T with
     | some tag=> if ox P el=true∧(ak P).arr tag=some (n,aG P el) then (cy P [(T,x),(ty,i)]).map fun xs=>(.idx tag,xs) else none
     | none=> none
   | some .string=>(cy P [(T,x),(ty,i)]).map fun xs=>(.EG,xs)
   | _=> none
 | .range T x=> match P.underlying T with
   | some .string=>(eI P T x).map fun x=>(.rng,[x])
   | _=> none
 | .next x true=>(eI P ty x).map fun x=>(.nxt,[x])
 | .typeAssert x T A ok=> match P.underlying A,zeroOf P obj A with
   | some d,some z=> if Di d=true then (eI P T x).map fun x=>(.tas A ok z,[x]) else none
   | _,_=> none
 | .panic _=> some (.bad,[])
 | .makeMap t none=> match P.underlying t with
   | some (.map _ _)=> some (.mkm,[])
   | _=> none
 | .lookup T x ix ok=> match P.underlying T with
   | some (.map kt et)=> match EV P kt,zeroOf P obj et with
     | some kc,some z=>(cy P [(T,x),(kt,ix)]).map fun xs=>(.lku kc ok z,xs)
     | _,_=> none
   | _=> none
 | .mapUpdate T m k x=> match P.underlying T with
   | some (.map kt et)=> match EV P kt with
     | some kc=>(cy P [(T,m),(kt,k),(et,x)]).map fun xs=>(.mup kc (aG P et),xs)
     | none=> none
   | _=> none
 | .insert T m k x=> match P.underlying T with
   | some (.map kt et)=> match EV P kt with
     | some kc=>(cy P [(T,m),(kt,k),(et,x)]).map fun xs=>(.mup kc (aG P et),xs)
     | none=> none
   | _=> none
 | .mapEntry T m k=> match P.underlying T with
   | some (.map kt et)=> match EV P kt,zeroOf P obj et with
     | some kc,some z=>(cy P [(T,m),(kt,k)]).map fun xs=>(.mpe kc z,xs)
     | _,_=> none
   | _=> none
 | .entryStore T m k x=> match P.underlying T with
   | some (.map kt et)=>(cy P [(T,m),(ty,k),(et,x)]).map fun xs=>(.ens (aG P et),xs)
   | _=> none
 | .sliceToArrayPointer T x=> match P.underlying T,aG P T with
   | some (.array n el),some tag=> if (ak P).arr tag=some (n,aG P el) then (eI P ty x).map fun x=>(.s2a tag (aG P el) n,[x]) else none
   | _,_=> none
 | .extract x i=>(eI P ty x).map fun x=>(.ext i,[x])
 | .call c=> match c.callee with
   | .value (.func f)=>(cy P (c.argTypes.toList.zip c.args.toList)).bind fun xs=> if c.argTypes.size=c.args.size then some (.call f,xs) else none
   | .value (.tmp n)=>(cy P (c.argTypes.toList.zip c.args.toList)).bind fun xs=> if c.argTypes.size=c.args.size then some (.mu,.t n::xs) else none
   | .builtin b=> match b,c.argTypes.toList,c.args.toList with
     | .len,[T],[x]=> match P.underlying T with
       | some (.slice _)=>(eI P T x).map fun x=>(.len,[x])
       | some (.map _ _)=>(eI P T x).map fun x=>(.mln,[x])
       | some .string=>(eI P T x).map fun x=>(.EH,[x])
       | _=> none
     | .append,[T,T'],[x,y]=> match P.underlying T with
       | some (.slice el)=> match zeroOf P obj el,P.underlying T' with
         | some z,some (.slice _)=> if ox P el=true∧0 < P.bytesOf el then (cy P [(T,x),(T',y)]).map fun xs=>(EU (obj (4000000+T)) (aG P el) (P.bytesOf el),xs) else none
         | some z,some (.int _)=> if ox P el=true∧0 < P.bytesOf el then (cy P [(T,x),(T',y)]).map fun xs=>(.apz (aG P el) (P.bytesOf el) z,xs) else none
         | some z,some .string=> if ox P el=true∧0 < P.bytesOf el then (cy P [(T,x),(T',y)]).map fun xs=>(EU (obj (4000000+T)) (aG P el) (P.bytesOf el),xs) else none
         | _,_=> none
       | _=> none
     | .cap,[T],[x]=> match P.underlying T with
       | some (.slice _)=>(eI P T x).map fun x=>(.cap,[x])
       | _=> none
     | .copy,[T,T'],[x,y]=> match P.underlying T with
       | some (.slice el)=> if ox P el=true then (cy P [(T,x),(T',y)]).map fun xs=>(.cpy (aG P el),xs) else none
       | _=> none
     | .clear,[T],[x]=> match P.underlying T with
       | some (.slice el)=> match zeroOf P obj el with
         | some z=> if ox P el=true then (eI P T x).map fun x=>(.clr (aG P el) z,[x]) else none
         | none=> none
       | _=> none
     | .min,[T,T'],[x,y]=>(cy P [(T,x),(T',y)]).map fun xs=>(.min,xs)
     | .max,[T,T'],[x,y]=>(cy P [(T,x),(T',y)]).map fun xs=>(.max,xs)
     | _,_,_=> none
   | _=> none
 | _=> none
end Go.Vm
namespace Go.Vm
def fe (P:Program) (L:cx) (c:Ctx) (w:World) (f:Nat) (us:List Value) (v:V) (h':Hp):Prop:=
 Calls P f us.toArray w fun e w'=>∃u c',e= .returned u∧RV L c' v u∧bj L c' h' w'∧c.le c'∧St w w'
def pM (P:Program) (L:cx) (c:Ctx) (w:World) (r:Result Next) (v:V) (h':Hp):Prop:=
 (∃u c' w',(r= .ok (.value u) w'∨(r= .ok .skip w'∧u=undef))∧RV L c' v u∧bj L c' h' w'∧c.le c'∧St w w')∨
 (∃f us,r= .ok (.enter f us.toArray) w∧fe P L c w f us v h')
def cA (P:Program) (L:cx) (cf:Nat→List V→Hp→Option (V×Hp)):Prop:=
 ∀(f:Nat) (vs:List V) (h:Hp) (v:V) (h':Hp),cf f vs h=some (v,h')→(∃fn,P.funcs[f]? =some fn∧fn.body.isSome=true∧(fn.name== "runtime.NumGoroutine")=false)∧
  ∀(c:Ctx) (w:World) (us:List Value),fW L c vs us→bj L c h w→fe P L c w f us v h'
variable {P : Program} {obj : Nat → Bool} {c : Ctx} {h : Hp} {w : World}
theorem q7z {L:cx} {r:Result Value} {v:V} {h':Hp} (hd:aR L c w r v h'):pM P L c w (r.andThen fun a w'=> .ok (Next.value a) w') v h':=by
 obtain ⟨u,c',w',rfl,h1,h2,h3,h4⟩:=hd
 exact Or.inl ⟨u,c',w',Or.inl rfl,h1,h2,h3,h4⟩
theorem dn {L:cx} {vs:List V} {u u':Value} (h:fW L c vs [u,u']):∃v v',vs=[v,v']∧RV L c v u∧RV L c v' u':=by
 match vs,h with
 | [v],h=> exact h.2.elim
 | [v,v'],h=> exact ⟨v,v',rfl,h.1,h.2.1⟩
 | _::_::_::_,h=> exact h.2.2.elim
theorem nM {L:cx} {vs:List V} {u u' u'':Value} (h:fW L c vs [u,u',u'']):∃v v' v'',vs=[v,v',v'']∧RV L c v u∧RV L c v' u'∧RV L c v'' u'':=by
 match vs,h with
 | [v],h=> exact h.2.elim
 | [v,v'],h=> exact h.2.2.elim
 | [v,v',v''],h=> exact ⟨v,v',v'',rfl,h.1,h.2.1,h.2.2.1⟩
 | _::_::_::_::_,h=> exact h.2.2.2.elim
theorem ug {L:cx} {vs:List V} {u:Value} {us:List Value} (h:fW L c vs (u::us)):∃v vs',vs=v::vs'∧RV L c v u∧fW L c vs' us:=by
 match vs,h with
 | v::vs,h=> exact ⟨v,vs,rfl,h.1,h.2⟩
theorem zip_map {α β γ:Type} (l:List (α×β)) (f:β→γ):(l.map (·.1)).zip (l.map fun p=> f p.2)=l.map fun p=>(p.1,f p.2):=by
 induction l with
 | nil=> rfl
 | cons x l ih=> simp[ih]
def O.calls :O→Bool
 | .call _=> true
 | .mu=> true
 | _=> false
section
variable (hL : (ak P).OK) {cf : Nat → List V → Hp → Option (V × Hp)} {base : Nat} {fr : Fr} {a : Act} (hf : RF (ak P) c fr a) (hs : bj (ak P) c h w) {o : Oper} {g : O} {xs : List X} {v : V} {h' : Hp}
include hL hf hs
theorem Sp (hc:si P obj o.type o.op=some (g,xs)) (ag:aB cf base h g (xs.map (X.ev fr))=some (v,h')) (hk:match o.op with | .move _ | .assign _ | .pick .. | .alloc _ | .box .. | .load .. | .store .. | .nilCheck _ | .unOp .. | .makeInterface .. | .extract .. | .range .. | .next .. | .typeAssert .. | .makeFunc .. => True | _=> False):
 pM P (ak P) c w ((execOp a.eval o).run P w) v h':=by
 obtain ⟨dst,op,ty,pos,after,guard⟩:=o
 simp only at hc hk ⊢
 cases op <;> simp only at hk <;> simp only[si] at hc
 case move x=>
   obtain ⟨y,hy,he⟩:=abD.1 hc
   simp only[Prod.mk.injEq] at he
   obtain ⟨rfl,rfl⟩:=he
   simp only[abR,ab1,aB,Option.some.injEq,Prod.mk.injEq] at ag
   obtain ⟨rfl,rfl⟩:=ag
   exact Or.inl ⟨a.eval x,c,w,Or.inl rfl,q22z hf hy,hs,Ctx.le_refl c,St.refl w⟩
 case assign x=>
   obtain ⟨y,hy,he⟩:=abD.1 hc
   simp only[Prod.mk.injEq] at he
   obtain ⟨rfl,rfl⟩:=he
   simp only[abR,ab1,aB,Option.some.injEq,Prod.mk.injEq] at ag
   obtain ⟨rfl,rfl⟩:=ag
   exact Or.inl ⟨a.eval x,c,w,Or.inl rfl,q22z hf hy,hs,Ctx.le_refl c,St.refl w⟩
 case pick x y z=>
   obtain ⟨ys,hy,he⟩:=abD.1 hc
   simp only[Prod.mk.injEq] at he
   obtain ⟨rfl,rfl⟩:=he
   have hv:=q12z hf hy
   obtain ⟨v1,v2,v3,e,h1,h2,h3⟩:=nM hv
   rw[e] at ag
   simp only[aB] at ag
   unfold tJ at ag
   split at ag
   case h_2=> cases ag
   rename_i b
   simp only[Option.some.injEq,Prod.mk.injEq] at ag
   obtain ⟨rfl,rfl⟩:=ag
   obtain ⟨hb,_⟩:=bB.1 h1
   refine Or.inl ⟨if b then a.eval y else a.eval z,c,w,Or.inl ?_,?_,hs,Ctx.le_refl c,St.refl w⟩
   ·simp only at hb
    simp[execOp,hb,asBool]
   ·cases b
    ·exact h3
    ·exact h2
 case alloc e=>
   obtain ⟨z,hz,he⟩:=abD.1 hc
   simp only[Prod.mk.injEq] at he
   obtain ⟨rfl,rfl⟩:=he
   simp only[ab1,aB] at ag
   have:=q7z (P:=P) (RK (P:=P) (T:=e) hL hs (cL hz).1 ag)
   simpa only[execOp,Sem.run_bind,Sem.run_pure] using this
 case box e x=>
   obtain ⟨y,hy,he⟩:=abD.1 hc
   simp only[Prod.mk.injEq] at he
   obtain ⟨rfl,rfl⟩:=he
   simp only[abR,ab1,aB] at ag
   have:=q7z (P:=P) (JJ (P:=P) (T:=e) hL hs (q22z hf hy) ag)
   simpa only[execOp,Sem.run_bind,Sem.run_pure] using this
 case load t x=>
   split at hc
   case isFalse=> cases hc
   rename_i ht
   obtain ⟨y,hy,he⟩:=abD.1 hc
   simp only[Prod.mk.injEq] at he
   obtain ⟨rfl,rfl⟩:=he
   simp only[abR,ab1,aB] at ag
   have:=q7z (P:=P) (OV (P:=P) hL hs (cB ht) (q22z hf hy) ag)
   simpa only[execOp,Sem.run_bind,Sem.run_pure] using this
 case store t x y=>
   split at hc
   case isFalse=> cases hc
   rename_i ht
   obtain ⟨ys,hy,he⟩:=abD.1 hc
   simp only[Prod.mk.injEq] at he
   obtain ⟨rfl,rfl⟩:=he
   obtain ⟨v1,v2,e,h1,h2⟩:=dn (q12z hf hy)
   rw[e] at ag
   simp only[aB] at ag
   obtain ⟨w',h3,rfl,h4,h5⟩:=RJ (P:=P) hL hs (cB ht) h1 h2 ag
   refine Or.inl ⟨undef,c,w',Or.inr ⟨?_,rfl⟩,cz.2 ⟨[],rfl,trivial⟩,h4,Ctx.le_refl c,h5⟩
   simp only at h3
   simp[execOp,h3]
 case nilCheck x=>
   obtain ⟨y,hy,he⟩:=abD.1 hc
   simp only[Prod.mk.injEq] at he
   obtain ⟨rfl,rfl⟩:=he
   simp only[abR,ab1,aB] at ag
   have hv:=q22z hf hy
   unfold yY at ag
   split at ag
   ·rename_i id path az heq
    simp only[Option.some.injEq,Prod.mk.injEq] at ag
    obtain ⟨rfl,rfl⟩:=ag
    rw[heq] at hv ⊢
    obtain ⟨p,hp,_⟩:=tW.1 hv
    refine Or.inl ⟨a.eval x,c,w,Or.inl ?_,hv,hs,Ctx.le_refl c,St.refl w⟩
    simp[execOp,hp]
   ·rename_i y' heq
    simp only[Option.some.injEq,Prod.mk.injEq] at ag
    obtain ⟨rfl,rfl⟩:=ag
    rw[heq] at hv ⊢
    obtain ⟨_,_,_,_,_,hp,_⟩:=gB.1 hv
    refine Or.inl ⟨a.eval x,c,w,Or.inl ?_,hv,hs,Ctx.le_refl c,St.refl w⟩
    simp[execOp,hp]
   ·rename_i f cap heq
    simp only[Option.some.injEq,Prod.mk.injEq] at ag
    obtain ⟨rfl,rfl⟩:=ag
    rw[heq] at hv ⊢
    obtain ⟨ws,hp,_⟩:=Dh.1 hv
    refine Or.inl ⟨a.eval x,c,w,Or.inl ?_,hv,hs,Ctx.le_refl c,St.refl w⟩
    simp[execOp,hp]
   ·cases ag
 case unOp op T x=>
   obtain ⟨y,hy,he⟩:=abD.1 hc
   simp only[Prod.mk.injEq] at he
   obtain ⟨rfl,rfl⟩:=he
   simp only[abR,ab1,aB] at ag
   have:=q7z (P:=P) (Ys (P:=P) hs (q22z hf hy) ag)
   simpa only[execOp,Sem.run_bind,Sem.run_pure] using this
 case makeInterface T x=>
   split at hc
   case isFalse=> cases hc
   rename_i ht
   obtain ⟨y,hy,he⟩:=abD.1 hc
   simp only[Prod.mk.injEq] at he
   obtain ⟨rfl,rfl⟩:=he
   simp only[abR,ab1,aB,Option.some.injEq,Prod.mk.injEq] at ag
   obtain ⟨rfl,rfl⟩:=ag
   have:=q7z (P:=P) (Sc (P:=P) hs ht (q22z hf hy))
   simpa only[execOp,Sem.run_bind,Sem.run_pure] using this
 case extract x i=>
   obtain ⟨y,hy,he⟩:=abD.1 hc
   simp only[Prod.mk.injEq] at he
   obtain ⟨rfl,rfl⟩:=he
   simp only[abR,ab1,aB] at ag
   have:=q7z (P:=P) (R9 (P:=P) hs (q22z hf hy) ag)
   simpa only[execOp,Sem.run_bind,Sem.run_pure] using this
 case range T x=>
   split at hc
   case h_2=> cases hc
   rename_i hT
   obtain ⟨y,hy,he⟩:=abD.1 hc
   simp only[Prod.mk.injEq] at he
   obtain ⟨rfl,rfl⟩:=he
   simp only[abR,ab1,aB] at ag
   have:=q7z (P:=P) (Sd (P:=P) hs hT (q22z hf hy) ag)
   simpa only[execOp,Sem.run_bind,Sem.run_pure] using this
 case next x b=>
   cases b with
   | false=> simp at hc
   | true=>
   simp only at hc
   obtain ⟨y,hy,he⟩:=abD.1 hc
   simp only[Prod.mk.injEq] at he
   obtain ⟨rfl,rfl⟩:=he
   simp only[abR,ab1,aB] at ag
   have:=q7z (P:=P) (Se (P:=P) hs (ty:=ty) (q22z hf hy) ag)
   simpa only[execOp,Sem.run_bind,Sem.run_pure] using this
 case typeAssert x T A ok=>
   split at hc
   case h_2=> cases hc
   rename_i d z hd hz
   split at hc
   case isFalse=> cases hc
   rename_i EW
   obtain ⟨y,hy,he⟩:=abD.1 hc
   simp only[Prod.mk.injEq] at he
   obtain ⟨rfl,rfl⟩:=he
   simp only[abR,ab1,aB] at ag
   have:=q7z (P:=P) (R8 (P:=P) hs (XT:=T) (fun _=>(cL hz).1) ⟨d,hd,by cases d <;> simp_all [Di]⟩ (q22z hf hy) ag)
   simpa only[execOp,Sem.run_bind,Sem.run_pure] using this
 case makeFunc fn first captured=>
   cases fn <;> simp only at hc <;> try (cases hc;done)
   rename_i f
   split at hc
   case isFalse=> cases hc
   rename_i Sq
   obtain ⟨ys,hy,he⟩:=abD.1 hc
   simp only[Prod.mk.injEq] at he
   obtain ⟨rfl,rfl⟩:=he
   simp only[aB,Option.some.injEq,Prod.mk.injEq] at ag
   obtain ⟨rfl,rfl⟩:=ag
   have hv:=q12z hf hy
   have hfe:first= #[]:=by simpa using Sq
   subst hfe
   refine Or.inl ⟨.func (.func f) #[] (captured.map a.eval),c,w,Or.inl ?_,Dh.2 ⟨captured.toList.map a.eval,?_,?_⟩,hs,Ctx.le_refl c,St.refl w⟩
   ·simp[execOp,Instr.makeFunc]
   ·congr 1
    apply adr;simp
   ·simpa[acN,Function.comp_def] using hv
end
end Go.Vm
namespace Go.Vm
variable {P : Program} {obj : Nat → Bool} {c : Ctx} {h : Hp} {w : World}
theorem parts_eq (parts:Array (Nat×Operand)) (ρ:Operand→Value):parts.map (fun p=>(p.1,ρ p.2))=((parts.toList.map (·.1)).zip (parts.toList.map fun p=> ρ p.2)).toArray:=by
 apply adr
 rw[zip_map]
 simp
theorem J0 {P:Program} {el:TypeId} (h:JU P el=true):P.underlying el=some (.int .u8):=by
 unfold JU at h
 split at h
 ·assumption
 ·cases h
theorem Sr {P:Program} {el:TypeId} (h:JV P el=true):P.underlying el=some (.int .i32):=by
 unfold JV at h
 split at h
 ·assumption
 ·cases h
section
variable (hL : (ak P).OK) {cf : Nat → List V → Hp → Option (V × Hp)} {base : Nat} {fr : Fr} {a : Act} (hf : RF (ak P) c fr a) (hs : bj (ak P) c h w) {o : Oper} {g : O} {xs : List X} {v : V} {h' : Hp}
include hL hf hs
theorem Ss (hc:si P obj o.type o.op=some (g,xs)) (ag:aB cf base h g (xs.map (X.ev fr))=some (v,h')) (hk:match o.op with | .build .. | .buildSlice .. | .binOp .. | .convert .. | .makeSlice .. => True | _=> False):
 pM P (ak P) c w ((execOp a.eval o).run P w) v h':=by
 obtain ⟨dst,op,ty,pos,after,guard⟩:=o
 simp only at hc hk ⊢
 cases op <;> simp only at hk <;> simp only[si] at hc
 case build t parts=>
   split at hc
   ·rename_i fields tag tag' zero hu ht hz
    split at hc
    case h_2=> cases hc
    rename_i gs jG
    split at hc
    case isFalse=> cases hc
    rename_i bk
    obtain ⟨rfl,cG,cJ⟩:=bk
    obtain ⟨ys,hy,he⟩:=abD.1 hc
    simp only[Prod.mk.injEq] at he
    obtain ⟨rfl,rfl⟩:=he
    have hv:=q12z hf hy
    rw[acN] at hv
    simp only[aB] at ag
    have rJ:=(cL hz).1
    have:=q7z (P:=P) (MK (P:=P) (T:=t) hL hs hu jG (fun i f hi=> by
      have cF:i < fields.size:=(acH.1 hi).1
      obtain ⟨f',g,h1,h2,h3,h4⟩:=oW (abZ.1 cJ i (acL.2 cF))
      rw[hi] at h1;cases h1
      exact ⟨g,h2,h3,h4⟩) cG rJ (us:=parts.toList.map fun p=> a.eval p.2) (by simpa using hv.length) hv.get ag)
    rw[←parts_eq] at this
    simpa only[execOp,Sem.run_bind,Sem.run_pure] using this
   ·rename_i n el tag tag' zero hu ht hz
    split at hc
    case isFalse=> cases hc
    rename_i bk
    obtain ⟨rfl,jE,mn⟩:=bk
    obtain ⟨ys,hy,he⟩:=abD.1 hc
    simp only[Prod.mk.injEq] at he
    obtain ⟨rfl,rfl⟩:=he
    have hv:=q12z hf hy
    rw[acN] at hv
    simp only[aB] at ag
    have:=q7z (P:=P) (ML (P:=P) (T:=t) hL hs hu (cB jE) mn (cL hz).1 (us:=parts.toList.map fun p=> a.eval p.2) (by simpa using hv.length) hv.get ag)
    rw[←parts_eq] at this
    simpa only[execOp,Sem.run_bind,Sem.run_pure] using this
   ·cases hc
 case buildSlice t n parts=>
   split at hc
   case h_2=> cases hc
   rename_i el hu
   split at hc
   case h_2=> cases hc
   rename_i z hz
   split at hc
   case isFalse=> cases hc
   rename_i bk
   obtain ⟨jE,gX,hn⟩:=bk
   obtain ⟨ys,hy,he⟩:=abD.1 hc
   simp only[Prod.mk.injEq] at he
   obtain ⟨rfl,rfl⟩:=he
   have hv:=q12z hf hy
   rw[acN] at hv
   obtain ⟨rJ,js,iN⟩:=cL hz
   rcases JY ag with ag | ag
   ·have:=q7z (P:=P) (RN (P:=P) (T:=t) hL hs hu (cB jE) gX rJ js iN hn (us:=parts.toList.map fun p=> a.eval p.2) (by simpa using hv.length) hv.get ag)
    rw[←parts_eq] at this
    simpa only[execOp,Sem.run_bind,Sem.run_pure] using this
   ·have:=q7z (P:=P) (RM (P:=P) (T:=t) hL hs hu (cB jE) gX rJ js iN hn (us:=parts.toList.map fun p=> a.eval p.2) (by simpa using hv.length) hv.get ag)
    rw[←parts_eq] at this
    simpa only[execOp,Sem.run_bind,Sem.run_pure] using this
 case binOp op T x y T'=>
   split at hc
   ·rename_i n el hu
    split at hc
    ·rename_i k tag bZ ht
     split at hc
     case isFalse=> cases hc
     rename_i bk
     obtain ⟨jE,mn,hgd⟩:=bk
     obtain ⟨ys,hy,he⟩:=abD.1 hc
     simp only[Prod.mk.injEq] at he
     obtain ⟨rfl,rfl⟩:=he
     obtain ⟨v1,v2,e,h1,h2⟩:=dn (q12z hf hy)
     rw[e] at ag
     simp only[aB] at ag
     have cS:(ak P).aA (aG P el)=1:=by simp[aG,bZ,cx.aA]
     have:=q7z (P:=P) (JP (P:=P) hL hs hu bZ (cB jE) cS mn hgd (Or.inl ⟨rfl,rfl⟩) (X:=x) (Y:=y) h1 h2 ag)
     simpa only[execOp,Sem.run_bind,Sem.run_pure] using this
    ·rename_i k tag bZ ht
     split at hc
     case isFalse=> cases hc
     rename_i bk
     obtain ⟨jE,mn,hgd⟩:=bk
     obtain ⟨ys,hy,he⟩:=abD.1 hc
     simp only[Prod.mk.injEq] at he
     obtain ⟨rfl,rfl⟩:=he
     obtain ⟨v1,v2,e,h1,h2⟩:=dn (q12z hf hy)
     rw[e] at ag
     simp only[aB] at ag
     have cS:(ak P).aA (aG P el)=1:=by simp[aG,bZ,cx.aA]
     have:=q7z (P:=P) (JP (P:=P) hL hs hu bZ (cB jE) cS mn hgd (Or.inr ⟨rfl,rfl⟩) (X:=x) (Y:=y) h1 h2 ag)
     simpa only[execOp,Sem.run_bind,Sem.run_pure] using this
    ·cases hc
   ·rename_i fs hu
    split at hc
    ·rename_i ks tag yp ht
     split at hc
     case isFalse=> cases hc
     rename_i bk
     obtain ⟨ys,hy,he⟩:=abD.1 hc
     simp only[Prod.mk.injEq] at he
     obtain ⟨rfl,rfl⟩:=he
     obtain ⟨v1,v2,e,h1,h2⟩:=dn (q12z hf hy)
     rw[e] at ag
     simp only[aB] at ag
     have:=q7z (P:=P) (JT (P:=P) hs (by omega) hu bk.1 yp bk.2 (Or.inl ⟨rfl,rfl⟩) (X:=x) (Y:=y) h1 h2 ag)
     simpa only[execOp,Sem.run_bind,Sem.run_pure] using this
    ·rename_i ks tag yp ht
     split at hc
     case isFalse=> cases hc
     rename_i bk
     obtain ⟨ys,hy,he⟩:=abD.1 hc
     simp only[Prod.mk.injEq] at he
     obtain ⟨rfl,rfl⟩:=he
     obtain ⟨v1,v2,e,h1,h2⟩:=dn (q12z hf hy)
     rw[e] at ag
     simp only[aB] at ag
     have:=q7z (P:=P) (JT (P:=P) hs (by omega) hu bk.1 yp bk.2 (Or.inr ⟨rfl,rfl⟩) (X:=x) (Y:=y) h1 h2 ag)
     simpa only[execOp,Sem.run_bind,Sem.run_pure] using this
    ·cases hc
   ·rename_i d hd hd2 hu
    split at hc
    case h_2=> cases hc
    rename_i cl my
    obtain ⟨ys,hy,he⟩:=abD.1 hc
    simp only[Prod.mk.injEq] at he
    obtain ⟨rfl,rfl⟩:=he
    obtain ⟨v1,v2,e,h1,h2⟩:=dn (q12z hf hy)
    rw[e] at ag
    simp only[aB] at ag
    have:=q7z (P:=P) (R7 (P:=P) hs (T:=T) (cl:=cl) (X:=x) (Y:=y) h1 h2 (by
      unfold Yu at my
      split at my <;> first
        | (simp only[Option.some.injEq] at my;subst my;first | trivial | exact hu | exact ⟨_,hu⟩)
        | cases my) ag)
    simpa only[execOp,Sem.run_bind,Sem.run_pure] using this
   ·cases hc
 case convert S T x=>
   split at hc
   ·rename_i k' k hS hT
    obtain ⟨y,hy,he⟩:=abD.1 hc
    simp only[Prod.mk.injEq] at he
    obtain ⟨rfl,rfl⟩:=he
    simp only[abR,ab1,aB] at ag
    have:=q7z (P:=P) (R2 (P:=P) hs hT ⟨_,hS⟩ (q22z hf hy) ag)
    simpa only[execOp,Sem.run_bind,Sem.run_pure] using this
   ·rename_i el hS hT
    split at hc
    ·rename_i xF
     obtain ⟨y,hy,he⟩:=abD.1 hc
     simp only[Prod.mk.injEq] at he
     obtain ⟨rfl,rfl⟩:=he
     simp only[abR,ab1,aB] at ag
     have:=q7z (P:=P) (R3 (P:=P) hL hs hS (J0 xF) hT (q22z hf hy) ag)
     simpa only[execOp,Sem.run_bind,Sem.run_pure] using this
    ·split at hc
     case isFalse=> cases hc
     rename_i xF
     obtain ⟨y,hy,he⟩:=abD.1 hc
     simp only[Prod.mk.injEq] at he
     obtain ⟨rfl,rfl⟩:=he
     simp only[abR,ab1,aB] at ag
     have:=q7z (P:=P) (R4 (P:=P) hL hs hS (Sr xF) hT (q22z hf hy) ag)
     simpa only[execOp,Sem.run_bind,Sem.run_pure] using this
   ·rename_i hS hT
    obtain ⟨y,hy,he⟩:=abD.1 hc
    simp only[Prod.mk.injEq] at he
    obtain ⟨rfl,rfl⟩:=he
    simp only[abR,ab1,aB] at ag
    have:=q7z (P:=P) (R5 (P:=P) hs hS hT (q22z hf hy) ag)
    simpa only[execOp,Sem.run_bind,Sem.run_pure] using this
   ·rename_i el hS hT
    split at hc
    case isFalse=> cases hc
    rename_i xF
    obtain ⟨y,hy,he⟩:=abD.1 hc
    simp only[Prod.mk.injEq] at he
    obtain ⟨rfl,rfl⟩:=he
    simp only[abR,ab1,aB] at ag
    have:=q7z (P:=P) (R6 (P:=P) hL hs hS hT (J0 xF) (q22z hf hy) ag)
    simpa only[execOp,Sem.run_bind,Sem.run_pure] using this
   ·rename_i el el' hS hT
    split at hc
    case isFalse=> cases hc
    rename_i bk
    obtain ⟨rfl,xF⟩:=bk
    obtain ⟨y,hy,he⟩:=abD.1 hc
    simp only[Prod.mk.injEq] at he
    obtain ⟨rfl,rfl⟩:=he
    simp only[abR,ab1,aB] at ag
    have:=q7z (P:=P) (R1 (P:=P) hL hs hS (J0 xF) (q22z hf hy) ag)
    simpa only[execOp,Sem.run_bind,Sem.run_pure] using this
   ·cases hc
 case makeSlice t l n=>
   split at hc
   case h_2=> cases hc
   rename_i el hu
   split at hc
   case h_2=> cases hc
   rename_i z hz
   split at hc
   case isFalse=> cases hc
   rename_i bk
   obtain ⟨jE,pc⟩:=bk
   obtain ⟨ys,hy,he⟩:=abD.1 hc
   simp only[Prod.mk.injEq] at he
   obtain ⟨rfl,rfl⟩:=he
   obtain ⟨v1,v2,e,h1,h2⟩:=dn (q12z hf hy)
   rw[e] at ag
   simp only[aB] at ag
   obtain ⟨rJ,js,iN⟩:=cL hz
   have:=q7z (P:=P) (RP (P:=P) hL hs hu (cB jE) pc rJ js iN h1 h2 ag)
   simpa only[execOp,Sem.run_bind,Sem.run_pure] using this
theorem Su (hc:si P obj o.type o.op=some (g,xs)) (ag:aB cf base h g (xs.map (X.ev fr))=some (v,h')) (hk:match o.op with | .slice .. | .fieldAddr .. | .field .. | .indexAddr .. | .index .. => True | _=> False):
 pM P (ak P) c w ((execOp a.eval o).run P w) v h':=by
 obtain ⟨dst,op,ty,pos,after,guard⟩:=o
 simp only at hc hk ⊢
 have optl:∀(q:Option Operand),(q.toList.map a.eval)=(q.map a.eval).toList:=fun q=> by cases q <;> rfl
 have opts:∀(q:Option Operand),q.isSome=(q.map a.eval).isSome:=fun q=> by cases q <;> rfl
 cases op <;> simp only at hk <;> simp only[si] at hc
 case slice t x lo hi mx=>
   split at hc
   ·rename_i el hu
    split at hc
    case isFalse=> cases hc
    rename_i jE
    obtain ⟨ys,hy,he⟩:=abD.1 hc
    simp only[Prod.mk.injEq] at he
    obtain ⟨rfl,rfl⟩:=he
    have hv:=q12z hf hy
    simp only[abR,acN] at hv
    obtain ⟨v1,vs,e,h1,h2⟩:=ug hv
    rw[e] at ag
    simp only[aB] at ag
    rw[opts lo,opts hi,opts mx] at ag
    have h2':fW (ak P) c vs ((lo.map a.eval).toList++(hi.map a.eval).toList++(mx.map a.eval).toList):=by
      have:(List.map ((fun p=> a.eval p.2)∘ fun y=>((ty,y):TypeId×Operand)) (lo.toList++hi.toList++mx.toList))=(lo.map a.eval).toList++(hi.map a.eval).toList++(mx.map a.eval).toList:=by
        rw[←optl,←optl,←optl,←List.map_append,←List.map_append];rfl
      rw[←this];exact h2
    have:=q7z (P:=P) (RT (P:=P) hL hs hu (cB jE) h1 h2' ag)
    simpa only[execOp,Sem.run_bind,Sem.run_pure] using this
   ·rename_i hu
    split at hc
    case isFalse=> cases hc
    rename_i hmx
    obtain rfl:mx=none:=by simpa using hmx
    obtain ⟨ys,hy,he⟩:=abD.1 hc
    simp only[Prod.mk.injEq] at he
    obtain ⟨rfl,rfl⟩:=he
    have hv:=q12z hf hy
    simp only[abR,acN] at hv
    obtain ⟨v1,vs,e,h1,h2⟩:=ug hv
    rw[e] at ag
    simp only[aB] at ag
    rw[opts lo,opts hi] at ag
    have h2':fW (ak P) c vs ((lo.map a.eval).toList++(hi.map a.eval).toList):=by
      have:(List.map ((fun p=> a.eval p.2)∘ fun y=>((ty,y):TypeId×Operand)) (lo.toList++hi.toList))=(lo.map a.eval).toList++(hi.map a.eval).toList:=by
        rw[←optl,←optl,←List.map_append];rfl
      rw[←this];exact h2
    have:=q7z (P:=P) (RX (P:=P) hs hu h1 h2' ag)
    simpa only[execOp,Sem.run_bind,Sem.run_pure,ad6] using this
   ·rename_i n el hu
    split at hc
    case h_2=> cases hc
    rename_i tag ht
    split at hc
    case isFalse=> cases hc
    rename_i bk
    obtain ⟨jE,mn,hmx⟩:=bk
    obtain rfl:mx=none:=by simpa using hmx
    obtain ⟨ys,hy,he⟩:=abD.1 hc
    simp only[Prod.mk.injEq] at he
    obtain ⟨rfl,rfl⟩:=he
    have hv:=q12z hf hy
    simp only[abR,acN] at hv
    obtain ⟨v1,vs,e,h1,h2⟩:=ug hv
    rw[e] at ag
    simp only[aB] at ag
    rw[opts lo,opts hi] at ag
    have h2':fW (ak P) c vs ((lo.map a.eval).toList++(hi.map a.eval).toList):=by
      have:(List.map ((fun p=> a.eval p.2)∘ fun y=>((ty,y):TypeId×Operand)) (lo.toList++hi.toList))=(lo.map a.eval).toList++(hi.map a.eval).toList:=by
        rw[←optl,←optl,←List.map_append];rfl
      rw[←this];exact h2
    have:=q7z (P:=P) (RU (P:=P) hL hs hu (cB jE) mn h1 h2' ag)
    simpa only[execOp,Sem.run_bind,Sem.run_pure,ad6] using this
   ·cases hc
 case fieldAddr T x i=>
   split at hc
   case h_2=> cases hc
   rename_i fields tag hu ht
   split at hc
   case h_2=> cases hc
   rename_i gs jG
   split at hc
   case isFalse=> cases hc
   rename_i bk
   obtain ⟨hfo,da⟩:=bk
   obtain ⟨y,hy,he⟩:=abD.1 hc
   simp only[Prod.mk.injEq] at he
   obtain ⟨rfl,rfl⟩:=he
   simp only[abR,ab1,aB] at ag
   obtain ⟨f,g,h1,h2,h3,h4⟩:=oW hfo
   have:=q7z (P:=P) (Yi (P:=P) hL hs hu h1 (by simpa[Bw,h1] using da) jG h4 (q22z hf hy) ag)
   simpa only[execOp,Sem.run_bind,Sem.run_pure] using this
 case field T x i=>
   split at hc
   case h_2=> cases hc
   rename_i fields tag hu ht
   split at hc
   case h_2=> cases hc
   rename_i gs jG
   split at hc
   case isFalse=> cases hc
   rename_i hfo
   obtain ⟨y,hy,he⟩:=abD.1 hc
   simp only[Prod.mk.injEq] at he
   obtain ⟨rfl,rfl⟩:=he
   simp only[abR,ab1,aB] at ag
   obtain ⟨f,g,h1,h2,h3,h4⟩:=oW hfo
   have:=q7z (P:=P) (RE (P:=P) hL hs hu h1 jG h2 h3 h4 (q22z hf hy) ag)
   simpa only[execOp,Sem.run_bind,Sem.run_pure] using this
 case indexAddr T x i=>
   split at hc
   ·rename_i n el hu
    split at hc
    case h_2=> cases hc
    rename_i tag ht
    split at hc
    case isFalse=> cases hc
    rename_i bk
    obtain ⟨jE,mn⟩:=bk
    obtain ⟨ys,hy,he⟩:=abD.1 hc
    simp only[Prod.mk.injEq] at he
    obtain ⟨rfl,rfl⟩:=he
    obtain ⟨v1,v2,e,h1,h2⟩:=dn (q12z hf hy)
    rw[e] at ag
    simp only[aB] at ag
    have:=q7z (P:=P) (RG (P:=P) hL hs hu (cB jE) mn h1 h2 ag)
    simpa only[execOp,Sem.run_bind,Sem.run_pure] using this
   ·rename_i el hu
    split at hc
    case isFalse=> cases hc
    rename_i jE
    obtain ⟨ys,hy,he⟩:=abD.1 hc
    simp only[Prod.mk.injEq] at he
    obtain ⟨rfl,rfl⟩:=he
    obtain ⟨v1,v2,e,h1,h2⟩:=dn (q12z hf hy)
    rw[e] at ag
    simp only[aB] at ag
    have:=q7z (P:=P) (RH (P:=P) hL hs hu (cB jE) h1 h2 ag)
    simpa only[execOp,Sem.run_bind,Sem.run_pure] using this
   ·cases hc
 case index T x i=>
   split at hc
   ·rename_i n el hu
    split at hc
    case h_2=> cases hc
    rename_i tag ht
    split at hc
    case isFalse=> cases hc
    rename_i bk
    obtain ⟨jE,mn⟩:=bk
    obtain ⟨ys,hy,he⟩:=abD.1 hc
    simp only[Prod.mk.injEq] at he
    obtain ⟨rfl,rfl⟩:=he
    obtain ⟨v1,v2,e,h1,h2⟩:=dn (q12z hf hy)
    rw[e] at ag
    simp only[aB] at ag
    have:=q7z (P:=P) (RI (P:=P) hL hs hu (cB jE) mn h1 h2 ag)
    simpa only[execOp,Sem.run_bind,Sem.run_pure] using this
   ·rename_i hu
    obtain ⟨ys,hy,he⟩:=abD.1 hc
    simp only[Prod.mk.injEq] at he
    obtain ⟨rfl,rfl⟩:=he
    obtain ⟨v1,v2,e,h1,h2⟩:=dn (q12z hf hy)
    rw[e] at ag
    simp only[aB] at ag
    have:=q7z (P:=P) (MP (P:=P) hs hu h1 h2 ag)
    simpa only[execOp,Sem.run_bind,Sem.run_pure] using this
   ·cases hc
end
end Go.Vm
namespace Go.Vm
variable {P : Program} {obj : Nat → Bool} {c : Ctx} {h : Hp} {w : World}
theorem wg {f:Nat} {args:Array Value} {fn:Func} (h1:P.funcs[f]? =some fn) (h2:fn.body.isSome=true) (h3:(fn.name== "runtime.NumGoroutine")=false) (w:World):
 (callFunc f args).run P w= .ok (.enter f args) w:=by
 have h4:fn.body≠none:=fun e=> by rw[e] at h2;cases h2
 have h5:fn.name≠ "runtime.NumGoroutine" :=fun e=> by rw[e] at h3;simp at h3
 simp[callFunc,h1,h4,h5]
theorem pN {α β:Type}:∀(l:List α) (m:List β),l.length=m.length→(l.zip m).map (·.2)=m
 | [],[],_=> rfl
 | [],_::_,h=> by simp at h
 | _::_,[],h=> by simp at h
 | a::l,b::m,h=> by simp only[List.zip_cons_cons,abR];rw[pN l m (by simpa using h)]
theorem oX {L:cx}:∀ {vs vs':List V} {us us':List Value},fW L c vs us→fW L c vs' us'→fW L c (vs++vs') (us++us')
 | [],_,[],_,_,h=> h
 | v::vs,_,u::us,_,h,h'=>⟨h.1,oX h.2 h'⟩
 | [],_,_::_,_,h,_=> h.elim
 | _::_,_,[],_,h,_=> h.elim
theorem iM {α:Type} {a:Array α} {x y:α} (h:a.toList=[x,y]):a= #[x,y]:=by
 apply adr;simpa using h
theorem kS {α:Type} {a:Array α} {x:α} (h:a.toList=[x]):a= #[x]:=by
 apply adr;simpa using h
section
variable (hL : (ak P).OK) {cf : Nat → List V → Hp → Option (V × Hp)} {base : Nat} (gD : cA P (ak P) cf) {fr : Fr} {a : Act} (hf : RF (ak P) c fr a) (hs : bj (ak P) c h w) {o : Oper} {g : O} {xs : List X} {v : V} {h' : Hp}
include hL gD hf hs
theorem Sv {cl:Call} {ty:TypeId} (hc:si P obj ty (.call cl)=some (g,xs)) (ag:aB cf base h g (xs.map (X.ev fr))=some (v,h')):
 pM P (ak P) c w ((resolve a.eval cl ty >>=fun d=> invoke d.target d.args).run P w) v h':=by
 obtain ⟨callee,args,argTypes⟩:=cl
 simp only[si] at hc
 split at hc
 ·rename_i f
  obtain ⟨xs',nS,hc⟩:=abN.1 hc
  split at hc
  case isFalse=> cases hc
  rename_i cG
  simp only[Option.some.injEq,Prod.mk.injEq] at hc
  obtain ⟨rfl,rfl⟩:=hc
  simp only[aB] at ag
  have hv:=q12z hf nS
  obtain ⟨⟨fn,h1,h2,h3⟩,iW⟩:=gD _ _ _ _ _ ag
  refine Or.inr ⟨f,(args.map a.eval).toList,?_,iW c w _ ?_ hs⟩
  ·have e:((args.map a.eval).toList).toArray=args.map a.eval:=Array.toArray_toList
   rw[e]
   simp[resolve,Deferred.ofValue,Act.eval,invoke,wg h1 h2 h3]
  ·have:(List.map (fun p=> a.eval p.2) (argTypes.toList.zip args.toList))=(args.map a.eval).toList:=by
     rw[aeR,←pN argTypes.toList args.toList (by simpa using cG),acN,pN _ _ (by simpa using cG)];rfl
   rw[←this];exact hv
 ·rename_i n
  obtain ⟨xs',nS,hc⟩:=abN.1 hc
  split at hc
  case isFalse=> cases hc
  rename_i cG
  simp only[Option.some.injEq,Prod.mk.injEq] at hc
  obtain ⟨rfl,rfl⟩:=hc
  have hv:=q12z hf nS
  have hfv:=q22z (P:=P) (t:=ty) hf (o:= .tmp n) (x:= .t n) rfl
  simp only[abR] at ag
  generalize hfx:X.ev fr (.t n)=fx at ag hfv
  cases fx <;> simp only[aB] at ag <;> try (cases ag;done)
  rename_i f cap
  obtain ⟨ws,hfu,hws⟩:=Dh.1 hfv
  obtain ⟨⟨fn,h1,h2,h3⟩,iW⟩:=gD _ _ _ _ _ ag
  have hv':fW (ak P) c (xs'.map (X.ev fr)) (args.map a.eval).toList:=by
    have:(List.map (fun p=> a.eval p.2) (argTypes.toList.zip args.toList))=(args.map a.eval).toList:=by
      rw[aeR,←pN argTypes.toList args.toList (by simpa using cG),acN,pN _ _ (by simpa using cG)];rfl
    rw[←this];exact hv
  refine Or.inr ⟨f,(args.map a.eval).toList++ws,?_,iW c w _ (oX hv' hws) hs⟩
  have e:((args.map a.eval).toList++ws).toArray=args.map a.eval++ws.toArray:=by apply adr;simp
  rw[e]
  simp[resolve,hfu,Deferred.ofValue,invoke,wg h1 h2 h3]
 ·rename_i b
  split at hc
  ·rename_i T x hT hx
   obtain rfl:=kS hT
   obtain rfl:=kS hx
   split at hc
   ·rename_i el hu
    obtain ⟨y,hy,he⟩:=abD.1 hc
    simp only[Prod.mk.injEq] at he
    obtain ⟨rfl,rfl⟩:=he
    simp only[abR,ab1,aB] at ag
    have:=q7z (P:=P) (RQ (P:=P) hs hu (ty:=ty) (q22z hf hy) ag)
    simpa[resolve,invoke,builtin] using this
   ·rename_i hu
    obtain ⟨y,hy,he⟩:=abD.1 hc
    simp only[Prod.mk.injEq] at he
    obtain ⟨rfl,rfl⟩:=he
    simp only[abR,ab1,aB] at ag
    have:=q7z (P:=P) (Sl (P:=P) hs hu (ty:=ty) (q22z hf hy) ag)
    simpa[resolve,invoke,builtin] using this
   ·rename_i hu
    obtain ⟨y,hy,he⟩:=abD.1 hc
    simp only[Prod.mk.injEq] at he
    obtain ⟨rfl,rfl⟩:=he
    simp only[abR,ab1,aB] at ag
    have:=q7z (P:=P) (MM (P:=P) hs hu (ty:=ty) (q22z hf hy) ag)
    simpa[resolve,invoke,builtin] using this
   ·cases hc
  ·rename_i T T' x y hT hx
   obtain rfl:=iM hT
   obtain rfl:=iM hx
   split at hc
   case h_2=> cases hc
   rename_i el hu
   have key:∀z:V,zeroOf P obj el=some z→ox P el=true→0 < P.bytesOf el→((∃e2,P.underlying T'=some (.slice e2))∨P.underlying T'=some .string)→(cy P [(T,x),(T',y)]).map (fun xs=>(EU (obj (4000000+T)) (aG P el) (P.bytesOf el),xs))=some (g,xs)→
    pM P (ak P) c w ((resolve a.eval {callee:= .builtin .append,args:= #[x,y],argTypes:= #[T,T']} ty >>=fun d=> invoke d.target d.args).run P w) v h':=by
     intro z hz jE gX h2 hc
     obtain ⟨ys,hy,he⟩:=abD.1 hc
     simp only[Prod.mk.injEq] at he
     obtain ⟨rfl,rfl⟩:=he
     obtain ⟨v1,v2,e,r1,r2⟩:=dn (q12z hf hy)
     rw[e] at ag
     obtain ⟨rJ,js,iN⟩:=cL hz
     obtain ⟨i,hi,_⟩:=(cB jE).info
     have hb:P.bytesOf el=i.bytes:=by simp[Program.bytesOf,hi]
     rw[hb] at ag gX
     rcases JZ ag with ag | ag
     ·obtain ⟨⟨v',h''⟩,h1,h3⟩:=abN.1 ag
      have:=q7z (P:=P) (zl hL (Bh (P:=P) hL hs hu (cB jE) hi rJ js iN h2 (ty:=ty) gX r1 r2 h1) h3)
      simpa[resolve,invoke,builtin] using this
     ·have:=q7z (P:=P) (Bh (P:=P) hL hs hu (cB jE) hi rJ js iN h2 (ty:=ty) gX r1 r2 ag)
      simpa[resolve,invoke,builtin] using this
   split at hc
   ·rename_i z e2 hz zZ
    split at hc
    case isFalse=> cases hc
    rename_i bk
    exact key z hz bk.1 bk.2 (Or.inl ⟨_,zZ⟩) hc
   ·rename_i z kd hz zZ
    split at hc
    case isFalse=> cases hc
    rename_i bk
    obtain ⟨jE,gX⟩:=bk
    obtain ⟨ys,hy,he⟩:=abD.1 hc
    simp only[Prod.mk.injEq] at he
    obtain ⟨rfl,rfl⟩:=he
    obtain ⟨v1,v2,e,r1,r2⟩:=dn (q12z hf hy)
    rw[e] at ag
    obtain ⟨rJ,js,iN⟩:=cL hz
    obtain ⟨i,hi,_⟩:=(cB jE).info
    have hb:P.bytesOf el=i.bytes:=by simp[Program.bytesOf,hi]
    rw[hb] at ag gX
    simp only[aB] at ag
    have:=q7z (P:=P) (RZ (P:=P) hL hs hu (cB jE) hi rJ js iN zZ (ty:=ty) gX r1 r2 ag)
    simpa[resolve,invoke,builtin] using this
   ·rename_i z hz zZ
    split at hc
    case isFalse=> cases hc
    rename_i bk
    exact key z hz bk.1 bk.2 (Or.inr zZ) hc
   ·cases hc
  ·rename_i T x hT hx
   obtain rfl:=kS hT
   obtain rfl:=kS hx
   split at hc
   case h_2=> cases hc
   rename_i el hu
   obtain ⟨y,hy,he⟩:=abD.1 hc
   simp only[Prod.mk.injEq] at he
   obtain ⟨rfl,rfl⟩:=he
   simp only[abR,ab1,aB] at ag
   have:=q7z (P:=P) (RR (P:=P) hs hu (ty:=ty) (q22z hf hy) ag)
   simpa[resolve,invoke,builtin] using this
  ·rename_i T T' x y hT hx
   obtain rfl:=iM hT
   obtain rfl:=iM hx
   split at hc
   case h_2=> cases hc
   rename_i el hu
   split at hc
   case isFalse=> cases hc
   rename_i jE
   obtain ⟨ys,hy,he⟩:=abD.1 hc
   simp only[Prod.mk.injEq] at he
   obtain ⟨rfl,rfl⟩:=he
   obtain ⟨v1,v2,e,r1,r2⟩:=dn (q12z hf hy)
   rw[e] at ag
   simp only[aB] at ag
   have:=q7z (P:=P) (R0 (P:=P) (T2:=T') hL hs hu (cB jE) (ty:=ty) r1 r2 ag)
   simpa[resolve,invoke,builtin] using this
  ·rename_i T x hT hx
   obtain rfl:=kS hT
   obtain rfl:=kS hx
   split at hc
   case h_2=> cases hc
   rename_i el hu
   split at hc
   case h_2=> cases hc
   rename_i z hz
   split at hc
   case isFalse=> cases hc
   rename_i jE
   obtain ⟨y,hy,he⟩:=abD.1 hc
   simp only[Prod.mk.injEq] at he
   obtain ⟨rfl,rfl⟩:=he
   simp only[abR,ab1,aB] at ag
   obtain ⟨rJ,js,iN⟩:=cL hz
   have:=q7z (P:=P) (Sh (P:=P) hL hs hu (cB jE) rJ js iN (ty:=ty) (q22z hf hy) ag)
   simpa[resolve,invoke,builtin] using this
  ·rename_i T T' x y hT hx
   obtain rfl:=iM hT
   obtain rfl:=iM hx
   obtain ⟨ys,hy,he⟩:=abD.1 hc
   simp only[Prod.mk.injEq] at he
   obtain ⟨rfl,rfl⟩:=he
   obtain ⟨v1,v2,e,r1,r2⟩:=dn (q12z hf hy)
   rw[e] at ag
   simp only[aB] at ag
   have:=q7z (P:=P) (Sa (P:=P) (Ts:= #[T,T']) hs (ty:=ty) r1 r2 ag)
   simpa[resolve,invoke,builtin] using this
  ·rename_i T T' x y hT hx
   obtain rfl:=iM hT
   obtain rfl:=iM hx
   obtain ⟨ys,hy,he⟩:=abD.1 hc
   simp only[Prod.mk.injEq] at he
   obtain ⟨rfl,rfl⟩:=he
   obtain ⟨v1,v2,e,r1,r2⟩:=dn (q12z hf hy)
   rw[e] at ag
   simp only[aB] at ag
   have:=q7z (P:=P) (Sb (P:=P) (Ts:= #[T,T']) hs (ty:=ty) r1 r2 ag)
   simpa[resolve,invoke,builtin] using this
  ·cases hc
 ·cases hc
theorem Sw (hc:si P obj o.type o.op=some (g,xs)) (ag:aB cf base h g (xs.map (X.ev fr))=some (v,h')) (hk:match o.op with | .makeMap .. | .lookup .. | .mapUpdate .. | .insert .. | .mapEntry .. | .entryStore .. | .sliceToArrayPointer .. => True | _=> False):
 pM P (ak P) c w ((execOp a.eval o).run P w) v h':=by
 obtain ⟨dst,op,ty,pos,after,guard⟩:=o
 simp only at hc hk ⊢
 cases op <;> simp only at hk
 case sliceToArrayPointer T x=>
   simp only[si] at hc
   split at hc
   case h_2=> cases hc
   rename_i n el tag hu ht
   split at hc
   case isFalse=> cases hc
   rename_i ha
   obtain ⟨y,hy,he⟩:=abD.1 hc
   simp only[Prod.mk.injEq] at he
   obtain ⟨rfl,rfl⟩:=he
   simp only[abR,ab1,aB] at ag
   have:=q7z (P:=P) (Sn (P:=P) hL hs hu ha (q22z hf hy) ag)
   simpa only[execOp,Sem.run_bind,Sem.run_pure] using this
 case makeMap t r=>
   cases r with
   | some r=> simp[si] at hc
   | none=>
     simp only[si] at hc
     split at hc
     case h_2=> cases hc
     cases hc
     have e:aB cf base h .mkm []=some (.mp h.length,h++[.map [] 0]):=rfl
     rw[ab1,e] at ag
     cases ag
     have:=q7z (P:=P) (Si (P:=P) hs t)
     simpa only[execOp,Sem.run_bind,Sem.run_pure,ad6] using this
 case lookup T x ix ok=>
   simp only[si] at hc
   split at hc
   case h_2=> cases hc
   rename_i kt et hu
   split at hc
   case h_2=> cases hc
   rename_i kc z hkc hz
   obtain ⟨ys,hy,he⟩:=abD.1 hc
   simp only[Prod.mk.injEq] at he
   obtain ⟨rfl,rfl⟩:=he
   obtain ⟨v1,v2,e,r1,r2⟩:=dn (q12z hf hy)
   rw[e] at ag
   simp only[aB] at ag
   have:=q7z (P:=P) (Sj (P:=P) hs hu (sh hkc) (cL hz).1 r1 r2 ag)
   simpa only[execOp,Sem.run_bind,Sem.run_pure] using this
 case mapEntry T x ix=>
   simp only[si] at hc
   split at hc
   case h_2=> cases hc
   rename_i kt et hu
   split at hc
   case h_2=> cases hc
   rename_i kc z hkc hz
   obtain ⟨ys,hy,he⟩:=abD.1 hc
   simp only[Prod.mk.injEq] at he
   obtain ⟨rfl,rfl⟩:=he
   obtain ⟨v1,v2,e,r1,r2⟩:=dn (q12z hf hy)
   rw[e] at ag
   simp only[aB] at ag
   have:=q7z (P:=P) (Sk (P:=P) hs hu (sh hkc) (cL hz).1 r1 r2 ag)
   simpa only[execOp,Sem.run_bind,Sem.run_pure] using this
 case entryStore T x ix y=>
   simp only[si] at hc
   split at hc
   case h_2=> cases hc
   rename_i kt et hu
   obtain ⟨ys,hy,he⟩:=abD.1 hc
   simp only[Prod.mk.injEq] at he
   obtain ⟨rfl,rfl⟩:=he
   obtain ⟨v1,v2,v3,e,r1,r2,r3⟩:=nM (q12z hf hy)
   rw[e] at ag
   simp only[aB] at ag
   obtain ⟨w',h3,rfl,h4,h5⟩:=Sm (P:=P) (T:=T) hs r1 r2 r3 ag
   refine Or.inl ⟨undef,c,w',Or.inr ⟨?_,rfl⟩,cz.2 ⟨[],rfl,trivial⟩,h4,Ctx.le_refl c,h5⟩
   simp only at h3
   simp[execOp,h3]
 case mapUpdate T x ix y=>
   simp only[si] at hc
   split at hc
   case h_2=> cases hc
   rename_i kt et hu
   split at hc
   case h_2=> cases hc
   rename_i kc hkc
   obtain ⟨ys,hy,he⟩:=abD.1 hc
   simp only[Prod.mk.injEq] at he
   obtain ⟨rfl,rfl⟩:=he
   obtain ⟨v1,v2,v3,e,r1,r2,r3⟩:=nM (q12z hf hy)
   rw[e] at ag
   simp only[aB] at ag
   obtain ⟨w',h3,rfl,h4,h5⟩:=JQ (P:=P) hs hu (sh hkc) r1 r2 r3 ag
   refine Or.inl ⟨undef,c,w',Or.inr ⟨?_,rfl⟩,cz.2 ⟨[],rfl,trivial⟩,h4,Ctx.le_refl c,h5⟩
   simp only at h3
   simp[execOp,h3]
 case insert T x ix y=>
   simp only[si] at hc
   split at hc
   case h_2=> cases hc
   rename_i kt et hu
   split at hc
   case h_2=> cases hc
   rename_i kc hkc
   obtain ⟨ys,hy,he⟩:=abD.1 hc
   simp only[Prod.mk.injEq] at he
   obtain ⟨rfl,rfl⟩:=he
   obtain ⟨v1,v2,v3,e,r1,r2,r3⟩:=nM (q12z hf hy)
   rw[e] at ag
   simp only[aB] at ag
   obtain ⟨w',h3,rfl,h4,h5⟩:=JQ (P:=P) hs hu (sh hkc) r1 r2 r3 ag
   refine Or.inl ⟨undef,c,w',Or.inr ⟨?_,rfl⟩,cz.2 ⟨[],rfl,trivial⟩,h4,Ctx.le_refl c,h5⟩
   simp only at h3
   simp[execOp,h3]
theorem sound (hc:si P obj o.type o.op=some (g,xs)) (ag:aB cf base h g (xs.map (X.ev fr))=some (v,h')):
 pM P (ak P) c w ((execOp a.eval o).run P w) v h':=by
 have hc0:=hc
 obtain ⟨dst,op,ty,pos,after,guard⟩:=o
 cases op
 case call cl=> exact Sv hL gD hf hs hc ag
 case panic x=>
   simp only[si,Option.some.injEq,Prod.mk.injEq] at hc
   obtain ⟨rfl,rfl⟩:=hc
   simp[aB] at ag
 all_goals first
   | exact Sp hL hf hs hc ag trivial
   | exact Ss hL hf hs hc ag trivial
   | exact Su hL hf hs hc ag trivial
   | exact Sw hL gD hf hs hc ag trivial
   | (simp only[si] at hc;cases hc;done)
end
end Go.Vm
namespace Go.Vm
variable {P : Program} {obj : Nat → Bool} {c : Ctx} {h : Hp} {w : World}
theorem fW.mono {L:cx} {c':Ctx} (hle:c.le c'):∀ {vs:List V} {us:List Value},fW L c vs us→fW L c' vs us
 | [],[],_=> trivial
 | _::_,_::_,h=>⟨h.1.mono hle,fW.mono hle h.2⟩
 | [],_::_,h=> h.elim
 | _::_,[],h=> h.elim
theorem fW.set {L:cx} {v:V} {u:Value} (hv:RV L c v u):∀ {vs:List V} {us:List Value} (t:Nat),fW L c vs us→fW L c (vs.set t v) (us.set t u)
 | [],[],_,_=> trivial
 | _::_,_::_,0,h=>⟨hv,h.2⟩
 | _::_,_::_,t+1,h=>⟨h.1,fW.set hv t h.2⟩
 | [],_::_,_,h=> h.elim
 | _::_,[],_,h=> h.elim
theorem RF.mono {L:cx} {c':Ctx} {fr:Fr} {a:Act} (hle:c.le c') (h:RF L c fr a):RF L c' fr a:=fW.mono hle h
theorem RF.put {L:cx} {fr:Fr} {a:Act} {v:V} {u:Value} (h:RF L c fr a) (hv:RV L c v u) (d:Option Nat):RF L c (gY fr d v) (a.put d u):=by
 cases d with
 | none=> exact h
 | some t=>
   simp only[RF,gY,Act.put,ac9]
   exact fW.set hv t h
def cog (P:Program) (obj:Nat→Bool) (ops:List Oper) (o:Oper):Option G:=
 match si P obj o.type o.op,o.guard with
 | some (op,xs),none=> some ⟨o.dst,op,xs,none⟩
 | some (op,xs),some (j,b)=> match (ops[j]?).bind (·.dst) with
   | some d=> some ⟨o.dst,op,xs,some (d,b)⟩
   | none=> none
 | none,_=> none
theorem kT {ops:List Oper} {o:Oper} {g:G} (h:cog P obj ops o=some g):si P obj o.type o.op=some (g.op,g.xs)∧g.dst=o.dst∧
 ((o.guard=none∧g.guard=none)∨∃j b d,o.guard=some (j,b)∧(ops[j]?).bind (·.dst)=some d∧g.guard=some (d,b)):=by
 unfold cog at h
 split at h
 ·rename_i op xs h1 h2
  simp only[Option.some.injEq] at h
  subst h
  exact ⟨h1,rfl,Or.inl ⟨h2,rfl⟩⟩
 ·rename_i op xs j b h1 h2
  split at h
  ·rename_i d hd
   simp only[Option.some.injEq] at h
   subst h
   exact ⟨h1,rfl,Or.inr ⟨j,b,d,h2,hd,rfl⟩⟩
  ·cases h
 ·cases h
theorem jP {L:cx} {ops:List Oper} {o:Oper} {g:G} (hg:cog P obj ops o=some g) {fr:Fr} {a:Act} (hf:RF L c fr a) {b:Bool} (hw:want fr g=some b):
 Region.wanted o (yielded ops.toArray a.tmps)=b:=by
 obtain ⟨_,_,h⟩:=kT hg
 rcases h with ⟨h1,h2⟩ | ⟨j,b',d,h1,h2,h3⟩
 ·simp only[want,h2,Option.some.injEq] at hw
  simp[Region.wanted,h1,←hw]
 ·simp only[want,h3] at hw
  simp only[Region.wanted,h1,yielded,acG,h2,ac3]
  have hlen:=fW.length hf
  by_cases hd:d < fr.length
  ·have wj:d < a.tmps.toList.length:=by rw[hlen];exact hd
   have jY:=hf.get d fr[d] a.tmps.toList[d] (abE hd) (abE wj)
   have e1:fr.getD d .top=fr[d]:=by simp[List.getD,abE hd]
   have e2:a.tmps[d]? =some a.tmps.toList[d]:=by rw[←Array.getElem?_toList,abE wj]
   rw[e1] at hw
   rw[e2]
   generalize fr[d]=x at hw jY
   generalize a.tmps.toList[d]=y at jY
   split at hw
   ·obtain ⟨rfl,_⟩:=bB.1 jY
    simp only[Option.some.injEq] at hw
    subst hw
    rfl
   ·obtain ⟨ws,rfl,hws⟩:=cz.1 jY
    simp only[Option.some.injEq] at hw
    subst hw
    rfl
   ·cases hw
  ·have e1:fr.getD d .top= .top:=by simp[List.getD,ach (ad3 hd)]
   rw[e1] at hw
   cases hw
theorem jQ (a:Act) (d:Option Nat) (v:Value):(a.put d v).defers=a.defers:=by cases d <;> rfl
section
variable (hL : (ak P).OK) {cf : Nat → List V → Hp → Option (V × Hp)} {base : Nat} (gD : cA P (ak P) cf)
include hL gD
theorem uh {ops:List Oper} {o:Oper} {g:G} (hg:cog P obj ops o=some g) {fr:Fr} {a:Act} (hf:RF (ak P) c fr a) (hs:bj (ak P) c h w) {v:V} {h':Hp} (ba:Vm.stepG cf base fr h g=some (v,h'))
 {K:Act→World→Prop} {Q:Exit→Act→World→Prop}
 (hK:∀u c' w',RV (ak P) c' v u→bj (ak P) c' h' w'→c.le c'→St w w'→K (a.put o.dst u) w'):
 if Region.wanted o (yielded ops.toArray a.tmps) then o.wp P a w K Q∨(o.asks P a w∧LetsOut Q) else K (a.put o.dst undef) w:=by
 unfold Vm.stepG at ba
 split at ba
 ·rename_i hw
  rw[jP hg hf hw,if_pos rfl]
  obtain ⟨hc,hd,_⟩:=kT hg
  left
  unfold Oper.wp
  rcases sound hL gD hf hs hc ba with ⟨u,c',w',hr,hv,dv,hle,ib⟩ | ⟨f,us,hr,iW⟩
  ·rcases hr with hr | ⟨hr,rfl⟩
   ·rw[hr];exact hK u c' w' hv dv hle ib
   ·rw[hr];exact hK undef c' w' hv dv hle ib
  ·rw[hr]
   refine Calls.mono iW fun e w' he=> ?_
   obtain ⟨u,c',rfl,hv,dv,hle,ib⟩:=he
   exact hK u c' w' hv dv hle ib
 ·rename_i hw
  simp only[Option.some.injEq,Prod.mk.injEq] at ba
  obtain ⟨rfl,rfl⟩:=ba
  rw[jP hg hf hw]
  exact hK undef c w (cz.2 ⟨[],rfl,trivial⟩) hs (Ctx.le_refl c) (St.refl w)
 ·cases ba
def Ends (P:Program) (c:Ctx) (w:World) (a:Act) (fr':Fr) (h':Hp) (K:Act→World→Prop):Prop:=
 ∀a' c' w',RF (ak P) c' fr' a'→bj (ak P) c' h' w'→c.le c'→St w w'→a'.defers=a.defers→K a' w'
def rM (P:Program) (obj:Nat→Bool) (all:List Oper):List Oper→Option (List G)
 | []=> some []
 | o::os=> match cog P obj all o,rM P obj all os with
   | some g,some gs=> some (g::gs)
   | _,_=> none
theorem uj {all:List Oper} {Q:Exit→Act→World→Prop} {base:Nat}:∀ {os:List Oper} {gs:List G} {pre:List Oper},all=pre++os→rM P obj all os=some gs→∀ {fr:Fr} {a:Act} {c:Ctx} {h:Hp} {w:World},RF (ak P) c fr a→bj (ak P) c h w→
 ∀ {fr':Fr} {h':Hp},kD cf base gs fr h=some (fr',h')→Ends P c w a fr' h' (Q .normal)→
 wpOps P all.toArray Q (List.range' pre.length os.length) a w
 | [],gs,pre,cJ,hc,fr,a,c,h,w,hf,hs,fr',h',hr,hE=> by
   simp only[rM,Option.some.injEq] at hc
   subst hc
   simp only[kD,Option.some.injEq,Prod.mk.injEq] at hr
   obtain ⟨rfl,rfl⟩:=hr
   exact hE a c w hf hs (Ctx.le_refl c) (St.refl w) rfl
 | o::os,gs,pre,cJ,hc,fr,a,c,h,w,hf,hs,fr',h',hr,hE=> by
   simp only[rM] at hc
   split at hc
   case h_2=> cases hc
   rename_i g gs' hg jG
   simp only[Option.some.injEq] at hc
   subst hc
   simp only[kD] at hr
   split at hr
   case h_2=> cases hr
   rename_i v h1 ba
   have ho:all.toArray[pre.length]? =some o:=by simp[cJ]
   simp only[ab3,adH,wpOps,ho]
   refine uh (Q:=Q) hL gD hg hf hs ba fun u c' w' hv dv hle ib=> ?_
   have hlen:pre.length+1=(pre++[o]).length:=by simp
   rw[hlen]
   refine uj (base:=base) (fr':=fr') (h':=h') (pre:=pre++[o]) (by simp[cJ]) jG (RF.put (hf.mono hle) hv o.dst) dv (by rw[←(kT hg).2.1];exact hr) ?_
   intro a2 c2 w2 h1 h2 h3 h4 h5
   exact hE a2 c2 w2 h1 h2 (hle.trans h3) (ib.trans h4) (by rw[h5,jQ])
theorem xJ {id:Nat} {all:List Oper} {gs:List G} (hc:rM P obj all all=some gs) {fr:Fr} {a:Act} (hf:RF (ak P) c fr a) (hs:bj (ak P) c h w) {fr':Fr} {h':Hp} (hr:kD cf base gs fr h=some (fr',h')) {Q:Exit→Act→World→Prop}
 (hE:Ends P c w a fr' h' (Q .normal)):(Code.region id all.toArray false).wp P Q a w:=by
 refine wp_region ?_
 have:=uj (base:=base) hL gD (Q:=Q) (pre:=[]) (all:=all) (os:=all) rfl hc hf hs hr hE
 simpa[acV] using this
end
end Go.Vm
namespace Go.Vm
def GD.ca (d:GD):Bool:=d.g.op.ca
def eV (ds:List GD) (j:Nat):Nat:=(ds.take j).countP GD.ca
theorem jB (ds:List GD):eV ds 0=0:=by simp[eV]
theorem eJ (d:GD) (ds:List GD) (j:Nat):eV (d::ds) (j+1)=(if d.ca then 1 else 0)+eV ds j:=by
 simp only[eV,adb,aeN];omega
theorem uk {ds:List GD} {j:Nat} {d:GD} (h:ds[j]? =some d):eV ds (j+1)=eV ds j+(if d.ca then 1 else 0):=by
 simp only[eV,adB,h,Option.toList,List.countP_append,aeN,List.countP_nil];omega
theorem J1 (ds:List GD) {i j:Nat} (h:i≤j):eV ds i≤eV ds j:=by
 induction j with
 | zero=> have:i=0:=by omega
          subst this;exact abJ _
 | succ j ih=>
   rcases Nat.eq_or_lt_of_le h with rfl | h'
   ·exact abJ _
   ·refine acm (ih (by omega)) ?_
    cases hd:ds[j]? with
    | some d=> rw[uk hd];omega
    | none=>
      have:ds.length≤j:=aeC.1 hd
      simp[eV,abG this,abG (Nat.le_succ_of_le this)]
theorem jR (ds:List GD) {j m:Nat} (h:m < eV ds j):∃k d,k < j∧ds[k]? =some d∧d.ca=true∧eV ds k=m:=by
 induction j with
 | zero=> simp[eV] at h
 | succ j ih=>
   by_cases hm:m < eV ds j
   ·obtain ⟨k,d,h1,h2⟩:=ih hm
    exact ⟨k,d,by omega,h2⟩
   ·cases hd:ds[j]? with
    | none=>
      have:ds.length≤j:=aeC.1 hd
      have e:eV ds (j+1)=eV ds j:=by simp[eV,abG this,abG (Nat.le_succ_of_le this)]
      omega
    | some d=>
      rw[uk hd] at h
      by_cases he:d.ca=true
      ·simp only[he,if_true] at h
       exact ⟨j,d,by omega,hd,he,by omega⟩
      ·simp only[he] at h
       simp at h
       omega
theorem xK {ds:List GD} {k j:Nat} {d:GD} (hk:ds[k]? =some d) (he:d.ca=true) (h:k < j):eV ds k < eV ds j:=by
 have:=J1 ds (i:=k+1) (j:=j) h
 rw[uk hk] at this
 simp[he] at this
 omega
section
variable (cf : Nat → List V → Hp → Option (V × Hp)) (base : Nat)
structure Tr (ds:List GD) (fr:Fr) (h:Hp) (fr':Fr) (h':Hp) (vals:Nat→V) (frs:Nat→Fr) (hs:List Hp):Prop where
 fst:frs 0=fr
 lst:frs ds.length=fr'
 next:∀(j:Nat) (d:GD),ds[j]? =some d→frs (j+1)=gY (frs j) d.g.dst (vals j)
 len:hs.length=eV ds ds.length+1
 zt:hs[0]? =some h
 EX:hs[eV ds ds.length]? =some h'
 ca:∀(j:Nat) (d:GD),ds[j]? =some d→d.ca=true→∃hp hq,hs[eV ds j]? =some hp∧hs[eV ds j+1]? =some hq∧stepG cf base (frs j) hp d.g=some (vals j,hq)
theorem MS :∀(ds:List GD) (fr:Fr) (h:Hp) (p7:List Hp) (xs0:List Seen) (fr':Fr) (h':Hp) (dv:List Hp) (xs':List Seen),na cf base ds fr h p7 xs0=some (fr',h',dv,xs')→
 ∃vals frs hs ys,Tr cf base ds fr h fr' h' vals frs hs∧dv=p7++hs∧xs'=xs0++ys∧(∀(j:Nat) (d:GD),ds[j]? =some d→d.ca=false→⟨d,frs j,vals j⟩∈ys):=by
 intro ds
 induction ds with
 | nil=>
   intro fr h p7 xs0 fr' h' dv xs' hr
   simp only[na,Option.some.injEq,Prod.mk.injEq] at hr
   obtain ⟨rfl,rfl,rfl,rfl⟩:=hr
   exact ⟨fun _=> .top,fun _=> fr,[h],[],⟨rfl,rfl,fun j d hd=> by simp at hd,by simp[eV],rfl,by simp[eV],fun j d hd=> by simp at hd⟩,rfl,by simp,fun j d hd=> by simp at hd⟩
 | cons d ds ih=>
   intro fr h p7 xs0 fr' h' dv xs' hr
   simp only[na] at hr
   split at hr
   case h_2=> cases hr
   rename_i v h1 ba
   have common:∀(h2:Hp) (vals:Nat→V) (frs:Nat→Fr) (hs:List Hp),Tr cf base ds (gY fr d.g.dst v) h2 fr' h' vals frs hs→
    (d.ca=true→h2=h1)→(d.ca=false→h2=h)→
    Tr cf base (d::ds) fr h fr' h' (fun j=> match j with | 0=> v | j+1=> vals j) (fun j=> match j with | 0=> fr | j+1=> frs j) (if d.ca then h::hs else hs):=by
     intro h2 vals frs hs t he hn
     constructor
     ·rfl
     ·exact t.lst
     ·intro j d' hd
      cases j with
      | zero=>
        simp only[ab0,Option.some.injEq] at hd
        subst hd
        exact t.fst
      | succ j=> exact t.next j d' (by simpa using hd)
     ·rw[ab3,eJ]
      have:=t.len
      split <;> simp <;> omega
     ·split
      ·rfl
      ·rename_i hc
       rw[t.zt,hn (by simpa using hc)]
     ·rw[ab3,eJ]
      split
      ·rw[ady];simpa using t.EX
      ·simpa using t.EX
     ·intro j d' hd wj
      cases j with
      | zero=>
        simp only[ab0,Option.some.injEq] at hd
        subst hd
        refine ⟨h,h1,?_,?_,ba⟩
        ·simp[jB,wj]
        ·simp only[jB,wj,if_true]
         simpa[he wj] using t.zt
      | succ j=>
        obtain ⟨hp,hq,a1,a2,a3⟩:=t.ca j d' (by simpa using hd) wj
        refine ⟨hp,hq,?_,?_,a3⟩
        ·rw[eJ];split
         ·rw[ady];simpa using a1
         ·simpa using a1
        ·rw[eJ];split
         ·rw[ady 1];simpa using a2
         ·simpa using a2
   split at hr
   ·rename_i he
    obtain ⟨vals,frs,hs,ys,t,e1,e2,e3⟩:=ih _ _ _ _ _ _ _ _ hr
    refine ⟨_,_,_,ys,common h1 vals frs hs t (fun _=> rfl) (fun hf=> by simp[GD.ca,he] at hf),?_,e2,?_⟩
    ·simp[GD.ca,he,e1]
    ·intro j d' hd wj
     cases j with
     | zero=>
       simp only[ab0,Option.some.injEq] at hd
       subst hd
       simp[GD.ca,he] at wj
     | succ j=> exact e3 j d' (by simpa using hd) wj
   ·rename_i he
    obtain ⟨vals,frs,hs,ys,t,e1,e2,e3⟩:=ih _ _ _ _ _ _ _ _ hr
    refine ⟨_,_,_,⟨d,fr,v⟩::ys,common h vals frs hs t (fun hf=> by simp[GD.ca,he] at hf) (fun _=> rfl),?_,by simpa using e2,?_⟩
    ·simp[GD.ca,he,e1]
    ·intro j d' hd wj
     cases j with
     | zero=>
       simp only[ab0,Option.some.injEq] at hd
       subst hd
       exact acE
     | succ j=> exact acO _ (e3 j d' (by simpa using hd) wj)
theorem uo {fr:Fr} {g:G} {v:V}:∀ {hs:List Hp},oS cf base fr g v hs→∀h∈hs,stepG cf base fr h g=some (v,h)
 | [],_,h,hm=> by cases hm
 | x::hs,hh,h,hm=> by
   cases hm with
   | head=> exact hh.1
   | tail _ hm=> exact uo hh.2 h hm
theorem rk {hs:List Hp}:∀ {xs:List Seen},nJ cf base hs xs→∀x∈xs,oS cf base x.fr x.d.g x.v ((hs.drop x.d.lo).take (x.d.hi+1 - x.d.lo))
 | [],_,x,hm=> by cases hm
 | y::xs,hh,x,hm=> by
   cases hm with
   | head=> exact hh.1
   | tail _ hm=> exact rk hh.2 x hm
theorem J2 {ds:List GD} {fr fr':Fr} {h h':Hp} (hr:bd cf base ds fr h=some (fr',h')):inB fr.length ds:=by
 unfold bd at hr
 split at hr
 case h_2=> cases hr
 split at hr
 case isFalse=> cases hr
 rename_i h
 exact h.1
theorem Dj {ds:List GD} {fr fr':Fr} {h h':Hp} (hr:bd cf base ds fr h=some (fr',h')):∃vals frs hs,Tr cf base ds fr h fr' h' vals frs hs∧
 ∀(j:Nat) (d:GD),ds[j]? =some d→d.ca=false→∀(m:Nat) (hp:Hp),d.lo≤m→m≤d.hi→hs[m]? =some hp→stepG cf base (frs j) hp d.g=some (vals j,hp):=by
 unfold bd at hr
 split at hr
 case h_2=> cases hr
 rename_i fr1 h1 hs xs bh
 split at hr
 case isFalse=> cases hr
 rename_i cJ
 replace cJ:=cJ.2
 simp only[Option.some.injEq,Prod.mk.injEq] at hr
 obtain ⟨rfl,rfl⟩:=hr
 obtain ⟨vals,frs,yK,ys,t,e1,e2,e3⟩:=MS cf base _ _ _ _ _ _ _ _ _ bh
 simp only[acj] at e1 e2
 subst e1 e2
 refine ⟨vals,frs,_,t,fun j d hd he m hp iO hhi hm=> ?_⟩
 refine uo cf base (rk cf base cJ _ (e3 j d hd he)) hp ?_
 refine abS (i:=m - d.lo) ?_
 rw[ac2 (show m - d.lo < d.hi+1 - d.lo by omega),adm,Nat.add_sub_cancel' iO]
 exact hm
end
structure uO (ds:List GD) (mb:Fr) (vals:Nat→V) (S:Nat→Prop) (fr:Fr):Prop where
 len:fr.length=mb.length
 put:∀(j:Nat) (d:GD) (t:Nat),ds[j]? =some d→S j→d.g.dst=some t→t < mb.length→fr[t]? =some (vals j)
 cH:∀t:Nat,(∀(j:Nat) (d:GD),ds[j]? =some d→S j→d.g.dst≠some t)→fr[t]? =mb[t]?
def Sx (ds:List GD):Prop:=∀(j k:Nat) (d e:GD) (t:Nat),ds[j]? =some d→ds[k]? =some e→d.g.dst=some t→e.g.dst=some t→j=k
theorem np (fr:Fr) (d:Option Nat) (v:V):(gY fr d v).length=fr.length:=by cases d <;> simp[gY]
theorem uO.step {ds:List GD} {mb:Fr} {vals:Nat→V} {S S':Nat→Prop} {fr:Fr} (hc:uO ds mb vals S fr) (hu:Sx ds) {j:Nat} {d:GD} (hd:ds[j]? =some d) (hS:∀k,S' k↔S k∨k=j):
 uO ds mb vals S' (gY fr d.g.dst (vals j)) where
 len:=by rw[np];exact hc.len
 put k e t he hk ht cF:=by
   cases u4:d.g.dst with
   | none=>
     simp only[gY]
     rcases (hS k).1 hk with hk | rfl
     ·exact hc.put k e t he hk ht cF
     ·rw[hd] at he;cases he;rw[u4] at ht;cases ht
   | some t'=>
     simp only[gY]
     by_cases htt:t=t'
     ·subst htt
      have:=hu k j e d t he hd ht u4
      subst this
      rw[adK (by rw[hc.len];exact cF)]
     ·rw[abM (fun e=> htt e.symm)]
      rcases (hS k).1 hk with hk | rfl
      ·exact hc.put k e t he hk ht cF
      ·rw[hd] at he;cases he;rw[u4] at ht;cases ht;exact absurd rfl htt
 cH t ht:=by
   have h1:d.g.dst≠some t:=ht j d hd ((hS j).2 (Or.inr rfl))
   have h2:=hc.cH t fun k e he hk=> ht k e he ((hS k).2 (Or.inl hk))
   cases u4:d.g.dst with
   | none=> exact h2
   | some t'=>
     simp only[gY]
     rw[abM (fun e=> h1 (by rw[u4,e]))]
     exact h2
theorem uO.same {ds:List GD} {mb:Fr} {vals:Nat→V} {S S':Nat→Prop} {fr fr':Fr} (hc:uO ds mb vals S fr) (Ed:uO ds mb vals S' fr') (t:Nat)
 (h:∀(k:Nat) (d:GD),ds[k]? =some d→d.g.dst=some t→(S k↔S' k)):fr[t]? =fr'[t]? :=by
 by_cases cF:t < mb.length
 ·by_cases hw:∃k d,ds[k]? =some d∧S k∧d.g.dst=some t
  ·obtain ⟨k,d,h1,h2,h3⟩:=hw
   rw[hc.put k d t h1 h2 h3 cF,Ed.put k d t h1 ((h k d h1 h3).1 h2) h3 cF]
  ·rw[hc.cH t (fun k d h1 h2 h3=> hw ⟨k,d,h1,h2,h3⟩),Ed.cH t (fun k d h1 h2 h3=> hw ⟨k,d,h1,(h k d h1 h3).2 h2,h3⟩)]
 ·rw[ach (by rw[hc.len];omega),ach (by rw[Ed.len];omega)]
theorem uO.start (ds:List GD) (mb:Fr) (vals:Nat→V) {S:Nat→Prop} (hS:∀k,¬S k):uO ds mb vals S mb where
 len:=rfl
 put j d t hd hj:=(hS j hj).elim
 cH t _:=rfl
theorem Tr.cur {cf:Nat→List V→Hp→Option (V×Hp)} {base:Nat} {ds:List GD} {fr fr':Fr} {h h':Hp} {vals:Nat→V} {frs:Nat→Fr} {hs:List Hp} (t:Tr cf base ds fr h fr' h' vals frs hs) (hu:Sx ds):
 ∀j,j≤ds.length→uO ds fr vals (· < j) (frs j)
 | 0,_=> by rw[t.fst];exact uO.start ds fr vals (fun k=> Nat.not_lt_zero k)
 | j+1,hj=> by
   have hd:ds[j]? =some ds[j]:=abE (by omega)
   rw[t.next j _ hd]
   exact (t.cur hu j (by omega)).step hu hd fun k=> by omega
def X.J3 :X→List Nat
 | .t n=> [n]
 | .c _=> []
def G.reads (g:G):List Nat:=(match g.guard with | some (t,_)=> [t] | none=> [])++g.xs.flatMap X.J3
theorem X.J4 {fr fr':Fr} {x:X} (h:∀t∈x.J3,fr[t]? =fr'[t]?):x.ev fr=x.ev fr':=by
 cases x with
 | t n=> simp only[X.ev,List.getD,h n (by simp[X.J3])]
 | c v=> rfl
theorem jS {cf:Nat→List V→Hp→Option (V×Hp)} {base:Nat} {fr fr':Fr} {h:Hp} {g:G} (hr:∀t∈g.reads,fr[t]? =fr'[t]?):stepG cf base fr h g=stepG cf base fr' h g:=by
 have h1:want fr g=want fr' g:=by
   unfold want
   split
   ·rfl
   ·rename_i t b hg
    have:=hr t (by simp[G.reads,hg])
    simp only[List.getD,this]
 have h2:g.xs.map (X.ev fr)=g.xs.map (X.ev fr'):=aer fun x hx=> X.J4 fun t ht=> hr t (by
   simp only[G.reads,ab6,List.mem_flatMap]
   exact Or.inr ⟨x,hx,ht⟩)
 unfold stepG
 rw[h1,h2]
end Go.Vm
namespace Go.Vm
def xL (acc:List Nat):List Edge→Nat
 | []=> 0
 | e::es=> if Region.binds .any e then (2 ^ e.on ||| acc.getD e.on 0) ||| xL acc es else xL acc es
def dM (acc:List Nat):List Oper→List Nat
 | []=> acc
 | o::os=> dM (acc++[xL acc o.after.toList]) os
structure Row where
 k:Nat
 d:GD
 p:Nat
 c:Nat
 deriving Inhabited
def mf (k c:Nat):List GD→List Nat→List Row
 | d::ds,p::ps=>⟨k,d,p,c⟩::mf (k+1) (if d.ca then c+1 else c) ds ps
 | _,_=> []
def qA (j k:Row):Bool:=
 j.k==k.k ||
 ((match k.d.g.dst with
   | some t=> j.d.g.dst !=some t &&(!j.d.g.reads.contains t || (if k.k < j.k then j.p.testBit k.k else k.p.testBit j.k))
   | none=> true)&&
  (!k.d.ca || (if j.d.ca then !(decide (k.k < j.k)) || j.p.testBit k.k else (!(decide (k.c < j.d.lo)) || j.p.testBit k.k)&&(!(decide (j.d.hi≤k.c)) || k.p.testBit j.k))))
def Yv (os:List Oper):Bool:=(List.range os.length).all fun j=> match os[j]? with | some o=> o.after.toList.all fun e=> !Region.binds .any e || decide (e.on < j) | none=> true
def fC (os:List Oper) (ds:List GD):Bool:=
 let rs:=mf 0 0 ds (dM [] os)
 ds.length==os.length && Yv os &&(ds.all fun d=> decide (d.lo≤eV ds ds.length))&& rs.all fun j=> rs.all fun k=> qA j k
theorem fM :∀(os:List Oper) (acc:List Nat),(dM acc os).length=acc.length+os.length
 | [],acc=> rfl
 | o::os,acc=> by simp only[dM,fM os,abI,ab3,aci];omega
theorem uq :∀(os:List Oper) (acc:List Nat) (i:Nat),i < acc.length→(dM acc os)[i]? =acc[i]?
 | [],acc,i,h=> rfl
 | o::os,acc,i,h=> by
   simp only[dM]
   rw[uq os _ i (by simp;omega),acq h]
theorem Dl :∀(os:List Oper) (acc:List Nat) (j:Nat) (o:Oper),os[j]? =some o→(dM acc os)[acc.length+j]? =some (xL ((dM acc os).take (acc.length+j)) o.after.toList)
 | [],acc,j,o,h=> by simp at h
 | o'::os,acc,0,o,h=> by
   simp only[ab0,Option.some.injEq] at h
   subst h
   simp only[dM,adO]
   rw[uq _ _ _ (by simp)]
   have:(dM (acc++[xL acc o'.after.toList]) os).take acc.length=acc:=by
     apply acB
     intro i
     by_cases hi:i < acc.length
     ·rw[ac2 hi,uq _ _ _ (by simp;omega),acq hi]
     ·rw[ach (by rw[abY];omega),ach (by omega)]
   rw[this]
   simp
 | o'::os,acc,j+1,o,h=> by
   simp only[dM]
   have:=Dl os (acc++[xL acc o'.after.toList]) j o (by simpa using h)
   simp only[abI,ab3,aci] at this
   rw[show acc.length+(j+1)=acc.length+(0+1)+j by omega]
   exact this
theorem uu :∀(ds:List GD) (ps:List Nat) (k c j:Nat) (d:GD) (p:Nat),ds[j]? =some d→ps[j]? =some p→(mf k c ds ps)[j]? =some ⟨k+j,d,p,c+eV ds j⟩
 | [],ps,k,c,j,d,p,h,_=> by simp at h
 | _::_,[],k,c,j,d,p,_,h=> by simp at h
 | d'::ds,p'::ps,k,c,0,d,p,h1,h2=> by
   simp only[ab0,Option.some.injEq] at h1 h2
   subst h1 h2
   simp[mf,jB]
 | d'::ds,p'::ps,k,c,j+1,d,p,h1,h2=> by
   simp only[mf,aeH]
   rw[uu ds ps (k+1) _ j d p (by simpa using h1) (by simpa using h2),eJ]
   congr 2
   ·omega
   ·split <;> omega
def Clo (os:List Oper) (S:Nat→Prop):Prop:=∀(j:Nat) (o:Oper),os[j]? =some o→S j→∀e∈o.after,Region.binds .any e=true→S e.on
theorem J5 {S:Nat→Prop} {acc:List Nat} {es:List Edge} (h1:∀e∈es,Region.binds .any e=true→S e.on) (h2:∀e∈es,Region.binds .any e=true→∀k,(acc.getD e.on 0).testBit k=true→S k):
 ∀k,(xL acc es).testBit k=true→S k:=by
 induction es with
 | nil=> intro k h;simp[xL] at h
 | cons e es ih=>
   intro k h
   simp only[xL] at h
   have ih':=ih (fun e he=> h1 e (acO _ he)) (fun e he=> h2 e (acO _ he))
   split at h
   ·rename_i hb
    rw[Nat.testBit_or,Nat.testBit_or,Nat.testBit_two_pow] at h
    simp only[acv,decide_eq_true_eq] at h
    rcases h with (rfl | h) | h
    ·exact h1 e acE hb
    ·exact h2 e acE hb k h
    ·exact ih' k h
   ·exact ih' k h
theorem lS {os:List Oper} {S:Nat→Prop} (hc:Clo os S):∀(j:Nat) (o:Oper),os[j]? =some o→(∀e∈o.after,Region.binds .any e=true→S e.on)→∀p,(dM [] os)[j]? =some p→∀k,p.testBit k=true→S k:=by
 intro j
 induction j using Nat.strongRecOn with
 | _ j ih=>
   intro o ho hS p hp k hk
   have h1:=Dl os [] j o ho
   simp only[aci,ab9] at h1
   rw[h1] at hp
   simp only[Option.some.injEq] at hp
   subst hp
   refine J5 (S:=S) (fun e he hb=> hS e (by simpa using he) hb) (fun e he hb k hk=> ?_) k hk
   have hSe:=hS e (by simpa using he) hb
   by_cases cF:e.on < j
   ·have xY:j < os.length:=(abF.1 ho).1
    have hlen:=fM os []
    simp only[aci,ab9] at hlen
    have h2:(dM [] os)[e.on]? =some (dM [] os)[e.on]:=abE (by omega)
    have h3:((dM [] os).take j).getD e.on 0=(dM [] os)[e.on]:=by
      simp only[List.getD,ac2 cF,h2,ace]
    rw[h3] at hk
    have h4:os[e.on]? =some os[e.on]:=abE (by omega)
    exact ih e.on cF _ h4 (hc e.on _ h4 hSe) _ h2 k hk
   ·have h3:((dM [] os).take j).getD e.on 0=0:=by
      simp only[List.getD,ach (show ((dM [] os).take j).length≤e.on by rw[abY];omega),Option.getD_none]
    rw[h3] at hk
    simp at hk
theorem jT {os:List Oper} {ds:List GD} (h:fC os ds=true) {j k:Nat} {d e:GD} (hj:ds[j]? =some d) (hk:ds[k]? =some e):
 ∃p q,(dM [] os)[j]? =some p∧(dM [] os)[k]? =some q∧qA ⟨j,d,p,eV ds j⟩ ⟨k,e,q,eV ds k⟩=true:=by
 simp only[fC,abH,beq_iff_eq] at h
 obtain ⟨⟨⟨hlen,_⟩,_⟩,cJ⟩:=h
 have nU:=fM os []
 simp only[aci,ab9] at nU
 have xY:j < ds.length:=(abF.1 hj).1
 have dq:k < ds.length:=(abF.1 hk).1
 have h1:(dM [] os)[j]? =some (dM [] os)[j]:=abE (by omega)
 have h2:(dM [] os)[k]? =some (dM [] os)[k]:=abE (by omega)
 refine ⟨_,_,h1,h2,?_⟩
 have r1:=uu ds (dM [] os) 0 0 j d _ hj h1
 have r2:=uu ds (dM [] os) 0 0 k e _ hk h2
 simp only[ab9] at r1 r2
 exact abZ.1 (abZ.1 cJ _ (abS r1)) _ (abS r2)
theorem rl {os:List Oper} {ds:List GD} (h:fC os ds=true):Sx ds:=by
 intro j k d e t hj hk hd he
 obtain ⟨p,q,_,_,hp⟩:=jT h hj hk
 simp only[qA,acv,beq_iff_eq,abH,he,bne_iff_ne,ne_eq] at hp
 rcases hp with hp | hp
 ·exact hp
 ·exact absurd hd hp.1.1
theorem pO {os:List Oper} {ds:List GD} (h:fC os ds=true) {j k:Nat} {d e:GD} {t:Nat} (hj:ds[j]? =some d) (hk:ds[k]? =some e) (da:j≠k) (he:e.g.dst=some t) (ht:t∈d.g.reads):
 ∃p q,(dM [] os)[j]? =some p∧(dM [] os)[k]? =some q∧if k < j then p.testBit k=true else q.testBit j=true:=by
 obtain ⟨p,q,h1,h2,hp⟩:=jT h hj hk
 refine ⟨p,q,h1,h2,?_⟩
 simp only[qA,acv,beq_iff_eq,abH,he,bne_iff_ne,ne_eq] at hp
 rcases hp with hp | ⟨⟨_,hp⟩,_⟩
 ·exact absurd hp da
 ·have:d.g.reads.contains t=true:=by simpa using ht
  rw[this] at hp
  simp only[acA,abP,false_or] at hp
  split at hp <;> rename_i hc <;> simp only[hc,if_true,if_false]<;> exact hp
theorem rm {os:List Oper} {ds:List GD} (h:fC os ds=true) {j k:Nat} {d e:GD} (hj:ds[j]? =some d) (hk:ds[k]? =some e) (hd:d.ca=true) (he:e.ca=true) (cF:k < j):
 ∃p,(dM [] os)[j]? =some p∧p.testBit k=true:=by
 obtain ⟨p,q,h1,h2,hp⟩:=jT h hj hk
 refine ⟨p,h1,?_⟩
 simp only[qA,acv,beq_iff_eq,abH,he,hd,if_true,acA,abP,false_or,cF,decide_true] at hp
 rcases hp with hp | ⟨_,hp⟩
 ·omega
 ·exact hp
theorem nN {os:List Oper} {ds:List GD} (h:fC os ds=true) {j k:Nat} {d e:GD} (hj:ds[j]? =some d) (hk:ds[k]? =some e) (hd:d.ca=false) (he:e.ca=true):
 ∃p q,(dM [] os)[j]? =some p∧(dM [] os)[k]? =some q∧(eV ds k < d.lo→p.testBit k=true)∧(d.hi≤eV ds k→q.testBit j=true):=by
 obtain ⟨p,q,h1,h2,hp⟩:=jT h hj hk
 refine ⟨p,q,h1,h2,?_⟩
 simp only[qA,acv,beq_iff_eq,abH,he,hd,if_false,acA,abP,false_or,adV,decide_eq_false_iff_not] at hp
 rcases hp with hp | ⟨_,hp⟩
 ·subst hp
  rw[hj] at hk;cases hk
  rw[hd] at he;cases he
 ·exact ⟨fun hc=> hp.1.resolve_left (fun hn=> hn hc),fun hc=> hp.2.resolve_left (fun hn=> hn hc)⟩
theorem pP {os:List Oper} {ds:List GD} (h:fC os ds=true):ds.length=os.length∧(∀d∈ds,d.lo≤eV ds ds.length)∧∀(j:Nat) (o:Oper),os[j]? =some o→∀e∈o.after,Region.binds .any e=true→e.on < j:=by
 simp only[fC,abH,beq_iff_eq,abZ,decide_eq_true_eq] at h
 obtain ⟨⟨⟨hlen,hb⟩,iO⟩,_⟩:=h
 refine ⟨hlen,iO,fun j o ho e he hbe=> ?_⟩
 have:=abZ.1 hb j (acL.2 (abF.1 ho).1)
 simp only[ho,abZ,acv,adV,decide_eq_true_eq] at this
 rcases this e (by simpa using he) with h' | h'
 ·rw[hbe] at h';cases h'
 ·exact h'
end Go.Vm
namespace Go.Vm
variable {P : Program} {obj : Nat → Bool}
theorem Dm {all:List Oper}:∀ {os:List Oper} {gs:List G},rM P obj all os=some gs→gs.length=os.length∧∀(j:Nat) (o:Oper) (g:G),os[j]? =some o→gs[j]? =some g→cog P obj all o=some g
 | [],gs,h=> by
   simp only[rM,Option.some.injEq] at h
   subst h
   exact ⟨rfl,fun j o g ho=> by simp at ho⟩
 | o::os,gs,h=> by
   simp only[rM] at h
   split at h
   case h_2=> cases h
   rename_i g gs' hg jG
   simp only[Option.some.injEq] at h
   subst h
   obtain ⟨h1,h2⟩:=Dm jG
   refine ⟨by simp[h1],fun j o' g' ho GB=> ?_⟩
   cases j with
   | zero=>
     simp only[ab0,Option.some.injEq] at ho GB
     subst ho GB
     exact hg
   | succ j=> exact h2 j o' g' (by simpa using ho) (by simpa using GB)
def q23z (l:Array Bool):Nat→Prop:=fun j=> l.getD j false=true
theorem db {l:Array Bool} {i:Nat} (hi:i < l.size) (k:Nat):q23z (l.setIfInBounds i true) k↔q23z l k∨k=i:=by
 unfold q23z
 by_cases hk:i=k
 ·subst hk
  simp[hi,abQ]
 ·rw[getD_set_ne false hk]
  constructor
  ·exact Or.inl
  ·rintro (h | h)
   ·exact h
   ·exact absurd h.symm hk
section
variable (hL : (ak P).OK) {cf : Nat → List V → Hp → Option (V × Hp)} {base : Nat} (gD : cA P (ak P) cf)
include hL gD
theorem wm {all:List Oper} {ds:List GD} (hc:rM P obj all all=some (ds.map (·.g))) (iH:fC all ds=true) {mb fr':Fr} {h0 h':Hp} {vals:Nat→V} {frs:Nat→Fr} {hs:List Hp}
 (tr:Tr cf base ds mb h0 fr' h' vals frs hs)
 (Bx:∀(j:Nat) (d:GD),ds[j]? =some d→d.ca=false→∀(m:Nat) (hp:Hp),d.lo≤m→m≤d.hi→hs[m]? =some hp→stepG cf base (frs j) hp d.g=some (vals j,hp))
 {c0:Ctx} {a0:Act} {w0:World} {Q:Exit→Act→World→Prop} (hE:Ends P c0 w0 a0 fr' h' (Q .normal)):
 ∀(fuel:Nat) (listed:Array Bool) (a:Act) (w:World) (c:Ctx) (m:Nat) (frc:Fr) (hp:Hp),listed.size=all.length→listed.toList.count true+fuel=all.length→Clo all (q23z listed)→uO ds mb vals (q23z listed) frc→
  RF (ak P) c frc a→hs[m]? =some hp→bj (ak P) c hp w→(∀(k:Nat) (d:GD),ds[k]? =some d→d.ca=true→(q23z listed k↔eV ds k < m))→c0.le c→St w0 w→a.defers=a0.defers→
  wpAny P .any all.toArray Q fuel listed a w:=by
 have hu:=rl iH
 obtain ⟨hlen,iO,J6⟩:=pP iH
 obtain ⟨Yw,Yx⟩:=Dm hc
 have fin:∀(listed:Array Bool) (a:Act) (w:World) (c:Ctx) (m:Nat) (frc:Fr) (hp:Hp),(∀j,j < all.length→q23z listed j)→uO ds mb vals (q23z listed) frc→
  RF (ak P) c frc a→hs[m]? =some hp→bj (ak P) c hp w→(∀(k:Nat) (d:GD),ds[k]? =some d→d.ca=true→(q23z listed k↔eV ds k < m))→c0.le c→St w0 w→a.defers=a0.defers→Q .normal a w:=by
   intro listed a w c m frc hp cJ kU hf hm kV ig hle ba fD
   have e1:frc=fr':=by
     have h1:=tr.cur hu ds.length (abJ _)
     rw[tr.lst] at h1
     apply acB
     intro t
     refine kU.same h1 t fun k d hd _=> ?_
     have hk:k < ds.length:=(abF.1 hd).1
     exact ⟨fun _=> hk,fun _=> cJ k (by omega)⟩
   have e2:m=eV ds ds.length:=by
     have h1:m < hs.length:=(abF.1 hm).1
     rw[tr.len] at h1
     rcases adg m (eV ds ds.length) with h2 | h2
     ·obtain ⟨k,d,h3,h4,h5,h6⟩:=jR ds h2
      have:=(ig k d h4 h5).1 (cJ k (by omega))
      omega
     ·omega
   have e3:hp=h':=by
     rw[e2,tr.EX] at hm
     exact (Option.some.inj hm).symm
   subst e1 e3
   exact hE a c w hf kV hle ba fD
 have stp:∀(fuel:Nat),(∀(listed:Array Bool) (a:Act) (w:World) (c:Ctx) (m:Nat) (frc:Fr) (hp:Hp),listed.size=all.length→listed.toList.count true+fuel=all.length→Clo all (q23z listed)→uO ds mb vals (q23z listed) frc→
  RF (ak P) c frc a→hs[m]? =some hp→bj (ak P) c hp w→(∀(k:Nat) (d:GD),ds[k]? =some d→d.ca=true→(q23z listed k↔eV ds k < m))→c0.le c→St w0 w→a.defers=a0.defers→
  wpAny P .any all.toArray Q fuel listed a w)→
   ∀(listed:Array Bool) (a:Act) (w:World) (c:Ctx) (m:Nat) (frc:Fr) (hp:Hp),listed.size=all.length→listed.toList.count true+(fuel+1)=all.length→Clo all (q23z listed)→uO ds mb vals (q23z listed) frc→
    RF (ak P) c frc a→hs[m]? =some hp→bj (ak P) c hp w→(∀(k:Nat) (d:GD),ds[k]? =some d→d.ca=true→(q23z listed k↔eV ds k < m))→c0.le c→St w0 w→a.defers=a0.defers→
    ∀i∈Region.ready .any all.toArray listed,wpOp P all.toArray Q i (wpAny P .any all.toArray Q fuel (listed.setIfInBounds i true)) a w:=by
   intro fuel ih listed a w c m frc hp cG lT oY kU hf hm kV ig hle ba fD i hi
   obtain ⟨nV,o,ho,uv⟩:=mem_ready.1 hi
   rw[acG] at ho
   have hil:i < all.length:=(abF.1 ho).1
   have EW:¬q23z listed i:=by
     unfold q23z
     have:i < listed.size:=by omega
     simp only[abQ,ab4 this,ace] at nV ⊢
     simp[nV]
   have hd:ds[i]? =some ds[i]:=abE (by omega)
   have hg:cog P obj all o=some (ds[i]'(by omega)).g:=Yx i o _ ho (by rw[abT,hd];rfl)
   generalize ds[i]'(by omega)=d at hd hg
   have xM:∀p,(dM [] all)[i]? =some p→∀k,p.testBit k=true→q23z listed k:=lS oY i o ho (fun e he hb=> uv e he hb)
   have wo:∀k q,(dM [] all)[k]? =some q→q.testBit i=true→¬q23z listed k:=fun k q hq hb hk=> by
     have dq:k < all.length:=by
       have:=(abF.1 hq).1
       rw[fM] at this;simpa using this
     have J7:all[k]? =some all[k]:=abE dq
     exact EW (lS oY k _ J7 (fun e he hb=> oY k _ J7 hk e he hb) q hq i hb)
   have nq:∀t∈d.g.reads,frc[t]? =(frs i)[t]? :=fun t ht=> by
     refine kU.same (tr.cur hu i (by omega)) t fun k e he het=> ?_
     by_cases hki:k=i
     ·subst hki
      exact ⟨fun h=> absurd h EW,fun h=> absurd h (Nat.lt_irrefl _)⟩
     ·obtain ⟨p,q,h1,h2,h3⟩:=pO iH hd he (fun h=> hki h.symm) het ht
      split at h3
      ·rename_i cF
       exact ⟨fun _=> cF,fun _=> xM p h1 k h3⟩
      ·rename_i cF
       exact ⟨fun h=> absurd h (wo k q h2 h3),fun h=> absurd h cF⟩
   have J8:∃hq m',stepG cf base frc hp d.g=some (vals i,hq)∧hs[m']? =some hq∧(∀(k:Nat) (e:GD),ds[k]? =some e→e.ca=true→(q23z (listed.setIfInBounds i true) k↔eV ds k < m')):=by
     by_cases he:d.ca=true
     ·obtain ⟨hp1,hq,h1,h2,h3⟩:=tr.ca i d hd he
      have hmi:eV ds i=m:=by
        have h4:¬eV ds i < m:=fun h=> EW ((ig i d hd he).2 h)
        rcases adg m (eV ds i) with h5 | h5
        ·obtain ⟨k,e,h6,h7,h8,h9⟩:=jR ds h5
         obtain ⟨p,h10,h11⟩:=rm iH hd h7 he h8 h6
         have:=(ig k e h7 h8).1 (xM p h10 k h11)
         omega
        ·omega
      rw[hmi,hm] at h1
      cases h1
      refine ⟨hq,m+1,?_,hmi ▸ h2,fun k e xf Ae=> ?_⟩
      ·rw[jS nq];exact h3
      ·rw[db (by omega),ig k e xf Ae]
       constructor
       ·rintro (h | rfl)
        ·omega
        ·omega
       ·intro h
        rcases adg (eV ds k) m with h5 | h5
        ·exact Or.inl h5
        ·right
         rcases Nat.lt_trichotomy k i with h6 | h6 | h6
         ·have:=xK xf Ae h6;omega
         ·exact h6
         ·have:=xK hd he h6;omega
     ·have GG:d.ca=false:=by simpa using he
      have aaQ:m < eV ds ds.length+1:=by
        have:=(abF.1 hm).1
        rw[tr.len] at this;exact this
      have Sy:d.lo≤m:=by
        rcases adg m d.lo with h5 | h5
        ·have h6:=iO d (abS hd)
         obtain ⟨k,e,h7,h8,h9,h10⟩:=jR ds (show m < eV ds ds.length by omega)
         obtain ⟨p,q,h11,h12,h13,h14⟩:=nN iH hd h8 GG h9
         have:=(ig k e h8 h9).1 (xM p h11 k (h13 (by omega)))
         omega
        ·exact h5
      have Sz:m≤d.hi:=by
        rcases adg d.hi m with h5 | h5
        ·obtain ⟨k,e,h7,h8,h9,h10⟩:=jR ds (show d.hi < eV ds ds.length by omega)
         obtain ⟨p,q,h11,h12,h13,h14⟩:=nN iH hd h8 GG h9
         exact absurd ((ig k e h8 h9).2 (by omega)) (wo k q h12 (h14 (by omega)))
        ·exact h5
      refine ⟨hp,m,?_,hm,fun k e xf Ae=> ?_⟩
      ·rw[jS nq];exact Bx i d hd GG m hp Sy Sz hm
      ·rw[db (by omega),ig k e xf Ae]
       constructor
       ·rintro (h | rfl)
        ·exact h
        ·rw[hd] at xf;cases xf;rw[GG] at Ae;cases Ae
       ·exact Or.inl
   obtain ⟨hq,m',h1,h2,h3⟩:=J8
   unfold wpOp
   rw[acG,ho]
   simp only
   refine uh (Q:=Q) hL gD hg hf kV h1 fun u c' w' hv dv EY ib=> ?_
   refine ih _ _ w' c' m' (gY frc d.g.dst (vals i)) hq (by simpa using cG) ?_ ?_ ?_ ?_ h2 dv h3 (hle.trans EY) (ba.trans ib) (by rw[jQ,fD])
   ·have kf:listed.toList[i]? =some false:=by
      have:i < listed.size:=by omega
      rw[adj,ab4 this]
      simp only[q23z,abQ,ab4 this,ace,adu] at EW
      rw[EW]
    have cF:i < listed.toList.length:=(abF.1 kf).1
    have uN:listed.toList[i]=false:=by simpa[abE cF] using kf
    rw[ac9,List.count_set cF,uN]
    show List.count true listed.toList - 0+1+fuel=all.length
    omega
   ·intro j o' j4 hj e he hb
    rw[db (by omega)]
    rcases (db (by omega) j).1 hj with hj | rfl
    ·exact Or.inl (oY j o' j4 hj e he hb)
    ·rw[ho] at j4;cases j4
     exact Or.inl (uv e he hb)
   ·exact kU.step hu hd fun k=> db (by omega) k
   ·rw[(kT hg).2.1]
    exact RF.put (hf.mono EY) hv o.dst
 intro fuel
 induction fuel with
 | zero=>
   intro listed a w c m frc hp cG lT oY kU hf hm kV ig hle ba fD
   have cJ:∀j,j < all.length→q23z listed j:=fun j hj=> by
     have h1:listed.toList.count true=listed.toList.length:=by simp at lT ⊢;omega
     have h2:=List.count_eq_length.1 h1
     have h3:j < listed.size:=by omega
     have:=h2 listed.toList[j] (acZ _)
     simp only[q23z,abQ,ab4 h3,ace]
     simpa using this.symm
   refine ⟨?_,fin listed a w c m frc hp cJ kU hf hm kV ig hle ba fD⟩
   apply aeg.2
   intro i hi
   obtain ⟨h1,o,ho,_⟩:=mem_ready.1 hi
   rw[acG] at ho
   have hil:i < all.length:=(abF.1 ho).1
   have:=cJ i hil
   have h3:i < listed.size:=by omega
   simp only[q23z,abQ,ab4 h3,ace] at this h1
   rw[this] at h1;cases h1
 | succ fuel ih=>
   intro listed a w c m frc hp cG lT oY kU hf hm kV ig hle ba fD
   refine ⟨fun nP=> ?_,stp fuel ih listed a w c m frc hp cG lT oY kU hf hm kV ig hle ba fD⟩
   have cJ:∀j,j < all.length→q23z listed j:=by
     intro j
     induction j using Nat.strongRecOn with
     | _ j ihj=>
       intro hj
       by_cases hn:q23z listed j
       ·exact hn
       ·exfalso
        have ho:all[j]? =some all[j]:=abE hj
        have:j∈Region.ready .any all.toArray listed:=by
          refine mem_ready.2 ⟨?_,all[j],by rw[acG,ho],fun e he hb=> ?_⟩
          ·have h3:j < listed.size:=by omega
           simp only[q23z,abQ,ab4 h3,ace,adu] at hn ⊢
           exact hn
          ·have:=J6 j _ ho e he hb
           exact ihj e.on this (by omega)
        rw[nP] at this
        cases this
   exact fin listed a w c m frc hp cJ kU hf hm kV ig hle ba fD
theorem By {id:Nat} {all:List Oper} {ds:List GD} (u5:P.follows .mixedOrders=true) (hc:rM P obj all all=some (ds.map (·.g))) (iH:fC all ds=true) {c:Ctx} {h:Hp} {w:World} {fr:Fr} {a:Act}
 (hf:RF (ak P) c fr a) (hs:bj (ak P) c h w) {fr':Fr} {h':Hp} (hr:bd cf base ds fr h=some (fr',h')) {Q:Exit→Act→World→Prop} (hE:Ends P c w a fr' h' (Q .normal)):
 (Code.region id all.toArray true).wp P Q a w:=by
 obtain ⟨vals,frs,hps,tr,hq⟩:=Dj cf base hr
 refine wp_region_any u5 ?_
 refine wm hL gD hc iH tr hq (c0:=c) (a0:=a) (w0:=w) hE _ _ a _ c 0 fr h (by simp) ?_ ?_ ?_ hf tr.zt hs.drew ?_ (Ctx.le_refl c) (St.drew w) rfl
 ·simp[ael]
 ·intro j o ho hj
  simp only[q23z,abQ,acp] at hj
  split at hj <;> simp at hj
 ·refine uO.start ds fr vals fun k hk=> ?_
  simp only[q23z,abQ,acp] at hk
  split at hk <;> simp at hk
 ·intro k d hd he
  constructor
  ·intro hk
   simp only[q23z,abQ,acp] at hk
   split at hk <;> simp at hk
  ·intro hk;omega
end
end Go.Vm
namespace Go.Vm
def O.indep :O→Bool
 | .mv | .pick | .bin _ _ | .wJ _ _ _ | .eqs _ _ _ | .un _ | .bK | .fld _ _ | .idx _ | .EG | .cD _ _ _ | .gJ _ _ _ | .sls _ _ | .len | .EH | .cap | .gF _ | .mki _ | .tas _ _ _ | .ext _ | .min | .max | .mkf _ | .nop | .fzp _ | .uJ _ _ _=> true
 | .s2b lit=> lit
 | _=> false
def bare (h:Hp) (o:Option (V×Hp)):Option (V×Hp):=o.map fun r=>(r.1,h)
theorem SA (h:Hp) (c a b:V):tJ h c a b=bare h (tJ [] c a b):=by unfold tJ;split <;> rfl
theorem Yy (h:Hp) (cl:Cl) (op:BinOp) (x y:V):kI h cl op x y=bare h (kI [] cl op x y):=by unfold kI;cases uU cl op x y <;> rfl
theorem aaR (h:Hp) (op:UnOp) (x:V):(unV op x).bind (jH · h)=bare h ((unV op x).bind (jH · [])):=by cases unV op x <;> rfl
theorem Yz (h:Hp) (t:Nat) (k:IntKind) (n:Bool) (x y:V):tK h t k n x y=bare h (tK [] t k n x y):=by
 unfold tK;split
 ·split
  ·split <;> rfl
  ·rfl
 ·rfl
theorem YA (h:Hp) (t:Nat) (k:List LK) (n:Bool) (x y:V):vI h t k n x y=bare h (vI [] t k n x y):=by
 unfold vI;split
 ·split
  ·split
   ·split <;> rfl
   ·rfl
  ·rfl
 ·rfl
theorem YB (h:Hp) (x:V):yY h x=bare h (yY [] x):=by unfold yY;split <;> rfl
theorem YC (h:Hp) (t i:Nat) (x:V):tN h t i x=bare h (tN [] t i x):=by
 unfold tN;split
 ·split
  ·rename_i fs _;cases fs[i]? <;> rfl
  ·rfl
 ·rfl
theorem YD (h:Hp) (t:Nat) (x y:V):qU h t x y=bare h (qU [] t x y):=by
 unfold qU;split
 ·split
  ·rename_i es i _ _;cases es[i.toNat]? <;> rfl
  ·rfl
 ·rfl
theorem SB (h:Hp) (x y:V):oR h x y=bare h (oR [] x y):=by
 unfold oR;split
 ·split
  ·split <;> rfl
  ·rfl
 ·rfl
theorem SC (h:Hp) (t:Nat) (z:List V) (p:List Nat) (xs:List V):qp h t z p xs=bare h (qp [] t z p xs):=by
 unfold qp;split
 ·cases bJ z (p.zip xs)<;> rfl
 ·rfl
theorem SD (h:Hp) (t:Nat) (z:List V) (p:List Nat) (xs:List V):qq h t z p xs=bare h (qq [] t z p xs):=by
 unfold qq;split
 ·cases bJ z (p.zip xs)<;> rfl
 ·rfl
theorem Dn (h:Hp) (lo hi:Bool) (x:V) (bs:List V):vP h lo hi x bs=bare h (vP [] lo hi x bs):=by
 unfold vP;split
 ·split
  ·split <;> rfl
  ·rfl
 ·rfl
theorem YE (h:Hp) (t:Option Nat) (z:List V) (p:List Nat) (xs:List V):tU h t z p xs=bare h (tU [] t z p xs):=by
 unfold tU;split
 ·cases bJ z (p.zip xs)<;> rfl
 ·rfl
theorem YF (h:Hp) (g:Option Nat) (x:V):rb h g x=bare h (rb [] g x):=by unfold rb;split <;> rfl
theorem YG (h:Hp) (x:V):tQ h x=bare h (tQ [] x):=by unfold tQ;cases eM x <;> rfl
theorem YH (h:Hp) (x:V):vN h x=bare h (vN [] x):=by unfold vN;split <;> rfl
theorem SE (h:Hp) (x:V):qt h x=bare h (qt [] x):=by unfold qt;split <;> rfl
theorem YI (h:Hp) (k:IntKind) (x:V):vQ h k x=bare h (vQ [] k x):=by unfold vQ;cases numOf x <;> rfl
theorem YJ (h:Hp) (t:Nat) (ok:Bool) (z x:V):vS h t ok z x=bare h (vS [] t ok z x):=by
 unfold vS;split
 ·split
  ·rfl
  ·split <;> rfl
 ·rfl
theorem YK (h:Hp) (i:Nat) (x:V):vU h i x=bare h (vU [] i x):=by
 unfold vU;split
 ·rename_i vs;cases vs[i]? <;> rfl
 ·rfl
theorem aaS (h:Hp) (mx:Bool) (x y:V):tS h mx x y=bare h (tS [] mx x y):=by unfold tS;split <;> rfl
theorem YL (h:Hp) (x:V):q9 h true x=bare h (q9 [] true x):=by unfold q9;split <;> rfl
theorem J9 (cf:Nat→List V→Hp→Option (V×Hp)) (base:Nat) {o:O} (hi:o.indep=true) (xs:List V) (h:Hp):aB cf base h o xs=bare h (aB cf base [] o xs):=by
 cases o <;> simp only[O.indep] at hi <;> try (cases hi;done)
 case cD t z p=> exact SC h t z p xs
 case gJ t z p=> exact SD h t z p xs
 case mkf f=> rfl
 case uJ t z p=> exact YE h t z p xs
 case s2b lit=>
   subst hi
   match xs with
   | []=> rfl
   | [x]=> exact YL h x
   | _::_::_=> rfl
 all_goals
   match xs with
   | []=> first | rfl | done
   | [x]=> first | rfl | exact aaR h _ x | exact YF h _ x | exact YB h x | exact YC h _ _ x | exact YG h x | exact YH h x | exact SE h x | exact YI h _ x | exact YJ h _ _ _ x | exact YK h _ x | exact Dn h _ _ x []
   | [x,y]=> first | rfl | exact Yy h _ _ x y | exact Yz h _ _ _ x y | exact YA h _ _ _ x y | exact YD h _ x y | exact SB h x y | exact aaS h _ x y | exact Dn h _ _ x [y]
   | [x,y,z]=> first | rfl | exact SA h x y z | exact Dn h _ _ x [y,z]
   | x::y::z::t::r=> first | rfl | exact Dn h _ _ x (y::z::t::r)
theorem qB {cf:Nat→List V→Hp→Option (V×Hp)} {base:Nat} {o:O} (hi:o.indep=true) {xs:List V} {h h':Hp} {v:V} (hr:aB cf base h o xs=some (v,h')) (h2:Hp):aB cf base h2 o xs=some (v,h2):=by
 rw[J9 cf base hi] at hr ⊢
 cases ho:aB cf base [] o xs with
 | none=> rw[ho] at hr;cases hr
 | some r=>
   rw[ho] at hr
   simp only[bare,ab5,Option.some.injEq,Prod.mk.injEq] at hr ⊢
   exact ⟨hr.1,trivial⟩
theorem jC {α:Type} {o:Option α} {f:α→V} {h h':Hp} {v:V} (hr:(o.map fun a=>(f a,h))=some (v,h')):h'=h:=by
 cases o with
 | none=> cases hr
 | some a=> simp only[ab5,Option.some.injEq,Prod.mk.injEq] at hr;exact hr.2.symm
theorem aaT {h h':Hp} {t i:Nat} {x v:V} (hr:EI h t i x=some (v,h')):h'=h:=by
 unfold EI at hr
 split at hr
 ·split at hr
  ·split at hr
   ·cases hr;rfl
   ·cases hr
  ·cases hr
 ·split at hr
  ·exact jC (f:=fun v=> .dP v) hr
  ·cases hr
 ·cases hr
theorem YM {h h':Hp} {t:Nat} {x y v:V} (hr:vJ h t x y=some (v,h')):h'=h:=by
 unfold vJ at hr
 split at hr
 ·split at hr
  ·split at hr
   ·split at hr
    ·cases hr;rfl
    ·cases hr
   ·cases hr
  ·split at hr
   ·exact jC (f:=fun v=> .dP v) hr
   ·cases hr
  ·cases hr
 ·cases hr
theorem YN {h h':Hp} {g:Option Nat} {x y v:V} (hr:vL h g x y=some (v,h')):h'=h:=by
 unfold vL at hr
 split at hr
 ·split at hr
  ·split at hr
   ·split at hr
    ·cases hr;rfl
    ·cases hr
   ·cases hr
  ·split at hr
   ·exact jC (f:=fun v=> .dP v) hr
   ·cases hr
  ·cases hr
 ·cases hr
theorem YO {h h':Hp} {g:Option Nat} {x v:V} (hr:rL h g x=some (v,h')):h'=h:=by
 unfold rL at hr
 split at hr
 ·split at hr
  ·split at hr
   ·cases hr;rfl
   ·cases hr
  ·cases hr
 ·split at hr
  ·cases hr;rfl
  ·cases hr
 ·cases hr
theorem YP {h h':Hp} {g:Option Nat} {lo hi mx:Bool} {x v:V} {bs:List V} (hr:iB h g lo hi mx x bs=some (v,h')):h'=h:=by
 unfold iB at hr
 split at hr
 case h_2=> cases hr
 split at hr
 ·split at hr
  case h_2=> cases hr
  split at hr
  ·exact jC (f:=id) hr
  ·cases hr
 ·split at hr
  ·exact jC (f:=id) hr
  ·cases hr
 ·split at hr
  ·exact jC (f:=id) hr
  ·cases hr
 ·cases hr
theorem YQ {h h':Hp} {t:Nat} {g:Option Nat} {lo hi:Bool} {x v:V} {bs:List V} (hr:qN h t g lo hi x bs=some (v,h')):h'=h:=by
 unfold qN at hr
 split at hr
 case h_2=> cases hr
 split at hr
 ·split at hr
  ·split at hr
   ·split at hr
    ·split at hr
     ·split at hr <;>(cases hr;rfl)
     ·cases hr
    ·cases hr
   ·cases hr
  ·cases hr
 ·split at hr
  ·split at hr
   ·split at hr
    ·cases hr;rfl
    ·cases hr
   ·cases hr
  ·cases hr
 ·cases hr
theorem YR {h h':Hp} {x v:V} (hr:vR h x=some (v,h')):h'=h:=by
 unfold vR at hr
 obtain ⟨r,_,hr⟩:=abN.1 hr
 obtain ⟨l,_,hr⟩:=abN.1 hr
 cases hr;rfl
theorem YS {one:Bool} {h h':Hp} {x v:V} (hr:tR h one x=some (v,h')):h'=h:=by
 unfold tR at hr
 split at hr
 ·split at hr
  ·cases hr;rfl
  ·cases hr
 ·obtain ⟨r,_,hr⟩:=abN.1 hr
  obtain ⟨l,_,hr⟩:=abN.1 hr
  cases hr;rfl
theorem mg :∀ {ps:List (Nat×V)} {es es':List V},bJ es ps=some es'→es'.length=es.length
 | [],es,es',h=> by simp only[bJ,Option.some.injEq] at h;subst h;rfl
 | (i,y)::ps,es,es',h=> by
   simp only[bJ] at h
   split at h
   ·split at h
    ·rw[mg h,adf]
    ·cases h
   ·cases h
theorem YT {h h':Hp} {g:Option Nat} {p:List Nat} {xs:List V} {v:V} (hr:oi h g [] p xs=some (v,h')):h'=h:=by
 unfold oi at hr
 split at hr
 ·split at hr
  ·rename_i es he
   have:=mg he
   have:es=[]:=by simpa using this
   subst this
   simp only[List.isEmpty_nil,if_true,Option.some.injEq,Prod.mk.injEq] at hr
   exact hr.2.symm
  ·cases hr
 ·cases hr
theorem YU {h h':Hp} {kc:Option (Nat×IntKind)} {ok:Bool} {z x y v:V} (hr:y6 h kc ok z x y=some (v,h')):h'=h:=by
 unfold y6 at hr
 split at hr
 ·split at hr
  ·exact jC (f:=Yf ok z) hr
  ·cases hr
 ·cases hr
theorem YV {h h':Hp} {x v:V} (hr:zd h x=some (v,h')):h'=h:=by
 unfold zd at hr
 split at hr
 ·split at hr
  ·cases hr;rfl
  ·cases hr
 ·cases hr
theorem wq {cf:Nat→List V→Hp→Option (V×Hp)} {base:Nat} {o:O} (he:o.ca=false) {xs:List V} {h h':Hp} {v:V} (hr:aB cf base h o xs=some (v,h')):h'=h:=by
 by_cases hi:o.indep=true
 ·have:=qB hi hr h
  rw[hr] at this
  cases this;rfl
 cases o <;> simp only[O.indep,not_true_eq_false,adu,abP,not_false_eq_true] at hi <;> simp only[O.ca] at he <;> try (cases he;done)
 case s2b lit=> subst hi;simp at he
 case ez f=>
   simp only[aB,tT] at hr
   split at hr
   ·split at hr
    ·cases hr;rfl
    ·cases hr
   ·cases hr
 case bad=> simp[aB] at hr
 case jc g z p=>
   have:z=[]:=by simpa using he
   subst this
   exact YT hr
 case fa t i=> match xs,hr with
   | [x],hr=> exact aaT hr
   | [],hr=> cases hr
   | _::_::_,hr=> cases hr
 case kv t=> match xs,hr with
   | [x,y],hr=> exact YM hr
   | [],hr=> cases hr
   | [_],hr=> cases hr
   | _::_::_::_,hr=> cases hr
 case dx t=> match xs,hr with
   | [x,y],hr=> exact YN hr
   | [],hr=> cases hr
   | [_],hr=> cases hr
   | _::_::_::_,hr=> cases hr
 case ld g=> match xs,hr with
   | [x],hr=> exact YO hr
   | [],hr=> cases hr
   | _::_::_,hr=> cases hr
 case jX g a b c=> match xs,hr with
   | x::bs,hr=> exact YP hr
   | [],hr=> cases hr
 case mr t g a b=> match xs,hr with
   | x::bs,hr=> exact YQ hr
   | [],hr=> cases hr
 case lku kc ok z=> match xs,hr with
   | [x,y],hr=> exact YU hr
   | [],hr=> cases hr
   | [_],hr=> cases hr
   | _::_::_::_,hr=> cases hr
 case mln=> match xs,hr with
   | [x],hr=> exact YV hr
   | [],hr=> cases hr
   | _::_::_,hr=> cases hr
 case DJ=> match xs,hr with
   | [x],hr=> exact YR hr
   | [],hr=> cases hr
   | _::_::_,hr=> cases hr
 case r2s=> match xs,hr with
   | [x],hr=> exact YS hr
   | [],hr=> cases hr
   | _::_::_,hr=> cases hr
theorem rn {cf:Nat→List V→Hp→Option (V×Hp)} {base:Nat} {g:G} (he:g.op.ca=false) {fr:Fr} {h h':Hp} {v:V} (hr:stepG cf base fr h g=some (v,h')):h'=h:=by
 unfold stepG at hr
 split at hr
 ·exact wq he hr
 ·cases hr;rfl
 ·cases hr
theorem zu {cf:Nat→List V→Hp→Option (V×Hp)} {base:Nat} {g:G} (hi:g.op.indep=true) {fr:Fr} {h h':Hp} {v:V} (hr:stepG cf base fr h g=some (v,h')) (h2:Hp):stepG cf base fr h2 g=some (v,h2):=by
 unfold stepG at hr ⊢
 split at hr
 ·exact qB hi hr h2
 ·cases hr;rfl
 ·cases hr
end Go.Vm
namespace Go.Vm
variable {P : Program} {obj : Nat → Bool}
structure kW where
 i:Nat
 j:Nat
 t:Nat
 T:Nat
 deriving DecidableEq
def zw (obj:Nat→Bool):O→O
 | .call f=> if obj (1000000+f) then .call f else .ez f
 | .jc g z p=> if obj 2000000 then .jc g z p else .uJ g z p
 | o=> o
def Dp (obj:Nat→Bool) (g:G):G:=⟨g.dst,zw obj g.op,g.xs,g.guard⟩
def Ka (P:Program) (obj:Nat→Bool) (all:List Oper) (prs:List kW) (n:Nat) (o:Oper):Option G:=
 if prs.any (fun p=> p.i==n) then some ⟨none,.nop,[],none⟩
 else match prs.find? (fun p=> p.j==n),o.op with
   | some p,.store T _ x=>(eI P T x).map fun X=>⟨some p.t,.fzp (aG P T),[X],none⟩
   | some _,_=> none
   | none,_=>(cog P obj all o).map (Dp obj)
def rp (P:Program) (obj:Nat→Bool) (all:List Oper) (prs:List kW):Nat→List Oper→Option (List G)
 | _,[]=> some []
 | n,o::os=> match Ka P obj all prs n o,rp P obj all prs (n+1) os with
   | some g,some gs=> some (g::gs)
   | _,_=> none
theorem nr {all:List Oper} {prs:List kW}:∀ {os:List Oper} {gs:List G} {n:Nat},rp P obj all prs n os=some gs→gs.length=os.length∧∀(j:Nat) (o:Oper) (g:G),os[j]? =some o→gs[j]? =some g→Ka P obj all prs (n+j) o=some g
 | [],gs,n,h=> by
   simp only[rp,Option.some.injEq] at h
   subst h
   exact ⟨rfl,fun j o g ho=> by simp at ho⟩
 | o::os,gs,n,h=> by
   simp only[rp] at h
   split at h
   case h_2=> cases h
   rename_i g gs' hg jG
   simp only[Option.some.injEq] at h
   subst h
   obtain ⟨h1,h2⟩:=nr jG
   refine ⟨by simp[h1],fun j o' g' ho GB=> ?_⟩
   cases j with
   | zero=>
     simp only[ab0,Option.some.injEq] at ho GB
     subst ho GB
     exact hg
   | succ j=>
     have:=h2 j o' g' (by simpa using ho) (by simpa using GB)
     rw[←this];congr 1;omega
def Kb (P:Program) (obj:Nat→Bool) (all:List Oper) (gs:List G) (prs:List kW) (p:kW):Bool:=
 (match all[p.i]? with
   | some o=>(match o.op with | .alloc T=> T==p.T | _=> false)&& o.guard.isNone && o.dst==some p.t &&(zeroOf P obj p.T).isSome && ox P p.T
   | none=> false)&&
 (match all[p.j]?,(dM [] all)[p.j]? with
   | some o,some q=>(match o.op with | .store T (.tmp t) _=> T==p.T && t==p.t | _=> false)&& o.guard.isNone && o.dst.isNone && q.testBit p.i
   | _,_=> false)&&
 ((List.range gs.length).all fun k=> match gs[k]?,(dM [] all)[k]? with
   | some g,some q=> !g.reads.contains p.t || q.testBit p.j
   | _,_=> true)&&
 prs.all fun q=>(q.t !=p.t && q.i !=p.i && q.j !=p.j) || decide (q=p)
structure xN (P:Program) (obj:Nat→Bool) (all:List Oper) (gs:List G) (prs:List kW) (p:kW):Prop where
 lay:∃o,all[p.i]? =some o∧o.op= .alloc p.T∧o.guard=none∧o.dst=some p.t
 zero:∃z,zeroOf P obj p.T=some z
 tg:ox P p.T=true
 fill:∃o x q,all[p.j]? =some o∧o.op= .store p.T (.tmp p.t) x∧o.guard=none∧o.dst=none∧(dM [] all)[p.j]? =some q∧q.testBit p.i=true
 look:∀(k:Nat) (g:G) (q:Nat),gs[k]? =some g→(dM [] all)[k]? =some q→p.t∈g.reads→q.testBit p.j=true
 one:∀q∈prs,(q.t≠p.t∧q.i≠p.i∧q.j≠p.j)∨q=p
theorem Kc {all:List Oper} {gs:List G} {prs:List kW} {p:kW} (h:Kb P obj all gs prs p=true):xN P obj all gs prs p:=by
 simp only[Kb,abH] at h
 obtain ⟨⟨⟨h1,h2⟩,h3⟩,h4⟩:=h
 split at h1
 case h_2=> cases h1
 rename_i o ho
 simp only[abH] at h1
 obtain ⟨⟨⟨⟨a1,a2⟩,a3⟩,a4⟩,a5⟩:=h1
 split at h2
 case h_2=> cases h2
 rename_i o' q j4 hq
 simp only[abH] at h2
 obtain ⟨⟨⟨b1,b2⟩,b3⟩,b4⟩:=h2
 constructor
 ·refine ⟨o,ho,?_,by simpa using a2,by simpa using a3⟩
  split at a1
  ·rename_i T hT;rw[hT];simp at a1;rw[a1]
  ·cases a1
 ·exact adC.1 a4
 ·exact a5
 ·split at b1
  ·rename_i T t x hT
   simp only[abH,beq_iff_eq] at b1
   obtain ⟨rfl,rfl⟩:=b1
   exact ⟨o',x,q,j4,hT,by simpa using b2,by simpa using b3,hq,b4⟩
  ·cases b1
 ·intro k g q hg hq ht
  have:=abZ.1 h3 k (acL.2 (abF.1 hg).1)
  simp only[hg,hq,acv,adV,List.contains_eq_mem,decide_eq_false_iff_not] at this
  rcases this with h | h
  ·exact absurd ht h
  ·exact h
 ·intro q hq
  have:=abZ.1 h4 q hq
  simp only[acv,abH,bne_iff_ne,ne_eq,decide_eq_true_eq] at this
  rcases this with ⟨⟨x,y⟩,z⟩ | h
  ·exact .inl ⟨x,y,z⟩
  ·exact .inr h
end Go.Vm
namespace Go.Vm
variable {P : Program} {obj : Nat → Bool} {c : Ctx} {h : Hp} {w : World}
theorem fW.eZ {L:cx} {c':Ctx} (hle:c.EE c'):∀ {vs:List V} {us:List Value},fW L c vs us→fW L c' vs us
 | [],[],_=> trivial
 | _::_,_::_,h=>⟨h.1.eZ hle,fW.eZ hle h.2⟩
 | [],_::_,h=> h.elim
 | _::_,[],h=> h.elim
theorem Bz {r:Option (V×Hp)} {h h':Hp} {v:V} (e:tT r h=some (v,h')):r=some (v,h')∧h'=h:=by
 unfold tT at e
 split at e
 ·split at e
  ·rename_i hh
   simp only[Option.some.injEq,Prod.mk.injEq] at e
   obtain ⟨rfl,rfl⟩:=e
   exact ⟨by rw[hh],rfl⟩
  ·cases e
 ·cases e
section
variable (hL : (ak P).OK) {cf : Nat → List V → Hp → Option (V × Hp)} {base : Nat} (gD : cA P (ak P) cf)
include hL gD
theorem BA {o:Oper} {g:O} {xs:List X} {fr:Fr} {a:Act} {v:V} {h':Hp} (hf:RF (ak P) c fr a) (hs:bj (ak P) c h w) (hc:si P obj o.type o.op=some (g,xs)) (ag:aB cf base h (zw obj g) (xs.map (X.ev fr))=some (v,h')):
 pM P (ak P) c w ((execOp a.eval o).run P w) v h':=by
 by_cases iW:∃f,g= .call f
 ·obtain ⟨f,rfl⟩:=iW
  simp only[zw] at ag
  split at ag
  ·exact sound hL gD hf hs hc ag
  ·simp only[aB] at ag
   exact sound (base:=base) hL gD hf hs hc (Bz ag).1
 ·by_cases hb:∃gg z p,g= .jc gg z p
  ·obtain ⟨gg,z,pl,rfl⟩:=hb
   simp only[zw] at ag
   split at ag
   ·exact sound hL gD hf hs hc ag
   ·obtain ⟨dst,op,ty,pos,after,guard⟩:=o
    simp only at hc ⊢
    cases op <;> simp only[si] at hc
    case buildSlice t n parts=>
      split at hc
      case h_2=> cases hc
      rename_i el hu
      split at hc
      case h_2=> cases hc
      rename_i z hz
      split at hc
      case isFalse=> cases hc
      rename_i bk
      obtain ⟨jE,gX,hn⟩:=bk
      obtain ⟨ys,hy,he⟩:=abD.1 hc
      simp only[Prod.mk.injEq] at he
      obtain ⟨he,rfl⟩:=he
      obtain ⟨rfl,rfl,rfl⟩:=JW he
      have hv:=q12z hf hy
      rw[acN] at hv
      simp only[aB] at ag
      obtain ⟨rJ,js,iN⟩:=cL hz
      have:=q7z (P:=P) (RO (P:=P) (T:=t) hL hs hu (cB jE) gX rJ js iN hn (us:=parts.toList.map fun p=> a.eval p.2) (by simpa using hv.length) hv.get ag)
      rw[←parts_eq] at this
      simpa only[execOp,Sem.run_bind,Sem.run_pure] using this
    all_goals (exfalso;revert hc;repeat' split)
    all_goals first | (simp[abD,abN,JX];done) | (intro hc;simp_all;done)
  ·have:zw obj g=g:=by
     cases g <;> first
       | rfl
       | exact absurd ⟨_,rfl⟩ iW
       | exact absurd ⟨_,_,_,rfl⟩ hb
   rw[this] at ag
   exact sound hL gD hf hs hc ag
theorem EZ {ops:List Oper} {o:Oper} {g:G} (hg:cog P obj ops o=some g) {fr:Fr} {a:Act} (hf:RF (ak P) c fr a) (hs:bj (ak P) c h w) {v:V} {h':Hp} (ba:Vm.stepG cf base fr h (Dp obj g)=some (v,h'))
 {K:Act→World→Prop} {Q:Exit→Act→World→Prop}
 (hK:∀u c' w',RV (ak P) c' v u→bj (ak P) c' h' w'→c.le c'→St w w'→K (a.put o.dst u) w'):
 if Region.wanted o (yielded ops.toArray a.tmps) then o.wp P a w K Q∨(o.asks P a w∧LetsOut Q) else K (a.put o.dst undef) w:=by
 unfold Vm.stepG at ba
 have YW:want fr (Dp obj g)=want fr g:=rfl
 rw[YW] at ba
 split at ba
 ·rename_i hw
  rw[jP hg hf hw,if_pos rfl]
  obtain ⟨hc,hd,_⟩:=kT hg
  left
  unfold Oper.wp
  rcases BA hL gD hf hs hc ba with ⟨u,c',w',hr,hv,dv,hle,ib⟩ | ⟨f,us,hr,iW⟩
  ·rcases hr with hr | ⟨hr,rfl⟩
   ·rw[hr];exact hK u c' w' hv dv hle ib
   ·rw[hr];exact hK undef c' w' hv dv hle ib
  ·rw[hr]
   refine Calls.mono iW fun e w' he=> ?_
   obtain ⟨u,c',rfl,hv,dv,hle,ib⟩:=he
   exact hK u c' w' hv dv hle ib
 ·rename_i hw
  simp only[Option.some.injEq,Prod.mk.injEq] at ba
  obtain ⟨rfl,rfl⟩:=ba
  rw[jP hg hf hw]
  exact hK undef c w (cz.2 ⟨[],rfl,trivial⟩) hs (Ctx.le_refl c) (St.refl w)
 ·cases ba
theorem Kd {o:Oper} {T t:Nat} (ho:o.op= .alloc T) (hd:o.dst=some t) {z:V} (hz:zeroOf P obj T=some z) {a:Act} (hs:bj (ak P) c h w) {K:Act→World→Prop} {Q:Exit→Act→World→Prop}
 (hK:∀cs:Array Value,cs.size=(ak P).aA (aG P T)→bj (ak P) (c.dC w.heap.size (zf cs T)) h (w.alloc (.cells cs T))→K (a.put (some t) (.pointer (some ⟨w.heap.size,0,none⟩))) (w.alloc (.cells cs T))):
 o.wp P a w K Q:=by
 obtain ⟨⟨i,zv,h1,h2,h3⟩,hzt,iN⟩:=cL hz
 have hlen:=(h3 c).bb hL iN
 have bh:(Instr.alloc T true (.tuple #[])).run P w= .ok (.pointer (some ⟨w.heap.size,0,none⟩)) (w.alloc (.cells zv.cells T)):=by
   have e:(Instr.alloc T true (.tuple #[])).run P w=(Instr.box T zv).run P w:=by
     simp[Instr.alloc,Instr.box,zeroValue,typeInfo,h1,h2]
   rw[e];simp[Instr.box,newVar,newRow]
 unfold Oper.wp
 have hex:(execOp a.eval o).run P w= .ok (.value (.pointer (some ⟨w.heap.size,0,none⟩))) (w.alloc (.cells zv.cells T)):=by
   obtain ⟨dst,op,ty,pos,after,guard⟩:=o
   simp only at ho
   subst ho
   simp only[execOp,Sem.run_bind,bh,Result.andThen_ok,Sem.run_pure]
 rw[hex,Oper.upon_value,hd]
 exact hK zv.cells (by rw[←hzt];simpa using hlen) (hs.JG _ _ (vV _ _))
theorem E0 {o:Oper} {T t:Nat} {x:Operand} (ho:o.op= .store T (.tmp t) x) (hd:o.dst=none) (jE:ox P T=true) {X0:X} (hx:eI P T x=some X0) {fr:Fr} {a:Act} (hf:RF (ak P) c fr a) (hs:bj (ak P) c h w)
 {b:Nat} (ht:a.tmps[t]? =some (.pointer (some ⟨b,0,none⟩))) {cs:Array Value} (hb:c.z b=some (zf cs T)) (yT:cs.size=(ak P).aA (aG P T)) {v:V} {h':Hp} (ag:rb h (aG P T) (X0.ev fr)=some (v,h'))
 {K:Act→World→Prop} {Q:Exit→Act→World→Prop}
 (hK:∀cs' w',h'=h→bj (ak P) (c.dC b (.cells cs' T (0,0))) h w'→RV (ak P) (c.dC b (.cells cs' T (0,0))) v (.pointer (some ⟨b,0,none⟩))→St w w'→K a w'):
 o.wp P a w K Q:=by
 have hv:=q22z hf hx
 generalize X0.ev fr=y at hv ag
 unfold rb at ag
 split at ag
 case isFalse=> cases ag
 rename_i hc
 obtain ⟨dO,fb⟩:=hc
 simp only[Option.some.injEq,Prod.mk.injEq] at ag
 obtain ⟨rfl,rfl⟩:=ag
 have hg:w.heap[b]? =some (.cells cs T (0,0)):=by have:=hs.z b _ hb;rwa [vV] at this
 have hlen:=hv.bb hL fb
 have bh:=me (P:=P) (w:=w) (o:=0) hL (ty:=T) (by rw[dO];exact cB jE) fb hv hg (by intro j hj;omega) (by rw[dO,←yT];omega)
 have jw:=dy b T (0,0) (a.eval x).cells.toList 0 cs w hg (by rw[hlen,dO,←yT];omega)
 have Bp:(lay cs.toList 0 (a.eval x).cells.toList)=(a.eval x).cells.toList:=by
   simp only[lay,adI,acj,ab9]
   rw[acx (by rw[hlen,dO,←yT];simp),ab8]
 rw[Bp] at jw
 have hex:(execOp a.eval o).run P w= .ok .skip (w.setCells b 0 (a.eval x).cells.toList):=by
   obtain ⟨dst,op,ty,pos,after,guard⟩:=o
   simp only at ho
   subst ho
   have e1:a.eval (.tmp t)= .pointer (some ⟨b,0,none⟩):=by simp[Act.eval,abQ,ht]
   have e2:(Instr.storeAt T (a.eval (.tmp t)) (a.eval x)).run P w= .ok () (w.setCells b 0 (a.eval x).cells.toList):=by
     rw[e1];simpa[Instr.storeAt,Instr.sureAddr] using bh
   simp[execOp,e2]
 unfold Oper.wp
 rw[hex,Oper.upon_skip,hd]
 have hnz:∀cs' ty fz,c.z b≠some (.cells cs' ty fz):=by rw[hb];intro _ _ _ h;cases h
 refine hK _ _ rfl (hs.fill hb (fun k hk=> q13z b _ _ _ k hk) jw) (gB.2 ⟨b,0,(a.eval x).cells.toList.toArray,T,(0,0),rfl,by simp[Ctx.dC],?_⟩) (St.setCells _ _ _ _)
 have h1:=((hv.cells fb).1).eZ (c.qu b (.cells (a.eval x).cells.toList.toArray T (0,0)) hnz)
 simp only[nG,acg,ac0]
 rw[abG (by rw[hlen];exact abJ _)]
 exact h1
end
end Go.Vm
namespace Go.Vm
variable {P : Program} {obj : Nat → Bool}
def kX (S:Nat→Prop) (p:kW):Prop:=S p.i∧¬S p.j
structure MT (P:Program) (prs:List kW) (c0 c:Ctx) (frc:Fr) (a:Act) (S:Nat→Prop) (frm:Fr) (B:Nat→Nat):Prop where
 len:frm.length=frc.length
 same:∀t,(∀p∈prs,p.t=t→¬kX S p)→frm[t]? =frc[t]?
 rf:RF (ak P) c frm a
 at_:∀p∈prs,kX S p→a.tmps[p.t]? =some (.pointer (some ⟨B p.i,0,none⟩))∧c0.z (B p.i)=none∧∃cs:Array Value,c.z (B p.i)=some (zf cs p.T)∧cs.size=(ak P).aA (aG P p.T)
 inj:∀p∈prs,∀q∈prs,kX S p→kX S q→B p.i=B q.i→p=q
theorem Ctx.le.dC {c0 c:Ctx} (h:c0.le c) {b:Nat} (hb:c0.z b=none) (o:Obj):c0.le (c.dC b o) where
 z i x hi:=by
   simp only[Ctx.dC]
   by_cases e:i=b
   ·rw[e,hb] at hi;cases hi
   ·rw[if_neg e];exact h.z i x hi
 n:=h.n
 loc:=h.loc
theorem kE {α:Type}:∀ {l:List α} {i:Nat} {x:α},l[i]? =some x→l.set i x=l
 | [],i,x,h=> rfl
 | y::l,0,x,h=> by simp at h;simp[h]
 | y::l,i+1,x,h=> by simp only[List.set_cons_succ];rw[kE (by simpa using h)]
section
variable {all : List Oper} {ds : List GD} {prs : List kW} (hc : rp P obj all prs 0 all = some (ds.map (·.g))) (gM : ∀ p ∈ prs, xN P obj all (ds.map (·.g)) prs p)
include hc gM
theorem SF {p:kW} (hp:p∈prs) {d:GD} (hd:ds[p.i]? =some d):d.g=⟨none,.nop,[],none⟩:=by
 obtain ⟨o,ho,_⟩:=(gM p hp).lay
 have:=(nr hc).2 p.i o d.g ho (by rw[abT,hd];rfl)
 rw[ab9] at this
 unfold Ka at this
 rw[if_pos (aej.2 ⟨p,hp,by simp⟩)] at this
 exact (Option.some.inj this).symm
theorem SG {p:kW} (hp:p∈prs) {d:GD} (hd:ds[p.j]? =some d):∃o x X0,all[p.j]? =some o∧o.op= .store p.T (.tmp p.t) x∧o.guard=none∧o.dst=none∧eI P p.T x=some X0∧d.g=⟨some p.t,.fzp (aG P p.T),[X0],none⟩:=by
 obtain ⟨o,x,q,ho,ag,hg,u4,_⟩:=(gM p hp).fill
 have:=(nr hc).2 p.j o d.g ho (by rw[abT,hd];rfl)
 rw[ab9] at this
 unfold Ka at this
 split at this
 ·rename_i h
  obtain ⟨p',nC,e⟩:=aej.1 h
  simp only[beq_iff_eq] at e
  obtain ⟨o',j4,ES,_⟩:=(gM p' nC).lay
  rw[e,ho] at j4;cases j4
  rw[ag] at ES;cases ES
 ·have hf:prs.find? (fun q=> q.j==p.j)=some p:=by
    cases hq:prs.find? (fun q=> q.j==p.j) with
    | none=> exact absurd (List.find?_eq_none.1 hq p hp) (by simp)
    | some q=>
      have h1:=List.mem_of_find?_eq_some hq
      have h2:=List.find?_some hq
      simp only[beq_iff_eq] at h2
      rcases (gM p hp).one q h1 with ⟨_,_,h⟩ | h
      ·exact absurd h2 h
      ·rw[h]
  rw[hf,ag] at this
  simp only at this
  obtain ⟨X0,h1,h2⟩:=abD.1 this
  exact ⟨o,x,X0,ho,ag,hg,u4,h1,h2.symm⟩
theorem BB {i:Nat} {o:Oper} {d:GD} (ho:all[i]? =some o) (hd:ds[i]? =some d):(∃p∈prs,p.i=i)∨(∃p∈prs,p.j=i)∨
 ((∀p∈prs,p.i≠i∧p.j≠i)∧∃g,cog P obj all o=some g∧d.g=Dp obj g):=by
 by_cases h1:∃p∈prs,p.i=i
 ·exact .inl h1
 by_cases h2:∃p∈prs,p.j=i
 ·exact .inr (.inl h2)
 refine .inr (.inr ⟨fun p hp=>⟨fun e=> h1 ⟨p,hp,e⟩,fun e=> h2 ⟨p,hp,e⟩⟩,?_⟩)
 have:=(nr hc).2 i o d.g ho (by rw[abT,hd];rfl)
 rw[ab9] at this
 unfold Ka at this
 rw[if_neg (fun h=> by
  obtain ⟨p,hp,e⟩:=aej.1 h
  exact h1 ⟨p,hp,by simpa using e⟩)] at this
 have hf:prs.find? (fun q=> q.j==i)=none:=List.find?_eq_none.2 fun p hp e=> h2 ⟨p,hp,by simpa using e⟩
 rw[hf] at this
 simp only at this
 obtain ⟨g,e1,e2⟩:=abD.1 this
 exact ⟨g,e1,e2.symm⟩
end
end Go.Vm
namespace Go.Vm
variable {P : Program} {obj : Nat → Bool}
section
variable (hL : (ak P).OK) {cf : Nat → List V → Hp → Option (V × Hp)} {base : Nat} (gD : cA P (ak P) cf)
include hL gD
theorem BC {all:List Oper} {ds:List GD} {prs:List kW} (hc:rp P obj all prs 0 all=some (ds.map (·.g))) (gM:∀p∈prs,xN P obj all (ds.map (·.g)) prs p) (iH:fC all ds=true) {mb fr':Fr} {h0 h':Hp} {vals:Nat→V} {frs:Nat→Fr} {hs:List Hp}
 (tr:Tr cf base ds mb h0 fr' h' vals frs hs)
 (Bx:∀(j:Nat) (d:GD),ds[j]? =some d→d.ca=false→∀(m:Nat) (hp:Hp),d.lo≤m→m≤d.hi→hs[m]? =some hp→stepG cf base (frs j) hp d.g=some (vals j,hp))
 (SH:inB mb.length ds) {c0:Ctx} {a0:Act} {w0:World} {Q:Exit→Act→World→Prop} (hE:Ends P c0 w0 a0 fr' h' (Q .normal)):
 ∀(fuel:Nat) (listed:Array Bool) (a:Act) (w:World) (c:Ctx) (m:Nat) (frc:Fr) (hp:Hp) (frm:Fr) (B:Nat→Nat),listed.size=all.length→listed.toList.count true+fuel=all.length→Clo all (q23z listed)→uO ds mb vals (q23z listed) frc→
  MT P prs c0 c frc a (q23z listed) frm B→hs[m]? =some hp→bj (ak P) c hp w→(∀(k:Nat) (d:GD),ds[k]? =some d→d.ca=true→(q23z listed k↔eV ds k < m))→c0.le c→St w0 w→a.defers=a0.defers→
  wpAny P .any all.toArray Q fuel listed a w:=by
 have hu:=rl iH
 obtain ⟨hlen,iO,J6⟩:=pP iH
 obtain ⟨Yw,Yx⟩:=nr hc
 have hpi:=fun (p:kW) (hp:p∈prs) (d:GD) (hd:ds[p.i]? =some d)=> SF (p:=p) hc gM hp hd
 have hpj:=fun (p:kW) (hp:p∈prs) (d:GD) (hd:ds[p.j]? =some d)=> SG (p:=p) hc gM hp hd
 have fin:∀(listed:Array Bool) (a:Act) (w:World) (c:Ctx) (m:Nat) (frc:Fr) (hp:Hp) (frm:Fr) (B:Nat→Nat),(∀j,j < all.length→q23z listed j)→uO ds mb vals (q23z listed) frc→
  MT P prs c0 c frc a (q23z listed) frm B→hs[m]? =some hp→bj (ak P) c hp w→(∀(k:Nat) (d:GD),ds[k]? =some d→d.ca=true→(q23z listed k↔eV ds k < m))→c0.le c→St w0 w→a.defers=a0.defers→Q .normal a w:=by
   intro listed a w c m frc hp frm B cJ kU hf hm kV ig hle ba fD
   have e1:frc=fr':=by
     have h1:=tr.cur hu ds.length (abJ _)
     rw[tr.lst] at h1
     apply acB
     intro t
     refine kU.same h1 t fun k d hd _=> ?_
     have hk:k < ds.length:=(abF.1 hd).1
     exact ⟨fun _=> hk,fun _=> cJ k (by omega)⟩
   have e2:m=eV ds ds.length:=by
     have h1:m < hs.length:=(abF.1 hm).1
     rw[tr.len] at h1
     rcases adg m (eV ds ds.length) with h2 | h2
     ·obtain ⟨k,d,h3,h4,h5,h6⟩:=jR ds h2
      have:=(ig k d h4 h5).1 (cJ k (by omega))
      omega
     ·omega
   have e3:hp=h':=by
     rw[e2,tr.EX] at hm
     exact (Option.some.inj hm).symm
   have e4:frm=frc:=by
     apply acB
     intro t
     refine hf.same t fun p hp _ ho=> ho.2 (cJ p.j ?_)
     obtain ⟨o,_,_,ho,_⟩:=(gM p hp).fill
     exact (abF.1 ho).1
   subst e1 e3
   rw[e4] at hf
   exact hE a c w hf.rf kV hle ba fD
 have stp:∀(fuel:Nat),(∀(listed:Array Bool) (a:Act) (w:World) (c:Ctx) (m:Nat) (frc:Fr) (hp:Hp) (frm:Fr) (B:Nat→Nat),listed.size=all.length→listed.toList.count true+fuel=all.length→Clo all (q23z listed)→uO ds mb vals (q23z listed) frc→
  MT P prs c0 c frc a (q23z listed) frm B→hs[m]? =some hp→bj (ak P) c hp w→(∀(k:Nat) (d:GD),ds[k]? =some d→d.ca=true→(q23z listed k↔eV ds k < m))→c0.le c→St w0 w→a.defers=a0.defers→
  wpAny P .any all.toArray Q fuel listed a w)→
   ∀(listed:Array Bool) (a:Act) (w:World) (c:Ctx) (m:Nat) (frc:Fr) (hp:Hp) (frm:Fr) (B:Nat→Nat),listed.size=all.length→listed.toList.count true+(fuel+1)=all.length→Clo all (q23z listed)→uO ds mb vals (q23z listed) frc→
    MT P prs c0 c frc a (q23z listed) frm B→hs[m]? =some hp→bj (ak P) c hp w→(∀(k:Nat) (d:GD),ds[k]? =some d→d.ca=true→(q23z listed k↔eV ds k < m))→c0.le c→St w0 w→a.defers=a0.defers→
    ∀i∈Region.ready .any all.toArray listed,wpOp P all.toArray Q i (wpAny P .any all.toArray Q fuel (listed.setIfInBounds i true)) a w:=by
   intro fuel ih listed a w c m frc hp frm B cG lT oY kU hf hm kV ig hle ba fD i hi
   obtain ⟨nV,o,ho,uv⟩:=mem_ready.1 hi
   rw[acG] at ho
   have hil:i < all.length:=(abF.1 ho).1
   have EW:¬q23z listed i:=by
     unfold q23z
     have:i < listed.size:=by omega
     simp only[abQ,ab4 this,ace] at nV ⊢
     simp[nV]
   have hd:ds[i]? =some ds[i]:=abE (by omega)
   generalize ds[i]'(by omega)=d at hd
   have xM:∀p,(dM [] all)[i]? =some p→∀k,p.testBit k=true→q23z listed k:=lS oY i o ho (fun e he hb=> uv e he hb)
   have wo:∀k q,(dM [] all)[k]? =some q→q.testBit i=true→¬q23z listed k:=fun k q hq hb hk=> by
     have dq:k < all.length:=by
       have:=(abF.1 hq).1
       rw[fM] at this;simpa using this
     have J7:all[k]? =some all[k]:=abE dq
     exact EW (lS oY k _ J7 (fun e he hb=> oY k _ J7 hk e he hb) q hq i hb)
   have nq:∀t∈d.g.reads,frc[t]? =(frs i)[t]? :=fun t ht=> by
     refine kU.same (tr.cur hu i (by omega)) t fun k e he het=> ?_
     by_cases hki:k=i
     ·subst hki
      exact ⟨fun h=> absurd h EW,fun h=> absurd h (Nat.lt_irrefl _)⟩
     ·obtain ⟨p,q,h1,h2,h3⟩:=pO iH hd he (fun h=> hki h.symm) het ht
      split at h3
      ·rename_i cF
       exact ⟨fun _=> cF,fun _=> xM p h1 k h3⟩
      ·rename_i cF
       exact ⟨fun h=> absurd h (wo k q h2 h3),fun h=> absurd h cF⟩
   have Ke:∀t∈d.g.reads,frm[t]? =(frs i)[t]? :=fun t ht=> by
     rw[←nq t ht]
     refine hf.same t fun p hp hpt ag=> ?_
     subst hpt
     have nU:i <(dM [] all).length:=by rw[fM];simpa using hil
     exact ag.2 (xM _ (abE nU) p.j ((gM p hp).look i d.g _ (by rw[abT,hd];rfl) (abE nU) ht))
   have J8:∃hq m',stepG cf base frm hp d.g=some (vals i,hq)∧hs[m']? =some hq∧(∀(k:Nat) (e:GD),ds[k]? =some e→e.ca=true→(q23z (listed.setIfInBounds i true) k↔eV ds k < m')):=by
     by_cases he:d.ca=true
     ·obtain ⟨hp1,hq,h1,h2,h3⟩:=tr.ca i d hd he
      have hmi:eV ds i=m:=by
        have h4:¬eV ds i < m:=fun h=> EW ((ig i d hd he).2 h)
        rcases adg m (eV ds i) with h5 | h5
        ·obtain ⟨k,e,h6,h7,h8,h9⟩:=jR ds h5
         obtain ⟨p,h10,h11⟩:=rm iH hd h7 he h8 h6
         have:=(ig k e h7 h8).1 (xM p h10 k h11)
         omega
        ·omega
      rw[hmi,hm] at h1
      cases h1
      refine ⟨hq,m+1,?_,hmi ▸ h2,fun k e xf Ae=> ?_⟩
      ·rw[jS Ke];exact h3
      ·rw[db (by omega),ig k e xf Ae]
       constructor
       ·rintro (h | rfl)
        ·omega
        ·omega
       ·intro h
        rcases adg (eV ds k) m with h5 | h5
        ·exact Or.inl h5
        ·right
         rcases Nat.lt_trichotomy k i with h6 | h6 | h6
         ·have:=xK xf Ae h6;omega
         ·exact h6
         ·have:=xK hd he h6;omega
     ·have GG:d.ca=false:=by simpa using he
      have aaQ:m < eV ds ds.length+1:=by
        have:=(abF.1 hm).1
        rw[tr.len] at this;exact this
      have Sy:d.lo≤m:=by
        rcases adg m d.lo with h5 | h5
        ·have h6:=iO d (abS hd)
         obtain ⟨k,e,h7,h8,h9,h10⟩:=jR ds (show m < eV ds ds.length by omega)
         obtain ⟨p,q,h11,h12,h13,h14⟩:=nN iH hd h8 GG h9
         have:=(ig k e h8 h9).1 (xM p h11 k (h13 (by omega)))
         omega
        ·exact h5
      have Sz:m≤d.hi:=by
        rcases adg d.hi m with h5 | h5
        ·obtain ⟨k,e,h7,h8,h9,h10⟩:=jR ds (show d.hi < eV ds ds.length by omega)
         obtain ⟨p,q,h11,h12,h13,h14⟩:=nN iH hd h8 GG h9
         exact absurd ((ig k e h8 h9).2 (by omega)) (wo k q h12 (h14 (by omega)))
        ·exact h5
      refine ⟨hp,m,?_,hm,fun k e xf Ae=> ?_⟩
      ·rw[jS Ke];exact Bx i d hd GG m hp Sy Sz hm
      ·rw[db (by omega),ig k e xf Ae]
       constructor
       ·rintro (h | rfl)
        ·exact h
        ·rw[hd] at xf;cases xf;rw[GG] at Ae;cases Ae
       ·exact Or.inl
   obtain ⟨hq,m',h1,h2,h3⟩:=J8
   have SI:(listed.setIfInBounds i true).toList.count true+fuel=all.length:=by
     have kf:listed.toList[i]? =some false:=by
       have:i < listed.size:=by omega
       rw[adj,ab4 this]
       simp only[q23z,abQ,ab4 this,ace,adu] at EW
       rw[EW]
     have cF:i < listed.toList.length:=(abF.1 kf).1
     have uN:listed.toList[i]=false:=by simpa[abE cF] using kf
     rw[ac9,List.count_set cF,uN]
     show List.count true listed.toList - 0+1+fuel=all.length
     omega
   have Kf:Clo all (q23z (listed.setIfInBounds i true)):=by
     intro j o' j4 hj e he hb
     rw[db (by omega)]
     rcases (db (by omega) j).1 hj with hj | rfl
     ·exact Or.inl (oY j o' j4 hj e he hb)
     ·rw[ho] at j4;cases j4
      exact Or.inl (uv e he hb)
   have hS:∀k,q23z (listed.setIfInBounds i true) k↔q23z listed k∨k=i:=fun k=> db (by omega) k
   have Kg:uO ds mb vals (q23z (listed.setIfInBounds i true)) (gY frc d.g.dst (vals i)):=kU.step hu hd hS
   have u4:∀p∈prs,∃e,ds[p.j]? =some e∧e.g.dst=some p.t:=fun p hp=> by
     obtain ⟨o',_,_,j4,_⟩:=(gM p hp).fill
     have cF:=(abF.1 j4).1
     have he:ds[p.j]? =some ds[p.j]:=abE (by omega)
     obtain ⟨_,_,_,_,_,_,_,_,h⟩:=hpj p hp _ he
     exact ⟨_,he,by rw[h]⟩
   have hij:∀p∈prs,∀q∈prs,p.i≠q.j:=fun p hp q hq e=> by
     obtain ⟨o1,h1,h2,_⟩:=(gM p hp).lay
     obtain ⟨o2,_,_,h3,h4,_⟩:=(gM q hq).fill
     rw[e,h3] at h1;cases h1
     rw[h4] at h2;cases h2
   unfold wpOp
   rw[acG,ho]
   simp only
   rcases BB hc gM ho hd with ⟨p,nC,rfl⟩ | ⟨p,nC,rfl⟩ | ⟨hno,g,hg,hdg⟩
   ·-- it is laid out
    have hdg:=hpi p nC _ hd
    obtain ⟨o',j4,ag,hgd,hdd⟩:=(gM p nC).lay
    rw[ho] at j4;cases j4
    obtain ⟨z,hz⟩:=(gM p nC).zero
    have GH:hq=hp:=by
      rw[hdg] at h1
      simp only[Vm.stepG,want,ab1,aB,Option.some.injEq,Prod.mk.injEq] at h1
      exact h1.2.symm
    subst GH
    have hw:Region.wanted o (yielded all.toArray a.tmps)=true:=by simp[Region.wanted,hgd]
    rw[if_pos hw]
    refine Or.inl (Kd hL gD ag hdd hz kV fun cs yT Kh=> ?_)
    have hzn:=kV.qZ
    have rJ:c0.z w.heap.size=none:=by
      cases hz:c0.z w.heap.size with
      | none=> rfl
      | some x=> rw[hle.z _ _ hz] at hzn;cases hzn
    have SJ:=c.kQ w.heap.size (zf cs p.T) hzn
    obtain ⟨e,he,Ki⟩:=u4 p nC
    have uM:p.t < a.tmps.size:=by
      have h5:=SH e (abS he) p.t Ki
      have h6:=fW.length hf.rf
      rw[hf.len,kU.len] at h6
      rw[ac1] at h6
      rw[h6];exact h5
    have lF:kX (q23z (listed.setIfInBounds p.i true)) p:=⟨(hS _).2 (Or.inr rfl),fun h=> by
      rcases (hS _).1 h with h | h
      ·obtain ⟨_,_,q,_,_,_,_,hq1,hq2⟩:=(gM p nC).fill
       exact wo p.j q hq1 hq2 h
      ·exact hij p nC p nC h.symm⟩
    have hold:∀q∈prs,kX (q23z (listed.setIfInBounds p.i true)) q→q≠p→kX (q23z listed) q:=fun q hq ho da=> by
      refine ⟨?_,fun h=> ho.2 ((hS _).2 (Or.inl h))⟩
      rcases (hS _).1 ho.1 with h | h
      ·exact h
      ·rcases (gM p nC).one q hq with ⟨_,h',_⟩ | h'
       ·exact absurd h h'
       ·exact absurd h' da
    refine ih _ _ _ _ m' (gY frc d.g.dst (vals p.i)) hq (frm.set p.t .top) (fun k=> if k=p.i then w.heap.size else B k) (by simpa using cG) SI Kf Kg ?_ h2 Kh h3 (hle.trans SJ) (ba.trans (St.alloc _ _)) (by rw[jQ,fD])
    rw[hdg]
    refine ⟨by simp[gY,hf.len],fun t hno=> ?_,?_,fun q hq ho=> ?_,fun q hq r hr ho1 ho2 hB=> ?_⟩
    ·have da:p.t≠t:=fun e=> hno p nC e lF
     rw[abM da]
     refine hf.same t fun q hq hqt ag=> hno q hq hqt ⟨(hS _).2 (Or.inl ag.1),fun h=> ?_⟩
     rcases (hS _).1 h with h | h
     ·exact ag.2 h
     ·exact hij p nC q hq h.symm
    ·exact RF.put (v:=V.top) (hf.rf.mono SJ) ⟨[.pointer (some ⟨w.heap.size,0,none⟩)],by simp only[RC];exact ⟨_,rfl⟩,rfl⟩ (some p.t)
    ·by_cases GH:q=p
     ·subst GH
      simp only[if_true]
      exact ⟨by simp[Act.put,uM],rJ,cs,by simp[Ctx.dC],yT⟩
     ·have j4:=hold q hq ho GH
      obtain ⟨b1,b2,cs',b3,b4⟩:=hf.at_ q hq j4
      have hqi:q.i≠p.i∧q.t≠p.t:=by
        rcases (gM p nC).one q hq with ⟨h1,h2,_⟩ | h
        ·exact ⟨h2,h1⟩
        ·exact absurd h GH
      rw[if_neg hqi.1]
      refine ⟨by simp only[Act.put];rw[aed (ado hqi.2)];exact b1,b2,cs',SJ.z _ _ b3,b4⟩
    ·by_cases GH:q=p <;> by_cases hrp:r=p
     ·rw[GH,hrp]
     ·exfalso
      obtain ⟨_,_,cs',b3,_⟩:=hf.at_ r hr (hold r hr ho2 hrp)
      have:r.i≠p.i:=by rcases (gM p nC).one r hr with ⟨_,h2,_⟩ | h;exact h2;exact absurd h hrp
      subst GH
      simp only[if_true,if_neg this] at hB
      rw[←hB,hzn] at b3;cases b3
     ·exfalso
      obtain ⟨_,_,cs',b3,_⟩:=hf.at_ q hq (hold q hq ho1 GH)
      have:q.i≠p.i:=by rcases (gM p nC).one q hq with ⟨_,h2,_⟩ | h;exact h2;exact absurd h GH
      subst hrp
      simp only[if_true,if_neg this] at hB
      rw[hB,hzn] at b3;cases b3
     ·have e1:q.i≠p.i:=by rcases (gM p nC).one q hq with ⟨_,h2,_⟩ | h;exact h2;exact absurd h GH
      have e2:r.i≠p.i:=by rcases (gM p nC).one r hr with ⟨_,h2,_⟩ | h;exact h2;exact absurd h hrp
      simp only[if_neg e1,if_neg e2] at hB
      exact hf.inj q hq r hr (hold q hq ho1 GH) (hold r hr ho2 hrp) hB
   ·-- it is filled
    obtain ⟨o',x,X0,j4,ag,hgd,hdd,hx,hdg⟩:=hpj p nC _ hd
    rw[ho] at j4;cases j4
    have O2:kX (q23z listed) p:=⟨by
      obtain ⟨_,_,q,_,_,_,_,hq1,hq2⟩:=(gM p nC).fill
      exact xM q hq1 p.i hq2,EW⟩
    obtain ⟨b1,b2,cs,b3,b4⟩:=hf.at_ p nC O2
    have h1':rb hp (aG P p.T) (X0.ev frm)=some (vals p.j,hq):=by
      rw[hdg] at h1
      simpa only[Vm.stepG,want,abR,ab1,aB] using h1
    have hw:Region.wanted o (yielded all.toArray a.tmps)=true:=by simp[Region.wanted,hgd]
    rw[if_pos hw]
    refine Or.inl (E0 hL gD ag hdd (gM p nC).tg hx hf.rf kV b1 b3 b4 h1' fun cs' w' hh Kh jY ib=> ?_)
    subst hh
    have hnz:∀cs' ty fz,c.z (B p.i)≠some (.cells cs' ty fz):=by rw[b3];intro _ _ _ h;cases h
    have aaU:=c.qu (B p.i) (.cells cs' p.T (0,0)) hnz
    have hold:∀q∈prs,kX (q23z (listed.setIfInBounds p.j true)) q→kX (q23z listed) q∧q≠p:=fun q hq ho=> by
      refine ⟨⟨?_,fun h=> ho.2 ((hS _).2 (Or.inl h))⟩,fun e=> ho.2 ((hS _).2 (Or.inr (by rw[e])))⟩
      rcases (hS _).1 ho.1 with h | h
      ·exact h
      ·exact absurd h (hij q hq p nC)
    refine ih _ _ _ _ m' (gY frc d.g.dst (vals p.j)) hq (frm.set p.t (vals p.j)) B (by simpa using cG) SI Kf Kg ?_ h2 Kh h3 (hle.dC b2 _) (ba.trans ib) fD
    rw[hdg]
    refine ⟨by simp[gY,hf.len],fun t hno=> ?_,?_,fun q hq ho=> ?_,fun q hq r hr ho1 ho2 hB=> ?_⟩
    ·simp only[gY]
     by_cases e:p.t=t
     ·subst e
      rw[acs,acs,hf.len]
      simp only[if_true]
     ·rw[abM e,abM e]
      refine hf.same t fun q hq hqt ag=> hno q hq hqt ⟨(hS _).2 (Or.inl ag.1),fun h=> ?_⟩
      rcases (hS _).1 h with h | h
      ·exact ag.2 h
      ·rcases (gM p nC).one q hq with ⟨_,_,h'⟩ | h'
       ·exact h' h
       ·rw[h'] at hqt;exact e hqt
    ·have:=fW.set jY p.t (fW.eZ aaU hf.rf)
     rw[kE (l:=a.tmps.toList) (by rw[adj];exact b1)] at this
     exact this
    ·obtain ⟨j4,da⟩:=hold q hq ho
     obtain ⟨d1,d2,cs2,d3,d4⟩:=hf.at_ q hq j4
     refine ⟨d1,d2,cs2,?_,d4⟩
     simp only[Ctx.dC]
     rw[if_neg (fun e=> da (hf.inj q hq p nC j4 O2 e))];exact d3
    ·exact hf.inj q hq r hr (hold q hq ho1).1 (hold r hr ho2).1 hB
   ·-- any other
    rw[hdg] at h1
    have Gx:d.g.dst=o.dst:=by rw[hdg];exact (kT hg).2.1
    refine EZ (Q:=Q) hL gD hg hf.rf kV h1 fun u c' w' hv dv EY ib=> ?_
    have hold:∀q∈prs,(kX (q23z (listed.setIfInBounds i true)) q↔kX (q23z listed) q):=fun q hq=> by
      obtain ⟨n1,n2⟩:=hno q hq
      simp only[kX,hS]
      constructor
      ·rintro ⟨h | h,h'⟩
       ·exact ⟨h,fun x=> h' (Or.inl x)⟩
       ·exact absurd h n1
      ·rintro ⟨h,h'⟩
       refine ⟨Or.inl h,fun x=> ?_⟩
       rcases x with x | x
       ·exact h' x
       ·exact n2 x
    refine ih _ _ w' c' m' (gY frc d.g.dst (vals i)) hq (gY frm d.g.dst (vals i)) B (by simpa using cG) SI Kf Kg ?_ h2 dv h3 (hle.trans EY) (ba.trans ib) (by rw[jQ,fD])
    refine ⟨by rw[np,np,hf.len],fun t aaV=> ?_,?_,fun q hq ho=> ?_,fun q hq r hr ho1 ho2 hB=> hf.inj q hq r hr ((hold q hq).1 ho1) ((hold r hr).1 ho2) hB⟩
    ·have C9:=hf.same t fun q hq hqt ag=> aaV q hq hqt ((hold q hq).2 ag)
     cases hdd:d.g.dst with
     | none=> exact C9
     | some t'=>
       simp only[gY]
       rw[acs,acs,hf.len]
       split
       ·rfl
       ·exact C9
    ·rw[Gx];exact RF.put (hf.rf.mono EY) hv o.dst
    ·obtain ⟨d1,d2,cs2,d3,d4⟩:=hf.at_ q hq ((hold q hq).1 ho)
     refine ⟨?_,d2,cs2,EY.z _ _ d3,d4⟩
     obtain ⟨e,he,Ki⟩:=u4 q hq
     cases hdd:o.dst with
     | none=> simpa only[Act.put] using d1
     | some t'=>
       simp only[Act.put]
       rw[aed (fun h=> ?_)]
       ·exact d1
       ·exact (hno q hq).2 (hu q.j i e d q.t he hd Ki (by rw[Gx,hdd,h]))
 intro fuel
 induction fuel with
 | zero=>
   intro listed a w c m frc hp frm B cG lT oY kU hf hm kV ig hle ba fD
   have cJ:∀j,j < all.length→q23z listed j:=fun j hj=> by
     have h1:listed.toList.count true=listed.toList.length:=by simp at lT ⊢;omega
     have h2:=List.count_eq_length.1 h1
     have h3:j < listed.size:=by omega
     have:=h2 listed.toList[j] (acZ _)
     simp only[q23z,abQ,ab4 h3,ace]
     simpa using this.symm
   refine ⟨?_,fin listed a w c m frc hp frm B cJ kU hf hm kV ig hle ba fD⟩
   apply aeg.2
   intro i hi
   obtain ⟨h1,o,ho,_⟩:=mem_ready.1 hi
   rw[acG] at ho
   have hil:i < all.length:=(abF.1 ho).1
   have:=cJ i hil
   have h3:i < listed.size:=by omega
   simp only[q23z,abQ,ab4 h3,ace] at this h1
   rw[this] at h1;cases h1
 | succ fuel ih=>
   intro listed a w c m frc hp frm B cG lT oY kU hf hm kV ig hle ba fD
   refine ⟨fun nP=> ?_,stp fuel ih listed a w c m frc hp frm B cG lT oY kU hf hm kV ig hle ba fD⟩
   have cJ:∀j,j < all.length→q23z listed j:=by
     intro j
     induction j using Nat.strongRecOn with
     | _ j ihj=>
       intro hj
       by_cases hn:q23z listed j
       ·exact hn
       ·exfalso
        have ho:all[j]? =some all[j]:=abE hj
        have:j∈Region.ready .any all.toArray listed:=by
          refine mem_ready.2 ⟨?_,all[j],by rw[acG,ho],fun e he hb=> ?_⟩
          ·have h3:j < listed.size:=by omega
           simp only[q23z,abQ,ab4 h3,ace,adu] at hn ⊢
           exact hn
          ·have:=J6 j _ ho e he hb
           exact ihj e.on this (by omega)
        rw[nP] at this
        cases this
   exact fin listed a w c m frc hp frm B cJ kU hf hm kV ig hle ba fD
theorem zx {id:Nat} {all:List Oper} {ds:List GD} {prs:List kW} (u5:P.follows .mixedOrders=true) (hc:rp P obj all prs 0 all=some (ds.map (·.g))) (gM:∀p∈prs,xN P obj all (ds.map (·.g)) prs p) (iH:fC all ds=true) {c:Ctx} {h:Hp} {w:World} {fr:Fr} {a:Act}
 (hf:RF (ak P) c fr a) (hs:bj (ak P) c h w) {fr':Fr} {h':Hp} (hr:bd cf base ds fr h=some (fr',h')) {Q:Exit→Act→World→Prop} (hE:Ends P c w a fr' h' (Q .normal)):
 (Code.region id all.toArray true).wp P Q a w:=by
 have SH:=J2 cf base hr
 obtain ⟨vals,frs,hps,tr,hq⟩:=Dj cf base hr
 refine wp_region_any u5 ?_
 have abe:∀k,¬q23z (Array.replicate all.length false) k:=fun k hk=> by
   simp only[q23z,abQ,acp] at hk
   split at hk <;> simp at hk
 refine BC hL gD hc gM iH tr hq SH (c0:=c) (a0:=a) (w0:=w) hE _ _ a _ c 0 fr h fr (fun _=> 0) (by simp) ?_ ?_ ?_ ?_ tr.zt hs.drew ?_ (Ctx.le_refl c) (St.drew w) rfl
 ·simp[ael]
 ·intro j o ho hj
  simp only[q23z,abQ,acp] at hj
  split at hj <;> simp at hj
 ·refine uO.start ds fr vals fun k hk=> ?_
  simp only[q23z,abQ,acp] at hk
  split at hk <;> simp at hk
 ·refine ⟨rfl,fun t _=> rfl,hf,fun p hp ho=> ?_,fun p hp q hq ho=> ?_⟩<;>
  ·have hk:=ho.1
   simp only[q23z,abQ,acp] at hk
   split at hk <;> simp at hk
 ·intro k d hd he
  constructor
  ·intro hk
   simp only[q23z,abQ,acp] at hk
   split at hk <;> simp at hk
  ·intro hk;omega
end
end Go.Vm
namespace Go.Vm
variable {P : Program} {obj : Nat → Bool}
def wv (c:Nat):List GD→Bool
 | []=> true
 | d::ds=>(d.ca || d.g.op.indep || (d.lo==c && d.hi==c))&& wv (if d.ca then c+1 else c) ds
theorem zy :∀ {ds:List GD} {c:Nat},wv c ds=true→∀(j:Nat) (d:GD),ds[j]? =some d→d.ca=true∨d.g.op.indep=true∨(d.lo=c+eV ds j∧d.hi=c+eV ds j)
 | [],c,h,j,d,hd=> by simp at hd
 | d'::ds,c,h,0,d,hd=> by
   simp only[ab0,Option.some.injEq] at hd
   subst hd
   simp only[wv,abH,acv,beq_iff_eq] at h
   rw[jB]
   rcases h.1 with (h1 | h1) | h1
   ·exact Or.inl h1
   ·exact Or.inr (Or.inl h1)
   ·exact Or.inr (Or.inr (by omega))
 | d'::ds,c,h,j+1,d,hd=> by
   simp only[wv,abH] at h
   rcases zy h.2 j d (by simpa using hd) with h1 | h1 | h1
   ·exact Or.inl h1
   ·exact Or.inr (Or.inl h1)
   ·refine Or.inr (Or.inr ?_)
    rw[eJ]
    split at h1
    ·rename_i he;simp[he];omega
    ·rename_i he;simp[he];omega
section
variable (cf : Nat → List V → Hp → Option (V × Hp)) (base : Nat)
theorem MU :∀(ds:List GD) (fr:Fr) (h:Hp) (fr':Fr) (h':Hp),kD cf base (ds.map (·.g)) fr h=some (fr',h')→
 ∃vals frs hs,Tr cf base ds fr h fr' h' vals frs hs∧∀(j:Nat) (d:GD),ds[j]? =some d→d.ca=false→∃hp,hs[eV ds j]? =some hp∧stepG cf base (frs j) hp d.g=some (vals j,hp):=by
 intro ds
 induction ds with
 | nil=>
   intro fr h fr' h' hr
   simp only[ab1,kD,Option.some.injEq,Prod.mk.injEq] at hr
   obtain ⟨rfl,rfl⟩:=hr
   exact ⟨fun _=> .top,fun _=> fr,[h],⟨rfl,rfl,fun j d hd=> by simp at hd,by simp[eV],rfl,by simp[eV],fun j d hd=> by simp at hd⟩,fun j d hd=> by simp at hd⟩
 | cons d ds ih=>
   intro fr h fr' h' hr
   simp only[abR,kD] at hr
   split at hr
   case h_2=> cases hr
   rename_i v h1 ba
   obtain ⟨vals,frs,hs,t,hq⟩:=ih _ _ _ _ hr
   have hn:d.ca=false→h1=h:=fun he=> rn he ba
   refine ⟨(fun j=> match j with | 0=> v | j+1=> vals j),(fun j=> match j with | 0=> fr | j+1=> frs j),(if d.ca then h::hs else hs),⟨rfl,t.lst,?_,?_,?_,?_,?_⟩,?_⟩
   ·intro j d' hd
    cases j with
    | zero=>
      simp only[ab0,Option.some.injEq] at hd
      subst hd
      exact t.fst
    | succ j=> exact t.next j d' (by simpa using hd)
   ·rw[ab3,eJ]
    have:=t.len
    split <;> simp <;> omega
   ·split
    ·rfl
    ·rename_i hc
     rw[t.zt,hn (by simpa using hc)]
   ·rw[ab3,eJ]
    split
    ·rw[ady];simpa using t.EX
    ·simpa using t.EX
   ·intro j d' hd wj
    cases j with
    | zero=>
      simp only[ab0,Option.some.injEq] at hd
      subst hd
      refine ⟨h,h1,?_,?_,ba⟩
      ·simp[jB,wj]
      ·simp only[jB,wj,if_true]
       simpa using t.zt
    | succ j=>
      obtain ⟨hp,hq',a1,a2,a3⟩:=t.ca j d' (by simpa using hd) wj
      refine ⟨hp,hq',?_,?_,a3⟩
      ·rw[eJ];split
       ·rw[ady];simpa using a1
       ·simpa using a1
      ·rw[eJ];split
       ·rw[ady 1];simpa using a2
       ·simpa using a2
   ·intro j d' hd wj
    cases j with
    | zero=>
      simp only[ab0,Option.some.injEq] at hd
      subst hd
      have:=hn wj
      subst this
      exact ⟨h1,by simp[jB,wj,t.zt],ba⟩
    | succ j=>
      obtain ⟨hp,a1,a2⟩:=hq j d' (by simpa using hd) wj
      refine ⟨hp,?_,a2⟩
      rw[eJ];split
      ·rw[ady];simpa using a1
      ·simpa using a1
end
section
variable (hL : (ak P).OK) {cf : Nat → List V → Hp → Option (V × Hp)} {base : Nat} (gD : cA P (ak P) cf)
include hL gD
theorem BE {id:Nat} {all:List Oper} {ds:List GD} (u5:P.follows .mixedOrders=true) (hc:rM P obj all all=some (ds.map (·.g))) (iH:fC all ds=true) (Kj:wv 0 ds=true) {c:Ctx} {h:Hp} {w:World} {fr:Fr} {a:Act}
 (hf:RF (ak P) c fr a) (hs:bj (ak P) c h w) {fr':Fr} {h':Hp} (hr:kD cf base (ds.map (·.g)) fr h=some (fr',h')) {Q:Exit→Act→World→Prop} (hE:Ends P c w a fr' h' (Q .normal)):
 (Code.region id all.toArray true).wp P Q a w:=by
 obtain ⟨vals,frs,hps,tr,hq⟩:=MU cf base _ _ _ _ _ hr
 refine wp_region_any u5 ?_
 refine wm hL gD hc iH tr (fun j d hd he m hp iO hhi hm=> ?_) (c0:=c) (a0:=a) (w0:=w) hE _ _ a _ c 0 fr h (by simp) ?_ ?_ ?_ hf tr.zt hs.drew ?_ (Ctx.le_refl c) (St.drew w) rfl
 ·obtain ⟨nC,h1,h2⟩:=hq j d hd he
  rcases zy Kj j d hd with h3 | h3 | ⟨h3,h4⟩
  ·rw[he] at h3;cases h3
  ·exact zu h3 h2 hp
  ·have:m=eV ds j:=by omega
   subst this
   rw[h1] at hm;cases hm
   exact h2
 ·simp[ael]
 ·intro j o ho hj
  simp only[q23z,abQ,acp] at hj
  split at hj <;> simp at hj
 ·refine uO.start ds fr vals fun k hk=> ?_
  simp only[q23z,abQ,acp] at hk
  split at hk <;> simp at hk
 ·intro k d hd he
  constructor
  ·intro hk
   simp only[q23z,abQ,acp] at hk
   split at hk <;> simp at hk
  ·intro hk;omega
end
def Dq (rs:List Row) (total:Nat) (r:Row):Nat×Nat:=
 rs.foldl (fun b k=> if k.d.ca then (if r.p.testBit k.k then (max b.1 (k.c+1),b.2) else if k.p.testBit r.k then (b.1,min b.2 k.c) else b) else b) (0,total)
def kh (os:List Oper) (gs:List G):List GD:=
 let rs:=mf 0 0 (gs.map fun g=>⟨g,0,0⟩) (dM [] os)
 let total:=(rs.filter (·.d.ca)).length
 rs.map fun r=> let b:=Dq rs total r;⟨r.d.g,b.1,b.2⟩
def MV (obj:Nat→Bool) (all:List Oper):List kW:=
 (List.range all.length).filterMap fun i=> match all[i]? with
   | some o=> match o.op,o.dst,o.guard with
     | .alloc T,some t,none=> if obj (3000000+T) then none else
       match (List.range all.length).filter (fun j=> match all[j]? with
           | some o'=>(match o'.op with | .store T' (.tmp t') _=> T'==T && t'==t && o'.guard.isNone && o'.dst.isNone | _=> false)
           | none=> false) with
       | [j]=> some ⟨i,j,t,T⟩
       | _=> none
     | _,_,_=> none
   | none=> none
def Dr (P:Program) (obj:Nat→Bool) (all:List Oper) (prs:List kW):Option C:=
 match rp P obj all prs 0 all with
 | some gs=> if P.follows .mixedOrders=true∧fC all (kh all gs)=true∧(kh all gs).length=gs.length∧(prs.all (Kb P obj all gs prs))=true then some (.bd (kh all gs)) else none
 | none=> none
def O3 (P:Program) (obj:Nat→Bool) (all:List Oper):Option C:=
 match Dr P obj all [] with
 | some c=> some c
 | none=> Dr P obj all (MV obj all)
def gO (P:Program) (obj:Nat→Bool):Code→Option C
 | .skip=> some .skip
 | .region _ ops draw=> match rM P obj ops.toList ops.toList with
   | some gs=>
     if draw then
      (if P.follows .mixedOrders=true∧fC ops.toList (kh ops.toList gs)=true∧(kh ops.toList gs).length=gs.length then
        (if wv 0 (kh ops.toList gs)=true then some (.af gs) else some (.bd (kh ops.toList gs)))
      else O3 P obj ops.toList)
     else some (.af gs)
   | none=> none
 | .seq a b=> match gO P obj a,gO P obj b with | some a,some b=> some (.seq a b) | _,_=> none
 | .cond c a b=> match eI P 0 c,gO P obj a,gO P obj b with | some c,some a,some b=> some (.cond c a b) | _,_,_=> none
 | .block id a=>(gO P obj a).map (.block id)
 | .loop a=>(gO P obj a).map .loop
 | .exit id=> some (.exit id)
 | .ret=> some .ret
 | _=> none
theorem Ds :∀(gs:List G) (ps:List Nat) (k c:Nat) (f:Row→Nat×Nat),(mf k c (gs.map fun g=>⟨g,0,0⟩) ps).length=gs.length→
 (((mf k c (gs.map fun g=>⟨g,0,0⟩) ps).map fun r=>(⟨r.d.g,(f r).1,(f r).2⟩:GD)).map (·.g))=gs
 | [],ps,k,c,f,_=> by simp[mf]
 | g::gs,[],k,c,f,h=> by simp[mf] at h
 | g::gs,p::ps,k,c,f,h=> by
   simp only[abR,mf,ab3,Nat.add_right_cancel_iff] at h
   simp only[abR,mf]
   rw[Ds gs ps _ _ f h]
theorem zA {os:List Oper} {gs:List G} (h:(kh os gs).length=gs.length):(kh os gs).map (·.g)=gs:=by
 unfold kh at h ⊢
 simp only[abX] at h
 exact Ds gs _ 0 0 (fun r=> Dq _ _ r) h
def qC :Ex→Exit
 | .normal=> .normal
 | .exit id=> .exit id
 | .ret=> .ret
section
variable (hL : (ak P).OK) {cf : Nat → List V → Hp → Option (V × Hp)} {base : Nat} (gD : cA P (ak P) cf)
include hL gD
def Leaves (P:Program) (c:Ctx) (w:World) (a:Act) (e:Ex) (fr':Fr) (h':Hp) (Q:Exit→Act→World→Prop):Prop:=Ends P c w a fr' h' (Q (qC e))
theorem oE :∀ {code:Code} {k:C},gO P obj code=some k→∀ {c:Ctx} {h:Hp} {w:World} {fr:Fr} {a:Act},RF (ak P) c fr a→bj (ak P) c h w→
 ∀ {e:Ex} {fr':Fr} {h':Hp},exec cf base k fr h=some (e,fr',h')→∀ {Q:Exit→Act→World→Prop},Leaves P c w a e fr' h' Q→code.wp P Q a w:=by
 intro code
 induction code with
 | skip=>
   intro k hk c h w fr a hf hs e fr' h' hx Q hE
   simp only[gO,Option.some.injEq] at hk
   subst hk
   simp only[exec,Option.some.injEq,Prod.mk.injEq] at hx
   obtain ⟨rfl,rfl,rfl⟩:=hx
   exact wp_skip (hE a c w hf hs (Ctx.le_refl c) (St.refl w) rfl)
 | region id ops draw=>
   intro k hk c h w fr a hf hs e fr' h' hx Q hE
   simp only[gO] at hk
   split at hk
   case h_2=> cases hk
   rename_i gs jG
   have MW:ops=ops.toList.toArray:=by simp
   split at hk
   ·rename_i hd
    subst hd
    split at hk
    case isFalse=>
      have lX:∃prs,Dr P obj ops.toList prs=some k:=by
        unfold O3 at hk
        split at hk
        ·rename_i h1;exact ⟨_,h1.trans hk⟩
        ·exact ⟨_,hk⟩
      clear hk
      obtain ⟨prs,hk⟩:=lX
      unfold Dr at hk
      split at hk
      case h_2=> cases hk
      rename_i gs2 aaW
      split at hk
      case isFalse=> cases hk
      rename_i bk
      obtain ⟨u5,iH,hlen,SK⟩:=bk
      have hg:=zA hlen
      simp only[Option.some.injEq] at hk
      subst hk
      simp only[exec] at hx
      obtain ⟨r,hr,he⟩:=abD.1 hx
      simp only[Prod.mk.injEq] at he
      obtain ⟨rfl,rfl,rfl⟩:=he
      rw[MW]
      exact zx hL gD u5 (by rw[hg];exact aaW) (fun p hp=> by rw[hg];exact Kc (abZ.1 SK p hp)) iH hf hs hr hE
    rename_i bk
    obtain ⟨u5,iH,hlen⟩:=bk
    have hg:=zA hlen
    split at hk
    ·rename_i Kj
     simp only[Option.some.injEq] at hk
     subst hk
     simp only[exec] at hx
     obtain ⟨r,hr,he⟩:=abD.1 hx
     simp only[Prod.mk.injEq] at he
     obtain ⟨rfl,rfl,rfl⟩:=he
     rw[MW]
     exact BE hL gD u5 (by rw[hg];exact jG) iH Kj hf hs (by rw[hg];exact hr) hE
    ·simp only[Option.some.injEq] at hk
     subst hk
     simp only[exec] at hx
     obtain ⟨r,hr,he⟩:=abD.1 hx
     simp only[Prod.mk.injEq] at he
     obtain ⟨rfl,rfl,rfl⟩:=he
     rw[MW]
     exact By hL gD u5 (by rw[hg];exact jG) iH hf hs hr hE
   ·rename_i hd
    have:draw=false:=by simpa using hd
    subst this
    simp only[Option.some.injEq] at hk
    subst hk
    simp only[exec] at hx
    obtain ⟨r,hr,he⟩:=abD.1 hx
    simp only[Prod.mk.injEq] at he
    obtain ⟨rfl,rfl,rfl⟩:=he
    rw[MW]
    exact xJ hL gD jG hf hs hr hE
 | seq x y ihx ihy=>
   intro k hk c h w fr a hf hs e fr' h' hx Q hE
   simp only[gO] at hk
   split at hk
   case h_2=> cases hk
   rename_i kx ky hkx xX
   simp only[Option.some.injEq] at hk
   subst hk
   simp only[exec] at hx
   apply wp_seq
   split at hx
   ·rename_i fr1 h1 yk
    refine ihx hkx hf hs yk ?_
    intro a1 c1 w1 hf1 yK hle ba fD
    refine ihy xX hf1 yK hx ?_
    intro a2 c2 w2 hf2 Ic aaX qa YX
    exact hE a2 c2 w2 hf2 Ic (hle.trans aaX) (ba.trans qa) (YX.trans fD)
   ·rename_i da
    refine ihx hkx hf hs hx ?_
    intro a1 c1 w1 hf1 yK hle ba fD
    have:=hE a1 c1 w1 hf1 yK hle ba fD
    cases e with
    | normal=> exact absurd hx (da fr' h')
    | exit id=> exact this
    | ret=> exact this
 | cond x p q ihp ihq=>
   intro k hk c h w fr a hf hs e fr' h' hx Q hE
   simp only[gO] at hk
   split at hk
   case h_2=> cases hk
   rename_i kx kp kq hkx hkp hkq
   simp only[Option.some.injEq] at hk
   subst hk
   have hv:=q22z hf hkx
   simp only[exec] at hx
   split at hx
   ·rename_i he
    rw[he] at hv
    exact wp_cond_true (bB.1 hv).1 (ihp hkp hf hs hx hE)
   ·rename_i he
    rw[he] at hv
    exact wp_cond_false (bB.1 hv).1 (ihq hkq hf hs hx hE)
   ·cases hx
 | block id x ihx=>
   intro k hk c h w fr a hf hs e fr' h' hx Q hE
   simp only[gO] at hk
   obtain ⟨kx,hkx,rfl⟩:=abD.1 hk
   simp only[exec] at hx
   apply wp_block
   split at hx
   ·rename_i id' fr1 h1 yk
    refine ihx hkx hf hs yk ?_
    intro a1 c1 w1 hf1 yK hle ba fD
    simp only[qC,Exit.inBlock]
    split at hx
    ·rename_i hid
     simp only[Option.some.injEq,Prod.mk.injEq] at hx
     obtain ⟨rfl,rfl,rfl⟩:=hx
     rw[if_pos hid]
     exact hE a1 c1 w1 hf1 yK hle ba fD
    ·rename_i hid
     simp only[Option.some.injEq,Prod.mk.injEq] at hx
     obtain ⟨rfl,rfl,rfl⟩:=hx
     rw[if_neg hid]
     exact hE a1 c1 w1 hf1 yK hle ba fD
   ·rename_i da
    refine ihx hkx hf hs hx ?_
    intro a1 c1 w1 hf1 yK hle ba fD
    have:=hE a1 c1 w1 hf1 yK hle ba fD
    cases e with
    | normal=> exact this
    | exit id'=> exact absurd hx (da id' fr' h')
    | ret=> exact this
 | loop x ihx=>
   intro k hk c0 h w0 fr a0 hf hs e fr' h' hx Q hE
   simp only[gO] at hk
   obtain ⟨kx,hkx,rfl⟩:=abD.1 hk
   simp only[exec] at hx
   intro b kk cs
   have key:∀(n:Nat) (fr:Fr) (h:Hp) (a:Act) (w:World) (c:Ctx),RF (ak P) c fr a→bj (ak P) c h w→c0.le c→St w0 w→a.defers=a0.defers→iter (exec cf base kx) n fr h=some (e,fr',h')→
    ∃e a' w',Q e a' w'∧Arrives P (lone (b.at a (.code x:: .inLoop x::kk)) cs w) b kk cs e a' w':=by
     intro n
     induction n with
     | zero=> intro fr h a w c hf hs _ _ _ hi;simp[iter] at hi
     | succ n ih=>
       intro fr h a w c hf hs hle ba fD hi
       simp only[iter] at hi
       split at hi
       ·rename_i fr1 h1 yk
        obtain ⟨e1,a1,w1,hq,mn⟩:=ihx hkx hf hs yk (Q:=fun e a' w'=> e= .normal∧∃c',RF (ak P) c' fr1 a'∧bj (ak P) c' h1 w'∧c.le c'∧St w w'∧a'.defers=a.defers) (fun a1 c1 w1 p1 p2 p3 p4 p5=>⟨rfl,c1,p1,p2,p3,p4,p5⟩) b (.inLoop x::kk) cs
        obtain ⟨rfl,c1,p1,p2,p3,p4,p5⟩:=hq
        obtain ⟨e2,a2,w2,hq2,YY⟩:=ih fr1 h1 a1 w1 c1 p1 p2 (hle.trans p3) (ba.trans p4) (p5.trans fD) hi
        exact ⟨e2,a2,w2,hq2,.of_steps (Steps.trans mn (.one step_inLoop)) YY⟩
       ·rename_i da
        obtain ⟨e1,a1,w1,hq,mn⟩:=ihx hkx hf hs hi (Q:=fun e' a' w'=> e'=qC e∧Q (qC e) a' w') (fun a1 c1 w1 p1 p2 p3 p4 p5=>⟨rfl,hE a1 c1 w1 p1 p2 (hle.trans p3) (ba.trans p4) (p5.trans fD)⟩) b (.inLoop x::kk) cs
        obtain ⟨rfl,hq⟩:=hq
        cases e with
        | normal=> exact absurd hi (da fr' h')
        | exit id=> exact ⟨_,a1,w1,hq,.pass (x:= .inLoop x) rfl (fun _ _=> .inl (by simp[qC])) mn⟩
        | ret=> exact ⟨_,a1,w1,hq,.pass (x:= .inLoop x) rfl (fun _ _=> .inl (by simp[qC])) mn⟩
   obtain ⟨n,hn⟩:=gZ.1 hx
   obtain ⟨e1,a1,w1,hq,mn⟩:=key n fr h a0 w0 c0 hf hs (Ctx.le_refl c0) (St.refl w0) rfl hn
   exact ⟨e1,a1,w1,hq,.of_steps (.one step_loop) mn⟩
 | exit id=>
   intro k hk c h w fr a hf hs e fr' h' hx Q hE
   simp only[gO,Option.some.injEq] at hk
   subst hk
   simp only[exec,Option.some.injEq,Prod.mk.injEq] at hx
   obtain ⟨rfl,rfl,rfl⟩:=hx
   exact wp_exit (hE a c w hf hs (Ctx.le_refl c) (St.refl w) rfl)
 | ret=>
   intro k hk c h w fr a hf hs e fr' h' hx Q hE
   simp only[gO,Option.some.injEq] at hk
   subst hk
   simp only[exec,Option.some.injEq,Prod.mk.injEq] at hx
   obtain ⟨rfl,rfl,rfl⟩:=hx
   exact wp_ret (hE a c w hf hs (Ctx.le_refl c) (St.refl w) rfl)
 | _=> intro k hk;simp[gO] at hk
end
end Go.Vm
namespace Go.Vm
def aT.low (b:Nat):aT→Bool
 | .cells _ es=> V.low.all b es
 | .lit _ es=> V.low.all b es
 | .map es _=> es.all fun e=> e.1.low b && e.2.1.low b
 | _=> true
def Dt (b:Nat) (h:Hp):Prop:=∀id,id < b→∀k,h[id]? =some k→k.low b=true
theorem eQ {b:Nat}:∀ {es:List V},V.low.all b es=true↔∀e∈es,e.low b=true
 | []=> by simp[V.low.all]
 | e::es=> by simp only[V.low.all,abH,eQ,List.forall_mem_cons]
theorem oZ (b:Nat):∀v:V,v.ground=true→v.low b=true:=by
 intro v
 induction v using V.rec (motive_2:=fun vs=> V.ground.all vs=true→V.low.all b vs=true) with
 | s x=> intro _;rfl
 | ptr=> intro h;cases h
 | ref=> intro h;cases h
 | aq full g es ih=> intro h;exact ih h
 | dP v ih=> intro h;exact ih h
 | st t fs ih=> intro h;exact ih h
 | arr t es ih=> intro h;exact ih h
 | bM vs ih=> intro h;exact ih h
 | iface t v ih=> intro h;exact ih h
 | fn f cap ih=> intro h;exact ih h
 | mp=> intro h;cases h
 | top=> intro h;cases h
 | nil=> rename_i h;rfl
 | cons v vs h1 h2=>
   rename_i h
   simp only[V.ground.all,abH] at h
   simp only[V.low.all,abH]
   exact ⟨h1 h.1,h2 h.2⟩
theorem Dt.append {b:Nat} {h:Hp} (hl:Dt b h) (hb:b≤h.length) (k:aT):Dt b (h++[k]):=fun id hid x hx=> by
 rw[acq (by omega)] at hx
 exact hl id hid x hx
theorem Dt.set {b:Nat} {h:Hp} (hl:Dt b h) (id:Nat) {k:aT} (hk:id < b→k.low b=true):Dt b (h.set id k):=fun i hi x hx=> by
 by_cases hii:id=i
 ·subst hii
  have cF:id < h.length:=by
    have:=(abF.1 hx).1
    simpa using this
  rw[adK cF] at hx
  cases hx
  exact hk hi
 ·rw[abM hii] at hx
  exact hl i hi x hx
theorem Dt.row {b:Nat} {h:Hp} (hl:Dt b h) {id az:Nat} {g:Option Nat} {es:List V} (hr:rowOf h id az=some (g,es)) (hid:id < b):∀e∈es,e.low b=true:=
 eQ.1 (hl id hid _ (q16z hr).1)
theorem qD {b:Nat} {y:V} (hy:y.low b=true):∀(p:List Nat) (v v':V),putAt y p v=some v'→v.low b=true→v'.low b=true
 | [],v,v',h,_=> by simp only[putAt,Option.some.injEq] at h;subst h;exact hy
 | i::p,v,v',h,hv=> by
   have key:∀(fs:List V) (x x':V),V.low.all b fs=true→fs[i]? =some x→putAt y p x=some x'→V.low.all b (fs.set i x')=true:=fun fs x x' hfs hx hx'=> by
     rw[eQ] at hfs ⊢
     intro e he
     rcases acw he with he | rfl
     ·exact hfs e he
     ·exact qD hy p x e hx' (hfs x (abS hx))
   cases v with
   | st t fs=>
     simp only[putAt] at h
     split at h
     ·rename_i x hx
      obtain ⟨x',hx',rfl⟩:=abD.1 h
      exact key fs x x' hv hx hx'
     ·cases h
   | arr t fs=>
     simp only[putAt] at h
     split at h
     ·rename_i x hx
      obtain ⟨x',hx',rfl⟩:=abD.1 h
      exact key fs x x' hv hx hx'
     ·cases h
   | _=> simp[putAt] at h
def Kp (base:Nat) (h h':Hp):Prop:=∀b,b≤base→b≤h.length→Dt b h→Dt b h'∧h.length≤h'.length
theorem Kp.refl (base:Nat) (h:Hp):Kp base h h:=fun b _ _ hl=>⟨hl,abJ _⟩
theorem Kp.trans {base:Nat} {h h1 h2:Hp} (a:Kp base h h1) (k:Kp base h1 h2):Kp base h h2:=fun b hb x9 hl=>
 let ⟨x,y⟩:=a b hb x9 hl
 let ⟨x',y'⟩:=k b hb (acm x9 y) x
 ⟨x',acm y y'⟩
theorem Kp.append (base:Nat) (h:Hp) (k:aT):Kp base h (h++[k]):=fun b _ x9 hl=>⟨hl.append x9 k,by simp⟩
theorem Kp.set {base:Nat} {h:Hp} {id:Nat} {k:aT} (hk:∀b,b≤base→Dt b h→id < b→k.low b=true):Kp base h (h.set id k):=fun b hb _ hl=>⟨hl.set id (hk b hb hl),by simp⟩
theorem o0 {base id:Nat} {v:V} (h:bT base id v=true) {b:Nat} (hb:b≤base) (hid:id < b):v.low b=true:=by
 simp only[bT,acv,decide_eq_true_eq] at h
 rcases h with h | h
 ·omega
 ·exact oZ b v h
theorem sj {b cl:Nat} {es:List (V×V×Nat)}:(aT.map es cl).low b=true↔∀e∈es,e.1.low b=true∧e.2.1.low b=true:=by simp[aT.low,abZ]
theorem wx {kc:Option (Nat×IntKind)} {x:V}:∀ {es:List (V×V×Nat)} {n i:Nat} {p:V×Nat},iL kc x es n=some (some (i,p))→n≤i∧∃e,es[i - n]? =some e∧e.2=p∧m9 kc x e.1=some true
 | [],n,i,p,h=> by simp[iL] at h
 | e::es,n,i,p,h=> by
   simp only[iL] at h
   split at h
   ·rename_i hk
    simp only[Option.some.injEq,Prod.mk.injEq] at h
    obtain ⟨rfl,rfl⟩:=h
    exact ⟨abJ _,e,by simp,rfl,hk⟩
   ·obtain ⟨h1,e',h2,h3⟩:=wx h
    refine ⟨by omega,e',?_,h3⟩
    have:i - n=(i - (n+1))+1:=by omega
    rw[this];exact h2
   ·cases h
theorem BF {kc:Option (Nat×IntKind)} {x:V} {es:List (V×V×Nat)} {r:Option (Nat×V×Nat)} (h:pF kc x es=some r):m9 kc x x=some true∧iL kc x es 0=some r:=by
 unfold pF at h
 split at h
 ·rename_i hc;exact ⟨hc,h⟩
 ·cases h
theorem uw {base:Nat} {h:Hp} {id cl cl':Nat} {es es':List (V×V×Nat)} (hg:h[id]? =some (.map es cl))
 (hm:∀e∈es',(e.1.ground=true∨∃e0∈es,e.1=e0.1)∧(bT base id e.2.1=true∨∃e0∈es,e.2.1=e0.2.1)):Kp base h (h.set id (.map es' cl')):=by
 refine Kp.set fun b hb hl hid=> sj.2 fun e he=> ?_
 have cK:=sj.1 (hl id hid _ hg)
 obtain ⟨h1,h2⟩:=hm e he
 refine ⟨?_,?_⟩
 ·rcases h1 with h1 | ⟨e0,h0,h1⟩
  ·exact oZ b _ h1
  ·rw[h1];exact (cK e0 h0).1
 ·rcases h2 with h2 | ⟨e0,h0,h2⟩
  ·exact o0 h2 hb hid
  ·rw[h2];exact (cK e0 h0).2
theorem SL {base:Nat} {h h':Hp} {kc:Option (Nat×IntKind)} {g:Option Nat} {x k v r:V} (hr:y7 base h kc g x k v=some (r,h')):Kp base h h':=by
 unfold y7 at hr
 split at hr
 case h_2=> cases hr
 split at hr
 case isFalse=> cases hr
 rename_i hc
 simp only[abH,decide_eq_true_eq] at hc
 split at hr
 case h_2=> cases hr
 rename_i es cl hg
 obtain ⟨q,hq,he⟩:=abD.1 hr
 split at he <;> cases he
 ·refine uw hg fun e he=> ?_
  rcases acw he with he | rfl
  ·exact ⟨.inr ⟨e,he,rfl⟩,.inr ⟨e,he,rfl⟩⟩
  ·exact ⟨.inl hc.1.1.2,.inl hc.1.1.1⟩
 ·refine uw hg fun e he=> ?_
  rcases ab6.1 he with he | he
  ·exact ⟨.inr ⟨e,he,rfl⟩,.inr ⟨e,he,rfl⟩⟩
  ·simp only[ad7] at he;subst he
   exact ⟨.inl hc.1.1.2,.inl hc.1.1.1⟩
theorem SM {base:Nat} {h h':Hp} {kc:Option (Nat×IntKind)} {z x k r:V} (hr:y9 base h kc z x k=some (r,h')):Kp base h h':=by
 unfold y9 at hr
 split at hr
 case h_2=> cases hr
 split at hr
 case isFalse=> cases hr
 rename_i hc
 simp only[abH] at hc
 split at hr
 case h_2=> cases hr
 rename_i es cl hg
 obtain ⟨q,hq,he⟩:=abD.1 hr
 split at he <;> cases he
 ·obtain ⟨_,e0,h1,h2,_⟩:=wx (BF hq).2
  refine uw hg fun e he=> ?_
  rcases acw he with he | rfl
  ·exact ⟨.inr ⟨e,he,rfl⟩,.inr ⟨e,he,rfl⟩⟩
  ·exact ⟨.inl hc.2,.inr ⟨e0,abS h1,by rw[h2]⟩⟩
 ·refine uw hg fun e he=> ?_
  rcases ab6.1 he with he | he
  ·exact ⟨.inr ⟨e,he,rfl⟩,.inr ⟨e,he,rfl⟩⟩
  ·simp only[ad7] at he;subst he
   exact ⟨.inl hc.2,.inl hc.1⟩
theorem zB {n:Int} {v:V}:∀ {es es':List (V×V×Nat)},za n v es=some es'→∀e∈es',e∈es∨((∃e0∈es,e.1=e0.1)∧e.2.1=v)
 | [],es',h=> by simp[za] at h
 | e::es,es',h=> by
   simp only[za] at h
   split at h
   ·cases h
    intro x hx
    rcases ack.1 hx with rfl | hx
    ·exact .inr ⟨⟨e,by simp,rfl⟩,rfl⟩
    ·exact .inl (by simp[hx])
   ·obtain ⟨q,hq,rfl⟩:=abD.1 h
    intro x hx
    rcases ack.1 hx with rfl | hx
    ·exact .inl (by simp)
    ·rcases zB hq x hx with h1 | ⟨⟨e0,h1,h2⟩,h3⟩
     ·exact .inl (by simp[h1])
     ·exact .inr ⟨⟨e0,by simp[h1],h2⟩,h3⟩
theorem SN {base:Nat} {h h':Hp} {g:Option Nat} {x k v r:V} (hr:zb base h g x k v=some (r,h')):Kp base h h':=by
 unfold zb at hr
 split at hr
 case h_2=> cases hr
 split at hr
 case isFalse=> cases hr
 rename_i hc
 simp only[abH,decide_eq_true_eq] at hc
 split at hr
 case h_2=> cases hr
 rename_i es cl hg
 obtain ⟨q,hq,he⟩:=abD.1 hr
 cases he
 refine uw hg fun e he=> ?_
 rcases zB hq e he with h1 | ⟨⟨e0,h1,h2⟩,h3⟩
 ·exact ⟨.inr ⟨e,h1,rfl⟩,.inr ⟨e,h1,rfl⟩⟩
 ·exact ⟨.inr ⟨e0,h1,h2⟩,.inl (by rw[h3];exact hc.1.1)⟩
theorem SO {base:Nat} {h h':Hp} {g:Option Nat} {x y v:V} (hr:yZ base h g x y=some (v,h')):Kp base h h':=by
 unfold yZ at hr
 split at hr
 case h_2=> cases hr
 rename_i id path az
 split at hr
 case h_2=> cases hr
 split at hr
 case isFalse=> cases hr
 rename_i bk
 obtain ⟨h1,ba,he⟩:=abD.1 hr
 simp only[Prod.mk.injEq] at he
 obtain ⟨rfl,rfl⟩:=he
 unfold store at ba
 split at ba
 case h_2=> cases ba
 rename_i g' es i p cw oj
 split at ba
 case h_2=> cases ba
 rename_i w hw
 obtain ⟨w',pV,rfl⟩:=abD.1 ba
 refine Kp.set fun b hb hl hid=> ?_
 have cK:=hl.row cw hid
 simp only[aT.low]
 rw[eQ]
 intro e he
 rcases acw he with he | rfl
 ·exact cK e he
 ·exact qD (o0 bk.2.2.2 hb hid) p w e pV (cK w (abS hw))
theorem Kk {base:Nat} {h h':Hp} {g:Option Nat} {x v:V} (hr:tO h g x=some (v,h')):Kp base h h':=by
 unfold tO at hr
 split at hr
 ·cases hr;exact Kp.append base h _
 ·cases hr
theorem SP {base:Nat} {h h':Hp} {g:Option Nat} {z:List V} {p:List Nat} {xs:List V} {v:V} (hr:oi h g z p xs=some (v,h')):Kp base h h':=by
 unfold oi at hr
 split at hr
 ·split at hr
  ·split at hr <;> cases hr
   ·exact Kp.refl base h
   ·exact Kp.append base h _
  ·cases hr
 ·cases hr
theorem SQ {base:Nat} {h h':Hp} {x v:V} (hr:vM h x=some (v,h')):Kp base h h':=by
 unfold vM at hr
 split at hr
 ·split at hr
  ·split at hr
   ·cases hr;exact Kp.set fun _ _ _ _=> rfl
   ·cases hr
  ·unfold JD at hr
   split at hr
   ·split at hr
    ·cases hr;exact Kp.set fun _ _ _ _=> rfl
    ·cases hr
   ·cases hr
 ·cases hr
theorem Kl {base:Nat} {h h1 h':Hp} {v v':V} (hk:Kp base h h1) (hr:qQ (v,h1)=some (v',h')):Kp base h h':=by
 unfold qQ at hr
 split at hr
 ·cases hr;exact hk
 ·split at hr
  ·split at hr
   ·cases hr;exact hk.trans (Kp.set fun _ _ _ _=> rfl)
   ·cases hr
  ·cases hr
 ·cases hr
theorem SS {base:Nat} {h h':Hp} {t n:Nat} {g:Option Nat} {x v:V} (hr:vx h t g n x=some (v,h')):Kp base h h':=by
 unfold vx at hr
 obtain ⟨⟨v1,h1⟩,zo,mX⟩:=abN.1 hr
 simp only at mX
 split at mX
 ·split at mX
  ·cases mX;exact Kl (Kp.refl base h) zo
  ·cases mX
 ·cases mX
theorem SU {base:Nat} {h h':Hp} {g:Option Nat} {z:List V} {p:List Nat} {xs:List V} {v:V} (hr:tP h g z p xs=some (v,h')):Kp base h h':=by
 unfold tP at hr
 split at hr
 ·split at hr
  ·split at hr <;> cases hr
   exact Kp.append base h _
  ·cases hr
 ·cases hr
theorem SV {base:Nat} {h h':Hp} {g:Option Nat} {z x y v:V} (hr:vO h g z x y=some (v,h')):Kp base h h':=by
 unfold vO at hr
 split at hr
 ·split at hr
  ·split at hr <;> cases hr
   ·exact Kp.refl base h
   ·exact Kp.append base h _
  ·cases hr
 ·cases hr
theorem lU {base id:Nat} {ys:List V} (h:ys.all (bT base id)=true) {b:Nat} (hb:b≤base) (hid:id < b):∀y∈ys,y.low b=true:=fun y hy=>
 o0 (abZ.1 h y hy) hb hid
theorem BG {base:Nat} {h h':Hp} {g gy:Option Nat} {bytes:Nat} {x v:V} {ys:List V} (hr:cU base g bytes h x gy ys=some (v,h')):Kp base h h':=by
 unfold cU at hr
 split at hr
 ·obtain ⟨n,_,he⟩:=abD.1 hr
  cases he;exact Kp.refl base h
 ·split at hr
  ·split at hr
   ·split at hr
    ·cases hr;exact Kp.append base h _
    ·cases hr
   ·split at hr
    ·rename_i cw
     split at hr
     ·rename_i bk
      split at hr
      ·cases hr
       refine Kp.set fun b hb hl hid=> ?_
       simp only[aT.low]
       rw[eQ]
       intro e he
       have cK:=hl.row cw hid
       rcases ab6.1 he with he | he
       ·rcases ab6.1 he with he | he
        ·exact cK e (abV he)
        ·exact lU bk.2.2 hb hid e he
       ·exact cK e (acd he)
      ·split at hr
       ·cases hr
        refine Kp.set fun b hb hl hid=> ?_
        simp only[aT.low]
        rw[eQ]
        intro e he
        rcases ab6.1 he with he | he
        ·exact hl.row cw hid e he
        ·exact lU bk.2.2 hb hid e he
       ·cases hr
     ·cases hr
    ·cases hr
   ·cases hr
  ·cases hr
theorem SW {base:Nat} {h h':Hp} {g:Option Nat} {bytes:Nat} {z x y v:V} (hr:vm base h g bytes z x y=some (v,h')):Kp base h h':=by
 unfold vm at hr
 split at hr
 ·split at hr
  ·exact BG hr
  ·cases hr
 ·cases hr
theorem Du {base:Nat} {h h':Hp} {g gy:Option Nat} {x v:V} {ys:List V} (hr:copyV base g h x gy ys=some (v,h')):Kp base h h':=by
 unfold copyV at hr
 split at hr
 ·split at hr
  ·rename_i cw
   simp only at hr
   split at hr
   ·rename_i bk
    cases hr
    refine Kp.set fun b hb hl hid=> ?_
    simp only[aT.low]
    rw[eQ]
    intro e he
    have cK:=hl.row cw hid
    rcases ab6.1 he with he | he
    ·rcases ab6.1 he with he | he
     ·exact cK e (abV he)
     ·exact lU bk.2.2.2.2 hb hid e (abV he)
    ·exact cK e (acd he)
   ·cases hr
  ·cases hr
 ·cases hr
theorem uA {b:Nat}:∀(p:List Nat) (v v':V),nodeAt p v=some v'→v.low b=true→v'.low b=true
 | [],v,v',h,hl=> by cases v <;>(cases h;exact hl)
 | i::p,v,v',h,hl=> by
   have key:∀fs:List V,V.low.all b fs=true→(match fs[i]? with | some v=> nodeAt p v | none=> none)=some v'→v'.low b=true:=fun fs hf hn=> by
     cases hx:fs[i]? with
     | none=> rw[hx] at hn;cases hn
     | some x=> rw[hx] at hn;exact uA p x v' hn (eQ.1 hf x (abS hx))
   cases v with
   | st t fs=> exact key fs (by simpa only[V.low] using hl) h
   | arr t fs=> exact key fs (by simpa only[V.low] using hl) h
   | _=> cases h
theorem Km {base:Nat} {h h':Hp} {g gy:Option Nat} {x v:V} {ys:List V} (hr:qS base g h x gy ys=some (v,h')):Kp base h h':=by
 unfold qS at hr
 split at hr
 ·rename_i id i p g' off len az
  split at hr
  case h_2=> cases hr
  rename_i t es oj
  split at hr
  case isFalse=> cases hr
  rename_i bk
  obtain ⟨h1,ba,he⟩:=abD.1 hr
  simp only[Prod.mk.injEq] at he
  obtain ⟨rfl,rfl⟩:=he
  unfold store at ba
  split at ba
  case h_2=> cases ba
  rename_i g1 es1 i1 p1 cw hpp
  cases hpp
  split at ba
  case h_2=> cases ba
  rename_i w hw
  obtain ⟨w',pV,rfl⟩:=abD.1 ba
  unfold node at oj
  rw[cw] at oj
  simp only[hw] at oj
  refine Kp.set fun b hb hl hid=> ?_
  have cK:=eQ.1 (hl id hid _ (q16z cw).1)
  have hwl:=cK w (abS hw)
  have Gw:∀e∈es,e.low b=true:=by
    have:=uA p w _ oj hwl
    simpa only[V.low,eQ] using this
  have nV:(V.arr t (es.take off++ys.take (min ys.length len)++es.drop (off+min ys.length len))).low b=true:=by
    simp only[V.low]
    rw[eQ]
    intro e he
    rcases ab6.1 he with he | he
    ·rcases ab6.1 he with he | he
     ·exact Gw e (abV he)
     ·exact lU bk.2.2.2 hb hid e (abV he)
    ·exact Gw e (acd he)
  simp only[aT.low]
  rw[eQ]
  intro e he
  rcases acw he with he | rfl
  ·exact cK e he
  ·exact qD nV p w e pV hwl
 ·exact Du hr
theorem SX {base:Nat} {h h':Hp} {g:Option Nat} {z x v:V} (hr:y0 base h g z x=some (v,h')):Kp base h h':=by
 unfold y0 at hr
 split at hr
 ·cases hr;exact Kp.refl base h
 ·obtain ⟨r,zo,he⟩:=abD.1 hr
  cases he
  exact Du zo
 ·cases hr
theorem SY {base:Nat} {h h':Hp} {lit:Bool} {x v:V} (hr:q9 h lit x=some (v,h')):Kp base h h':=by
 unfold q9 at hr
 split at hr
 ·split at hr
  ·cases hr;exact Kp.refl base h
  ·split at hr
   ·cases hr
   ·cases hr;exact Kp.append base h _
 ·cases hr
theorem SZ {base:Nat} {h h':Hp} {x v:V} (hr:y3 h x=some (v,h')):Kp base h h':=by
 unfold y3 at hr
 split at hr
 ·cases hr;exact Kp.append base h _
 ·cases hr
theorem S2 {base:Nat} {h h':Hp} {x v:V} (hr:y5 h x=some (v,h')):Kp base h h':=by
 unfold y5 at hr
 split at hr
 ·split at hr
  ·split at hr
   ·cases hr;exact Kp.set fun _ _ _ _=> rfl
   ·cases hr;exact Kp.refl base h
  ·cases hr
 ·cases hr
def KpF (base:Nat) (cf:Nat→List V→Hp→Option (V×Hp)):Prop:=∀f vs h v h',cf f vs h=some (v,h')→Kp base h h'
theorem YZ {cf:Nat→List V→Hp→Option (V×Hp)} {base:Nat} (gD:KpF base cf) {o:O} {xs:List V} {h h':Hp} {v:V} (hr:aB cf base h o xs=some (v,h')):Kp base h h':=by
 by_cases he:o.ca=false
 ·have:=wq he hr
  subst this
  exact Kp.refl base _
 cases o <;> simp only[O.ca,not_true_eq_false,Bool.not_eq_false,not_false_eq_true] at he <;> try (cases he;done)
 case aP g=> match xs,hr with
   | [x,y],hr=> exact SO hr
   | [],hr=> cases hr
   | [_],hr=> cases hr
   | _::_::_::_,hr=> cases hr
 case box g=> match xs,hr with
   | [x],hr=> exact Kk hr
   | [],hr=> cases hr
   | _::_::_,hr=> cases hr
 case di g z=> match xs,hr with
   | [],hr=> exact Kk hr
   | _::_,hr=> cases hr
 case jc g z p=> exact SP (xs:=xs) hr
 case o4=> match xs,hr with
   | [x],hr=> exact SQ hr
   | [],hr=> cases hr
   | _::_::_,hr=> cases hr
 case mks g z=> match xs,hr with
   | [x,y],hr=> exact SV hr
   | [],hr=> cases hr
   | [_],hr=> cases hr
   | _::_::_::_,hr=> cases hr
 case app g by'=> match xs,hr with
   | [x,y],hr=>
     obtain ⟨r,_,hr⟩:=abN.1 (show (source h y).bind (fun r=> cU base g by' h x r.1 r.2)=some (v,h') from hr)
     exact BG hr
   | [],hr=> cases hr
   | [_],hr=> cases hr
   | _::_::_::_,hr=> cases hr
 case apx g by'=> match xs,hr with
   | [x,y],hr=>
     obtain ⟨⟨v1,h1⟩,zo,mX⟩:=abN.1 (show (nY base h g by' x y).bind qQ=some (v,h') from hr)
     obtain ⟨r,_,hr⟩:=abN.1 (show (source h y).bind (fun r=> cU base g by' h x r.1 r.2)=some (v1,h1) from zo)
     exact Kl (BG hr) mX
   | [],hr=> cases hr
   | [_],hr=> cases hr
   | _::_::_::_,hr=> cases hr
 case bsx g z p=> exact SU (xs:=xs) hr
 case apz g by' z=> match xs,hr with
   | [x,y],hr=> exact SW hr
   | [],hr=> cases hr
   | [_],hr=> cases hr
   | _::_::_::_,hr=> cases hr
 case s2a t g n=> match xs,hr with
   | [x],hr=> exact SS hr
   | [],hr=> cases hr
   | _::_::_,hr=> cases hr
 case mkm=> match xs,hr with
   | [],hr=> cases hr;exact Kp.append base h _
   | _::_,hr=> cases hr
 case mup kc g=> match xs,hr with
   | [x,k,y],hr=> exact SL hr
   | [],hr=> cases hr
   | [_],hr=> cases hr
   | [_,_],hr=> cases hr
   | _::_::_::_::_,hr=> cases hr
 case mpe kc z=> match xs,hr with
   | [x,y],hr=> exact SM hr
   | [],hr=> cases hr
   | [_],hr=> cases hr
   | _::_::_::_,hr=> cases hr
 case ens g=> match xs,hr with
   | [x,k,y],hr=> exact SN hr
   | [],hr=> cases hr
   | [_],hr=> cases hr
   | [_,_],hr=> cases hr
   | _::_::_::_::_,hr=> cases hr
 case cpy g=> match xs,hr with
   | [x,y],hr=>
     obtain ⟨r,_,hr⟩:=abN.1 (show (source h y).bind (fun r=> qS base g h x r.1 r.2)=some (v,h') from hr)
     exact Km hr
   | [],hr=> cases hr
   | [_],hr=> cases hr
   | _::_::_::_,hr=> cases hr
 case clr g z=> match xs,hr with
   | [x],hr=> exact SX hr
   | [],hr=> cases hr
   | _::_::_,hr=> cases hr
 case s2b lit=> match xs,hr with
   | [x],hr=> exact SY hr
   | [],hr=> cases hr
   | _::_::_,hr=> cases hr
 case rng=> match xs,hr with
   | [x],hr=> exact SZ hr
   | [],hr=> cases hr
   | _::_::_,hr=> cases hr
 case nxt=> match xs,hr with
   | [x],hr=> exact S2 hr
   | [],hr=> cases hr
   | _::_::_,hr=> cases hr
 case call f=> exact gD f xs h v h' hr
 case mu=> match xs,hr with
   | .fn f cap::xs,hr=> exact gD f (xs++cap) h v h' hr
   | [],hr=> cases hr
theorem Dv {cf:Nat→List V→Hp→Option (V×Hp)} {base:Nat} (gD:KpF base cf) {fr:Fr} {g:G} {h h':Hp} {v:V} (hr:stepG cf base fr h g=some (v,h')):Kp base h h':=by
 unfold stepG at hr
 split at hr
 ·exact YZ gD hr
 ·cases hr;exact Kp.refl base _
 ·cases hr
theorem Dw {cf:Nat→List V→Hp→Option (V×Hp)} {base:Nat} (gD:KpF base cf):∀ {gs:List G} {fr:Fr} {h:Hp} {fr':Fr} {h':Hp},kD cf base gs fr h=some (fr',h')→Kp base h h'
 | [],fr,h,fr',h',hr=> by simp only[kD,Option.some.injEq,Prod.mk.injEq] at hr;rw[←hr.2];exact Kp.refl base _
 | g::gs,fr,h,fr',h',hr=> by
   simp only[kD] at hr
   split at hr
   ·rename_i v h1 h2
    exact (Dv gD h2).trans (Dw gD hr)
   ·cases hr
theorem xO {cf:Nat→List V→Hp→Option (V×Hp)} {base:Nat} (gD:KpF base cf):∀ {ds:List GD} {fr:Fr} {h:Hp} {hs:List Hp} {xs:List Seen} {fr':Fr} {h':Hp} {dv:List Hp} {xs':List Seen},na cf base ds fr h hs xs=some (fr',h',dv,xs')→Kp base h h'
 | [],fr,h,hs,xs,fr',h',dv,xs',hr=> by simp only[na,Option.some.injEq,Prod.mk.injEq] at hr;rw[←hr.2.1];exact Kp.refl base _
 | d::ds,fr,h,hs,xs,fr',h',dv,xs',hr=> by
   simp only[na] at hr
   split at hr
   ·rename_i v h1 h2
    split at hr
    ·exact (Dv gD h2).trans (xO gD hr)
    ·exact xO gD hr
   ·cases hr
theorem xP {cf:Nat→List V→Hp→Option (V×Hp)} {base:Nat} (gD:KpF base cf):∀(k:C) {fr:Fr} {h:Hp} {e:Ex} {fr':Fr} {h':Hp},exec cf base k fr h=some (e,fr',h')→Kp base h h':=by
 intro k
 induction k with
 | skip=> intro fr h e fr' h' hx;simp only[exec,Option.some.injEq,Prod.mk.injEq] at hx;rw[←hx.2.2];exact Kp.refl base _
 | af gs=>
   intro fr h e fr' h' hx
   simp only[exec] at hx
   obtain ⟨r,hr,he⟩:=abD.1 hx
   cases he
   exact Dw gD hr
 | bd ds=>
   intro fr h e fr' h' hx
   simp only[exec] at hx
   obtain ⟨r,hr,he⟩:=abD.1 hx
   cases he
   unfold bd at hr
   split at hr
   ·rename_i bh
    split at hr
    ·cases hr;exact xO gD bh
    ·cases hr
   ·cases hr
 | seq a b iha ihb=>
   intro fr h e fr' h' hx
   simp only[exec] at hx
   split at hx
   ·rename_i yk;exact (iha yk).trans (ihb hx)
   ·exact iha hx
 | cond c a b iha ihb=>
   intro fr h e fr' h' hx
   simp only[exec] at hx
   split at hx
   ·exact iha hx
   ·exact ihb hx
   ·cases hx
 | block id a iha=>
   intro fr h e fr' h' hx
   simp only[exec] at hx
   split at hx
   ·rename_i yk
    split at hx <;>(cases hx;exact iha yk)
   ·exact iha hx
 | loop a iha=>
   intro fr h e fr' h' hx
   simp only[exec] at hx
   obtain ⟨n,hn⟩:=gZ.1 hx
   induction n generalizing fr h with
   | zero=> simp[iter] at hn
   | succ n ih=>
     simp only[iter] at hn
     split at hn
     ·rename_i fr1 h1 yk
      exact (iha yk).trans (ih (gZ.2 ⟨n,hn⟩) hn)
     ·exact iha hn
 | exit id=> intro fr h e fr' h' hx;simp only[exec,Option.some.injEq,Prod.mk.injEq] at hx;rw[←hx.2.2];exact Kp.refl base _
 | ret=> intro fr h e fr' h' hx;simp only[exec,Option.some.injEq,Prod.mk.injEq] at hx;rw[←hx.2.2];exact Kp.refl base _
theorem Kn {cf:Nat→Nat→List V→Hp→Option (V×Hp)} (gD:∀base,KpF base (cf base)) {base:Nat} {F:Fn} {args:List V} {h h':Hp} {v:V} (hr:kP cf base F args h=some (v,h')):Kp base h h':=by
 unfold kP at hr
 split at hr
 ·split at hr
  ·cases hr
  ·rename_i hx
   split at hr
   ·split at hr
    ·cases hr
     intro b pA uX hl
     obtain ⟨h1,h2⟩:=xP (gD h.length) F.body hx b uX uX hl
     refine ⟨fun id hid k hk=> ?_,by rw[abY];omega⟩
     rw[ac2 (by omega)] at hk
     exact h1 id hid k hk
    ·cases hr
   ·cases hr
  ·cases hr
 ·split at hr
  ·cases hr
  ·rename_i hx
   split at hr
   ·cases hr
    exact xP (gD base) F.body hx
   ·cases hr
  ·cases hr
def KpP (pr:Nat→List V→Hp→Option (V×Hp)):Prop:=∀f vs h v h',pr f vs h=some (v,h')→∀base,Kp base h h'
theorem Ko {fns:Nat→Option Fn} {pr:Nat→List V→Hp→Option (V×Hp)} (hp:KpP pr):∀(d base:Nat),KpF base (den fns pr d base)
 | 0,base,f,vs,h,v,h',hr=> by simp[den] at hr
 | d+1,base,f,vs,h,v,h',hr=> by
   simp only[den] at hr
   split at hr
   ·rename_i F hF
    exact Kn (fun base=> Ko hp d base) hr
   ·exact hp f vs h v h' hr base
end Go.Vm
namespace Go.Vm
variable {P : Program} {obj : Nat → Bool} {L : cx}
theorem xQ {c:Ctx}:∀v:V,(∀us,RC L c v us→v.low c.n=true):=by
 intro v
 induction v using V.rec (motive_2:=fun vs=>(∀us,cg L c vs us→V.low.all c.n vs=true)∧(∀us,RW L c vs us→V.low.all c.n vs=true)∧(∀v∈vs,∀us,RC L c v us→v.low c.n=true)) with
 | s x=> intro us h;rfl
 | ptr id path az=> intro us h;simp only[RC] at h;obtain ⟨a,_,hid,_⟩:=h;simp[V.low,hid]
 | ref id path g off len az=> intro us h;simp only[RC] at h;obtain ⟨a,k,_,hid,_⟩:=h;simp[V.low,hid]
 | aq full g es ih=>
   intro us h;simp only[RC] at h
   obtain ⟨a,k,h,h1,h2,h3,h4⟩:=h
   rcases h4 with rfl | ⟨b,off,cs,ty,fz,ha,hz,hr⟩
   ·rfl
   ·exact ih.1 _ hr
 | dP v ih=> intro us h;simp only[RC] at h;obtain ⟨b,off,cs,ty,fz,h,hz,hr⟩:=h;exact ih _ hr
 | st t fs ih=> intro us h;simp only[RC] at h;exact ih.1 _ h.1
 | arr t es ih=> intro us h;simp only[RC] at h;exact ih.1 _ h.1
 | bM vs ih=> intro us h;simp only[RC] at h;obtain ⟨ws,h1,h2⟩:=h;exact ih.2.1 _ h2
 | iface t v ih=> intro us h;simp only[RC] at h;obtain ⟨u,us',h1,h2,h3⟩:=h;exact ih _ h2
 | fn f cap ih=> intro us h;simp only[RC] at h;obtain ⟨ws,h1,h2⟩:=h;exact ih.2.1 _ h2
 | mp id=> intro us h;simp only[RC] at h;obtain ⟨a,_,hid,_⟩:=h;simp[V.low,hid]
 | top=> intro us h;rfl
 | nil=> exact ⟨fun _ _=> rfl,fun _ _=> rfl,fun v hv=> by cases hv⟩
 | cons v vs h1 h2=>
   refine ⟨fun us h=> ?_,fun us h=> ?_,fun x hx us h=> ?_⟩
   ·simp only[cg] at h
    obtain ⟨u1,u2,rfl,k1,k2⟩:=h
    simp only[V.low.all,abH]
    exact ⟨h1 _ k1,h2.1 _ k2⟩
   ·simp only[RW] at h
    obtain ⟨u,us',rfl,⟨u1,k1,k2⟩,k3⟩:=h
    simp only[V.low.all,abH]
    exact ⟨h1 _ k1,h2.2.1 _ k3⟩
   ·rcases ack.1 hx with rfl | hx
    ·exact h1 us h
    ·exact h2.2.2 x hx us h
theorem xR {c:Ctx}:∀ {vs:List V} {us:List Value},cg L c vs us→V.low.all c.n vs=true
 | [],_,_=> rfl
 | v::vs,us,h=> by
   simp only[cg] at h
   obtain ⟨u1,u2,rfl,k1,k2⟩:=h
   simp only[V.low.all,abH]
   exact ⟨xQ v _ k1,xR k2⟩
theorem Dx {c:Ctx}:∀ {es:List (V×V×Nat)} {ms:List MapEntry},lM L c es ms→∀e∈es,e.1.low c.n=true∧e.2.1.low c.n=true
 | [],[],_=> by simp
 | e::es,m::ms,h=> by
   obtain ⟨⟨⟨u1,a1,a2⟩,⟨u2,a3,a4⟩,a5⟩,a6⟩:=h
   intro x hx
   rcases ack.1 hx with rfl | hx
   ·exact ⟨xQ _ _ a1,xQ _ _ a3⟩
   ·exact Dx a6 x hx
 | [],_::_,h=> h.elim
 | _::_,[],h=> h.elim
theorem bj.low {c:Ctx} {h:Hp} {w:World} (hs:bj L c h w):Dt h.length h:=fun id hid k hk=> by
 rcases hs.live id k hk with ⟨l,hl⟩ | rfl
 ·obtain ⟨k',h1,h2,h3⟩:=hs.loc id l hl
  rw[hk] at h1;cases h1
  cases k with
  | cells g es=>
    obtain ⟨_,_,_,_,us,ty,fz,_,_,_,hr⟩:=h3
    have:=xR hr
    rw[hs.n] at this
    exact this
  | lit g es=>
    obtain ⟨_,_,_,_,us,ty,fz,_,_,_,hr⟩:=h3
    have:=xR hr
    rw[hs.n] at this
    exact this
  | map es cl=>
    obtain ⟨_,_,ms,_,hr⟩:=h3
    have:=Dx hr
    rw[hs.n] at this
    exact sj.2 this
  | gq s pos=> rfl
  | dead=> rfl
 ·rfl
open Classical in
noncomputable def Ctx.cut (c:Ctx) (n:Nat) (w:World):Ctx where
 z b:=match c.z b with
   | some o=> some o
   | none=> if ∃id l,n≤id∧c.loc id=some l∧l.bz=b then w.heap[b]? else none
 loc id:=if id < n then c.loc id else none
 n:=n
theorem Ctx.zC {c:Ctx} {n:Nat} {w:World} {b:Nat} {o:Obj} (h:c.z b=some o):(c.cut n w).z b=some o:=by simp[Ctx.cut,h]
theorem Ctx.MX {c:Ctx} {n:Nat} {w:World} {id:Nat} {l:Loc} (hid:n≤id) (hl:c.loc id=some l) (hz:c.z l.bz=none):(c.cut n w).z l.bz=w.heap[l.bz]? :=by
 simp only[Ctx.cut,hz]
 rw[if_pos ⟨id,l,hid,hl,rfl⟩]
theorem Ctx.jU {c:Ctx} {n:Nat} {w:World} {id:Nat} (hid:id < n):(c.cut n w).loc id=c.loc id:=by simp[Ctx.cut,hid]
theorem Ctx.S3 {c c':Ctx} {w:World} (hle:c.le c'):c.le (c'.cut c.n w) where
 z b o hb:=Ctx.zC (hle.z b o hb)
 n:=abJ _
 loc id l' hid hl:=hle.loc id l' hid (by rw[Ctx.jU hid] at hl;exact hl)
theorem pQ {c:Ctx} {n:Nat} {w:World} (hn:n≤c.n):∀v:V,v.low n=true→(∀us,RC L c v us→RC L (c.cut n w) v us):=by
 intro v
 induction v using V.rec (motive_2:=fun vs=> V.low.all n vs=true→(∀us,cg L c vs us→cg L (c.cut n w) vs us)∧(∀us,RW L c vs us→RW L (c.cut n w) vs us)) with
 | s x=> intro _ us h;simpa only[RC] using h
 | ptr id path az=>
   intro hl us h;simp only[RC] at h ⊢
   simp only[V.low,decide_eq_true_eq] at hl
   obtain ⟨a,h,hid,hh⟩:=h
   exact ⟨a,h,hl,fun l mi=> hh l (by rw[Ctx.jU hl] at mi;exact mi)⟩
 | ref id path g off len az=>
   intro hl us h;simp only[RC] at h ⊢
   simp only[V.low,decide_eq_true_eq] at hl
   obtain ⟨a,k,h,hid,ml,hh⟩:=h
   exact ⟨a,k,h,hl,ml,fun l mi=> hh l (by rw[Ctx.jU hl] at mi;exact mi)⟩
 | aq full g es ih=>
   intro hl us h;simp only[RC] at h ⊢
   obtain ⟨a,k,h,h1,h2,h3,h4⟩:=h
   refine ⟨a,k,h,h1,h2,h3,?_⟩
   rcases h4 with h4 | ⟨b,off,cs,ty,fz,ha,hz,hr⟩
   ·exact .inl h4
   ·exact .inr ⟨b,off,cs,ty,fz,ha,Ctx.zC hz,(ih hl).1 _ hr⟩
 | dP v ih=>
   intro hl us h;simp only[RC] at h ⊢
   obtain ⟨b,off,cs,ty,fz,h,hz,hr⟩:=h
   exact ⟨b,off,cs,ty,fz,h,Ctx.zC hz,ih hl _ hr⟩
 | st t fs ih=> intro hl us h;simp only[RC] at h ⊢;exact ⟨(ih hl).1 _ h.1,h.2⟩
 | arr t es ih=> intro hl us h;simp only[RC] at h ⊢;exact ⟨(ih hl).1 _ h.1,h.2⟩
 | bM vs ih=> intro hl us h;simp only[RC] at h ⊢;obtain ⟨ws,h1,h2⟩:=h;exact ⟨ws,h1,(ih hl).2 _ h2⟩
 | iface t v ih=> intro hl us h;simp only[RC] at h ⊢;obtain ⟨u,us',h1,h2,h3⟩:=h;exact ⟨u,us',h1,ih hl _ h2,h3⟩
 | fn f cap ih=> intro hl us h;simp only[RC] at h ⊢;obtain ⟨ws,h1,h2⟩:=h;exact ⟨ws,h1,(ih hl).2 _ h2⟩
 | mp id=>
   intro hl us h;simp only[RC] at h ⊢
   simp only[V.low,decide_eq_true_eq] at hl
   obtain ⟨b,h,hid,hh⟩:=h
   exact ⟨b,h,hl,fun l mi=> hh l (by rw[Ctx.jU hl] at mi;exact mi)⟩
 | top=> intro _ us h;simpa only[RC] using h
 | nil=> rename_i hl;exact ⟨fun us h=> by simpa only[cg] using h,fun us h=> by simpa only[RW] using h⟩
 | cons v vs h1 h2=>
   rename_i hl
   simp only[V.low.all,abH] at hl
   refine ⟨fun us h=> ?_,fun us h=> ?_⟩
   ·simp only[cg] at h ⊢
    obtain ⟨u1,u2,rfl,k1,k2⟩:=h
    exact ⟨u1,u2,rfl,h1 hl.1 _ k1,(h2 hl.2).1 _ k2⟩
   ·simp only[RW] at h ⊢
    obtain ⟨u,us',rfl,⟨u1,k1,k2⟩,k3⟩:=h
    exact ⟨u,us',rfl,⟨u1,h1 hl.1 _ k1,k2⟩,(h2 hl.2).2 _ k3⟩
theorem sn {c:Ctx} {n:Nat} {w:World} (hn:n≤c.n):∀ {vs:List V} {us:List Value},V.low.all n vs=true→cg L c vs us→cg L (c.cut n w) vs us
 | [],us,_,h=> by simpa only[cg] using h
 | v::vs,us,hl,h=> by
   simp only[V.low.all,abH] at hl
   simp only[cg] at h ⊢
   obtain ⟨u1,u2,rfl,k1,k2⟩:=h
   exact ⟨u1,u2,rfl,pQ hn v hl.1 _ k1,sn hn hl.2 k2⟩
theorem Dy {c:Ctx} {n:Nat} {w:World} (hn:n≤c.n):∀ {es:List (V×V×Nat)} {ms:List MapEntry},(∀e∈es,e.1.low n=true∧e.2.1.low n=true)→lM L c es ms→lM L (c.cut n w) es ms
 | [],[],_,_=> trivial
 | e::es,m::ms,hl,h=> by
   obtain ⟨⟨⟨u1,a1,a2⟩,⟨u2,a3,a4⟩,a5⟩,a6⟩:=h
   obtain ⟨l1,l2⟩:=hl e (by simp)
   exact ⟨⟨⟨u1,pQ hn _ l1 _ a1,a2⟩,⟨u2,pQ hn _ l2 _ a3,a4⟩,a5⟩,Dy hn (fun x hx=> hl x (by simp[hx])) a6⟩
 | [],_::_,_,h=> h.elim
 | _::_,[],_,h=> h.elim
theorem bj.cut {c:Ctx} {n:Nat} {h:Hp} {w:World} (hs:bj L c h w) (hn:n≤c.n) (hl:Dt n h):bj L (c.cut n w) (h.take n) w where
 z b o hb:=by
   cases hz:c.z b with
   | some o'=> rw[Ctx.zC hz] at hb;cases hb;exact hs.z b o hz
   | none=>
     simp only[Ctx.cut,hz] at hb
     split at hb
     ·rename_i hx
      obtain ⟨id,l,_,dp,rfl⟩:=hx
      obtain ⟨k,_,_,h3⟩:=hs.loc id l dp
      rw[hb,h3.real hb]
     ·cases hb
 n:=by rw[abY,←hs.n];exact (acf hn).symm
 loc id l mi:=by
   by_cases hid:id < n
   ·rw[Ctx.jU hid] at mi
    obtain ⟨k,h1,h2,h3⟩:=hs.loc id l mi
    refine ⟨k,by rw[ac2 hid];exact h1,?_,?_⟩
    ·simp only[Ctx.cut,h2]
     rw[if_neg]
     rintro ⟨i,li,hi,hli,he⟩
     have:=hs.inj i id li l hli mi he
     omega
    ·cases k with
     | cells g es=>
       obtain ⟨a1,a2,a3,a4,us,ty,fz,a5,a6,a7,a8⟩:=h3
       exact ⟨a1,a2,a3,a4,us,ty,fz,a5,a6,a7,sn hn (hl id hid _ h1) a8⟩
     | lit g es=>
       obtain ⟨a1,a2,a3,a4,us,ty,fz,a5,a6,a7,a8⟩:=h3
       exact ⟨a1,a2,a3,a4,us,ty,fz,a5,a6,a7,sn hn (hl id hid _ h1) a8⟩
     | map es cl=>
       obtain ⟨a1,a2,ms,a3,a4⟩:=h3
       exact ⟨a1,a2,ms,a3,Dy hn (sj.1 (hl id hid _ h1)) a4⟩
     | gq s pos=> exact h3
     | dead=> exact h3
   ·simp[Ctx.cut,hid] at mi
 live id k hk:=by
   have hid:id < n:=by
     have:=(abF.1 hk).1
     rw[abY] at this;omega
   rw[ac2 hid] at hk
   rw[Ctx.jU hid]
   exact hs.live id k hk
 inj i j li lj hi hj he:=by
   by_cases h1:i < n
   ·by_cases h2:j < n
    ·rw[Ctx.jU h1] at hi
     rw[Ctx.jU h2] at hj
     exact hs.inj i j li lj hi hj he
    ·simp[Ctx.cut,h2] at hj
   ·simp[Ctx.cut,h1] at hi
def O4 (L:cx) (c:Ctx) (n:Nat) (w:World) (v v':V):Prop:=
 v'.ty=v.ty∧v'.aw=v.aw∧(∀us u,wr v us u→wr v' us u)∧∀us,RC L c v us→RC L (c.cut n w) v' us
theorem kY {c:Ctx} {n:Nat} {w:World} (hn:n≤c.n) {v v':V} (h:(if v.low n then some v else none)=some v'):O4 L c n w v v':=by
 split at h
 ·rename_i hl
  cases h
  exact ⟨rfl,rfl,fun _ _ h=> h,fun us h=> pQ hn v hl us h⟩
 ·cases h
theorem S4 (hL:L.OK) {c:Ctx} {n:Nat} {h:Hp} {w:World} (hs:bj L c h w) (hn:n≤c.n):∀v v':V,bD n h v=some v'→O4 L c n w v v':=by
 intro v
 induction v using V.rec (motive_2:=fun vs=>∀vs',bD.all n h vs=some vs'→vs'.length=vs.length∧vs'.map V.ty=vs.map V.ty∧(∀x'∈vs',∃x∈vs,x'.ty=x.ty∧x'.aw=x.aw)∧(∀us,cg L c vs us→cg L (c.cut n w) vs' us)∧(∀us,RW L c vs us→RW L (c.cut n w) vs' us)) with
 | s x=> intro v' hf;exact kY hn hf
 | ptr id path az=> intro v' hf;exact kY hn hf
 | ref id path g off len az=>
   intro v' hf
   simp only[bD] at hf
   split at hf
   ·rename_i hid
    cases hf
    exact ⟨rfl,rfl,fun _ _ h=> h,fun us h=> pQ hn _ (by simp[V.low,hid]) us h⟩
   ·rename_i hid
    split at hf
    case h_2=> cases hf
    split at hf
    case h_2=> cases hf
    rename_i g' es cw
    split at hf
    case isFalse=> cases hf
    rename_i bk
    obtain ⟨rfl,hlen,S5⟩:=bk
    cases hf
    refine ⟨rfl,rfl,fun us u h=> h,fun us hr=> ?_⟩
    simp only[RC] at hr ⊢
    obtain ⟨a,k,rfl,abC,ml,hh⟩:=hr
    obtain ⟨l,hl,cC,cm,hz,_,_,gp,cK,cs,ty,fz,hg,cG,df,fU⟩:=hs.row cw
    obtain ⟨uM,hh2⟩:=hh l hl
    obtain ⟨o,m,ma,ha,hm⟩:=hh2 cC
    simp only[cx.row,Option.some.injEq,Prod.mk.injEq] at ma
    obtain ⟨rfl,jE,rfl⟩:=ma
    obtain ⟨_,nW⟩:=q16z cw
    have Bq:((es.drop off).take len).length=len:=by simp;omega
    refine ⟨some a,k,by rw[Bq],by rw[Bq];exact ml,(fun hf=> by cases hf),fun e he=> cK e (acd (abV he)),?_⟩
    right
    refine ⟨l.bz,0+off * L.aA g',cs,ty,fz,by rw[ha],?_,?_⟩
    ·rw[Ctx.MX (by omega) hl hz];exact hg
    ·refine sn hn S5 ?_
     have:=xw hL fU (fun e he=>(cK e he).1) off len (by omega)
     rw[Bq]
     simp only[nG,ab9]
     have hb:(off+len)* L.aA g'≤es.length * L.aA g':=abW _ (by omega)
     rw[acR] at hb
     rw[acY,acD,acf (by omega)] at this
     exact this
 | aq full g es ih=>
   intro v' hf
   simp only[bD] at hf
   obtain ⟨es',he,rfl⟩:=abD.1 hf
   obtain ⟨h1,h2,h3,h4,h5⟩:=ih es' he
   refine ⟨rfl,rfl,fun us u h=> h,fun us hr=> ?_⟩
   simp only[RC] at hr ⊢
   obtain ⟨a,k,rfl,k1,k2,k3,k4⟩:=hr
   refine ⟨a,k,by rw[h1],by rw[h1];exact k1,(fun hf=> by cases hf),fun e he=> ?_,?_⟩
   ·obtain ⟨x,hx,yk,hx2⟩:=h3 e he
    rw[yk,hx2];exact k3 x hx
   ·rcases k4 with rfl | ⟨b,off,cs,ty,fz,ha,hz,hr⟩
    ·left;exact adn.1 (by simpa using h1)
    ·right;exact ⟨b,off,cs,ty,fz,ha,Ctx.zC hz,by rw[h1];exact h4 _ hr⟩
 | dP v ih=> intro v' hf;exact kY hn hf
 | mp id=> intro v' hf;exact kY hn hf
 | st t fs ih=>
   intro v' hf
   simp only[bD] at hf
   obtain ⟨es',he,rfl⟩:=abD.1 hf
   obtain ⟨h1,h2,h3,h4,h5⟩:=ih es' he
   refine ⟨rfl,rfl,fun us u h=> h,fun us hr=> ?_⟩
   simp only[RC] at hr ⊢
   refine ⟨h4 _ hr.1,by rw[h2];exact hr.2.1,fun f hf=> ?_⟩
   obtain ⟨x,hx,_,hx2⟩:=h3 f hf
   rw[hx2];exact hr.2.2 x hx
 | arr t es ih=>
   intro v' hf
   simp only[bD] at hf
   obtain ⟨es',he,rfl⟩:=abD.1 hf
   obtain ⟨h1,h2,h3,h4,h5⟩:=ih es' he
   refine ⟨rfl,rfl,fun us u h=> h,fun us hr=> ?_⟩
   simp only[RC] at hr ⊢
   obtain ⟨k1,e,k2,k3⟩:=hr
   refine ⟨h4 _ k1,e,by rw[h1];exact k2,fun f hf=> ?_⟩
   obtain ⟨x,hx,yk,hx2⟩:=h3 f hf
   rw[yk,hx2];exact k3 x hx
 | bM vs ih=>
   intro v' hf
   simp only[bD] at hf
   obtain ⟨es',he,rfl⟩:=abD.1 hf
   obtain ⟨h1,h2,h3,h4,h5⟩:=ih es' he
   refine ⟨rfl,rfl,fun us u h=> h,fun us hr=> ?_⟩
   simp only[RC] at hr ⊢
   obtain ⟨ws,k1,k2⟩:=hr
   exact ⟨ws,k1,h5 _ k2⟩
 | iface t v ih=>
   intro v' hf
   simp only[bD] at hf
   obtain ⟨x,he,rfl⟩:=abD.1 hf
   obtain ⟨h1,h2,h3,h4⟩:=ih x he
   refine ⟨rfl,rfl,fun us u h=> h,fun us hr=> ?_⟩
   simp only[RC] at hr ⊢
   obtain ⟨u,us',k1,k2,k3⟩:=hr
   exact ⟨u,us',k1,h4 _ k2,h3 _ _ k3⟩
 | fn f cap ih=> intro v' hf;exact kY hn hf
 | top=> intro v' hf;exact kY hn hf
 | nil=>
   rename_i vs' hf
   simp only[bD.all,Option.some.injEq] at hf
   subst hf
   exact ⟨rfl,rfl,fun x hx=>(by cases hx),fun us h=> by simpa only[cg] using h,fun us h=> by simpa only[RW] using h⟩
 | cons v vs h1 h2=>
   rename_i vs' hf
   simp only[bD.all] at hf
   split at hf
   case h_2=> cases hf
   rename_i x xs hx nS
   cases hf
   obtain ⟨a1,a2,a3,a4⟩:=h1 x hx
   obtain ⟨b1,b2,b3,b4,b5⟩:=h2 xs nS
   refine ⟨by simp[b1],by simp[a1,b2],fun y hy=> ?_,fun us h=> ?_,fun us h=> ?_⟩
   ·rcases ack.1 hy with rfl | hy
    ·exact ⟨v,acE,a1,a2⟩
    ·obtain ⟨z,hz,Df⟩:=b3 y hy
     exact ⟨z,acO _ hz,Df⟩
   ·simp only[cg] at h ⊢
    obtain ⟨u1,u2,rfl,k1,k2⟩:=h
    exact ⟨u1,u2,rfl,a4 _ k1,b4 _ k2⟩
   ·simp only[RW] at h ⊢
    obtain ⟨u,us',rfl,⟨u1,k1,k2⟩,k3⟩:=h
    exact ⟨u,us',rfl,⟨u1,a4 _ k1,a3 _ _ k2⟩,b5 _ k3⟩
end Go.Vm
